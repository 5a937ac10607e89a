/- Draws: what the dealers do (memory and bounds; printed by gen_drk4.py). -/
import Derived.Test.YtacpnphfopmofaaDrK3KG
import Derived.Test.YtacpnphfopmofaaKg1KG
namespace Go.Proofs.Ytacpnphfopmofaa
open Go.RowKit
set_option linter.unusedSimpArgs false
set_option linter.unusedVariables false

theorem dcL_small {gr : GroupD} (hg : OkG gr) (hG : shG gr = true) (cs : List Int) (k : Nat) : AllSmall (dcL gr cs k) := by
  induction k with
  | zero => intro x hx; cases hx
  | succ k ih =>
    intro x hx
    rcases List.mem_append.1 hx with h | h
    · exact ih x h
    · rw [List.mem_singleton.1 h]; exact elB_small hg (elT_pow hg (shG_gen hG) _)
theorem dsL_small {gr : GroupD} (hg : OkG gr) (cs : List Int) (k : Nat) : AllSmall (dsL gr cs k) := by
  have h1 := hg.q1
  have h2 := hg.q2
  have h3 := hg.p2
  induction k with
  | zero => intro x hx; cases hx
  | succ k ih =>
    intro x hx
    rcases List.mem_append.1 hx with h | h
    · exact ih x h
    · rw [List.mem_singleton.1 h]
      have := hornE_bd (by omega : 0 < gr.q) ((k : Int) + 1) cs
      exact ⟨this.1, by omega⟩
theorem box_not_row {w : World} {b B : Nat} {t : TypeId} {xs : List Value} {v : Value} {l : List Int} (ht : t ≠ 3) (h1 : BoxN w b t xs) (h2 : OwnI w B v l) : v.ownBlock ≠ some b := by
  intro e
  unfold BoxN at h1
  rcases h2.2.2 with ⟨h, _⟩ | ⟨g, c, cur, rfl, hb, hg, _⟩
  · rw [h] at e; cases e
  · have q1 : some g = some b := e
    cases q1
    rw [hg] at h1
    injection h1 with h1
    injection h1 with h1 h2 h3
    exact ht h2.symm
set_option maxRecDepth 100000 in
set_option maxHeartbeats 4000000 in
theorem spec_PlayDealers (gr : GroupD) (cv : Value) (cs : List (List Int)) (fv : Value) (fs : List FaultD) (w : World) (hc : RdL kInts w cv cs) (hf : RdR rFault w fv fs) (hfl : fs.length ≤ 5) :
    Calls Try.prog 171 #[.agg #[.int .i64 gr.p, .int .i64 gr.q, .int .i64 gr.g], cv, fv] w fun e w' => (∃ lv av b l an, e = .returned (.tuple #[lv, av, .bool b]) ∧ OwnZ w' w.heap.size (.slice none 0 0) lv l ∧ RowS w' w.heap.size av an ∧ (b = true → 1 ≤ an.length ∧ an.length ≤ 7)) ∧ Below w.heap.size w w' := by
  obtain ⟨cva, cn, cvc, rfl⟩ := hc.shape
  have Ec := Lib.hid hc.len
  have Hc := Lib.hid hc
  obtain ⟨fva, fn, fvc, rfl⟩ := hf.shape
  have Ef := Lib.hid hf.len
  have Hf := Lib.hid hf
  have hfn5 : fn ≤ 5 := by have := Ef.out; omega
  clear hc hf hfl
  obtain ⟨W, hW⟩ : ∃ W, W = w.alloc (.cells #[.int .i64 gr.p, .int .i64 gr.q, .int .i64 gr.g] 24) := ⟨_, rfl⟩
  have HB : Hid (Below w.heap.size w W) := by unfold Hid; rw [hW]; (repeat (first | exact Below.refl _ _ | assumption | refine Below.drew ?_ | refine Below.alloc ?_ (by first | (simp; done) | (simp; omega)) _ | refine Below.setCell ?_ (by first | (simp; done) | (simp; omega)) _))
  have HGB : Hid (BoxN W w.heap.size 24 [.int .i64 gr.p, .int .i64 gr.q, .int .i64 gr.g]) := by unfold Hid; rw [hW]; exact BoxN.new w [.int .i64 gr.p, .int .i64 gr.q, .int .i64 gr.g] _
  have hsW : w.heap.size < W.heap.size := by rw [hW]; simp
  go_enter Try.func171, Try.ntmps171
  go_wp2_with fail
  rw [← hW]
  clear hW
  try (go_wp2_with fail)
  refine (spec_sGroup gr W).mono ?_
  rintro e w1 ⟨rfl, hb1⟩
  have hs1 := hb1.size
  have HB1 := Lib.hid (HB.out.trans (hb1.mono HB.out.size))
  have HBW := Lib.hid hb1
  have HG1 := Lib.hid (HGB.out.below hb1)
  clear hb1
  obtain ⟨q, hq⟩ : ∃ q, shG gr = q := ⟨_, rfl⟩
  rw [hq]
  have HQ := Lib.hid hq
  clear hq
  cases q with
  | false =>
    go_wp2_with fail
    go_ret3
    exact ⟨⟨_, _, _, [], [], rfl, OwnZ.nil _ _ _, RowS.nil _ _, by simp⟩, HB1.out⟩
  | true =>
  have HG : Hid (OkG gr) := shG_ok HQ.out
  by_cases hcn : 1 ≤ cn ∧ cn ≤ 7
  rotate_left
  · have D1 : Hid (decide (1 ≤ (cn : Int) ∧ (cn : Int) ≤ 7) = false) := decide_eq_false (by omega)
    go_wp2_with (first | (go_at_call 106; refine (spec_l1In _ _ _ _).mono ?_; rintro e u ⟨rfl, rfl⟩; (first | rw [D1.out] | fail)) | fail)
    go_ret3
    exact ⟨⟨_, _, _, [], [], rfl, OwnZ.nil _ _ _, RowS.nil _ _, by simp⟩, HB1.out⟩
  obtain ⟨hcn1, hcn7⟩ := hcn
  have D1 : Hid (decide (1 ≤ (cn : Int) ∧ (cn : Int) ≤ 7) = true) := decide_eq_true (by omega)
  obtain ⟨cb, co, rfl, vs, hrv⟩ := Hc.out.at_ (by omega)
  have HRV := Lib.hid hrv
  have HZ0 : Hid (0 < cs.length) := by unfold Hid; have := Ec.out; omega
  obtain ⟨k0, i0⟩ := hrv 0 HZ0.out
  replace i0 : Ints w (vs 0) (cs[0]'HZ0.out) := i0
  obtain ⟨a0, n0, c0, e0⟩ := i0.shape
  rw [e0, Nat.add_zero] at k0
  have K0 := Lib.hid k0
  clear hrv k0 i0 e0
  have y0 := box_at K0.out HB1.out
  by_cases hc0 : 1 ≤ n0 ∧ n0 ≤ cn
  rotate_left
  · have D2 : Hid (decide (1 ≤ (n0 : Int) ∧ (n0 : Int) ≤ (cn : Int)) = false) := decide_eq_false (by omega)
    have b0 : (0 : Int) < (cn : Int) := by omega
    go_wp2_with (first | (go_at_call 106; refine (spec_l1In _ _ _ _).mono ?_; rintro e u ⟨rfl, rfl⟩; (first | rw [D1.out] | rw [D2.out] | fail)) | fail)
    go_ret3
    exact ⟨⟨_, _, _, [], [], rfl, OwnZ.nil _ _ _, RowS.nil _ _, by simp⟩, HB1.out⟩
  obtain ⟨hn01, hn0c⟩ := hc0
  have D2 : Hid (decide (1 ≤ (n0 : Int) ∧ (n0 : Int) ≤ (cn : Int)) = true) := decide_eq_true (by omega)
  have b0 : (0 : Int) < (cn : Int) := by omega
  have b20 : decide ((20 : Int) < (fn : Int)) = false := decide_eq_false (by omega)
  go_wp2_with (first | (go_at_call 106; refine (spec_l1In _ _ _ _).mono ?_; rintro e u ⟨rfl, rfl⟩; (first | rw [D1.out] | rw [D2.out] | fail)) | fail)
  clear y0
  have HZS : Hid (OwnZ w1 W.heap.size (.slice none 0 0) (.slice none 0 0) []) := OwnZ.nil _ _ _
  go_loopg [10, 48] cn (fun gk ov iv wr => ∃ (k : Nat) (oa : Option Addr) (oc : Nat) (ds : List DealingD), k + gk = cn ∧ iv = .int .i64 (k : Int) ∧ ov = .slice oa k oc ∧ Hid (OwnZ wr W.heap.size (.slice none 0 0) (.slice oa k oc) ds) ∧ Hid (ds.length = k ∧ DsB cn ds) ∧ Hid (∀ j (h : j < cs.length), j < k → (cs[j]'h).all (expB gr) = true) ∧ Hid (Below W.heap.size W wr))
  case atStart => exact ⟨0, none, 0, [], by omega, rfl, rfl, HZS, ⟨rfl, fun d hd => by cases hd⟩, fun j h hj => by omega, HBW⟩
  case round =>
    obtain ⟨k, oa, oc, ds, hkg, rfl, rfl, HZ, HDS, HEX, HBr⟩ := hrel
    have HBw := Lib.hid (HB.out.trans (HBr.out.mono HB.out.size))
    have hsr := HBr.out.size
    have HGr := Lib.hid (HGB.out.below HBr.out)
    by_cases hlt : k < cn
    · have hgk : cn - (k + 1) < gk := by omega
      have hgk2 : k + 1 + (cn - (k + 1)) = cn := by omega
      have b2 : decide (k < cn) = true := decide_eq_true hlt
      have HK : Hid (k < cs.length) := by unfold Hid; have := Ec.out; omega
      obtain ⟨kr, ir⟩ := HRV.out k HK.out
      replace ir : Ints w (vs k) (cs[k]'HK.out) := ir
      obtain ⟨ra, rn, rc, er⟩ := ir.shape
      rw [er] at kr ir
      have HRW := Lib.hid (ir.below HBw.out)
      have hrn := Lib.hid ir.len
      have y1 := box_at kr HBw.out
      have y0 := box_at K0.out HBw.out
      have g0 := HGr.out.cell (i := 0) rfl
      have g1 := HGr.out.cell (i := 1) rfl
      have g2 := HGr.out.cell (i := 2) rfl
      clear kr ir er
      have bk0 : (0 : Int) ≤ (k : Int) := by omega
      have bk1 : (k : Int) < (cn : Int) := by omega
      have hwk : IntKind.i64.wrap ((k : Int) + 1) = (k : Int) + 1 := IntWalk.i64_in _ (by omega)
      by_cases hne : rn = n0
      rotate_left
      · have e1 : ((rn : Int) == (n0 : Int)) = false := by rw [beq_eq_false_iff_ne]; omega
        have e2 : ¬ rn = n0 := hne
        have e3 : (rn == n0) = false := by rw [beq_eq_false_iff_ne]; exact hne
        have e4 : decide (rn = n0) = false := decide_eq_false hne
        have e5 : (rn != n0) = true := by rw [bne_iff_ne]; exact hne
        have e6 : ((rn : Int) != (n0 : Int)) = true := by rw [bne_iff_ne]; omega
        go_wp2_with fail
        go_ret3
        exact ⟨⟨_, _, _, [], [], rfl, OwnZ.nil _ _ _, RowS.nil _ _, by simp⟩, HBw.out⟩
      subst hne
      have bnn : (rn == rn) = true := beq_self_eq_true _
      go_wp2_with fail
      clear y0 y1 g0 g1 g2
      refine (spec_gExps gr _ (cs[k]'HK.out) wr HG.out HRW.out).mono ?_
      rintro e w2 ⟨rfl, hb2⟩
      have hs2 := hb2.size
      have HB2 := Lib.hid (HBr.out.trans (hb2.mono hsr))
      have HB2w := Lib.hid (HBw.out.trans (hb2.mono (by omega)))
      have HRW2 := Lib.hid (HRW.out.below hb2)
      have HZ2 := Lib.hid (HZ.out.below hb2)
      have HG2 := Lib.hid (HGr.out.below hb2)
      clear hb2 HRW
      obtain ⟨q, hq⟩ : ∃ q, (cs[k]'HK.out).all (expB gr) = q := ⟨_, rfl⟩
      rw [hq]
      have HQE := Lib.hid hq
      clear hq
      cases q with
      | false =>
        go_wp2_with fail
        go_ret3
        exact ⟨⟨_, _, _, [], [], rfl, OwnZ.nil _ _ _, RowS.nil _ _, by simp⟩, HB2w.out⟩
      | true =>
      have g0 := HG2.out.cell (i := 0) rfl
      have g1 := HG2.out.cell (i := 1) rfl
      have g2 := HG2.out.cell (i := 2) rfl
      have HEL : Hid (∀ y ∈ cs[k]'HK.out, 0 ≤ y ∧ y ≤ 2000000010) := fun y hy => by
        have h := expB_bd (List.all_eq_true.1 HQE.out y hy)
        have := HG.out.q2
        have := HG.out.p2
        omega
      go_wp2_with fail
      clear g0 g1 g2
      refine (spec_sDeal gr _ (cs[k]'HK.out) cn w2 HG.out HRW2.out HEL.out (by omega) (by have := hrn.out; omega)).mono ?_
      rintro e w3 ⟨⟨x, y, rfl, hx, hy, hxy⟩, hb3⟩
      have hs3 := hb3.size
      have HX3 := Lib.hid (hx.mono (show W.heap.size ≤ w2.heap.size by omega))
      have HY3 := Lib.hid (hy.mono (show W.heap.size ≤ w2.heap.size by omega))
      obtain ⟨xa, xn, xc, rfl⟩ := hx.ints.shape
      obtain ⟨ya, yn, yc, rfl⟩ := hy.ints.shape
      have HB3 := Lib.hid (HB2.out.trans (hb3.mono (by omega)))
      have HZ3 := Lib.hid (HZ2.out.below hb3)
      clear hx hy hxy hb3
      have hbN := (Below.refl w3.heap.size w3).alloc (Nat.le_refl _) (.cells #[.slice xa xn xc, .slice ya yn yc] 57)
      have HP := Lib.hid (BoxN.new w3 [.slice xa xn xc, .slice ya yn yc] 57)
      have hW3 : W.heap.size ≤ (w3.alloc (.cells #[.slice xa xn xc, .slice ya yn yc] 57)).heap.size := by simp; omega
      go_wp2_with (at_builtin; refine wpList_append_Z (d := ⟨dcL gr (cs[k]'HK.out) (cs[k]'HK.out).length, dsL gr (cs[k]'HK.out) cn⟩) (v := .slice oa k oc) (z := .slice none 0 0) (ds := ds) (l := []) rfl _ _ rfl w3.heap.size (k + 1) (.slice xa xn xc) (.slice ya yn yc) rfl (HZ3.out.below hbN) (OwnI.nil _ _) (HX3.out.below hbN) (HY3.out.below hbN) (parted_nil _) (parted_nil _) rfl (HP.out.cell (i := 0) rfl) (HP.out.cell (i := 1) rfl) hW3 (by have := HDS.out.1; omega) (by rw [HDS.out.1]) ?_; intro a7 c7 w7 hZ7 hO7 hg7)
      have HB7 : Hid (Below W.heap.size (w3.alloc (.cells #[.slice xa xn xc, .slice ya yn yc] 57)) w7) := (Below.refl _ _).grown hg7 hW3 (fun j hj => (HZ3.out.lt j hj).1)
      go_roundg (cn - (k + 1))
      case measure => exact hgk
      case rel => exact ⟨k + 1, a7, c7, _, hgk2, by go_num, rfl, hZ7, ⟨by rw [List.length_append, HDS.out.1]; rfl, fun d hd => by
        rcases List.mem_append.1 hd with h | h
        · exact HDS.out.2 d h
        · rw [List.mem_singleton.1 h]
          refine ⟨dcL_small HG.out HQ.out _ _, dsL_small HG.out _ _, ?_, dsL_len _ _ _⟩
          show (dcL _ _ _).length ≤ 7
          rw [dcL_len]; have := hrn.out; omega⟩, fun j h hj => by
        by_cases e : j = k
        · subst e; exact HQE.out
        · exact HEX.out j h (by omega), (HB3.out.trans (hbN.mono (by omega))).trans HB7.out⟩
    · obtain rfl : cn = k := by omega
      clear HZS HG1 HBW
      have b2 : decide (cn < cn) = false := decide_eq_false (by omega)
      have HCB : Hid (∀ j (h : j < cs.length), ∀ y ∈ cs[j]'h, 0 ≤ y ∧ y ≤ 2000000010) := fun j h y hy => by
        have h := expB_bd (List.all_eq_true.1 (HEX.out j h (by have := Ec.out; omega)) y hy)
        have := HG.out.q2
        have := HG.out.p2
        omega
      clear HEX
      obtain ⟨lb, lc, x0, z0, e, hlb, hlb2, -⟩ := HZ.out.get (k := 0) (by have := HDS.out.1; omega)
      rw [HDS.out.1] at e
      cases e
      obtain ⟨SB, hSB⟩ : ∃ b, b = wr.heap.size := ⟨_, rfl⟩
      have hmk := fun u => make_bools cn (by omega) u
      obtain ⟨w2, hw2⟩ : ∃ V, V = wr.alloc (.cells (madeCells #[.bool false] cn) 4) := ⟨_, rfl⟩
      have hb2 : Below wr.heap.size wr w2 := by rw [hw2]; exact (Below.refl _ _).alloc (Nat.le_refl _) _
      have HRB : Hid (RowB w2 W.heap.size SB cn) := by
        unfold Hid; rw [hw2, hSB]
        obtain ⟨bs, h1, h2⟩ := RowB.new wr cn (by omega)
        exact ⟨bs, h1, ownsRow_mono h2 hsr⟩
      have HZ2 := Lib.hid (HZ.out.below hb2)
      have HB2 := Lib.hid (HBr.out.trans (hb2.mono hsr))
      obtain ⟨wR, rfl⟩ : ∃ u, u = wr := ⟨_, rfl⟩
      obtain ⟨gR, rfl⟩ : ∃ u, u = gk := ⟨_, rfl⟩
      go_upto_region 13 with fail
      rw [← hw2, ← hSB]
      clear hw2 hSB hmk hb2 hkg
      go_wp2_with fail
      go_loopg [77] fn (fun gk iv wr => ∃ (k : Nat) (ds : List DealingD), k + gk = fn ∧ iv = .int .i64 (k : Int) ∧ Hid (OwnZ wr W.heap.size (.slice none 0 0) (.slice (some ⟨lb, 0, none⟩) cn oc) ds) ∧ Hid (ds.length = cn ∧ DsB cn ds) ∧ Hid (RowB wr W.heap.size SB cn) ∧ Hid (Below W.heap.size W wr))
      case atStart => exact ⟨0, ds, by omega, rfl, HZ2, HDS, HRB, HB2⟩
      case round =>
        clear HZ2 HDS HRB HB2 HZ HBw HGr HBr
        obtain ⟨k, ds, hkg, rfl, HZ, HDS, HRB, HBr⟩ := hrel
        have HBw := Lib.hid (HB.out.trans (HBr.out.mono HB.out.size))
        have hsr := HBr.out.size
        have HGr := Lib.hid (HGB.out.below HBr.out)
        by_cases hlt : k < fn
        · have hgk : fn - (k + 1) < gk := by omega
          have hgk2 : k + 1 + (fn - (k + 1)) = fn := by omega
          have b2 : decide (k < fn) = true := decide_eq_true hlt
          have HK : Hid (k < fs.length) := by unfold Hid; have := Ef.out; omega
          obtain ⟨fb, fo, rfl, q0, q1, q2, q3, i0, i1, i2⟩ := RdFa.get Hf.out HK.out
          obtain ⟨fd, hfd⟩ : ∃ z, (fs[k]'HK.out).d = z := ⟨_, rfl⟩
          obtain ⟨ft, hft⟩ : ∃ z, (fs[k]'HK.out).t = z := ⟨_, rfl⟩
          obtain ⟨fx, hfx⟩ : ∃ z, (fs[k]'HK.out).x = z := ⟨_, rfl⟩
          obtain ⟨fa, hfa⟩ : ∃ z, (fs[k]'HK.out).a = z := ⟨_, rfl⟩
          rw [hfd] at q0 i0
          rw [hft] at q1 i1
          rw [hfx] at q2 i2
          rw [hfa] at q3
          clear hfd hft hfx hfa
          have HIX := Lib.hid i2
          have e0 := box_at q0 HBw.out
          have e1 := box_at q1 HBw.out
          have e2 := box_at q2 HBw.out
          have e3 := box_at q3 HBw.out
          clear q0 q1 q2 q3 i0 i1 i2
          have bk0 : (0 : Int) ≤ (k : Int) := by omega
          have bk1 : (k : Int) < (fn : Int) := by omega
          have hwk : IntKind.i64.wrap ((k : Int) + 1) = (k : Int) + 1 := IntWalk.i64_in _ (by omega)
          obtain ⟨FB, hFB⟩ : ∃ b, b = wr.heap.size := ⟨_, rfl⟩
          obtain ⟨V, hV⟩ : ∃ V, V = wr.alloc (.cells #[.int .i64 fd, .int .i64 ft, .int .i64 fx, .bool fa] 191) := ⟨_, rfl⟩
          have hbV : Below wr.heap.size wr V := by rw [hV]; exact (Below.refl _ _).alloc (Nat.le_refl _) _
          have HFB : Hid (BoxN V FB 191 [.int .i64 fd, .int .i64 ft, .int .i64 fx, .bool fa]) := by unfold Hid; rw [hV, hFB]; exact BoxN.new wr [.int .i64 fd, .int .i64 ft, .int .i64 fx, .bool fa] _
          have hFB1 : wr.heap.size ≤ FB := Nat.le_of_eq hFB.symm
          have hFB2 : FB ≤ wr.heap.size := Nat.le_of_eq hFB
          go_upto_region 16 with fail
          rw [← hV, ← hFB]
          have HZV := Lib.hid (HZ.out.below hbV)
          have HRV2 := Lib.hid (HRB.out.below hbV)
          have HBV := Lib.hid (HBr.out.trans (hbV.mono hsr))
          have HBVw := Lib.hid (HBw.out.trans (hbV.mono (by omega)))
          have HGV := Lib.hid (HGr.out.below hbV)
          have hsV := hbV.size
          clear hV hbV hFB e0 e1 e2 e3
          have f0 := HFB.out.cell (i := 0) rfl
          have f1 := HFB.out.cell (i := 1) rfl
          have f2 := HFB.out.cell (i := 2) rfl
          have f3 := HFB.out.cell (i := 3) rfl
          have g0 := HGV.out.cell (i := 0) rfl
          have g1 := HGV.out.cell (i := 1) rfl
          have g2 := HGV.out.cell (i := 2) rfl
          by_cases hd1 : 1 ≤ fd ∧ fd ≤ (cn : Int)
          rotate_left
          · have D1 : Hid (decide (1 ≤ fd ∧ fd ≤ (cn : Int)) = false) := decide_eq_false hd1
            go_wp2_with (first | (go_at_call 106; refine (spec_l1In _ _ _ _).mono ?_; rintro e u ⟨rfl, rfl⟩; (first | rw [D1.out] | fail)) | fail)
            go_ret3
            exact ⟨⟨_, _, _, [], [], rfl, OwnZ.nil _ _ _, RowS.nil _ _, by simp⟩, HBVw.out⟩
          have D1 : Hid (decide (1 ≤ fd ∧ fd ≤ (cn : Int)) = true) := decide_eq_true hd1
          by_cases ht1 : 1 ≤ ft ∧ ft ≤ (cn : Int)
          rotate_left
          · have D2 : Hid (decide (1 ≤ ft ∧ ft ≤ (cn : Int)) = false) := decide_eq_false ht1
            go_wp2_with (first | (go_at_call 106; refine (spec_l1In _ _ _ _).mono ?_; rintro e u ⟨rfl, rfl⟩; (first | rw [D1.out] | rw [D2.out] | fail)) | fail)
            go_ret3
            exact ⟨⟨_, _, _, [], [], rfl, OwnZ.nil _ _ _, RowS.nil _ _, by simp⟩, HBVw.out⟩
          have D2 : Hid (decide (1 ≤ ft ∧ ft ≤ (cn : Int)) = true) := decide_eq_true ht1
          obtain ⟨V2, hV2⟩ : ∃ V2, V2 = V.alloc (.cells #[.int .i64 fx] 3) := ⟨_, rfl⟩
          have HL2 : Hid (Ints V2 (.slice (some ⟨V.heap.size, 0, none⟩) 1 1) [fx]) := by unfold Hid; rw [hV2]; exact Ints.lit1 V HIX.out
          have hbV2 : Below V.heap.size V V2 := by rw [hV2]; exact (Below.refl _ _).alloc (Nat.le_refl _) _
          go_wp2_with (first | (go_at_call 106; refine (spec_l1In _ _ _ _).mono ?_; rintro e u ⟨rfl, rfl⟩; (first | rw [D1.out] | rw [D2.out] | fail)) | fail)
          rw [← hV2]
          clear hV2
          refine (spec_gExps gr _ [fx] V2 HG.out HL2.out).mono ?_
          rintro e V3 ⟨rfl, hb3⟩
          have hb3' := hbV2.trans (hb3.mono hbV2.size)
          have hs3 := hb3'.size
          have HB3 := Lib.hid (HBV.out.trans (hb3'.mono (by omega)))
          have HB3w := Lib.hid (HBVw.out.trans (hb3'.mono (by omega)))
          have HZ3 := Lib.hid (HZV.out.below hb3')
          have HR3 := Lib.hid (HRV2.out.below hb3')
          have HG3 := Lib.hid (HGV.out.below hb3')
          have HF3 := Lib.hid (HFB.out.below hb3')
          clear hb3 hb3' hbV2 f0 f1 f2 f3 g0 g1 g2
          obtain ⟨q, hq⟩ : ∃ q, [fx].all (expB gr) = q := ⟨_, rfl⟩
          rw [hq]
          have HQE := Lib.hid hq
          clear hq
          cases q with
          | false =>
            go_wp2_with fail
            go_ret3
            exact ⟨⟨_, _, _, [], [], rfl, OwnZ.nil _ _ _, RowS.nil _ _, by simp⟩, HB3w.out⟩
          | true =>
          have HXB : Hid (0 ≤ fx ∧ fx < gr.q) := by
            unfold Hid
            have h := HQE.out
            have h2 := expB_bd (List.all_eq_true.1 h fx (by simp))
            omega
          obtain ⟨kd, hkd⟩ : ∃ j : Nat, (j : Int) + 1 = fd := ⟨(fd - 1).toNat, by omega⟩
          obtain ⟨kt, hkt⟩ : ∃ j : Nat, (j : Int) + 1 = ft := ⟨(ft - 1).toNat, by omega⟩
          subst hkd hkt
          have hkdc : kd < cn := by omega
          have hktc : kt < cn := by omega
          have HKD : Hid (kd < ds.length) := by unfold Hid; have := HDS.out.1; omega
          obtain ⟨lb', lc', xv, yv, e, _, _, l0, l1, ox, oy, hyb⟩ := HZ3.out.get HKD.out
          rw [HDS.out.1] at e
          cases e
          have HSL : Hid ((ds[kd]'HKD.out).s.length = cn) := (HDS.out.2 _ (List.getElem_mem HKD.out)).2.2.2
          have HSS : Hid (AllSmall (ds[kd]'HKD.out).s) := (HDS.out.2 _ (List.getElem_mem HKD.out)).2.1
          obtain ⟨ya, yc, rfl⟩ := oy.shape
          rw [HSL.out] at oy l1 hyb
          obtain ⟨yb, rfl, hyb1, _, hcy⟩ := oy.at_ (by rw [HSL.out]; omega)
          obtain ⟨yc', fy⟩ := hcy kt hktc
          have HSV : Hid (Small (nth (ds[kd]'HKD.out).s kt)) := HSS.out.at_ kt
          obtain ⟨sv, hsv⟩ : ∃ z, nth (ds[kd]'HKD.out).s kt = z := ⟨_, rfl⟩
          rw [hsv] at yc' HSV
          clear hsv hcy
          have yc2 := yc'
          have HOY := Lib.hid oy
          have hyl : yb ≠ lb := hyb yb rfl
          clear ox oy hyb yc'
          have f0 := HF3.out.cell (i := 0) rfl
          have f1 := HF3.out.cell (i := 1) rfl
          have f2 := HF3.out.cell (i := 2) rfl
          have f3 := HF3.out.cell (i := 3) rfl
          have g1 := HG3.out.cell (i := 1) rfl
          have bd0 : (0 : Int) ≤ (kd : Int) := by omega
          have bd1 : (kd : Int) < (cn : Int) := by omega
          have bt0 : (0 : Int) ≤ (kt : Int) := by omega
          have bt1 : (kt : Int) < (cn : Int) := by omega
          have hwd : IntKind.i64.wrap ((kd : Int) + 1 - 1) = (kd : Int) := by rw [show (kd : Int) + 1 - 1 = kd by omega]; exact IntWalk.i64_in _ (by omega)
          have hwt : IntKind.i64.wrap ((kt : Int) + 1 - 1) = (kt : Int) := by rw [show (kt : Int) + 1 - 1 = kt by omega]; exact IntWalk.i64_in _ (by omega)
          have hwd2 : IntKind.i64.wrap (kd : Int) = (kd : Int) := IntWalk.i64_in _ (by omega)
          have hwt2 : IntKind.i64.wrap (kt : Int) = (kt : Int) := IntWalk.i64_in _ (by omega)
          go_upto_region 19 with fail
          have yc := yc2
          obtain ⟨sv0, sv1⟩ := HSV.out
          obtain ⟨fx0, fx1⟩ := HXB.out
          have gq2 := HG.out.q2
          have gp2 := HG.out.p2
          have gq1 := HG.out.q1
          have etm : Int.tmod (sv + fx) gr.q = (sv + fx) % gr.q := Int.tmod_eq_emod_of_nonneg (by omega)
          have s0 : 0 ≤ (sv + fx) % gr.q := Int.emod_nonneg _ (by omega)
          have s1 : (sv + fx) % gr.q < gr.q := Int.emod_lt_of_pos _ (by omega)
          have ewa : IntKind.i64.wrap (sv + fx) = sv + fx := IntWalk.i64_in _ (by omega)
          have ewb : IntKind.i64.wrap ((sv + fx) % gr.q) = (sv + fx) % gr.q := IntWalk.i64_in _ (by omega)
          have hpz : ¬ gr.q = 0 := by omega
          have hpz2 : (gr.q == 0) = false := by rw [beq_eq_false_iff_ne]; omega
          refine wp_region_noPanic ?_
          refine wp_region_P (fun w' => w'.cell? ⟨w.heap.size, 1, none⟩ = some (.int .i64 gr.q) ∧ w'.cell? ⟨FB, 0, none⟩ = some (.int .i64 ((kd : Int) + 1)) ∧ w'.cell? ⟨FB, 1, none⟩ = some (.int .i64 ((kt : Int) + 1)) ∧ w'.cell? ⟨FB, 2, none⟩ = some (.int .i64 fx) ∧ w'.cell? ⟨FB, 3, none⟩ = some (.bool fa) ∧ w'.cell? ⟨yb, kt, none⟩ = some (.int .i64 sv)) 20 [(0, []), (1, []), (2, [0]), (3, [0]), (4, []), (5, []), (6, [0]), (7, [0]), (8, [3, 0]), (9, [0]), (10, []), (11, [0]), (12, [2, 0]), (13, []), (14, [0]), (15, [2, 0]), (16, [15, 12])] [17] (by kernel_rfl) (by kernel_rfl) (by kernel_rfl) rfl (fun _ _ _ _ h => h) (fun w' h => ⟨box_at g1 h, box_at f0 h, box_at f1 h, box_at f2 h, box_at f3 h, box_at yc h⟩) ?_
          simp only [pickP, pickN, List.getElem?_cons_zero, List.getElem?_cons_succ]
          iterate 17 (refine' chainP_read _ rfl rfl (fun w' hS' => ?_) ?_; rotate_left; · (simp only [lookP, allP, Act.put, List.getElem?_cons_zero, List.getElem?_cons_succ, List.setIfInBounds_toArray, List.set_cons_zero, List.set_cons_succ]; (try dsimp only at hS'); go_simp; (try with_reducible rfl)))
          refine chainP_nil (fun V4 hS' => ?_)
          simp only [allP, Act.put, List.setIfInBounds_toArray, List.set_cons_zero, List.set_cons_succ]
          have hb4 := hS'.1
          have hs4 := hb4.size
          clear hS' f0 f1 f2 f3 g1 yc yc2 l0 l1 fy
          have HB4 := Lib.hid (HB3.out.trans (hb4.mono (by omega)))
          have HZ4 := Lib.hid (HZ3.out.below hb4)
          have HR4 := Lib.hid (HR3.out.below hb4)
          have HF4 := Lib.hid (HF3.out.below hb4)
          have HO4 := Lib.hid (HOY.out.below hb4)
          obtain ⟨_, e, _, _, hcy⟩ := HO4.out.at_ (by rw [HSL.out]; omega)
          cases e
          obtain ⟨yc4, fy4⟩ := hcy kt hktc
          clear hcy
          obtain ⟨X, hX⟩ : ∃ X, (sv + fx) % gr.q = X := ⟨_, rfl⟩
          rw [hX] at etm s0 s1 ewb
          have HXS : Hid (Small X) := ⟨by omega, by omega⟩
          have HX6 : Hid (I64 X) := ⟨by omega, by omega⟩
          have hFW : yb ≠ FB := fun e => box_not_row (by decide) HF4.out HO4.out (by rw [← e]; rfl)
          have HSBy := HR4.out.lt
          have HF5 : Hid (BoxN (V4.setCell ⟨yb, kt, none⟩ (.int .i64 X)) FB 191 [.int .i64 ((kd : Int) + 1), .int .i64 ((kt : Int) + 1), .int .i64 fx, .bool fa]) := HF4.out.other hFW kt (.int .i64 X)
          have HR5 : Hid (RowB (V4.setCell ⟨yb, kt, none⟩ (.int .i64 X)) W.heap.size SB cn) := HR4.out.ints HO4.out rfl kt (.int .i64 X)
          have HB5 : Hid (Below W.heap.size W (V4.setCell ⟨yb, kt, none⟩ (.int .i64 X))) := HB4.out.setCell (p := ⟨yb, kt, none⟩) (by show W.heap.size ≤ yb; omega) _
          obtain ⟨ds5, hZ5, hl5, hB5⟩ := HZ4.out.poke HDS.out.2 yb kt (.inr (fun e => hyl (by cases e; rfl))) HXS.out HX6.out
          have HZ5 := Lib.hid hZ5
          have HDS5 : Hid (ds5.length = cn ∧ DsB cn ds5) := ⟨by rw [hl5]; exact HDS.out.1, hB5⟩
          clear hZ5 hl5 hB5 HZ4 HR4 HF4 HB4 HO4
          obtain ⟨V5, hV5⟩ : ∃ V5, V5 = V4.setCell ⟨yb, kt, none⟩ (.int .i64 X) := ⟨_, rfl⟩
          have hs5 : V4.heap.size ≤ V5.heap.size := by rw [hV5]; simp
          rw [← hV5] at HF5 HR5 HB5 HZ5
          go_wp2_with fail
          refine NoPanic.normal ?_
          go_upto_region 20 with fail
          rw [← hV5]
          clear hV5 yc4 fy4
          obtain ⟨sb, sc, fsc⟩ := HR5.out.cell hkdc
          have f0 := HF5.out.cell (i := 0) rfl
          have f1 := HF5.out.cell (i := 1) rfl
          have f2 := HF5.out.cell (i := 2) rfl
          have f3 := HF5.out.cell (i := 3) rfl
          cases sb with
          | true =>
            refine wp_region_noPanic ?_
            refine wp_region_P (fun w' => w'.cell? ⟨FB, 0, none⟩ = some (.int .i64 ((kd : Int) + 1)) ∧ w'.cell? ⟨FB, 1, none⟩ = some (.int .i64 ((kt : Int) + 1)) ∧ w'.cell? ⟨FB, 2, none⟩ = some (.int .i64 fx) ∧ w'.cell? ⟨FB, 3, none⟩ = some (.bool fa) ∧ w'.cell? ⟨SB, kd, none⟩ = some (.bool true)) 19 [(0, []), (1, []), (2, [0]), (3, [0]), (4, []), (5, []), (6, [0]), (7, [0]), (8, [3, 0]), (9, [0]), (10, [0]), (11, [0]), (12, [0, 1]), (13, [0, 2]), (14, [3, 0]), (15, [14, 11])] [16] (by kernel_rfl) (by kernel_rfl) (by kernel_rfl) rfl (fun _ _ _ _ h => h) (fun w' h => ⟨box_at f0 h, box_at f1 h, box_at f2 h, box_at f3 h, box_at sc h⟩) ?_
            simp only [pickP, pickN, List.getElem?_cons_zero, List.getElem?_cons_succ]
            iterate 11 (refine' chainP_read _ rfl rfl (fun w' hS' => ?_) ?_; rotate_left; · (simp only [lookP, allP, Act.put, List.getElem?_cons_zero, List.getElem?_cons_succ, List.setIfInBounds_toArray, List.set_cons_zero, List.set_cons_succ]; (try dsimp only at hS'); go_simp; (try with_reducible rfl)))
            -- 11: fieldAddr 191 t15 3
            refine chainP_skip (d := (some 136)) rfl (fun w' hS' => ?_) ?_
            · simp only [lookP, allP, Act.put, List.getElem?_cons_zero, List.getElem?_cons_succ, List.setIfInBounds_toArray, List.set_cons_zero, List.set_cons_succ]
              kernel_rfl
            -- 12: load 4 t136
            refine chainP_skip (d := (some 137)) rfl (fun w' hS' => ?_) ?_
            · simp only [lookP, allP, Act.put, List.getElem?_cons_zero, List.getElem?_cons_succ, List.setIfInBounds_toArray, List.set_cons_zero, List.set_cons_succ]
              kernel_rfl
            -- 13: unOp Unnot 4 t137
            refine chainP_skip (d := (some 138)) rfl (fun w' hS' => ?_) ?_
            · simp only [lookP, allP, Act.put, List.getElem?_cons_zero, List.getElem?_cons_succ, List.setIfInBounds_toArray, List.set_cons_zero, List.set_cons_succ]
              kernel_rfl
            iterate 2 (refine' chainP_read _ rfl rfl (fun w' hS' => ?_) ?_; rotate_left; · (simp only [lookP, allP, Act.put, List.getElem?_cons_zero, List.getElem?_cons_succ, List.setIfInBounds_toArray, List.set_cons_zero, List.set_cons_succ]; (try dsimp only at hS'); go_simp; (try with_reducible rfl)))
            refine chainP_nil (fun V6 hS' => ?_)
            simp only [allP, Act.put, List.setIfInBounds_toArray, List.set_cons_zero, List.set_cons_succ]
            have hb6 := hS'.1
            have hs6 := hb6.size
            clear hS' f0 f1 f2 f3 sc fsc
            have HB6 := Lib.hid (HB5.out.trans (hb6.mono (by have := HB5.out.size; omega)))
            have HZ6 := Lib.hid (HZ5.out.below hb6)
            have HR6 := Lib.hid (HR5.out.below hb6)
            have hSB6 := HR6.out.lt
            obtain ⟨_, _, fs6⟩ := HR6.out.cell hkdc
            go_wp2_with fail
            refine NoPanic.normal ?_
            (try (go_wp2_with fail))
            go_roundg (fn - (k + 1))
            case measure => exact hgk
            case rel => exact ⟨k + 1, ds5, hgk2, by go_num, HZ6.out.bools HR6.out kd _, HDS5, HR6.out.set kd _, HB6.out.setCell (p := ⟨SB, kd, none⟩) (by show W.heap.size ≤ SB; omega) _⟩
          | false =>
            refine wp_region_noPanic ?_
            refine wp_region_P (fun w' => w'.cell? ⟨FB, 0, none⟩ = some (.int .i64 ((kd : Int) + 1)) ∧ w'.cell? ⟨FB, 1, none⟩ = some (.int .i64 ((kt : Int) + 1)) ∧ w'.cell? ⟨FB, 2, none⟩ = some (.int .i64 fx) ∧ w'.cell? ⟨FB, 3, none⟩ = some (.bool fa) ∧ w'.cell? ⟨SB, kd, none⟩ = some (.bool false)) 19 [(0, []), (1, []), (2, [0]), (3, [0]), (4, []), (5, []), (6, [0]), (7, [0]), (8, [3, 0]), (9, [0]), (10, [0]), (11, [0]), (12, [0, 1]), (13, [0, 2]), (14, [3, 0]), (15, [14, 11])] [16] (by kernel_rfl) (by kernel_rfl) (by kernel_rfl) rfl (fun _ _ _ _ h => h) (fun w' h => ⟨box_at f0 h, box_at f1 h, box_at f2 h, box_at f3 h, box_at sc h⟩) ?_
            simp only [pickP, pickN, List.getElem?_cons_zero, List.getElem?_cons_succ]
            iterate 11 (refine' chainP_read _ rfl rfl (fun w' hS' => ?_) ?_; rotate_left; · (simp only [lookP, allP, Act.put, List.getElem?_cons_zero, List.getElem?_cons_succ, List.setIfInBounds_toArray, List.set_cons_zero, List.set_cons_succ]; (try dsimp only at hS'); go_simp; (try with_reducible rfl)))
            -- 11: fieldAddr 191 t15 3
            refine' chainP_readG (d := (some 136)) _ rfl (fun w' hS' => ?_) ?_; rotate_left
            · simp only [lookP, allP, Act.put, List.getElem?_cons_zero, List.getElem?_cons_succ, List.setIfInBounds_toArray, List.set_cons_zero, List.set_cons_succ]
              refine ⟨by kernel_rfl, ?_⟩
              (try dsimp only at hS')
              go_simp
              (try with_reducible rfl)
            -- 12: load 4 t136
            refine' chainP_readG (d := (some 137)) _ rfl (fun w' hS' => ?_) ?_; rotate_left
            · simp only [lookP, allP, Act.put, List.getElem?_cons_zero, List.getElem?_cons_succ, List.setIfInBounds_toArray, List.set_cons_zero, List.set_cons_succ]
              refine ⟨by kernel_rfl, ?_⟩
              (try dsimp only at hS')
              go_simp
              (try with_reducible rfl)
            -- 13: unOp Unnot 4 t137
            refine' chainP_readG (d := (some 138)) _ rfl (fun w' hS' => ?_) ?_; rotate_left
            · simp only [lookP, allP, Act.put, List.getElem?_cons_zero, List.getElem?_cons_succ, List.setIfInBounds_toArray, List.set_cons_zero, List.set_cons_succ]
              refine ⟨by kernel_rfl, ?_⟩
              (try dsimp only at hS')
              go_simp
              (try with_reducible rfl)
            iterate 2 (refine' chainP_read _ rfl rfl (fun w' hS' => ?_) ?_; rotate_left; · (simp only [lookP, allP, Act.put, List.getElem?_cons_zero, List.getElem?_cons_succ, List.setIfInBounds_toArray, List.set_cons_zero, List.set_cons_succ]; (try dsimp only at hS'); go_simp; (try with_reducible rfl)))
            refine chainP_nil (fun V6 hS' => ?_)
            simp only [allP, Act.put, List.setIfInBounds_toArray, List.set_cons_zero, List.set_cons_succ]
            have hb6 := hS'.1
            have hs6 := hb6.size
            clear hS' f0 f1 f2 f3 sc fsc
            have HB6 := Lib.hid (HB5.out.trans (hb6.mono (by have := HB5.out.size; omega)))
            have HZ6 := Lib.hid (HZ5.out.below hb6)
            have HR6 := Lib.hid (HR5.out.below hb6)
            have hSB6 := HR6.out.lt
            obtain ⟨_, _, fs6⟩ := HR6.out.cell hkdc
            go_wp2_with fail
            refine NoPanic.normal ?_
            (try (go_wp2_with fail))
            go_roundg (fn - (k + 1))
            case measure => exact hgk
            case rel => exact ⟨k + 1, ds5, hgk2, by go_num, HZ6.out.bools HR6.out kd _, HDS5, HR6.out.set kd _, HB6.out.setCell (p := ⟨SB, kd, none⟩) (by show W.heap.size ≤ SB; omega) _⟩
        · obtain rfl : fn = k := by omega
          have b2 : decide (fn < fn) = false := decide_eq_false (by omega)
          obtain ⟨uA, rfl⟩ : ∃ u, u = wr := ⟨_, rfl⟩
          obtain ⟨gA, rfl⟩ : ∃ u, u = gk := ⟨_, rfl⟩
          have HNA : Hid (∀ u B, RowS u B (.slice none 0 0) []) := fun u B => RowS.nil u _
          go_wp2_with fail
          go_loopg [17, 144] cn (fun gk av iv wr => ∃ (k : Nat) (an : List (List Int)), k + gk = cn ∧ iv = .int .i64 (k : Int) ∧ Hid (RowS wr uA.heap.size av an) ∧ Hid (an.length = k) ∧ Hid (Below uA.heap.size uA wr))
          case atStart => exact ⟨0, [], by omega, rfl, HNA.out _ _, rfl, Below.refl _ _⟩
          case round =>
            obtain ⟨k, an, hkg, rfl, HRS, HAN, HBu⟩ := hrel
            obtain ⟨wA, rfl⟩ : ∃ u, u = wr := ⟨_, rfl⟩
            obtain ⟨gB, rfl⟩ : ∃ u, u = gk := ⟨_, rfl⟩
            have hsA := HBu.out.size
            have HBAw := Lib.hid (HBw.out.trans (HBu.out.mono (by omega)))
            have HZA := Lib.hid (HZ.out.below HBu.out)
            have HRA := Lib.hid (HRB.out.below HBu.out)
            have HGA := Lib.hid (HGr.out.below HBu.out)
            obtain ⟨aa, ac, rfl⟩ := HRS.out.shape
            rw [HAN.out] at HRS ⊢
            by_cases hlt : k < cn
            · have hgk : cn - (k + 1) < gB := by omega
              have hgk2 : k + 1 + (cn - (k + 1)) = cn := by omega
              have b3 : decide (k < cn) = true := decide_eq_true hlt
              have HK : Hid (k < cs.length) := by unfold Hid; have := Ec.out; omega
              have HKD : Hid (k < ds.length) := by unfold Hid; have := HDS.out.1; omega
              obtain ⟨lb', lc', xv, yv, e, _, _, l0, l1, ox, oy, _⟩ := HZA.out.get HKD.out
              rw [HDS.out.1] at e
              cases e
              have HZB : Hid (AllSmall (ds[k]'HKD.out).c ∧ AllSmall (ds[k]'HKD.out).s ∧ (ds[k]'HKD.out).c.length ≤ 7 ∧ (ds[k]'HKD.out).s.length = cn) := HDS.out.2 _ (List.getElem_mem HKD.out)
              obtain ⟨xa, xn, xc, rfl⟩ := ox.ints.shape
              obtain ⟨ya, yn, yc, rfl⟩ := oy.ints.shape
              have HXI := Lib.hid ox.ints
              have HYI := Lib.hid oy.ints
              clear ox oy
              obtain ⟨Z, hZ⟩ : ∃ z, ds[k]'HKD.out = z := ⟨_, rfl⟩
              rw [hZ] at HZB HXI HYI
              clear hZ
              obtain ⟨nb, hnb⟩ : ∃ z, (badE gr Z).length = z := ⟨_, rfl⟩
              have HNB := Lib.hid hnb
              have hnb7 : nb ≤ 7 := by have h := bdL_len gr Z Z.s.length; have := HZB.out; unfold badE at hnb; omega
              clear hnb
              obtain ⟨kr, ir⟩ := HRV.out k HK.out
              replace ir : Ints w (vs k) (cs[k]'HK.out) := ir
              obtain ⟨ra, rn, rc, er⟩ := ir.shape
              rw [er] at kr ir
              have KR := Lib.hid kr
              have HRW0 := Lib.hid ir
              clear kr ir er
              have g0 := HGA.out.cell (i := 0) rfl
              have g1 := HGA.out.cell (i := 1) rfl
              have g2 := HGA.out.cell (i := 2) rfl
              have bk0 : (0 : Int) ≤ (k : Int) := by omega
              have bk1 : (k : Int) < (cn : Int) := by omega
              have hwk : IntKind.i64.wrap ((k : Int) + 1) = (k : Int) + 1 := IntWalk.i64_in _ (by omega)
              go_upto_region 27 with fail
              refine wp_region_noPanic ?_
              refine wp_region_P (fun w' => w'.cell? ⟨w.heap.size, 0, none⟩ = some (.int .i64 gr.p) ∧ w'.cell? ⟨w.heap.size, 1, none⟩ = some (.int .i64 gr.q) ∧ w'.cell? ⟨w.heap.size, 2, none⟩ = some (.int .i64 gr.g) ∧ w'.cell? ⟨lb, k * 2, none⟩ = some (.slice xa xn xc) ∧ w'.cell? ⟨lb, k * 2 + 1, none⟩ = some (.slice ya yn yc)) 10 [(0, []), (1, []), (2, []), (3, [1, 0]), (4, [0]), (5, [4, 0]), (6, [0]), (7, [])] [] (by kernel_rfl) (by kernel_rfl) (by kernel_rfl) rfl (fun _ _ _ _ h => h) (fun w' h => ⟨box_at g0 h, box_at g1 h, box_at g2 h, box_at l0 h, box_at l1 h⟩) ?_
              simp only [pickP, pickN, List.getElem?_cons_zero, List.getElem?_cons_succ]
              iterate 5 (refine' chainP_read _ rfl rfl (fun w' hS' => ?_) ?_; rotate_left; · (simp only [lookP, allP, Act.put, List.getElem?_cons_zero, List.getElem?_cons_succ, List.setIfInBounds_toArray, List.set_cons_zero, List.set_cons_succ]; (try dsimp only at hS'); go_simp; (try with_reducible rfl)))
              -- 5: call { callee := value (func 202), args := #[t147, t151], argTypes := #[24, 57] }
              refine chainP_do (d := (some 152)) (fun v z => ∃ (a : Option Addr) (c : Nat), v = .slice a nb c ∧ OwnI z uA.heap.size (.slice a nb c) (badE gr Z)) (fun v w1 w2 hw h => by obtain ⟨a, c, e, h1⟩ := h; exact ⟨a, c, e, h1.below hw⟩) rfl rfl (fun w' hS' => ?_) ?_
              · simp only [lookP, allP, Act.put, List.getElem?_cons_zero, List.getElem?_cons_succ, List.setIfInBounds_toArray, List.set_cons_zero, List.set_cons_succ]
                intro K hK
                go_simp
                go_at_call 202
                refine (spec_sBad gr _ Z _ HG.out (DlR.mk (HXI.out.below hS'.1) (HYI.out.below hS'.1)) HZB.out.1 ⟨by have := HZB.out; omega, by have := HZB.out; omega⟩).mono ?_
                rintro e u ⟨⟨v', rfl, hv⟩, hq⟩
                obtain ⟨a, c, e⟩ := hv.shape
                subst e
                rw [HNB.out] at hv ⊢
                exact hK.out _ _ hq ⟨a, c, rfl, hv.mono (by have := hS'.1.size; omega)⟩
              -- 6: call { callee := builtin Builtin.len, args := #[t152], argTypes := #[42] }
              refine chainP_have (d := (some 153)) (fun v z => v = .int .i64 (nb : Int)) (fun v w1 w2 hw h => h) rfl rfl (fun w' hS' => ?_) ?_
              · simp only [lookP, allP, Act.put, List.getElem?_cons_zero, List.getElem?_cons_succ, List.setIfInBounds_toArray, List.set_cons_zero, List.set_cons_succ]
                intro x5 hx5
                obtain ⟨a, c, rfl, _⟩ := hx5
                refine ⟨.int .i64 (nb : Int), ?_, rfl⟩
                go_simp
              -- 7: move (const (int i64 0))
              refine' chainP_read (d := (some 154)) _ rfl rfl (fun w' hS' => ?_) ?_; rotate_left
              · simp only [lookP, allP, Act.put, List.getElem?_cons_zero, List.getElem?_cons_succ, List.setIfInBounds_toArray, List.set_cons_zero, List.set_cons_succ]
                (try dsimp only at hS')
                go_simp
                (try with_reducible rfl)
              refine chainP_nil (fun wB hS' => ?_)
              simp only [allP, Act.put, List.setIfInBounds_toArray, List.set_cons_zero, List.set_cons_succ]
              intro x6 hx6
              intro x5 hx5
              have hbB := hS'.1
              clear hS' g0 g1 g2 l0 l1
              obtain ⟨ba, bc, rfl, hbo⟩ := hx5
              subst hx6
              have HBO := Lib.hid hbo
              have hsB := hbB.size
              have HBB := Lib.hid (HBu.out.trans (hbB.mono hsA))
              have HRSB := Lib.hid (HRS.out.below hbB)
              clear hbo hbB
              go_wp2_with fail
              refine NoPanic.normal ?_
              (try (go_wp2_with fail))
              go_loopg [19, 154] nb (fun gk ov iv wr => ∃ (j : Nat) (os : List Int), j + gk = nb ∧ iv = .int .i64 (j : Int) ∧ Hid (OwnI wr wB.heap.size ov os) ∧ Hid (os.length ≤ j) ∧ Hid (Below wB.heap.size wB wr))
              case atStart => exact ⟨0, [], by omega, rfl, OwnI.nil _ _, Nat.le_refl _, Below.refl _ _⟩
              case round =>
                obtain ⟨j, os, hjg, rfl, HO, HOL, HBj⟩ := hrel
                obtain ⟨wC, rfl⟩ : ∃ u, u = wr := ⟨_, rfl⟩
                have hsC := HBj.out.size
                have HBC := Lib.hid (HBB.out.trans (HBj.out.mono (by omega)))
                have HBCw := Lib.hid (HBw.out.trans (HBC.out.mono (by omega)))
                have HGC := Lib.hid (HGr.out.below HBC.out)
                have HRC := Lib.hid (HRB.out.below HBC.out)
                obtain ⟨oa, oc, rfl⟩ := HO.out.shape
                obtain ⟨on, hon⟩ : ∃ z, os.length = z := ⟨_, rfl⟩
                have HON := Lib.hid hon
                rw [hon] at HO HOL ⊢
                clear hon
                by_cases hlj : j < nb
                · have hgj : nb - (j + 1) < gk := by omega
                  have hgj2 : j + 1 + (nb - (j + 1)) = nb := by omega
                  have b4 : decide (j < nb) = true := decide_eq_true hlj
                  obtain ⟨bb, rfl, _, _, hcz⟩ := HBO.out.at_ (by rw [HNB.out]; omega)
                  have z0 := box_at (hcz j hlj).1 HBj.out
                  have HXI2 : Hid (0 ≤ nth (badE gr Z) j ∧ nth (badE gr Z) j ≤ 1000) := by
                    unfold Hid
                    have e : nth (badE gr Z) j = (badE gr Z)[j]'(by rw [HNB.out]; omega) := by simp [nth, List.getD, HNB.out, hlj]
                    rw [e]
                    have h := bdL_mem (gr := gr) (d := Z) Z.s.length (List.getElem_mem (l := badE gr Z) (by rw [HNB.out]; omega))
                    have := HZB.out
                    omega
                  obtain ⟨xi, hxi⟩ : ∃ z, nth (badE gr Z) j = z := ⟨_, rfl⟩
                  rw [hxi] at z0 HXI2
                  clear hcz hxi
                  have bj0 : (0 : Int) ≤ (j : Int) := by omega
                  have bj1 : (j : Int) < (nb : Int) := by omega
                  have hwj : IntKind.i64.wrap ((j : Int) + 1) = (j : Int) + 1 := IntWalk.i64_in _ (by omega)
                  obtain ⟨sb, sc, fsc⟩ := HRC.out.cell hlt
                  cases sb with
                  | true =>
                    go_wp2_with fail
                    go_roundg (nb - (j + 1))
                    case measure => exact hgj
                    case rel => exact ⟨j + 1, os, hgj2, by go_num, HO, by unfold Hid; rw [HON.out]; have := HOL.out; omega, HBj⟩
                  | false =>
                    have y1 := box_at KR.out HBCw.out
                    have g1 := HGC.out.cell (i := 1) rfl
                    have HRW := Lib.hid (HRW0.out.below HBCw.out)
                    have HHI : Hid (I64 (hornE gr.q xi (cs[k]'HK.out))) := by
                      unfold Hid
                      have h1 := HG.out.q1
                      have h2 := HG.out.q2
                      have h3 := HG.out.p2
                      have := hornE_bd (by omega : 0 < gr.q) xi (cs[k]'HK.out)
                      exact ⟨by omega, by omega⟩
                    have HCBk := Lib.hid (HCB.out k HK.out)
                    obtain ⟨hv, hhv⟩ : ∃ z, hornE gr.q xi (cs[k]'HK.out) = z := ⟨_, rfl⟩
                    have HHV := Lib.hid hhv
                    rw [hhv] at HHI
                    clear hhv
                    go_upto_region 31 with fail
                    refine wp_region_noPanic ?_
                    refine wp_region_P (fun w' => w'.cell? ⟨w.heap.size, 1, none⟩ = some (.int .i64 gr.q) ∧ w'.cell? ⟨cb, co + k, none⟩ = some (.slice ra rn rc)) 14 [(0, []), (1, []), (2, [0]), (3, []), (4, []), (5, [1, 0]), (6, [0]), (7, []), (8, [5, 1, 0]), (9, [0])] [10, 11] (by kernel_rfl) (by kernel_rfl) (by kernel_rfl) rfl (fun _ _ _ _ h => h) (fun w' h => ⟨box_at g1 h, box_at y1 h⟩) ?_
                    simp only [pickP, pickN, List.getElem?_cons_zero, List.getElem?_cons_succ]
                    iterate 8 (refine' chainP_read _ rfl rfl (fun w' hS' => ?_) ?_; rotate_left; · (simp only [lookP, allP, Act.put, List.getElem?_cons_zero, List.getElem?_cons_succ, List.setIfInBounds_toArray, List.set_cons_zero, List.set_cons_succ]; (try dsimp only at hS'); go_simp; (try with_reducible rfl)))
                    -- 8: call { callee := value (func 162), args := #[t165, t169, t170], argTypes := #[3, 42, 3] }
                    refine chainP_call (d := (some 171)) (.int .i64 hv) rfl rfl (fun w' hS' => ?_) ?_
                    · simp only [lookP, allP, Act.put, List.getElem?_cons_zero, List.getElem?_cons_succ, List.setIfInBounds_toArray, List.set_cons_zero, List.set_cons_succ]
                      intro K hK
                      go_simp
                      go_at_call 162
                      refine (spec_yEval gr.q _ (cs[k]'HK.out) xi _ (by have h := HG.out; exact ⟨h.q1, by have := h.q2; have := h.p2; omega⟩) (HRW.out.below hS'.1) HCBk.out HXI2.out).mono ?_
                      rintro e u ⟨rfl, hq⟩
                      rw [HHV.out]
                      exact hK.out _ hq
                    -- 9: buildSlice 42 1 #[(0, t171)]
                    refine chainP_do (d := (some 172)) (fun v w => Ints w v [hv]) (fun v w w' hb h => Ints.below h hb) rfl rfl (fun w' hS' => ?_) ?_
                    · simp only [lookP, allP, Act.put, List.getElem?_cons_zero, List.getElem?_cons_succ, List.setIfInBounds_toArray, List.set_cons_zero, List.set_cons_succ]
                      intro K hK
                      go_simp
                      refine hK.out _ _ ((Below.refl _ _).alloc (Nat.le_refl _) _) ?_
                      exact Ints.lit1 w' HHI.out
                    refine chainP_nil (fun wD hS' => ?_)
                    simp only [allP, Act.put, List.setIfInBounds_toArray, List.set_cons_zero, List.set_cons_succ]
                    intro x9 hx9
                    have hbD := hS'.1
                    have hsD := hbD.size
                    clear hS' y1 g1
                    have HO5 := Lib.hid (HO.out.below hbD)
                    have HX9 := Lib.hid hx9
                    obtain ⟨na, nn, nc, rfl⟩ := hx9.shape
                    clear hx9
                    go_wp2_with (at_builtin; refine wpList_append_ints rfl _ _ rfl wB.heap.size (.slice oa on oc) (.slice na nn nc) os [hv] rfl HO5.out rfl HX9.out (by rw [HON.out]; have := HOL.out; simp; omega) (by omega) ?_; intro v4 w4 hown4 hgr4)
                    refine NoPanic.normal ?_
                    have hb4 := HO5.out.grown hgr4 (by omega)
                    (try (go_wp2_with fail))
                    go_roundg (nb - (j + 1))
                    case measure => exact hgj
                    case rel => exact ⟨j + 1, os ++ [hv], hgj2, by go_num, hown4, by unfold Hid; rw [List.length_append, HON.out]; have := HOL.out; simp; omega, (HBj.out.trans (hbD.mono hsC)).trans hb4⟩
                · obtain rfl : nb = j := by omega
                  have b4 : decide (nb < nb) = false := decide_eq_false (by omega)
                  have HRSC := Lib.hid (HRSB.out.below HBj.out)
                  have HOM := Lib.hid (HO.out.mono (show uA.heap.size ≤ wB.heap.size by omega))
                  go_wp2_with (at_builtin; refine wpList_append_S rfl _ _ rfl uA.heap.size (.slice aa k ac) (.slice oa on oc) an os wC.heap.size 1 rfl rfl (HRSC.out.below ((Below.refl _ _).alloc (Nat.le_refl _) _)) (HOM.out.alloc _) (by simp; omega) ((BoxN.new wC [.slice oa on oc] 42).cell (i := 0) rfl) (by rw [HAN.out]; omega) ?_; intro v4 w4 hown4 hb4)
                  have hb5 := ((Below.refl uA.heap.size wC).alloc (by omega) (.cells #[.slice oa on oc] 42)).trans hb4
                  go_roundg (cn - (k + 1))
                  case measure => exact hgk
                  case rel => exact ⟨k + 1, an ++ [os], hgk2, by go_num, hown4, by unfold Hid; rw [List.length_append, HAN.out]; rfl, HBC.out.trans hb5⟩
            · obtain rfl : cn = k := by omega
              have b3 : decide (cn < cn) = false := decide_eq_false (by omega)
              go_wp2_with fail
              go_ret3
              exact ⟨⟨_, _, _, ds, an, rfl, HZA.out.low (by omega), HRS.out.low (by omega), fun _ => by rw [HAN.out]; omega⟩, HBAw.out⟩
end Go.Proofs.Ytacpnphfopmofaa
