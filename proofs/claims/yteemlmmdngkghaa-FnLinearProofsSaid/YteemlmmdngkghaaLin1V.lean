/- Linear statements: walks (printed by gen_lin1.py). -/
import Derived.Test.YteemlmmdngkghaaLinLV
import Derived.Test.YteemlmmdngkghaaSpoilV
import Derived.Test.YteemlmmdngkghaaRegPV
import Derived.Deep.Cut
namespace Go.Proofs.Yteemlmmdngkghaa
open Go.RowKit
set_option linter.unusedSimpArgs false
set_option linter.unusedVariables false

theorem RdL.below {δ : Type} {K : Kind δ} {w w' : World} {v : Value} {ds : List δ} (h : RdL K w v ds) (hb : Below w.heap.size w w') : RdL K w' v ds := (kList 26 K).rd_below h hb
/-- the first row of a statement -/
theorem first_row {w : World} {a : Option Addr} {n c : Nat} {ls : List (List Int)} (h : RdL kInts w (.slice a n c) ls) (hn : 0 < n) :
    ∃ b o a0 n0 c0, a = some ⟨b, o, none⟩ ∧ w.cell? ⟨b, o, none⟩ = some (.slice a0 n0 c0) ∧ n0 = headLen ls ∧ Ints w (.slice a0 n0 c0) (ls.headD []) := by
  have e := h.len
  obtain ⟨b, o, rfl, vs, hcx⟩ := h.at_ hn
  obtain ⟨h1, h2⟩ := hcx 0 (by omega)
  obtain ⟨a0, n0, c0, e0⟩ := Ints.shape h2
  rw [e0] at h1 h2
  have hl := Ints.len h2
  have hd : ls.headD [] = ls[0]'(by omega) := by
    cases ls with
    | nil => simp at e; omega
    | cons x ls => rfl
  exact ⟨b, o, a0, n0, c0, rfl, by simpa using h1, by unfold headLen; rw [hd]; exact hl.symm, by rw [hd]; exact h2⟩
theorem spec_sLabel (gr : GroupD) (s : ByteArray) (w : World) (hs : s.size ≤ 1000000) :
    Calls Try.prog 135 #[.agg #[.int .i64 gr.p, .int .i64 gr.q, .int .i64 gr.g], .string s] w fun e w' => e = .returned (.bool (goodG gr && decide (s.size ≤ 40))) ∧ Below w.heap.size w w' := by
  obtain ⟨q1, hq1⟩ : ∃ q, goodG gr = q := ⟨_, rfl⟩
  have H1 := Lib.hid hq1
  obtain ⟨q2, hq2⟩ : ∃ q, decide (s.size ≤ 40) = q := ⟨_, rfl⟩
  have hq3 : decide ((s.size : Int) ≤ 40) = q2 := by rw [← hq2, decide_eq_decide]; omega
  rw [hq1, hq2]
  have H3 := Lib.hid hq3
  clear hq1 hq2 hq3
  obtain ⟨W, hW⟩ : ∃ W, W = w.alloc (.cells #[.int .i64 gr.p, .int .i64 gr.q, .int .i64 gr.g] 25) := ⟨_, rfl⟩
  have HB : Hid (Below w.heap.size w W) := by unfold Hid; rw [hW]; (repeat (first | exact Below.refl _ _ | assumption | refine Below.drew ?_ | refine Below.alloc ?_ (by first | (simp; done) | (simp; omega)) _ | refine Below.setCell ?_ (by first | (simp; done) | (simp; omega)) _))
  have c0 : W.cell? ⟨w.heap.size, 0, none⟩ = some (.int .i64 gr.p) := by rw [hW]; simp [go_sem]
  have c1 : W.cell? ⟨w.heap.size, 1, none⟩ = some (.int .i64 gr.q) := by rw [hW]; simp [go_sem]
  have c2 : W.cell? ⟨w.heap.size, 2, none⟩ = some (.int .i64 gr.g) := by rw [hW]; simp [go_sem]
  go_enter Try.func135, Try.ntmps135
  go_wp2_with fail
  rw [← hW]
  clear hW
  go_wp2_with fail
  refine (spec_l2Good gr _).mono ?_
  rintro e w1 ⟨rfl, hb⟩
  rw [H1.out]
  have h3 := H3.out
  cases q1 with
  | false =>
    go_wp2_with fail
    go_ret
    exact ⟨rfl, HB.out.trans (hb.mono HB.out.size)⟩
  | true =>
    go_wp2_with fail
    go_ret
    exact ⟨ret_bool (by first | (rw [Bool.true_and]; done) | (rw [Bool.true_and]; exact h3) | exact h3), HB.out.trans (hb.mono HB.out.size)⟩
set_option maxRecDepth 100000 in
set_option maxHeartbeats 2000000 in
theorem spec_sBases (gr : GroupD) (v : Value) (ls : List (List Int)) (w : World) (hg : OkG gr) (h : RdL kInts w v ls) :
    Calls Try.prog 136 #[.agg #[.int .i64 gr.p, .int .i64 gr.q, .int .i64 gr.g], v] w fun e w' => e = .returned (.bool (rowsB gr ls)) ∧ Below w.heap.size w w' := by
  have HG := Lib.hid hg; clear hg
  obtain ⟨a, n, c, rfl⟩ := h.shape
  have e := h.len
  obtain ⟨k1, k2⟩ := h.capMax
  unfold maxLen at k2
  have HE := Lib.hid e
  have H := Lib.hid h; clear h
  obtain ⟨W, hW⟩ : ∃ W, W = w.alloc (.cells #[.int .i64 gr.p, .int .i64 gr.q, .int .i64 gr.g] 25) := ⟨_, rfl⟩
  have HB : Hid (Below w.heap.size w W) := by unfold Hid; rw [hW]; (repeat (first | exact Below.refl _ _ | assumption | refine Below.drew ?_ | refine Below.alloc ?_ (by first | (simp; done) | (simp; omega)) _ | refine Below.setCell ?_ (by first | (simp; done) | (simp; omega)) _))
  have HX : Hid (BoxN W w.heap.size 25 [.int .i64 gr.p, .int .i64 gr.q, .int .i64 gr.g]) := by unfold Hid; rw [hW]; exact BoxN.new w _ _
  by_cases hn : 1 ≤ n ∧ n ≤ 8
  · have H1 : Hid (decide ((1 : Int) ≤ (n : Int) ∧ (n : Int) ≤ 8) = true) := decide_eq_true (by omega)
    have H1L : Hid (decide (1 ≤ ls.length ∧ ls.length ≤ 8) = true) := decide_eq_true (by omega)
    obtain ⟨b, o, a0, n0, c0, rfl, hc0, hn0, hr0⟩ := first_row H.out (by omega)
    have hn0m : n0 ≤ 9223372036854775807 := by have := hr0.capMax; unfold maxLen at this; omega
    have y0 := box_at hc0 HB.out
    have HN0 := Lib.hid hn0
    have HR0 := Lib.hid hr0
    clear hc0 hn0 hr0 e
    by_cases hm : 1 ≤ n0 ∧ n0 ≤ 8
    · have H2 : Hid (decide ((1 : Int) ≤ (n0 : Int) ∧ (n0 : Int) ≤ 8) = true) := decide_eq_true (by omega)
      have H2L : Hid (decide (1 ≤ headLen ls ∧ headLen ls ≤ 8) = true) := by unfold Hid; rw [← HN0.out]; exact decide_eq_true hm
      have HRB : Hid (rowsB gr ls = ls.all (rowB gr (headLen ls))) := by unfold Hid rowsB; rw [H1L.out, H2L.out]; rfl
      rw [HRB.out]
      have H0 := Lib.hid y0
      clear y0
      go_enter Try.func136, Try.ntmps136
      go_wp2_with fail
      rw [← hW]
      clear hW
      refine (spec_l1In _ _ _ _).mono ?_
      rintro e w1 ⟨rfl, rfl⟩
      rw [H1.out]
      have y0 := H0.out
      go_wp2_with fail
      refine (spec_l1In _ _ _ _).mono ?_
      rintro e w1 ⟨rfl, rfl⟩
      rw [H2.out]
      clear y0
      go_wp2_with fail
      go_loopg [21] n (fun gk iv wr => ∃ k : Nat, k + gk = n ∧ iv = .int .i64 (k : Int) ∧ (ls.take k).all (rowB gr (headLen ls)) = true ∧ Below W.heap.size W wr)
      case atStart => exact ⟨0, by omega, rfl, rfl, Below.refl _ _⟩
      case round =>
        obtain ⟨k, hkg, rfl, hall, hbr⟩ := hrel
        have HALL := Lib.hid hall
        have HBR := Lib.hid hbr
        have HBW := Lib.hid (HB.out.trans (hbr.mono HB.out.size))
        clear hall hbr
        by_cases hlt : k < n
        · have HK : Hid (k < ls.length) := by unfold Hid; have := HE.out; omega
          have y0 := box_at H0.out HBR.out
          have x0 := (HX.out.below HBR.out).cell (i := 0) rfl
          have x1 := (HX.out.below HBR.out).cell (i := 1) rfl
          have x2 := (HX.out.below HBR.out).cell (i := 2) rfl
          obtain ⟨b', o', e1, vs, hcx⟩ := H.out.at_ (by omega)
          cases e1
          obtain ⟨hk1, hk2⟩ := hcx k HK.out
          obtain ⟨ak, nk, ck, ek⟩ := Ints.shape hk2
          rw [ek] at hk1 hk2
          have yk := box_at hk1 HBW.out
          have hlk := hk2.len
          have hnkm : nk ≤ 9223372036854775807 := by have := hk2.capMax; unfold maxLen at this; omega
          have HRK := Lib.hid (hk2.below HBW.out)
          clear ek hk1 hk2 hcx
          have HT := Lib.hid (List.take_succ_eq_append_getElem HK.out)
          obtain ⟨R, hR⟩ : ∃ R, ls[k]'HK.out = R := ⟨_, rfl⟩
          rw [hR] at hlk HRK HT
          have HLK := Lib.hid hlk
          have HRM : Hid (R ∈ ls) := by unfold Hid; rw [← hR]; exact List.getElem_mem _
          have hgl : n - (k + 1) < gk := by omega
          have HKG := Lib.hid hkg
          clear hlk hR hkg
          by_cases hne : nk = n0
          · have hd : ((nk : Int) != (n0 : Int)) = false := by rw [bne_eq_false_iff_eq]; omega
            have HNE := Lib.hid hne
            clear hne
            go_wp2_with fail
            refine (spec_gIs gr _ R _ HG.out HRK.out).mono ?_
            rintro e w2 ⟨rfl, hb2⟩
            cases hq : R.all (elB gr) with
            | false =>
              have HV : Hid (ls.all (rowB gr (headLen ls)) = false) := by
                unfold Hid
                rw [List.all_eq_false]
                refine ⟨R, HRM.out, ?_⟩
                unfold rowB; rw [hq]; simp
              clear hq
              go_wp2_with fail
              go_ret
              exact ⟨ret_bool HV.out.symm, HBW.out.trans (hb2.mono HBW.out.size)⟩
            | true =>
              have HQ := Lib.hid hq
              clear hq
              go_wp2_with fail
              go_roundg (n - (k + 1))
              case measure => omega
              case rel => exact ⟨k + 1, by have := HKG.out; omega, by go_num, by
                rw [HT.out, List.all_append, HALL.out, Bool.true_and]
                simp only [List.all_cons, List.all_nil, Bool.and_true]
                unfold rowB; rw [HQ.out, Bool.and_true, decide_eq_true_iff, ← HN0.out]; have := HLK.out; have := HNE.out; omega, HBR.out.trans (hb2.mono HBR.out.size)⟩
          · have hd : ((nk : Int) != (n0 : Int)) = true := by rw [bne_iff_ne]; omega
            have HV : Hid (ls.all (rowB gr (headLen ls)) = false) := by
              unfold Hid
              rw [List.all_eq_false]
              refine ⟨R, HRM.out, ?_⟩
              unfold rowB; rw [decide_eq_false (by rw [← HN0.out]; have := HLK.out; omega)]; simp
            go_wp2_with fail
            go_ret
            exact ⟨ret_bool HV.out.symm, HBW.out⟩
        · have HV : Hid (ls.all (rowB gr (headLen ls)) = true) := by
            unfold Hid
            have := HALL.out
            rwa [List.take_of_length_le (by have := HE.out; omega)] at this
          go_wp2_with fail
          go_ret
          exact ⟨ret_bool HV.out.symm, HBW.out⟩
    · have H2 : Hid (decide ((1 : Int) ≤ (n0 : Int) ∧ (n0 : Int) ≤ 8) = false) := decide_eq_false (by omega)
      have HRB : Hid (rowsB gr ls = false) := by unfold Hid rowsB; rw [decide_eq_false (p := 1 ≤ headLen ls ∧ headLen ls ≤ 8) (by rw [← HN0.out]; exact hm)]; simp
      rw [HRB.out]
      have H0 := Lib.hid y0
      clear y0
      go_enter Try.func136, Try.ntmps136
      go_wp2_with fail
      rw [← hW]
      clear hW
      refine (spec_l1In _ _ _ _).mono ?_
      rintro e w1 ⟨rfl, rfl⟩
      rw [H1.out]
      have y0 := H0.out
      go_wp2_with fail
      refine (spec_l1In _ _ _ _).mono ?_
      rintro e w1 ⟨rfl, rfl⟩
      rw [H2.out]
      clear y0
      go_wp2_with fail
      go_ret
      exact ⟨rfl, HB.out⟩
  · have H1 : Hid (decide ((1 : Int) ≤ (n : Int) ∧ (n : Int) ≤ 8) = false) := decide_eq_false (by omega)
    have HRB : Hid (rowsB gr ls = false) := by unfold Hid rowsB; rw [decide_eq_false (p := 1 ≤ ls.length ∧ ls.length ≤ 8) (by omega)]; rfl
    rw [HRB.out]
    go_enter Try.func136, Try.ntmps136
    go_wp2_with (first
      | (go_at_call 94; refine (spec_l1In _ _ _ _).mono ?_; rintro e w1 ⟨rfl, rfl⟩; rw [H1.out])
      | fail)
    (try rw [← hW])
    go_ret
    exact ⟨rfl, HB.out⟩
/-- a list in new memory and a Bool are returned -/
def RetI (e : Ending) (w : World) (B : Nat) (b : Bool) (l : List Int) : Prop := ∃ x, e = .returned (.tuple #[x, .bool b]) ∧ OwnI w B x l
theorem RetI.mk {w : World} {B : Nat} {x : Value} {b : Bool} {l : List Int} (h : OwnI w B x l) : RetI (.returned (.tuple #[x, .bool b])) w B b l := ⟨x, rfl, h⟩
theorem own_proof {w : World} {lo hi : Nat} {v : Value} {d : ProofD} (h : (kS rProof).own w lo hi v d) : ∃ x y z, v = .agg #[x, y, z] ∧ OwnI w lo x d.c ∧ OwnI w lo y d.h ∧ OwnI w lo z d.r := by
  obtain ⟨_, rfl, ⟨x, _, a1, b1, a2, b2, rfl, h1, ⟨y, _, a3, b3, a4, b4, rfl, h2, ⟨z, _, a5, b5, a6, b6, rfl, h3, rfl, e1, e2, e3⟩, f1, f2, f3⟩, g1, g2, g3⟩⟩ := h
  have h1' : InI w a1 b1 x d.c := h1
  have h2' : InI w a3 b3 y d.h := h2
  have h3' : InI w a5 b5 z d.r := h3
  exact ⟨x, y, z, rfl, h1'.1.mono (by omega), h2'.1.mono (by omega), h3'.1.mono (by omega)⟩
theorem rd_of_PfR {w : World} {v : Value} {d : ProofD} (h : PfR w v d) : (kS rProof).rd w v d := by
  obtain ⟨a, b, c, rfl, h1, h2, h3⟩ := h
  obtain ⟨_, _, _, rfl⟩ := h1.shape
  obtain ⟨_, _, _, rfl⟩ := h2.shape
  obtain ⟨_, _, _, rfl⟩ := h3.shape
  exact rdProof.2 ⟨_, _, _, _, _, _, _, _, _, rfl, h1, h2, h3⟩
noncomputable def ilB (gr : GroupD) (bs : List (List Int)) (xs : List Int) : Bool := goodG gr && (rowsB gr bs && (decide (xs.length = headLen bs) && xs.all (expB gr)))
noncomputable def ilR (gr : GroupD) (bs : List (List Int)) (xs : List Int) : List Int := if ilB gr bs xs = true then imagesL gr bs xs else []
noncomputable def vlA (gr : GroupD) (s : ByteArray) (bs : List (List Int)) (ims : List Int) : Bool := goodG gr && (decide (s.size ≤ 40) && (rowsB gr bs && (decide (ims.length = bs.length) && ims.all (elB gr))))
noncomputable def vlR (gr : GroupD) (s : ByteArray) (bs : List (List Int)) (ims : List Int) (d : ProofD) : Bool := vlA gr s bs ims && vlB gr s bs ims d
set_option maxRecDepth 100000 in
set_option maxHeartbeats 2000000 in
theorem impl_ImagesOf (gr : GroupD) (lv : Value) (bs : List (List Int)) (xv : Value) (xs : List Int) (w : World) (hbs : RdL kInts w lv bs) (hxs : Ints w xv xs) :
    Calls Try.prog 38 #[.agg #[.int .i64 gr.p, .int .i64 gr.q, .int .i64 gr.g], lv, xv] w fun e w' => RetI e w' w.heap.size (ilB gr bs xs) (ilR gr bs xs) ∧ Below w.heap.size w w' := by
  obtain ⟨lva, lvn, lvc, rfl⟩ := hbs.shape
  have Elv := Lib.hid hbs.len
  have Klv := Lib.hid hbs.capMax
  have Hlv := Lib.hid hbs
  clear hbs
  obtain ⟨xva, xvn, xvc, rfl⟩ := hxs.shape
  have Exv := Lib.hid hxs.len
  have Kxv := Lib.hid hxs.capMax
  have Hxv := Lib.hid hxs
  clear hxs
  obtain ⟨W, hW⟩ : ∃ W, W = w.alloc (.cells #[.int .i64 gr.p, .int .i64 gr.q, .int .i64 gr.g] 25) := ⟨_, rfl⟩
  have HB : Hid (Below w.heap.size w W) := by unfold Hid; rw [hW]; (repeat (first | exact Below.refl _ _ | assumption | refine Below.drew ?_ | refine Below.alloc ?_ (by first | (simp; done) | (simp; omega)) _ | refine Below.setCell ?_ (by first | (simp; done) | (simp; omega)) _))
  have c0_0 : W.cell? ⟨w.heap.size, 0, none⟩ = some (.int .i64 gr.p) := by rw [hW]; simp [go_sem]
  have c0_1 : W.cell? ⟨w.heap.size, 1, none⟩ = some (.int .i64 gr.q) := by rw [hW]; simp [go_sem]
  have c0_2 : W.cell? ⟨w.heap.size, 2, none⟩ = some (.int .i64 gr.g) := by rw [hW]; simp [go_sem]
  have HSW : Hid (W.heap.size = w.heap.size + 1) := by unfold Hid; rw [hW]; simp
  go_enter Try.func38, Try.ntmps38
  go_wp2_with fail
  rw [← hW]
  have hse : w.heap.size + 1 = W.heap.size := by have := HSW.out; omega
  (try rw [hse])
  clear hse
  clear hW
  have hc : Below W.heap.size W W := Below.refl _ _
  have HCC : Hid (∀ u, Below W.heap.size W u → u.cell? ⟨w.heap.size, 0, none⟩ = some (.int .i64 gr.p) ∧ u.cell? ⟨w.heap.size, 1, none⟩ = some (.int .i64 gr.q) ∧ u.cell? ⟨w.heap.size, 2, none⟩ = some (.int .i64 gr.g)) := fun u h => ⟨box_at c0_0 h, box_at c0_1 h, box_at c0_2 h⟩
  go_wp2_with fail
  refine (impl_IsValidGroup gr _).mono ?_
  rintro e u1 ⟨rfl, hq1⟩
  replace hc := Below.next hc hq1
  clear hq1 c0_0 c0_1 c0_2
  obtain ⟨c0_0, c0_1, c0_2⟩ := HCC.out _ hc
  cases hc1 : goodG gr with
  | false =>
    have Hhc1 := Lib.hid hc1
    clear hc1
    go_wp2_with fail
    have HVB : Hid (ilB gr bs xs = false) := by unfold Hid; simp [ilB, Hhc1.out]
    have HPR : Hid (ilR gr bs xs = []) := by unfold Hid ilR; rw [if_neg (by rw [HVB.out]; simp)]
    go_ret2
    exact ⟨(by rw [HVB.out, HPR.out]; exact RetI.mk (OwnI.nil _ _)), HB.out.trans (hc.mono HB.out.size)⟩
  | true =>
    have HG := Lib.hid (goodG_ok hc1)
    have Hhc1 := Lib.hid hc1
    clear hc1
    go_wp2_with fail
    refine (impl_areRows gr _ bs _ HG.out (Hlv.out.below (HB.out.trans (hc.mono HB.out.size)))).mono ?_
    rintro e u2 ⟨rfl, hq2⟩
    replace hc := Below.next hc hq2
    clear hq2 c0_0 c0_1 c0_2
    obtain ⟨c0_0, c0_1, c0_2⟩ := HCC.out _ hc
    cases hc2 : rowsB gr bs with
    | false =>
      have Hhc2 := Lib.hid hc2
      clear hc2
      go_wp2_with fail
      have HVB : Hid (ilB gr bs xs = false) := by unfold Hid; simp [ilB, Hhc1.out, Hhc2.out]
      have HPR : Hid (ilR gr bs xs = []) := by unfold Hid ilR; rw [if_neg (by rw [HVB.out]; simp)]
      go_ret2
      exact ⟨(by rw [HVB.out, HPR.out]; exact RetI.mk (OwnI.nil _ _)), HB.out.trans (hc.mono HB.out.size)⟩
    | true =>
      have HRW := Lib.hid (rowsB_bd HG.out hc2)
      obtain ⟨lvb, lvo, r0a, r0n, r0c, rfl, hf1, hf2, hf3⟩ := first_row Hlv.out (by have := HRW.out.1.1; have := Elv.out; omega)
      have hlvp : 0 < lvn := by have := HRW.out.1.1; have := Elv.out; omega
      have hr0m : r0n ≤ 9223372036854775807 := by have q := hf3.capMax; unfold maxLen at q; omega
      have Kr0 : Hid (w.cell? ⟨lvb, lvo, none⟩ = some (.slice r0a r0n r0c)) := hf1
      have HRN := Lib.hid hf2
      have yr0 := box_at Kr0.out (HB.out.trans (hc.mono HB.out.size))
      clear hf1 hf2 hf3
      replace HCC : Hid (∀ u, Below W.heap.size W u → u.cell? ⟨w.heap.size, 0, none⟩ = some (.int .i64 gr.p) ∧ u.cell? ⟨w.heap.size, 1, none⟩ = some (.int .i64 gr.q) ∧ u.cell? ⟨w.heap.size, 2, none⟩ = some (.int .i64 gr.g) ∧ u.cell? ⟨lvb, lvo, none⟩ = some (.slice r0a r0n r0c)) := fun u h => by obtain ⟨c0_0, c0_1, c0_2⟩ := HCC.out u h; exact ⟨c0_0, c0_1, c0_2, box_at Kr0.out (HB.out.trans (h.mono HB.out.size))⟩
      have Hhc2 := Lib.hid hc2
      clear hc2
      cases hc3 : ((xvn : Int) != (r0n : Int)) with
      | false =>
        have HLX : Hid (xs.length = headLen bs) := by have q := hc3; rw [bne_eq_false_iff_eq] at q; unfold Hid; have := HRN.out; have := Exv.out; omega
        have HLXd : Hid (decide (xs.length = headLen bs) = true) := decide_eq_true HLX.out
        go_wp2_with fail
        refine (impl_areExps gr _ xs _ HG.out (Hxv.out.below (HB.out.trans (hc.mono HB.out.size)))).mono ?_
        rintro e u3 ⟨rfl, hq3⟩
        replace hc := Below.next hc hq3
        clear hq3 c0_0 c0_1 c0_2 yr0
        obtain ⟨c0_0, c0_1, c0_2, yr0⟩ := HCC.out _ hc
        cases hc4 : xs.all (expB gr) with
        | false =>
          have Hhc4 := Lib.hid hc4
          clear hc4
          go_wp2_with fail
          have HVB : Hid (ilB gr bs xs = false) := by unfold Hid; simp [ilB, Hhc1.out, Hhc2.out, Hhc4.out, HLXd.out]
          have HPR : Hid (ilR gr bs xs = []) := by unfold Hid ilR; rw [if_neg (by rw [HVB.out]; simp)]
          go_ret2
          exact ⟨(by rw [HVB.out, HPR.out]; exact RetI.mk (OwnI.nil _ _)), HB.out.trans (hc.mono HB.out.size)⟩
        | true =>
          have Hhc4 := Lib.hid hc4
          clear hc4
          go_wp2_with fail
          refine (impl_images gr _ bs _ xs _ HG.out (Hlv.out.below (HB.out.trans (hc.mono HB.out.size))) (Hxv.out.below (HB.out.trans (hc.mono HB.out.size))) (fun r hr => ⟨by have := (HRW.out.2.2 r hr).1; have := HLX.out; omega, (HRW.out.2.2 r hr).2⟩) (by have := HRW.out.1.2; omega)).mono ?_
          rintro e u4 ⟨x0, rfl, ho0, hq4⟩
          have hszv := hc.size
          replace hc := Below.next hc hq4
          clear hq4 c0_0 c0_1 c0_2 yr0
          obtain ⟨c0_0, c0_1, c0_2, yr0⟩ := HCC.out _ hc
          go_wp2_with fail
          have HVB : Hid (ilB gr bs xs = true) := by unfold Hid; simp [ilB, Hhc1.out, Hhc2.out, Hhc4.out, HLXd.out]
          have HPR : Hid (ilR gr bs xs = imagesL gr bs xs) := by unfold Hid ilR; rw [if_pos HVB.out]
          go_ret2
          exact ⟨(by rw [HVB.out, HPR.out]; exact RetI.mk (ho0.mono (by have := HB.out.size; omega))), HB.out.trans (hc.mono HB.out.size)⟩
      | true =>
        have HLXd : Hid (decide (xs.length = headLen bs) = false) := by have q := hc3; rw [bne_iff_ne] at q; exact decide_eq_false (by have := HRN.out; have := Exv.out; omega)
        go_wp2_with fail
        have HVB : Hid (ilB gr bs xs = false) := by unfold Hid; simp [ilB, Hhc1.out, Hhc2.out, HLXd.out]
        have HPR : Hid (ilR gr bs xs = []) := by unfold Hid ilR; rw [if_neg (by rw [HVB.out]; simp)]
        go_ret2
        exact ⟨(by rw [HVB.out, HPR.out]; exact RetI.mk (OwnI.nil _ _)), HB.out.trans (hc.mono HB.out.size)⟩
set_option maxRecDepth 100000 in
set_option maxHeartbeats 2000000 in
theorem spec_ImagesOf (gr : GroupD) (lv : Value) (bs : List (List Int)) (xv : Value) (xs : List Int) (w : World) (hbs : RdL kInts w lv bs) (hxs : Ints w xv xs) :
    Calls Try.prog 138 #[.agg #[.int .i64 gr.p, .int .i64 gr.q, .int .i64 gr.g], lv, xv] w fun e w' => RetI e w' w.heap.size (ilB gr bs xs) (ilR gr bs xs) ∧ Below w.heap.size w w' := by
  obtain ⟨lva, lvn, lvc, rfl⟩ := hbs.shape
  have Elv := Lib.hid hbs.len
  have Klv := Lib.hid hbs.capMax
  have Hlv := Lib.hid hbs
  clear hbs
  obtain ⟨xva, xvn, xvc, rfl⟩ := hxs.shape
  have Exv := Lib.hid hxs.len
  have Kxv := Lib.hid hxs.capMax
  have Hxv := Lib.hid hxs
  clear hxs
  obtain ⟨W, hW⟩ : ∃ W, W = w.alloc (.cells #[.int .i64 gr.p, .int .i64 gr.q, .int .i64 gr.g] 25) := ⟨_, rfl⟩
  have HB : Hid (Below w.heap.size w W) := by unfold Hid; rw [hW]; (repeat (first | exact Below.refl _ _ | assumption | refine Below.drew ?_ | refine Below.alloc ?_ (by first | (simp; done) | (simp; omega)) _ | refine Below.setCell ?_ (by first | (simp; done) | (simp; omega)) _))
  have c0_0 : W.cell? ⟨w.heap.size, 0, none⟩ = some (.int .i64 gr.p) := by rw [hW]; simp [go_sem]
  have c0_1 : W.cell? ⟨w.heap.size, 1, none⟩ = some (.int .i64 gr.q) := by rw [hW]; simp [go_sem]
  have c0_2 : W.cell? ⟨w.heap.size, 2, none⟩ = some (.int .i64 gr.g) := by rw [hW]; simp [go_sem]
  have HSW : Hid (W.heap.size = w.heap.size + 1) := by unfold Hid; rw [hW]; simp
  go_enter Try.func138, Try.ntmps138
  go_wp2_with fail
  rw [← hW]
  have hse : w.heap.size + 1 = W.heap.size := by have := HSW.out; omega
  (try rw [hse])
  clear hse
  clear hW
  have hc : Below W.heap.size W W := Below.refl _ _
  have HCC : Hid (∀ u, Below W.heap.size W u → u.cell? ⟨w.heap.size, 0, none⟩ = some (.int .i64 gr.p) ∧ u.cell? ⟨w.heap.size, 1, none⟩ = some (.int .i64 gr.q) ∧ u.cell? ⟨w.heap.size, 2, none⟩ = some (.int .i64 gr.g)) := fun u h => ⟨box_at c0_0 h, box_at c0_1 h, box_at c0_2 h⟩
  go_wp2_with fail
  refine (spec_l2Good gr _).mono ?_
  rintro e u1 ⟨rfl, hq1⟩
  replace hc := Below.next hc hq1
  clear hq1 c0_0 c0_1 c0_2
  obtain ⟨c0_0, c0_1, c0_2⟩ := HCC.out _ hc
  cases hc1 : goodG gr with
  | false =>
    have Hhc1 := Lib.hid hc1
    clear hc1
    go_wp2_with fail
    have HVB : Hid (ilB gr bs xs = false) := by unfold Hid; simp [ilB, Hhc1.out]
    have HPR : Hid (ilR gr bs xs = []) := by unfold Hid ilR; rw [if_neg (by rw [HVB.out]; simp)]
    go_ret2
    exact ⟨(by rw [HVB.out, HPR.out]; exact RetI.mk (OwnI.nil _ _)), HB.out.trans (hc.mono HB.out.size)⟩
  | true =>
    have HG := Lib.hid (goodG_ok hc1)
    have Hhc1 := Lib.hid hc1
    clear hc1
    go_wp2_with fail
    refine (spec_sBases gr _ bs _ HG.out (Hlv.out.below (HB.out.trans (hc.mono HB.out.size)))).mono ?_
    rintro e u2 ⟨rfl, hq2⟩
    replace hc := Below.next hc hq2
    clear hq2 c0_0 c0_1 c0_2
    obtain ⟨c0_0, c0_1, c0_2⟩ := HCC.out _ hc
    cases hc2 : rowsB gr bs with
    | false =>
      have Hhc2 := Lib.hid hc2
      clear hc2
      go_wp2_with fail
      have HVB : Hid (ilB gr bs xs = false) := by unfold Hid; simp [ilB, Hhc1.out, Hhc2.out]
      have HPR : Hid (ilR gr bs xs = []) := by unfold Hid ilR; rw [if_neg (by rw [HVB.out]; simp)]
      go_ret2
      exact ⟨(by rw [HVB.out, HPR.out]; exact RetI.mk (OwnI.nil _ _)), HB.out.trans (hc.mono HB.out.size)⟩
    | true =>
      have HRW := Lib.hid (rowsB_bd HG.out hc2)
      obtain ⟨lvb, lvo, r0a, r0n, r0c, rfl, hf1, hf2, hf3⟩ := first_row Hlv.out (by have := HRW.out.1.1; have := Elv.out; omega)
      have hlvp : 0 < lvn := by have := HRW.out.1.1; have := Elv.out; omega
      have hr0m : r0n ≤ 9223372036854775807 := by have q := hf3.capMax; unfold maxLen at q; omega
      have Kr0 : Hid (w.cell? ⟨lvb, lvo, none⟩ = some (.slice r0a r0n r0c)) := hf1
      have HRN := Lib.hid hf2
      have yr0 := box_at Kr0.out (HB.out.trans (hc.mono HB.out.size))
      clear hf1 hf2 hf3
      replace HCC : Hid (∀ u, Below W.heap.size W u → u.cell? ⟨w.heap.size, 0, none⟩ = some (.int .i64 gr.p) ∧ u.cell? ⟨w.heap.size, 1, none⟩ = some (.int .i64 gr.q) ∧ u.cell? ⟨w.heap.size, 2, none⟩ = some (.int .i64 gr.g) ∧ u.cell? ⟨lvb, lvo, none⟩ = some (.slice r0a r0n r0c)) := fun u h => by obtain ⟨c0_0, c0_1, c0_2⟩ := HCC.out u h; exact ⟨c0_0, c0_1, c0_2, box_at Kr0.out (HB.out.trans (h.mono HB.out.size))⟩
      have Hhc2 := Lib.hid hc2
      clear hc2
      cases hc3 : ((xvn : Int) != (r0n : Int)) with
      | false =>
        have HLX : Hid (xs.length = headLen bs) := by have q := hc3; rw [bne_eq_false_iff_eq] at q; unfold Hid; have := HRN.out; have := Exv.out; omega
        have HLXd : Hid (decide (xs.length = headLen bs) = true) := decide_eq_true HLX.out
        go_wp2_with fail
        refine (spec_gExps gr _ xs _ HG.out (Hxv.out.below (HB.out.trans (hc.mono HB.out.size)))).mono ?_
        rintro e u3 ⟨rfl, hq3⟩
        replace hc := Below.next hc hq3
        clear hq3 c0_0 c0_1 c0_2 yr0
        obtain ⟨c0_0, c0_1, c0_2, yr0⟩ := HCC.out _ hc
        cases hc4 : xs.all (expB gr) with
        | false =>
          have Hhc4 := Lib.hid hc4
          clear hc4
          go_wp2_with fail
          have HVB : Hid (ilB gr bs xs = false) := by unfold Hid; simp [ilB, Hhc1.out, Hhc2.out, Hhc4.out, HLXd.out]
          have HPR : Hid (ilR gr bs xs = []) := by unfold Hid ilR; rw [if_neg (by rw [HVB.out]; simp)]
          go_ret2
          exact ⟨(by rw [HVB.out, HPR.out]; exact RetI.mk (OwnI.nil _ _)), HB.out.trans (hc.mono HB.out.size)⟩
        | true =>
          have Hhc4 := Lib.hid hc4
          clear hc4
          go_wp2_with fail
          refine (spec_sImages gr _ bs _ xs _ HG.out (Hlv.out.below (HB.out.trans (hc.mono HB.out.size))) (Hxv.out.below (HB.out.trans (hc.mono HB.out.size))) (fun r hr => ⟨by have := (HRW.out.2.2 r hr).1; have := HLX.out; omega, (HRW.out.2.2 r hr).2⟩) (by have := HRW.out.1.2; omega)).mono ?_
          rintro e u4 ⟨x0, rfl, ho0, hq4⟩
          have hszv := hc.size
          replace hc := Below.next hc hq4
          clear hq4 c0_0 c0_1 c0_2 yr0
          obtain ⟨c0_0, c0_1, c0_2, yr0⟩ := HCC.out _ hc
          go_wp2_with fail
          have HVB : Hid (ilB gr bs xs = true) := by unfold Hid; simp [ilB, Hhc1.out, Hhc2.out, Hhc4.out, HLXd.out]
          have HPR : Hid (ilR gr bs xs = imagesL gr bs xs) := by unfold Hid ilR; rw [if_pos HVB.out]
          go_ret2
          exact ⟨(by rw [HVB.out, HPR.out]; exact RetI.mk (ho0.mono (by have := HB.out.size; omega))), HB.out.trans (hc.mono HB.out.size)⟩
      | true =>
        have HLXd : Hid (decide (xs.length = headLen bs) = false) := by have q := hc3; rw [bne_iff_ne] at q; exact decide_eq_false (by have := HRN.out; have := Exv.out; omega)
        go_wp2_with fail
        have HVB : Hid (ilB gr bs xs = false) := by unfold Hid; simp [ilB, Hhc1.out, Hhc2.out, HLXd.out]
        have HPR : Hid (ilR gr bs xs = []) := by unfold Hid ilR; rw [if_neg (by rw [HVB.out]; simp)]
        go_ret2
        exact ⟨(by rw [HVB.out, HPR.out]; exact RetI.mk (OwnI.nil _ _)), HB.out.trans (hc.mono HB.out.size)⟩
set_option maxRecDepth 100000 in
set_option maxHeartbeats 2000000 in
theorem spec_ProveLinear (gr : GroupD) (s : ByteArray) (lv : Value) (bs : List (List Int)) (xv : Value) (xs : List Int) (wv : Value) (ws : List Int) (w : World) (hs : s.size ≤ 1000000) (hbs : RdL kInts w lv bs) (hxs : Ints w xv xs) (hws : Ints w wv ws) :
    Calls Try.prog 33 #[.agg #[.int .i64 gr.p, .int .i64 gr.q, .int .i64 gr.g], .string s, lv, xv, wv] w fun e w' => RetP e w' w.heap.size (plB gr s bs xs ws) (plD gr s bs xs ws) ∧ Below w.heap.size w w' := by
  obtain ⟨lva, lvn, lvc, rfl⟩ := hbs.shape
  have Elv := Lib.hid hbs.len
  have Klv := Lib.hid hbs.capMax
  have Hlv := Lib.hid hbs
  clear hbs
  obtain ⟨xva, xvn, xvc, rfl⟩ := hxs.shape
  have Exv := Lib.hid hxs.len
  have Kxv := Lib.hid hxs.capMax
  have Hxv := Lib.hid hxs
  clear hxs
  obtain ⟨wva, wvn, wvc, rfl⟩ := hws.shape
  have Ewv := Lib.hid hws.len
  have Kwv := Lib.hid hws.capMax
  have Hwv := Lib.hid hws
  clear hws
  have HS2 := Lib.hid hs
  obtain ⟨W, hW⟩ : ∃ W, W = (w.alloc (.cells #[.int .i64 gr.p, .int .i64 gr.q, .int .i64 gr.g] 25)).alloc (.cells #[(.slice none 0 0), (.slice none 0 0), (.slice none 0 0)] 63) := ⟨_, rfl⟩
  have HB : Hid (Below w.heap.size w W) := by unfold Hid; rw [hW]; (repeat (first | exact Below.refl _ _ | assumption | refine Below.drew ?_ | refine Below.alloc ?_ (by first | (simp; done) | (simp; omega)) _ | refine Below.setCell ?_ (by first | (simp; done) | (simp; omega)) _))
  have c0_0 : W.cell? ⟨w.heap.size, 0, none⟩ = some (.int .i64 gr.p) := by rw [hW]; simp [go_sem]
  have c0_1 : W.cell? ⟨w.heap.size, 1, none⟩ = some (.int .i64 gr.q) := by rw [hW]; simp [go_sem]
  have c0_2 : W.cell? ⟨w.heap.size, 2, none⟩ = some (.int .i64 gr.g) := by rw [hW]; simp [go_sem]
  have HR1 : Hid (BoxN W (w.heap.size + 1) 63 [(.slice none 0 0), (.slice none 0 0), (.slice none 0 0)]) := by unfold Hid; rw [hW]; have h := (BoxN.new (w.alloc (.cells #[.int .i64 gr.p, .int .i64 gr.q, .int .i64 gr.g] 25)) [(.slice none 0 0), (.slice none 0 0), (.slice none 0 0)] 63); simpa using h
  have HSW : Hid (W.heap.size = w.heap.size + 2) := by unfold Hid; rw [hW]; simp
  have lr1 : w.heap.size + 1 < W.heap.size := by have := HSW.out; omega
  go_enter Try.func33, Try.ntmps33
  go_wp2_with fail
  rw [← hW]
  have hse : w.heap.size + 1 + 1 = W.heap.size := by have := HSW.out; omega
  (try rw [hse])
  clear hse
  clear hW
  have hc : Below W.heap.size W W := Below.refl _ _
  have HCC : Hid (∀ u, Below W.heap.size W u → u.cell? ⟨w.heap.size, 0, none⟩ = some (.int .i64 gr.p) ∧ u.cell? ⟨w.heap.size, 1, none⟩ = some (.int .i64 gr.q) ∧ u.cell? ⟨w.heap.size, 2, none⟩ = some (.int .i64 gr.g)) := fun u h => ⟨box_at c0_0 h, box_at c0_1 h, box_at c0_2 h⟩
  go_wp2_with fail
  refine (spec_sLabel gr s _ HS2.out).mono ?_
  rintro e u1 ⟨rfl, hq1⟩
  replace hc := Below.next hc hq1
  clear hq1 c0_0 c0_1 c0_2
  obtain ⟨c0_0, c0_1, c0_2⟩ := HCC.out _ hc
  cases hc1 : (goodG gr && decide (s.size ≤ 40)) with
  | false =>
    have Hhc1 := Lib.hid hc1
    clear hc1
    have HRE1 := Lib.hid (HR1.out.below hc)
    clear HR1
    have HBE := Lib.hid (HB.out.trans (hc.mono HB.out.size))
    have r1_0 := HRE1.out.cell (i := 0) rfl
    have r1_1 := HRE1.out.cell (i := 1) rfl
    have r1_2 := HRE1.out.cell (i := 2) rfl
    have fr1 := fun j => HRE1.out.frozen j
    go_wp2_with fail
    have HRF := Lib.hid (((HRE1.out.set 0 ((.slice none 0 0))).set 1 ((.slice none 0 0))).set 2 ((.slice none 0 0)))
    have HBF := Lib.hid (((HBE.out.setCell (p := ⟨w.heap.size + 1, 0, none⟩) (by show w.heap.size ≤ w.heap.size + 1; omega) ((.slice none 0 0))).setCell (p := ⟨w.heap.size + 1, 1, none⟩) (by show w.heap.size ≤ w.heap.size + 1; omega) ((.slice none 0 0))).setCell (p := ⟨w.heap.size + 1, 2, none⟩) (by show w.heap.size ≤ w.heap.size + 1; omega) ((.slice none 0 0)))
    clear r1_0 r1_1 r1_2 fr1
    have r1_0 := HRF.out.cell (i := 0) rfl
    have r1_1 := HRF.out.cell (i := 1) rfl
    have r1_2 := HRF.out.cell (i := 2) rfl
    try (go_wp2_with fail)
    have HVB : Hid (plB gr s bs xs ws = false) := by unfold Hid; have q := Hhc1.out; unfold plB; cases h1 : goodG gr with | false => rfl | true => (rw [h1, Bool.true_and] at q; rw [q]; rfl)
    have HPR : Hid (plD gr s bs xs ws = ⟨[], [], []⟩) := by unfold Hid plD; rw [if_neg (by rw [HVB.out]; simp)]; rfl
    refine bodyPost_ret (v := .tuple #[.agg #[(.slice none 0 0), (.slice none 0 0), (.slice none 0 0)], .bool false]) (by simp [results, Try.results33, go_sem, r1_0, r1_1, r1_2]) rfl ⟨(by rw [HVB.out, HPR.out]; exact RetP.mk (OwnI.nil _ _) (OwnI.nil _ _) (OwnI.nil _ _)), HBF.out⟩
  | true =>
    have HSG : Hid (goodG gr = true ∧ s.size ≤ 40) := by have q := hc1; rw [Bool.and_eq_true, decide_eq_true_iff] at q; exact q
    have HG := Lib.hid (goodG_ok HSG.out.1)
    have HSGd : Hid (decide (s.size ≤ 40) = true) := decide_eq_true HSG.out.2
    have Hhc1 := Lib.hid hc1
    clear hc1
    go_wp2_with fail
    refine (spec_sBases gr _ bs _ HG.out (Hlv.out.below (HB.out.trans (hc.mono HB.out.size)))).mono ?_
    rintro e u2 ⟨rfl, hq2⟩
    replace hc := Below.next hc hq2
    clear hq2 c0_0 c0_1 c0_2
    obtain ⟨c0_0, c0_1, c0_2⟩ := HCC.out _ hc
    cases hc2 : rowsB gr bs with
    | false =>
      have Hhc2 := Lib.hid hc2
      clear hc2
      have HRE1 := Lib.hid (HR1.out.below hc)
      clear HR1
      have HBE := Lib.hid (HB.out.trans (hc.mono HB.out.size))
      have r1_0 := HRE1.out.cell (i := 0) rfl
      have r1_1 := HRE1.out.cell (i := 1) rfl
      have r1_2 := HRE1.out.cell (i := 2) rfl
      have fr1 := fun j => HRE1.out.frozen j
      go_wp2_with fail
      have HRF := Lib.hid (((HRE1.out.set 0 ((.slice none 0 0))).set 1 ((.slice none 0 0))).set 2 ((.slice none 0 0)))
      have HBF := Lib.hid (((HBE.out.setCell (p := ⟨w.heap.size + 1, 0, none⟩) (by show w.heap.size ≤ w.heap.size + 1; omega) ((.slice none 0 0))).setCell (p := ⟨w.heap.size + 1, 1, none⟩) (by show w.heap.size ≤ w.heap.size + 1; omega) ((.slice none 0 0))).setCell (p := ⟨w.heap.size + 1, 2, none⟩) (by show w.heap.size ≤ w.heap.size + 1; omega) ((.slice none 0 0)))
      clear r1_0 r1_1 r1_2 fr1
      have r1_0 := HRF.out.cell (i := 0) rfl
      have r1_1 := HRF.out.cell (i := 1) rfl
      have r1_2 := HRF.out.cell (i := 2) rfl
      try (go_wp2_with fail)
      have HVB : Hid (plB gr s bs xs ws = false) := by unfold Hid; simp [plB, Hhc2.out, HSG.out.1, HSGd.out]
      have HPR : Hid (plD gr s bs xs ws = ⟨[], [], []⟩) := by unfold Hid plD; rw [if_neg (by rw [HVB.out]; simp)]; rfl
      refine bodyPost_ret (v := .tuple #[.agg #[(.slice none 0 0), (.slice none 0 0), (.slice none 0 0)], .bool false]) (by simp [results, Try.results33, go_sem, r1_0, r1_1, r1_2]) rfl ⟨(by rw [HVB.out, HPR.out]; exact RetP.mk (OwnI.nil _ _) (OwnI.nil _ _) (OwnI.nil _ _)), HBF.out⟩
    | true =>
      have HRW := Lib.hid (rowsB_bd HG.out hc2)
      have HRB : Hid (rowsB gr bs = true) := hc2
      obtain ⟨lvb, lvo, r0a, r0n, r0c, rfl, hf1, hf2, hf3⟩ := first_row Hlv.out (by have := HRW.out.1.1; have := Elv.out; omega)
      have hlvp : 0 < lvn := by have := HRW.out.1.1; have := Elv.out; omega
      have hr0m : r0n ≤ 9223372036854775807 := by have q := hf3.capMax; unfold maxLen at q; omega
      have Kr0 : Hid (w.cell? ⟨lvb, lvo, none⟩ = some (.slice r0a r0n r0c)) := hf1
      have HRN := Lib.hid hf2
      have yr0 := box_at Kr0.out (HB.out.trans (hc.mono HB.out.size))
      clear hf1 hf2 hf3
      replace HCC : Hid (∀ u, Below W.heap.size W u → u.cell? ⟨w.heap.size, 0, none⟩ = some (.int .i64 gr.p) ∧ u.cell? ⟨w.heap.size, 1, none⟩ = some (.int .i64 gr.q) ∧ u.cell? ⟨w.heap.size, 2, none⟩ = some (.int .i64 gr.g) ∧ u.cell? ⟨lvb, lvo, none⟩ = some (.slice r0a r0n r0c)) := fun u h => by obtain ⟨c0_0, c0_1, c0_2⟩ := HCC.out u h; exact ⟨c0_0, c0_1, c0_2, box_at Kr0.out (HB.out.trans (h.mono HB.out.size))⟩
      have Hhc2 := Lib.hid hc2
      clear hc2
      cases hc3 : ((xvn : Int) != (r0n : Int)) with
      | false =>
        have HLX : Hid (xs.length = headLen bs) := by have q := hc3; rw [bne_eq_false_iff_eq] at q; unfold Hid; have := HRN.out; have := Exv.out; omega
        have HLXd : Hid (decide (xs.length = headLen bs) = true) := decide_eq_true HLX.out
        cases hc4 : ((wvn : Int) != (xvn : Int)) with
        | false =>
          have HLW : Hid (ws.length = xs.length) := by have q := hc4; rw [bne_eq_false_iff_eq] at q; unfold Hid; have := Ewv.out; have := Exv.out; omega
          have HLWd : Hid (decide (ws.length = xs.length) = true) := decide_eq_true HLW.out
          go_wp2_with fail
          refine (spec_gExps gr _ xs _ HG.out (Hxv.out.below (HB.out.trans (hc.mono HB.out.size)))).mono ?_
          rintro e u3 ⟨rfl, hq3⟩
          replace hc := Below.next hc hq3
          clear hq3 c0_0 c0_1 c0_2 yr0
          obtain ⟨c0_0, c0_1, c0_2, yr0⟩ := HCC.out _ hc
          cases hc5 : xs.all (expB gr) with
          | false =>
            have Hhc5 := Lib.hid hc5
            clear hc5
            have HRE1 := Lib.hid (HR1.out.below hc)
            clear HR1
            have HBE := Lib.hid (HB.out.trans (hc.mono HB.out.size))
            have r1_0 := HRE1.out.cell (i := 0) rfl
            have r1_1 := HRE1.out.cell (i := 1) rfl
            have r1_2 := HRE1.out.cell (i := 2) rfl
            have fr1 := fun j => HRE1.out.frozen j
            go_wp2_with fail
            have HRF := Lib.hid (((HRE1.out.set 0 ((.slice none 0 0))).set 1 ((.slice none 0 0))).set 2 ((.slice none 0 0)))
            have HBF := Lib.hid (((HBE.out.setCell (p := ⟨w.heap.size + 1, 0, none⟩) (by show w.heap.size ≤ w.heap.size + 1; omega) ((.slice none 0 0))).setCell (p := ⟨w.heap.size + 1, 1, none⟩) (by show w.heap.size ≤ w.heap.size + 1; omega) ((.slice none 0 0))).setCell (p := ⟨w.heap.size + 1, 2, none⟩) (by show w.heap.size ≤ w.heap.size + 1; omega) ((.slice none 0 0)))
            clear r1_0 r1_1 r1_2 fr1
            have r1_0 := HRF.out.cell (i := 0) rfl
            have r1_1 := HRF.out.cell (i := 1) rfl
            have r1_2 := HRF.out.cell (i := 2) rfl
            try (go_wp2_with fail)
            have HVB : Hid (plB gr s bs xs ws = false) := by unfold Hid; simp [plB, Hhc2.out, Hhc5.out, HSG.out.1, HSGd.out, HLXd.out, HLWd.out]
            have HPR : Hid (plD gr s bs xs ws = ⟨[], [], []⟩) := by unfold Hid plD; rw [if_neg (by rw [HVB.out]; simp)]; rfl
            refine bodyPost_ret (v := .tuple #[.agg #[(.slice none 0 0), (.slice none 0 0), (.slice none 0 0)], .bool false]) (by simp [results, Try.results33, go_sem, r1_0, r1_1, r1_2]) rfl ⟨(by rw [HVB.out, HPR.out]; exact RetP.mk (OwnI.nil _ _) (OwnI.nil _ _) (OwnI.nil _ _)), HBF.out⟩
          | true =>
            have HXA : Hid (xs.all (expB gr) = true) := hc5
            have Hhc5 := Lib.hid hc5
            clear hc5
            go_wp2_with fail
            refine (spec_gExps gr _ ws _ HG.out (Hwv.out.below (HB.out.trans (hc.mono HB.out.size)))).mono ?_
            rintro e u4 ⟨rfl, hq4⟩
            replace hc := Below.next hc hq4
            clear hq4 c0_0 c0_1 c0_2 yr0
            obtain ⟨c0_0, c0_1, c0_2, yr0⟩ := HCC.out _ hc
            cases hc6 : ws.all (expB gr) with
            | false =>
              have Hhc6 := Lib.hid hc6
              clear hc6
              have HRE1 := Lib.hid (HR1.out.below hc)
              clear HR1
              have HBE := Lib.hid (HB.out.trans (hc.mono HB.out.size))
              have r1_0 := HRE1.out.cell (i := 0) rfl
              have r1_1 := HRE1.out.cell (i := 1) rfl
              have r1_2 := HRE1.out.cell (i := 2) rfl
              have fr1 := fun j => HRE1.out.frozen j
              go_wp2_with fail
              have HRF := Lib.hid (((HRE1.out.set 0 ((.slice none 0 0))).set 1 ((.slice none 0 0))).set 2 ((.slice none 0 0)))
              have HBF := Lib.hid (((HBE.out.setCell (p := ⟨w.heap.size + 1, 0, none⟩) (by show w.heap.size ≤ w.heap.size + 1; omega) ((.slice none 0 0))).setCell (p := ⟨w.heap.size + 1, 1, none⟩) (by show w.heap.size ≤ w.heap.size + 1; omega) ((.slice none 0 0))).setCell (p := ⟨w.heap.size + 1, 2, none⟩) (by show w.heap.size ≤ w.heap.size + 1; omega) ((.slice none 0 0)))
              clear r1_0 r1_1 r1_2 fr1
              have r1_0 := HRF.out.cell (i := 0) rfl
              have r1_1 := HRF.out.cell (i := 1) rfl
              have r1_2 := HRF.out.cell (i := 2) rfl
              try (go_wp2_with fail)
              have HVB : Hid (plB gr s bs xs ws = false) := by unfold Hid; simp [plB, Hhc2.out, Hhc5.out, Hhc6.out, HSG.out.1, HSGd.out, HLXd.out, HLWd.out]
              have HPR : Hid (plD gr s bs xs ws = ⟨[], [], []⟩) := by unfold Hid plD; rw [if_neg (by rw [HVB.out]; simp)]; rfl
              refine bodyPost_ret (v := .tuple #[.agg #[(.slice none 0 0), (.slice none 0 0), (.slice none 0 0)], .bool false]) (by simp [results, Try.results33, go_sem, r1_0, r1_1, r1_2]) rfl ⟨(by rw [HVB.out, HPR.out]; exact RetP.mk (OwnI.nil _ _) (OwnI.nil _ _) (OwnI.nil _ _)), HBF.out⟩
            | true =>
              have HWA : Hid (ws.all (expB gr) = true) := hc6
              have HOK := Lib.hid (prvOk HG.out HSG.out.2 HRB.out HLX.out HLW.out HXA.out HWA.out)
              have Hhc6 := Lib.hid hc6
              clear hc6
              go_wp2_with fail
              refine (spec_sProve gr s _ bs _ xs _ ws _ HG.out (Hlv.out.below (HB.out.trans (hc.mono HB.out.size))) (Hxv.out.below (HB.out.trans (hc.mono HB.out.size))) (Hwv.out.below (HB.out.trans (hc.mono HB.out.size))) HOK.out).mono ?_
              rintro e u5 ⟨v, rfl, hov, hq5⟩
              have hszv := hc.size
              obtain ⟨_, _, _, rfl, ho0, ho1, ho2⟩ := own_proof hov
              obtain ⟨xa0, xn0, xc0, rfl⟩ := ho0.ints.shape
              obtain ⟨xa1, xn1, xc1, rfl⟩ := ho1.ints.shape
              obtain ⟨xa2, xn2, xc2, rfl⟩ := ho2.ints.shape
              replace hc := Below.next hc hq5
              clear hq5 c0_0 c0_1 c0_2 yr0
              obtain ⟨c0_0, c0_1, c0_2, yr0⟩ := HCC.out _ hc
              have HRE1 := Lib.hid (HR1.out.below hc)
              clear HR1
              have HBE := Lib.hid (HB.out.trans (hc.mono HB.out.size))
              have r1_0 := HRE1.out.cell (i := 0) rfl
              have r1_1 := HRE1.out.cell (i := 1) rfl
              have r1_2 := HRE1.out.cell (i := 2) rfl
              have fr1 := fun j => HRE1.out.frozen j
              go_wp2_with fail
              have HRF := Lib.hid (((HRE1.out.set 0 ((.slice xa0 xn0 xc0))).set 1 ((.slice xa1 xn1 xc1))).set 2 ((.slice xa2 xn2 xc2)))
              have HBF := Lib.hid (((HBE.out.setCell (p := ⟨w.heap.size + 1, 0, none⟩) (by show w.heap.size ≤ w.heap.size + 1; omega) ((.slice xa0 xn0 xc0))).setCell (p := ⟨w.heap.size + 1, 1, none⟩) (by show w.heap.size ≤ w.heap.size + 1; omega) ((.slice xa1 xn1 xc1))).setCell (p := ⟨w.heap.size + 1, 2, none⟩) (by show w.heap.size ≤ w.heap.size + 1; omega) ((.slice xa2 xn2 xc2)))
              clear r1_0 r1_1 r1_2 fr1
              have r1_0 := HRF.out.cell (i := 0) rfl
              have r1_1 := HRF.out.cell (i := 1) rfl
              have r1_2 := HRF.out.cell (i := 2) rfl
              try (go_wp2_with fail)
              have HVB : Hid (plB gr s bs xs ws = true) := by unfold Hid; simp [plB, Hhc2.out, Hhc5.out, Hhc6.out, HSG.out.1, HSGd.out, HLXd.out, HLWd.out]
              have HPR : Hid (plD gr s bs xs ws = pvD gr s bs xs ws) := by unfold Hid plD; rw [if_pos HVB.out]
              refine bodyPost_ret (v := .tuple #[.agg #[(.slice xa0 xn0 xc0), (.slice xa1 xn1 xc1), (.slice xa2 xn2 xc2)], .bool true]) (by simp [results, Try.results33, go_sem, r1_0, r1_1, r1_2]) rfl ⟨(by rw [HVB.out, HPR.out]; exact RetP.mk ((((ho0.oth (b := w.heap.size + 1) (by omega) 0 ((.slice xa0 xn0 xc0))).oth (b := w.heap.size + 1) (by omega) 1 ((.slice xa1 xn1 xc1))).oth (b := w.heap.size + 1) (by omega) 2 ((.slice xa2 xn2 xc2))).mono (by omega)) ((((ho1.oth (b := w.heap.size + 1) (by omega) 0 ((.slice xa0 xn0 xc0))).oth (b := w.heap.size + 1) (by omega) 1 ((.slice xa1 xn1 xc1))).oth (b := w.heap.size + 1) (by omega) 2 ((.slice xa2 xn2 xc2))).mono (by omega)) ((((ho2.oth (b := w.heap.size + 1) (by omega) 0 ((.slice xa0 xn0 xc0))).oth (b := w.heap.size + 1) (by omega) 1 ((.slice xa1 xn1 xc1))).oth (b := w.heap.size + 1) (by omega) 2 ((.slice xa2 xn2 xc2))).mono (by omega))), HBF.out⟩
        | true =>
          have HLWd : Hid (decide (ws.length = xs.length) = false) := by have q := hc4; rw [bne_iff_ne] at q; exact decide_eq_false (by have := Ewv.out; have := Exv.out; omega)
          have HRE1 := Lib.hid (HR1.out.below hc)
          clear HR1
          have HBE := Lib.hid (HB.out.trans (hc.mono HB.out.size))
          have r1_0 := HRE1.out.cell (i := 0) rfl
          have r1_1 := HRE1.out.cell (i := 1) rfl
          have r1_2 := HRE1.out.cell (i := 2) rfl
          have fr1 := fun j => HRE1.out.frozen j
          go_wp2_with fail
          have HRF := Lib.hid (((HRE1.out.set 0 ((.slice none 0 0))).set 1 ((.slice none 0 0))).set 2 ((.slice none 0 0)))
          have HBF := Lib.hid (((HBE.out.setCell (p := ⟨w.heap.size + 1, 0, none⟩) (by show w.heap.size ≤ w.heap.size + 1; omega) ((.slice none 0 0))).setCell (p := ⟨w.heap.size + 1, 1, none⟩) (by show w.heap.size ≤ w.heap.size + 1; omega) ((.slice none 0 0))).setCell (p := ⟨w.heap.size + 1, 2, none⟩) (by show w.heap.size ≤ w.heap.size + 1; omega) ((.slice none 0 0)))
          clear r1_0 r1_1 r1_2 fr1
          have r1_0 := HRF.out.cell (i := 0) rfl
          have r1_1 := HRF.out.cell (i := 1) rfl
          have r1_2 := HRF.out.cell (i := 2) rfl
          try (go_wp2_with fail)
          have HVB : Hid (plB gr s bs xs ws = false) := by unfold Hid; simp [plB, Hhc2.out, HSG.out.1, HSGd.out, HLXd.out, HLWd.out]
          have HPR : Hid (plD gr s bs xs ws = ⟨[], [], []⟩) := by unfold Hid plD; rw [if_neg (by rw [HVB.out]; simp)]; rfl
          refine bodyPost_ret (v := .tuple #[.agg #[(.slice none 0 0), (.slice none 0 0), (.slice none 0 0)], .bool false]) (by simp [results, Try.results33, go_sem, r1_0, r1_1, r1_2]) rfl ⟨(by rw [HVB.out, HPR.out]; exact RetP.mk (OwnI.nil _ _) (OwnI.nil _ _) (OwnI.nil _ _)), HBF.out⟩
      | true =>
        have HLXd : Hid (decide (xs.length = headLen bs) = false) := by have q := hc3; rw [bne_iff_ne] at q; exact decide_eq_false (by have := HRN.out; have := Exv.out; omega)
        have HRE1 := Lib.hid (HR1.out.below hc)
        clear HR1
        have HBE := Lib.hid (HB.out.trans (hc.mono HB.out.size))
        have r1_0 := HRE1.out.cell (i := 0) rfl
        have r1_1 := HRE1.out.cell (i := 1) rfl
        have r1_2 := HRE1.out.cell (i := 2) rfl
        have fr1 := fun j => HRE1.out.frozen j
        go_wp2_with fail
        have HRF := Lib.hid (((HRE1.out.set 0 ((.slice none 0 0))).set 1 ((.slice none 0 0))).set 2 ((.slice none 0 0)))
        have HBF := Lib.hid (((HBE.out.setCell (p := ⟨w.heap.size + 1, 0, none⟩) (by show w.heap.size ≤ w.heap.size + 1; omega) ((.slice none 0 0))).setCell (p := ⟨w.heap.size + 1, 1, none⟩) (by show w.heap.size ≤ w.heap.size + 1; omega) ((.slice none 0 0))).setCell (p := ⟨w.heap.size + 1, 2, none⟩) (by show w.heap.size ≤ w.heap.size + 1; omega) ((.slice none 0 0)))
        clear r1_0 r1_1 r1_2 fr1
        have r1_0 := HRF.out.cell (i := 0) rfl
        have r1_1 := HRF.out.cell (i := 1) rfl
        have r1_2 := HRF.out.cell (i := 2) rfl
        try (go_wp2_with fail)
        have HVB : Hid (plB gr s bs xs ws = false) := by unfold Hid; simp [plB, Hhc2.out, HSG.out.1, HSGd.out, HLXd.out]
        have HPR : Hid (plD gr s bs xs ws = ⟨[], [], []⟩) := by unfold Hid plD; rw [if_neg (by rw [HVB.out]; simp)]; rfl
        refine bodyPost_ret (v := .tuple #[.agg #[(.slice none 0 0), (.slice none 0 0), (.slice none 0 0)], .bool false]) (by simp [results, Try.results33, go_sem, r1_0, r1_1, r1_2]) rfl ⟨(by rw [HVB.out, HPR.out]; exact RetP.mk (OwnI.nil _ _) (OwnI.nil _ _) (OwnI.nil _ _)), HBF.out⟩
theorem impl_ProveLinearP (gr : GroupD) (s : ByteArray) (lv : Value) (bs : List (List Int)) (xv : Value) (xs : List Int) (wv : Value) (ws : List Int) (w : World) (hs : s.size ≤ 1000000) (hbs : RdL kInts w lv bs) (hxs : Ints w xv xs) (hws : Ints w wv ws) :
    Calls Try.prog 32 #[.agg #[.int .i64 gr.p, .int .i64 gr.q, .int .i64 gr.g], .string s, lv, xv, wv] w fun e w' => RetP e w' w.heap.size (plB gr s bs xs ws) (plD gr s bs xs ws) ∧ Below w.heap.size w w' := by
  refine (impl_ProveLinear gr s lv bs xv xs wv ws w hs hbs hxs hws).mono ?_
  rintro e w' ⟨v, rfl, ho, hb⟩
  obtain ⟨x, y, z, rfl, h1, h2, h3⟩ := own_proof ho
  exact ⟨RetP.mk h1 h2 h3, hb⟩
set_option maxRecDepth 100000 in
set_option maxHeartbeats 2000000 in
theorem impl_VerifyLinear (gr : GroupD) (s : ByteArray) (lv : Value) (bs : List (List Int)) (iv : Value) (ims : List Int) (pv : Value) (d : ProofD) (w : World) (hs : s.size ≤ 1000000) (hbs : RdL kInts w lv bs) (hims : Ints w iv ims) (hp : PfR w pv d) :
    Calls Try.prog 35 #[.agg #[.int .i64 gr.p, .int .i64 gr.q, .int .i64 gr.g], .string s, lv, iv, pv] w fun e w' => e = .returned (.tuple #[.bool (vlR gr s bs ims d), .bool (vlA gr s bs ims)]) ∧ Below w.heap.size w w' := by
  obtain ⟨xcv, xhv, xrv, rfl, hxc, hxh, hxr⟩ := hp
  obtain ⟨xca, xcn, xcc, rfl⟩ := hxc.shape
  have Exc := Lib.hid hxc.len
  have Kxc := Lib.hid hxc.capMax
  have Hxc := Lib.hid hxc
  clear hxc
  obtain ⟨xha, xhn, xhc, rfl⟩ := hxh.shape
  have Exh := Lib.hid hxh.len
  have Kxh := Lib.hid hxh.capMax
  have Hxh := Lib.hid hxh
  clear hxh
  obtain ⟨xra, xrn, xrc, rfl⟩ := hxr.shape
  have Exr := Lib.hid hxr.len
  have Kxr := Lib.hid hxr.capMax
  have Hxr := Lib.hid hxr
  clear hxr
  obtain ⟨lva, lvn, lvc, rfl⟩ := hbs.shape
  have Elv := Lib.hid hbs.len
  have Klv := Lib.hid hbs.capMax
  have Hlv := Lib.hid hbs
  clear hbs
  obtain ⟨iva, ivn, ivc, rfl⟩ := hims.shape
  have Eiv := Lib.hid hims.len
  have Kiv := Lib.hid hims.capMax
  have Hiv := Lib.hid hims
  clear hims
  have HS2 := Lib.hid hs
  have HS : Hid (s.size ≤ 9223372036854775807) := by unfold Hid; omega
  obtain ⟨W, hW⟩ : ∃ W, W = (w.alloc (.cells #[.int .i64 gr.p, .int .i64 gr.q, .int .i64 gr.g] 25)).alloc (.cells #[(.slice xca xcn xcc), (.slice xha xhn xhc), (.slice xra xrn xrc)] 63) := ⟨_, rfl⟩
  have HB : Hid (Below w.heap.size w W) := by unfold Hid; rw [hW]; (repeat (first | exact Below.refl _ _ | assumption | refine Below.drew ?_ | refine Below.alloc ?_ (by first | (simp; done) | (simp; omega)) _ | refine Below.setCell ?_ (by first | (simp; done) | (simp; omega)) _))
  have c0_0 : W.cell? ⟨w.heap.size, 0, none⟩ = some (.int .i64 gr.p) := by rw [hW]; simp [go_sem]
  have c0_1 : W.cell? ⟨w.heap.size, 1, none⟩ = some (.int .i64 gr.q) := by rw [hW]; simp [go_sem]
  have c0_2 : W.cell? ⟨w.heap.size, 2, none⟩ = some (.int .i64 gr.g) := by rw [hW]; simp [go_sem]
  have c1_0 : W.cell? ⟨w.heap.size + 1, 0, none⟩ = some ((.slice xca xcn xcc)) := by rw [hW]; simp [go_sem]
  have c1_1 : W.cell? ⟨w.heap.size + 1, 1, none⟩ = some ((.slice xha xhn xhc)) := by rw [hW]; simp [go_sem]
  have c1_2 : W.cell? ⟨w.heap.size + 1, 2, none⟩ = some ((.slice xra xrn xrc)) := by rw [hW]; simp [go_sem]
  have HSW : Hid (W.heap.size = w.heap.size + 2) := by unfold Hid; rw [hW]; simp
  go_enter Try.func35, Try.ntmps35
  go_wp2_with fail
  rw [← hW]
  have hse : w.heap.size + 1 + 1 = W.heap.size := by have := HSW.out; omega
  (try rw [hse])
  clear hse
  clear hW
  have hc : Below W.heap.size W W := Below.refl _ _
  have HCC : Hid (∀ u, Below W.heap.size W u → u.cell? ⟨w.heap.size, 0, none⟩ = some (.int .i64 gr.p) ∧ u.cell? ⟨w.heap.size, 1, none⟩ = some (.int .i64 gr.q) ∧ u.cell? ⟨w.heap.size, 2, none⟩ = some (.int .i64 gr.g) ∧ u.cell? ⟨w.heap.size + 1, 0, none⟩ = some ((.slice xca xcn xcc)) ∧ u.cell? ⟨w.heap.size + 1, 1, none⟩ = some ((.slice xha xhn xhc)) ∧ u.cell? ⟨w.heap.size + 1, 2, none⟩ = some ((.slice xra xrn xrc))) := fun u h => ⟨box_at c0_0 h, box_at c0_1 h, box_at c0_2 h, box_at c1_0 h, box_at c1_1 h, box_at c1_2 h⟩
  go_wp2_with fail
  refine (impl_IsValidGroup gr _).mono ?_
  rintro e u1 ⟨rfl, hq1⟩
  replace hc := Below.next hc hq1
  clear hq1 c0_0 c0_1 c0_2 c1_0 c1_1 c1_2
  obtain ⟨c0_0, c0_1, c0_2, c1_0, c1_1, c1_2⟩ := HCC.out _ hc
  cases hc1 : goodG gr with
  | false =>
    have Hhc1 := Lib.hid hc1
    clear hc1
    go_wp2_with fail
    have HV : Hid ((.tuple #[.bool (vlR gr s bs ims d), .bool (vlA gr s bs ims)] : Value) = .tuple #[.bool false, .bool false]) := by unfold Hid; simp [vlR, vlA, Hhc1.out]
    go_ret2
    exact ⟨congrArg Ending.returned HV.out.symm, HB.out.trans (hc.mono HB.out.size)⟩
  | true =>
    have HG := Lib.hid (goodG_ok hc1)
    have Hhc1 := Lib.hid hc1
    clear hc1
    go_wp2_with fail
    refine (impl_isLabel s _ HS.out).mono ?_
    rintro e u2 ⟨rfl, rfl⟩
    cases hc2 : decide (s.size ≤ 40) with
    | false =>
      go_wp2_with fail
      have HV : Hid ((.tuple #[.bool (vlR gr s bs ims d), .bool (vlA gr s bs ims)] : Value) = .tuple #[.bool false, .bool false]) := by unfold Hid; simp [vlR, vlA, Hhc1.out, hc2]
      go_ret2
      exact ⟨congrArg Ending.returned HV.out.symm, HB.out.trans (hc.mono HB.out.size)⟩
    | true =>
      have HSG : Hid (s.size ≤ 40) := by unfold Hid; exact of_decide_eq_true hc2
      go_wp2_with fail
      refine (impl_areRows gr _ bs _ HG.out (Hlv.out.below (HB.out.trans (hc.mono HB.out.size)))).mono ?_
      rintro e u3 ⟨rfl, hq3⟩
      replace hc := Below.next hc hq3
      clear hq3 c0_0 c0_1 c0_2 c1_0 c1_1 c1_2
      obtain ⟨c0_0, c0_1, c0_2, c1_0, c1_1, c1_2⟩ := HCC.out _ hc
      cases hc3 : rowsB gr bs with
      | false =>
        have Hhc3 := Lib.hid hc3
        clear hc3
        go_wp2_with fail
        have HV : Hid ((.tuple #[.bool (vlR gr s bs ims d), .bool (vlA gr s bs ims)] : Value) = .tuple #[.bool false, .bool false]) := by unfold Hid; simp [vlR, vlA, Hhc1.out, hc2, Hhc3.out]
        go_ret2
        exact ⟨congrArg Ending.returned HV.out.symm, HB.out.trans (hc.mono HB.out.size)⟩
      | true =>
        have HRW := Lib.hid (rowsB_bd HG.out hc3)
        have Hhc3 := Lib.hid hc3
        clear hc3
        cases hc4 : ((ivn : Int) != (lvn : Int)) with
        | false =>
          have HLI : Hid (ims.length = bs.length) := by have q := hc4; rw [bne_eq_false_iff_eq] at q; unfold Hid; have := Eiv.out; have := Elv.out; omega
          have HLId : Hid (decide (ims.length = bs.length) = true) := decide_eq_true HLI.out
          go_wp2_with fail
          refine (impl_hasAll gr _ ims _ HG.out (Hiv.out.below (HB.out.trans (hc.mono HB.out.size)))).mono ?_
          rintro e u4 ⟨rfl, hq4⟩
          replace hc := Below.next hc hq4
          clear hq4 c0_0 c0_1 c0_2 c1_0 c1_1 c1_2
          obtain ⟨c0_0, c0_1, c0_2, c1_0, c1_1, c1_2⟩ := HCC.out _ hc
          cases hc5 : ims.all (elB gr) with
          | false =>
            have Hhc5 := Lib.hid hc5
            clear hc5
            go_wp2_with fail
            have HV : Hid ((.tuple #[.bool (vlR gr s bs ims d), .bool (vlA gr s bs ims)] : Value) = .tuple #[.bool false, .bool false]) := by unfold Hid; simp [vlR, vlA, Hhc1.out, hc2, Hhc3.out, Hhc5.out, HLId.out]
            go_ret2
            exact ⟨congrArg Ending.returned HV.out.symm, HB.out.trans (hc.mono HB.out.size)⟩
          | true =>
            have HSO : Hid (StmtOk gr s bs ims) := ⟨HSG.out, HRW.out.1.1, HRW.out.1.2, HRW.out.2.1.2, HRW.out.2.2, HLI.out, all_small HG.out hc5⟩
            have Hhc5 := Lib.hid hc5
            clear hc5
            go_wp2_with fail
            refine (impl_verifyLinear gr s _ bs _ ims _ d _ HG.out (Hlv.out.below (HB.out.trans (hc.mono HB.out.size))) (Hiv.out.below (HB.out.trans (hc.mono HB.out.size))) (rd_of_PfR (PfR.mk (Hxc.out.below (HB.out.trans (hc.mono HB.out.size))) (Hxh.out.below (HB.out.trans (hc.mono HB.out.size))) (Hxr.out.below (HB.out.trans (hc.mono HB.out.size))))) HSO.out).mono ?_
            rintro e u5 ⟨rfl, hq5⟩
            replace hc := Below.next hc hq5
            clear hq5 c0_0 c0_1 c0_2 c1_0 c1_1 c1_2
            obtain ⟨c0_0, c0_1, c0_2, c1_0, c1_1, c1_2⟩ := HCC.out _ hc
            cases hc6 : vlB gr s bs ims d with
            | false =>
              have Hhc6 := Lib.hid hc6
              clear hc6
              go_wp2_with fail
              have HV : Hid ((.tuple #[.bool (vlR gr s bs ims d), .bool (vlA gr s bs ims)] : Value) = .tuple #[.bool false, .bool true]) := by unfold Hid; simp [vlR, vlA, Hhc1.out, hc2, Hhc3.out, Hhc5.out, Hhc6.out, HLId.out]
              go_ret2
              exact ⟨congrArg Ending.returned HV.out.symm, HB.out.trans (hc.mono HB.out.size)⟩
            | true =>
              have Hhc6 := Lib.hid hc6
              clear hc6
              go_wp2_with fail
              have HV : Hid ((.tuple #[.bool (vlR gr s bs ims d), .bool (vlA gr s bs ims)] : Value) = .tuple #[.bool true, .bool true]) := by unfold Hid; simp [vlR, vlA, Hhc1.out, hc2, Hhc3.out, Hhc5.out, Hhc6.out, HLId.out]
              go_ret2
              exact ⟨congrArg Ending.returned HV.out.symm, HB.out.trans (hc.mono HB.out.size)⟩
        | true =>
          have HLId : Hid (decide (ims.length = bs.length) = false) := by have q := hc4; rw [bne_iff_ne] at q; exact decide_eq_false (by have := Eiv.out; have := Elv.out; omega)
          go_wp2_with fail
          have HV : Hid ((.tuple #[.bool (vlR gr s bs ims d), .bool (vlA gr s bs ims)] : Value) = .tuple #[.bool false, .bool false]) := by unfold Hid; simp [vlR, vlA, Hhc1.out, hc2, Hhc3.out, HLId.out]
          go_ret2
          exact ⟨congrArg Ending.returned HV.out.symm, HB.out.trans (hc.mono HB.out.size)⟩
set_option maxRecDepth 100000 in
set_option maxHeartbeats 2000000 in
theorem spec_VerifyLinear (gr : GroupD) (s : ByteArray) (lv : Value) (bs : List (List Int)) (iv : Value) (ims : List Int) (pv : Value) (d : ProofD) (w : World) (hs : s.size ≤ 1000000) (hbs : RdL kInts w lv bs) (hims : Ints w iv ims) (hp : PfR w pv d) :
    Calls Try.prog 36 #[.agg #[.int .i64 gr.p, .int .i64 gr.q, .int .i64 gr.g], .string s, lv, iv, pv] w fun e w' => e = .returned (.tuple #[.bool (vlR gr s bs ims d), .bool (vlA gr s bs ims)]) ∧ Below w.heap.size w w' := by
  obtain ⟨xcv, xhv, xrv, rfl, hxc, hxh, hxr⟩ := hp
  obtain ⟨xca, xcn, xcc, rfl⟩ := hxc.shape
  have Exc := Lib.hid hxc.len
  have Kxc := Lib.hid hxc.capMax
  have Hxc := Lib.hid hxc
  clear hxc
  obtain ⟨xha, xhn, xhc, rfl⟩ := hxh.shape
  have Exh := Lib.hid hxh.len
  have Kxh := Lib.hid hxh.capMax
  have Hxh := Lib.hid hxh
  clear hxh
  obtain ⟨xra, xrn, xrc, rfl⟩ := hxr.shape
  have Exr := Lib.hid hxr.len
  have Kxr := Lib.hid hxr.capMax
  have Hxr := Lib.hid hxr
  clear hxr
  obtain ⟨lva, lvn, lvc, rfl⟩ := hbs.shape
  have Elv := Lib.hid hbs.len
  have Klv := Lib.hid hbs.capMax
  have Hlv := Lib.hid hbs
  clear hbs
  obtain ⟨iva, ivn, ivc, rfl⟩ := hims.shape
  have Eiv := Lib.hid hims.len
  have Kiv := Lib.hid hims.capMax
  have Hiv := Lib.hid hims
  clear hims
  have HS2 := Lib.hid hs
  have HS : Hid (s.size ≤ 9223372036854775807) := by unfold Hid; omega
  obtain ⟨W, hW⟩ : ∃ W, W = (w.alloc (.cells #[.int .i64 gr.p, .int .i64 gr.q, .int .i64 gr.g] 25)).alloc (.cells #[(.slice xca xcn xcc), (.slice xha xhn xhc), (.slice xra xrn xrc)] 63) := ⟨_, rfl⟩
  have HB : Hid (Below w.heap.size w W) := by unfold Hid; rw [hW]; (repeat (first | exact Below.refl _ _ | assumption | refine Below.drew ?_ | refine Below.alloc ?_ (by first | (simp; done) | (simp; omega)) _ | refine Below.setCell ?_ (by first | (simp; done) | (simp; omega)) _))
  have c0_0 : W.cell? ⟨w.heap.size, 0, none⟩ = some (.int .i64 gr.p) := by rw [hW]; simp [go_sem]
  have c0_1 : W.cell? ⟨w.heap.size, 1, none⟩ = some (.int .i64 gr.q) := by rw [hW]; simp [go_sem]
  have c0_2 : W.cell? ⟨w.heap.size, 2, none⟩ = some (.int .i64 gr.g) := by rw [hW]; simp [go_sem]
  have c1_0 : W.cell? ⟨w.heap.size + 1, 0, none⟩ = some ((.slice xca xcn xcc)) := by rw [hW]; simp [go_sem]
  have c1_1 : W.cell? ⟨w.heap.size + 1, 1, none⟩ = some ((.slice xha xhn xhc)) := by rw [hW]; simp [go_sem]
  have c1_2 : W.cell? ⟨w.heap.size + 1, 2, none⟩ = some ((.slice xra xrn xrc)) := by rw [hW]; simp [go_sem]
  have HSW : Hid (W.heap.size = w.heap.size + 2) := by unfold Hid; rw [hW]; simp
  go_enter Try.func36, Try.ntmps36
  go_wp2_with fail
  rw [← hW]
  have hse : w.heap.size + 1 + 1 = W.heap.size := by have := HSW.out; omega
  (try rw [hse])
  clear hse
  clear hW
  have hc : Below W.heap.size W W := Below.refl _ _
  have HCC : Hid (∀ u, Below W.heap.size W u → u.cell? ⟨w.heap.size, 0, none⟩ = some (.int .i64 gr.p) ∧ u.cell? ⟨w.heap.size, 1, none⟩ = some (.int .i64 gr.q) ∧ u.cell? ⟨w.heap.size, 2, none⟩ = some (.int .i64 gr.g) ∧ u.cell? ⟨w.heap.size + 1, 0, none⟩ = some ((.slice xca xcn xcc)) ∧ u.cell? ⟨w.heap.size + 1, 1, none⟩ = some ((.slice xha xhn xhc)) ∧ u.cell? ⟨w.heap.size + 1, 2, none⟩ = some ((.slice xra xrn xrc))) := fun u h => ⟨box_at c0_0 h, box_at c0_1 h, box_at c0_2 h, box_at c1_0 h, box_at c1_1 h, box_at c1_2 h⟩
  go_wp2_with fail
  refine (spec_sLabel gr s _ HS2.out).mono ?_
  rintro e u1 ⟨rfl, hq1⟩
  replace hc := Below.next hc hq1
  clear hq1 c0_0 c0_1 c0_2 c1_0 c1_1 c1_2
  obtain ⟨c0_0, c0_1, c0_2, c1_0, c1_1, c1_2⟩ := HCC.out _ hc
  cases hc1 : (goodG gr && decide (s.size ≤ 40)) with
  | false =>
    have Hhc1 := Lib.hid hc1
    clear hc1
    go_wp2_with fail
    have HVA0 : Hid (vlA gr s bs ims = false) := by have q := Hhc1.out; unfold Hid vlA; cases h1 : goodG gr with | false => rfl | true => (rw [h1, Bool.true_and] at q; rw [q]; rfl)
    have HV : Hid ((.tuple #[.bool (vlR gr s bs ims d), .bool (vlA gr s bs ims)] : Value) = .tuple #[.bool false, .bool false]) := by unfold Hid vlR; rw [HVA0.out]; rfl
    go_ret2
    exact ⟨congrArg Ending.returned HV.out.symm, HB.out.trans (hc.mono HB.out.size)⟩
  | true =>
    have HSGp : Hid (goodG gr = true ∧ s.size ≤ 40) := by have q := hc1; rw [Bool.and_eq_true, decide_eq_true_iff] at q; exact q
    have HG := Lib.hid (goodG_ok HSGp.out.1)
    have HSG := Lib.hid HSGp.out.2
    have HSGd : Hid (decide (s.size ≤ 40) = true) := decide_eq_true HSGp.out.2
    have HSGg := Lib.hid HSGp.out.1
    have Hhc1 := Lib.hid hc1
    clear hc1
    go_wp2_with fail
    refine (spec_sBases gr _ bs _ HG.out (Hlv.out.below (HB.out.trans (hc.mono HB.out.size)))).mono ?_
    rintro e u2 ⟨rfl, hq2⟩
    replace hc := Below.next hc hq2
    clear hq2 c0_0 c0_1 c0_2 c1_0 c1_1 c1_2
    obtain ⟨c0_0, c0_1, c0_2, c1_0, c1_1, c1_2⟩ := HCC.out _ hc
    cases hc2 : rowsB gr bs with
    | false =>
      have Hhc2 := Lib.hid hc2
      clear hc2
      go_wp2_with fail
      have HV : Hid ((.tuple #[.bool (vlR gr s bs ims d), .bool (vlA gr s bs ims)] : Value) = .tuple #[.bool false, .bool false]) := by unfold Hid; simp [vlR, vlA, Hhc2.out, HSGg.out, HSGd.out]
      go_ret2
      exact ⟨congrArg Ending.returned HV.out.symm, HB.out.trans (hc.mono HB.out.size)⟩
    | true =>
      have HRW := Lib.hid (rowsB_bd HG.out hc2)
      have Hhc2 := Lib.hid hc2
      clear hc2
      cases hc3 : ((ivn : Int) != (lvn : Int)) with
      | false =>
        have HLI : Hid (ims.length = bs.length) := by have q := hc3; rw [bne_eq_false_iff_eq] at q; unfold Hid; have := Eiv.out; have := Elv.out; omega
        have HLId : Hid (decide (ims.length = bs.length) = true) := decide_eq_true HLI.out
        go_wp2_with fail
        refine (spec_gIs gr _ ims _ HG.out (Hiv.out.below (HB.out.trans (hc.mono HB.out.size)))).mono ?_
        rintro e u3 ⟨rfl, hq3⟩
        replace hc := Below.next hc hq3
        clear hq3 c0_0 c0_1 c0_2 c1_0 c1_1 c1_2
        obtain ⟨c0_0, c0_1, c0_2, c1_0, c1_1, c1_2⟩ := HCC.out _ hc
        cases hc4 : ims.all (elB gr) with
        | false =>
          have Hhc4 := Lib.hid hc4
          clear hc4
          go_wp2_with fail
          have HV : Hid ((.tuple #[.bool (vlR gr s bs ims d), .bool (vlA gr s bs ims)] : Value) = .tuple #[.bool false, .bool false]) := by unfold Hid; simp [vlR, vlA, Hhc2.out, Hhc4.out, HSGg.out, HSGd.out, HLId.out]
          go_ret2
          exact ⟨congrArg Ending.returned HV.out.symm, HB.out.trans (hc.mono HB.out.size)⟩
        | true =>
          have HSO : Hid (StmtOk gr s bs ims) := ⟨HSG.out, HRW.out.1.1, HRW.out.1.2, HRW.out.2.1.2, HRW.out.2.2, HLI.out, all_small HG.out hc4⟩
          have Hhc4 := Lib.hid hc4
          clear hc4
          go_wp2_with fail
          refine (spec_sVerify gr s _ bs _ ims _ d _ HG.out (Hlv.out.below (HB.out.trans (hc.mono HB.out.size))) (Hiv.out.below (HB.out.trans (hc.mono HB.out.size))) (rd_of_PfR (PfR.mk (Hxc.out.below (HB.out.trans (hc.mono HB.out.size))) (Hxh.out.below (HB.out.trans (hc.mono HB.out.size))) (Hxr.out.below (HB.out.trans (hc.mono HB.out.size))))) HSO.out).mono ?_
          rintro e u4 ⟨rfl, hq4⟩
          replace hc := Below.next hc hq4
          clear hq4 c0_0 c0_1 c0_2 c1_0 c1_1 c1_2
          obtain ⟨c0_0, c0_1, c0_2, c1_0, c1_1, c1_2⟩ := HCC.out _ hc
          cases hc5 : vlB gr s bs ims d with
          | false =>
            have Hhc5 := Lib.hid hc5
            clear hc5
            go_wp2_with fail
            have HV : Hid ((.tuple #[.bool (vlR gr s bs ims d), .bool (vlA gr s bs ims)] : Value) = .tuple #[.bool false, .bool true]) := by unfold Hid; simp [vlR, vlA, Hhc2.out, Hhc4.out, Hhc5.out, HSGg.out, HSGd.out, HLId.out]
            go_ret2
            exact ⟨congrArg Ending.returned HV.out.symm, HB.out.trans (hc.mono HB.out.size)⟩
          | true =>
            have Hhc5 := Lib.hid hc5
            clear hc5
            go_wp2_with fail
            have HV : Hid ((.tuple #[.bool (vlR gr s bs ims d), .bool (vlA gr s bs ims)] : Value) = .tuple #[.bool true, .bool true]) := by unfold Hid; simp [vlR, vlA, Hhc2.out, Hhc4.out, Hhc5.out, HSGg.out, HSGd.out, HLId.out]
            go_ret2
            exact ⟨congrArg Ending.returned HV.out.symm, HB.out.trans (hc.mono HB.out.size)⟩
      | true =>
        have HLId : Hid (decide (ims.length = bs.length) = false) := by have q := hc3; rw [bne_iff_ne] at q; exact decide_eq_false (by have := Eiv.out; have := Elv.out; omega)
        go_wp2_with fail
        have HV : Hid ((.tuple #[.bool (vlR gr s bs ims d), .bool (vlA gr s bs ims)] : Value) = .tuple #[.bool false, .bool false]) := by unfold Hid; simp [vlR, vlA, Hhc2.out, HSGg.out, HSGd.out, HLId.out]
        go_ret2
        exact ⟨congrArg Ending.returned HV.out.symm, HB.out.trans (hc.mono HB.out.size)⟩
end Go.Proofs.Yteemlmmdngkghaa
