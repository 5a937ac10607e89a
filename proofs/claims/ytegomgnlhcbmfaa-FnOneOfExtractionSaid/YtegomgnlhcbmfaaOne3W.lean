/- Extraction from two proofs of one of several (printed by gen_one3.py). -/
import Derived.Test.YtegomgnlhcbmfaaOne2W
namespace Go.Proofs.Ytegomgnlhcbmfaa
open Go.RowKit
set_option linter.unusedSimpArgs false
set_option linter.unusedVariables false

def exF (d f : ProofD) (n : Nat) : Option Nat := (List.range n).find? fun i => nth d.h i != nth f.h i
noncomputable def xeO (gr : GroupD) (l : List EqualLogD) (d f : ProofD) : Option Nat := if (goodG gr && (stB gr l && xoB gr l d f)) = true then exF d f l.length else none
noncomputable def xeX (gr : GroupD) (d f : ProofD) (o : Option Nat) : Int := match o with
  | some i => exX gr.q (nth d.h i) (nth d.r i) (nth f.h i) (nth f.r i)
  | none => 0
def xeI (o : Option Nat) : Int := ((o.getD 0 : Nat) : Int)
theorem exF_succ (d f : ProofD) (n : Nat) : exF d f (n + 1) = (exF d f n).or (if (nth d.h n != nth f.h n) = true then some n else none) := by
  unfold exF
  rw [List.range_succ, List.find?_append]
  congr 1
  simp only [List.find?_cons, List.find?_nil]
  cases (nth d.h n != nth f.h n) <;> rfl
theorem exF_none {d f : ProofD} {k : Nat} (h : exF d f k = none) (h2 : (nth d.h k != nth f.h k) = false) : exF d f (k + 1) = none := by
  rw [exF_succ, h, h2]; rfl
theorem exF_some {d f : ProofD} {k n : Nat} (h : exF d f k = none) (h2 : (nth d.h k != nth f.h k) = true) (hn : k < n) : exF d f n = some k := by
  induction n with
  | zero => omega
  | succ n ih =>
    rw [exF_succ]
    by_cases e : k = n
    · subst e; rw [h, h2]; rfl
    · rw [ih (by omega)]; rfl
theorem slices_EqualB (v1 v2 : Value) (l1 l2 : List Int) (w : World) (h1 : Ints w v1 l1) (h2 : Ints w v2 l2) :
    Calls Try.prog 116 #[v1, v2] w fun e w' => e = .returned (.bool (decide (l1 = l2))) ∧ Below w.heap.size w w' := by
  refine (slices_Equal v1 v2 l1 l2 w h1 h2).mono ?_
  rintro e w' ⟨h, m, rfl⟩
  exact ⟨h, below_drewN (Below.refl _ _) m⟩
theorem spec_l1SameB (v1 v2 : Value) (l1 l2 : List Int) (w : World) (h1 : Ints w v1 l1) (h2 : Ints w v2 l2) :
    Calls Try.prog 119 #[v1, v2] w fun e w' => e = .returned (.bool (decide (l1 = l2))) ∧ Below w.heap.size w w' := by
  refine (spec_l1Same v1 v2 l1 l2 w h1 h2).mono ?_
  rintro e w' ⟨h, m, rfl⟩
  exact ⟨h, below_drewN (Below.refl _ _) m⟩
set_option maxRecDepth 100000 in
set_option maxHeartbeats 4000000 in
theorem impl_ExtractOneOf (gr : GroupD) (ev : Value) (l : List EqualLogD) (pv : Value) (d : ProofD) (qv : Value) (f : ProofD) (w : World) (hev : RdR rEqualLog w ev l) (hp : PfR w pv d) (hq : PfR w qv f) :
    Calls Try.prog 27 #[.agg #[.int .i64 gr.p, .int .i64 gr.q, .int .i64 gr.g], ev, pv, qv] w fun e w' => e = .returned (.tuple #[.int .i64 (xeI (xeO gr l d f)), .int .i64 (xeX gr d f (xeO gr l d f)), .bool (xeO gr l d f).isSome]) ∧ Below w.heap.size w w' := by
  obtain ⟨eva, evn, evc, rfl⟩ := hev.shape
  have Eev := Lib.hid hev.len
  have Kev := Lib.hid hev.capMax
  have Hev := Lib.hid hev
  clear hev
  obtain ⟨xcv, xhv, xrv, rfl, hxc, hxh, hxr⟩ := hp
  obtain ⟨xca, xcn, xcc, rfl⟩ := hxc.shape
  have Exc := Lib.hid hxc.len
  have Kxc := Lib.hid hxc.capMax
  have Hxc := Lib.hid hxc
  clear hxc
  obtain ⟨xha, xhn, xhc, rfl⟩ := hxh.shape
  have Exh := Lib.hid hxh.len
  have Kxh := Lib.hid hxh.capMax
  have Hxh := Lib.hid hxh
  clear hxh
  obtain ⟨xra, xrn, xrc, rfl⟩ := hxr.shape
  have Exr := Lib.hid hxr.len
  have Kxr := Lib.hid hxr.capMax
  have Hxr := Lib.hid hxr
  clear hxr
  obtain ⟨ycv, yhv, yrv, rfl, hyc, hyh, hyr⟩ := hq
  obtain ⟨yca, ycn, ycc, rfl⟩ := hyc.shape
  have Eyc := Lib.hid hyc.len
  have Kyc := Lib.hid hyc.capMax
  have Hyc := Lib.hid hyc
  clear hyc
  obtain ⟨yha, yhn, yhc, rfl⟩ := hyh.shape
  have Eyh := Lib.hid hyh.len
  have Kyh := Lib.hid hyh.capMax
  have Hyh := Lib.hid hyh
  clear hyh
  obtain ⟨yra, yrn, yrc, rfl⟩ := hyr.shape
  have Eyr := Lib.hid hyr.len
  have Kyr := Lib.hid hyr.capMax
  have Hyr := Lib.hid hyr
  clear hyr
  obtain ⟨W, hW⟩ : ∃ W, W = ((w.alloc (.cells #[.int .i64 gr.p, .int .i64 gr.q, .int .i64 gr.g] 24)).alloc (.cells #[(.slice xca xcn xcc), (.slice xha xhn xhc), (.slice xra xrn xrc)] 47)).alloc (.cells #[(.slice yca ycn ycc), (.slice yha yhn yhc), (.slice yra yrn yrc)] 47) := ⟨_, rfl⟩
  have HB : Hid (Below w.heap.size w W) := by unfold Hid; rw [hW]; (repeat (first | exact Below.refl _ _ | assumption | refine Below.drew ?_ | refine Below.alloc ?_ (by first | (simp; done) | (simp; omega)) _ | refine Below.setCell ?_ (by first | (simp; done) | (simp; omega)) _))
  have c0_0 : W.cell? ⟨w.heap.size, 0, none⟩ = some (.int .i64 gr.p) := by rw [hW]; simp [go_sem]
  have c0_1 : W.cell? ⟨w.heap.size, 1, none⟩ = some (.int .i64 gr.q) := by rw [hW]; simp [go_sem]
  have c0_2 : W.cell? ⟨w.heap.size, 2, none⟩ = some (.int .i64 gr.g) := by rw [hW]; simp [go_sem]
  have c1_0 : W.cell? ⟨w.heap.size + 1, 0, none⟩ = some ((.slice xca xcn xcc)) := by rw [hW]; simp [go_sem]
  have c1_1 : W.cell? ⟨w.heap.size + 1, 1, none⟩ = some ((.slice xha xhn xhc)) := by rw [hW]; simp [go_sem]
  have c1_2 : W.cell? ⟨w.heap.size + 1, 2, none⟩ = some ((.slice xra xrn xrc)) := by rw [hW]; simp [go_sem]
  have c2_0 : W.cell? ⟨w.heap.size + 1 + 1, 0, none⟩ = some ((.slice yca ycn ycc)) := by rw [hW]; simp [go_sem]
  have c2_1 : W.cell? ⟨w.heap.size + 1 + 1, 1, none⟩ = some ((.slice yha yhn yhc)) := by rw [hW]; simp [go_sem]
  have c2_2 : W.cell? ⟨w.heap.size + 1 + 1, 2, none⟩ = some ((.slice yra yrn yrc)) := by rw [hW]; simp [go_sem]
  have HSW : Hid (W.heap.size = w.heap.size + 3) := by unfold Hid; rw [hW]; simp
  go_enter Try.func27, Try.ntmps27
  go_wp2_with fail
  rw [← hW]
  have hse : w.heap.size + 1 + 1 + 1 = W.heap.size := by have := HSW.out; omega
  (try rw [hse])
  clear hse
  clear hW
  have hc : Below W.heap.size W W := Below.refl _ _
  have HCC : Hid (∀ u, Below W.heap.size W u → u.cell? ⟨w.heap.size, 0, none⟩ = some (.int .i64 gr.p) ∧ u.cell? ⟨w.heap.size, 1, none⟩ = some (.int .i64 gr.q) ∧ u.cell? ⟨w.heap.size, 2, none⟩ = some (.int .i64 gr.g) ∧ u.cell? ⟨w.heap.size + 1, 0, none⟩ = some ((.slice xca xcn xcc)) ∧ u.cell? ⟨w.heap.size + 1, 1, none⟩ = some ((.slice xha xhn xhc)) ∧ u.cell? ⟨w.heap.size + 1, 2, none⟩ = some ((.slice xra xrn xrc)) ∧ u.cell? ⟨w.heap.size + 1 + 1, 0, none⟩ = some ((.slice yca ycn ycc)) ∧ u.cell? ⟨w.heap.size + 1 + 1, 1, none⟩ = some ((.slice yha yhn yhc)) ∧ u.cell? ⟨w.heap.size + 1 + 1, 2, none⟩ = some ((.slice yra yrn yrc))) := fun u h => ⟨box_at c0_0 h, box_at c0_1 h, box_at c0_2 h, box_at c1_0 h, box_at c1_1 h, box_at c1_2 h, box_at c2_0 h, box_at c2_1 h, box_at c2_2 h⟩
  go_wp2_with fail
  refine (impl_IsValidGroup gr _).mono ?_
  rintro e u1 ⟨rfl, hq1⟩
  replace hc := Below.next hc hq1
  clear hq1 c0_0 c0_1 c0_2 c1_0 c1_1 c1_2 c2_0 c2_1 c2_2
  obtain ⟨c0_0, c0_1, c0_2, c1_0, c1_1, c1_2, c2_0, c2_1, c2_2⟩ := HCC.out _ hc
  cases hc1 : goodG gr with
  | false =>
    have Hhc1 := Lib.hid hc1
    clear hc1
    go_wp2_with fail
    have HVB : Hid ((xeO gr l d f).isSome = false) := by unfold Hid; simp [xeO, xoB, Hhc1.out]
    have HPO : Hid (xeO gr l d f = none) := by have q := HVB.out; cases h : xeO gr l d f with | none => rfl | some i => (rw [h] at q; cases q)
    go_ret3
    exact ⟨by rw [HPO.out]; rfl, HB.out.trans (hc.mono HB.out.size)⟩
  | true =>
    have HGD : Hid (goodG gr = true) := hc1
    have HG := Lib.hid (goodG_ok hc1)
    have Hhc1 := Lib.hid hc1
    clear hc1
    go_wp2_with fail
    refine (impl_areStatements gr _ l _ HG.out (Hev.out.below (HB.out.trans (hc.mono HB.out.size)))).mono ?_
    rintro e u2 ⟨rfl, hq2⟩
    replace hc := Below.next hc hq2
    clear hq2 c0_0 c0_1 c0_2 c1_0 c1_1 c1_2 c2_0 c2_1 c2_2
    obtain ⟨c0_0, c0_1, c0_2, c1_0, c1_1, c1_2, c2_0, c2_1, c2_2⟩ := HCC.out _ hc
    cases hc2 : stB gr l with
    | false =>
      have Hhc2 := Lib.hid hc2
      clear hc2
      go_wp2_with fail
      have HVB : Hid ((xeO gr l d f).isSome = false) := by unfold Hid; simp [xeO, xoB, Hhc1.out, Hhc2.out]
      have HPO : Hid (xeO gr l d f = none) := by have q := HVB.out; cases h : xeO gr l d f with | none => rfl | some i => (rw [h] at q; cases q)
      go_ret3
      exact ⟨by rw [HPO.out]; rfl, HB.out.trans (hc.mono HB.out.size)⟩
    | true =>
      have HL : Hid (stB gr l = true) := hc2
      have Hhc2 := Lib.hid hc2
      clear hc2
      go_wp2_with fail
      refine (impl_fulfils gr _ l _ d _ HG.out HL.out (Hev.out.below (HB.out.trans (hc.mono HB.out.size))) (PfR.mk (Hxc.out.below (HB.out.trans (hc.mono HB.out.size))) (Hxh.out.below (HB.out.trans (hc.mono HB.out.size))) (Hxr.out.below (HB.out.trans (hc.mono HB.out.size))))).mono ?_
      rintro e u3 ⟨rfl, hq3⟩
      replace hc := Below.next hc hq3
      clear hq3 c0_0 c0_1 c0_2 c1_0 c1_1 c1_2 c2_0 c2_1 c2_2
      obtain ⟨c0_0, c0_1, c0_2, c1_0, c1_1, c1_2, c2_0, c2_1, c2_2⟩ := HCC.out _ hc
      cases hc3 : fulB gr l d with
      | false =>
        have Hhc3 := Lib.hid hc3
        clear hc3
        go_wp2_with fail
        have HVB : Hid ((xeO gr l d f).isSome = false) := by unfold Hid; simp [xeO, xoB, Hhc1.out, Hhc2.out, Hhc3.out]
        have HPO : Hid (xeO gr l d f = none) := by have q := HVB.out; cases h : xeO gr l d f with | none => rfl | some i => (rw [h] at q; cases q)
        go_ret3
        exact ⟨by rw [HPO.out]; rfl, HB.out.trans (hc.mono HB.out.size)⟩
      | true =>
        have HFB : Hid (fulB gr l d = true) := hc3
        have HFD := Lib.hid (fulB_parts hc3)
        have Hhc3 := Lib.hid hc3
        clear hc3
        go_wp2_with fail
        refine (impl_fulfils gr _ l _ f _ HG.out HL.out (Hev.out.below (HB.out.trans (hc.mono HB.out.size))) (PfR.mk (Hyc.out.below (HB.out.trans (hc.mono HB.out.size))) (Hyh.out.below (HB.out.trans (hc.mono HB.out.size))) (Hyr.out.below (HB.out.trans (hc.mono HB.out.size))))).mono ?_
        rintro e u4 ⟨rfl, hq4⟩
        replace hc := Below.next hc hq4
        clear hq4 c0_0 c0_1 c0_2 c1_0 c1_1 c1_2 c2_0 c2_1 c2_2
        obtain ⟨c0_0, c0_1, c0_2, c1_0, c1_1, c1_2, c2_0, c2_1, c2_2⟩ := HCC.out _ hc
        cases hc4 : fulB gr l f with
        | false =>
          have Hhc4 := Lib.hid hc4
          clear hc4
          go_wp2_with fail
          have HVB : Hid ((xeO gr l d f).isSome = false) := by unfold Hid; simp [xeO, xoB, Hhc1.out, Hhc2.out, Hhc3.out, Hhc4.out]
          have HPO : Hid (xeO gr l d f = none) := by have q := HVB.out; cases h : xeO gr l d f with | none => rfl | some i => (rw [h] at q; cases q)
          go_ret3
          exact ⟨by rw [HPO.out]; rfl, HB.out.trans (hc.mono HB.out.size)⟩
        | true =>
          have HFB2 : Hid (fulB gr l f = true) := hc4
          have HFF := Lib.hid (fulB_parts hc4)
          have Hhc4 := Lib.hid hc4
          clear hc4
          go_wp2_with fail
          refine (slices_EqualB _ _ d.c f.c _ (Hxc.out.below (HB.out.trans (hc.mono HB.out.size))) (Hyc.out.below (HB.out.trans (hc.mono HB.out.size)))).mono ?_
          rintro e u5 ⟨rfl, hq5⟩
          replace hc := Below.next hc hq5
          clear hq5 c0_0 c0_1 c0_2 c1_0 c1_1 c1_2 c2_0 c2_1 c2_2
          obtain ⟨c0_0, c0_1, c0_2, c1_0, c1_1, c1_2, c2_0, c2_1, c2_2⟩ := HCC.out _ hc
          cases hc5 : decide (d.c = f.c) with
          | false =>
            go_wp2_with fail
            have HVB : Hid ((xeO gr l d f).isSome = false) := by unfold Hid; simp [xeO, xoB, Hhc1.out, Hhc2.out, Hhc3.out, Hhc4.out, hc5]
            have HPO : Hid (xeO gr l d f = none) := by have q := HVB.out; cases h : xeO gr l d f with | none => rfl | some i => (rw [h] at q; cases q)
            go_ret3
            exact ⟨by rw [HPO.out]; rfl, HB.out.trans (hc.mono HB.out.size)⟩
          | true =>
            have HOK : Hid ((goodG gr && (stB gr l && xoB gr l d f)) = true) := by have q := hc5; unfold Hid xoB; rw [HGD.out, HL.out, HFB.out, HFB2.out, q]; rfl
            go_wp2_with fail
            have HC := Lib.hid hc
            have C0 := Lib.hid c0_0
            have C1 := Lib.hid c0_1
            have C2 := Lib.hid c0_2
            have D0 := Lib.hid c1_0
            have D1 := Lib.hid c1_1
            have D2 := Lib.hid c1_2
            have E0 := Lib.hid c2_0
            have E1 := Lib.hid c2_1
            have E2 := Lib.hid c2_2
            clear hc c0_0 c0_1 c0_2 c1_0 c1_1 c1_2 c2_0 c2_1 c2_2 HCC
            clear hc5
            have HN9 : Hid (1 ≤ evn ∧ evn ≤ 8) := by have := stB_len HL.out; unfold Hid; have := Eev.out; omega
            obtain ⟨bh, oh, rfl, hxh⟩ := Hxh.out.at_ (by have := HFD.out.2.1; have := Exh.out; have := Eev.out; have := HN9.out; omega)
            obtain ⟨br, od, rfl, hxr⟩ := Hxr.out.at_ (by have := HFD.out.2.2.1; have := Exr.out; have := Eev.out; have := HN9.out; omega)
            obtain ⟨b2, o2, rfl, hyh⟩ := Hyh.out.at_ (by have := HFF.out.2.1; have := Eyh.out; have := Eev.out; have := HN9.out; omega)
            obtain ⟨b3, o3, rfl, hyr⟩ := Hyr.out.at_ (by have := HFF.out.2.2.1; have := Eyr.out; have := Eev.out; have := HN9.out; omega)
            have X1 := Lib.hid hxh
            have X2 := Lib.hid hxr
            have X3 := Lib.hid hyh
            have X4 := Lib.hid hyr
            clear hxh hxr hyh hyr
            go_loopg [45] evn (fun gk iv wr => ∃ k : Nat, k + gk = evn ∧ iv = .int .i64 (k : Int) ∧ exF d f k = none ∧ Below u5.heap.size u5 wr)
            case atStart => exact ⟨0, by omega, rfl, rfl, Below.refl _ _⟩
            case round =>
              obtain ⟨k, hkg, rfl, hall, hbu⟩ := hrel
              have HALL := Lib.hid hall
              clear hall
              have HBU := Lib.hid hbu
              clear hbu
              have HBW := Lib.hid (HB.out.trans ((Below.next HC.out HBU.out).mono HB.out.size))
              have hgl : k < evn → evn - (k + 1) < gk := by omega
              have HKG := Lib.hid hkg
              clear hkg
              by_cases hlt : k < evn
              · have HK : Hid (k < l.length) := by unfold Hid; have := Eev.out; omega
                have hwk : IntKind.i64.wrap ((k : Int) + 1) = (k : Int) + 1 := IntWalk.i64_in _ (by have := HN9.out; omega)
                have hbk0 : (0 : Int) ≤ (k : Int) := by omega
                have hk1 : (k : Int) < (xhn : Int) := by have := HFD.out.2.1; have := HK.out; have := Exh.out; omega
                have hk2 : (k : Int) < (xrn : Int) := by have := HFD.out.2.2.1; have := HK.out; have := Exr.out; omega
                have hk3 : (k : Int) < (yhn : Int) := by have := HFF.out.2.1; have := HK.out; have := Eyh.out; omega
                have hk4 : (k : Int) < (yrn : Int) := by have := HFF.out.2.2.1; have := HK.out; have := Eyr.out; omega
                have y_a1 := box_at (X1.out k (by have := HFD.out.2.1; have := HK.out; have := Exh.out; omega)) HBW.out
                have y_a2 := box_at (X2.out k (by have := HFD.out.2.2.1; have := HK.out; have := Exr.out; omega)) HBW.out
                have y_a3 := box_at (X3.out k (by have := HFF.out.2.1; have := HK.out; have := Eyh.out; omega)) HBW.out
                have y_a4 := box_at (X4.out k (by have := HFF.out.2.2.1; have := HK.out; have := Eyr.out; omega)) HBW.out
                have A1 : Hid (expB gr (nth d.h k) = true) := exp_nth HG.out HFD.out.2.2.2.2.1 k
                have A2 : Hid (expB gr (nth d.r k) = true) := exp_nth HG.out HFD.out.2.2.2.2.2 k
                have A3 : Hid (expB gr (nth f.h k) = true) := exp_nth HG.out HFF.out.2.2.2.2.1 k
                have A4 : Hid (expB gr (nth f.r k) = true) := exp_nth HG.out HFF.out.2.2.2.2.2 k
                have HY : Hid ((nth d.h k != nth f.h k) = true → xeO gr l d f = some k) := fun q => by unfold xeO; rw [if_pos HOK.out]; exact exF_some HALL.out q HK.out
                have HY2 : Hid ((nth d.h k != nth f.h k) = false → exF d f (k + 1) = none) := fun q => exF_none HALL.out q
                have HXE : Hid (xeX gr d f (some k) = exX gr.q (nth d.h k) (nth d.r k) (nth f.h k) (nth f.r k)) := rfl
                generalize nth d.h k = a1 at y_a1 A1 HY HY2 HXE
                generalize nth d.r k = a2 at y_a2 A2 HXE
                generalize nth f.h k = a3 at y_a3 A3 HY HY2 HXE
                generalize nth f.r k = a4 at y_a4 A4 HXE
                have c0_0 := box_at C0.out HBU.out
                have c0_1 := box_at C1.out HBU.out
                have c0_2 := box_at C2.out HBU.out
                have c1_0 := box_at D0.out HBU.out
                have c1_1 := box_at D1.out HBU.out
                have c1_2 := box_at D2.out HBU.out
                have c2_0 := box_at E0.out HBU.out
                have c2_1 := box_at E1.out HBU.out
                have c2_2 := box_at E2.out HBU.out
                have hc : Below wr.heap.size wr wr := Below.refl _ _
                cases q1 : (a1 != a3) with
                | true =>
                  have HNE : Hid (a1 ≠ a3) := by unfold Hid; simpa using q1
                  go_wp2_with fail
                  try (go_wp2_with fail)
                  refine wp_region_noPanic ?_
                  refine wp_region_P (fun w' => w'.cell? ⟨w.heap.size, 0, none⟩ = some (.int .i64 gr.p) ∧ w'.cell? ⟨w.heap.size, 1, none⟩ = some (.int .i64 gr.q) ∧ w'.cell? ⟨w.heap.size, 2, none⟩ = some (.int .i64 gr.g) ∧ w'.cell? ⟨(w.heap.size + 1), 0, none⟩ = some (.slice xca xcn xcc) ∧ w'.cell? ⟨(w.heap.size + 1), 1, none⟩ = some (.slice (some ⟨bh, oh, none⟩) xhn xhc) ∧ w'.cell? ⟨(w.heap.size + 1), 2, none⟩ = some (.slice (some ⟨br, od, none⟩) xrn xrc) ∧ w'.cell? ⟨(w.heap.size + 1 + 1), 0, none⟩ = some (.slice yca ycn ycc) ∧ w'.cell? ⟨(w.heap.size + 1 + 1), 1, none⟩ = some (.slice (some ⟨b2, o2, none⟩) yhn yhc) ∧ w'.cell? ⟨(w.heap.size + 1 + 1), 2, none⟩ = some (.slice (some ⟨b3, o3, none⟩) yrn yrc) ∧ w'.cell? ⟨bh, oh + k, none⟩ = some (.int .i64 a1) ∧ w'.cell? ⟨br, od + k, none⟩ = some (.int .i64 a2) ∧ w'.cell? ⟨b2, o2 + k, none⟩ = some (.int .i64 a3) ∧ w'.cell? ⟨b3, o3 + k, none⟩ = some (.int .i64 a4)) 13 [(0, []), (1, [0]), (2, []), (3, [1, 0]), (4, [0]), (5, []), (6, [0]), (7, []), (8, [1, 0]), (9, [0]), (10, [5, 0])] [] (by kernel_rfl) (by kernel_rfl) (by kernel_rfl) rfl (fun _ _ _ _ h => h) (fun w' h => ⟨box_at c0_0 h, box_at c0_1 h, box_at c0_2 h, box_at c1_0 h, box_at c1_1 h, box_at c1_2 h, box_at c2_0 h, box_at c2_1 h, box_at c2_2 h, box_at y_a1 h, box_at y_a2 h, box_at y_a3 h, box_at y_a4 h⟩) ?_
                  simp only [pickP, pickN, List.getElem?_cons_zero, List.getElem?_cons_succ]
                  iterate 11 (refine' chainP_read _ rfl rfl (fun w' hS' => ?_) ?_; rotate_left; · (simp only [lookP, allP, Act.put, List.getElem?_cons_zero, List.getElem?_cons_succ, List.setIfInBounds_toArray, List.set_cons_zero, List.set_cons_succ]; (try dsimp only at hS'); go_simp; (try with_reducible rfl)))
                  refine chainP_nil (fun ua hS' => ?_)
                  simp only [allP, Act.put, List.setIfInBounds_toArray, List.set_cons_zero, List.set_cons_succ]
                  have hq1 := hS'.1
                  clear hS'
                  replace hc := Below.next hc hq1
                  replace c0_0 := box_at c0_0 hq1
                  replace c0_1 := box_at c0_1 hq1
                  replace c0_2 := box_at c0_2 hq1
                  replace c1_0 := box_at c1_0 hq1
                  replace c1_1 := box_at c1_1 hq1
                  replace c1_2 := box_at c1_2 hq1
                  replace c2_0 := box_at c2_0 hq1
                  replace c2_1 := box_at c2_1 hq1
                  replace c2_2 := box_at c2_2 hq1
                  replace y_a1 := box_at y_a1 hq1
                  replace y_a2 := box_at y_a2 hq1
                  replace y_a3 := box_at y_a3 hq1
                  replace y_a4 := box_at y_a4 hq1
                  clear hq1
                  go_wp2_with fail
                  refine NoPanic.normal ?_
                  (try (go_wp2_with fail))
                  have HC3 := Lib.hid hc
                  replace HBW := Lib.hid (HBW.out.trans (HC3.out.mono HBW.out.size))
                  clear hc HC3
                  have hc : Below ua.heap.size ua ua := Below.refl _ _
                  try (go_wp2_with fail)
                  refine wp_region_noPanic ?_
                  refine wp_region_P (fun w' => w'.cell? ⟨w.heap.size, 0, none⟩ = some (.int .i64 gr.p) ∧ w'.cell? ⟨w.heap.size, 1, none⟩ = some (.int .i64 gr.q) ∧ w'.cell? ⟨w.heap.size, 2, none⟩ = some (.int .i64 gr.g) ∧ w'.cell? ⟨(w.heap.size + 1), 0, none⟩ = some (.slice xca xcn xcc) ∧ w'.cell? ⟨(w.heap.size + 1), 1, none⟩ = some (.slice (some ⟨bh, oh, none⟩) xhn xhc) ∧ w'.cell? ⟨(w.heap.size + 1), 2, none⟩ = some (.slice (some ⟨br, od, none⟩) xrn xrc) ∧ w'.cell? ⟨(w.heap.size + 1 + 1), 0, none⟩ = some (.slice yca ycn ycc) ∧ w'.cell? ⟨(w.heap.size + 1 + 1), 1, none⟩ = some (.slice (some ⟨b2, o2, none⟩) yhn yhc) ∧ w'.cell? ⟨(w.heap.size + 1 + 1), 2, none⟩ = some (.slice (some ⟨b3, o3, none⟩) yrn yrc) ∧ w'.cell? ⟨bh, oh + k, none⟩ = some (.int .i64 a1) ∧ w'.cell? ⟨br, od + k, none⟩ = some (.int .i64 a2) ∧ w'.cell? ⟨b2, o2 + k, none⟩ = some (.int .i64 a3) ∧ w'.cell? ⟨b3, o3 + k, none⟩ = some (.int .i64 a4)) 28 [(0, []), (1, []), (2, []), (3, [0]), (4, []), (5, [1, 0]), (6, [0]), (7, []), (8, [0]), (9, []), (10, [1, 0]), (11, [0]), (12, []), (13, [0]), (14, []), (15, [1, 0]), (16, [0]), (17, []), (18, [0]), (19, []), (20, [1, 0]), (21, [0]), (22, [20, 15, 10, 5, 0]), (23, [22]), (24, [1]), (25, [])] [] (by kernel_rfl) (by kernel_rfl) (by kernel_rfl) rfl (fun _ _ _ _ h => h) (fun w' h => ⟨box_at c0_0 h, box_at c0_1 h, box_at c0_2 h, box_at c1_0 h, box_at c1_1 h, box_at c1_2 h, box_at c2_0 h, box_at c2_1 h, box_at c2_2 h, box_at y_a1 h, box_at y_a2 h, box_at y_a3 h, box_at y_a4 h⟩) ?_
                  simp only [pickP, pickN, List.getElem?_cons_zero, List.getElem?_cons_succ]
                  iterate 22 (refine' chainP_read _ rfl rfl (fun w' hS' => ?_) ?_; rotate_left; · (simp only [lookP, allP, Act.put, List.getElem?_cons_zero, List.getElem?_cons_succ, List.setIfInBounds_toArray, List.set_cons_zero, List.set_cons_succ]; (try dsimp only at hS'); go_simp; (try with_reducible rfl)))
                  -- 22: call { callee := value (func 156), args := #[t60, t65, t70, t75, t80], argTypes := #[25, 3, 3, 3, 3] }
                  refine chainP_call (d := (some 81)) (.int .i64 (exX gr.q a1 a2 a3 a4)) rfl rfl (fun w' hS' => ?_) ?_
                  · simp only [lookP, allP, Act.put, List.getElem?_cons_zero, List.getElem?_cons_succ, List.setIfInBounds_toArray, List.set_cons_zero, List.set_cons_succ]
                    intro K hK
                    go_simp
                    go_at_call 117
                    refine (impl_extracted gr a1 a2 a3 a4 _ HG.out A1.out A2.out A3.out A4.out HNE.out).mono ?_
                    rintro e u ⟨rfl, hq⟩
                    exact hK.out _ hq
                  iterate 3 (refine' chainP_read _ rfl rfl (fun w' hS' => ?_) ?_; rotate_left; · (simp only [lookP, allP, Act.put, List.getElem?_cons_zero, List.getElem?_cons_succ, List.setIfInBounds_toArray, List.set_cons_zero, List.set_cons_succ]; (try dsimp only at hS'); go_simp; (try with_reducible rfl)))
                  refine chainP_nil (fun ub hS' => ?_)
                  simp only [allP, Act.put, List.setIfInBounds_toArray, List.set_cons_zero, List.set_cons_succ]
                  have hq1 := hS'.1
                  clear hS'
                  replace hc := Below.next hc hq1
                  replace c0_0 := box_at c0_0 hq1
                  replace c0_1 := box_at c0_1 hq1
                  replace c0_2 := box_at c0_2 hq1
                  replace c1_0 := box_at c1_0 hq1
                  replace c1_1 := box_at c1_1 hq1
                  replace c1_2 := box_at c1_2 hq1
                  replace c2_0 := box_at c2_0 hq1
                  replace c2_1 := box_at c2_1 hq1
                  replace c2_2 := box_at c2_2 hq1
                  replace y_a1 := box_at y_a1 hq1
                  replace y_a2 := box_at y_a2 hq1
                  replace y_a3 := box_at y_a3 hq1
                  replace y_a4 := box_at y_a4 hq1
                  clear hq1
                  go_wp2_with fail
                  refine NoPanic.normal ?_
                  clear c0_0 c0_1 c0_2 c1_0 c1_1 c1_2 c2_0 c2_1 c2_2 y_a1 y_a2 y_a3 y_a4
                  go_wp2_with fail
                  have HFO := HY.out q1
                  go_ret3
                  exact ⟨by rw [HFO, HXE.out]; rfl, HBW.out.trans (hc.mono HBW.out.size)⟩
                | false =>
                  go_wp2_with fail
                  try (go_wp2_with fail)
                  refine wp_region_noPanic ?_
                  refine wp_region_P (fun w' => w'.cell? ⟨w.heap.size, 0, none⟩ = some (.int .i64 gr.p) ∧ w'.cell? ⟨w.heap.size, 1, none⟩ = some (.int .i64 gr.q) ∧ w'.cell? ⟨w.heap.size, 2, none⟩ = some (.int .i64 gr.g) ∧ w'.cell? ⟨(w.heap.size + 1), 0, none⟩ = some (.slice xca xcn xcc) ∧ w'.cell? ⟨(w.heap.size + 1), 1, none⟩ = some (.slice (some ⟨bh, oh, none⟩) xhn xhc) ∧ w'.cell? ⟨(w.heap.size + 1), 2, none⟩ = some (.slice (some ⟨br, od, none⟩) xrn xrc) ∧ w'.cell? ⟨(w.heap.size + 1 + 1), 0, none⟩ = some (.slice yca ycn ycc) ∧ w'.cell? ⟨(w.heap.size + 1 + 1), 1, none⟩ = some (.slice (some ⟨b2, o2, none⟩) yhn yhc) ∧ w'.cell? ⟨(w.heap.size + 1 + 1), 2, none⟩ = some (.slice (some ⟨b3, o3, none⟩) yrn yrc) ∧ w'.cell? ⟨bh, oh + k, none⟩ = some (.int .i64 a1) ∧ w'.cell? ⟨br, od + k, none⟩ = some (.int .i64 a2) ∧ w'.cell? ⟨b2, o2 + k, none⟩ = some (.int .i64 a3) ∧ w'.cell? ⟨b3, o3 + k, none⟩ = some (.int .i64 a4)) 13 [(0, []), (1, [0]), (2, []), (3, [1, 0]), (4, [0]), (5, []), (6, [0]), (7, []), (8, [1, 0]), (9, [0]), (10, [5, 0])] [] (by kernel_rfl) (by kernel_rfl) (by kernel_rfl) rfl (fun _ _ _ _ h => h) (fun w' h => ⟨box_at c0_0 h, box_at c0_1 h, box_at c0_2 h, box_at c1_0 h, box_at c1_1 h, box_at c1_2 h, box_at c2_0 h, box_at c2_1 h, box_at c2_2 h, box_at y_a1 h, box_at y_a2 h, box_at y_a3 h, box_at y_a4 h⟩) ?_
                  simp only [pickP, pickN, List.getElem?_cons_zero, List.getElem?_cons_succ]
                  iterate 11 (refine' chainP_read _ rfl rfl (fun w' hS' => ?_) ?_; rotate_left; · (simp only [lookP, allP, Act.put, List.getElem?_cons_zero, List.getElem?_cons_succ, List.setIfInBounds_toArray, List.set_cons_zero, List.set_cons_succ]; (try dsimp only at hS'); go_simp; (try with_reducible rfl)))
                  refine chainP_nil (fun ua hS' => ?_)
                  simp only [allP, Act.put, List.setIfInBounds_toArray, List.set_cons_zero, List.set_cons_succ]
                  have hq1 := hS'.1
                  clear hS'
                  replace hc := Below.next hc hq1
                  replace c0_0 := box_at c0_0 hq1
                  replace c0_1 := box_at c0_1 hq1
                  replace c0_2 := box_at c0_2 hq1
                  replace c1_0 := box_at c1_0 hq1
                  replace c1_1 := box_at c1_1 hq1
                  replace c1_2 := box_at c1_2 hq1
                  replace c2_0 := box_at c2_0 hq1
                  replace c2_1 := box_at c2_1 hq1
                  replace c2_2 := box_at c2_2 hq1
                  replace y_a1 := box_at y_a1 hq1
                  replace y_a2 := box_at y_a2 hq1
                  replace y_a3 := box_at y_a3 hq1
                  replace y_a4 := box_at y_a4 hq1
                  clear hq1
                  go_wp2_with fail
                  refine NoPanic.normal ?_
                  clear c0_0 c0_1 c0_2 c1_0 c1_1 c1_2 c2_0 c2_1 c2_2 y_a1 y_a2 y_a3 y_a4
                  have HC2 := Lib.hid hc
                  clear hc
                  go_wp2_with fail
                  go_roundg (evn - (k + 1))
                  case measure => exact hgl hlt
                  case rel => exact ⟨k + 1, by have := HKG.out; omega, by go_num, HY2.out q1, HBU.out.trans (HC2.out.mono HBU.out.size)⟩
              · have HPO : Hid (xeO gr l d f = none) := by
                  unfold Hid xeO
                  rw [if_pos HOK.out, show l.length = k by have := Eev.out; have := HKG.out; omega]; exact HALL.out
                go_wp2_with fail
                go_ret3
                exact ⟨by rw [HPO.out]; rfl, HBW.out⟩
set_option maxRecDepth 100000 in
set_option maxHeartbeats 4000000 in
theorem spec_ExtractOneOf (gr : GroupD) (ev : Value) (l : List EqualLogD) (pv : Value) (d : ProofD) (qv : Value) (f : ProofD) (w : World) (hev : RdR rEqualLog w ev l) (hp : PfR w pv d) (hq : PfR w qv f) :
    Calls Try.prog 28 #[.agg #[.int .i64 gr.p, .int .i64 gr.q, .int .i64 gr.g], ev, pv, qv] w fun e w' => e = .returned (.tuple #[.int .i64 (xeI (xeO gr l d f)), .int .i64 (xeX gr d f (xeO gr l d f)), .bool (xeO gr l d f).isSome]) ∧ Below w.heap.size w w' := by
  obtain ⟨eva, evn, evc, rfl⟩ := hev.shape
  have Eev := Lib.hid hev.len
  have Kev := Lib.hid hev.capMax
  have Hev := Lib.hid hev
  clear hev
  obtain ⟨xcv, xhv, xrv, rfl, hxc, hxh, hxr⟩ := hp
  obtain ⟨xca, xcn, xcc, rfl⟩ := hxc.shape
  have Exc := Lib.hid hxc.len
  have Kxc := Lib.hid hxc.capMax
  have Hxc := Lib.hid hxc
  clear hxc
  obtain ⟨xha, xhn, xhc, rfl⟩ := hxh.shape
  have Exh := Lib.hid hxh.len
  have Kxh := Lib.hid hxh.capMax
  have Hxh := Lib.hid hxh
  clear hxh
  obtain ⟨xra, xrn, xrc, rfl⟩ := hxr.shape
  have Exr := Lib.hid hxr.len
  have Kxr := Lib.hid hxr.capMax
  have Hxr := Lib.hid hxr
  clear hxr
  obtain ⟨ycv, yhv, yrv, rfl, hyc, hyh, hyr⟩ := hq
  obtain ⟨yca, ycn, ycc, rfl⟩ := hyc.shape
  have Eyc := Lib.hid hyc.len
  have Kyc := Lib.hid hyc.capMax
  have Hyc := Lib.hid hyc
  clear hyc
  obtain ⟨yha, yhn, yhc, rfl⟩ := hyh.shape
  have Eyh := Lib.hid hyh.len
  have Kyh := Lib.hid hyh.capMax
  have Hyh := Lib.hid hyh
  clear hyh
  obtain ⟨yra, yrn, yrc, rfl⟩ := hyr.shape
  have Eyr := Lib.hid hyr.len
  have Kyr := Lib.hid hyr.capMax
  have Hyr := Lib.hid hyr
  clear hyr
  obtain ⟨W, hW⟩ : ∃ W, W = ((w.alloc (.cells #[.int .i64 gr.p, .int .i64 gr.q, .int .i64 gr.g] 24)).alloc (.cells #[(.slice xca xcn xcc), (.slice xha xhn xhc), (.slice xra xrn xrc)] 47)).alloc (.cells #[(.slice yca ycn ycc), (.slice yha yhn yhc), (.slice yra yrn yrc)] 47) := ⟨_, rfl⟩
  have HB : Hid (Below w.heap.size w W) := by unfold Hid; rw [hW]; (repeat (first | exact Below.refl _ _ | assumption | refine Below.drew ?_ | refine Below.alloc ?_ (by first | (simp; done) | (simp; omega)) _ | refine Below.setCell ?_ (by first | (simp; done) | (simp; omega)) _))
  have c0_0 : W.cell? ⟨w.heap.size, 0, none⟩ = some (.int .i64 gr.p) := by rw [hW]; simp [go_sem]
  have c0_1 : W.cell? ⟨w.heap.size, 1, none⟩ = some (.int .i64 gr.q) := by rw [hW]; simp [go_sem]
  have c0_2 : W.cell? ⟨w.heap.size, 2, none⟩ = some (.int .i64 gr.g) := by rw [hW]; simp [go_sem]
  have c1_0 : W.cell? ⟨w.heap.size + 1, 0, none⟩ = some ((.slice xca xcn xcc)) := by rw [hW]; simp [go_sem]
  have c1_1 : W.cell? ⟨w.heap.size + 1, 1, none⟩ = some ((.slice xha xhn xhc)) := by rw [hW]; simp [go_sem]
  have c1_2 : W.cell? ⟨w.heap.size + 1, 2, none⟩ = some ((.slice xra xrn xrc)) := by rw [hW]; simp [go_sem]
  have c2_0 : W.cell? ⟨w.heap.size + 1 + 1, 0, none⟩ = some ((.slice yca ycn ycc)) := by rw [hW]; simp [go_sem]
  have c2_1 : W.cell? ⟨w.heap.size + 1 + 1, 1, none⟩ = some ((.slice yha yhn yhc)) := by rw [hW]; simp [go_sem]
  have c2_2 : W.cell? ⟨w.heap.size + 1 + 1, 2, none⟩ = some ((.slice yra yrn yrc)) := by rw [hW]; simp [go_sem]
  have HSW : Hid (W.heap.size = w.heap.size + 3) := by unfold Hid; rw [hW]; simp
  go_enter Try.func28, Try.ntmps28
  go_wp2_with fail
  rw [← hW]
  have hse : w.heap.size + 1 + 1 + 1 = W.heap.size := by have := HSW.out; omega
  (try rw [hse])
  clear hse
  clear hW
  have hc : Below W.heap.size W W := Below.refl _ _
  have HCC : Hid (∀ u, Below W.heap.size W u → u.cell? ⟨w.heap.size, 0, none⟩ = some (.int .i64 gr.p) ∧ u.cell? ⟨w.heap.size, 1, none⟩ = some (.int .i64 gr.q) ∧ u.cell? ⟨w.heap.size, 2, none⟩ = some (.int .i64 gr.g) ∧ u.cell? ⟨w.heap.size + 1, 0, none⟩ = some ((.slice xca xcn xcc)) ∧ u.cell? ⟨w.heap.size + 1, 1, none⟩ = some ((.slice xha xhn xhc)) ∧ u.cell? ⟨w.heap.size + 1, 2, none⟩ = some ((.slice xra xrn xrc)) ∧ u.cell? ⟨w.heap.size + 1 + 1, 0, none⟩ = some ((.slice yca ycn ycc)) ∧ u.cell? ⟨w.heap.size + 1 + 1, 1, none⟩ = some ((.slice yha yhn yhc)) ∧ u.cell? ⟨w.heap.size + 1 + 1, 2, none⟩ = some ((.slice yra yrn yrc))) := fun u h => ⟨box_at c0_0 h, box_at c0_1 h, box_at c0_2 h, box_at c1_0 h, box_at c1_1 h, box_at c1_2 h, box_at c2_0 h, box_at c2_1 h, box_at c2_2 h⟩
  go_wp2_with fail
  refine (spec_l2Good gr _).mono ?_
  rintro e u1 ⟨rfl, hq1⟩
  replace hc := Below.next hc hq1
  clear hq1 c0_0 c0_1 c0_2 c1_0 c1_1 c1_2 c2_0 c2_1 c2_2
  obtain ⟨c0_0, c0_1, c0_2, c1_0, c1_1, c1_2, c2_0, c2_1, c2_2⟩ := HCC.out _ hc
  cases hc1 : goodG gr with
  | false =>
    have Hhc1 := Lib.hid hc1
    clear hc1
    go_wp2_with fail
    have HVB : Hid ((xeO gr l d f).isSome = false) := by unfold Hid; simp [xeO, xoB, Hhc1.out]
    have HPO : Hid (xeO gr l d f = none) := by have q := HVB.out; cases h : xeO gr l d f with | none => rfl | some i => (rw [h] at q; cases q)
    go_ret3
    exact ⟨by rw [HPO.out]; rfl, HB.out.trans (hc.mono HB.out.size)⟩
  | true =>
    have HGD : Hid (goodG gr = true) := hc1
    have HG := Lib.hid (goodG_ok hc1)
    have Hhc1 := Lib.hid hc1
    clear hc1
    go_wp2_with fail
    refine (spec_sAll gr _ l _ HG.out (Hev.out.below (HB.out.trans (hc.mono HB.out.size)))).mono ?_
    rintro e u2 ⟨rfl, hq2⟩
    replace hc := Below.next hc hq2
    clear hq2 c0_0 c0_1 c0_2 c1_0 c1_1 c1_2 c2_0 c2_1 c2_2
    obtain ⟨c0_0, c0_1, c0_2, c1_0, c1_1, c1_2, c2_0, c2_1, c2_2⟩ := HCC.out _ hc
    cases hc2 : stB gr l with
    | false =>
      have Hhc2 := Lib.hid hc2
      clear hc2
      go_wp2_with fail
      have HVB : Hid ((xeO gr l d f).isSome = false) := by unfold Hid; simp [xeO, xoB, Hhc1.out, Hhc2.out]
      have HPO : Hid (xeO gr l d f = none) := by have q := HVB.out; cases h : xeO gr l d f with | none => rfl | some i => (rw [h] at q; cases q)
      go_ret3
      exact ⟨by rw [HPO.out]; rfl, HB.out.trans (hc.mono HB.out.size)⟩
    | true =>
      have HL : Hid (stB gr l = true) := hc2
      have Hhc2 := Lib.hid hc2
      clear hc2
      go_wp2_with fail
      refine (spec_xEquations gr _ l _ d _ HG.out HL.out (Hev.out.below (HB.out.trans (hc.mono HB.out.size))) (PfR.mk (Hxc.out.below (HB.out.trans (hc.mono HB.out.size))) (Hxh.out.below (HB.out.trans (hc.mono HB.out.size))) (Hxr.out.below (HB.out.trans (hc.mono HB.out.size))))).mono ?_
      rintro e u3 ⟨rfl, hq3⟩
      replace hc := Below.next hc hq3
      clear hq3 c0_0 c0_1 c0_2 c1_0 c1_1 c1_2 c2_0 c2_1 c2_2
      obtain ⟨c0_0, c0_1, c0_2, c1_0, c1_1, c1_2, c2_0, c2_1, c2_2⟩ := HCC.out _ hc
      cases hc3 : fulB gr l d with
      | false =>
        have Hhc3 := Lib.hid hc3
        clear hc3
        go_wp2_with fail
        have HVB : Hid ((xeO gr l d f).isSome = false) := by unfold Hid; simp [xeO, xoB, Hhc1.out, Hhc2.out, Hhc3.out]
        have HPO : Hid (xeO gr l d f = none) := by have q := HVB.out; cases h : xeO gr l d f with | none => rfl | some i => (rw [h] at q; cases q)
        go_ret3
        exact ⟨by rw [HPO.out]; rfl, HB.out.trans (hc.mono HB.out.size)⟩
      | true =>
        have HFB : Hid (fulB gr l d = true) := hc3
        have HFD := Lib.hid (fulB_parts hc3)
        have Hhc3 := Lib.hid hc3
        clear hc3
        go_wp2_with fail
        refine (spec_xEquations gr _ l _ f _ HG.out HL.out (Hev.out.below (HB.out.trans (hc.mono HB.out.size))) (PfR.mk (Hyc.out.below (HB.out.trans (hc.mono HB.out.size))) (Hyh.out.below (HB.out.trans (hc.mono HB.out.size))) (Hyr.out.below (HB.out.trans (hc.mono HB.out.size))))).mono ?_
        rintro e u4 ⟨rfl, hq4⟩
        replace hc := Below.next hc hq4
        clear hq4 c0_0 c0_1 c0_2 c1_0 c1_1 c1_2 c2_0 c2_1 c2_2
        obtain ⟨c0_0, c0_1, c0_2, c1_0, c1_1, c1_2, c2_0, c2_1, c2_2⟩ := HCC.out _ hc
        cases hc4 : fulB gr l f with
        | false =>
          have Hhc4 := Lib.hid hc4
          clear hc4
          go_wp2_with fail
          have HVB : Hid ((xeO gr l d f).isSome = false) := by unfold Hid; simp [xeO, xoB, Hhc1.out, Hhc2.out, Hhc3.out, Hhc4.out]
          have HPO : Hid (xeO gr l d f = none) := by have q := HVB.out; cases h : xeO gr l d f with | none => rfl | some i => (rw [h] at q; cases q)
          go_ret3
          exact ⟨by rw [HPO.out]; rfl, HB.out.trans (hc.mono HB.out.size)⟩
        | true =>
          have HFB2 : Hid (fulB gr l f = true) := hc4
          have HFF := Lib.hid (fulB_parts hc4)
          have Hhc4 := Lib.hid hc4
          clear hc4
          go_wp2_with fail
          refine (spec_l1SameB _ _ d.c f.c _ (Hxc.out.below (HB.out.trans (hc.mono HB.out.size))) (Hyc.out.below (HB.out.trans (hc.mono HB.out.size)))).mono ?_
          rintro e u5 ⟨rfl, hq5⟩
          replace hc := Below.next hc hq5
          clear hq5 c0_0 c0_1 c0_2 c1_0 c1_1 c1_2 c2_0 c2_1 c2_2
          obtain ⟨c0_0, c0_1, c0_2, c1_0, c1_1, c1_2, c2_0, c2_1, c2_2⟩ := HCC.out _ hc
          cases hc5 : decide (d.c = f.c) with
          | false =>
            go_wp2_with fail
            have HVB : Hid ((xeO gr l d f).isSome = false) := by unfold Hid; simp [xeO, xoB, Hhc1.out, Hhc2.out, Hhc3.out, Hhc4.out, hc5]
            have HPO : Hid (xeO gr l d f = none) := by have q := HVB.out; cases h : xeO gr l d f with | none => rfl | some i => (rw [h] at q; cases q)
            go_ret3
            exact ⟨by rw [HPO.out]; rfl, HB.out.trans (hc.mono HB.out.size)⟩
          | true =>
            have HOK : Hid ((goodG gr && (stB gr l && xoB gr l d f)) = true) := by have q := hc5; unfold Hid xoB; rw [HGD.out, HL.out, HFB.out, HFB2.out, q]; rfl
            go_wp2_with fail
            have HC := Lib.hid hc
            have C0 := Lib.hid c0_0
            have C1 := Lib.hid c0_1
            have C2 := Lib.hid c0_2
            have D0 := Lib.hid c1_0
            have D1 := Lib.hid c1_1
            have D2 := Lib.hid c1_2
            have E0 := Lib.hid c2_0
            have E1 := Lib.hid c2_1
            have E2 := Lib.hid c2_2
            clear hc c0_0 c0_1 c0_2 c1_0 c1_1 c1_2 c2_0 c2_1 c2_2 HCC
            clear hc5
            have HN9 : Hid (1 ≤ evn ∧ evn ≤ 8) := by have := stB_len HL.out; unfold Hid; have := Eev.out; omega
            obtain ⟨bh, oh, rfl, hxh⟩ := Hxh.out.at_ (by have := HFD.out.2.1; have := Exh.out; have := Eev.out; have := HN9.out; omega)
            obtain ⟨br, od, rfl, hxr⟩ := Hxr.out.at_ (by have := HFD.out.2.2.1; have := Exr.out; have := Eev.out; have := HN9.out; omega)
            obtain ⟨b2, o2, rfl, hyh⟩ := Hyh.out.at_ (by have := HFF.out.2.1; have := Eyh.out; have := Eev.out; have := HN9.out; omega)
            obtain ⟨b3, o3, rfl, hyr⟩ := Hyr.out.at_ (by have := HFF.out.2.2.1; have := Eyr.out; have := Eev.out; have := HN9.out; omega)
            have X1 := Lib.hid hxh
            have X2 := Lib.hid hxr
            have X3 := Lib.hid hyh
            have X4 := Lib.hid hyr
            clear hxh hxr hyh hyr
            go_loopg [45] evn (fun gk iv wr => ∃ k : Nat, k + gk = evn ∧ iv = .int .i64 (k : Int) ∧ exF d f k = none ∧ Below u5.heap.size u5 wr)
            case atStart => exact ⟨0, by omega, rfl, rfl, Below.refl _ _⟩
            case round =>
              obtain ⟨k, hkg, rfl, hall, hbu⟩ := hrel
              have HALL := Lib.hid hall
              clear hall
              have HBU := Lib.hid hbu
              clear hbu
              have HBW := Lib.hid (HB.out.trans ((Below.next HC.out HBU.out).mono HB.out.size))
              have hgl : k < evn → evn - (k + 1) < gk := by omega
              have HKG := Lib.hid hkg
              clear hkg
              by_cases hlt : k < evn
              · have HK : Hid (k < l.length) := by unfold Hid; have := Eev.out; omega
                have hwk : IntKind.i64.wrap ((k : Int) + 1) = (k : Int) + 1 := IntWalk.i64_in _ (by have := HN9.out; omega)
                have hbk0 : (0 : Int) ≤ (k : Int) := by omega
                have hk1 : (k : Int) < (xhn : Int) := by have := HFD.out.2.1; have := HK.out; have := Exh.out; omega
                have hk2 : (k : Int) < (xrn : Int) := by have := HFD.out.2.2.1; have := HK.out; have := Exr.out; omega
                have hk3 : (k : Int) < (yhn : Int) := by have := HFF.out.2.1; have := HK.out; have := Eyh.out; omega
                have hk4 : (k : Int) < (yrn : Int) := by have := HFF.out.2.2.1; have := HK.out; have := Eyr.out; omega
                have y_a1 := box_at (X1.out k (by have := HFD.out.2.1; have := HK.out; have := Exh.out; omega)) HBW.out
                have y_a2 := box_at (X2.out k (by have := HFD.out.2.2.1; have := HK.out; have := Exr.out; omega)) HBW.out
                have y_a3 := box_at (X3.out k (by have := HFF.out.2.1; have := HK.out; have := Eyh.out; omega)) HBW.out
                have y_a4 := box_at (X4.out k (by have := HFF.out.2.2.1; have := HK.out; have := Eyr.out; omega)) HBW.out
                have A1 : Hid (expB gr (nth d.h k) = true) := exp_nth HG.out HFD.out.2.2.2.2.1 k
                have A2 : Hid (expB gr (nth d.r k) = true) := exp_nth HG.out HFD.out.2.2.2.2.2 k
                have A3 : Hid (expB gr (nth f.h k) = true) := exp_nth HG.out HFF.out.2.2.2.2.1 k
                have A4 : Hid (expB gr (nth f.r k) = true) := exp_nth HG.out HFF.out.2.2.2.2.2 k
                have HY : Hid ((nth d.h k != nth f.h k) = true → xeO gr l d f = some k) := fun q => by unfold xeO; rw [if_pos HOK.out]; exact exF_some HALL.out q HK.out
                have HY2 : Hid ((nth d.h k != nth f.h k) = false → exF d f (k + 1) = none) := fun q => exF_none HALL.out q
                have HXE : Hid (xeX gr d f (some k) = exX gr.q (nth d.h k) (nth d.r k) (nth f.h k) (nth f.r k)) := rfl
                generalize nth d.h k = a1 at y_a1 A1 HY HY2 HXE
                generalize nth d.r k = a2 at y_a2 A2 HXE
                generalize nth f.h k = a3 at y_a3 A3 HY HY2 HXE
                generalize nth f.r k = a4 at y_a4 A4 HXE
                have c0_0 := box_at C0.out HBU.out
                have c0_1 := box_at C1.out HBU.out
                have c0_2 := box_at C2.out HBU.out
                have c1_0 := box_at D0.out HBU.out
                have c1_1 := box_at D1.out HBU.out
                have c1_2 := box_at D2.out HBU.out
                have c2_0 := box_at E0.out HBU.out
                have c2_1 := box_at E1.out HBU.out
                have c2_2 := box_at E2.out HBU.out
                have hc : Below wr.heap.size wr wr := Below.refl _ _
                cases q1 : (a1 != a3) with
                | true =>
                  have HNE : Hid (a1 ≠ a3) := by unfold Hid; simpa using q1
                  go_wp2_with fail
                  try (go_wp2_with fail)
                  refine wp_region_noPanic ?_
                  refine wp_region_P (fun w' => w'.cell? ⟨w.heap.size, 0, none⟩ = some (.int .i64 gr.p) ∧ w'.cell? ⟨w.heap.size, 1, none⟩ = some (.int .i64 gr.q) ∧ w'.cell? ⟨w.heap.size, 2, none⟩ = some (.int .i64 gr.g) ∧ w'.cell? ⟨(w.heap.size + 1), 0, none⟩ = some (.slice xca xcn xcc) ∧ w'.cell? ⟨(w.heap.size + 1), 1, none⟩ = some (.slice (some ⟨bh, oh, none⟩) xhn xhc) ∧ w'.cell? ⟨(w.heap.size + 1), 2, none⟩ = some (.slice (some ⟨br, od, none⟩) xrn xrc) ∧ w'.cell? ⟨(w.heap.size + 1 + 1), 0, none⟩ = some (.slice yca ycn ycc) ∧ w'.cell? ⟨(w.heap.size + 1 + 1), 1, none⟩ = some (.slice (some ⟨b2, o2, none⟩) yhn yhc) ∧ w'.cell? ⟨(w.heap.size + 1 + 1), 2, none⟩ = some (.slice (some ⟨b3, o3, none⟩) yrn yrc) ∧ w'.cell? ⟨bh, oh + k, none⟩ = some (.int .i64 a1) ∧ w'.cell? ⟨br, od + k, none⟩ = some (.int .i64 a2) ∧ w'.cell? ⟨b2, o2 + k, none⟩ = some (.int .i64 a3) ∧ w'.cell? ⟨b3, o3 + k, none⟩ = some (.int .i64 a4)) 13 [(0, []), (1, [0]), (2, []), (3, [1, 0]), (4, [0]), (5, []), (6, [0]), (7, []), (8, [1, 0]), (9, [0]), (10, [5, 0])] [] (by kernel_rfl) (by kernel_rfl) (by kernel_rfl) rfl (fun _ _ _ _ h => h) (fun w' h => ⟨box_at c0_0 h, box_at c0_1 h, box_at c0_2 h, box_at c1_0 h, box_at c1_1 h, box_at c1_2 h, box_at c2_0 h, box_at c2_1 h, box_at c2_2 h, box_at y_a1 h, box_at y_a2 h, box_at y_a3 h, box_at y_a4 h⟩) ?_
                  simp only [pickP, pickN, List.getElem?_cons_zero, List.getElem?_cons_succ]
                  iterate 11 (refine' chainP_read _ rfl rfl (fun w' hS' => ?_) ?_; rotate_left; · (simp only [lookP, allP, Act.put, List.getElem?_cons_zero, List.getElem?_cons_succ, List.setIfInBounds_toArray, List.set_cons_zero, List.set_cons_succ]; (try dsimp only at hS'); go_simp; (try with_reducible rfl)))
                  refine chainP_nil (fun ua hS' => ?_)
                  simp only [allP, Act.put, List.setIfInBounds_toArray, List.set_cons_zero, List.set_cons_succ]
                  have hq1 := hS'.1
                  clear hS'
                  replace hc := Below.next hc hq1
                  replace c0_0 := box_at c0_0 hq1
                  replace c0_1 := box_at c0_1 hq1
                  replace c0_2 := box_at c0_2 hq1
                  replace c1_0 := box_at c1_0 hq1
                  replace c1_1 := box_at c1_1 hq1
                  replace c1_2 := box_at c1_2 hq1
                  replace c2_0 := box_at c2_0 hq1
                  replace c2_1 := box_at c2_1 hq1
                  replace c2_2 := box_at c2_2 hq1
                  replace y_a1 := box_at y_a1 hq1
                  replace y_a2 := box_at y_a2 hq1
                  replace y_a3 := box_at y_a3 hq1
                  replace y_a4 := box_at y_a4 hq1
                  clear hq1
                  go_wp2_with fail
                  refine NoPanic.normal ?_
                  (try (go_wp2_with fail))
                  have HC3 := Lib.hid hc
                  replace HBW := Lib.hid (HBW.out.trans (HC3.out.mono HBW.out.size))
                  clear hc HC3
                  have hc : Below ua.heap.size ua ua := Below.refl _ _
                  try (go_wp2_with fail)
                  refine wp_region_noPanic ?_
                  refine wp_region_P (fun w' => w'.cell? ⟨w.heap.size, 0, none⟩ = some (.int .i64 gr.p) ∧ w'.cell? ⟨w.heap.size, 1, none⟩ = some (.int .i64 gr.q) ∧ w'.cell? ⟨w.heap.size, 2, none⟩ = some (.int .i64 gr.g) ∧ w'.cell? ⟨(w.heap.size + 1), 0, none⟩ = some (.slice xca xcn xcc) ∧ w'.cell? ⟨(w.heap.size + 1), 1, none⟩ = some (.slice (some ⟨bh, oh, none⟩) xhn xhc) ∧ w'.cell? ⟨(w.heap.size + 1), 2, none⟩ = some (.slice (some ⟨br, od, none⟩) xrn xrc) ∧ w'.cell? ⟨(w.heap.size + 1 + 1), 0, none⟩ = some (.slice yca ycn ycc) ∧ w'.cell? ⟨(w.heap.size + 1 + 1), 1, none⟩ = some (.slice (some ⟨b2, o2, none⟩) yhn yhc) ∧ w'.cell? ⟨(w.heap.size + 1 + 1), 2, none⟩ = some (.slice (some ⟨b3, o3, none⟩) yrn yrc) ∧ w'.cell? ⟨bh, oh + k, none⟩ = some (.int .i64 a1) ∧ w'.cell? ⟨br, od + k, none⟩ = some (.int .i64 a2) ∧ w'.cell? ⟨b2, o2 + k, none⟩ = some (.int .i64 a3) ∧ w'.cell? ⟨b3, o3 + k, none⟩ = some (.int .i64 a4)) 28 [(0, []), (1, []), (2, []), (3, [0]), (4, []), (5, [1, 0]), (6, [0]), (7, []), (8, [0]), (9, []), (10, [1, 0]), (11, [0]), (12, []), (13, [0]), (14, []), (15, [1, 0]), (16, [0]), (17, []), (18, [0]), (19, []), (20, [1, 0]), (21, [0]), (22, [20, 15, 10, 5, 0]), (23, [22]), (24, [1]), (25, [])] [] (by kernel_rfl) (by kernel_rfl) (by kernel_rfl) rfl (fun _ _ _ _ h => h) (fun w' h => ⟨box_at c0_0 h, box_at c0_1 h, box_at c0_2 h, box_at c1_0 h, box_at c1_1 h, box_at c1_2 h, box_at c2_0 h, box_at c2_1 h, box_at c2_2 h, box_at y_a1 h, box_at y_a2 h, box_at y_a3 h, box_at y_a4 h⟩) ?_
                  simp only [pickP, pickN, List.getElem?_cons_zero, List.getElem?_cons_succ]
                  iterate 22 (refine' chainP_read _ rfl rfl (fun w' hS' => ?_) ?_; rotate_left; · (simp only [lookP, allP, Act.put, List.getElem?_cons_zero, List.getElem?_cons_succ, List.setIfInBounds_toArray, List.set_cons_zero, List.set_cons_succ]; (try dsimp only at hS'); go_simp; (try with_reducible rfl)))
                  -- 22: call { callee := value (func 159), args := #[t60, t65, t70, t75, t80], argTypes := #[25, 3, 3, 3, 3] }
                  refine chainP_call (d := (some 81)) (.int .i64 (exX gr.q a1 a2 a3 a4)) rfl rfl (fun w' hS' => ?_) ?_
                  · simp only [lookP, allP, Act.put, List.getElem?_cons_zero, List.getElem?_cons_succ, List.setIfInBounds_toArray, List.set_cons_zero, List.set_cons_succ]
                    intro K hK
                    go_simp
                    go_at_call 120
                    refine (spec_xSlope gr a1 a2 a3 a4 _ HG.out A1.out A2.out A3.out A4.out HNE.out).mono ?_
                    rintro e u ⟨rfl, hq⟩
                    exact hK.out _ hq
                  iterate 3 (refine' chainP_read _ rfl rfl (fun w' hS' => ?_) ?_; rotate_left; · (simp only [lookP, allP, Act.put, List.getElem?_cons_zero, List.getElem?_cons_succ, List.setIfInBounds_toArray, List.set_cons_zero, List.set_cons_succ]; (try dsimp only at hS'); go_simp; (try with_reducible rfl)))
                  refine chainP_nil (fun ub hS' => ?_)
                  simp only [allP, Act.put, List.setIfInBounds_toArray, List.set_cons_zero, List.set_cons_succ]
                  have hq1 := hS'.1
                  clear hS'
                  replace hc := Below.next hc hq1
                  replace c0_0 := box_at c0_0 hq1
                  replace c0_1 := box_at c0_1 hq1
                  replace c0_2 := box_at c0_2 hq1
                  replace c1_0 := box_at c1_0 hq1
                  replace c1_1 := box_at c1_1 hq1
                  replace c1_2 := box_at c1_2 hq1
                  replace c2_0 := box_at c2_0 hq1
                  replace c2_1 := box_at c2_1 hq1
                  replace c2_2 := box_at c2_2 hq1
                  replace y_a1 := box_at y_a1 hq1
                  replace y_a2 := box_at y_a2 hq1
                  replace y_a3 := box_at y_a3 hq1
                  replace y_a4 := box_at y_a4 hq1
                  clear hq1
                  go_wp2_with fail
                  refine NoPanic.normal ?_
                  clear c0_0 c0_1 c0_2 c1_0 c1_1 c1_2 c2_0 c2_1 c2_2 y_a1 y_a2 y_a3 y_a4
                  go_wp2_with fail
                  have HFO := HY.out q1
                  go_ret3
                  exact ⟨by rw [HFO, HXE.out]; rfl, HBW.out.trans (hc.mono HBW.out.size)⟩
                | false =>
                  go_wp2_with fail
                  try (go_wp2_with fail)
                  refine wp_region_noPanic ?_
                  refine wp_region_P (fun w' => w'.cell? ⟨w.heap.size, 0, none⟩ = some (.int .i64 gr.p) ∧ w'.cell? ⟨w.heap.size, 1, none⟩ = some (.int .i64 gr.q) ∧ w'.cell? ⟨w.heap.size, 2, none⟩ = some (.int .i64 gr.g) ∧ w'.cell? ⟨(w.heap.size + 1), 0, none⟩ = some (.slice xca xcn xcc) ∧ w'.cell? ⟨(w.heap.size + 1), 1, none⟩ = some (.slice (some ⟨bh, oh, none⟩) xhn xhc) ∧ w'.cell? ⟨(w.heap.size + 1), 2, none⟩ = some (.slice (some ⟨br, od, none⟩) xrn xrc) ∧ w'.cell? ⟨(w.heap.size + 1 + 1), 0, none⟩ = some (.slice yca ycn ycc) ∧ w'.cell? ⟨(w.heap.size + 1 + 1), 1, none⟩ = some (.slice (some ⟨b2, o2, none⟩) yhn yhc) ∧ w'.cell? ⟨(w.heap.size + 1 + 1), 2, none⟩ = some (.slice (some ⟨b3, o3, none⟩) yrn yrc) ∧ w'.cell? ⟨bh, oh + k, none⟩ = some (.int .i64 a1) ∧ w'.cell? ⟨br, od + k, none⟩ = some (.int .i64 a2) ∧ w'.cell? ⟨b2, o2 + k, none⟩ = some (.int .i64 a3) ∧ w'.cell? ⟨b3, o3 + k, none⟩ = some (.int .i64 a4)) 13 [(0, []), (1, [0]), (2, []), (3, [1, 0]), (4, [0]), (5, []), (6, [0]), (7, []), (8, [1, 0]), (9, [0]), (10, [5, 0])] [] (by kernel_rfl) (by kernel_rfl) (by kernel_rfl) rfl (fun _ _ _ _ h => h) (fun w' h => ⟨box_at c0_0 h, box_at c0_1 h, box_at c0_2 h, box_at c1_0 h, box_at c1_1 h, box_at c1_2 h, box_at c2_0 h, box_at c2_1 h, box_at c2_2 h, box_at y_a1 h, box_at y_a2 h, box_at y_a3 h, box_at y_a4 h⟩) ?_
                  simp only [pickP, pickN, List.getElem?_cons_zero, List.getElem?_cons_succ]
                  iterate 11 (refine' chainP_read _ rfl rfl (fun w' hS' => ?_) ?_; rotate_left; · (simp only [lookP, allP, Act.put, List.getElem?_cons_zero, List.getElem?_cons_succ, List.setIfInBounds_toArray, List.set_cons_zero, List.set_cons_succ]; (try dsimp only at hS'); go_simp; (try with_reducible rfl)))
                  refine chainP_nil (fun ua hS' => ?_)
                  simp only [allP, Act.put, List.setIfInBounds_toArray, List.set_cons_zero, List.set_cons_succ]
                  have hq1 := hS'.1
                  clear hS'
                  replace hc := Below.next hc hq1
                  replace c0_0 := box_at c0_0 hq1
                  replace c0_1 := box_at c0_1 hq1
                  replace c0_2 := box_at c0_2 hq1
                  replace c1_0 := box_at c1_0 hq1
                  replace c1_1 := box_at c1_1 hq1
                  replace c1_2 := box_at c1_2 hq1
                  replace c2_0 := box_at c2_0 hq1
                  replace c2_1 := box_at c2_1 hq1
                  replace c2_2 := box_at c2_2 hq1
                  replace y_a1 := box_at y_a1 hq1
                  replace y_a2 := box_at y_a2 hq1
                  replace y_a3 := box_at y_a3 hq1
                  replace y_a4 := box_at y_a4 hq1
                  clear hq1
                  go_wp2_with fail
                  refine NoPanic.normal ?_
                  clear c0_0 c0_1 c0_2 c1_0 c1_1 c1_2 c2_0 c2_1 c2_2 y_a1 y_a2 y_a3 y_a4
                  have HC2 := Lib.hid hc
                  clear hc
                  go_wp2_with fail
                  go_roundg (evn - (k + 1))
                  case measure => exact hgl hlt
                  case rel => exact ⟨k + 1, by have := HKG.out; omega, by go_num, HY2.out q1, HBU.out.trans (HC2.out.mono HBU.out.size)⟩
              · have HPO : Hid (xeO gr l d f = none) := by
                  unfold Hid xeO
                  rw [if_pos HOK.out, show l.length = k by have := Eev.out; have := HKG.out; omega]; exact HALL.out
                go_wp2_with fail
                go_ret3
                exact ⟨by rw [HPO.out]; rfl, HBW.out⟩
end Go.Proofs.Ytegomgnlhcbmfaa
