/- Dealings: walks (printed by gen_sh2.py). -/
import Derived.Test.YtegomgnlhcbmfaaSh1S
import Derived.Test.YtegomgnlhcbmfaaEqIS
import Derived.Deep.Cut
import Derived.Test.YtegomgnlhcbmfaaPow2S
import Derived.Test.YtegomgnlhcbmfaaBmS
import Derived.Test.YtegomgnlhcbmfaaRegPS
import Derived.Deep.QuietTactic
import Derived.BigQuiet
namespace Go.Proofs.Ytegomgnlhcbmfaa
open Go.RowKit
set_option linter.unusedSimpArgs false
set_option linter.unusedVariables false

/-- a dealing in memory -/
def DlR (w : World) (v : Value) (d : DealingD) : Prop := ∃ a b, v = .agg #[a, b] ∧ Ints w a d.c ∧ Ints w b d.s
theorem DlR.mk {w : World} {a b : Value} {d : DealingD} (h1 : Ints w a d.c) (h2 : Ints w b d.s) : DlR w (.agg #[a, b]) d := ⟨a, b, rfl, h1, h2⟩
theorem DlR.below {w w' : World} {v : Value} {d : DealingD} (h : DlR w v d) (hb : Below w.heap.size w w') : DlR w' v d := by
  obtain ⟨a, b, e, h1, h2⟩ := h; exact ⟨a, b, e, h1.below hb, h2.below hb⟩
def lnB (d : DealingD) : Bool := decide ((d.c.length : Int) ≤ (d.s.length : Int) ∧ (d.s.length : Int) ≤ 7)
def deB (gr : GroupD) (d : DealingD) : Bool := cmsB gr d.c && (lnB d && d.s.all (expB gr))
noncomputable def vdB (gr : GroupD) (d : DealingD) : Bool := shG gr && deB gr d
def smB (a b : DealingD) : Bool := decide (a.c.length = b.c.length) && decide (a.s.length = b.s.length)
def bdL (gr : GroupD) (d : DealingD) : Nat → List Int
  | 0 => []
  | k + 1 => if shrB gr d.c ((k : Int) + 1) (nth d.s k) = true then bdL gr d k else bdL gr d k ++ [(k : Int) + 1]
def badE (gr : GroupD) (d : DealingD) : List Int := bdL gr d d.s.length
noncomputable def bsR (gr : GroupD) (d : DealingD) : List Int := if vdB gr d = true then badE gr d else []
theorem bdL_len (gr : GroupD) (d : DealingD) (k : Nat) : (bdL gr d k).length ≤ k := by
  induction k with
  | zero => exact Nat.le_refl _
  | succ k ih =>
    unfold bdL
    split
    · omega
    · rw [List.length_append, List.length_singleton]; omega
theorem deB_parts {gr : GroupD} {d : DealingD} (h : deB gr d = true) : (1 ≤ d.c.length ∧ d.c.length ≤ d.s.length ∧ d.s.length ≤ 7) ∧ d.c.all (elB gr) = true ∧ d.s.all (expB gr) = true := by
  unfold deB lnB at h
  simp only [Bool.and_eq_true, decide_eq_true_iff] at h
  obtain ⟨h1, h2, h3⟩ := h
  have := (cmsB_parts h1).1
  exact ⟨⟨by omega, by omega, by omega⟩, (cmsB_parts h1).2, h3⟩
set_option maxRecDepth 100000 in
set_option maxHeartbeats 2000000 in
theorem impl_hasDealing (gr : GroupD) (pv : Value) (d : DealingD) (w : World) (hg : OkG gr) (hp : DlR w pv d) :
    Calls Try.prog 173 #[.agg #[.int .i64 gr.p, .int .i64 gr.q, .int .i64 gr.g], pv] w fun e w' => e = .returned (.bool (deB gr d)) ∧ Below w.heap.size w w' := by
  have HG := Lib.hid hg
  clear hg
  obtain ⟨xcv, xsv, rfl, hxc, hxs⟩ := hp
  obtain ⟨xca, xcn, xcc, rfl⟩ := hxc.shape
  have Exc := Lib.hid hxc.len
  have Kxc := Lib.hid hxc.capMax
  have Hxc := Lib.hid hxc
  clear hxc
  obtain ⟨xsa, xsn, xsc, rfl⟩ := hxs.shape
  have Exs := Lib.hid hxs.len
  have Kxs := Lib.hid hxs.capMax
  have Hxs := Lib.hid hxs
  clear hxs
  obtain ⟨W, hW⟩ : ∃ W, W = (w.alloc (.cells #[.int .i64 gr.p, .int .i64 gr.q, .int .i64 gr.g] 24)).alloc (.cells #[(.slice xca xcn xcc), (.slice xsa xsn xsc)] 66) := ⟨_, rfl⟩
  have HB : Hid (Below w.heap.size w W) := by unfold Hid; rw [hW]; (repeat (first | exact Below.refl _ _ | assumption | refine Below.drew ?_ | refine Below.alloc ?_ (by first | (simp; done) | (simp; omega)) _ | refine Below.setCell ?_ (by first | (simp; done) | (simp; omega)) _))
  have c0_0 : W.cell? ⟨w.heap.size, 0, none⟩ = some (.int .i64 gr.p) := by rw [hW]; simp [go_sem]
  have c0_1 : W.cell? ⟨w.heap.size, 1, none⟩ = some (.int .i64 gr.q) := by rw [hW]; simp [go_sem]
  have c0_2 : W.cell? ⟨w.heap.size, 2, none⟩ = some (.int .i64 gr.g) := by rw [hW]; simp [go_sem]
  have c1_0 : W.cell? ⟨w.heap.size + 1, 0, none⟩ = some ((.slice xca xcn xcc)) := by rw [hW]; simp [go_sem]
  have c1_1 : W.cell? ⟨w.heap.size + 1, 1, none⟩ = some ((.slice xsa xsn xsc)) := by rw [hW]; simp [go_sem]
  have HSW : Hid (W.heap.size = w.heap.size + 2) := by unfold Hid; rw [hW]; simp
  go_enter Try.func173, Try.ntmps173
  go_wp2_with fail
  rw [← hW]
  have hse : w.heap.size + 1 + 1 = W.heap.size := by have := HSW.out; omega
  (try rw [hse])
  clear hse
  clear hW
  have hc : Below W.heap.size W W := Below.refl _ _
  have HCC : Hid (∀ u, Below W.heap.size W u → u.cell? ⟨w.heap.size, 0, none⟩ = some (.int .i64 gr.p) ∧ u.cell? ⟨w.heap.size, 1, none⟩ = some (.int .i64 gr.q) ∧ u.cell? ⟨w.heap.size, 2, none⟩ = some (.int .i64 gr.g) ∧ u.cell? ⟨w.heap.size + 1, 0, none⟩ = some ((.slice xca xcn xcc)) ∧ u.cell? ⟨w.heap.size + 1, 1, none⟩ = some ((.slice xsa xsn xsc))) := fun u h => ⟨box_at c0_0 h, box_at c0_1 h, box_at c0_2 h, box_at c1_0 h, box_at c1_1 h⟩
  go_wp2_with fail
  refine (impl_areCommits gr _ d.c _ HG.out (Hxc.out.below (HB.out.trans (hc.mono HB.out.size)))).mono ?_
  rintro e u1 ⟨rfl, hq1⟩
  replace hc := Below.next hc hq1
  clear hq1 c0_0 c0_1 c0_2 c1_0 c1_1
  obtain ⟨c0_0, c0_1, c0_2, c1_0, c1_1⟩ := HCC.out _ hc
  cases hc1 : cmsB gr d.c with
  | false =>
    have Hhc1 := Lib.hid hc1
    clear hc1
    go_wp2_with fail
    have HV : Hid ((.bool (deB gr d) : Value) = .bool false) := by unfold Hid; simp [deB, Hhc1.out]
    go_ret
    exact ⟨congrArg Ending.returned HV.out.symm, HB.out.trans (hc.mono HB.out.size)⟩
  | true =>
    have Hhc1 := Lib.hid hc1
    clear hc1
    go_wp2_with fail
    refine (impl_within (xsn : Int) (xcn : Int) 7 _).mono ?_
    rintro e u2 ⟨rfl, rfl⟩
    cases hc2 : decide ((xcn : Int) ≤ (xsn : Int) ∧ (xsn : Int) ≤ 7) with
    | false =>
      have HLN : Hid (lnB d = false) := by have q := of_decide_eq_false hc2; have := Exc.out; have := Exs.out; unfold Hid lnB; exact decide_eq_false (by omega)
      go_wp2_with fail
      have HV : Hid ((.bool (deB gr d) : Value) = .bool false) := by unfold Hid; simp [deB, Hhc1.out, HLN.out]
      go_ret
      exact ⟨congrArg Ending.returned HV.out.symm, HB.out.trans (hc.mono HB.out.size)⟩
    | true =>
      have HLN : Hid (lnB d = true) := by have q := of_decide_eq_true hc2; have := Exc.out; have := Exs.out; unfold Hid lnB; exact decide_eq_true (by omega)
      go_wp2_with fail
      refine (impl_areExps gr _ d.s _ HG.out (Hxs.out.below (HB.out.trans (hc.mono HB.out.size)))).mono ?_
      rintro e u3 ⟨rfl, hq3⟩
      replace hc := Below.next hc hq3
      clear hq3 c0_0 c0_1 c0_2 c1_0 c1_1
      obtain ⟨c0_0, c0_1, c0_2, c1_0, c1_1⟩ := HCC.out _ hc
      cases hc3 : d.s.all (expB gr) with
      | false =>
        have Hhc3 := Lib.hid hc3
        clear hc3
        go_wp2_with fail
        have HV : Hid ((.bool (deB gr d) : Value) = .bool false) := by unfold Hid; simp [deB, Hhc1.out, Hhc3.out, HLN.out]
        go_ret
        exact ⟨congrArg Ending.returned HV.out.symm, HB.out.trans (hc.mono HB.out.size)⟩
      | true =>
        have Hhc3 := Lib.hid hc3
        clear hc3
        go_wp2_with fail
        have HV : Hid ((.bool (deB gr d) : Value) = .bool true) := by unfold Hid; simp [deB, Hhc1.out, Hhc3.out, HLN.out]
        go_ret
        exact ⟨congrArg Ending.returned HV.out.symm, HB.out.trans (hc.mono HB.out.size)⟩
set_option maxRecDepth 100000 in
set_option maxHeartbeats 2000000 in
theorem spec_sDealing (gr : GroupD) (pv : Value) (d : DealingD) (w : World) (hg : OkG gr) (hp : DlR w pv d) :
    Calls Try.prog 208 #[.agg #[.int .i64 gr.p, .int .i64 gr.q, .int .i64 gr.g], pv] w fun e w' => e = .returned (.bool (deB gr d)) ∧ Below w.heap.size w w' := by
  have HG := Lib.hid hg
  clear hg
  obtain ⟨xcv, xsv, rfl, hxc, hxs⟩ := hp
  obtain ⟨xca, xcn, xcc, rfl⟩ := hxc.shape
  have Exc := Lib.hid hxc.len
  have Kxc := Lib.hid hxc.capMax
  have Hxc := Lib.hid hxc
  clear hxc
  obtain ⟨xsa, xsn, xsc, rfl⟩ := hxs.shape
  have Exs := Lib.hid hxs.len
  have Kxs := Lib.hid hxs.capMax
  have Hxs := Lib.hid hxs
  clear hxs
  obtain ⟨W, hW⟩ : ∃ W, W = (w.alloc (.cells #[.int .i64 gr.p, .int .i64 gr.q, .int .i64 gr.g] 24)).alloc (.cells #[(.slice xca xcn xcc), (.slice xsa xsn xsc)] 66) := ⟨_, rfl⟩
  have HB : Hid (Below w.heap.size w W) := by unfold Hid; rw [hW]; (repeat (first | exact Below.refl _ _ | assumption | refine Below.drew ?_ | refine Below.alloc ?_ (by first | (simp; done) | (simp; omega)) _ | refine Below.setCell ?_ (by first | (simp; done) | (simp; omega)) _))
  have c0_0 : W.cell? ⟨w.heap.size, 0, none⟩ = some (.int .i64 gr.p) := by rw [hW]; simp [go_sem]
  have c0_1 : W.cell? ⟨w.heap.size, 1, none⟩ = some (.int .i64 gr.q) := by rw [hW]; simp [go_sem]
  have c0_2 : W.cell? ⟨w.heap.size, 2, none⟩ = some (.int .i64 gr.g) := by rw [hW]; simp [go_sem]
  have c1_0 : W.cell? ⟨w.heap.size + 1, 0, none⟩ = some ((.slice xca xcn xcc)) := by rw [hW]; simp [go_sem]
  have c1_1 : W.cell? ⟨w.heap.size + 1, 1, none⟩ = some ((.slice xsa xsn xsc)) := by rw [hW]; simp [go_sem]
  have HSW : Hid (W.heap.size = w.heap.size + 2) := by unfold Hid; rw [hW]; simp
  go_enter Try.func208, Try.ntmps208
  go_wp2_with fail
  rw [← hW]
  have hse : w.heap.size + 1 + 1 = W.heap.size := by have := HSW.out; omega
  (try rw [hse])
  clear hse
  clear hW
  have hc : Below W.heap.size W W := Below.refl _ _
  have HCC : Hid (∀ u, Below W.heap.size W u → u.cell? ⟨w.heap.size, 0, none⟩ = some (.int .i64 gr.p) ∧ u.cell? ⟨w.heap.size, 1, none⟩ = some (.int .i64 gr.q) ∧ u.cell? ⟨w.heap.size, 2, none⟩ = some (.int .i64 gr.g) ∧ u.cell? ⟨w.heap.size + 1, 0, none⟩ = some ((.slice xca xcn xcc)) ∧ u.cell? ⟨w.heap.size + 1, 1, none⟩ = some ((.slice xsa xsn xsc))) := fun u h => ⟨box_at c0_0 h, box_at c0_1 h, box_at c0_2 h, box_at c1_0 h, box_at c1_1 h⟩
  go_wp2_with fail
  refine (spec_sCommits gr _ d.c _ HG.out (Hxc.out.below (HB.out.trans (hc.mono HB.out.size)))).mono ?_
  rintro e u1 ⟨rfl, hq1⟩
  replace hc := Below.next hc hq1
  clear hq1 c0_0 c0_1 c0_2 c1_0 c1_1
  obtain ⟨c0_0, c0_1, c0_2, c1_0, c1_1⟩ := HCC.out _ hc
  cases hc1 : cmsB gr d.c with
  | false =>
    have Hhc1 := Lib.hid hc1
    clear hc1
    go_wp2_with fail
    have HV : Hid ((.bool (deB gr d) : Value) = .bool false) := by unfold Hid; simp [deB, Hhc1.out]
    go_ret
    exact ⟨congrArg Ending.returned HV.out.symm, HB.out.trans (hc.mono HB.out.size)⟩
  | true =>
    have Hhc1 := Lib.hid hc1
    clear hc1
    go_wp2_with fail
    refine (spec_l1In (xsn : Int) (xcn : Int) 7 _).mono ?_
    rintro e u2 ⟨rfl, rfl⟩
    cases hc2 : decide ((xcn : Int) ≤ (xsn : Int) ∧ (xsn : Int) ≤ 7) with
    | false =>
      have HLN : Hid (lnB d = false) := by have q := of_decide_eq_false hc2; have := Exc.out; have := Exs.out; unfold Hid lnB; exact decide_eq_false (by omega)
      go_wp2_with fail
      have HV : Hid ((.bool (deB gr d) : Value) = .bool false) := by unfold Hid; simp [deB, Hhc1.out, HLN.out]
      go_ret
      exact ⟨congrArg Ending.returned HV.out.symm, HB.out.trans (hc.mono HB.out.size)⟩
    | true =>
      have HLN : Hid (lnB d = true) := by have q := of_decide_eq_true hc2; have := Exc.out; have := Exs.out; unfold Hid lnB; exact decide_eq_true (by omega)
      go_wp2_with fail
      refine (spec_gExps gr _ d.s _ HG.out (Hxs.out.below (HB.out.trans (hc.mono HB.out.size)))).mono ?_
      rintro e u3 ⟨rfl, hq3⟩
      replace hc := Below.next hc hq3
      clear hq3 c0_0 c0_1 c0_2 c1_0 c1_1
      obtain ⟨c0_0, c0_1, c0_2, c1_0, c1_1⟩ := HCC.out _ hc
      cases hc3 : d.s.all (expB gr) with
      | false =>
        have Hhc3 := Lib.hid hc3
        clear hc3
        go_wp2_with fail
        have HV : Hid ((.bool (deB gr d) : Value) = .bool false) := by unfold Hid; simp [deB, Hhc1.out, Hhc3.out, HLN.out]
        go_ret
        exact ⟨congrArg Ending.returned HV.out.symm, HB.out.trans (hc.mono HB.out.size)⟩
      | true =>
        have Hhc3 := Lib.hid hc3
        clear hc3
        go_wp2_with fail
        have HV : Hid ((.bool (deB gr d) : Value) = .bool true) := by unfold Hid; simp [deB, Hhc1.out, Hhc3.out, HLN.out]
        go_ret
        exact ⟨congrArg Ending.returned HV.out.symm, HB.out.trans (hc.mono HB.out.size)⟩
set_option maxRecDepth 100000 in
set_option maxHeartbeats 2000000 in
theorem impl_IsValidDealing (gr : GroupD) (pv : Value) (d : DealingD) (w : World) (hp : DlR w pv d) :
    Calls Try.prog 56 #[.agg #[.int .i64 gr.p, .int .i64 gr.q, .int .i64 gr.g], pv] w fun e w' => e = .returned (.bool (vdB gr d)) ∧ Below w.heap.size w w' := by
  obtain ⟨xcv, xsv, rfl, hxc, hxs⟩ := hp
  obtain ⟨xca, xcn, xcc, rfl⟩ := hxc.shape
  have Exc := Lib.hid hxc.len
  have Kxc := Lib.hid hxc.capMax
  have Hxc := Lib.hid hxc
  clear hxc
  obtain ⟨xsa, xsn, xsc, rfl⟩ := hxs.shape
  have Exs := Lib.hid hxs.len
  have Kxs := Lib.hid hxs.capMax
  have Hxs := Lib.hid hxs
  clear hxs
  obtain ⟨W, hW⟩ : ∃ W, W = (w.alloc (.cells #[.int .i64 gr.p, .int .i64 gr.q, .int .i64 gr.g] 24)).alloc (.cells #[(.slice xca xcn xcc), (.slice xsa xsn xsc)] 66) := ⟨_, rfl⟩
  have HB : Hid (Below w.heap.size w W) := by unfold Hid; rw [hW]; (repeat (first | exact Below.refl _ _ | assumption | refine Below.drew ?_ | refine Below.alloc ?_ (by first | (simp; done) | (simp; omega)) _ | refine Below.setCell ?_ (by first | (simp; done) | (simp; omega)) _))
  have c0_0 : W.cell? ⟨w.heap.size, 0, none⟩ = some (.int .i64 gr.p) := by rw [hW]; simp [go_sem]
  have c0_1 : W.cell? ⟨w.heap.size, 1, none⟩ = some (.int .i64 gr.q) := by rw [hW]; simp [go_sem]
  have c0_2 : W.cell? ⟨w.heap.size, 2, none⟩ = some (.int .i64 gr.g) := by rw [hW]; simp [go_sem]
  have c1_0 : W.cell? ⟨w.heap.size + 1, 0, none⟩ = some ((.slice xca xcn xcc)) := by rw [hW]; simp [go_sem]
  have c1_1 : W.cell? ⟨w.heap.size + 1, 1, none⟩ = some ((.slice xsa xsn xsc)) := by rw [hW]; simp [go_sem]
  have HSW : Hid (W.heap.size = w.heap.size + 2) := by unfold Hid; rw [hW]; simp
  go_enter Try.func56, Try.ntmps56
  go_wp2_with fail
  rw [← hW]
  have hse : w.heap.size + 1 + 1 = W.heap.size := by have := HSW.out; omega
  (try rw [hse])
  clear hse
  clear hW
  have hc : Below W.heap.size W W := Below.refl _ _
  have HCC : Hid (∀ u, Below W.heap.size W u → u.cell? ⟨w.heap.size, 0, none⟩ = some (.int .i64 gr.p) ∧ u.cell? ⟨w.heap.size, 1, none⟩ = some (.int .i64 gr.q) ∧ u.cell? ⟨w.heap.size, 2, none⟩ = some (.int .i64 gr.g) ∧ u.cell? ⟨w.heap.size + 1, 0, none⟩ = some ((.slice xca xcn xcc)) ∧ u.cell? ⟨w.heap.size + 1, 1, none⟩ = some ((.slice xsa xsn xsc))) := fun u h => ⟨box_at c0_0 h, box_at c0_1 h, box_at c0_2 h, box_at c1_0 h, box_at c1_1 h⟩
  go_wp2_with fail
  refine (impl_isSharing gr _).mono ?_
  rintro e u1 ⟨rfl, hq1⟩
  replace hc := Below.next hc hq1
  clear hq1 c0_0 c0_1 c0_2 c1_0 c1_1
  obtain ⟨c0_0, c0_1, c0_2, c1_0, c1_1⟩ := HCC.out _ hc
  cases hc1 : shG gr with
  | false =>
    have Hhc1 := Lib.hid hc1
    clear hc1
    go_wp2_with fail
    have HV : Hid ((.bool (vdB gr d) : Value) = .bool false) := by unfold Hid; simp [vdB, Hhc1.out]
    go_ret
    exact ⟨congrArg Ending.returned HV.out.symm, HB.out.trans (hc.mono HB.out.size)⟩
  | true =>
    have HG := Lib.hid (shG_ok hc1)
    have Hhc1 := Lib.hid hc1
    clear hc1
    go_wp2_with fail
    refine (impl_hasDealing gr _ d _ HG.out (DlR.mk (Hxc.out.below (HB.out.trans (hc.mono HB.out.size))) (Hxs.out.below (HB.out.trans (hc.mono HB.out.size))))).mono ?_
    rintro e u2 ⟨rfl, hq2⟩
    replace hc := Below.next hc hq2
    clear hq2 c0_0 c0_1 c0_2 c1_0 c1_1
    obtain ⟨c0_0, c0_1, c0_2, c1_0, c1_1⟩ := HCC.out _ hc
    cases hc2 : deB gr d with
    | false =>
      have Hhc2 := Lib.hid hc2
      clear hc2
      go_wp2_with fail
      have HV : Hid ((.bool (vdB gr d) : Value) = .bool false) := by unfold Hid; simp [vdB, Hhc1.out, Hhc2.out]
      go_ret
      exact ⟨congrArg Ending.returned HV.out.symm, HB.out.trans (hc.mono HB.out.size)⟩
    | true =>
      have Hhc2 := Lib.hid hc2
      clear hc2
      go_wp2_with fail
      have HV : Hid ((.bool (vdB gr d) : Value) = .bool true) := by unfold Hid; simp [vdB, Hhc1.out, Hhc2.out]
      go_ret
      exact ⟨congrArg Ending.returned HV.out.symm, HB.out.trans (hc.mono HB.out.size)⟩
set_option maxRecDepth 100000 in
set_option maxHeartbeats 2000000 in
theorem impl_sameShape (pv qv : Value) (d f : DealingD) (w : World) (hp : DlR w pv d) (hq : DlR w qv f) :
    Calls Try.prog 136 #[pv, qv] w fun e w' => e = .returned (.bool (smB d f)) ∧ Below w.heap.size w w' := by
  obtain ⟨xcv, xsv, rfl, hxc, hxs⟩ := hp
  obtain ⟨xca, xcn, xcc, rfl⟩ := hxc.shape
  have Exc := Lib.hid hxc.len
  have Kxc := Lib.hid hxc.capMax
  have Hxc := Lib.hid hxc
  clear hxc
  obtain ⟨xsa, xsn, xsc, rfl⟩ := hxs.shape
  have Exs := Lib.hid hxs.len
  have Kxs := Lib.hid hxs.capMax
  have Hxs := Lib.hid hxs
  clear hxs
  obtain ⟨ycv, ysv, rfl, hyc, hys⟩ := hq
  obtain ⟨yca, ycn, ycc, rfl⟩ := hyc.shape
  have Eyc := Lib.hid hyc.len
  have Kyc := Lib.hid hyc.capMax
  have Hyc := Lib.hid hyc
  clear hyc
  obtain ⟨ysa, ysn, ysc, rfl⟩ := hys.shape
  have Eys := Lib.hid hys.len
  have Kys := Lib.hid hys.capMax
  have Hys := Lib.hid hys
  clear hys
  cases hc1 : ((xcn : Int) == (ycn : Int)) with
  | false =>
    have HS1 : Hid (decide (d.c.length = f.c.length) = false) := by have q := hc1; rw [beq_eq_false_iff_ne] at q; have := Exc.out; have := Eyc.out; unfold Hid; exact decide_eq_false (by omega)
    have HV : Hid ((.bool (smB d f) : Value) = .bool false) := by unfold Hid; simp [smB, hc1, HS1.out]
    rw [HV.out]
    go_enter Try.func136, Try.ntmps136
    go_wp2_with fail
    go_ret
    exact ⟨rfl, by (repeat (first | exact Below.refl _ _ | assumption | refine Below.drew ?_ | refine Below.alloc ?_ (by first | (simp; done) | (simp; omega)) _ | refine Below.setCell ?_ (by first | (simp; done) | (simp; omega)) _))⟩
  | true =>
    have HS1 : Hid (decide (d.c.length = f.c.length) = true) := by have q := hc1; rw [beq_iff_eq] at q; have := Exc.out; have := Eyc.out; unfold Hid; exact decide_eq_true (by omega)
    cases hc2 : ((xsn : Int) == (ysn : Int)) with
    | false =>
      have HS2 : Hid (decide (d.s.length = f.s.length) = false) := by have q := hc2; rw [beq_eq_false_iff_ne] at q; have := Exs.out; have := Eys.out; unfold Hid; exact decide_eq_false (by omega)
      have HV : Hid ((.bool (smB d f) : Value) = .bool false) := by unfold Hid; simp [smB, hc1, hc2, HS1.out, HS2.out]
      rw [HV.out]
      go_enter Try.func136, Try.ntmps136
      go_wp2_with fail
      go_ret
      exact ⟨rfl, by (repeat (first | exact Below.refl _ _ | assumption | refine Below.drew ?_ | refine Below.alloc ?_ (by first | (simp; done) | (simp; omega)) _ | refine Below.setCell ?_ (by first | (simp; done) | (simp; omega)) _))⟩
    | true =>
      have HS2 : Hid (decide (d.s.length = f.s.length) = true) := by have q := hc2; rw [beq_iff_eq] at q; have := Exs.out; have := Eys.out; unfold Hid; exact decide_eq_true (by omega)
      have HV : Hid ((.bool (smB d f) : Value) = .bool true) := by unfold Hid; simp [smB, hc1, hc2, HS1.out, HS2.out]
      rw [HV.out]
      go_enter Try.func136, Try.ntmps136
      go_wp2_with fail
      go_ret
      exact ⟨rfl, by (repeat (first | exact Below.refl _ _ | assumption | refine Below.drew ?_ | refine Below.alloc ?_ (by first | (simp; done) | (simp; omega)) _ | refine Below.setCell ?_ (by first | (simp; done) | (simp; omega)) _))⟩
set_option maxRecDepth 100000 in
set_option maxHeartbeats 2000000 in
theorem laws_qDealing (pv qv : Value) (d : DealingD) (w : World) (hp : DlR w pv d) (hq : DlR w qv d) :
    Calls Try.prog 38 #[pv, qv] w fun e w' => e = .returned (.bool true) ∧ Below w.heap.size w w' := by
  obtain ⟨xcv, xsv, rfl, hxc, hxs⟩ := hp
  obtain ⟨xca, xcn, xcc, rfl⟩ := hxc.shape
  have Exc := Lib.hid hxc.len
  have Kxc := Lib.hid hxc.capMax
  have Hxc := Lib.hid hxc
  clear hxc
  obtain ⟨xsa, xsn, xsc, rfl⟩ := hxs.shape
  have Exs := Lib.hid hxs.len
  have Kxs := Lib.hid hxs.capMax
  have Hxs := Lib.hid hxs
  clear hxs
  obtain ⟨ycv, ysv, rfl, hyc, hys⟩ := hq
  obtain ⟨yca, ycn, ycc, rfl⟩ := hyc.shape
  have Eyc := Lib.hid hyc.len
  have Kyc := Lib.hid hyc.capMax
  have Hyc := Lib.hid hyc
  clear hyc
  obtain ⟨ysa, ysn, ysc, rfl⟩ := hys.shape
  have Eys := Lib.hid hys.len
  have Kys := Lib.hid hys.capMax
  have Hys := Lib.hid hys
  clear hys
  obtain ⟨W, hW⟩ : ∃ W, W = (w.alloc (.cells #[(.slice xca xcn xcc), (.slice xsa xsn xsc)] 66)).alloc (.cells #[(.slice yca ycn ycc), (.slice ysa ysn ysc)] 66) := ⟨_, rfl⟩
  have HB : Hid (Below w.heap.size w W) := by unfold Hid; rw [hW]; (repeat (first | exact Below.refl _ _ | assumption | refine Below.drew ?_ | refine Below.alloc ?_ (by first | (simp; done) | (simp; omega)) _ | refine Below.setCell ?_ (by first | (simp; done) | (simp; omega)) _))
  have c0_0 : W.cell? ⟨w.heap.size, 0, none⟩ = some ((.slice xca xcn xcc)) := by rw [hW]; simp [go_sem]
  have c0_1 : W.cell? ⟨w.heap.size, 1, none⟩ = some ((.slice xsa xsn xsc)) := by rw [hW]; simp [go_sem]
  have c1_0 : W.cell? ⟨w.heap.size + 1, 0, none⟩ = some ((.slice yca ycn ycc)) := by rw [hW]; simp [go_sem]
  have c1_1 : W.cell? ⟨w.heap.size + 1, 1, none⟩ = some ((.slice ysa ysn ysc)) := by rw [hW]; simp [go_sem]
  have HSW : Hid (W.heap.size = w.heap.size + 2) := by unfold Hid; rw [hW]; simp
  go_enter Try.func38, Try.ntmps38
  go_wp2_with fail
  rw [← hW]
  have hse : w.heap.size + 1 + 1 = W.heap.size := by have := HSW.out; omega
  (try rw [hse])
  clear hse
  clear hW
  have hc : Below W.heap.size W W := Below.refl _ _
  have HCC : Hid (∀ u, Below W.heap.size W u → u.cell? ⟨w.heap.size, 0, none⟩ = some ((.slice xca xcn xcc)) ∧ u.cell? ⟨w.heap.size, 1, none⟩ = some ((.slice xsa xsn xsc)) ∧ u.cell? ⟨w.heap.size + 1, 0, none⟩ = some ((.slice yca ycn ycc)) ∧ u.cell? ⟨w.heap.size + 1, 1, none⟩ = some ((.slice ysa ysn ysc))) := fun u h => ⟨box_at c0_0 h, box_at c0_1 h, box_at c1_0 h, box_at c1_1 h⟩
  go_wp2_with fail
  refine (laws_qInts _ _ d.c _ (Hxc.out.below (HB.out.trans (hc.mono HB.out.size))) (Hyc.out.below (HB.out.trans (hc.mono HB.out.size)))).mono ?_
  rintro e u1 ⟨rfl, hq1⟩
  replace hc := Below.next hc hq1
  clear hq1 c0_0 c0_1 c1_0 c1_1
  obtain ⟨c0_0, c0_1, c1_0, c1_1⟩ := HCC.out _ hc
  go_wp2_with fail
  refine (laws_qInts _ _ d.s _ (Hxs.out.below (HB.out.trans (hc.mono HB.out.size))) (Hys.out.below (HB.out.trans (hc.mono HB.out.size)))).mono ?_
  rintro e u2 ⟨rfl, hq2⟩
  replace hc := Below.next hc hq2
  clear hq2 c0_0 c0_1 c1_0 c1_1
  obtain ⟨c0_0, c0_1, c1_0, c1_1⟩ := HCC.out _ hc
  go_wp2_with fail
  go_ret
  exact ⟨rfl, HB.out.trans (hc.mono HB.out.size)⟩
set_option maxRecDepth 100000 in
set_option maxHeartbeats 2000000 in
theorem impl_bad (gr : GroupD) (pv : Value) (d : DealingD) (w : World) (hg : OkG gr) (hp : DlR w pv d) (hd : deB gr d = true) :
    Calls Try.prog 140 #[.agg #[.int .i64 gr.p, .int .i64 gr.q, .int .i64 gr.g], pv] w fun e w' => (∃ v', e = .returned v' ∧ OwnI w' w.heap.size v' (badE gr d)) ∧ Below w.heap.size w w' := by
  have HG := Lib.hid hg
  have HD := Lib.hid (deB_parts hd)
  have HEL := Lib.hid (cms_small hg (deB_parts hd).2.1)
  clear hg hd
  obtain ⟨xcv, xsv, rfl, hxc, hxs⟩ := hp
  obtain ⟨xca, xcn, xcc, rfl⟩ := hxc.shape
  have Exc := Lib.hid hxc.len
  have Kxc := Lib.hid hxc.capMax
  have Hxc := Lib.hid hxc
  clear hxc
  obtain ⟨xsa, xsn, xsc, rfl⟩ := hxs.shape
  have Exs := Lib.hid hxs.len
  have Kxs := Lib.hid hxs.capMax
  have Hxs := Lib.hid hxs
  clear hxs
  obtain ⟨W, hW⟩ : ∃ W, W = (w.alloc (.cells #[.int .i64 gr.p, .int .i64 gr.q, .int .i64 gr.g] 24)).alloc (.cells #[.slice xca xcn xcc, .slice xsa xsn xsc] 66) := ⟨_, rfl⟩
  have HB : Hid (Below w.heap.size w W) := by unfold Hid; rw [hW]; (repeat (first | exact Below.refl _ _ | assumption | refine Below.drew ?_ | refine Below.alloc ?_ (by first | (simp; done) | (simp; omega)) _ | refine Below.setCell ?_ (by first | (simp; done) | (simp; omega)) _))
  have HBG : Hid (BoxN W w.heap.size 24 [.int .i64 gr.p, .int .i64 gr.q, .int .i64 gr.g]) := by unfold Hid; rw [hW]; have h := (BoxN.new w [.int .i64 gr.p, .int .i64 gr.q, .int .i64 gr.g] 24).alloc (.cells #[.slice xca xcn xcc, .slice xsa xsn xsc] 66); simpa using h
  have HBD : Hid (BoxN W (w.heap.size + 1) 66 [.slice xca xcn xcc, .slice xsa xsn xsc]) := by unfold Hid; rw [hW]; have h := BoxN.new (w.alloc (.cells #[.int .i64 gr.p, .int .i64 gr.q, .int .i64 gr.g] 24)) [.slice xca xcn xcc, .slice xsa xsn xsc] 66; simpa using h
  have HSW : w.heap.size ≤ W.heap.size := HB.out.size
  have HW2 : Hid (W.heap.size = w.heap.size + 1 + 1) := by unfold Hid; rw [hW]; simp
  have d0 := HBD.out.cell (i := 0) rfl
  have d1 := HBD.out.cell (i := 1) rfl
  go_enter Try.func140, Try.ntmps140
  go_wp2_with fail
  rw [← hW]
  clear hW d0 d1
  obtain ⟨V, hV⟩ : ∃ V, V = W.alloc (.cells #[] 3) := ⟨_, rfl⟩
  have hbV : Below W.heap.size W V := by rw [hV]; exact (Below.refl _ _).alloc (Nat.le_refl _) _
  have HO0 : Hid (OwnI V W.heap.size (.slice (some ⟨w.heap.size + 1 + 1, 0, none⟩) 0 0) []) := by unfold Hid; rw [hV, ← HW2.out]; exact OwnI.lit W (Nat.le_refl _) AllI64.nil rfl (by simp) 0 rfl
  have d1 := HBD.out.cell (i := 1) rfl
  have d0 := HBD.out.cell (i := 0) rfl
  (try (go_wp2_with fail))
  (try rw [← hV])
  clear hV d0 d1
  go_loopg [5, 12] xsn (fun gk ov iv wr => ∃ k : Nat, k + gk = xsn ∧ iv = .int .i64 (k : Int) ∧ OwnI wr W.heap.size ov (bdL gr d k) ∧ Below W.heap.size W wr)
  case atStart => exact ⟨0, by omega, rfl, HO0.out, hbV⟩
  case round =>
    obtain ⟨k, hkg, rfl, hO, hbr⟩ := hrel
    have HKG := Lib.hid hkg
    have HBR := Lib.hid hbr
    have hgl : k < xsn → xsn - (k + 1) < gk := by omega
    have hsr := hbr.size
    have HLB := Lib.hid (bdL_len gr d k)
    obtain ⟨LB, hLB⟩ : ∃ l, bdL gr d k = l := ⟨_, rfl⟩
    rw [hLB] at hO HLB
    have HLe := Lib.hid hLB
    obtain ⟨ao, co, rfl⟩ := hO.shape
    have HO := Lib.hid hO
    clear hkg hbr hO hLB
    have hN7 : xsn ≤ 7 := by have := HD.out.1; have := Exs.out; omega
    by_cases hlt : k < xsn
    · obtain ⟨b, o, e, hcx⟩ := Hxs.out.at_ (by have := Exs.out; omega)
      cases e
      have yk := box_at (box_at (hcx k hlt) HB.out) HBR.out
      clear hcx
      have HXI : Hid (I64 (nth d.s k)) := nth_64 Hxs.out k
      obtain ⟨x, hx⟩ : ∃ z, nth d.s k = z := ⟨_, rfl⟩
      rw [hx] at yk HXI
      have HXe := Lib.hid hx
      clear hx
      have kk0 : (0 : Int) ≤ (k : Int) := by omega
      have kk1 : (k : Int) < (xsn : Int) := by omega
      have hwk : IntKind.i64.wrap ((k : Int) + 1) = (k : Int) + 1 := IntWalk.i64_in _ (by omega)
      have HKI : Hid (0 ≤ (k : Int) + 1 ∧ (k : Int) + 1 ≤ 1000) := ⟨by omega, by omega⟩
      have c0 := (HBG.out.below HBR.out).cell (i := 0) rfl
      have c1 := (HBG.out.below HBR.out).cell (i := 1) rfl
      have c2 := (HBG.out.below HBR.out).cell (i := 2) rfl
      have d0 := (HBD.out.below HBR.out).cell (i := 0) rfl
      have d1 := (HBD.out.below HBR.out).cell (i := 1) rfl
      go_wp2_with fail
      refine (impl_isShare gr _ d.c ((k : Int) + 1) x _ HG.out ((Hxc.out.below HB.out).below HBR.out) HEL.out (by have := HD.out.1; omega) HKI.out HXI.out).mono ?_
      rintro e w1 ⟨rfl, hb1⟩
      have hs1 := hb1.size
      have HO1 := Lib.hid (HO.out.below hb1)
      have HB1 := Lib.hid (HBR.out.trans (hb1.mono HBR.out.size))
      clear hb1 c0 c1 c2 d0 d1 yk
      obtain ⟨q, hq⟩ : ∃ q, shrB gr d.c ((k : Int) + 1) x = q := ⟨_, rfl⟩
      have HQ := Lib.hid hq
      rw [hq]
      clear hq
      cases q with
      | true =>
        have HN : Hid (bdL gr d (k + 1) = LB) := by unfold Hid bdL; rw [HXe.out, if_pos HQ.out]; exact HLe.out
        go_wp2_with fail
        go_roundg (xsn - (k + 1))
        case measure => exact hgl hlt
        case rel => exact ⟨k + 1, by have := HKG.out; omega, by go_num, by rw [HN.out]; exact HO1.out, HB1.out⟩
      | false =>
        have HN : Hid (bdL gr d (k + 1) = LB ++ [(k : Int) + 1]) := by unfold Hid bdL; rw [HXe.out, if_neg (by rw [HQ.out]; simp), HLe.out]
        go_wp2_with (at_builtin; refine wpList_append_ints rfl _ _ rfl W.heap.size _ _ LB [(k : Int) + 1] rfl (HO1.out.alloc _) rfl (Ints.lit1 _ ⟨by omega, by omega⟩) (by have := HLB.out; simp; omega) (by simp; omega) ?_; intro v4 w4 hown4 hgr4)
        have hb4 := (HO1.out.alloc _).grown hgr4 (by simp; omega)
        have hb5 := ((Below.refl W.heap.size w1).alloc (by omega) _).trans hb4
        go_roundg (xsn - (k + 1))
        case measure => exact hgl hlt
        case rel => exact ⟨k + 1, by have := HKG.out; omega, by go_num, by rw [HN.out]; exact hown4, HB1.out.trans hb5⟩
    · obtain rfl : k = xsn := by have := HKG.out; omega
      have HV : Hid (badE gr d = LB) := by unfold Hid badE; rw [Exs.out]; exact HLe.out
      go_wp2_with fail
      go_ret
      exact ⟨⟨_, rfl, by rw [HV.out]; exact HO.out.mono HSW⟩, HB.out.trans (HBR.out.mono HB.out.size)⟩
theorem vdB_parts {gr : GroupD} {d : DealingD} (h : vdB gr d = true) : OkG gr ∧ deB gr d = true := by
  unfold vdB at h; rw [Bool.and_eq_true] at h; exact ⟨shG_ok h.1, h.2⟩
set_option maxRecDepth 100000 in
set_option maxHeartbeats 2000000 in
theorem impl_BadShares (gr : GroupD) (pv : Value) (d : DealingD) (w : World) (hp : DlR w pv d) :
    Calls Try.prog 39 #[.agg #[.int .i64 gr.p, .int .i64 gr.q, .int .i64 gr.g], pv] w fun e w' => (∃ v', e = .returned (.tuple #[v', .bool (vdB gr d)]) ∧ Ints w' v' (bsR gr d)) ∧ Below w.heap.size w w' := by
  obtain ⟨xcv, xsv, rfl, hxc, hxs⟩ := hp
  obtain ⟨xca, xcn, xcc, rfl⟩ := hxc.shape
  have Exc := Lib.hid hxc.len
  have Kxc := Lib.hid hxc.capMax
  have Hxc := Lib.hid hxc
  clear hxc
  obtain ⟨xsa, xsn, xsc, rfl⟩ := hxs.shape
  have Exs := Lib.hid hxs.len
  have Kxs := Lib.hid hxs.capMax
  have Hxs := Lib.hid hxs
  clear hxs
  obtain ⟨W, hW⟩ : ∃ W, W = (w.alloc (.cells #[.int .i64 gr.p, .int .i64 gr.q, .int .i64 gr.g] 24)).alloc (.cells #[(.slice xca xcn xcc), (.slice xsa xsn xsc)] 66) := ⟨_, rfl⟩
  have HB : Hid (Below w.heap.size w W) := by unfold Hid; rw [hW]; (repeat (first | exact Below.refl _ _ | assumption | refine Below.drew ?_ | refine Below.alloc ?_ (by first | (simp; done) | (simp; omega)) _ | refine Below.setCell ?_ (by first | (simp; done) | (simp; omega)) _))
  have c0_0 : W.cell? ⟨w.heap.size, 0, none⟩ = some (.int .i64 gr.p) := by rw [hW]; simp [go_sem]
  have c0_1 : W.cell? ⟨w.heap.size, 1, none⟩ = some (.int .i64 gr.q) := by rw [hW]; simp [go_sem]
  have c0_2 : W.cell? ⟨w.heap.size, 2, none⟩ = some (.int .i64 gr.g) := by rw [hW]; simp [go_sem]
  have c1_0 : W.cell? ⟨w.heap.size + 1, 0, none⟩ = some ((.slice xca xcn xcc)) := by rw [hW]; simp [go_sem]
  have c1_1 : W.cell? ⟨w.heap.size + 1, 1, none⟩ = some ((.slice xsa xsn xsc)) := by rw [hW]; simp [go_sem]
  have HSW : Hid (W.heap.size = w.heap.size + 2) := by unfold Hid; rw [hW]; simp
  go_enter Try.func39, Try.ntmps39
  go_wp2_with fail
  rw [← hW]
  have hse : w.heap.size + 1 + 1 = W.heap.size := by have := HSW.out; omega
  (try rw [hse])
  clear hse
  clear hW
  have hc : Below W.heap.size W W := Below.refl _ _
  have HCC : Hid (∀ u, Below W.heap.size W u → u.cell? ⟨w.heap.size, 0, none⟩ = some (.int .i64 gr.p) ∧ u.cell? ⟨w.heap.size, 1, none⟩ = some (.int .i64 gr.q) ∧ u.cell? ⟨w.heap.size, 2, none⟩ = some (.int .i64 gr.g) ∧ u.cell? ⟨w.heap.size + 1, 0, none⟩ = some ((.slice xca xcn xcc)) ∧ u.cell? ⟨w.heap.size + 1, 1, none⟩ = some ((.slice xsa xsn xsc))) := fun u h => ⟨box_at c0_0 h, box_at c0_1 h, box_at c0_2 h, box_at c1_0 h, box_at c1_1 h⟩
  go_wp2_with fail
  refine (impl_IsValidDealing gr _ d _ (DlR.mk (Hxc.out.below (HB.out.trans (hc.mono HB.out.size))) (Hxs.out.below (HB.out.trans (hc.mono HB.out.size))))).mono ?_
  rintro e u1 ⟨rfl, hq1⟩
  replace hc := Below.next hc hq1
  clear hq1 c0_0 c0_1 c0_2 c1_0 c1_1
  obtain ⟨c0_0, c0_1, c0_2, c1_0, c1_1⟩ := HCC.out _ hc
  cases hc1 : vdB gr d with
  | false =>
    have Hhc1 := Lib.hid hc1
    clear hc1
    go_wp2_with fail
    have HVB : Hid (vdB gr d = false) := by unfold Hid; simp [Hhc1.out]
    have HPR : Hid (bsR gr d = []) := by unfold Hid bsR; rw [if_neg (by rw [HVB.out]; simp)]
    go_ret2
    exact ⟨⟨_, by rw [HVB.out]; rfl, by rw [HPR.out]; exact Ints.nil _⟩, HB.out.trans (hc.mono HB.out.size)⟩
  | true =>
    have HG := Lib.hid (vdB_parts hc1).1
    have HDB := Lib.hid (vdB_parts hc1).2
    have Hhc1 := Lib.hid hc1
    clear hc1
    go_wp2_with fail
    refine (impl_bad gr _ d _ HG.out (DlR.mk (Hxc.out.below (HB.out.trans (hc.mono HB.out.size))) (Hxs.out.below (HB.out.trans (hc.mono HB.out.size)))) HDB.out).mono ?_
    rintro e u2 ⟨⟨vb, rfl, hob⟩, hq2⟩
    replace hc := Below.next hc hq2
    clear hq2 c0_0 c0_1 c0_2 c1_0 c1_1
    obtain ⟨c0_0, c0_1, c0_2, c1_0, c1_1⟩ := HCC.out _ hc
    go_wp2_with fail
    have HVB : Hid (vdB gr d = true) := by unfold Hid; simp [Hhc1.out]
    have HPR : Hid (bsR gr d = badE gr d) := by unfold Hid bsR; rw [if_pos (by rw [HVB.out])]
    go_ret2
    exact ⟨⟨_, by rw [HVB.out]; rfl, by rw [HPR.out]; exact hob.ints⟩, HB.out.trans (hc.mono HB.out.size)⟩
/-- an element of a slice of dealings -/
theorem RdDl.get {w : World} {a : Option Addr} {n c k : Nat} {l : List DealingD} (h : RdR rDealing w (.slice a n c) l) (hk : k < l.length) :
    ∃ b o a0 n0 c0 a1 n1 c1, a = some ⟨b, o, none⟩ ∧ w.cell? ⟨b, o + k * 2, none⟩ = some (.slice a0 n0 c0) ∧ w.cell? ⟨b, o + k * 2 + 1, none⟩ = some (.slice a1 n1 c1) ∧ Ints w (.slice a0 n0 c0) l[k].c ∧ Ints w (.slice a1 n1 c1) l[k].s := by
  have hn := h.len
  obtain ⟨b, o, rfl, hcx⟩ := h.at_ (by omega)
  obtain ⟨us, hcell, hrd⟩ := hcx k hk
  obtain ⟨a0, n0, c0, a1, n1, c1, ers, h0, h1⟩ := rdDealing.1 ⟨us, rfl, hrd⟩
  obtain rfl : us = [.slice a0 n0 c0, .slice a1 n1 c1] := by have h := Value.agg.inj ers; simpa using congrArg Array.toList h
  refine ⟨b, o, a0, n0, c0, a1, n1, c1, rfl, ?_, ?_, h0, h1⟩
  · have h := hcell 0 (by decide)
    have e : rDealing.width = 2 := rfl
    rw [e, Nat.add_zero] at h
    simpa using h
  · have h := hcell 1 (by decide)
    have e : rDealing.width = 2 := rfl
    rw [e, ← Nat.add_assoc] at h
    simpa using h
theorem RdDl.first {w : World} {a : Option Addr} {n c : Nat} {l : List DealingD} (h : RdR rDealing w (.slice a n c) l) (hk : 0 < l.length) :
    ∃ b o a0 n0 c0 a1 n1 c1, a = some ⟨b, o, none⟩ ∧ w.cell? ⟨b, o, none⟩ = some (.slice a0 n0 c0) ∧ w.cell? ⟨b, o + 1, none⟩ = some (.slice a1 n1 c1) ∧ Ints w (.slice a0 n0 c0) l[0].c ∧ Ints w (.slice a1 n1 c1) l[0].s := by
  obtain ⟨b, o, a0, n0, c0, a1, n1, c1, e, h1, h2, h3, h4⟩ := RdDl.get h hk
  rw [Nat.zero_mul, Nat.add_zero] at h1 h2
  exact ⟨b, o, a0, n0, c0, a1, n1, c1, e, h1, h2, h3, h4⟩
def hdD (l : List DealingD) : DealingD := l.headD ⟨[], []⟩
theorem hdD_eq {l : List DealingD} (h : 0 < l.length) : hdD l = l[0] := by
  cases l with
  | nil => simp at h
  | cons a l => rfl
def dsB (gr : GroupD) (l : List DealingD) : Bool := decide ((l.length : Int) ≤ 7) && l.all (deB gr)
def alB (gr : GroupD) (l : List DealingD) : Bool := decide ((1 : Int) ≤ (l.length : Int) ∧ (l.length : Int) ≤ 7) && l.all (fun d => deB gr d && smB d (hdD l))
noncomputable def sdB (gr : GroupD) (l : List DealingD) : Bool := shG gr && alB gr l
theorem dl_any (gr : GroupD) (l : List DealingD) : (l.any fun e => !deB gr e) = !(l.all (deB gr)) := by
  induction l with
  | nil => rfl
  | cons a l ih => simp only [List.any_cons, List.all_cons, ih, Bool.not_and]
theorem sm_any (f : DealingD) (l : List DealingD) : (l.any fun e => !smB e f) = !(l.all fun e => smB e f) := by
  induction l with
  | nil => rfl
  | cons a l ih => simp only [List.any_cons, List.all_cons, ih, Bool.not_and]
theorem all_and' {α : Type} (f g : α → Bool) (l : List α) : (l.all fun d => f d && g d) = (l.all f && l.all g) := by
  induction l with
  | nil => rfl
  | cons a l ih => simp only [List.all_cons, ih]; cases f a <;> cases g a <;> simp
theorem sdB_alt (gr : GroupD) (l : List DealingD) : sdB gr l = (shG gr && (!((l.length : Int) == 0) && (dsB gr l && !(l.any fun d => !smB d (hdD l))))) := by
  unfold sdB alB dsB
  rw [sm_any, all_and', Bool.not_not]
  congr 1
  by_cases h0 : l.length = 0
  · rw [h0]; simp
  · rw [show ((l.length : Int) == 0) = false by rw [beq_eq_false_iff_ne]; omega]
    rw [show decide ((1 : Int) ≤ (l.length : Int) ∧ (l.length : Int) ≤ 7) = decide ((l.length : Int) ≤ 7) by rw [decide_eq_decide]; omega]
    simp [Bool.and_assoc]
set_option maxHeartbeats 1000000 in
theorem impl_hasDealings1 (gr : GroupD) (v : Value) (d : DealingD) (b : Nat) (w : World) (hg : OkG gr) (h : (kS rDealing).rd w v d) (hx : BoxN w b 24 [.int .i64 gr.p, .int .i64 gr.q, .int .i64 gr.g]) :
    Calls Try.prog 206 #[v, .pointer (some ⟨b, 0, none⟩)] w fun e w' => e = .returned (.bool (!deB gr d)) ∧ Below w.heap.size w w' := by
  obtain ⟨q, hq⟩ : ∃ q, deB gr d = q := ⟨_, rfl⟩
  have HQ := Lib.hid hq
  have HG := Lib.hid hg
  rw [hq]; clear hq hg
  obtain ⟨a0, n0, c0, a1, n1, c1, rfl, j0, j1⟩ := rdDealing.1 h
  have HJ : Hid (DlR w (.agg #[.slice a0 n0 c0, .slice a1 n1 c1]) d) := DlR.mk j0 j1
  clear h j0 j1
  obtain ⟨W, hW⟩ : ∃ W, W = w.alloc (.cells #[.slice a0 n0 c0, .slice a1 n1 c1] 66) := ⟨_, rfl⟩
  have HB : Hid (Below w.heap.size w W) := by unfold Hid; rw [hW]; (repeat (first | exact Below.refl _ _ | assumption | refine Below.drew ?_ | refine Below.alloc ?_ (by first | (simp; done) | (simp; omega)) _ | refine Below.setCell ?_ (by first | (simp; done) | (simp; omega)) _))
  have g0 := box_at (hx.cell (i := 0) rfl) HB.out
  have g1 := box_at (hx.cell (i := 1) rfl) HB.out
  have g2 := box_at (hx.cell (i := 2) rfl) HB.out
  have hlt := hx.lt
  have e0 := hx.cell (i := 0) rfl
  have e1 := hx.cell (i := 1) rfl
  have e2 := hx.cell (i := 2) rfl
  clear hx
  have d0 : W.cell? ⟨w.heap.size, 0, none⟩ = some (.slice a0 n0 c0) := by rw [hW]; simp [go_sem]
  have d1 : W.cell? ⟨w.heap.size, 1, none⟩ = some (.slice a1 n1 c1) := by rw [hW]; simp [go_sem]
  go_enter Try.func206, Try.ntmps206
  go_wp2_with fail
  rw [← hW]
  clear hW
  (try (go_wp2_with fail))
  refine (impl_hasDealing gr _ d _ HG.out (HJ.out.below HB.out)).mono ?_
  rintro e w1 ⟨rfl, hb1⟩
  rw [HQ.out]
  go_wp2_with fail
  go_ret
  exact ⟨rfl, HB.out.trans (hb1.mono HB.out.size)⟩
set_option maxHeartbeats 1000000 in
theorem impl_hasDealings (gr : GroupD) (v : Value) (l : List DealingD) (w : World) (hg : OkG gr) (h : RdR rDealing w v l) :
    Calls Try.prog 133 #[.agg #[.int .i64 gr.p, .int .i64 gr.q, .int .i64 gr.g], v] w fun e w' => e = .returned (.bool (dsB gr l)) ∧ Below w.heap.size w w' := by
  obtain ⟨a, n, c, rfl⟩ := h.shape
  have e := h.len
  have HG := Lib.hid hg
  obtain ⟨W, hW⟩ : ∃ W, W = w.alloc (.cells #[.int .i64 gr.p, .int .i64 gr.q, .int .i64 gr.g] 24) := ⟨_, rfl⟩
  have HB : Hid (Below w.heap.size w W) := by unfold Hid; rw [hW]; (repeat (first | exact Below.refl _ _ | assumption | refine Below.drew ?_ | refine Below.alloc ?_ (by first | (simp; done) | (simp; omega)) _ | refine Below.setCell ?_ (by first | (simp; done) | (simp; omega)) _))
  have HX : Hid (BoxN W w.heap.size 24 [.int .i64 gr.p, .int .i64 gr.q, .int .i64 gr.g]) := by unfold Hid; rw [hW]; exact BoxN.new w _ _
  have H : Hid (RdR rDealing W (.slice a n c) l) := h.below HB.out
  clear h
  have HD : Hid (DecidesS rDealing W 206 #[.pointer (some ⟨w.heap.size, 0, none⟩)] (fun d => !deB gr d)) :=
    ⟨Try.call206, fun v d wr hx hb => impl_hasDealings1 gr v d _ wr HG.out hx (HX.out.below hb)⟩
  by_cases hn : n ≤ 7
  · have HR : Hid (dsB gr l = !(l.any fun d => !deB gr d)) := by unfold Hid dsB; rw [dl_any, decide_eq_true (by omega)]; simp
    have H1 : decide ((n : Int) ≤ 7) = true := decide_eq_true (by omega)
    obtain ⟨q, hq⟩ : ∃ q, (l.any fun d => !deB gr d) = q := ⟨_, rfl⟩
    have HQ := Lib.hid hq
    rw [hq] at HR; clear hq e hg
    go_enter Try.func133, Try.ntmps133
    go_wp2_with fail
    rw [← hW]
    clear hW
    refine (slices_ContainsFuncDealing _ l _ _ (fun d => !deB gr d) _ H.out HD.out).mono ?_
    rintro e w1 ⟨rfl, hb⟩
    rw [HQ.out]
    go_wp2_with fail
    go_ret
    exact ⟨ret_bool (by first | (rw [HR.out]; done) | (rw [HR.out]; rfl) | exact HR.out.symm), HB.out.trans (hb.mono HB.out.size)⟩
  · have HR : Hid (dsB gr l = false) := by unfold Hid dsB; rw [decide_eq_false (by omega)]; rfl
    have H1 : decide ((n : Int) ≤ 7) = false := decide_eq_false (by omega)
    clear e hg
    go_enter Try.func133, Try.ntmps133
    go_wp2_with fail
    rw [← hW]
    clear hW
    (try (go_wp2_with fail))
    go_ret
    exact ⟨ret_bool (by first | (rw [HR.out]; done) | (rw [HR.out]; rfl) | exact HR.out.symm), HB.out⟩
end Go.Proofs.Ytegomgnlhcbmfaa
namespace Go.Proofs.Ytegomgnlhcbmfaa
open Go.RowKit
set_option linter.unusedSimpArgs false
set_option linter.unusedVariables false

theorem powM_self {p e : Int} (hp : 0 < p) (he : 1 ≤ e) : powM p e p = 0 := by
  unfold powM
  obtain ⟨k, hk⟩ : ∃ k, e.toNat = k + 1 := ⟨e.toNat - 1, by omega⟩
  rw [hk, Int.pow_succ, Int.mul_comm]
  exact Int.mul_emod_right _ _
/-- weak bounds of a drawn group -/
def GrB (gr : GroupD) : Prop := (-7 ≤ gr.p ∧ gr.p ≤ 2000000010) ∧ (-7 ≤ gr.q ∧ gr.q ≤ 2000000010) ∧ (-7 ≤ gr.g ∧ gr.g ≤ 2000000010)
set_option maxHeartbeats 1000000 in
theorem spec_gExpW (gr : GroupD) (x e : Int) (w : World) (hp : 1 ≤ gr.p ∧ gr.p ≤ 3000000000) (hq : 1 ≤ gr.q ∧ gr.q ≤ 3000000000) (hx : 0 ≤ x ∧ x ≤ 3000000000) (he : I64 e) :
    Calls Try.prog 80 #[.agg #[.int .i64 gr.p, .int .i64 gr.q, .int .i64 gr.g], .int .i64 x, .int .i64 e] w fun e' w' => (∃ y : Int, e' = .returned (.int .i64 y) ∧ 0 ≤ y ∧ y < gr.p) ∧ Below w.heap.size w w' := by
  obtain ⟨hp1, hp2⟩ := hp
  obtain ⟨hq1, hq2⟩ := hq
  obtain ⟨p, q, g⟩ := gr
  obtain ⟨hx1, hx2⟩ := hx
  simp only [] at hp1 hp2 hq1 hq2
  have HR := Lib.hid (powM_bd (a := x) (e := e % q) (m := p) (by omega))
  have hm0 : 0 ≤ e % q := Int.emod_nonneg _ (by omega)
  have hm1 : e % q < q := Int.emod_lt_of_pos _ (by omega)
  have HE := Lib.hid he; clear he
  go_enter Try.func80, Try.ntmps80
  go_wp2
  go_quiet (first
    | (go_at_call 114; exact Calls.quiet_of_same ((spec_nMod e q _ HE.out (by omega) (by omega)).mono fun e' w' h => ⟨h.1, h.2.symm⟩))
    | (go_at_call 188; exact Calls.quiet_of_same ((spec_nPower x (e % q) p _ (by omega) (by omega) (by omega)).mono fun e' w' h => ⟨h.1, h.2.symm⟩))
    | fail)
  go_wp2
  go_ret
  exact ⟨⟨_, rfl, HR.out.1, HR.out.2⟩, by (repeat (first | exact Below.refl _ _ | assumption | refine Below.drew ?_ | refine below_drewN ?_ _ | refine Below.alloc ?_ (by first | (simp; done) | (simp; omega)) _ | refine Below.setCell ?_ (by first | (simp; done) | (simp; omega)) _))⟩
set_option maxRecDepth 100000 in
set_option maxHeartbeats 4000000 in
theorem spec_MakeGroup (q p0 : Int) (j : Nat) (w : World) (hq : 2 ≤ q ∧ q ≤ 1000000) (hqp : Prm q) (hpp : Prm p0) (hj : p0 = q + 1 + j * q) (hb : p0 ≤ 2000000000) :
    Calls Try.prog 202 #[.int .i64 q] w fun e w' => (∃ P G : Int, e = .returned (.tuple #[.agg #[.int .i64 P, .int .i64 q, .int .i64 G], .bool true]) ∧ q + 1 ≤ P ∧ P ≤ 2000000000 ∧ 0 ≤ G ∧ G < P) ∧ Below w.heap.size w w' := by
  obtain ⟨hq1, hq2⟩ := hq
  have HQ : Hid (primeB q = true) := primeB_yes hqp
  have HP : Hid (primeB p0 = true) := primeB_yes hpp
  have HIN : Hid (decide (2 ≤ q ∧ q ≤ 1000000) = true) := decide_eq_true ⟨hq1, hq2⟩
  have HJ := Lib.hid hj
  clear hqp hpp hj
  obtain ⟨W, hW⟩ : ∃ W, W = w.alloc (.cells #[.int .i64 0, .int .i64 0, .int .i64 0] 24) := ⟨_, rfl⟩
  have HB : Hid (Below w.heap.size w W) := by unfold Hid; rw [hW]; exact (Below.refl _ _).alloc (Nat.le_refl _) _
  have HX : Hid (BoxN W w.heap.size 24 [.int .i64 0, .int .i64 0, .int .i64 0]) := by unfold Hid; rw [hW]; exact BoxN.new w _ _
  have ew0 : IntKind.i64.wrap (q + 1) = q + 1 := IntWalk.i64_in _ (by omega)
  go_enter Try.func202, Try.ntmps202
  go_wp2_with fail
  rw [← hW]
  clear hW
  refine (spec_l1In q 2 1000000 _).mono ?_
  rintro e w1 ⟨rfl, rfl⟩
  rw [HIN.out]
  go_wp2_with fail
  refine (spec_nPrime q _ (by omega)).mono ?_
  rintro e w1 ⟨rfl, rfl⟩
  rw [HQ.out]
  go_wp2_with fail
  go_loopg [4] j (fun gg pv wr => ∃ p : Int, Hid (p0 = p + (gg : Int) * q) ∧ pv = .int .i64 p ∧ q + 1 ≤ p ∧ p ≤ p0 ∧ W = wr)
  case atStart => exact ⟨q + 1, HJ.out, rfl, Int.le_refl _, by have := HJ.out; have : 0 ≤ (j : Int) * q := Int.mul_nonneg (by omega) (by omega); omega, rfl⟩
  case round =>
    obtain ⟨p, HK, rfl, hp1, hp2, rfl⟩ := hrel
    have hle : p ≤ 2000000000 := by omega
    go_wp2_with fail
    refine (spec_nPrime p _ (by omega)).mono ?_
    rintro e w2 ⟨rfl, rfl⟩
    obtain ⟨b, hpb⟩ : ∃ b, primeB p = b := ⟨_, rfl⟩
    rw [hpb]
    cases b with
    | false =>
      have hne : p ≠ p0 := fun e => by
        have h1 := HP.out
        rw [← e, hpb] at h1
        cases h1
      obtain ⟨f, rfl⟩ : ∃ f, gk = f + 1 := by
        cases gk with
        | zero => exact absurd (by have := HK.out; simpa using this.symm) hne
        | succ f => exact ⟨f, rfl⟩
      have hk2 : p0 = p + q + (f : Int) * q := by
        have h1 := HK.out
        rw [show ((f + 1 : Nat) : Int) = (f : Int) + 1 by omega, Int.add_mul] at h1
        omega
      have hfq : 0 ≤ (f : Int) * q := Int.mul_nonneg (by omega) (by omega)
      have hpq : p + q ≤ p0 := by omega
      have HK2 := Lib.hid hk2
      have ew : IntKind.i64.wrap (p + q) = p + q := IntWalk.i64_in _ (by omega)
      clear HK hne hk2 hfq hpb
      go_wp2_with fail
      go_roundg f
      case measure => omega
      case rel => exact ⟨p + q, HK2.out, rfl, by omega, by omega, rfl⟩
    | true =>
      have ht0 : 0 ≤ (p - 1) / q := Int.ediv_nonneg (by omega) (by omega)
      have ht1 : (p - 1) / q ≤ p - 1 := Int.ediv_le_self _ (by omega)
      have ht2 : 1 ≤ (p - 1) / q := (Int.le_ediv_iff_mul_le (by omega)).2 (by omega)
      have HS := Lib.hid (powM_self (p := p) (e := (p - 1) / q) (by omega) ht2)
      have HPB : Hid (∀ h : Int, 0 ≤ powM h ((p - 1) / q) p ∧ powM h ((p - 1) / q) p < p) := fun h => powM_bd (by omega)
      have et : Int.tdiv (p - 1) q = (p - 1) / q := Int.tdiv_eq_ediv_of_nonneg (by omega)
      obtain ⟨e', he'⟩ : ∃ e', (p - 1) / q = e' := ⟨_, rfl⟩
      rw [he'] at ht0 ht1 ht2 HS HPB et
      have HE := Lib.hid he'
      clear he'
      have ewp : IntKind.i64.wrap (p - 1) = p - 1 := IntWalk.i64_in _ (by omega)
      have ewe : IntKind.i64.wrap e' = e' := IntWalk.i64_in _ (by omega)
      have hqz : ¬ q = 0 := by omega
      go_wp2_with fail
      go_loopg [5] (p.toNat) (fun gg hv wr => ∃ h : Int, hv = .int .i64 h ∧ 2 ≤ h ∧ h ≤ p ∧ p - h ≤ (gg : Int) ∧ W = wr)
      case atStart => exact ⟨2, rfl, by omega, by omega, by omega, rfl⟩
      case round =>
        obtain ⟨h, rfl, h2, h3, h4, rfl⟩ := hrel
        have HY := HPB.out h
        have HSP : Hid (h = p → powM h e' p = 0) := fun e => by rw [e]; exact HS.out
        have ewh : IntKind.i64.wrap (h + 1) = h + 1 := IntWalk.i64_in _ (by omega)
        go_wp2_with fail
        try rw [HE.out]
        refine (spec_nPower h e' p _ (by omega) (by omega) (by omega)).mono ?_
        rintro e w3 ⟨rfl, rfl⟩
        obtain ⟨y, hy⟩ : ∃ y, powM h e' p = y := ⟨_, rfl⟩
        rw [hy] at HY HSP ⊢
        have HYY := Lib.hid hy; clear hy
        obtain ⟨y0, y1⟩ := HY
        by_cases hy1 : y = 1
        · subst hy1
          have hlt : h < p := by
            rcases (by omega : h = p ∨ h < p) with h5 | h5
            · have := HSP.out h5; omega
            · exact h5
          obtain ⟨f, rfl⟩ : ∃ f, gk = f + 1 := ⟨gk - 1, by omega⟩
          go_wp2_with fail
          go_roundg f
          case measure => omega
          case rel => exact ⟨h + 1, rfl, by omega, by omega, by omega, rfl⟩
        · have hyb : (y == 1) = false := by rw [beq_eq_false_iff_ne]; exact hy1
          clear hy1
          go_wp2_with fail
          try rw [HE.out]
          refine (spec_nPower h e' p _ (by omega) (by omega) (by omega)).mono ?_
          rintro e w3 ⟨rfl, rfl⟩
          rw [HYY.out]
          have r0 := HX.out.cell (i := 0) rfl
          have r1 := HX.out.cell (i := 1) rfl
          have r2 := HX.out.cell (i := 2) rfl
          have fr := fun j => HX.out.frozen j
          go_wp2_with fail
          obtain ⟨Y, hY⟩ : ∃ Y, Y = (((W.setCell ⟨w.heap.size, 0, none⟩ (.int .i64 p)).setCell ⟨w.heap.size, 1, none⟩ (.int .i64 q)).setCell ⟨w.heap.size, 2, none⟩ (.int .i64 y)) := ⟨_, rfl⟩
          have HY4 : Hid (BoxN Y w.heap.size 24 [.int .i64 p, .int .i64 q, .int .i64 y]) := by unfold Hid; rw [hY]; exact ((HX.out.set 0 _).set 1 _).set 2 _
          have HB4 : Hid (Below w.heap.size w Y) := by unfold Hid; rw [hY]; exact ((HB.out.setCell (Nat.le_refl _) _).setCell (Nat.le_refl _) _).setCell (Nat.le_refl _) _
          rw [← hY]
          clear hY r0 r1 r2 fr
          have r0 := HY4.out.cell (i := 0) rfl
          have r1 := HY4.out.cell (i := 1) rfl
          have r2 := HY4.out.cell (i := 2) rfl
          refine bodyPost_ret (v := .tuple #[.agg #[.int .i64 p, .int .i64 q, .int .i64 y], .bool true]) (by simp [results, Try.results202, go_sem, r0, r1, r2]) rfl ⟨⟨p, y, rfl, hp1, by omega, y0, y1⟩, HB4.out⟩
end Go.Proofs.Ytegomgnlhcbmfaa
namespace Go.Proofs.Ytegomgnlhcbmfaa
open Go.RowKit
set_option linter.unusedSimpArgs false
set_option linter.unusedVariables false

/-- no number from 2 to D + 1 divides n -/
def noDivC (n : Nat) : Nat → Bool
  | 0 => true
  | D + 1 => n % (D + 2) != 0 && noDivC n D
theorem noDivC_at {n : Nat} : ∀ {D : Nat}, noDivC n D = true → ∀ d, d < D → n % (d + 2) ≠ 0
  | 0, _, d, hd => by omega
  | D + 1, h, d, hd => by
    simp only [noDivC, Bool.and_eq_true, bne_iff_ne] at h
    rcases (by omega : d = D ∨ d < D) with rfl | h2
    · exact h.1
    · exact noDivC_at h.2 d h2
theorem Prm_check {n D : Nat} (h2 : 2 ≤ n) (hD : n < (D + 2) * (D + 2)) (h : noDivC n D = true) : Prm (n : Int) := by
  refine ⟨by omega, fun d h3 h4 => ?_⟩
  obtain ⟨e, rfl⟩ := Int.eq_ofNat_of_zero_le (by omega : 0 ≤ d)
  have h5 : e * e ≤ n := by exact_mod_cast h4
  have h6 : e < D + 2 := by
    rcases Nat.lt_or_ge e (D + 2) with h | h
    · exact h
    · have := Nat.mul_le_mul h h; omega
  have h7 : 2 ≤ e := by omega
  have h8 := noDivC_at h (e - 2) (by omega)
  rw [show e - 2 + 2 = e by omega] at h8
  intro h9
  exact h8 (by exact_mod_cast h9)
/-- MakeGroup finds a group for this number -/
def MkOk (x : Int) : Prop := ∃ p0 : Int, ∃ j : Nat, (2 ≤ x ∧ x ≤ 1000000) ∧ Prm x ∧ Prm p0 ∧ p0 = x + 1 + j * x ∧ p0 ≤ 2000000000
theorem mkOk_tiny : ∀ x ∈ ([3, 5, 5, 7, 11, 11, 13, 23] : List Int), MkOk x := by
  have h3 : MkOk 3 := ⟨7, 1, by omega, Prm_check (n := 3) (D := 0) (by decide) (by decide) (by decide +kernel), Prm_check (n := 7) (D := 1) (by decide) (by decide) (by decide +kernel), by omega, by omega⟩
  have h5 : MkOk 5 := ⟨11, 1, by omega, Prm_check (n := 5) (D := 1) (by decide) (by decide) (by decide +kernel), Prm_check (n := 11) (D := 2) (by decide) (by decide) (by decide +kernel), by omega, by omega⟩
  have h7 : MkOk 7 := ⟨29, 3, by omega, Prm_check (n := 7) (D := 1) (by decide) (by decide) (by decide +kernel), Prm_check (n := 29) (D := 4) (by decide) (by decide) (by decide +kernel), by omega, by omega⟩
  have h11 : MkOk 11 := ⟨23, 1, by omega, Prm_check (n := 11) (D := 2) (by decide) (by decide) (by decide +kernel), Prm_check (n := 23) (D := 3) (by decide) (by decide) (by decide +kernel), by omega, by omega⟩
  have h13 : MkOk 13 := ⟨53, 3, by omega, Prm_check (n := 13) (D := 2) (by decide) (by decide) (by decide +kernel), Prm_check (n := 53) (D := 6) (by decide) (by decide) (by decide +kernel), by omega, by omega⟩
  have h23 : MkOk 23 := ⟨47, 1, by omega, Prm_check (n := 23) (D := 3) (by decide) (by decide) (by decide +kernel), Prm_check (n := 47) (D := 5) (by decide) (by decide) (by decide +kernel), by omega, by omega⟩
  intro x hx
  simp only [List.mem_cons, List.not_mem_nil, or_false] at hx
  rcases hx with rfl | rfl | rfl | rfl | rfl | rfl | rfl | rfl <;> assumption
theorem mkOk_more : ∀ x ∈ ([101, 1009, 1019, 65537, 999983] : List Int), MkOk x := by
  have h1 : MkOk 101 := ⟨607, 5, by omega, Prm_check (n := 101) (D := 9) (by decide) (by decide) (by decide +kernel), Prm_check (n := 607) (D := 24) (by decide) (by decide) (by decide +kernel), by omega, by omega⟩
  have h2 : MkOk 1009 := ⟨10091, 9, by omega, Prm_check (n := 1009) (D := 30) (by decide) (by decide) (by decide +kernel), Prm_check (n := 10091) (D := 100) (by decide) (by decide) (by decide +kernel), by omega, by omega⟩
  have h3 : MkOk 1019 := ⟨2039, 1, by omega, Prm_check (n := 1019) (D := 30) (by decide) (by decide) (by decide +kernel), Prm_check (n := 2039) (D := 44) (by decide) (by decide) (by decide +kernel), by omega, by omega⟩
  have h4 : MkOk 65537 := ⟨917519, 13, by omega, Prm_check (n := 65537) (D := 255) (by decide) (by decide) (by decide +kernel), Prm_check (n := 917519) (D := 957) (by decide) (by decide) (by decide +kernel), by omega, by omega⟩
  have h5 : MkOk 999983 := ⟨11999797, 11, by omega, Prm_check (n := 999983) (D := 998) (by decide) (by decide) (by decide +kernel), Prm_check (n := 11999797) (D := 3463) (by decide) (by decide) (by decide +kernel), by omega, by omega⟩
  intro x hx
  simp only [List.mem_cons, List.not_mem_nil, or_false] at hx
  rcases hx with rfl | rfl | rfl | rfl | rfl <;> assumption
end Go.Proofs.Ytegomgnlhcbmfaa
