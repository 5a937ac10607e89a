/- Sharing: groups, commitments, shares: walks (printed by gen_sh1.py). -/
import Derived.Test.YtacpnphfopmofaaBaKG
import Derived.Test.YtacpnphfopmofaaRegPKG
import Derived.Test.YtacpnphfopmofaaCom1KG
namespace Go.Proofs.Ytacpnphfopmofaa
open Go.RowKit
set_option linter.unusedSimpArgs false
set_option linter.unusedVariables false

/-- a group for sharing -/
noncomputable def shG (gr : GroupD) : Bool := decide (7 < gr.q) && goodG gr
def cmsB (gr : GroupD) (l : List Int) : Bool := decide (1 ≤ (l.length : Int) ∧ (l.length : Int) ≤ 7) && l.all (elB gr)
def atS (gr : GroupD) (i : Int) (cs : List Int) : Nat → Int × Int
  | 0 => (1, 1)
  | k + 1 => (mulL gr [(atS gr i cs k).1, powE gr (nth cs k) (atS gr i cs k).2], (atS gr i cs k).2 * i % gr.q)
/-- the power of the generator with a value of the polynomial -/
def atE (gr : GroupD) (cs : List Int) (i : Int) : Int := (atS gr i cs cs.length).1
def shrB (gr : GroupD) (cs : List Int) (i s : Int) : Bool := powE gr gr.g s == atE gr cs i
noncomputable def caB' (gr : GroupD) (cs : List Int) (i : Int) : Bool := shG gr && (cmsB gr cs && decide (0 ≤ i ∧ i ≤ 7))
noncomputable def caR' (gr : GroupD) (cs : List Int) (i : Int) : Int := if caB' gr cs i = true then atE gr cs i else 0
theorem atS_bd {gr : GroupD} (hg : OkG gr) (i : Int) (cs : List Int) (k : Nat) : Small (atS gr i cs k).1 ∧ 0 ≤ (atS gr i cs k).2 ∧ (atS gr i cs k).2 < gr.q := by
  have h1 := hg.q1
  cases k with
  | zero => exact ⟨⟨by show (0 : Int) ≤ 1; decide, by show (1 : Int) ≤ 2000000000; decide⟩, by show (0 : Int) ≤ 1; decide, by show (1 : Int) < gr.q; omega⟩
  | succ k => exact ⟨mulL_small hg _, Int.emod_nonneg _ (by omega), Int.emod_lt_of_pos _ (by omega)⟩
theorem mulE_bd {E i q : Int} (h0 : 0 ≤ E) (h1 : E < q) (hq : q ≤ 2000000000) (i0 : 0 ≤ i) (i1 : i ≤ 1000) : 0 ≤ E * i ∧ E * i ≤ 2000000000000 := by
  refine ⟨Int.mul_nonneg h0 i0, ?_⟩
  have h := Int.mul_le_mul (show E ≤ 2000000000 by omega) i1 i0 (by omega)
  omega
theorem cms_small {gr : GroupD} (hg : OkG gr) {l : List Int} (h : l.all (elB gr) = true) : AllSmall l := fun x hx => elB_small hg (List.all_eq_true.1 h x hx)
theorem nth_small {cs : List Int} (h : AllSmall cs) {k : Nat} (hk : k < cs.length) : Small (nth cs k) := by
  have e : nth cs k = cs[k] := by simp [nth, List.getD, hk]
  rw [e]; exact h _ (List.getElem_mem hk)
set_option maxRecDepth 100000 in
set_option maxHeartbeats 2000000 in
theorem impl_isSharing (gr : GroupD) (w : World) :
    Calls Try.prog 102 #[.agg #[.int .i64 gr.p, .int .i64 gr.q, .int .i64 gr.g]] w fun e w' => e = .returned (.bool (shG gr)) ∧ Below w.heap.size w w' := by
  cases hc1 : decide (7 < gr.q) with
  | false =>
    have HV : Hid ((.bool (shG gr) : Value) = .bool false) := by unfold Hid; simp [shG, hc1]
    rw [HV.out]
    go_enter Try.func102, Try.ntmps102
    go_wp2_with fail
    go_ret
    exact ⟨rfl, by (repeat (first | exact Below.refl _ _ | assumption | refine Below.drew ?_ | refine Below.alloc ?_ (by first | (simp; done) | (simp; omega)) _ | refine Below.setCell ?_ (by first | (simp; done) | (simp; omega)) _))⟩
  | true =>
    cases hc2 : goodG gr with
    | false =>
      have HV : Hid ((.bool (shG gr) : Value) = .bool false) := by unfold Hid; simp [shG, hc1, hc2]
      rw [HV.out]
      have Hhc2 := Lib.hid hc2
      clear hc2
      obtain ⟨W, hW⟩ : ∃ W, W = w.alloc (.cells #[.int .i64 gr.p, .int .i64 gr.q, .int .i64 gr.g] 24) := ⟨_, rfl⟩
      have HB : Hid (Below w.heap.size w W) := by unfold Hid; rw [hW]; (repeat (first | exact Below.refl _ _ | assumption | refine Below.drew ?_ | refine Below.alloc ?_ (by first | (simp; done) | (simp; omega)) _ | refine Below.setCell ?_ (by first | (simp; done) | (simp; omega)) _))
      have c0_0 : W.cell? ⟨w.heap.size, 0, none⟩ = some (.int .i64 gr.p) := by rw [hW]; simp [go_sem]
      have c0_1 : W.cell? ⟨w.heap.size, 1, none⟩ = some (.int .i64 gr.q) := by rw [hW]; simp [go_sem]
      have c0_2 : W.cell? ⟨w.heap.size, 2, none⟩ = some (.int .i64 gr.g) := by rw [hW]; simp [go_sem]
      have HSW : Hid (W.heap.size = w.heap.size + 1) := by unfold Hid; rw [hW]; simp
      go_enter Try.func102, Try.ntmps102
      go_wp2_with fail
      rw [← hW]
      have hse : w.heap.size + 1 = W.heap.size := by have := HSW.out; omega
      (try rw [hse])
      clear hse
      clear hW
      have hc : Below W.heap.size W W := Below.refl _ _
      go_wp2_with fail
      refine (impl_IsValidGroup gr _).mono ?_
      rintro e u1 ⟨rfl, hq1⟩
      replace hc := Below.next hc hq1
      replace c0_0 := box_at c0_0 hq1
      replace c0_1 := box_at c0_1 hq1
      replace c0_2 := box_at c0_2 hq1
      clear hq1
      rw [Hhc2.out]
      go_wp2_with fail
      go_ret
      exact ⟨rfl, HB.out.trans (hc.mono HB.out.size)⟩
    | true =>
      have HV : Hid ((.bool (shG gr) : Value) = .bool true) := by unfold Hid; simp [shG, hc1, hc2]
      rw [HV.out]
      have Hhc2 := Lib.hid hc2
      clear hc2
      obtain ⟨W, hW⟩ : ∃ W, W = w.alloc (.cells #[.int .i64 gr.p, .int .i64 gr.q, .int .i64 gr.g] 24) := ⟨_, rfl⟩
      have HB : Hid (Below w.heap.size w W) := by unfold Hid; rw [hW]; (repeat (first | exact Below.refl _ _ | assumption | refine Below.drew ?_ | refine Below.alloc ?_ (by first | (simp; done) | (simp; omega)) _ | refine Below.setCell ?_ (by first | (simp; done) | (simp; omega)) _))
      have c0_0 : W.cell? ⟨w.heap.size, 0, none⟩ = some (.int .i64 gr.p) := by rw [hW]; simp [go_sem]
      have c0_1 : W.cell? ⟨w.heap.size, 1, none⟩ = some (.int .i64 gr.q) := by rw [hW]; simp [go_sem]
      have c0_2 : W.cell? ⟨w.heap.size, 2, none⟩ = some (.int .i64 gr.g) := by rw [hW]; simp [go_sem]
      have HSW : Hid (W.heap.size = w.heap.size + 1) := by unfold Hid; rw [hW]; simp
      go_enter Try.func102, Try.ntmps102
      go_wp2_with fail
      rw [← hW]
      have hse : w.heap.size + 1 = W.heap.size := by have := HSW.out; omega
      (try rw [hse])
      clear hse
      clear hW
      have hc : Below W.heap.size W W := Below.refl _ _
      go_wp2_with fail
      refine (impl_IsValidGroup gr _).mono ?_
      rintro e u1 ⟨rfl, hq1⟩
      replace hc := Below.next hc hq1
      replace c0_0 := box_at c0_0 hq1
      replace c0_1 := box_at c0_1 hq1
      replace c0_2 := box_at c0_2 hq1
      clear hq1
      rw [Hhc2.out]
      go_wp2_with fail
      go_ret
      exact ⟨rfl, HB.out.trans (hc.mono HB.out.size)⟩
set_option maxRecDepth 100000 in
set_option maxHeartbeats 2000000 in
theorem spec_sGroup (gr : GroupD) (w : World) :
    Calls Try.prog 105 #[.agg #[.int .i64 gr.p, .int .i64 gr.q, .int .i64 gr.g]] w fun e w' => e = .returned (.bool (shG gr)) ∧ Below w.heap.size w w' := by
  obtain ⟨W, hW⟩ : ∃ W, W = w.alloc (.cells #[.int .i64 gr.p, .int .i64 gr.q, .int .i64 gr.g] 24) := ⟨_, rfl⟩
  have HB : Hid (Below w.heap.size w W) := by unfold Hid; rw [hW]; (repeat (first | exact Below.refl _ _ | assumption | refine Below.drew ?_ | refine Below.alloc ?_ (by first | (simp; done) | (simp; omega)) _ | refine Below.setCell ?_ (by first | (simp; done) | (simp; omega)) _))
  have c0_0 : W.cell? ⟨w.heap.size, 0, none⟩ = some (.int .i64 gr.p) := by rw [hW]; simp [go_sem]
  have c0_1 : W.cell? ⟨w.heap.size, 1, none⟩ = some (.int .i64 gr.q) := by rw [hW]; simp [go_sem]
  have c0_2 : W.cell? ⟨w.heap.size, 2, none⟩ = some (.int .i64 gr.g) := by rw [hW]; simp [go_sem]
  have HSW : Hid (W.heap.size = w.heap.size + 1) := by unfold Hid; rw [hW]; simp
  go_enter Try.func105, Try.ntmps105
  go_wp2_with fail
  rw [← hW]
  have hse : w.heap.size + 1 = W.heap.size := by have := HSW.out; omega
  (try rw [hse])
  clear hse
  clear hW
  have hc : Below W.heap.size W W := Below.refl _ _
  have HCC : Hid (∀ u, Below W.heap.size W u → u.cell? ⟨w.heap.size, 0, none⟩ = some (.int .i64 gr.p) ∧ u.cell? ⟨w.heap.size, 1, none⟩ = some (.int .i64 gr.q) ∧ u.cell? ⟨w.heap.size, 2, none⟩ = some (.int .i64 gr.g)) := fun u h => ⟨box_at c0_0 h, box_at c0_1 h, box_at c0_2 h⟩
  go_wp2_with fail
  refine (spec_l2Good gr _).mono ?_
  rintro e u1 ⟨rfl, hq1⟩
  replace hc := Below.next hc hq1
  clear hq1 c0_0 c0_1 c0_2
  obtain ⟨c0_0, c0_1, c0_2⟩ := HCC.out _ hc
  cases hc1 : goodG gr with
  | false =>
    have Hhc1 := Lib.hid hc1
    clear hc1
    go_wp2_with fail
    have HV : Hid ((.bool (shG gr) : Value) = .bool false) := by unfold Hid; simp [shG, Hhc1.out]
    go_ret
    exact ⟨congrArg Ending.returned HV.out.symm, HB.out.trans (hc.mono HB.out.size)⟩
  | true =>
    have Hhc1 := Lib.hid hc1
    clear hc1
    cases hc2 : decide (7 < gr.q) with
    | false =>
      go_wp2_with fail
      have HV : Hid ((.bool (shG gr) : Value) = .bool false) := by unfold Hid; simp [shG, Hhc1.out, hc2]
      go_ret
      exact ⟨congrArg Ending.returned HV.out.symm, HB.out.trans (hc.mono HB.out.size)⟩
    | true =>
      go_wp2_with fail
      have HV : Hid ((.bool (shG gr) : Value) = .bool true) := by unfold Hid; simp [shG, Hhc1.out, hc2]
      go_ret
      exact ⟨congrArg Ending.returned HV.out.symm, HB.out.trans (hc.mono HB.out.size)⟩
set_option maxRecDepth 100000 in
set_option maxHeartbeats 2000000 in
theorem impl_isTrustee (i : Int) (w : World) :
    Calls Try.prog 118 #[.int .i64 i] w fun e w' => e = .returned (.bool (decide (1 ≤ i ∧ i ≤ 7))) ∧ Below w.heap.size w w' := by
  obtain ⟨W, hW⟩ : ∃ W, W = w := ⟨_, rfl⟩
  have HB : Hid (Below w.heap.size w W) := by unfold Hid; rw [hW]; (repeat (first | exact Below.refl _ _ | assumption | refine Below.drew ?_ | refine Below.alloc ?_ (by first | (simp; done) | (simp; omega)) _ | refine Below.setCell ?_ (by first | (simp; done) | (simp; omega)) _))
  have HSW : Hid (W.heap.size = w.heap.size + 0) := by unfold Hid; rw [hW]; simp
  go_enter Try.func118, Try.ntmps118
  go_wp2_with fail
  rw [← hW]
  clear hW
  have hc : Below W.heap.size W W := Below.refl _ _
  go_wp2_with fail
  refine (impl_within i 1 7 _).mono ?_
  rintro e u1 ⟨rfl, rfl⟩
  cases hc1 : decide (1 ≤ i ∧ i ≤ 7) with
  | false =>
    go_wp2_with fail
    have HV : Hid ((.bool (decide (1 ≤ i ∧ i ≤ 7)) : Value) = .bool false) := by unfold Hid; simp [hc1]
    go_ret
    exact ⟨congrArg Ending.returned HV.out.symm, HB.out.trans (hc.mono HB.out.size)⟩
  | true =>
    go_wp2_with fail
    have HV : Hid ((.bool (decide (1 ≤ i ∧ i ≤ 7)) : Value) = .bool true) := by unfold Hid; simp [hc1]
    go_ret
    exact ⟨congrArg Ending.returned HV.out.symm, HB.out.trans (hc.mono HB.out.size)⟩
set_option maxRecDepth 100000 in
set_option maxHeartbeats 2000000 in
theorem impl_areCommits (gr : GroupD) (cv : Value) (cs : List Int) (w : World) (hg : OkG gr) (hcs : Ints w cv cs) :
    Calls Try.prog 164 #[.agg #[.int .i64 gr.p, .int .i64 gr.q, .int .i64 gr.g], cv] w fun e w' => e = .returned (.bool (cmsB gr cs)) ∧ Below w.heap.size w w' := by
  have HG := Lib.hid hg
  clear hg
  obtain ⟨cva, cvn, cvc, rfl⟩ := hcs.shape
  have Ecv := Lib.hid hcs.len
  have Kcv := Lib.hid hcs.capMax
  have Hcv := Lib.hid hcs
  clear hcs
  obtain ⟨W, hW⟩ : ∃ W, W = w.alloc (.cells #[.int .i64 gr.p, .int .i64 gr.q, .int .i64 gr.g] 24) := ⟨_, rfl⟩
  have HB : Hid (Below w.heap.size w W) := by unfold Hid; rw [hW]; (repeat (first | exact Below.refl _ _ | assumption | refine Below.drew ?_ | refine Below.alloc ?_ (by first | (simp; done) | (simp; omega)) _ | refine Below.setCell ?_ (by first | (simp; done) | (simp; omega)) _))
  have c0_0 : W.cell? ⟨w.heap.size, 0, none⟩ = some (.int .i64 gr.p) := by rw [hW]; simp [go_sem]
  have c0_1 : W.cell? ⟨w.heap.size, 1, none⟩ = some (.int .i64 gr.q) := by rw [hW]; simp [go_sem]
  have c0_2 : W.cell? ⟨w.heap.size, 2, none⟩ = some (.int .i64 gr.g) := by rw [hW]; simp [go_sem]
  have HSW : Hid (W.heap.size = w.heap.size + 1) := by unfold Hid; rw [hW]; simp
  go_enter Try.func164, Try.ntmps164
  go_wp2_with fail
  rw [← hW]
  have hse : w.heap.size + 1 = W.heap.size := by have := HSW.out; omega
  (try rw [hse])
  clear hse
  clear hW
  have hc : Below W.heap.size W W := Below.refl _ _
  have HCC : Hid (∀ u, Below W.heap.size W u → u.cell? ⟨w.heap.size, 0, none⟩ = some (.int .i64 gr.p) ∧ u.cell? ⟨w.heap.size, 1, none⟩ = some (.int .i64 gr.q) ∧ u.cell? ⟨w.heap.size, 2, none⟩ = some (.int .i64 gr.g)) := fun u h => ⟨box_at c0_0 h, box_at c0_1 h, box_at c0_2 h⟩
  go_wp2_with fail
  refine (impl_within (cvn : Int) 1 7 _).mono ?_
  rintro e u1 ⟨rfl, rfl⟩
  cases hc1 : decide (1 ≤ (cvn : Int) ∧ (cvn : Int) ≤ 7) with
  | false =>
    have HLN : Hid (decide (1 ≤ (cs.length : Int) ∧ (cs.length : Int) ≤ 7) = false) := by have q := of_decide_eq_false hc1; have := Ecv.out; unfold Hid; exact decide_eq_false (by omega)
    go_wp2_with fail
    have HV : Hid ((.bool (cmsB gr cs) : Value) = .bool false) := by unfold Hid; simp [cmsB, HLN.out]
    go_ret
    exact ⟨congrArg Ending.returned HV.out.symm, HB.out.trans (hc.mono HB.out.size)⟩
  | true =>
    have HLNp : 1 ≤ (cs.length : Int) ∧ (cs.length : Int) ≤ 7 := by have q := of_decide_eq_true hc1; have := Ecv.out; omega
    have HLN : Hid (decide (1 ≤ (cs.length : Int) ∧ (cs.length : Int) ≤ 7) = true) := decide_eq_true HLNp
    have HLNL := Lib.hid HLNp
    clear HLNp
    go_wp2_with fail
    refine (impl_hasAll gr _ cs _ HG.out (Hcv.out.below (HB.out.trans (hc.mono HB.out.size)))).mono ?_
    rintro e u2 ⟨rfl, hq2⟩
    replace hc := Below.next hc hq2
    clear hq2 c0_0 c0_1 c0_2
    obtain ⟨c0_0, c0_1, c0_2⟩ := HCC.out _ hc
    cases hc2 : cs.all (elB gr) with
    | false =>
      have Hhc2 := Lib.hid hc2
      clear hc2
      go_wp2_with fail
      have HV : Hid ((.bool (cmsB gr cs) : Value) = .bool false) := by unfold Hid; simp [cmsB, Hhc2.out, HLN.out]
      go_ret
      exact ⟨congrArg Ending.returned HV.out.symm, HB.out.trans (hc.mono HB.out.size)⟩
    | true =>
      have Hhc2 := Lib.hid hc2
      clear hc2
      go_wp2_with fail
      have HV : Hid ((.bool (cmsB gr cs) : Value) = .bool true) := by unfold Hid; simp [cmsB, Hhc2.out, HLN.out]
      go_ret
      exact ⟨congrArg Ending.returned HV.out.symm, HB.out.trans (hc.mono HB.out.size)⟩
set_option maxRecDepth 100000 in
set_option maxHeartbeats 2000000 in
theorem spec_sCommits (gr : GroupD) (cv : Value) (cs : List Int) (w : World) (hg : OkG gr) (hcs : Ints w cv cs) :
    Calls Try.prog 111 #[.agg #[.int .i64 gr.p, .int .i64 gr.q, .int .i64 gr.g], cv] w fun e w' => e = .returned (.bool (cmsB gr cs)) ∧ Below w.heap.size w w' := by
  have HG := Lib.hid hg
  clear hg
  obtain ⟨cva, cvn, cvc, rfl⟩ := hcs.shape
  have Ecv := Lib.hid hcs.len
  have Kcv := Lib.hid hcs.capMax
  have Hcv := Lib.hid hcs
  clear hcs
  obtain ⟨W, hW⟩ : ∃ W, W = w.alloc (.cells #[.int .i64 gr.p, .int .i64 gr.q, .int .i64 gr.g] 24) := ⟨_, rfl⟩
  have HB : Hid (Below w.heap.size w W) := by unfold Hid; rw [hW]; (repeat (first | exact Below.refl _ _ | assumption | refine Below.drew ?_ | refine Below.alloc ?_ (by first | (simp; done) | (simp; omega)) _ | refine Below.setCell ?_ (by first | (simp; done) | (simp; omega)) _))
  have c0_0 : W.cell? ⟨w.heap.size, 0, none⟩ = some (.int .i64 gr.p) := by rw [hW]; simp [go_sem]
  have c0_1 : W.cell? ⟨w.heap.size, 1, none⟩ = some (.int .i64 gr.q) := by rw [hW]; simp [go_sem]
  have c0_2 : W.cell? ⟨w.heap.size, 2, none⟩ = some (.int .i64 gr.g) := by rw [hW]; simp [go_sem]
  have HSW : Hid (W.heap.size = w.heap.size + 1) := by unfold Hid; rw [hW]; simp
  go_enter Try.func111, Try.ntmps111
  go_wp2_with fail
  rw [← hW]
  have hse : w.heap.size + 1 = W.heap.size := by have := HSW.out; omega
  (try rw [hse])
  clear hse
  clear hW
  have hc : Below W.heap.size W W := Below.refl _ _
  have HCC : Hid (∀ u, Below W.heap.size W u → u.cell? ⟨w.heap.size, 0, none⟩ = some (.int .i64 gr.p) ∧ u.cell? ⟨w.heap.size, 1, none⟩ = some (.int .i64 gr.q) ∧ u.cell? ⟨w.heap.size, 2, none⟩ = some (.int .i64 gr.g)) := fun u h => ⟨box_at c0_0 h, box_at c0_1 h, box_at c0_2 h⟩
  go_wp2_with fail
  refine (spec_l1In (cvn : Int) 1 7 _).mono ?_
  rintro e u1 ⟨rfl, rfl⟩
  cases hc1 : decide (1 ≤ (cvn : Int) ∧ (cvn : Int) ≤ 7) with
  | false =>
    have HLN : Hid (decide (1 ≤ (cs.length : Int) ∧ (cs.length : Int) ≤ 7) = false) := by have q := of_decide_eq_false hc1; have := Ecv.out; unfold Hid; exact decide_eq_false (by omega)
    go_wp2_with fail
    have HV : Hid ((.bool (cmsB gr cs) : Value) = .bool false) := by unfold Hid; simp [cmsB, HLN.out]
    go_ret
    exact ⟨congrArg Ending.returned HV.out.symm, HB.out.trans (hc.mono HB.out.size)⟩
  | true =>
    have HLNp : 1 ≤ (cs.length : Int) ∧ (cs.length : Int) ≤ 7 := by have q := of_decide_eq_true hc1; have := Ecv.out; omega
    have HLN : Hid (decide (1 ≤ (cs.length : Int) ∧ (cs.length : Int) ≤ 7) = true) := decide_eq_true HLNp
    have HLNL := Lib.hid HLNp
    clear HLNp
    go_wp2_with fail
    refine (spec_gIs gr _ cs _ HG.out (Hcv.out.below (HB.out.trans (hc.mono HB.out.size)))).mono ?_
    rintro e u2 ⟨rfl, hq2⟩
    replace hc := Below.next hc hq2
    clear hq2 c0_0 c0_1 c0_2
    obtain ⟨c0_0, c0_1, c0_2⟩ := HCC.out _ hc
    cases hc2 : cs.all (elB gr) with
    | false =>
      have Hhc2 := Lib.hid hc2
      clear hc2
      go_wp2_with fail
      have HV : Hid ((.bool (cmsB gr cs) : Value) = .bool false) := by unfold Hid; simp [cmsB, Hhc2.out, HLN.out]
      go_ret
      exact ⟨congrArg Ending.returned HV.out.symm, HB.out.trans (hc.mono HB.out.size)⟩
    | true =>
      have Hhc2 := Lib.hid hc2
      clear hc2
      go_wp2_with fail
      have HV : Hid ((.bool (cmsB gr cs) : Value) = .bool true) := by unfold Hid; simp [cmsB, Hhc2.out, HLN.out]
      go_ret
      exact ⟨congrArg Ending.returned HV.out.symm, HB.out.trans (hc.mono HB.out.size)⟩
set_option maxRecDepth 100000 in
set_option maxHeartbeats 2000000 in
theorem impl_commitAt (gr : GroupD) (cv : Value) (cs : List Int) (i : Int) (w : World) (hg : OkG gr) (hcs : Ints w cv cs) (hel : AllSmall cs) (hn : cs.length ≤ 1000) (hi : 0 ≤ i ∧ i ≤ 1000) :
    Calls Try.prog 182 #[.agg #[.int .i64 gr.p, .int .i64 gr.q, .int .i64 gr.g], cv, .int .i64 i] w fun e w' => e = .returned (.int .i64 (atE gr cs i)) ∧ Below w.heap.size w w' := by
  have HG := Lib.hid hg
  clear hg
  obtain ⟨cva, cvn, cvc, rfl⟩ := hcs.shape
  have Ecv := Lib.hid hcs.len
  have Kcv := Lib.hid hcs.capMax
  have Hcv := Lib.hid hcs
  clear hcs
  have HEL := Lib.hid hel
  have HN : Hid (cvn ≤ 1000) := by unfold Hid; have := Ecv.out; omega
  have HI := Lib.hid hi
  have HI64 : Hid (I64 i) := ⟨by omega, by omega⟩
  clear hel hn hi
  obtain ⟨W, hW⟩ : ∃ W, W = w.alloc (.cells #[.int .i64 gr.p, .int .i64 gr.q, .int .i64 gr.g] 24) := ⟨_, rfl⟩
  have HB : Hid (Below w.heap.size w W) := by unfold Hid; rw [hW]; (repeat (first | exact Below.refl _ _ | assumption | refine Below.drew ?_ | refine Below.alloc ?_ (by first | (simp; done) | (simp; omega)) _ | refine Below.setCell ?_ (by first | (simp; done) | (simp; omega)) _))
  have c0_0 : W.cell? ⟨w.heap.size, 0, none⟩ = some (.int .i64 gr.p) := by rw [hW]; simp [go_sem]
  have c0_1 : W.cell? ⟨w.heap.size, 1, none⟩ = some (.int .i64 gr.q) := by rw [hW]; simp [go_sem]
  have c0_2 : W.cell? ⟨w.heap.size, 2, none⟩ = some (.int .i64 gr.g) := by rw [hW]; simp [go_sem]
  have HSW : Hid (W.heap.size = w.heap.size + 1) := by unfold Hid; rw [hW]; simp
  go_enter Try.func182, Try.ntmps182
  go_wp2_with fail
  rw [← hW]
  have hse : w.heap.size + 1 = W.heap.size := by have := HSW.out; omega
  (try rw [hse])
  clear hse
  clear hW
  have hc : Below W.heap.size W W := Below.refl _ _
  have HCC : Hid (∀ u, Below W.heap.size W u → u.cell? ⟨w.heap.size, 0, none⟩ = some (.int .i64 gr.p) ∧ u.cell? ⟨w.heap.size, 1, none⟩ = some (.int .i64 gr.q) ∧ u.cell? ⟨w.heap.size, 2, none⟩ = some (.int .i64 gr.g)) := fun u h => ⟨box_at c0_0 h, box_at c0_1 h, box_at c0_2 h⟩
  go_wp2_with fail
  have C0 := Lib.hid c0_0
  have C1 := Lib.hid c0_1
  have C2 := Lib.hid c0_2
  clear hc c0_0 c0_1 c0_2 HCC
  go_loopg [7, 8, 13] cvn (fun gk ov ev iv wr => ∃ k : Nat, k + gk = cvn ∧ iv = .int .i64 (k : Int) ∧ ov = .int .i64 (atS gr i cs k).1 ∧ ev = .int .i64 (atS gr i cs k).2 ∧ Below W.heap.size W wr)
  case atStart => exact ⟨0, by omega, rfl, rfl, rfl, Below.refl _ _⟩
  case round =>
    obtain ⟨k, hkg, rfl, rfl, rfl, hbr⟩ := hrel
    have HKG := Lib.hid hkg
    have HBR := Lib.hid hbr
    have hgl : k < cvn → cvn - (k + 1) < gk := by omega
    obtain ⟨h1, h2, h3⟩ := atS_bd HG.out i cs k
    obtain ⟨A, hA⟩ : ∃ z, (atS gr i cs k).1 = z := ⟨_, rfl⟩
    obtain ⟨E, hE⟩ : ∃ z, (atS gr i cs k).2 = z := ⟨_, rfl⟩
    rw [hA] at h1 ⊢
    rw [hE] at h2 h3 ⊢
    have HA := Lib.hid hA
    have HAS := Lib.hid h1
    clear hkg hbr hA h1
    by_cases hlt : k < cvn
    · have HS1 : Hid ((atS gr i cs (k + 1)).1 = mulL gr [A, powE gr (nth cs k) E]) := by unfold Hid; rw [← HA.out, ← hE]; rfl
      have HS2 : Hid ((atS gr i cs (k + 1)).2 = E * i % gr.q) := by unfold Hid; rw [← hE]; rfl
      clear hE
      have zq1 := HG.out.q1
      have zq2 := HG.out.q2
      have zp2 := HG.out.p2
      obtain ⟨m1, m2⟩ := mulE_bd h2 h3 (by omega) HI.out.1 HI.out.2
      have ewm : IntKind.i64.wrap (E * i) = E * i := IntWalk.i64_in _ (by omega)
      have etm : Int.tmod (E * i) gr.q = (E * i) % gr.q := Int.tmod_eq_emod_of_nonneg m1
      have HEI : Hid (I64 (E * i)) := ⟨by omega, by omega⟩
      have HEE : Hid (I64 E) := ⟨by omega, by omega⟩
      have z1 : 0 ≤ (E * i) % gr.q := Int.emod_nonneg _ (by omega)
      have z2 : (E * i) % gr.q < gr.q := Int.emod_lt_of_pos _ (by omega)
      obtain ⟨E2, hE2⟩ : ∃ z, (E * i) % gr.q = z := ⟨_, rfl⟩
      rw [hE2] at HS2 z1 z2 etm
      have HE2 := Lib.hid hE2
      clear hE2 m1 m2
      have ew2 : IntKind.i64.wrap E2 = E2 := IntWalk.i64_in _ (by omega)
      have hqz : ¬ gr.q = 0 := by omega
      have hqz2 : (gr.q == 0) = false := by rw [beq_eq_false_iff_ne]; omega
      have hwk : IntKind.i64.wrap ((k : Int) + 1) = (k : Int) + 1 := IntWalk.i64_in _ (by have := HN.out; omega)
      obtain ⟨b, o, e, hcx⟩ := Hcv.out.at_ (by have := Ecv.out; omega)
      cases e
      have yk := box_at (box_at (hcx k hlt) HB.out) HBR.out
      have HX : Hid (Small (nth cs k)) := nth_small HEL.out (by have := Ecv.out; omega)
      clear hcx
      obtain ⟨x, hx⟩ : ∃ z, nth cs k = z := ⟨_, rfl⟩
      rw [hx] at yk HX HS1
      clear hx z1 z2
      have kk0 : (0 : Int) ≤ (k : Int) := by omega
      have kk1 : (k : Int) < (cvn : Int) := by omega
      have c0_0 := box_at C0.out HBR.out
      have c0_1 := box_at C1.out HBR.out
      have c0_2 := box_at C2.out HBR.out
      have hc : Below wr.heap.size wr wr := Below.refl _ _
      go_wp2_with fail
      clear yk kk0 kk1
      try (go_wp2_with fail)
      refine wp_region_noPanic ?_
      refine wp_region_P (fun w' => w'.cell? ⟨w.heap.size, 0, none⟩ = some (.int .i64 gr.p) ∧ w'.cell? ⟨w.heap.size, 1, none⟩ = some (.int .i64 gr.q) ∧ w'.cell? ⟨w.heap.size, 2, none⟩ = some (.int .i64 gr.g)) 17 [(0, []), (1, []), (2, []), (3, []), (4, []), (5, [2, 1, 0]), (6, [4, 0]), (7, [6, 0]), (8, []), (9, []), (10, []), (11, [1, 0]), (12, [3, 0]), (13, [5]), (14, [1])] [] (by kernel_rfl) (by kernel_rfl) (by kernel_rfl) rfl (fun _ _ _ _ h => h) (fun w' h => ⟨box_at c0_0 h, box_at c0_1 h, box_at c0_2 h⟩) ?_
      simp only [pickP, pickN, List.getElem?_cons_zero, List.getElem?_cons_succ]
      iterate 5 (refine' chainP_read _ rfl rfl (fun w' hS' => ?_) ?_; rotate_left; · (simp only [lookP, allP, Act.put, List.getElem?_cons_zero, List.getElem?_cons_succ, List.setIfInBounds_toArray, List.set_cons_zero, List.set_cons_succ]; (try dsimp only at hS'); go_simp; (try with_reducible rfl)))
      -- 5: call { callee := value (func 74), args := #[t19, t20, t21], argTypes := #[24, 3, 3] }
      refine chainP_call (d := (some 22)) (.int .i64 (powE gr x E)) rfl rfl (fun w' hS' => ?_) ?_
      · simp only [lookP, allP, Act.put, List.getElem?_cons_zero, List.getElem?_cons_succ, List.setIfInBounds_toArray, List.set_cons_zero, List.set_cons_succ]
        intro K hK
        go_simp
        go_at_call 51
        refine (impl_pow gr x E _ HG.out HX.out HEE.out).mono ?_
        rintro e u ⟨rfl, hq⟩
        exact hK.out _ hq
      -- 6: buildSlice 43 2 #[(0, t18), (1, t22)]
      refine chainP_do (d := (some 23)) (fun v w => Ints w v [A, powE gr x E]) (fun v w w' hb h => Ints.below h hb) rfl rfl (fun w' hS' => ?_) ?_
      · simp only [lookP, allP, Act.put, List.getElem?_cons_zero, List.getElem?_cons_succ, List.setIfInBounds_toArray, List.set_cons_zero, List.set_cons_succ]
        intro K hK
        go_simp
        refine hK.out _ _ ((Below.refl _ _).alloc (Nat.le_refl _) _) ?_
        exact (OwnI.lit (B := w'.heap.size) w' (Nat.le_refl _) (l := [A, powE gr x E]) (AllI64.cons (small_64 HAS.out) (AllI64.cons (small_64 (powE_small HG.out _ _)) AllI64.nil)) rfl (by simp [maxLen]) 2 rfl).ints
      -- 7: call { callee := value (func 155), args := #[t17, t23], argTypes := #[24, 43] }
      refine chainP_call (d := (some 24)) (.int .i64 (mulL gr [A, powE gr x E])) rfl rfl (fun w' hS' => ?_) ?_
      · simp only [lookP, allP, Act.put, List.getElem?_cons_zero, List.getElem?_cons_succ, List.setIfInBounds_toArray, List.set_cons_zero, List.set_cons_succ]
        intro x6 hx6
        intro K hK
        go_simp
        go_at_call 90
        refine (impl_mul gr _ [A, powE gr x E] _ HG.out hx6 (AllSmall.cons HAS.out (AllSmall.cons (powE_small HG.out _ _) AllSmall.nil))).mono ?_
        rintro e u ⟨rfl, hq⟩
        exact hK.out _ hq
      iterate 4 (refine' chainP_read _ rfl rfl (fun w' hS' => ?_) ?_; rotate_left; · (simp only [lookP, allP, Act.put, List.getElem?_cons_zero, List.getElem?_cons_succ, List.setIfInBounds_toArray, List.set_cons_zero, List.set_cons_succ]; (try dsimp only at hS'); go_simp; (try with_reducible rfl)))
      -- 12: call { callee := value (func 75), args := #[t25, t28], argTypes := #[24, 3] }
      refine chainP_call (d := (some 29)) (.int .i64 E2) rfl rfl (fun w' hS' => ?_) ?_
      · simp only [lookP, allP, Act.put, List.getElem?_cons_zero, List.getElem?_cons_succ, List.setIfInBounds_toArray, List.set_cons_zero, List.set_cons_succ]
        intro K hK
        go_simp
        go_at_call 52
        refine (impl_exp gr (E * i) _ HG.out HEI.out).mono ?_
        rintro e u ⟨rfl, hq⟩
        rw [HE2.out]
        exact hK.out _ hq
      iterate 2 (refine' chainP_read _ rfl rfl (fun w' hS' => ?_) ?_; rotate_left; · (simp only [lookP, allP, Act.put, List.getElem?_cons_zero, List.getElem?_cons_succ, List.setIfInBounds_toArray, List.set_cons_zero, List.set_cons_succ]; (try dsimp only at hS'); go_simp; (try with_reducible rfl)))
      refine chainP_nil (fun u1 hS' => ?_)
      simp only [allP, Act.put, List.setIfInBounds_toArray, List.set_cons_zero, List.set_cons_succ]
      intro x6 hx6
      have hq1 := hS'.1
      clear hS'
      replace hc := Below.next hc hq1
      replace c0_0 := box_at c0_0 hq1
      replace c0_1 := box_at c0_1 hq1
      replace c0_2 := box_at c0_2 hq1
      clear hq1
      have HC2 := Lib.hid hc
      clear hc
      go_wp2_with fail
      refine NoPanic.normal ?_
      go_wp2_with fail
      clear c0_0 c0_1 c0_2
      go_roundg (cvn - (k + 1))
      case measure => exact hgl hlt
      case rel => exact ⟨k + 1, by have := HKG.out; omega, by go_num, by rw [HS1.out], by rw [HS2.out], HBR.out.trans (HC2.out.mono HBR.out.size)⟩
    · obtain rfl : k = cvn := by have := HKG.out; omega
      have HV : Hid (atE gr cs i = A) := by unfold Hid atE; rw [Ecv.out]; exact HA.out
      clear hE h2 h3
      go_wp2_with fail
      go_ret
      exact ⟨congrArg (fun z => Ending.returned (Value.int IntKind.i64 z)) HV.out.symm, HB.out.trans (HBR.out.mono HB.out.size)⟩
set_option maxRecDepth 100000 in
set_option maxHeartbeats 2000000 in
theorem spec_sAt (gr : GroupD) (cv : Value) (cs : List Int) (i : Int) (w : World) (hg : OkG gr) (hcs : Ints w cv cs) (hel : AllSmall cs) (hn : cs.length ≤ 1000) (hi : 0 ≤ i ∧ i ≤ 1000) :
    Calls Try.prog 167 #[.agg #[.int .i64 gr.p, .int .i64 gr.q, .int .i64 gr.g], cv, .int .i64 i] w fun e w' => e = .returned (.int .i64 (atE gr cs i)) ∧ Below w.heap.size w w' := by
  have HG := Lib.hid hg
  clear hg
  obtain ⟨cva, cvn, cvc, rfl⟩ := hcs.shape
  have Ecv := Lib.hid hcs.len
  have Kcv := Lib.hid hcs.capMax
  have Hcv := Lib.hid hcs
  clear hcs
  have HEL := Lib.hid hel
  have HN : Hid (cvn ≤ 1000) := by unfold Hid; have := Ecv.out; omega
  have HI := Lib.hid hi
  have HI64 : Hid (I64 i) := ⟨by omega, by omega⟩
  clear hel hn hi
  obtain ⟨W, hW⟩ : ∃ W, W = w.alloc (.cells #[.int .i64 gr.p, .int .i64 gr.q, .int .i64 gr.g] 24) := ⟨_, rfl⟩
  have HB : Hid (Below w.heap.size w W) := by unfold Hid; rw [hW]; (repeat (first | exact Below.refl _ _ | assumption | refine Below.drew ?_ | refine Below.alloc ?_ (by first | (simp; done) | (simp; omega)) _ | refine Below.setCell ?_ (by first | (simp; done) | (simp; omega)) _))
  have c0_0 : W.cell? ⟨w.heap.size, 0, none⟩ = some (.int .i64 gr.p) := by rw [hW]; simp [go_sem]
  have c0_1 : W.cell? ⟨w.heap.size, 1, none⟩ = some (.int .i64 gr.q) := by rw [hW]; simp [go_sem]
  have c0_2 : W.cell? ⟨w.heap.size, 2, none⟩ = some (.int .i64 gr.g) := by rw [hW]; simp [go_sem]
  have HSW : Hid (W.heap.size = w.heap.size + 1) := by unfold Hid; rw [hW]; simp
  go_enter Try.func167, Try.ntmps167
  go_wp2_with fail
  rw [← hW]
  have hse : w.heap.size + 1 = W.heap.size := by have := HSW.out; omega
  (try rw [hse])
  clear hse
  clear hW
  have hc : Below W.heap.size W W := Below.refl _ _
  have HCC : Hid (∀ u, Below W.heap.size W u → u.cell? ⟨w.heap.size, 0, none⟩ = some (.int .i64 gr.p) ∧ u.cell? ⟨w.heap.size, 1, none⟩ = some (.int .i64 gr.q) ∧ u.cell? ⟨w.heap.size, 2, none⟩ = some (.int .i64 gr.g)) := fun u h => ⟨box_at c0_0 h, box_at c0_1 h, box_at c0_2 h⟩
  go_wp2_with fail
  have C0 := Lib.hid c0_0
  have C1 := Lib.hid c0_1
  have C2 := Lib.hid c0_2
  clear hc c0_0 c0_1 c0_2 HCC
  go_loopg [7, 8, 13] cvn (fun gk ov ev iv wr => ∃ k : Nat, k + gk = cvn ∧ iv = .int .i64 (k : Int) ∧ ov = .int .i64 (atS gr i cs k).1 ∧ ev = .int .i64 (atS gr i cs k).2 ∧ Below W.heap.size W wr)
  case atStart => exact ⟨0, by omega, rfl, rfl, rfl, Below.refl _ _⟩
  case round =>
    obtain ⟨k, hkg, rfl, rfl, rfl, hbr⟩ := hrel
    have HKG := Lib.hid hkg
    have HBR := Lib.hid hbr
    have hgl : k < cvn → cvn - (k + 1) < gk := by omega
    obtain ⟨h1, h2, h3⟩ := atS_bd HG.out i cs k
    obtain ⟨A, hA⟩ : ∃ z, (atS gr i cs k).1 = z := ⟨_, rfl⟩
    obtain ⟨E, hE⟩ : ∃ z, (atS gr i cs k).2 = z := ⟨_, rfl⟩
    rw [hA] at h1 ⊢
    rw [hE] at h2 h3 ⊢
    have HA := Lib.hid hA
    have HAS := Lib.hid h1
    clear hkg hbr hA h1
    by_cases hlt : k < cvn
    · have HS1 : Hid ((atS gr i cs (k + 1)).1 = mulL gr [A, powE gr (nth cs k) E]) := by unfold Hid; rw [← HA.out, ← hE]; rfl
      have HS2 : Hid ((atS gr i cs (k + 1)).2 = E * i % gr.q) := by unfold Hid; rw [← hE]; rfl
      clear hE
      have zq1 := HG.out.q1
      have zq2 := HG.out.q2
      have zp2 := HG.out.p2
      obtain ⟨m1, m2⟩ := mulE_bd h2 h3 (by omega) HI.out.1 HI.out.2
      have ewm : IntKind.i64.wrap (E * i) = E * i := IntWalk.i64_in _ (by omega)
      have etm : Int.tmod (E * i) gr.q = (E * i) % gr.q := Int.tmod_eq_emod_of_nonneg m1
      have HEI : Hid (I64 (E * i)) := ⟨by omega, by omega⟩
      have HEE : Hid (I64 E) := ⟨by omega, by omega⟩
      have z1 : 0 ≤ (E * i) % gr.q := Int.emod_nonneg _ (by omega)
      have z2 : (E * i) % gr.q < gr.q := Int.emod_lt_of_pos _ (by omega)
      obtain ⟨E2, hE2⟩ : ∃ z, (E * i) % gr.q = z := ⟨_, rfl⟩
      rw [hE2] at HS2 z1 z2 etm
      have HE2 := Lib.hid hE2
      clear hE2 m1 m2
      have ew2 : IntKind.i64.wrap E2 = E2 := IntWalk.i64_in _ (by omega)
      have hqz : ¬ gr.q = 0 := by omega
      have hqz2 : (gr.q == 0) = false := by rw [beq_eq_false_iff_ne]; omega
      have hwk : IntKind.i64.wrap ((k : Int) + 1) = (k : Int) + 1 := IntWalk.i64_in _ (by have := HN.out; omega)
      obtain ⟨b, o, e, hcx⟩ := Hcv.out.at_ (by have := Ecv.out; omega)
      cases e
      have yk := box_at (box_at (hcx k hlt) HB.out) HBR.out
      have HX : Hid (Small (nth cs k)) := nth_small HEL.out (by have := Ecv.out; omega)
      clear hcx
      obtain ⟨x, hx⟩ : ∃ z, nth cs k = z := ⟨_, rfl⟩
      rw [hx] at yk HX HS1
      clear hx z1 z2
      have kk0 : (0 : Int) ≤ (k : Int) := by omega
      have kk1 : (k : Int) < (cvn : Int) := by omega
      have c0_0 := box_at C0.out HBR.out
      have c0_1 := box_at C1.out HBR.out
      have c0_2 := box_at C2.out HBR.out
      have hc : Below wr.heap.size wr wr := Below.refl _ _
      go_wp2_with fail
      clear yk kk0 kk1
      try (go_wp2_with fail)
      refine wp_region_noPanic ?_
      refine wp_region_P (fun w' => w'.cell? ⟨w.heap.size, 0, none⟩ = some (.int .i64 gr.p) ∧ w'.cell? ⟨w.heap.size, 1, none⟩ = some (.int .i64 gr.q) ∧ w'.cell? ⟨w.heap.size, 2, none⟩ = some (.int .i64 gr.g)) 11 [(0, []), (1, []), (2, []), (3, []), (4, []), (5, [2, 1, 0]), (6, [4, 0]), (7, [6, 0]), (8, [0])] [] (by kernel_rfl) (by kernel_rfl) (by kernel_rfl) rfl (fun _ _ _ _ h => h) (fun w' h => ⟨box_at c0_0 h, box_at c0_1 h, box_at c0_2 h⟩) ?_
      simp only [pickP, pickN, List.getElem?_cons_zero, List.getElem?_cons_succ]
      iterate 5 (refine' chainP_read _ rfl rfl (fun w' hS' => ?_) ?_; rotate_left; · (simp only [lookP, allP, Act.put, List.getElem?_cons_zero, List.getElem?_cons_succ, List.setIfInBounds_toArray, List.set_cons_zero, List.set_cons_succ]; (try dsimp only at hS'); go_simp; (try with_reducible rfl)))
      -- 5: call { callee := value (func 80), args := #[t19, t20, t21], argTypes := #[24, 3, 3] }
      refine chainP_call (d := (some 22)) (.int .i64 (powE gr x E)) rfl rfl (fun w' hS' => ?_) ?_
      · simp only [lookP, allP, Act.put, List.getElem?_cons_zero, List.getElem?_cons_succ, List.setIfInBounds_toArray, List.set_cons_zero, List.set_cons_succ]
        intro K hK
        go_simp
        go_at_call 57
        refine (spec_gExp gr x E _ HG.out HX.out HEE.out).mono ?_
        rintro e u ⟨rfl, hq⟩
        exact hK.out _ hq
      -- 6: buildSlice 43 2 #[(0, t18), (1, t22)]
      refine chainP_do (d := (some 23)) (fun v w => Ints w v [A, powE gr x E]) (fun v w w' hb h => Ints.below h hb) rfl rfl (fun w' hS' => ?_) ?_
      · simp only [lookP, allP, Act.put, List.getElem?_cons_zero, List.getElem?_cons_succ, List.setIfInBounds_toArray, List.set_cons_zero, List.set_cons_succ]
        intro K hK
        go_simp
        refine hK.out _ _ ((Below.refl _ _).alloc (Nat.le_refl _) _) ?_
        exact (OwnI.lit (B := w'.heap.size) w' (Nat.le_refl _) (l := [A, powE gr x E]) (AllI64.cons (small_64 HAS.out) (AllI64.cons (small_64 (powE_small HG.out _ _)) AllI64.nil)) rfl (by simp [maxLen]) 2 rfl).ints
      -- 7: call { callee := value (func 89), args := #[t17, t23], argTypes := #[24, 43] }
      refine chainP_call (d := (some 24)) (.int .i64 (mulL gr [A, powE gr x E])) rfl rfl (fun w' hS' => ?_) ?_
      · simp only [lookP, allP, Act.put, List.getElem?_cons_zero, List.getElem?_cons_succ, List.setIfInBounds_toArray, List.set_cons_zero, List.set_cons_succ]
        intro x6 hx6
        intro K hK
        go_simp
        go_at_call 66
        refine (spec_gMul gr _ [A, powE gr x E] _ HG.out hx6 (AllSmall.cons HAS.out (AllSmall.cons (powE_small HG.out _ _) AllSmall.nil))).mono ?_
        rintro e u ⟨rfl, hq⟩
        exact hK.out _ hq
      -- 8: assign t24
      refine' chainP_read (d := (some 7)) _ rfl rfl (fun w' hS' => ?_) ?_; rotate_left
      · simp only [lookP, allP, Act.put, List.getElem?_cons_zero, List.getElem?_cons_succ, List.setIfInBounds_toArray, List.set_cons_zero, List.set_cons_succ]
        (try dsimp only at hS')
        go_simp
        (try with_reducible rfl)
      refine chainP_nil (fun u1 hS' => ?_)
      simp only [allP, Act.put, List.setIfInBounds_toArray, List.set_cons_zero, List.set_cons_succ]
      intro x6 hx6
      have hq1 := hS'.1
      clear hS'
      replace hc := Below.next hc hq1
      replace c0_0 := box_at c0_0 hq1
      replace c0_1 := box_at c0_1 hq1
      replace c0_2 := box_at c0_2 hq1
      clear hq1
      have HC2 := Lib.hid hc
      clear hc
      go_wp2_with fail
      refine NoPanic.normal ?_
      go_wp2_with fail
      clear c0_0 c0_1 c0_2
      go_roundg (cvn - (k + 1))
      case measure => exact hgl hlt
      case rel => exact ⟨k + 1, by have := HKG.out; omega, by go_num, by rw [HS1.out], by rw [HS2.out], HBR.out.trans (HC2.out.mono HBR.out.size)⟩
    · obtain rfl : k = cvn := by have := HKG.out; omega
      have HV : Hid (atE gr cs i = A) := by unfold Hid atE; rw [Ecv.out]; exact HA.out
      clear hE h2 h3
      go_wp2_with fail
      go_ret
      exact ⟨congrArg (fun z => Ending.returned (Value.int IntKind.i64 z)) HV.out.symm, HB.out.trans (HBR.out.mono HB.out.size)⟩
set_option maxRecDepth 100000 in
set_option maxHeartbeats 2000000 in
theorem impl_isShare (gr : GroupD) (cv : Value) (cs : List Int) (i s : Int) (w : World) (hg : OkG gr) (hcs : Ints w cv cs) (hel : AllSmall cs) (hn : cs.length ≤ 1000) (hi : 0 ≤ i ∧ i ≤ 1000) (hs : I64 s) :
    Calls Try.prog 166 #[.agg #[.int .i64 gr.p, .int .i64 gr.q, .int .i64 gr.g], cv, .int .i64 i, .int .i64 s] w fun e w' => e = .returned (.bool (shrB gr cs i s)) ∧ Below w.heap.size w w' := by
  have HG := Lib.hid hg
  clear hg
  obtain ⟨cva, cvn, cvc, rfl⟩ := hcs.shape
  have Ecv := Lib.hid hcs.len
  have Kcv := Lib.hid hcs.capMax
  have Hcv := Lib.hid hcs
  clear hcs
  have HEL := Lib.hid hel
  have HN := Lib.hid hn
  have HI := Lib.hid hi
  have HIS := Lib.hid hs
  have HGS : Hid (Small gr.g) := by have h1 := HG.out.g1; have h2 := HG.out.g2; have h3 := HG.out.p2; exact ⟨by omega, by omega⟩
  clear hel hn hi hs
  obtain ⟨W, hW⟩ : ∃ W, W = w.alloc (.cells #[.int .i64 gr.p, .int .i64 gr.q, .int .i64 gr.g] 24) := ⟨_, rfl⟩
  have HB : Hid (Below w.heap.size w W) := by unfold Hid; rw [hW]; (repeat (first | exact Below.refl _ _ | assumption | refine Below.drew ?_ | refine Below.alloc ?_ (by first | (simp; done) | (simp; omega)) _ | refine Below.setCell ?_ (by first | (simp; done) | (simp; omega)) _))
  have c0_0 : W.cell? ⟨w.heap.size, 0, none⟩ = some (.int .i64 gr.p) := by rw [hW]; simp [go_sem]
  have c0_1 : W.cell? ⟨w.heap.size, 1, none⟩ = some (.int .i64 gr.q) := by rw [hW]; simp [go_sem]
  have c0_2 : W.cell? ⟨w.heap.size, 2, none⟩ = some (.int .i64 gr.g) := by rw [hW]; simp [go_sem]
  have HSW : Hid (W.heap.size = w.heap.size + 1) := by unfold Hid; rw [hW]; simp
  go_enter Try.func166, Try.ntmps166
  go_wp2_with fail
  rw [← hW]
  have hse : w.heap.size + 1 = W.heap.size := by have := HSW.out; omega
  (try rw [hse])
  clear hse
  clear hW
  have hc : Below W.heap.size W W := Below.refl _ _
  have HCC : Hid (∀ u, Below W.heap.size W u → u.cell? ⟨w.heap.size, 0, none⟩ = some (.int .i64 gr.p) ∧ u.cell? ⟨w.heap.size, 1, none⟩ = some (.int .i64 gr.q) ∧ u.cell? ⟨w.heap.size, 2, none⟩ = some (.int .i64 gr.g)) := fun u h => ⟨box_at c0_0 h, box_at c0_1 h, box_at c0_2 h⟩
  try (go_wp2_with fail)
  refine wp_region_noPanic ?_
  refine wp_region_P (fun w' => w'.cell? ⟨w.heap.size, 0, none⟩ = some (.int .i64 gr.p) ∧ w'.cell? ⟨w.heap.size, 1, none⟩ = some (.int .i64 gr.q) ∧ w'.cell? ⟨w.heap.size, 2, none⟩ = some (.int .i64 gr.g)) 13 [(0, []), (1, []), (2, [0]), (3, []), (4, [3, 1, 0]), (5, []), (6, []), (7, []), (8, [2, 1, 0]), (9, [4, 0]), (10, [0])] [] (by kernel_rfl) (by kernel_rfl) (by kernel_rfl) rfl (fun _ _ _ _ h => h) (fun w' h => ⟨box_at c0_0 h, box_at c0_1 h, box_at c0_2 h⟩) ?_
  simp only [pickP, pickN, List.getElem?_cons_zero, List.getElem?_cons_succ]
  iterate 4 (refine' chainP_read _ rfl rfl (fun w' hS' => ?_) ?_; rotate_left; · (simp only [lookP, allP, Act.put, List.getElem?_cons_zero, List.getElem?_cons_succ, List.setIfInBounds_toArray, List.set_cons_zero, List.set_cons_succ]; (try dsimp only at hS'); go_simp; (try with_reducible rfl)))
  -- 4: call { callee := value (func 74), args := #[t9, t11, t12], argTypes := #[24, 3, 3] }
  refine chainP_call (d := (some 13)) (.int .i64 (powE gr gr.g s)) rfl rfl (fun w' hS' => ?_) ?_
  · simp only [lookP, allP, Act.put, List.getElem?_cons_zero, List.getElem?_cons_succ, List.setIfInBounds_toArray, List.set_cons_zero, List.set_cons_succ]
    intro K hK
    go_simp
    go_at_call 51
    refine (impl_pow gr gr.g s _ HG.out HGS.out HIS.out).mono ?_
    rintro e u ⟨rfl, hq⟩
    exact hK.out _ hq
  iterate 3 (refine' chainP_read _ rfl rfl (fun w' hS' => ?_) ?_; rotate_left; · (simp only [lookP, allP, Act.put, List.getElem?_cons_zero, List.getElem?_cons_succ, List.setIfInBounds_toArray, List.set_cons_zero, List.set_cons_succ]; (try dsimp only at hS'); go_simp; (try with_reducible rfl)))
  -- 8: call { callee := value (func 141), args := #[t14, t15, t16], argTypes := #[24, 43, 3] }
  refine chainP_call (d := (some 17)) (.int .i64 (atE gr cs i)) rfl rfl (fun w' hS' => ?_) ?_
  · simp only [lookP, allP, Act.put, List.getElem?_cons_zero, List.getElem?_cons_succ, List.setIfInBounds_toArray, List.set_cons_zero, List.set_cons_succ]
    intro K hK
    go_simp
    go_at_call 182
    refine (impl_commitAt gr _ cs i _ HG.out ((Hcv.out.below (HB.out.trans (hc.mono HB.out.size))).below hS'.1) HEL.out HN.out HI.out).mono ?_
    rintro e u ⟨rfl, hq⟩
    exact hK.out _ hq
  iterate 2 (refine' chainP_read _ rfl rfl (fun w' hS' => ?_) ?_; rotate_left; · (simp only [lookP, allP, Act.put, List.getElem?_cons_zero, List.getElem?_cons_succ, List.setIfInBounds_toArray, List.set_cons_zero, List.set_cons_succ]; (try dsimp only at hS'); go_simp; (try with_reducible rfl)))
  refine chainP_nil (fun u1 hS' => ?_)
  simp only [allP, Act.put, List.setIfInBounds_toArray, List.set_cons_zero, List.set_cons_succ]
  have hq1 := hS'.1
  clear hS'
  replace hc := Below.next hc hq1
  clear hq1 c0_0 c0_1 c0_2
  obtain ⟨c0_0, c0_1, c0_2⟩ := HCC.out _ hc
  go_wp2_with fail
  refine NoPanic.normal ?_
  go_wp2_with fail
  have HV : Hid ((.bool (shrB gr cs i s) : Value) = .bool (powE gr gr.g s == atE gr cs i)) := by unfold Hid; simp [shrB]
  go_ret
  exact ⟨congrArg Ending.returned HV.out.symm, HB.out.trans (hc.mono HB.out.size)⟩
set_option maxRecDepth 100000 in
set_option maxHeartbeats 2000000 in
theorem spec_sFits (gr : GroupD) (cv : Value) (cs : List Int) (i s : Int) (w : World) (hg : OkG gr) (hcs : Ints w cv cs) (hel : AllSmall cs) (hn : cs.length ≤ 1000) (hi : 0 ≤ i ∧ i ≤ 1000) (hs : I64 s) :
    Calls Try.prog 114 #[.agg #[.int .i64 gr.p, .int .i64 gr.q, .int .i64 gr.g], cv, .int .i64 i, .int .i64 s] w fun e w' => e = .returned (.bool (shrB gr cs i s)) ∧ Below w.heap.size w w' := by
  have HG := Lib.hid hg
  clear hg
  obtain ⟨cva, cvn, cvc, rfl⟩ := hcs.shape
  have Ecv := Lib.hid hcs.len
  have Kcv := Lib.hid hcs.capMax
  have Hcv := Lib.hid hcs
  clear hcs
  have HEL := Lib.hid hel
  have HN := Lib.hid hn
  have HI := Lib.hid hi
  have HIS := Lib.hid hs
  have HGS : Hid (Small gr.g) := by have h1 := HG.out.g1; have h2 := HG.out.g2; have h3 := HG.out.p2; exact ⟨by omega, by omega⟩
  clear hel hn hi hs
  obtain ⟨W, hW⟩ : ∃ W, W = w.alloc (.cells #[.int .i64 gr.p, .int .i64 gr.q, .int .i64 gr.g] 24) := ⟨_, rfl⟩
  have HB : Hid (Below w.heap.size w W) := by unfold Hid; rw [hW]; (repeat (first | exact Below.refl _ _ | assumption | refine Below.drew ?_ | refine Below.alloc ?_ (by first | (simp; done) | (simp; omega)) _ | refine Below.setCell ?_ (by first | (simp; done) | (simp; omega)) _))
  have c0_0 : W.cell? ⟨w.heap.size, 0, none⟩ = some (.int .i64 gr.p) := by rw [hW]; simp [go_sem]
  have c0_1 : W.cell? ⟨w.heap.size, 1, none⟩ = some (.int .i64 gr.q) := by rw [hW]; simp [go_sem]
  have c0_2 : W.cell? ⟨w.heap.size, 2, none⟩ = some (.int .i64 gr.g) := by rw [hW]; simp [go_sem]
  have HSW : Hid (W.heap.size = w.heap.size + 1) := by unfold Hid; rw [hW]; simp
  go_enter Try.func114, Try.ntmps114
  go_wp2_with fail
  rw [← hW]
  have hse : w.heap.size + 1 = W.heap.size := by have := HSW.out; omega
  (try rw [hse])
  clear hse
  clear hW
  have hc : Below W.heap.size W W := Below.refl _ _
  have HCC : Hid (∀ u, Below W.heap.size W u → u.cell? ⟨w.heap.size, 0, none⟩ = some (.int .i64 gr.p) ∧ u.cell? ⟨w.heap.size, 1, none⟩ = some (.int .i64 gr.q) ∧ u.cell? ⟨w.heap.size, 2, none⟩ = some (.int .i64 gr.g)) := fun u h => ⟨box_at c0_0 h, box_at c0_1 h, box_at c0_2 h⟩
  try (go_wp2_with fail)
  refine wp_region_noPanic ?_
  refine wp_region_P (fun w' => w'.cell? ⟨w.heap.size, 0, none⟩ = some (.int .i64 gr.p) ∧ w'.cell? ⟨w.heap.size, 1, none⟩ = some (.int .i64 gr.q) ∧ w'.cell? ⟨w.heap.size, 2, none⟩ = some (.int .i64 gr.g)) 13 [(0, []), (1, []), (2, [0]), (3, []), (4, [3, 1, 0]), (5, []), (6, []), (7, []), (8, [2, 1, 0]), (9, [4, 0]), (10, [0])] [] (by kernel_rfl) (by kernel_rfl) (by kernel_rfl) rfl (fun _ _ _ _ h => h) (fun w' h => ⟨box_at c0_0 h, box_at c0_1 h, box_at c0_2 h⟩) ?_
  simp only [pickP, pickN, List.getElem?_cons_zero, List.getElem?_cons_succ]
  iterate 4 (refine' chainP_read _ rfl rfl (fun w' hS' => ?_) ?_; rotate_left; · (simp only [lookP, allP, Act.put, List.getElem?_cons_zero, List.getElem?_cons_succ, List.setIfInBounds_toArray, List.set_cons_zero, List.set_cons_succ]; (try dsimp only at hS'); go_simp; (try with_reducible rfl)))
  -- 4: call { callee := value (func 80), args := #[t9, t11, t12], argTypes := #[24, 3, 3] }
  refine chainP_call (d := (some 13)) (.int .i64 (powE gr gr.g s)) rfl rfl (fun w' hS' => ?_) ?_
  · simp only [lookP, allP, Act.put, List.getElem?_cons_zero, List.getElem?_cons_succ, List.setIfInBounds_toArray, List.set_cons_zero, List.set_cons_succ]
    intro K hK
    go_simp
    go_at_call 57
    refine (spec_gExp gr gr.g s _ HG.out HGS.out HIS.out).mono ?_
    rintro e u ⟨rfl, hq⟩
    exact hK.out _ hq
  iterate 3 (refine' chainP_read _ rfl rfl (fun w' hS' => ?_) ?_; rotate_left; · (simp only [lookP, allP, Act.put, List.getElem?_cons_zero, List.getElem?_cons_succ, List.setIfInBounds_toArray, List.set_cons_zero, List.set_cons_succ]; (try dsimp only at hS'); go_simp; (try with_reducible rfl)))
  -- 8: call { callee := value (func 204), args := #[t14, t15, t16], argTypes := #[24, 43, 3] }
  refine chainP_call (d := (some 17)) (.int .i64 (atE gr cs i)) rfl rfl (fun w' hS' => ?_) ?_
  · simp only [lookP, allP, Act.put, List.getElem?_cons_zero, List.getElem?_cons_succ, List.setIfInBounds_toArray, List.set_cons_zero, List.set_cons_succ]
    intro K hK
    go_simp
    go_at_call 167
    refine (spec_sAt gr _ cs i _ HG.out ((Hcv.out.below (HB.out.trans (hc.mono HB.out.size))).below hS'.1) HEL.out HN.out HI.out).mono ?_
    rintro e u ⟨rfl, hq⟩
    exact hK.out _ hq
  iterate 2 (refine' chainP_read _ rfl rfl (fun w' hS' => ?_) ?_; rotate_left; · (simp only [lookP, allP, Act.put, List.getElem?_cons_zero, List.getElem?_cons_succ, List.setIfInBounds_toArray, List.set_cons_zero, List.set_cons_succ]; (try dsimp only at hS'); go_simp; (try with_reducible rfl)))
  refine chainP_nil (fun u1 hS' => ?_)
  simp only [allP, Act.put, List.setIfInBounds_toArray, List.set_cons_zero, List.set_cons_succ]
  have hq1 := hS'.1
  clear hS'
  replace hc := Below.next hc hq1
  clear hq1 c0_0 c0_1 c0_2
  obtain ⟨c0_0, c0_1, c0_2⟩ := HCC.out _ hc
  go_wp2_with fail
  refine NoPanic.normal ?_
  go_wp2_with fail
  have HV : Hid ((.bool (shrB gr cs i s) : Value) = .bool (powE gr gr.g s == atE gr cs i)) := by unfold Hid; simp [shrB]
  go_ret
  exact ⟨congrArg Ending.returned HV.out.symm, HB.out.trans (hc.mono HB.out.size)⟩
theorem shG_ok {gr : GroupD} (h : shG gr = true) : OkG gr := by
  unfold shG at h; rw [Bool.and_eq_true] at h; exact goodG_ok h.2
theorem cmsB_parts {gr : GroupD} {l : List Int} (h : cmsB gr l = true) : (1 ≤ l.length ∧ l.length ≤ 7) ∧ l.all (elB gr) = true := by
  unfold cmsB at h; rw [Bool.and_eq_true, decide_eq_true_iff] at h; exact ⟨⟨by omega, by omega⟩, h.2⟩
theorem cmsB_small {gr : GroupD} (hg : OkG gr) {l : List Int} (h : cmsB gr l = true) : AllSmall l := cms_small hg (cmsB_parts h).2
theorem cmsB_le {gr : GroupD} {l : List Int} (h : cmsB gr l = true) : l.length ≤ 1000 := by have := (cmsB_parts h).1; omega
set_option maxRecDepth 100000 in
set_option maxHeartbeats 2000000 in
theorem impl_CommitAt (gr : GroupD) (cv : Value) (cs : List Int) (i : Int) (w : World) (hcs : Ints w cv cs) (hi : I64 i) :
    Calls Try.prog 132 #[.agg #[.int .i64 gr.p, .int .i64 gr.q, .int .i64 gr.g], cv, .int .i64 i] w fun e w' => e = .returned (.tuple #[.int .i64 (caR' gr cs i), .bool (caB' gr cs i)]) ∧ Below w.heap.size w w' := by
  obtain ⟨cva, cvn, cvc, rfl⟩ := hcs.shape
  have Ecv := Lib.hid hcs.len
  have Kcv := Lib.hid hcs.capMax
  have Hcv := Lib.hid hcs
  clear hcs
  have HII := Lib.hid hi
  clear hi
  obtain ⟨W, hW⟩ : ∃ W, W = w.alloc (.cells #[.int .i64 gr.p, .int .i64 gr.q, .int .i64 gr.g] 24) := ⟨_, rfl⟩
  have HB : Hid (Below w.heap.size w W) := by unfold Hid; rw [hW]; (repeat (first | exact Below.refl _ _ | assumption | refine Below.drew ?_ | refine Below.alloc ?_ (by first | (simp; done) | (simp; omega)) _ | refine Below.setCell ?_ (by first | (simp; done) | (simp; omega)) _))
  have c0_0 : W.cell? ⟨w.heap.size, 0, none⟩ = some (.int .i64 gr.p) := by rw [hW]; simp [go_sem]
  have c0_1 : W.cell? ⟨w.heap.size, 1, none⟩ = some (.int .i64 gr.q) := by rw [hW]; simp [go_sem]
  have c0_2 : W.cell? ⟨w.heap.size, 2, none⟩ = some (.int .i64 gr.g) := by rw [hW]; simp [go_sem]
  have HSW : Hid (W.heap.size = w.heap.size + 1) := by unfold Hid; rw [hW]; simp
  go_enter Try.func132, Try.ntmps132
  go_wp2_with fail
  rw [← hW]
  have hse : w.heap.size + 1 = W.heap.size := by have := HSW.out; omega
  (try rw [hse])
  clear hse
  clear hW
  have hc : Below W.heap.size W W := Below.refl _ _
  have HCC : Hid (∀ u, Below W.heap.size W u → u.cell? ⟨w.heap.size, 0, none⟩ = some (.int .i64 gr.p) ∧ u.cell? ⟨w.heap.size, 1, none⟩ = some (.int .i64 gr.q) ∧ u.cell? ⟨w.heap.size, 2, none⟩ = some (.int .i64 gr.g)) := fun u h => ⟨box_at c0_0 h, box_at c0_1 h, box_at c0_2 h⟩
  go_wp2_with fail
  refine (impl_isSharing gr _).mono ?_
  rintro e u1 ⟨rfl, hq1⟩
  replace hc := Below.next hc hq1
  clear hq1 c0_0 c0_1 c0_2
  obtain ⟨c0_0, c0_1, c0_2⟩ := HCC.out _ hc
  cases hc1 : shG gr with
  | false =>
    have Hhc1 := Lib.hid hc1
    clear hc1
    go_wp2_with fail
    have HV : Hid ((.tuple #[.int .i64 (caR' gr cs i), .bool (caB' gr cs i)] : Value) = .tuple #[.int .i64 0, .bool false]) := by unfold Hid; simp [caR', caB', Hhc1.out]
    go_ret2
    exact ⟨congrArg Ending.returned HV.out.symm, HB.out.trans (hc.mono HB.out.size)⟩
  | true =>
    have HSH := Lib.hid hc1
    have HG := Lib.hid (shG_ok hc1)
    have Hhc1 := Lib.hid hc1
    clear hc1
    go_wp2_with fail
    refine (impl_areCommits gr _ cs _ HG.out (Hcv.out.below (HB.out.trans (hc.mono HB.out.size)))).mono ?_
    rintro e u2 ⟨rfl, hq2⟩
    replace hc := Below.next hc hq2
    clear hq2 c0_0 c0_1 c0_2
    obtain ⟨c0_0, c0_1, c0_2⟩ := HCC.out _ hc
    cases hc2 : cmsB gr cs with
    | false =>
      have Hhc2 := Lib.hid hc2
      clear hc2
      go_wp2_with fail
      have HV : Hid ((.tuple #[.int .i64 (caR' gr cs i), .bool (caB' gr cs i)] : Value) = .tuple #[.int .i64 0, .bool false]) := by unfold Hid; simp [caR', caB', Hhc1.out, Hhc2.out]
      go_ret2
      exact ⟨congrArg Ending.returned HV.out.symm, HB.out.trans (hc.mono HB.out.size)⟩
    | true =>
      have HEL := Lib.hid (cmsB_small HG.out hc2)
      have HN : Hid (cs.length ≤ 1000) := cmsB_le hc2
      have Hhc2 := Lib.hid hc2
      clear hc2
      go_wp2_with fail
      refine (impl_within i 0 7 _).mono ?_
      rintro e u3 ⟨rfl, rfl⟩
      cases hc3 : decide (0 ≤ i ∧ i ≤ 7) with
      | false =>
        go_wp2_with fail
        have HV : Hid ((.tuple #[.int .i64 (caR' gr cs i), .bool (caB' gr cs i)] : Value) = .tuple #[.int .i64 0, .bool false]) := by unfold Hid; simp [caR', caB', Hhc1.out, Hhc2.out, hc3]
        go_ret2
        exact ⟨congrArg Ending.returned HV.out.symm, HB.out.trans (hc.mono HB.out.size)⟩
      | true =>
        have HI : Hid (0 ≤ i ∧ i ≤ 1000) := by have q := of_decide_eq_true hc3; exact ⟨by omega, by omega⟩
        go_wp2_with fail
        refine (impl_commitAt gr _ cs i _ HG.out (Hcv.out.below (HB.out.trans (hc.mono HB.out.size))) HEL.out HN.out HI.out).mono ?_
        rintro e u4 ⟨rfl, hq4⟩
        replace hc := Below.next hc hq4
        clear hq4 c0_0 c0_1 c0_2
        obtain ⟨c0_0, c0_1, c0_2⟩ := HCC.out _ hc
        go_wp2_with fail
        have HV : Hid ((.tuple #[.int .i64 (caR' gr cs i), .bool (caB' gr cs i)] : Value) = .tuple #[.int .i64 (atE gr cs i), .bool true]) := by unfold Hid; simp [caR', caB', Hhc1.out, Hhc2.out, hc3]
        go_ret2
        exact ⟨congrArg Ending.returned HV.out.symm, HB.out.trans (hc.mono HB.out.size)⟩
end Go.Proofs.Ytacpnphfopmofaa
namespace Go.Proofs.Ytacpnphfopmofaa
open Go.RowKit
set_option linter.unusedSimpArgs false
set_option linter.unusedVariables false

structure DealingD where
  c : List Int
  s : List Int
deriving DecidableEq
abbrev rDealing : RowK DealingD := rMap (rS sInts (rS sInts rNil)) (fun d => (d.c, (d.s, ())))
theorem rdDealing {w : World} {v : Value} {d : DealingD} : (kS rDealing).rd w v d ↔ ∃ a0 n0 c0 a1 n1 c1, v = .agg #[.slice a0 n0 c0, .slice a1 n1 c1] ∧ sInts.rd w (.slice a0 n0 c0) d.c ∧ sInts.rd w (.slice a1 n1 c1) d.s := by
  constructor
  · rintro ⟨_, rfl, ⟨v1, _, rfl, h2, ⟨v3, _, rfl, h4, rfl⟩⟩⟩
    obtain ⟨_, _, _, rfl⟩ := sInts.sl h2
    obtain ⟨_, _, _, rfl⟩ := sInts.sl h4
    exact ⟨_, _, _, _, _, _, rfl, h2, h4⟩
  · rintro ⟨a0, n0, c0, a1, n1, c1, rfl, g0, g1⟩
    exact ⟨_, rfl, ⟨_, _, rfl, g0, ⟨_, _, rfl, g1, rfl⟩⟩⟩
end Go.Proofs.Ytacpnphfopmofaa
namespace Go.Proofs.Ytacpnphfopmofaa
open Go.RowKit

/-- a function value that decides p on structs of a row, in every world that has grown from w -/
structure DecidesS {δ : Type} (R : RowK δ) (w : World) (g : FuncId) (caps : Array Value) (p : δ → Bool) : Prop where
  enters : ∀ args wr, (callFunc g args).run Try.prog wr = .ok (.enter g args) wr
  runs : ∀ v d wr, (kS R).rd wr v d → Below w.heap.size w wr → Calls Try.prog g (#[v] ++ caps) wr fun e w' => e = .returned (.bool (p d)) ∧ Below wr.heap.size wr w'
theorem DecidesS.below {δ : Type} {R : RowK δ} {w w' : World} {g : FuncId} {caps : Array Value} {p : δ → Bool} (h : DecidesS R w g caps p) (hb : Below w.heap.size w w') : DecidesS R w' g caps p :=
  ⟨h.enters, fun v d wr hx hr => h.runs v d wr hx (hb.trans (hr.mono hb.size))⟩
end Go.Proofs.Ytacpnphfopmofaa
namespace Go.Proofs.Ytacpnphfopmofaa
open Go.RowKit
set_option linter.unusedSimpArgs false
set_option linter.unusedVariables false

set_option maxHeartbeats 2000000 in
theorem slices_IndexFuncDealing (v : Value) (ds : List DealingD) (g : FuncId) (caps : Array Value) (p : DealingD → Bool) (w : World) (h : RdR rDealing w v ds) (hp : DecidesS rDealing w g caps p) :
    Calls Try.prog 206 #[v, .func (.func g) #[] caps] w fun e w' => (∃ r : Int, e = .returned (.int .i64 r) ∧ decide (0 ≤ r) = ds.any p) ∧ Below w.heap.size w w' := by
  obtain ⟨a, n, c, rfl⟩ := h.shape
  have e := h.len
  obtain ⟨k1, k2⟩ := h.capMax
  unfold maxLen at k2
  have HE := Lib.hid e; clear e
  have hent := hp.enters
  have HP := Lib.hid hp; clear hp
  have H := Lib.hid h; clear h
  go_enter Try.func206, Try.ntmps206
  go_wp2
  go_loopg [8] n (fun g i wr => ∃ k : Nat, k + g = n ∧ i = .int .i64 k ∧ Hid ((ds.take k).any p = false) ∧ Below w.heap.size w wr)
  case atStart => exact ⟨0, by omega, rfl, by unfold Hid; simp, Below.refl _ _⟩
  case round =>
    obtain ⟨k, hkg, rfl, HF, hb⟩ := hrel
    by_cases hlt : k < n
    · have HK : Hid (k < ds.length) := by unfold Hid; rw [HE.out]; exact hlt
      obtain ⟨b, o, rfl, hcx⟩ := H.out.at_ (by omega)
      obtain ⟨us, hcell, hrd⟩ := hcx k HK.out
      have HS : Hid ((ds.take (k + 1)).any p = ((ds.take k).any p || p (ds[k]'HK.out))) := by unfold Hid; rw [List.take_succ_eq_append_getElem HK.out, List.any_append]; simp
      have HM := Lib.hid (List.getElem_mem HK.out)
      generalize ds[k]'HK.out = d at hrd HS HM
      obtain ⟨v37, _, rfl, h38, ⟨v39, _, rfl, h40, rfl⟩⟩ := hrd
      obtain ⟨aa0, nn0, cc0, rfl⟩ := sInts.sl h38
      obtain ⟨aa1, nn1, cc1, rfl⟩ := sInts.sl h40
      have y0 : w.cell? ⟨b, o + (k * 2 + 0), none⟩ = some (.slice aa0 nn0 cc0) := hcell 0 (by decide)
      replace y0 : w.cell? ⟨b, o + k * 2, none⟩ = some (.slice aa0 nn0 cc0) := by rw [Nat.add_zero] at y0; exact y0
      have y1 : w.cell? ⟨b, o + (k * 2 + 1), none⟩ = some (.slice aa1 nn1 cc1) := hcell 1 (by decide)
      replace y1 : w.cell? ⟨b, o + k * 2 + 1, none⟩ = some (.slice aa1 nn1 cc1) := by rw [← Nat.add_assoc] at y1; exact y1
      have HR : Hid ((kS rDealing).rd wr (.agg #[.slice aa0 nn0 cc0, .slice aa1 nn1 cc1]) d) := (kS rDealing).rd_below (rdDealing.2 ⟨_, _, _, _, _, _, rfl, h38, h40⟩) hb
      replace y0 := box_at y0 hb
      replace y1 := box_at y1 hb
      clear hcell hcx h38 h40
      cases hpx : p d with
      | true =>
        have HA : Hid (decide (0 ≤ (k : Int)) = ds.any p) := by
          unfold Hid; rw [decide_eq_true (by omega), eq_comm, List.any_eq_true]; exact ⟨_, HM.out, hpx⟩
        have HX := Lib.hid hpx
        clear hpx
        go_wp2_with fail
        refine (HP.out.runs _ _ _ HR.out hb).mono ?_
        rintro e w1 ⟨rfl, hb1⟩
        rw [HX.out]
        go_wp2_with fail
        go_ret
        exact ⟨⟨_, rfl, HA.out⟩, hb.trans (hb1.mono hb.size)⟩
      | false =>
        have HX := Lib.hid hpx
        clear hpx
        go_wp2_with fail
        refine (HP.out.runs _ _ _ HR.out hb).mono ?_
        rintro e w1 ⟨rfl, hb1⟩
        rw [HX.out]
        go_wp2_with fail
        go_roundg (n - (k + 1))
        case measure => omega
        case rel => exact ⟨k + 1, by omega, by go_num, by unfold Hid; rw [HS.out, HF.out, HX.out]; rfl, hb.trans (hb1.mono hb.size)⟩
    · obtain rfl : n = k := by omega
      have HA : Hid (decide (0 ≤ (-1 : Int)) = ds.any p) := by
        have := HF.out
        rw [List.take_of_length_le (by rw [HE.out]; exact Nat.le_refl _)] at this
        unfold Hid; rw [this]; rfl
      go_wp2_with fail
      go_ret
      exact ⟨⟨_, rfl, HA.out⟩, hb⟩
theorem slices_ContainsFuncDealing (v : Value) (ds : List DealingD) (g : FuncId) (caps : Array Value) (p : DealingD → Bool) (w : World) (h : RdR rDealing w v ds) (hp : DecidesS rDealing w g caps p) :
    Calls Try.prog 176 #[v, .func (.func g) #[] caps] w fun e w' => e = .returned (.bool (ds.any p)) ∧ Below w.heap.size w w' := by
  have HP := Lib.hid hp; clear hp
  have H := Lib.hid h; clear h
  go_enter Try.func176, Try.ntmps176
  go_wp2_with fail
  refine (slices_IndexFuncDealing v ds g caps p _ H.out HP.out).mono ?_
  rintro e w1 ⟨⟨r, rfl, hr⟩, hb⟩
  have HR := Lib.hid hr; clear hr
  go_wp2_with fail
  go_ret
  exact ⟨ret_bool (by first | (rw [HR.out]; done) | (rw [HR.out]; rfl) | exact HR.out.symm), hb⟩
end Go.Proofs.Ytacpnphfopmofaa
