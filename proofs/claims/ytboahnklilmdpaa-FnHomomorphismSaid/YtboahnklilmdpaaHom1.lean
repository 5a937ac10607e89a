/- Ciphertexts: exponents found, sums: walks (printed by gen_hom1.py). -/
import Derived.Test.YtboahnklilmdpaaCip8
namespace Go.Proofs.Ytboahnklilmdpaa
open Go.RowKit
set_option linter.unusedSimpArgs false
set_option linter.unusedVariables false

theorem deB_parts {gr : GroupD} {s : Int} {c : CipherD} (h : deB gr s c = true) : goodG gr = true ∧ expB gr s = true ∧ ciB gr c = true := by
  unfold deB at h
  simp only [Bool.and_eq_true] at h
  exact ⟨h.1, h.2.1, h.2.2⟩
theorem deR_i64 (gr : GroupD) (s : Int) (c : CipherD) : I64 (deR gr s c) := by
  unfold deR
  split
  · rename_i h
    exact small_64 (deC_small (goodG_ok (deB_parts h).1) s c)
  · exact ⟨by decide, by decide⟩
theorem elB_deC {gr : GroupD} (hgd : goodG gr = true) {s : Int} {c : CipherD} (hc : ciB gr c = true) : elB gr (deC gr s c) = true := by
  have hg := goodG_ok hgd
  unfold ciB at hc
  rw [Bool.and_eq_true] at hc
  exact elB_mul hg hc.2 (elB_powE hg (elB_powE hg hc.1 s) (-1))
theorem deR_eq {gr : GroupD} {s : Int} {c : CipherD} (h : deB gr s c = true) : deR gr s c = deC gr s c := by unfold deR; rw [if_pos h]
noncomputable def dyB (gr : GroupD) (s : Int) (c : CipherD) (m : Int) : Bool := deB gr s c && loB gr gr.g (deR gr s c) m
noncomputable def dyR (gr : GroupD) (s : Int) (c : CipherD) (m : Int) : Int := if deB gr s c = true then loR gr gr.g (deR gr s c) m else 0
theorem loA_de {gr : GroupD} {s : Int} {c : CipherD} {m : Int} (h : deB gr s c = true) : loA gr gr.g (deR gr s c) m = decide (0 ≤ m ∧ m ≤ 1000000) := by
  obtain ⟨h1, h2, h3⟩ := deB_parts h
  unfold loA
  rw [h1, elB_gen h1, deR_eq h, elB_deC h1 h3]; rfl
theorem spec_gLogR (gr : GroupD) (b x m : Int) (w : World) (hgd : goodG gr = true) (hel : elB gr b = true) (hx : elB gr x = true) (hm : 0 ≤ m ∧ m ≤ 1000000) :
    Calls Try.prog 163 #[.agg #[.int .i64 gr.p, .int .i64 gr.q, .int .i64 gr.g], .int .i64 b, .int .i64 x, .int .i64 m] w fun e w' => e = .returned (.tuple #[.int .i64 (loR gr b x m), .bool (loB gr b x m)]) ∧ Below w.heap.size w w' := by
  refine (spec_gLog gr b x m w (goodG_ok hgd) hel hm).mono ?_
  rintro e w' ⟨rfl, hb⟩
  have hA : loA gr b x m = true := by unfold loA; rw [hgd, hel, hx, decide_eq_true hm]; rfl
  refine ⟨?_, hb⟩
  unfold loR loB
  rw [hA, Bool.true_and]
  simp
noncomputable def csB (gr : GroupD) (l : List CipherD) : Bool := decide (0 < l.length) && mcB gr l
noncomputable def csR (gr : GroupD) (l : List CipherD) : CipherD := if 0 < l.length then mcR gr l else ⟨0, 0⟩
set_option maxRecDepth 100000 in
set_option maxHeartbeats 2000000 in
theorem impl_DecryptExp (gr : GroupD) (s0 : Int) (c : CipherD) (m0 : Int) (w : World) (jc : SmallCI c) (hs : I64 s0) :
    Calls Try.prog 40 #[.agg #[.int .i64 gr.p, .int .i64 gr.q, .int .i64 gr.g], .int .i64 s0, .agg #[.int .i64 c.a, .int .i64 c.b], .int .i64 m0] w fun e w' => e = .returned (.tuple #[.int .i64 (dyR gr s0 c m0), .bool (dyB gr s0 c m0)]) ∧ Below w.heap.size w w' := by
  cases hc1 : deB gr s0 c with
  | false =>
    have HV : Hid ((.tuple #[.int .i64 (dyR gr s0 c m0), .bool (dyB gr s0 c m0)] : Value) = .tuple #[.int .i64 0, .bool false]) := by unfold Hid; simp [dyR, dyB, hc1]
    rw [HV.out]
    have Hhc1 := Lib.hid hc1
    clear hc1
    obtain ⟨W, hW⟩ : ∃ W, W = (w.alloc (.cells #[.int .i64 gr.p, .int .i64 gr.q, .int .i64 gr.g] 39)).alloc (.cells #[.int .i64 c.a, .int .i64 c.b] 58) := ⟨_, rfl⟩
    have HB : Hid (Below w.heap.size w W) := by unfold Hid; rw [hW]; (repeat (first | exact Below.refl _ _ | assumption | refine Below.drew ?_ | refine Below.alloc ?_ (by first | (simp; done) | (simp; omega)) _ | refine Below.setCell ?_ (by first | (simp; done) | (simp; omega)) _))
    have c0_0 : W.cell? ⟨w.heap.size, 0, none⟩ = some (.int .i64 gr.p) := by rw [hW]; simp [go_sem]
    have c0_1 : W.cell? ⟨w.heap.size, 1, none⟩ = some (.int .i64 gr.q) := by rw [hW]; simp [go_sem]
    have c0_2 : W.cell? ⟨w.heap.size, 2, none⟩ = some (.int .i64 gr.g) := by rw [hW]; simp [go_sem]
    have c1_0 : W.cell? ⟨w.heap.size + 1, 0, none⟩ = some (.int .i64 c.a) := by rw [hW]; simp [go_sem]
    have c1_1 : W.cell? ⟨w.heap.size + 1, 1, none⟩ = some (.int .i64 c.b) := by rw [hW]; simp [go_sem]
    have HSW : Hid (W.heap.size = w.heap.size + 2) := by unfold Hid; rw [hW]; simp
    go_enter Try.func40, Try.ntmps40
    go_wp2_with fail
    rw [← hW]
    clear hW
    have hc : Below W.heap.size W W := Below.refl _ _
    go_wp2_with fail
    refine (impl_DecryptElement gr s0 c _ jc hs).mono ?_
    rintro e u1 ⟨rfl, hq1⟩
    replace hc := Below.next hc hq1
    replace c0_0 := box_at c0_0 hq1
    replace c0_1 := box_at c0_1 hq1
    replace c0_2 := box_at c0_2 hq1
    replace c1_0 := box_at c1_0 hq1
    replace c1_1 := box_at c1_1 hq1
    clear hq1
    rw [Hhc1.out]
    go_wp2_with fail
    go_ret2
    exact ⟨rfl, HB.out.trans (hc.mono HB.out.size)⟩
  | true =>
    have HGD := Lib.hid (deB_parts hc1).1
    have HG := Lib.hid (goodG_ok HGD.out)
    have HDE := Lib.hid hc1
    have HEX : Hid (elB gr (deR gr s0 c) = true) := by unfold Hid; rw [deR_eq hc1]; exact elB_deC HGD.out (deB_parts hc1).2.2
    have hg1 := HG.out.g1
    have hg2 := HG.out.g2
    have hp2 := HG.out.p2
    have HLA := Lib.hid (loA_de (m := m0) hc1)
    have HV : Hid ((.tuple #[.int .i64 (dyR gr s0 c m0), .bool (dyB gr s0 c m0)] : Value) = .tuple #[.int .i64 (loR gr gr.g (deR gr s0 c) m0), .bool (loB gr gr.g (deR gr s0 c) m0)]) := by unfold Hid; simp [dyR, dyB, hc1]
    rw [HV.out]
    have Hhc1 := Lib.hid hc1
    clear hc1
    obtain ⟨W, hW⟩ : ∃ W, W = (w.alloc (.cells #[.int .i64 gr.p, .int .i64 gr.q, .int .i64 gr.g] 39)).alloc (.cells #[.int .i64 c.a, .int .i64 c.b] 58) := ⟨_, rfl⟩
    have HB : Hid (Below w.heap.size w W) := by unfold Hid; rw [hW]; (repeat (first | exact Below.refl _ _ | assumption | refine Below.drew ?_ | refine Below.alloc ?_ (by first | (simp; done) | (simp; omega)) _ | refine Below.setCell ?_ (by first | (simp; done) | (simp; omega)) _))
    have c0_0 : W.cell? ⟨w.heap.size, 0, none⟩ = some (.int .i64 gr.p) := by rw [hW]; simp [go_sem]
    have c0_1 : W.cell? ⟨w.heap.size, 1, none⟩ = some (.int .i64 gr.q) := by rw [hW]; simp [go_sem]
    have c0_2 : W.cell? ⟨w.heap.size, 2, none⟩ = some (.int .i64 gr.g) := by rw [hW]; simp [go_sem]
    have c1_0 : W.cell? ⟨w.heap.size + 1, 0, none⟩ = some (.int .i64 c.a) := by rw [hW]; simp [go_sem]
    have c1_1 : W.cell? ⟨w.heap.size + 1, 1, none⟩ = some (.int .i64 c.b) := by rw [hW]; simp [go_sem]
    have HSW : Hid (W.heap.size = w.heap.size + 2) := by unfold Hid; rw [hW]; simp
    go_enter Try.func40, Try.ntmps40
    go_wp2_with fail
    rw [← hW]
    clear hW
    have hc : Below W.heap.size W W := Below.refl _ _
    go_wp2_with fail
    refine (impl_DecryptElement gr s0 c _ jc hs).mono ?_
    rintro e u1 ⟨rfl, hq1⟩
    replace hc := Below.next hc hq1
    replace c0_0 := box_at c0_0 hq1
    replace c0_1 := box_at c0_1 hq1
    replace c0_2 := box_at c0_2 hq1
    replace c1_0 := box_at c1_0 hq1
    replace c1_1 := box_at c1_1 hq1
    clear hq1
    rw [Hhc1.out]
    go_wp2_with fail
    refine (impl_LogOf gr gr.g (deR gr s0 c) m0 _ ⟨by omega, by omega⟩ (deR_i64 _ _ _)).mono ?_
    rintro e u2 ⟨rfl, hq2⟩
    replace hc := Below.next hc hq2
    replace c0_0 := box_at c0_0 hq2
    replace c0_1 := box_at c0_1 hq2
    replace c0_2 := box_at c0_2 hq2
    replace c1_0 := box_at c1_0 hq2
    replace c1_1 := box_at c1_1 hq2
    clear hq2
    go_wp2_with fail
    go_ret2
    exact ⟨rfl, HB.out.trans (hc.mono HB.out.size)⟩
set_option maxRecDepth 100000 in
set_option maxHeartbeats 2000000 in
theorem spec_DecryptExp (gr : GroupD) (s0 : Int) (c : CipherD) (m0 : Int) (w : World) (jc : SmallCI c) (hs : I64 s0) :
    Calls Try.prog 41 #[.agg #[.int .i64 gr.p, .int .i64 gr.q, .int .i64 gr.g], .int .i64 s0, .agg #[.int .i64 c.a, .int .i64 c.b], .int .i64 m0] w fun e w' => e = .returned (.tuple #[.int .i64 (dyR gr s0 c m0), .bool (dyB gr s0 c m0)]) ∧ Below w.heap.size w w' := by
  cases hc1 : deB gr s0 c with
  | false =>
    have HV : Hid ((.tuple #[.int .i64 (dyR gr s0 c m0), .bool (dyB gr s0 c m0)] : Value) = .tuple #[.int .i64 0, .bool false]) := by unfold Hid; simp [dyR, dyB, hc1]
    rw [HV.out]
    have Hhc1 := Lib.hid hc1
    clear hc1
    obtain ⟨W, hW⟩ : ∃ W, W = (w.alloc (.cells #[.int .i64 gr.p, .int .i64 gr.q, .int .i64 gr.g] 39)).alloc (.cells #[.int .i64 c.a, .int .i64 c.b] 58) := ⟨_, rfl⟩
    have HB : Hid (Below w.heap.size w W) := by unfold Hid; rw [hW]; (repeat (first | exact Below.refl _ _ | assumption | refine Below.drew ?_ | refine Below.alloc ?_ (by first | (simp; done) | (simp; omega)) _ | refine Below.setCell ?_ (by first | (simp; done) | (simp; omega)) _))
    have c0_0 : W.cell? ⟨w.heap.size, 0, none⟩ = some (.int .i64 gr.p) := by rw [hW]; simp [go_sem]
    have c0_1 : W.cell? ⟨w.heap.size, 1, none⟩ = some (.int .i64 gr.q) := by rw [hW]; simp [go_sem]
    have c0_2 : W.cell? ⟨w.heap.size, 2, none⟩ = some (.int .i64 gr.g) := by rw [hW]; simp [go_sem]
    have c1_0 : W.cell? ⟨w.heap.size + 1, 0, none⟩ = some (.int .i64 c.a) := by rw [hW]; simp [go_sem]
    have c1_1 : W.cell? ⟨w.heap.size + 1, 1, none⟩ = some (.int .i64 c.b) := by rw [hW]; simp [go_sem]
    have HSW : Hid (W.heap.size = w.heap.size + 2) := by unfold Hid; rw [hW]; simp
    go_enter Try.func41, Try.ntmps41
    go_wp2_with fail
    rw [← hW]
    clear hW
    have hc : Below W.heap.size W W := Below.refl _ _
    go_wp2_with fail
    refine (spec_DecryptElement gr s0 c _ jc hs).mono ?_
    rintro e u1 ⟨rfl, hq1⟩
    replace hc := Below.next hc hq1
    replace c0_0 := box_at c0_0 hq1
    replace c0_1 := box_at c0_1 hq1
    replace c0_2 := box_at c0_2 hq1
    replace c1_0 := box_at c1_0 hq1
    replace c1_1 := box_at c1_1 hq1
    clear hq1
    rw [Hhc1.out]
    go_wp2_with fail
    go_ret2
    exact ⟨rfl, HB.out.trans (hc.mono HB.out.size)⟩
  | true =>
    have HGD := Lib.hid (deB_parts hc1).1
    have HG := Lib.hid (goodG_ok HGD.out)
    have HDE := Lib.hid hc1
    have HEX : Hid (elB gr (deR gr s0 c) = true) := by unfold Hid; rw [deR_eq hc1]; exact elB_deC HGD.out (deB_parts hc1).2.2
    have hg1 := HG.out.g1
    have hg2 := HG.out.g2
    have hp2 := HG.out.p2
    have HLA := Lib.hid (loA_de (m := m0) hc1)
    cases hc2 : decide (0 ≤ m0 ∧ m0 ≤ 1000000) with
    | false =>
      have HLB : Hid (loB gr gr.g (deR gr s0 c) m0 = false) := by unfold Hid loB; rw [HLA.out, hc2]; rfl
      have HLR : Hid (loR gr gr.g (deR gr s0 c) m0 = 0) := by unfold Hid loR; rw [HLB.out]; rfl
      have HV : Hid ((.tuple #[.int .i64 (dyR gr s0 c m0), .bool (dyB gr s0 c m0)] : Value) = .tuple #[.int .i64 0, .bool false]) := by unfold Hid; simp [dyR, dyB, hc1, hc2, HLB.out, HLR.out]
      rw [HV.out]
      have Hhc1 := Lib.hid hc1
      clear hc1
      obtain ⟨W, hW⟩ : ∃ W, W = (w.alloc (.cells #[.int .i64 gr.p, .int .i64 gr.q, .int .i64 gr.g] 39)).alloc (.cells #[.int .i64 c.a, .int .i64 c.b] 58) := ⟨_, rfl⟩
      have HB : Hid (Below w.heap.size w W) := by unfold Hid; rw [hW]; (repeat (first | exact Below.refl _ _ | assumption | refine Below.drew ?_ | refine Below.alloc ?_ (by first | (simp; done) | (simp; omega)) _ | refine Below.setCell ?_ (by first | (simp; done) | (simp; omega)) _))
      have c0_0 : W.cell? ⟨w.heap.size, 0, none⟩ = some (.int .i64 gr.p) := by rw [hW]; simp [go_sem]
      have c0_1 : W.cell? ⟨w.heap.size, 1, none⟩ = some (.int .i64 gr.q) := by rw [hW]; simp [go_sem]
      have c0_2 : W.cell? ⟨w.heap.size, 2, none⟩ = some (.int .i64 gr.g) := by rw [hW]; simp [go_sem]
      have c1_0 : W.cell? ⟨w.heap.size + 1, 0, none⟩ = some (.int .i64 c.a) := by rw [hW]; simp [go_sem]
      have c1_1 : W.cell? ⟨w.heap.size + 1, 1, none⟩ = some (.int .i64 c.b) := by rw [hW]; simp [go_sem]
      have HSW : Hid (W.heap.size = w.heap.size + 2) := by unfold Hid; rw [hW]; simp
      go_enter Try.func41, Try.ntmps41
      go_wp2_with fail
      rw [← hW]
      clear hW
      have hc : Below W.heap.size W W := Below.refl _ _
      go_wp2_with fail
      refine (spec_DecryptElement gr s0 c _ jc hs).mono ?_
      rintro e u1 ⟨rfl, hq1⟩
      replace hc := Below.next hc hq1
      replace c0_0 := box_at c0_0 hq1
      replace c0_1 := box_at c0_1 hq1
      replace c0_2 := box_at c0_2 hq1
      replace c1_0 := box_at c1_0 hq1
      replace c1_1 := box_at c1_1 hq1
      clear hq1
      rw [Hhc1.out]
      go_wp2_with fail
      refine (spec_l1In m0 0 1000000 _).mono ?_
      rintro e u2 ⟨rfl, rfl⟩
      rw [hc2]
      go_wp2_with fail
      go_ret2
      exact ⟨rfl, HB.out.trans (hc.mono HB.out.size)⟩
    | true =>
      have HLB := Lib.hid (rfl : (0 : Nat) = 0)
      have HLR := HLB
      have HM : Hid (0 ≤ m0 ∧ m0 ≤ 1000000) := by unfold Hid; exact of_decide_eq_true hc2
      have HV : Hid ((.tuple #[.int .i64 (dyR gr s0 c m0), .bool (dyB gr s0 c m0)] : Value) = .tuple #[.int .i64 (loR gr gr.g (deR gr s0 c) m0), .bool (loB gr gr.g (deR gr s0 c) m0)]) := by unfold Hid; simp [dyR, dyB, hc1, hc2, HLB.out, HLR.out]
      rw [HV.out]
      have Hhc1 := Lib.hid hc1
      clear hc1
      obtain ⟨W, hW⟩ : ∃ W, W = (w.alloc (.cells #[.int .i64 gr.p, .int .i64 gr.q, .int .i64 gr.g] 39)).alloc (.cells #[.int .i64 c.a, .int .i64 c.b] 58) := ⟨_, rfl⟩
      have HB : Hid (Below w.heap.size w W) := by unfold Hid; rw [hW]; (repeat (first | exact Below.refl _ _ | assumption | refine Below.drew ?_ | refine Below.alloc ?_ (by first | (simp; done) | (simp; omega)) _ | refine Below.setCell ?_ (by first | (simp; done) | (simp; omega)) _))
      have c0_0 : W.cell? ⟨w.heap.size, 0, none⟩ = some (.int .i64 gr.p) := by rw [hW]; simp [go_sem]
      have c0_1 : W.cell? ⟨w.heap.size, 1, none⟩ = some (.int .i64 gr.q) := by rw [hW]; simp [go_sem]
      have c0_2 : W.cell? ⟨w.heap.size, 2, none⟩ = some (.int .i64 gr.g) := by rw [hW]; simp [go_sem]
      have c1_0 : W.cell? ⟨w.heap.size + 1, 0, none⟩ = some (.int .i64 c.a) := by rw [hW]; simp [go_sem]
      have c1_1 : W.cell? ⟨w.heap.size + 1, 1, none⟩ = some (.int .i64 c.b) := by rw [hW]; simp [go_sem]
      have HSW : Hid (W.heap.size = w.heap.size + 2) := by unfold Hid; rw [hW]; simp
      go_enter Try.func41, Try.ntmps41
      go_wp2_with fail
      rw [← hW]
      clear hW
      have hc : Below W.heap.size W W := Below.refl _ _
      go_wp2_with fail
      refine (spec_DecryptElement gr s0 c _ jc hs).mono ?_
      rintro e u1 ⟨rfl, hq1⟩
      replace hc := Below.next hc hq1
      replace c0_0 := box_at c0_0 hq1
      replace c0_1 := box_at c0_1 hq1
      replace c0_2 := box_at c0_2 hq1
      replace c1_0 := box_at c1_0 hq1
      replace c1_1 := box_at c1_1 hq1
      clear hq1
      rw [Hhc1.out]
      go_wp2_with fail
      refine (spec_l1In m0 0 1000000 _).mono ?_
      rintro e u2 ⟨rfl, rfl⟩
      rw [hc2]
      go_wp2_with fail
      refine (spec_gLogR gr gr.g (deR gr s0 c) m0 _ HGD.out (elB_gen HGD.out) HEX.out HM.out).mono ?_
      rintro e u3 ⟨rfl, hq3⟩
      replace hc := Below.next hc hq3
      replace c0_0 := box_at c0_0 hq3
      replace c0_1 := box_at c0_1 hq3
      replace c0_2 := box_at c0_2 hq3
      replace c1_0 := box_at c1_0 hq3
      replace c1_1 := box_at c1_1 hq3
      clear hq3
      go_wp2_with fail
      go_ret2
      exact ⟨rfl, HB.out.trans (hc.mono HB.out.size)⟩
set_option maxRecDepth 100000 in
set_option maxHeartbeats 2000000 in
theorem impl_CipherSum (gr : GroupD) (v : Value) (l : List CipherD) (w : World) (h : RdR rCipher w v l) :
    Calls Try.prog 46 #[.agg #[.int .i64 gr.p, .int .i64 gr.q, .int .i64 gr.g], v] w fun e w' => e = .returned (.tuple #[.agg #[.int .i64 (csR gr l).a, .int .i64 (csR gr l).b], .bool (csB gr l)]) ∧ Below w.heap.size w w' := by
  obtain ⟨va, vn, vc, rfl⟩ := h.shape
  have Ev := Lib.hid h.len
  have Kv := Lib.hid h.capMax
  have Hv := Lib.hid h
  clear h
  cases hc1 : ((vn : Int) == 0) with
  | false =>
    have HL0 : Hid (0 < l.length) := by have e1 := Ev.out; have q : ¬ (vn : Int) = 0 := (by simpa using hc1); unfold Hid; omega
    have HV : Hid ((.tuple #[.agg #[.int .i64 (csR gr l).a, .int .i64 (csR gr l).b], .bool (csB gr l)] : Value) = .tuple #[.agg #[.int .i64 ((mcR gr l).a), .int .i64 ((mcR gr l).b)], .bool (mcB gr l)]) := by unfold Hid; simp [csR, csB, hc1, HL0.out]
    rw [HV.out]
    obtain ⟨W, hW⟩ : ∃ W, W = (w.alloc (.cells #[.int .i64 gr.p, .int .i64 gr.q, .int .i64 gr.g] 39)).alloc (.cells #[.int .i64 0, .int .i64 0] 58) := ⟨_, rfl⟩
    have HB : Hid (Below w.heap.size w W) := by unfold Hid; rw [hW]; (repeat (first | exact Below.refl _ _ | assumption | refine Below.drew ?_ | refine Below.alloc ?_ (by first | (simp; done) | (simp; omega)) _ | refine Below.setCell ?_ (by first | (simp; done) | (simp; omega)) _))
    have c0_0 : W.cell? ⟨w.heap.size, 0, none⟩ = some (.int .i64 gr.p) := by rw [hW]; simp [go_sem]
    have c0_1 : W.cell? ⟨w.heap.size, 1, none⟩ = some (.int .i64 gr.q) := by rw [hW]; simp [go_sem]
    have c0_2 : W.cell? ⟨w.heap.size, 2, none⟩ = some (.int .i64 gr.g) := by rw [hW]; simp [go_sem]
    have c1_0x : W.cell? ⟨w.heap.size + 1, 0, none⟩ = some (.int .i64 0) := by rw [hW]; simp [go_sem]
    have c1_1x : W.cell? ⟨w.heap.size + 1, 1, none⟩ = some (.int .i64 0) := by rw [hW]; simp [go_sem]
    have HR1 : Hid (BoxN W (w.heap.size + 1) 58 [.int .i64 0, .int .i64 0]) := by unfold Hid; rw [hW]; have h := (BoxN.new (w.alloc (.cells #[.int .i64 gr.p, .int .i64 gr.q, .int .i64 gr.g] 39)) [.int .i64 0, .int .i64 0] 58); simpa using h
    have HSW : Hid (W.heap.size = w.heap.size + 2) := by unfold Hid; rw [hW]; simp
    have lr1 : w.heap.size + 1 < W.heap.size := by have := HSW.out; omega
    clear c1_0x
    clear c1_1x
    go_enter Try.func46, Try.ntmps46
    go_wp2_with fail
    rw [← hW]
    clear hW
    have hc : Below W.heap.size W W := Below.refl _ _
    go_wp2_with fail
    refine (impl_MulCiphers gr _ l _ (Hv.out.below (HB.out.trans (hc.mono HB.out.size)))).mono ?_
    rintro e u1 ⟨rfl, hq1⟩
    replace hc := Below.next hc hq1
    replace c0_0 := box_at c0_0 hq1
    replace c0_1 := box_at c0_1 hq1
    replace c0_2 := box_at c0_2 hq1
    clear hq1
    have HRE1 := Lib.hid (HR1.out.below hc)
    clear HR1
    have HBE := Lib.hid (HB.out.trans (hc.mono HB.out.size))
    have r1_0 := HRE1.out.cell (i := 0) rfl
    have r1_1 := HRE1.out.cell (i := 1) rfl
    have fr1 := fun j => HRE1.out.frozen j
    go_wp2_with fail
    have HRF := Lib.hid ((HRE1.out.set 0 (.int .i64 ((mcR gr l).a))).set 1 (.int .i64 ((mcR gr l).b)))
    have HBF := Lib.hid ((HBE.out.setCell (p := ⟨w.heap.size + 1, 0, none⟩) (by show w.heap.size ≤ w.heap.size + 1; omega) (.int .i64 ((mcR gr l).a))).setCell (p := ⟨w.heap.size + 1, 1, none⟩) (by show w.heap.size ≤ w.heap.size + 1; omega) (.int .i64 ((mcR gr l).b)))
    clear r1_0 r1_1 fr1
    have r1_0 := HRF.out.cell (i := 0) rfl
    have r1_1 := HRF.out.cell (i := 1) rfl
    try (go_wp2_with fail)
    refine bodyPost_ret (v := .tuple #[.agg #[.int .i64 ((mcR gr l).a), .int .i64 ((mcR gr l).b)], .bool (mcB gr l)]) (by simp [results, Try.results46, go_sem, r1_0, r1_1]) rfl ⟨rfl, HBF.out⟩
  | true =>
    have HL0 : Hid (¬ 0 < l.length) := by have e1 := Ev.out; have q : (vn : Int) = 0 := (by simpa using hc1); unfold Hid; omega
    have HV : Hid ((.tuple #[.agg #[.int .i64 (csR gr l).a, .int .i64 (csR gr l).b], .bool (csB gr l)] : Value) = .tuple #[.agg #[.int .i64 0, .int .i64 0], .bool false]) := by unfold Hid; simp [csR, csB, hc1, HL0.out]
    rw [HV.out]
    go_enter Try.func46, Try.ntmps46
    go_wp2_with fail
    refine bodyPost_ret (v := .tuple #[.agg #[.int .i64 0, .int .i64 0], .bool false]) (by simp [results, Try.results46, go_sem]) rfl ⟨rfl, by (repeat (first | exact Below.refl _ _ | assumption | refine Below.drew ?_ | refine Below.alloc ?_ (by first | (simp; done) | (simp; omega)) _ | refine Below.setCell ?_ (by first | (simp; done) | (simp; omega)) _))⟩
end Go.Proofs.Ytboahnklilmdpaa
