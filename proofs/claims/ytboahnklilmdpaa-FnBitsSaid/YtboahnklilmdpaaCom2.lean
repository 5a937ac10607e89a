/- Commitments: valid bases, commitments checked: walks (printed by gen_com2.py). -/
import Derived.Test.YtboahnklilmdpaaCom1
import Derived.Test.YtboahnklilmdpaaBm
namespace Go.Proofs.Ytboahnklilmdpaa
open Go.RowKit
set_option linter.unusedSimpArgs false
set_option linter.unusedVariables false

/-- valid bases, but for the group -/
def hbB (gr : GroupD) (bh : Int) (bl : List Int) : Bool := (bh != 1) && (elB gr bh && (decide (bl.length ≤ 24) && ((!decide (1 ∈ bl)) && bl.all (elB gr))))
noncomputable def baB (gr : GroupD) (bh : Int) (bl : List Int) : Bool := goodG gr && hbB gr bh bl
noncomputable def cmB (gr : GroupD) (bh : Int) (bl : List Int) (m r : Int) : Bool := baB gr bh bl && (expB gr m && expB gr r)
noncomputable def cmR (gr : GroupD) (bh : Int) (bl : List Int) (m r : Int) : Int := if cmB gr bh bl m r = true then coM gr bh m r else 0
noncomputable def coB (gr : GroupD) (bh : Int) (bl : List Int) (c m r : Int) : Bool := cmB gr bh bl m r && elB gr c
noncomputable def coR (gr : GroupD) (bh : Int) (bl : List Int) (c m r : Int) : Bool := coB gr bh bl c m r && (cmR gr bh bl m r == c)
theorem baB_parts {gr : GroupD} {bh : Int} {bl : List Int} (h : baB gr bh bl = true) : goodG gr = true ∧ elB gr bh = true ∧ bh ≠ 1 ∧ bl.length ≤ 24 ∧ bl.all (elB gr) = true := by
  unfold baB hbB at h
  simp only [Bool.and_eq_true, bne_iff_ne, decide_eq_true_iff] at h
  exact ⟨h.1, h.2.2.1, h.2.1, h.2.2.2.1, h.2.2.2.2.2⟩
set_option maxRecDepth 100000 in
set_option maxHeartbeats 2000000 in
theorem spec_l9Good (gr : GroupD) (bh : Int) (bv : Value) (bl : List Int) (w : World) (hb : Ints w bv bl) (ibh : I64 bh) :
    Calls Try.prog 172 #[.agg #[.int .i64 gr.p, .int .i64 gr.q, .int .i64 gr.g], .agg #[.int .i64 bh, bv]] w fun e w' => e = .returned (.bool (baB gr bh bl)) ∧ Below w.heap.size w w' := by
  obtain ⟨bva, bvn, bvc, rfl⟩ := hb.shape
  have Ebv := Lib.hid hb.len
  have Kbv := Lib.hid hb.capMax
  have Hbv := Lib.hid hb
  clear hb
  cases hc1 : goodG gr with
  | false =>
    have HV : Hid ((.bool (baB gr bh bl) : Value) = .bool false) := by unfold Hid; simp [baB, hbB, hc1]
    rw [HV.out]
    have Hhc1 := Lib.hid hc1
    clear hc1
    obtain ⟨W, hW⟩ : ∃ W, W = (w.alloc (.cells #[.int .i64 gr.p, .int .i64 gr.q, .int .i64 gr.g] 39)).alloc (.cells #[.int .i64 bh, (.slice bva bvn bvc)] 79) := ⟨_, rfl⟩
    have HB : Hid (Below w.heap.size w W) := by unfold Hid; rw [hW]; (repeat (first | exact Below.refl _ _ | assumption | refine Below.drew ?_ | refine Below.alloc ?_ (by first | (simp; done) | (simp; omega)) _ | refine Below.setCell ?_ (by first | (simp; done) | (simp; omega)) _))
    have c0_0 : W.cell? ⟨w.heap.size, 0, none⟩ = some (.int .i64 gr.p) := by rw [hW]; simp [go_sem]
    have c0_1 : W.cell? ⟨w.heap.size, 1, none⟩ = some (.int .i64 gr.q) := by rw [hW]; simp [go_sem]
    have c0_2 : W.cell? ⟨w.heap.size, 2, none⟩ = some (.int .i64 gr.g) := by rw [hW]; simp [go_sem]
    have c1_0 : W.cell? ⟨w.heap.size + 1, 0, none⟩ = some (.int .i64 bh) := by rw [hW]; simp [go_sem]
    have c1_1 : W.cell? ⟨w.heap.size + 1, 1, none⟩ = some ((.slice bva bvn bvc)) := by rw [hW]; simp [go_sem]
    have HSW : Hid (W.heap.size = w.heap.size + 2) := by unfold Hid; rw [hW]; simp
    go_enter Try.func172, Try.ntmps172
    go_wp2_with fail
    rw [← hW]
    clear hW
    have hc : Below W.heap.size W W := Below.refl _ _
    go_wp2_with fail
    refine (spec_l2Good gr _).mono ?_
    rintro e u1 ⟨rfl, hq1⟩
    replace hc := Below.next hc hq1
    replace c0_0 := box_at c0_0 hq1
    replace c0_1 := box_at c0_1 hq1
    replace c0_2 := box_at c0_2 hq1
    replace c1_0 := box_at c1_0 hq1
    replace c1_1 := box_at c1_1 hq1
    clear hq1
    rw [Hhc1.out]
    go_wp2_with fail
    go_ret
    exact ⟨rfl, HB.out.trans (hc.mono HB.out.size)⟩
  | true =>
    have HG := Lib.hid (goodG_ok hc1)
    cases hc2 : (bh != 1) with
    | false =>
      have HV : Hid ((.bool (baB gr bh bl) : Value) = .bool false) := by unfold Hid; simp [baB, hbB, hc1, hc2]
      rw [HV.out]
      have Hhc1 := Lib.hid hc1
      clear hc1
      obtain ⟨W, hW⟩ : ∃ W, W = (w.alloc (.cells #[.int .i64 gr.p, .int .i64 gr.q, .int .i64 gr.g] 39)).alloc (.cells #[.int .i64 bh, (.slice bva bvn bvc)] 79) := ⟨_, rfl⟩
      have HB : Hid (Below w.heap.size w W) := by unfold Hid; rw [hW]; (repeat (first | exact Below.refl _ _ | assumption | refine Below.drew ?_ | refine Below.alloc ?_ (by first | (simp; done) | (simp; omega)) _ | refine Below.setCell ?_ (by first | (simp; done) | (simp; omega)) _))
      have c0_0 : W.cell? ⟨w.heap.size, 0, none⟩ = some (.int .i64 gr.p) := by rw [hW]; simp [go_sem]
      have c0_1 : W.cell? ⟨w.heap.size, 1, none⟩ = some (.int .i64 gr.q) := by rw [hW]; simp [go_sem]
      have c0_2 : W.cell? ⟨w.heap.size, 2, none⟩ = some (.int .i64 gr.g) := by rw [hW]; simp [go_sem]
      have c1_0 : W.cell? ⟨w.heap.size + 1, 0, none⟩ = some (.int .i64 bh) := by rw [hW]; simp [go_sem]
      have c1_1 : W.cell? ⟨w.heap.size + 1, 1, none⟩ = some ((.slice bva bvn bvc)) := by rw [hW]; simp [go_sem]
      have HSW : Hid (W.heap.size = w.heap.size + 2) := by unfold Hid; rw [hW]; simp
      go_enter Try.func172, Try.ntmps172
      go_wp2_with fail
      rw [← hW]
      clear hW
      have hc : Below W.heap.size W W := Below.refl _ _
      go_wp2_with fail
      refine (spec_l2Good gr _).mono ?_
      rintro e u1 ⟨rfl, hq1⟩
      replace hc := Below.next hc hq1
      replace c0_0 := box_at c0_0 hq1
      replace c0_1 := box_at c0_1 hq1
      replace c0_2 := box_at c0_2 hq1
      replace c1_0 := box_at c1_0 hq1
      replace c1_1 := box_at c1_1 hq1
      clear hq1
      rw [Hhc1.out]
      go_wp2_with fail
      go_ret
      exact ⟨rfl, HB.out.trans (hc.mono HB.out.size)⟩
    | true =>
      cases hc3 : [bh].all (elB gr) with
      | false =>
        have HV : Hid ((.bool (baB gr bh bl) : Value) = .bool false) := by unfold Hid; have qhc3 := hc3; simp only [List.all_cons, List.all_nil, Bool.and_true] at qhc3; simp [baB, hbB, hc1, hc2, qhc3]
        rw [HV.out]
        have Hhc1 := Lib.hid hc1
        clear hc1
        have Hhc3 := Lib.hid hc3
        clear hc3
        obtain ⟨W, hW⟩ : ∃ W, W = (w.alloc (.cells #[.int .i64 gr.p, .int .i64 gr.q, .int .i64 gr.g] 39)).alloc (.cells #[.int .i64 bh, (.slice bva bvn bvc)] 79) := ⟨_, rfl⟩
        have HB : Hid (Below w.heap.size w W) := by unfold Hid; rw [hW]; (repeat (first | exact Below.refl _ _ | assumption | refine Below.drew ?_ | refine Below.alloc ?_ (by first | (simp; done) | (simp; omega)) _ | refine Below.setCell ?_ (by first | (simp; done) | (simp; omega)) _))
        have c0_0 : W.cell? ⟨w.heap.size, 0, none⟩ = some (.int .i64 gr.p) := by rw [hW]; simp [go_sem]
        have c0_1 : W.cell? ⟨w.heap.size, 1, none⟩ = some (.int .i64 gr.q) := by rw [hW]; simp [go_sem]
        have c0_2 : W.cell? ⟨w.heap.size, 2, none⟩ = some (.int .i64 gr.g) := by rw [hW]; simp [go_sem]
        have c1_0 : W.cell? ⟨w.heap.size + 1, 0, none⟩ = some (.int .i64 bh) := by rw [hW]; simp [go_sem]
        have c1_1 : W.cell? ⟨w.heap.size + 1, 1, none⟩ = some ((.slice bva bvn bvc)) := by rw [hW]; simp [go_sem]
        have HSW : Hid (W.heap.size = w.heap.size + 2) := by unfold Hid; rw [hW]; simp
        go_enter Try.func172, Try.ntmps172
        go_wp2_with fail
        rw [← hW]
        clear hW
        have hc : Below W.heap.size W W := Below.refl _ _
        go_wp2_with fail
        refine (spec_l2Good gr _).mono ?_
        rintro e u1 ⟨rfl, hq1⟩
        replace hc := Below.next hc hq1
        replace c0_0 := box_at c0_0 hq1
        replace c0_1 := box_at c0_1 hq1
        replace c0_2 := box_at c0_2 hq1
        replace c1_0 := box_at c1_0 hq1
        replace c1_1 := box_at c1_1 hq1
        clear hq1
        rw [Hhc1.out]
        go_wp2_with fail
        refine (spec_gIs gr _ [bh] _ HG.out (OwnI.lit (B := 0) _ (Nat.zero_le _) (l := [bh]) (AllI64.cons ibh AllI64.nil) rfl (by simp [maxLen]) 1 rfl).ints).mono ?_
        rintro e u2 ⟨rfl, hq2⟩
        replace hq2 := Below.next (keep_al (Below.refl _ _) _) hq2
        replace hc := Below.next hc hq2
        replace c0_0 := box_at c0_0 hq2
        replace c0_1 := box_at c0_1 hq2
        replace c0_2 := box_at c0_2 hq2
        replace c1_0 := box_at c1_0 hq2
        replace c1_1 := box_at c1_1 hq2
        clear hq2
        rw [Hhc3.out]
        go_wp2_with fail
        go_ret
        exact ⟨rfl, HB.out.trans (hc.mono HB.out.size)⟩
      | true =>
        cases hc4 : decide ((bvn : Int) ≤ 24) with
        | false =>
          have HLN : Hid (decide (bl.length ≤ 24) = false) := by have e1 := Ebv.out; have q : ¬ (bvn : Int) ≤ 24 := of_decide_eq_false hc4; exact decide_eq_false (by omega)
          have HV : Hid ((.bool (baB gr bh bl) : Value) = .bool false) := by unfold Hid; have qhc3 := hc3; simp only [List.all_cons, List.all_nil, Bool.and_true] at qhc3; simp [baB, hbB, hc1, hc2, qhc3, hc4, HLN.out]
          rw [HV.out]
          have Hhc1 := Lib.hid hc1
          clear hc1
          have Hhc3 := Lib.hid hc3
          clear hc3
          obtain ⟨W, hW⟩ : ∃ W, W = (w.alloc (.cells #[.int .i64 gr.p, .int .i64 gr.q, .int .i64 gr.g] 39)).alloc (.cells #[.int .i64 bh, (.slice bva bvn bvc)] 79) := ⟨_, rfl⟩
          have HB : Hid (Below w.heap.size w W) := by unfold Hid; rw [hW]; (repeat (first | exact Below.refl _ _ | assumption | refine Below.drew ?_ | refine Below.alloc ?_ (by first | (simp; done) | (simp; omega)) _ | refine Below.setCell ?_ (by first | (simp; done) | (simp; omega)) _))
          have c0_0 : W.cell? ⟨w.heap.size, 0, none⟩ = some (.int .i64 gr.p) := by rw [hW]; simp [go_sem]
          have c0_1 : W.cell? ⟨w.heap.size, 1, none⟩ = some (.int .i64 gr.q) := by rw [hW]; simp [go_sem]
          have c0_2 : W.cell? ⟨w.heap.size, 2, none⟩ = some (.int .i64 gr.g) := by rw [hW]; simp [go_sem]
          have c1_0 : W.cell? ⟨w.heap.size + 1, 0, none⟩ = some (.int .i64 bh) := by rw [hW]; simp [go_sem]
          have c1_1 : W.cell? ⟨w.heap.size + 1, 1, none⟩ = some ((.slice bva bvn bvc)) := by rw [hW]; simp [go_sem]
          have HSW : Hid (W.heap.size = w.heap.size + 2) := by unfold Hid; rw [hW]; simp
          go_enter Try.func172, Try.ntmps172
          go_wp2_with fail
          rw [← hW]
          clear hW
          have hc : Below W.heap.size W W := Below.refl _ _
          go_wp2_with fail
          refine (spec_l2Good gr _).mono ?_
          rintro e u1 ⟨rfl, hq1⟩
          replace hc := Below.next hc hq1
          replace c0_0 := box_at c0_0 hq1
          replace c0_1 := box_at c0_1 hq1
          replace c0_2 := box_at c0_2 hq1
          replace c1_0 := box_at c1_0 hq1
          replace c1_1 := box_at c1_1 hq1
          clear hq1
          rw [Hhc1.out]
          go_wp2_with fail
          refine (spec_gIs gr _ [bh] _ HG.out (OwnI.lit (B := 0) _ (Nat.zero_le _) (l := [bh]) (AllI64.cons ibh AllI64.nil) rfl (by simp [maxLen]) 1 rfl).ints).mono ?_
          rintro e u2 ⟨rfl, hq2⟩
          replace hq2 := Below.next (keep_al (Below.refl _ _) _) hq2
          replace hc := Below.next hc hq2
          replace c0_0 := box_at c0_0 hq2
          replace c0_1 := box_at c0_1 hq2
          replace c0_2 := box_at c0_2 hq2
          replace c1_0 := box_at c1_0 hq2
          replace c1_1 := box_at c1_1 hq2
          clear hq2
          rw [Hhc3.out]
          go_wp2_with fail
          go_ret
          exact ⟨rfl, HB.out.trans (hc.mono HB.out.size)⟩
        | true =>
          have HLN : Hid (decide (bl.length ≤ 24) = true) := by have e1 := Ebv.out; have q : (bvn : Int) ≤ 24 := of_decide_eq_true hc4; exact decide_eq_true (by omega)
          cases hc5 : decide (1 ∈ bl) with
          | false =>
            have HV : Hid ((.bool (baB gr bh bl) : Value) = .bool (bl.all (elB gr))) := by unfold Hid; have qhc3 := hc3; simp only [List.all_cons, List.all_nil, Bool.and_true] at qhc3; simp [baB, hbB, hc1, hc2, qhc3, hc4, hc5, HLN.out]
            rw [HV.out]
            have Hhc1 := Lib.hid hc1
            clear hc1
            have Hhc3 := Lib.hid hc3
            clear hc3
            obtain ⟨W, hW⟩ : ∃ W, W = (w.alloc (.cells #[.int .i64 gr.p, .int .i64 gr.q, .int .i64 gr.g] 39)).alloc (.cells #[.int .i64 bh, (.slice bva bvn bvc)] 79) := ⟨_, rfl⟩
            have HB : Hid (Below w.heap.size w W) := by unfold Hid; rw [hW]; (repeat (first | exact Below.refl _ _ | assumption | refine Below.drew ?_ | refine Below.alloc ?_ (by first | (simp; done) | (simp; omega)) _ | refine Below.setCell ?_ (by first | (simp; done) | (simp; omega)) _))
            have c0_0 : W.cell? ⟨w.heap.size, 0, none⟩ = some (.int .i64 gr.p) := by rw [hW]; simp [go_sem]
            have c0_1 : W.cell? ⟨w.heap.size, 1, none⟩ = some (.int .i64 gr.q) := by rw [hW]; simp [go_sem]
            have c0_2 : W.cell? ⟨w.heap.size, 2, none⟩ = some (.int .i64 gr.g) := by rw [hW]; simp [go_sem]
            have c1_0 : W.cell? ⟨w.heap.size + 1, 0, none⟩ = some (.int .i64 bh) := by rw [hW]; simp [go_sem]
            have c1_1 : W.cell? ⟨w.heap.size + 1, 1, none⟩ = some ((.slice bva bvn bvc)) := by rw [hW]; simp [go_sem]
            have HSW : Hid (W.heap.size = w.heap.size + 2) := by unfold Hid; rw [hW]; simp
            go_enter Try.func172, Try.ntmps172
            go_wp2_with fail
            rw [← hW]
            clear hW
            have hc : Below W.heap.size W W := Below.refl _ _
            go_wp2_with fail
            refine (spec_l2Good gr _).mono ?_
            rintro e u1 ⟨rfl, hq1⟩
            replace hc := Below.next hc hq1
            replace c0_0 := box_at c0_0 hq1
            replace c0_1 := box_at c0_1 hq1
            replace c0_2 := box_at c0_2 hq1
            replace c1_0 := box_at c1_0 hq1
            replace c1_1 := box_at c1_1 hq1
            clear hq1
            rw [Hhc1.out]
            go_wp2_with fail
            refine (spec_gIs gr _ [bh] _ HG.out (OwnI.lit (B := 0) _ (Nat.zero_le _) (l := [bh]) (AllI64.cons ibh AllI64.nil) rfl (by simp [maxLen]) 1 rfl).ints).mono ?_
            rintro e u2 ⟨rfl, hq2⟩
            replace hq2 := Below.next (keep_al (Below.refl _ _) _) hq2
            replace hc := Below.next hc hq2
            replace c0_0 := box_at c0_0 hq2
            replace c0_1 := box_at c0_1 hq2
            replace c0_2 := box_at c0_2 hq2
            replace c1_0 := box_at c1_0 hq2
            replace c1_1 := box_at c1_1 hq2
            clear hq2
            rw [Hhc3.out]
            go_wp2_with fail
            refine (spec_l1Has _ bl 1 _ (Hbv.out.below (HB.out.trans (hc.mono HB.out.size)))).mono ?_
            rintro e u3 ⟨rfl, rfl⟩
            rw [hc5]
            go_wp2_with fail
            refine (spec_gIs gr _ bl _ HG.out (Hbv.out.below (HB.out.trans (hc.mono HB.out.size)))).mono ?_
            rintro e u4 ⟨rfl, hq4⟩
            replace hc := Below.next hc hq4
            replace c0_0 := box_at c0_0 hq4
            replace c0_1 := box_at c0_1 hq4
            replace c0_2 := box_at c0_2 hq4
            replace c1_0 := box_at c1_0 hq4
            replace c1_1 := box_at c1_1 hq4
            clear hq4
            go_wp2_with fail
            go_ret
            exact ⟨rfl, HB.out.trans (hc.mono HB.out.size)⟩
          | true =>
            have HV : Hid ((.bool (baB gr bh bl) : Value) = .bool false) := by unfold Hid; have qhc3 := hc3; simp only [List.all_cons, List.all_nil, Bool.and_true] at qhc3; simp [baB, hbB, hc1, hc2, qhc3, hc4, hc5, HLN.out]
            rw [HV.out]
            have Hhc1 := Lib.hid hc1
            clear hc1
            have Hhc3 := Lib.hid hc3
            clear hc3
            obtain ⟨W, hW⟩ : ∃ W, W = (w.alloc (.cells #[.int .i64 gr.p, .int .i64 gr.q, .int .i64 gr.g] 39)).alloc (.cells #[.int .i64 bh, (.slice bva bvn bvc)] 79) := ⟨_, rfl⟩
            have HB : Hid (Below w.heap.size w W) := by unfold Hid; rw [hW]; (repeat (first | exact Below.refl _ _ | assumption | refine Below.drew ?_ | refine Below.alloc ?_ (by first | (simp; done) | (simp; omega)) _ | refine Below.setCell ?_ (by first | (simp; done) | (simp; omega)) _))
            have c0_0 : W.cell? ⟨w.heap.size, 0, none⟩ = some (.int .i64 gr.p) := by rw [hW]; simp [go_sem]
            have c0_1 : W.cell? ⟨w.heap.size, 1, none⟩ = some (.int .i64 gr.q) := by rw [hW]; simp [go_sem]
            have c0_2 : W.cell? ⟨w.heap.size, 2, none⟩ = some (.int .i64 gr.g) := by rw [hW]; simp [go_sem]
            have c1_0 : W.cell? ⟨w.heap.size + 1, 0, none⟩ = some (.int .i64 bh) := by rw [hW]; simp [go_sem]
            have c1_1 : W.cell? ⟨w.heap.size + 1, 1, none⟩ = some ((.slice bva bvn bvc)) := by rw [hW]; simp [go_sem]
            have HSW : Hid (W.heap.size = w.heap.size + 2) := by unfold Hid; rw [hW]; simp
            go_enter Try.func172, Try.ntmps172
            go_wp2_with fail
            rw [← hW]
            clear hW
            have hc : Below W.heap.size W W := Below.refl _ _
            go_wp2_with fail
            refine (spec_l2Good gr _).mono ?_
            rintro e u1 ⟨rfl, hq1⟩
            replace hc := Below.next hc hq1
            replace c0_0 := box_at c0_0 hq1
            replace c0_1 := box_at c0_1 hq1
            replace c0_2 := box_at c0_2 hq1
            replace c1_0 := box_at c1_0 hq1
            replace c1_1 := box_at c1_1 hq1
            clear hq1
            rw [Hhc1.out]
            go_wp2_with fail
            refine (spec_gIs gr _ [bh] _ HG.out (OwnI.lit (B := 0) _ (Nat.zero_le _) (l := [bh]) (AllI64.cons ibh AllI64.nil) rfl (by simp [maxLen]) 1 rfl).ints).mono ?_
            rintro e u2 ⟨rfl, hq2⟩
            replace hq2 := Below.next (keep_al (Below.refl _ _) _) hq2
            replace hc := Below.next hc hq2
            replace c0_0 := box_at c0_0 hq2
            replace c0_1 := box_at c0_1 hq2
            replace c0_2 := box_at c0_2 hq2
            replace c1_0 := box_at c1_0 hq2
            replace c1_1 := box_at c1_1 hq2
            clear hq2
            rw [Hhc3.out]
            go_wp2_with fail
            refine (spec_l1Has _ bl 1 _ (Hbv.out.below (HB.out.trans (hc.mono HB.out.size)))).mono ?_
            rintro e u3 ⟨rfl, rfl⟩
            rw [hc5]
            go_wp2_with fail
            go_ret
            exact ⟨rfl, HB.out.trans (hc.mono HB.out.size)⟩
theorem hbB_cons (gr : GroupD) (bh : Int) (bl : List Int) : (decide (bl.length ≤ 24) && (bh :: bl).all fun x => x != 1 && elB gr x) = hbB gr bh bl := by
  unfold hbB
  rw [List.all_cons]
  have h : (bl.all fun x => x != 1 && elB gr x) = ((!decide (1 ∈ bl)) && bl.all (elB gr)) := by
    induction bl with
    | nil => simp
    | cons a l ih =>
      rw [List.all_cons, ih, List.all_cons, Bool.eq_iff_iff]
      simp only [Bool.and_eq_true, bne_iff_ne, Bool.not_eq_true', decide_eq_false_iff_not, List.mem_cons, not_or]
      constructor
      · rintro ⟨⟨h1, h2⟩, h3, h4⟩; exact ⟨⟨fun e => h1 e.symm, h3⟩, h2, h4⟩
      · rintro ⟨⟨h1, h2⟩, h3, h4⟩; exact ⟨⟨fun e => h1 e.symm, h3⟩, h2, h4⟩
  rw [h]
  cases (bh != 1) <;> cases elB gr bh <;> cases decide (bl.length ≤ 24) <;> simp
theorem wpList_append_intsG {ops : Array Oper} {rest : List Oper} {o : Oper} {a : Act} {w : World} {Q : Exit → Act → World → Prop} (hg : Region.wanted o (yielded ops a.tmps) = true) (s x : Operand)
    (ho : o.op = .call { callee := .builtin .append, args := #[s, x], argTypes := #[24, 24] })
    (B : Nat) (v y : Value) (l m : List Int) (hs : a.eval s = v) (hown : OwnI w B v l) (hx : a.eval x = y) (hy : Ints w y m) (hlen : l.length + m.length ≤ 1000000000000) (hB : B ≤ w.heap.size)
    (hK : ∀ v' w', OwnI w' B v' (l ++ m) → w.grownBy w' v.ownBlock → wpList Try.prog ops Q rest (a.put o.dst v') w') : wpList Try.prog ops Q (o :: rest) a w := by
  obtain ⟨v', w', hr, h1, h2⟩ := run_append_ints (t := 24) rfl hown hy hlen hB o.type
  refine wpList_step fun K hK' => ?_
  rw [if_pos hg]
  unfold Oper.wp execOp
  simp only [ho, resolve, invoke, builtin, Sem.run_bind, Sem.run_pure, Result.andThen_ok, List.map_toArray, List.map_cons, List.map_nil, hs, hx, hr]
  exact hK' _ _ (hK v' w' h1 h2)
set_option maxHeartbeats 1000000 in
theorem impl_hasBases1 (gr : GroupD) (x : Int) (b : Nat) (w : World) (hg : OkG gr) (hx : BoxN w b 39 [.int .i64 gr.p, .int .i64 gr.q, .int .i64 gr.g]) :
    Calls Try.prog 312 #[.int .i64 x, .pointer (some ⟨b, 0, none⟩)] w fun e w' => e = .returned (.bool (x != 1 && elB gr x)) ∧ Below w.heap.size w w' := by
  have HG := Lib.hid hg
  clear hg
  have e0 := hx.cell (i := 0) rfl
  have e1 := hx.cell (i := 1) rfl
  have e2 := hx.cell (i := 2) rfl
  clear hx
  cases h1 : (x != 1) with
  | false =>
    go_enter Try.func312, Try.ntmps312
    go_wp2_with fail
    go_ret
    exact ⟨ret_bool (by simp), Below.refl _ _⟩
  | true =>
    go_enter Try.func312, Try.ntmps312
    go_wp2_with fail
    refine (impl_has gr x _ HG.out).mono ?_
    rintro e w1 ⟨rfl, hb1⟩
    go_wp2_with fail
    go_ret
    exact ⟨ret_bool (by simp), hb1⟩
set_option maxRecDepth 100000 in
set_option maxHeartbeats 2000000 in
theorem impl_hasBases (gr : GroupD) (bh : Int) (bv : Value) (bl : List Int) (w : World) (hg : OkG gr) (hb : Ints w bv bl) (ibh : I64 bh) :
    Calls Try.prog 271 #[.agg #[.int .i64 gr.p, .int .i64 gr.q, .int .i64 gr.g], .agg #[.int .i64 bh, bv]] w fun e w' => e = .returned (.bool (hbB gr bh bl)) ∧ Below w.heap.size w w' := by
  have HEQ := Lib.hid (hbB_cons gr bh bl)
  have HG := Lib.hid hg
  clear hg
  obtain ⟨bva, bvn, bvc, rfl⟩ := hb.shape
  have Ebv := Lib.hid hb.len
  have Hbv := Lib.hid hb
  clear hb
  rw [← HEQ.out]
  by_cases hn : (bvn : Int) ≤ 24
  · have hd : decide ((bvn : Int) ≤ 24) = true := decide_eq_true hn
    have hd2 : decide (bl.length ≤ 24) = true := decide_eq_true (by have := Ebv.out; omega)
    rw [hd2, Bool.true_and]
    clear hd2
    have HLL : Hid (bl.length ≤ 24) := by have := Ebv.out; unfold Hid; omega
    have HOL : Hid (OwnI (((w.alloc (.cells #[.int .i64 gr.p, .int .i64 gr.q, .int .i64 gr.g] 39)).alloc (.cells #[.int .i64 bh, .slice bva bvn bvc] 79)).alloc (.cells #[.int .i64 bh] 3)) (w.heap.size + 1 + 1) (.slice (some ⟨w.heap.size + 1 + 1, 0, none⟩) 1 1) [bh]) := by unfold Hid; have h := OwnI.lit (B := w.heap.size + 1 + 1) ((w.alloc (.cells #[.int .i64 gr.p, .int .i64 gr.q, .int .i64 gr.g] 39)).alloc (.cells #[.int .i64 bh, .slice bva bvn bvc] 79)) (by simp) (cs := #[.int .i64 bh]) (l := [bh]) (AllI64.one ibh) rfl (by simp [maxLen]) 1 rfl; simpa using h
    go_enter Try.func271, Try.ntmps271
    go_wp2_with (at_builtin; refine wpList_append_intsG (by kernel_rfl) _ _ rfl (w.heap.size + 1 + 1) _ _ [bh] bl rfl HOL.out rfl (by exact Hbv.out.below (by (repeat (first | exact Below.refl _ _ | assumption | refine Below.drew ?_ | refine Below.alloc ?_ (by first | (simp; done) | (simp; omega)) _ | refine Below.setCell ?_ (by first | (simp; done) | (simp; omega)) _)))) (by have := HLL.out; first | omega | (simp; done) | (simp; omega)) (by first | (simp; done) | (simp; omega) | omega) ?_; intro v4 w4 hown4 hgr4)
    have hb4 := OwnI.grown HOL.out hgr4 (by first | (simp; done) | (simp; omega) | omega)
    have HXE : Hid (BoxN w4 w.heap.size 39 [.int .i64 gr.p, .int .i64 gr.q, .int .i64 gr.g]) := (hb4.block w.heap.size (by omega)).trans (((BoxN.new w _ _).alloc _).alloc _)
    have HBB : Hid (Below w.heap.size w w4) := (show Below w.heap.size w _ by (repeat (first | exact Below.refl _ _ | assumption | refine Below.drew ?_ | refine Below.alloc ?_ (by first | (simp; done) | (simp; omega)) _ | refine Below.setCell ?_ (by first | (simp; done) | (simp; omega)) _))).trans (hb4.mono (by omega))
    have HO := Lib.hid hown4
    clear hb4 hown4 hgr4
    have HD : Hid (Decides w4 312 #[.pointer (some ⟨w.heap.size, 0, none⟩)] (fun x => x != 1 && elB gr x)) := ⟨Try.call312, fun x wr hx hb => impl_hasBases1 gr x _ wr HG.out (HXE.out.below hb)⟩
    go_wp2_with fail
    refine (impl_areAll _ (bh :: bl) _ _ (fun x => x != 1 && elB gr x) _ (by simpa using HO.out.ints) HD.out).mono ?_
    rintro e w5 ⟨rfl, hb5⟩
    go_wp2_with fail
    go_ret
    exact ⟨rfl, HBB.out.trans (hb5.mono HBB.out.size)⟩
  · have hd : decide ((bvn : Int) ≤ 24) = false := decide_eq_false hn
    have hd2 : decide (bl.length ≤ 24) = false := decide_eq_false (by have := Ebv.out; omega)
    rw [hd2, Bool.false_and]
    clear hd2
    go_enter Try.func271, Try.ntmps271
    go_wp2_with fail
    go_ret
    exact ⟨rfl, by (repeat (first | exact Below.refl _ _ | assumption | refine Below.drew ?_ | refine Below.alloc ?_ (by first | (simp; done) | (simp; omega)) _ | refine Below.setCell ?_ (by first | (simp; done) | (simp; omega)) _))⟩
set_option maxRecDepth 100000 in
set_option maxHeartbeats 2000000 in
theorem impl_IsValidBases (gr : GroupD) (bh : Int) (bv : Value) (bl : List Int) (w : World) (hb : Ints w bv bl) (ibh : I64 bh) :
    Calls Try.prog 170 #[.agg #[.int .i64 gr.p, .int .i64 gr.q, .int .i64 gr.g], .agg #[.int .i64 bh, bv]] w fun e w' => e = .returned (.bool (baB gr bh bl)) ∧ Below w.heap.size w w' := by
  obtain ⟨bva, bvn, bvc, rfl⟩ := hb.shape
  have Ebv := Lib.hid hb.len
  have Kbv := Lib.hid hb.capMax
  have Hbv := Lib.hid hb
  clear hb
  cases hc1 : goodG gr with
  | false =>
    have HV : Hid ((.bool (baB gr bh bl) : Value) = .bool false) := by unfold Hid; simp [baB, hc1]
    rw [HV.out]
    have Hhc1 := Lib.hid hc1
    clear hc1
    obtain ⟨W, hW⟩ : ∃ W, W = (w.alloc (.cells #[.int .i64 gr.p, .int .i64 gr.q, .int .i64 gr.g] 39)).alloc (.cells #[.int .i64 bh, (.slice bva bvn bvc)] 79) := ⟨_, rfl⟩
    have HB : Hid (Below w.heap.size w W) := by unfold Hid; rw [hW]; (repeat (first | exact Below.refl _ _ | assumption | refine Below.drew ?_ | refine Below.alloc ?_ (by first | (simp; done) | (simp; omega)) _ | refine Below.setCell ?_ (by first | (simp; done) | (simp; omega)) _))
    have c0_0 : W.cell? ⟨w.heap.size, 0, none⟩ = some (.int .i64 gr.p) := by rw [hW]; simp [go_sem]
    have c0_1 : W.cell? ⟨w.heap.size, 1, none⟩ = some (.int .i64 gr.q) := by rw [hW]; simp [go_sem]
    have c0_2 : W.cell? ⟨w.heap.size, 2, none⟩ = some (.int .i64 gr.g) := by rw [hW]; simp [go_sem]
    have c1_0 : W.cell? ⟨w.heap.size + 1, 0, none⟩ = some (.int .i64 bh) := by rw [hW]; simp [go_sem]
    have c1_1 : W.cell? ⟨w.heap.size + 1, 1, none⟩ = some ((.slice bva bvn bvc)) := by rw [hW]; simp [go_sem]
    have HSW : Hid (W.heap.size = w.heap.size + 2) := by unfold Hid; rw [hW]; simp
    go_enter Try.func170, Try.ntmps170
    go_wp2_with fail
    rw [← hW]
    clear hW
    have hc : Below W.heap.size W W := Below.refl _ _
    go_wp2_with fail
    refine (impl_IsValidGroup gr _).mono ?_
    rintro e u1 ⟨rfl, hq1⟩
    replace hc := Below.next hc hq1
    replace c0_0 := box_at c0_0 hq1
    replace c0_1 := box_at c0_1 hq1
    replace c0_2 := box_at c0_2 hq1
    replace c1_0 := box_at c1_0 hq1
    replace c1_1 := box_at c1_1 hq1
    clear hq1
    rw [Hhc1.out]
    go_wp2_with fail
    go_ret
    exact ⟨rfl, HB.out.trans (hc.mono HB.out.size)⟩
  | true =>
    have HG := Lib.hid (goodG_ok hc1)
    have HV : Hid ((.bool (baB gr bh bl) : Value) = .bool (hbB gr bh bl)) := by unfold Hid; simp [baB, hc1]
    rw [HV.out]
    have Hhc1 := Lib.hid hc1
    clear hc1
    obtain ⟨W, hW⟩ : ∃ W, W = (w.alloc (.cells #[.int .i64 gr.p, .int .i64 gr.q, .int .i64 gr.g] 39)).alloc (.cells #[.int .i64 bh, (.slice bva bvn bvc)] 79) := ⟨_, rfl⟩
    have HB : Hid (Below w.heap.size w W) := by unfold Hid; rw [hW]; (repeat (first | exact Below.refl _ _ | assumption | refine Below.drew ?_ | refine Below.alloc ?_ (by first | (simp; done) | (simp; omega)) _ | refine Below.setCell ?_ (by first | (simp; done) | (simp; omega)) _))
    have c0_0 : W.cell? ⟨w.heap.size, 0, none⟩ = some (.int .i64 gr.p) := by rw [hW]; simp [go_sem]
    have c0_1 : W.cell? ⟨w.heap.size, 1, none⟩ = some (.int .i64 gr.q) := by rw [hW]; simp [go_sem]
    have c0_2 : W.cell? ⟨w.heap.size, 2, none⟩ = some (.int .i64 gr.g) := by rw [hW]; simp [go_sem]
    have c1_0 : W.cell? ⟨w.heap.size + 1, 0, none⟩ = some (.int .i64 bh) := by rw [hW]; simp [go_sem]
    have c1_1 : W.cell? ⟨w.heap.size + 1, 1, none⟩ = some ((.slice bva bvn bvc)) := by rw [hW]; simp [go_sem]
    have HSW : Hid (W.heap.size = w.heap.size + 2) := by unfold Hid; rw [hW]; simp
    go_enter Try.func170, Try.ntmps170
    go_wp2_with fail
    rw [← hW]
    clear hW
    have hc : Below W.heap.size W W := Below.refl _ _
    go_wp2_with fail
    refine (impl_IsValidGroup gr _).mono ?_
    rintro e u1 ⟨rfl, hq1⟩
    replace hc := Below.next hc hq1
    replace c0_0 := box_at c0_0 hq1
    replace c0_1 := box_at c0_1 hq1
    replace c0_2 := box_at c0_2 hq1
    replace c1_0 := box_at c1_0 hq1
    replace c1_1 := box_at c1_1 hq1
    clear hq1
    rw [Hhc1.out]
    go_wp2_with fail
    refine (impl_hasBases gr bh _ bl _ HG.out (Hbv.out.below (HB.out.trans (hc.mono HB.out.size))) ibh).mono ?_
    rintro e u2 ⟨rfl, hq2⟩
    replace hc := Below.next hc hq2
    replace c0_0 := box_at c0_0 hq2
    replace c0_1 := box_at c0_1 hq2
    replace c0_2 := box_at c0_2 hq2
    replace c1_0 := box_at c1_0 hq2
    replace c1_1 := box_at c1_1 hq2
    clear hq2
    go_wp2_with fail
    go_ret
    exact ⟨rfl, HB.out.trans (hc.mono HB.out.size)⟩
set_option maxRecDepth 100000 in
set_option maxHeartbeats 2000000 in
theorem impl_Commit (gr : GroupD) (bh : Int) (bv : Value) (bl : List Int) (m r : Int) (w : World) (hb : Ints w bv bl) (ibh : I64 bh) (hm : I64 m) (hr : I64 r) :
    Calls Try.prog 49 #[.agg #[.int .i64 gr.p, .int .i64 gr.q, .int .i64 gr.g], .agg #[.int .i64 bh, bv], .int .i64 m, .int .i64 r] w fun e w' => e = .returned (.tuple #[.int .i64 (cmR gr bh bl m r), .bool (cmB gr bh bl m r)]) ∧ Below w.heap.size w w' := by
  obtain ⟨bva, bvn, bvc, rfl⟩ := hb.shape
  have Ebv := Lib.hid hb.len
  have Kbv := Lib.hid hb.capMax
  have Hbv := Lib.hid hb
  clear hb
  cases hc1 : baB gr bh bl with
  | false =>
    have HV : Hid ((.tuple #[.int .i64 (cmR gr bh bl m r), .bool (cmB gr bh bl m r)] : Value) = .tuple #[.int .i64 0, .bool false]) := by unfold Hid; simp [cmR, cmB, hc1]
    rw [HV.out]
    have Hhc1 := Lib.hid hc1
    clear hc1
    obtain ⟨W, hW⟩ : ∃ W, W = (w.alloc (.cells #[.int .i64 gr.p, .int .i64 gr.q, .int .i64 gr.g] 39)).alloc (.cells #[.int .i64 bh, (.slice bva bvn bvc)] 79) := ⟨_, rfl⟩
    have HB : Hid (Below w.heap.size w W) := by unfold Hid; rw [hW]; (repeat (first | exact Below.refl _ _ | assumption | refine Below.drew ?_ | refine Below.alloc ?_ (by first | (simp; done) | (simp; omega)) _ | refine Below.setCell ?_ (by first | (simp; done) | (simp; omega)) _))
    have c0_0 : W.cell? ⟨w.heap.size, 0, none⟩ = some (.int .i64 gr.p) := by rw [hW]; simp [go_sem]
    have c0_1 : W.cell? ⟨w.heap.size, 1, none⟩ = some (.int .i64 gr.q) := by rw [hW]; simp [go_sem]
    have c0_2 : W.cell? ⟨w.heap.size, 2, none⟩ = some (.int .i64 gr.g) := by rw [hW]; simp [go_sem]
    have c1_0 : W.cell? ⟨w.heap.size + 1, 0, none⟩ = some (.int .i64 bh) := by rw [hW]; simp [go_sem]
    have c1_1 : W.cell? ⟨w.heap.size + 1, 1, none⟩ = some ((.slice bva bvn bvc)) := by rw [hW]; simp [go_sem]
    have HSW : Hid (W.heap.size = w.heap.size + 2) := by unfold Hid; rw [hW]; simp
    go_enter Try.func49, Try.ntmps49
    go_wp2_with fail
    rw [← hW]
    clear hW
    have hc : Below W.heap.size W W := Below.refl _ _
    go_wp2_with fail
    refine (impl_IsValidBases gr bh _ bl _ (Hbv.out.below (HB.out.trans (hc.mono HB.out.size))) ibh).mono ?_
    rintro e u1 ⟨rfl, hq1⟩
    replace hc := Below.next hc hq1
    replace c0_0 := box_at c0_0 hq1
    replace c0_1 := box_at c0_1 hq1
    replace c0_2 := box_at c0_2 hq1
    replace c1_0 := box_at c1_0 hq1
    replace c1_1 := box_at c1_1 hq1
    clear hq1
    rw [Hhc1.out]
    go_wp2_with fail
    go_ret2
    exact ⟨rfl, HB.out.trans (hc.mono HB.out.size)⟩
  | true =>
    have HBA := Lib.hid (baB_parts hc1)
    have HG := Lib.hid (goodG_ok HBA.out.1)
    have sbh : Small bh := elB_small HG.out HBA.out.2.1
    cases hc2 : [m, r].all (expB gr) with
    | false =>
      have HV : Hid ((.tuple #[.int .i64 (cmR gr bh bl m r), .bool (cmB gr bh bl m r)] : Value) = .tuple #[.int .i64 0, .bool false]) := by unfold Hid; have qhc2 := hc2; simp only [List.all_cons, List.all_nil, Bool.and_true] at qhc2; simp [cmR, cmB, hc1, qhc2]
      rw [HV.out]
      have Hhc1 := Lib.hid hc1
      clear hc1
      have Hhc2 := Lib.hid hc2
      clear hc2
      obtain ⟨W, hW⟩ : ∃ W, W = (w.alloc (.cells #[.int .i64 gr.p, .int .i64 gr.q, .int .i64 gr.g] 39)).alloc (.cells #[.int .i64 bh, (.slice bva bvn bvc)] 79) := ⟨_, rfl⟩
      have HB : Hid (Below w.heap.size w W) := by unfold Hid; rw [hW]; (repeat (first | exact Below.refl _ _ | assumption | refine Below.drew ?_ | refine Below.alloc ?_ (by first | (simp; done) | (simp; omega)) _ | refine Below.setCell ?_ (by first | (simp; done) | (simp; omega)) _))
      have c0_0 : W.cell? ⟨w.heap.size, 0, none⟩ = some (.int .i64 gr.p) := by rw [hW]; simp [go_sem]
      have c0_1 : W.cell? ⟨w.heap.size, 1, none⟩ = some (.int .i64 gr.q) := by rw [hW]; simp [go_sem]
      have c0_2 : W.cell? ⟨w.heap.size, 2, none⟩ = some (.int .i64 gr.g) := by rw [hW]; simp [go_sem]
      have c1_0 : W.cell? ⟨w.heap.size + 1, 0, none⟩ = some (.int .i64 bh) := by rw [hW]; simp [go_sem]
      have c1_1 : W.cell? ⟨w.heap.size + 1, 1, none⟩ = some ((.slice bva bvn bvc)) := by rw [hW]; simp [go_sem]
      have HSW : Hid (W.heap.size = w.heap.size + 2) := by unfold Hid; rw [hW]; simp
      go_enter Try.func49, Try.ntmps49
      go_wp2_with fail
      rw [← hW]
      clear hW
      have hc : Below W.heap.size W W := Below.refl _ _
      go_wp2_with fail
      refine (impl_IsValidBases gr bh _ bl _ (Hbv.out.below (HB.out.trans (hc.mono HB.out.size))) ibh).mono ?_
      rintro e u1 ⟨rfl, hq1⟩
      replace hc := Below.next hc hq1
      replace c0_0 := box_at c0_0 hq1
      replace c0_1 := box_at c0_1 hq1
      replace c0_2 := box_at c0_2 hq1
      replace c1_0 := box_at c1_0 hq1
      replace c1_1 := box_at c1_1 hq1
      clear hq1
      rw [Hhc1.out]
      go_wp2_with fail
      refine (impl_areExps gr _ [m, r] _ HG.out (OwnI.lit (B := 0) _ (Nat.zero_le _) (l := [m, r]) (AllI64.cons hm (AllI64.cons hr AllI64.nil)) rfl (by simp [maxLen]) 2 rfl).ints).mono ?_
      rintro e u2 ⟨rfl, hq2⟩
      replace hq2 := Below.next (keep_al (Below.refl _ _) _) hq2
      replace hc := Below.next hc hq2
      replace c0_0 := box_at c0_0 hq2
      replace c0_1 := box_at c0_1 hq2
      replace c0_2 := box_at c0_2 hq2
      replace c1_0 := box_at c1_0 hq2
      replace c1_1 := box_at c1_1 hq2
      clear hq2
      rw [Hhc2.out]
      go_wp2_with fail
      go_ret2
      exact ⟨rfl, HB.out.trans (hc.mono HB.out.size)⟩
    | true =>
      have HV : Hid ((.tuple #[.int .i64 (cmR gr bh bl m r), .bool (cmB gr bh bl m r)] : Value) = .tuple #[.int .i64 (coM gr bh m r), .bool true]) := by unfold Hid; have qhc2 := hc2; simp only [List.all_cons, List.all_nil, Bool.and_true] at qhc2; simp [cmR, cmB, hc1, qhc2]
      rw [HV.out]
      have Hhc1 := Lib.hid hc1
      clear hc1
      have Hhc2 := Lib.hid hc2
      clear hc2
      obtain ⟨W, hW⟩ : ∃ W, W = (w.alloc (.cells #[.int .i64 gr.p, .int .i64 gr.q, .int .i64 gr.g] 39)).alloc (.cells #[.int .i64 bh, (.slice bva bvn bvc)] 79) := ⟨_, rfl⟩
      have HB : Hid (Below w.heap.size w W) := by unfold Hid; rw [hW]; (repeat (first | exact Below.refl _ _ | assumption | refine Below.drew ?_ | refine Below.alloc ?_ (by first | (simp; done) | (simp; omega)) _ | refine Below.setCell ?_ (by first | (simp; done) | (simp; omega)) _))
      have c0_0 : W.cell? ⟨w.heap.size, 0, none⟩ = some (.int .i64 gr.p) := by rw [hW]; simp [go_sem]
      have c0_1 : W.cell? ⟨w.heap.size, 1, none⟩ = some (.int .i64 gr.q) := by rw [hW]; simp [go_sem]
      have c0_2 : W.cell? ⟨w.heap.size, 2, none⟩ = some (.int .i64 gr.g) := by rw [hW]; simp [go_sem]
      have c1_0 : W.cell? ⟨w.heap.size + 1, 0, none⟩ = some (.int .i64 bh) := by rw [hW]; simp [go_sem]
      have c1_1 : W.cell? ⟨w.heap.size + 1, 1, none⟩ = some ((.slice bva bvn bvc)) := by rw [hW]; simp [go_sem]
      have HSW : Hid (W.heap.size = w.heap.size + 2) := by unfold Hid; rw [hW]; simp
      go_enter Try.func49, Try.ntmps49
      go_wp2_with fail
      rw [← hW]
      clear hW
      have hc : Below W.heap.size W W := Below.refl _ _
      go_wp2_with fail
      refine (impl_IsValidBases gr bh _ bl _ (Hbv.out.below (HB.out.trans (hc.mono HB.out.size))) ibh).mono ?_
      rintro e u1 ⟨rfl, hq1⟩
      replace hc := Below.next hc hq1
      replace c0_0 := box_at c0_0 hq1
      replace c0_1 := box_at c0_1 hq1
      replace c0_2 := box_at c0_2 hq1
      replace c1_0 := box_at c1_0 hq1
      replace c1_1 := box_at c1_1 hq1
      clear hq1
      rw [Hhc1.out]
      go_wp2_with fail
      refine (impl_areExps gr _ [m, r] _ HG.out (OwnI.lit (B := 0) _ (Nat.zero_le _) (l := [m, r]) (AllI64.cons hm (AllI64.cons hr AllI64.nil)) rfl (by simp [maxLen]) 2 rfl).ints).mono ?_
      rintro e u2 ⟨rfl, hq2⟩
      replace hq2 := Below.next (keep_al (Below.refl _ _) _) hq2
      replace hc := Below.next hc hq2
      replace c0_0 := box_at c0_0 hq2
      replace c0_1 := box_at c0_1 hq2
      replace c0_2 := box_at c0_2 hq2
      replace c1_0 := box_at c1_0 hq2
      replace c1_1 := box_at c1_1 hq2
      clear hq2
      rw [Hhc2.out]
      go_wp2_with fail
      refine (impl_commit gr bh _ bl m r _ HG.out (Hbv.out.below (HB.out.trans (hc.mono HB.out.size))) sbh hm hr).mono ?_
      rintro e u3 ⟨rfl, hq3⟩
      replace hc := Below.next hc hq3
      replace c0_0 := box_at c0_0 hq3
      replace c0_1 := box_at c0_1 hq3
      replace c0_2 := box_at c0_2 hq3
      replace c1_0 := box_at c1_0 hq3
      replace c1_1 := box_at c1_1 hq3
      clear hq3
      go_wp2_with fail
      go_ret2
      exact ⟨rfl, HB.out.trans (hc.mono HB.out.size)⟩
set_option maxRecDepth 100000 in
set_option maxHeartbeats 2000000 in
theorem spec_Commit (gr : GroupD) (bh : Int) (bv : Value) (bl : List Int) (m r : Int) (w : World) (hb : Ints w bv bl) (ibh : I64 bh) (hm : I64 m) (hr : I64 r) :
    Calls Try.prog 50 #[.agg #[.int .i64 gr.p, .int .i64 gr.q, .int .i64 gr.g], .agg #[.int .i64 bh, bv], .int .i64 m, .int .i64 r] w fun e w' => e = .returned (.tuple #[.int .i64 (cmR gr bh bl m r), .bool (cmB gr bh bl m r)]) ∧ Below w.heap.size w w' := by
  obtain ⟨bva, bvn, bvc, rfl⟩ := hb.shape
  have Ebv := Lib.hid hb.len
  have Kbv := Lib.hid hb.capMax
  have Hbv := Lib.hid hb
  clear hb
  cases hc1 : baB gr bh bl with
  | false =>
    have HV : Hid ((.tuple #[.int .i64 (cmR gr bh bl m r), .bool (cmB gr bh bl m r)] : Value) = .tuple #[.int .i64 0, .bool false]) := by unfold Hid; simp [cmR, cmB, hc1]
    rw [HV.out]
    have Hhc1 := Lib.hid hc1
    clear hc1
    obtain ⟨W, hW⟩ : ∃ W, W = (w.alloc (.cells #[.int .i64 gr.p, .int .i64 gr.q, .int .i64 gr.g] 39)).alloc (.cells #[.int .i64 bh, (.slice bva bvn bvc)] 79) := ⟨_, rfl⟩
    have HB : Hid (Below w.heap.size w W) := by unfold Hid; rw [hW]; (repeat (first | exact Below.refl _ _ | assumption | refine Below.drew ?_ | refine Below.alloc ?_ (by first | (simp; done) | (simp; omega)) _ | refine Below.setCell ?_ (by first | (simp; done) | (simp; omega)) _))
    have c0_0 : W.cell? ⟨w.heap.size, 0, none⟩ = some (.int .i64 gr.p) := by rw [hW]; simp [go_sem]
    have c0_1 : W.cell? ⟨w.heap.size, 1, none⟩ = some (.int .i64 gr.q) := by rw [hW]; simp [go_sem]
    have c0_2 : W.cell? ⟨w.heap.size, 2, none⟩ = some (.int .i64 gr.g) := by rw [hW]; simp [go_sem]
    have c1_0 : W.cell? ⟨w.heap.size + 1, 0, none⟩ = some (.int .i64 bh) := by rw [hW]; simp [go_sem]
    have c1_1 : W.cell? ⟨w.heap.size + 1, 1, none⟩ = some ((.slice bva bvn bvc)) := by rw [hW]; simp [go_sem]
    have HSW : Hid (W.heap.size = w.heap.size + 2) := by unfold Hid; rw [hW]; simp
    go_enter Try.func50, Try.ntmps50
    go_wp2_with fail
    rw [← hW]
    clear hW
    have hc : Below W.heap.size W W := Below.refl _ _
    go_wp2_with fail
    refine (spec_l9Good gr bh _ bl _ (Hbv.out.below (HB.out.trans (hc.mono HB.out.size))) ibh).mono ?_
    rintro e u1 ⟨rfl, hq1⟩
    replace hc := Below.next hc hq1
    replace c0_0 := box_at c0_0 hq1
    replace c0_1 := box_at c0_1 hq1
    replace c0_2 := box_at c0_2 hq1
    replace c1_0 := box_at c1_0 hq1
    replace c1_1 := box_at c1_1 hq1
    clear hq1
    rw [Hhc1.out]
    go_wp2_with fail
    go_ret2
    exact ⟨rfl, HB.out.trans (hc.mono HB.out.size)⟩
  | true =>
    have HBA := Lib.hid (baB_parts hc1)
    have HG := Lib.hid (goodG_ok HBA.out.1)
    have sbh : Small bh := elB_small HG.out HBA.out.2.1
    cases hc2 : [m, r].all (expB gr) with
    | false =>
      have HV : Hid ((.tuple #[.int .i64 (cmR gr bh bl m r), .bool (cmB gr bh bl m r)] : Value) = .tuple #[.int .i64 0, .bool false]) := by unfold Hid; have qhc2 := hc2; simp only [List.all_cons, List.all_nil, Bool.and_true] at qhc2; simp [cmR, cmB, hc1, qhc2]
      rw [HV.out]
      have Hhc1 := Lib.hid hc1
      clear hc1
      have Hhc2 := Lib.hid hc2
      clear hc2
      obtain ⟨W, hW⟩ : ∃ W, W = (w.alloc (.cells #[.int .i64 gr.p, .int .i64 gr.q, .int .i64 gr.g] 39)).alloc (.cells #[.int .i64 bh, (.slice bva bvn bvc)] 79) := ⟨_, rfl⟩
      have HB : Hid (Below w.heap.size w W) := by unfold Hid; rw [hW]; (repeat (first | exact Below.refl _ _ | assumption | refine Below.drew ?_ | refine Below.alloc ?_ (by first | (simp; done) | (simp; omega)) _ | refine Below.setCell ?_ (by first | (simp; done) | (simp; omega)) _))
      have c0_0 : W.cell? ⟨w.heap.size, 0, none⟩ = some (.int .i64 gr.p) := by rw [hW]; simp [go_sem]
      have c0_1 : W.cell? ⟨w.heap.size, 1, none⟩ = some (.int .i64 gr.q) := by rw [hW]; simp [go_sem]
      have c0_2 : W.cell? ⟨w.heap.size, 2, none⟩ = some (.int .i64 gr.g) := by rw [hW]; simp [go_sem]
      have c1_0 : W.cell? ⟨w.heap.size + 1, 0, none⟩ = some (.int .i64 bh) := by rw [hW]; simp [go_sem]
      have c1_1 : W.cell? ⟨w.heap.size + 1, 1, none⟩ = some ((.slice bva bvn bvc)) := by rw [hW]; simp [go_sem]
      have HSW : Hid (W.heap.size = w.heap.size + 2) := by unfold Hid; rw [hW]; simp
      go_enter Try.func50, Try.ntmps50
      go_wp2_with fail
      rw [← hW]
      clear hW
      have hc : Below W.heap.size W W := Below.refl _ _
      go_wp2_with fail
      refine (spec_l9Good gr bh _ bl _ (Hbv.out.below (HB.out.trans (hc.mono HB.out.size))) ibh).mono ?_
      rintro e u1 ⟨rfl, hq1⟩
      replace hc := Below.next hc hq1
      replace c0_0 := box_at c0_0 hq1
      replace c0_1 := box_at c0_1 hq1
      replace c0_2 := box_at c0_2 hq1
      replace c1_0 := box_at c1_0 hq1
      replace c1_1 := box_at c1_1 hq1
      clear hq1
      rw [Hhc1.out]
      go_wp2_with fail
      refine (spec_gExps gr _ [m, r] _ HG.out (OwnI.lit (B := 0) _ (Nat.zero_le _) (l := [m, r]) (AllI64.cons hm (AllI64.cons hr AllI64.nil)) rfl (by simp [maxLen]) 2 rfl).ints).mono ?_
      rintro e u2 ⟨rfl, hq2⟩
      replace hq2 := Below.next (keep_al (Below.refl _ _) _) hq2
      replace hc := Below.next hc hq2
      replace c0_0 := box_at c0_0 hq2
      replace c0_1 := box_at c0_1 hq2
      replace c0_2 := box_at c0_2 hq2
      replace c1_0 := box_at c1_0 hq2
      replace c1_1 := box_at c1_1 hq2
      clear hq2
      rw [Hhc2.out]
      go_wp2_with fail
      go_ret2
      exact ⟨rfl, HB.out.trans (hc.mono HB.out.size)⟩
    | true =>
      have HV : Hid ((.tuple #[.int .i64 (cmR gr bh bl m r), .bool (cmB gr bh bl m r)] : Value) = .tuple #[.int .i64 (coM gr bh m r), .bool true]) := by unfold Hid; have qhc2 := hc2; simp only [List.all_cons, List.all_nil, Bool.and_true] at qhc2; simp [cmR, cmB, hc1, qhc2]
      rw [HV.out]
      have Hhc1 := Lib.hid hc1
      clear hc1
      have Hhc2 := Lib.hid hc2
      clear hc2
      obtain ⟨W, hW⟩ : ∃ W, W = (w.alloc (.cells #[.int .i64 gr.p, .int .i64 gr.q, .int .i64 gr.g] 39)).alloc (.cells #[.int .i64 bh, (.slice bva bvn bvc)] 79) := ⟨_, rfl⟩
      have HB : Hid (Below w.heap.size w W) := by unfold Hid; rw [hW]; (repeat (first | exact Below.refl _ _ | assumption | refine Below.drew ?_ | refine Below.alloc ?_ (by first | (simp; done) | (simp; omega)) _ | refine Below.setCell ?_ (by first | (simp; done) | (simp; omega)) _))
      have c0_0 : W.cell? ⟨w.heap.size, 0, none⟩ = some (.int .i64 gr.p) := by rw [hW]; simp [go_sem]
      have c0_1 : W.cell? ⟨w.heap.size, 1, none⟩ = some (.int .i64 gr.q) := by rw [hW]; simp [go_sem]
      have c0_2 : W.cell? ⟨w.heap.size, 2, none⟩ = some (.int .i64 gr.g) := by rw [hW]; simp [go_sem]
      have c1_0 : W.cell? ⟨w.heap.size + 1, 0, none⟩ = some (.int .i64 bh) := by rw [hW]; simp [go_sem]
      have c1_1 : W.cell? ⟨w.heap.size + 1, 1, none⟩ = some ((.slice bva bvn bvc)) := by rw [hW]; simp [go_sem]
      have HSW : Hid (W.heap.size = w.heap.size + 2) := by unfold Hid; rw [hW]; simp
      go_enter Try.func50, Try.ntmps50
      go_wp2_with fail
      rw [← hW]
      clear hW
      have hc : Below W.heap.size W W := Below.refl _ _
      go_wp2_with fail
      refine (spec_l9Good gr bh _ bl _ (Hbv.out.below (HB.out.trans (hc.mono HB.out.size))) ibh).mono ?_
      rintro e u1 ⟨rfl, hq1⟩
      replace hc := Below.next hc hq1
      replace c0_0 := box_at c0_0 hq1
      replace c0_1 := box_at c0_1 hq1
      replace c0_2 := box_at c0_2 hq1
      replace c1_0 := box_at c1_0 hq1
      replace c1_1 := box_at c1_1 hq1
      clear hq1
      rw [Hhc1.out]
      go_wp2_with fail
      refine (spec_gExps gr _ [m, r] _ HG.out (OwnI.lit (B := 0) _ (Nat.zero_le _) (l := [m, r]) (AllI64.cons hm (AllI64.cons hr AllI64.nil)) rfl (by simp [maxLen]) 2 rfl).ints).mono ?_
      rintro e u2 ⟨rfl, hq2⟩
      replace hq2 := Below.next (keep_al (Below.refl _ _) _) hq2
      replace hc := Below.next hc hq2
      replace c0_0 := box_at c0_0 hq2
      replace c0_1 := box_at c0_1 hq2
      replace c0_2 := box_at c0_2 hq2
      replace c1_0 := box_at c1_0 hq2
      replace c1_1 := box_at c1_1 hq2
      clear hq2
      rw [Hhc2.out]
      go_wp2_with fail
      refine (spec_pCommit gr bh _ bl m r _ HG.out (Hbv.out.below (HB.out.trans (hc.mono HB.out.size))) sbh hm hr).mono ?_
      rintro e u3 ⟨rfl, hq3⟩
      replace hc := Below.next hc hq3
      replace c0_0 := box_at c0_0 hq3
      replace c0_1 := box_at c0_1 hq3
      replace c0_2 := box_at c0_2 hq3
      replace c1_0 := box_at c1_0 hq3
      replace c1_1 := box_at c1_1 hq3
      clear hq3
      go_wp2_with fail
      go_ret2
      exact ⟨rfl, HB.out.trans (hc.mono HB.out.size)⟩
theorem cmB_parts {gr : GroupD} {bh m r : Int} {bl : List Int} (h : cmB gr bh bl m r = true) : baB gr bh bl = true ∧ expB gr m = true ∧ expB gr r = true := by
  unfold cmB at h
  simp only [Bool.and_eq_true] at h
  exact ⟨h.1, h.2.1, h.2.2⟩
set_option maxRecDepth 100000 in
set_option maxHeartbeats 2000000 in
theorem impl_CheckOpening (gr : GroupD) (bh : Int) (bv : Value) (bl : List Int) (c0 m r : Int) (w : World) (hb : Ints w bv bl) (ibh : I64 bh) (hm : I64 m) (hr : I64 r) :
    Calls Try.prog 51 #[.agg #[.int .i64 gr.p, .int .i64 gr.q, .int .i64 gr.g], .agg #[.int .i64 bh, bv], .int .i64 c0, .int .i64 m, .int .i64 r] w fun e w' => e = .returned (.tuple #[.bool (coR gr bh bl c0 m r), .bool (coB gr bh bl c0 m r)]) ∧ Below w.heap.size w w' := by
  obtain ⟨bva, bvn, bvc, rfl⟩ := hb.shape
  have Ebv := Lib.hid hb.len
  have Kbv := Lib.hid hb.capMax
  have Hbv := Lib.hid hb
  clear hb
  cases hc1 : cmB gr bh bl m r with
  | false =>
    have HV : Hid ((.tuple #[.bool (coR gr bh bl c0 m r), .bool (coB gr bh bl c0 m r)] : Value) = .tuple #[.bool false, .bool false]) := by unfold Hid; simp [coR, coB, hc1]
    rw [HV.out]
    have Hhc1 := Lib.hid hc1
    clear hc1
    obtain ⟨W, hW⟩ : ∃ W, W = (w.alloc (.cells #[.int .i64 gr.p, .int .i64 gr.q, .int .i64 gr.g] 39)).alloc (.cells #[.int .i64 bh, (.slice bva bvn bvc)] 79) := ⟨_, rfl⟩
    have HB : Hid (Below w.heap.size w W) := by unfold Hid; rw [hW]; (repeat (first | exact Below.refl _ _ | assumption | refine Below.drew ?_ | refine Below.alloc ?_ (by first | (simp; done) | (simp; omega)) _ | refine Below.setCell ?_ (by first | (simp; done) | (simp; omega)) _))
    have c0_0 : W.cell? ⟨w.heap.size, 0, none⟩ = some (.int .i64 gr.p) := by rw [hW]; simp [go_sem]
    have c0_1 : W.cell? ⟨w.heap.size, 1, none⟩ = some (.int .i64 gr.q) := by rw [hW]; simp [go_sem]
    have c0_2 : W.cell? ⟨w.heap.size, 2, none⟩ = some (.int .i64 gr.g) := by rw [hW]; simp [go_sem]
    have c1_0 : W.cell? ⟨w.heap.size + 1, 0, none⟩ = some (.int .i64 bh) := by rw [hW]; simp [go_sem]
    have c1_1 : W.cell? ⟨w.heap.size + 1, 1, none⟩ = some ((.slice bva bvn bvc)) := by rw [hW]; simp [go_sem]
    have HSW : Hid (W.heap.size = w.heap.size + 2) := by unfold Hid; rw [hW]; simp
    go_enter Try.func51, Try.ntmps51
    go_wp2_with fail
    rw [← hW]
    clear hW
    have hc : Below W.heap.size W W := Below.refl _ _
    go_wp2_with fail
    refine (impl_Commit gr bh _ bl m r _ (Hbv.out.below (HB.out.trans (hc.mono HB.out.size))) ibh hm hr).mono ?_
    rintro e u1 ⟨rfl, hq1⟩
    replace hc := Below.next hc hq1
    replace c0_0 := box_at c0_0 hq1
    replace c0_1 := box_at c0_1 hq1
    replace c0_2 := box_at c0_2 hq1
    replace c1_0 := box_at c1_0 hq1
    replace c1_1 := box_at c1_1 hq1
    clear hq1
    rw [Hhc1.out]
    go_wp2_with fail
    go_ret2
    exact ⟨rfl, HB.out.trans (hc.mono HB.out.size)⟩
  | true =>
    have HG := Lib.hid (goodG_ok (baB_parts (cmB_parts hc1).1).1)
    cases hc2 : elB gr c0 with
    | false =>
      have HV : Hid ((.tuple #[.bool (coR gr bh bl c0 m r), .bool (coB gr bh bl c0 m r)] : Value) = .tuple #[.bool false, .bool false]) := by unfold Hid; simp [coR, coB, hc1, hc2]
      rw [HV.out]
      have Hhc1 := Lib.hid hc1
      clear hc1
      have Hhc2 := Lib.hid hc2
      clear hc2
      obtain ⟨W, hW⟩ : ∃ W, W = (w.alloc (.cells #[.int .i64 gr.p, .int .i64 gr.q, .int .i64 gr.g] 39)).alloc (.cells #[.int .i64 bh, (.slice bva bvn bvc)] 79) := ⟨_, rfl⟩
      have HB : Hid (Below w.heap.size w W) := by unfold Hid; rw [hW]; (repeat (first | exact Below.refl _ _ | assumption | refine Below.drew ?_ | refine Below.alloc ?_ (by first | (simp; done) | (simp; omega)) _ | refine Below.setCell ?_ (by first | (simp; done) | (simp; omega)) _))
      have c0_0 : W.cell? ⟨w.heap.size, 0, none⟩ = some (.int .i64 gr.p) := by rw [hW]; simp [go_sem]
      have c0_1 : W.cell? ⟨w.heap.size, 1, none⟩ = some (.int .i64 gr.q) := by rw [hW]; simp [go_sem]
      have c0_2 : W.cell? ⟨w.heap.size, 2, none⟩ = some (.int .i64 gr.g) := by rw [hW]; simp [go_sem]
      have c1_0 : W.cell? ⟨w.heap.size + 1, 0, none⟩ = some (.int .i64 bh) := by rw [hW]; simp [go_sem]
      have c1_1 : W.cell? ⟨w.heap.size + 1, 1, none⟩ = some ((.slice bva bvn bvc)) := by rw [hW]; simp [go_sem]
      have HSW : Hid (W.heap.size = w.heap.size + 2) := by unfold Hid; rw [hW]; simp
      go_enter Try.func51, Try.ntmps51
      go_wp2_with fail
      rw [← hW]
      clear hW
      have hc : Below W.heap.size W W := Below.refl _ _
      go_wp2_with fail
      refine (impl_Commit gr bh _ bl m r _ (Hbv.out.below (HB.out.trans (hc.mono HB.out.size))) ibh hm hr).mono ?_
      rintro e u1 ⟨rfl, hq1⟩
      replace hc := Below.next hc hq1
      replace c0_0 := box_at c0_0 hq1
      replace c0_1 := box_at c0_1 hq1
      replace c0_2 := box_at c0_2 hq1
      replace c1_0 := box_at c1_0 hq1
      replace c1_1 := box_at c1_1 hq1
      clear hq1
      rw [Hhc1.out]
      go_wp2_with fail
      refine (impl_has gr c0 _ HG.out).mono ?_
      rintro e u2 ⟨rfl, hq2⟩
      replace hc := Below.next hc hq2
      replace c0_0 := box_at c0_0 hq2
      replace c0_1 := box_at c0_1 hq2
      replace c0_2 := box_at c0_2 hq2
      replace c1_0 := box_at c1_0 hq2
      replace c1_1 := box_at c1_1 hq2
      clear hq2
      rw [Hhc2.out]
      go_wp2_with fail
      go_ret2
      exact ⟨rfl, HB.out.trans (hc.mono HB.out.size)⟩
    | true =>
      have HV : Hid ((.tuple #[.bool (coR gr bh bl c0 m r), .bool (coB gr bh bl c0 m r)] : Value) = .tuple #[.bool (cmR gr bh bl m r == c0), .bool true]) := by unfold Hid; simp [coR, coB, hc1, hc2]
      rw [HV.out]
      have Hhc1 := Lib.hid hc1
      clear hc1
      have Hhc2 := Lib.hid hc2
      clear hc2
      obtain ⟨W, hW⟩ : ∃ W, W = (w.alloc (.cells #[.int .i64 gr.p, .int .i64 gr.q, .int .i64 gr.g] 39)).alloc (.cells #[.int .i64 bh, (.slice bva bvn bvc)] 79) := ⟨_, rfl⟩
      have HB : Hid (Below w.heap.size w W) := by unfold Hid; rw [hW]; (repeat (first | exact Below.refl _ _ | assumption | refine Below.drew ?_ | refine Below.alloc ?_ (by first | (simp; done) | (simp; omega)) _ | refine Below.setCell ?_ (by first | (simp; done) | (simp; omega)) _))
      have c0_0 : W.cell? ⟨w.heap.size, 0, none⟩ = some (.int .i64 gr.p) := by rw [hW]; simp [go_sem]
      have c0_1 : W.cell? ⟨w.heap.size, 1, none⟩ = some (.int .i64 gr.q) := by rw [hW]; simp [go_sem]
      have c0_2 : W.cell? ⟨w.heap.size, 2, none⟩ = some (.int .i64 gr.g) := by rw [hW]; simp [go_sem]
      have c1_0 : W.cell? ⟨w.heap.size + 1, 0, none⟩ = some (.int .i64 bh) := by rw [hW]; simp [go_sem]
      have c1_1 : W.cell? ⟨w.heap.size + 1, 1, none⟩ = some ((.slice bva bvn bvc)) := by rw [hW]; simp [go_sem]
      have HSW : Hid (W.heap.size = w.heap.size + 2) := by unfold Hid; rw [hW]; simp
      go_enter Try.func51, Try.ntmps51
      go_wp2_with fail
      rw [← hW]
      clear hW
      have hc : Below W.heap.size W W := Below.refl _ _
      go_wp2_with fail
      refine (impl_Commit gr bh _ bl m r _ (Hbv.out.below (HB.out.trans (hc.mono HB.out.size))) ibh hm hr).mono ?_
      rintro e u1 ⟨rfl, hq1⟩
      replace hc := Below.next hc hq1
      replace c0_0 := box_at c0_0 hq1
      replace c0_1 := box_at c0_1 hq1
      replace c0_2 := box_at c0_2 hq1
      replace c1_0 := box_at c1_0 hq1
      replace c1_1 := box_at c1_1 hq1
      clear hq1
      rw [Hhc1.out]
      go_wp2_with fail
      refine (impl_has gr c0 _ HG.out).mono ?_
      rintro e u2 ⟨rfl, hq2⟩
      replace hc := Below.next hc hq2
      replace c0_0 := box_at c0_0 hq2
      replace c0_1 := box_at c0_1 hq2
      replace c0_2 := box_at c0_2 hq2
      replace c1_0 := box_at c1_0 hq2
      replace c1_1 := box_at c1_1 hq2
      clear hq2
      rw [Hhc2.out]
      go_wp2_with fail
      go_ret2
      exact ⟨rfl, HB.out.trans (hc.mono HB.out.size)⟩
noncomputable def ccB (gr : GroupD) (l es : List Int) : Bool := decide (0 < l.length) && ppB gr l es
noncomputable def ccR (gr : GroupD) (l es : List Int) : Int := if 0 < l.length then ppR gr l es else 0
set_option maxRecDepth 100000 in
set_option maxHeartbeats 2000000 in
theorem impl_CombineCommits (gr : GroupD) (v : Value) (l : List Int) (v2 : Value) (es : List Int) (w : World) (h : Ints w v l) (h2 : Ints w v2 es) :
    Calls Try.prog 52 #[.agg #[.int .i64 gr.p, .int .i64 gr.q, .int .i64 gr.g], v, v2] w fun e w' => e = .returned (.tuple #[.int .i64 (ccR gr l es), .bool (ccB gr l es)]) ∧ Below w.heap.size w w' := by
  obtain ⟨va, vn, vc, rfl⟩ := h.shape
  have Ev := Lib.hid h.len
  have Kv := Lib.hid h.capMax
  have Hv := Lib.hid h
  clear h
  obtain ⟨v2a, v2n, v2c, rfl⟩ := h2.shape
  have Ev2 := Lib.hid h2.len
  have Kv2 := Lib.hid h2.capMax
  have Hv2 := Lib.hid h2
  clear h2
  cases hc1 : ((vn : Int) == 0) with
  | false =>
    have HL0 : Hid (0 < l.length) := by have e1 := Ev.out; have q : ¬ (vn : Int) = 0 := (by simpa using hc1); unfold Hid; omega
    have HV : Hid ((.tuple #[.int .i64 (ccR gr l es), .bool (ccB gr l es)] : Value) = .tuple #[.int .i64 (ppR gr l es), .bool (ppB gr l es)]) := by unfold Hid; simp [ccR, ccB, hc1, HL0.out]
    rw [HV.out]
    obtain ⟨W, hW⟩ : ∃ W, W = w.alloc (.cells #[.int .i64 gr.p, .int .i64 gr.q, .int .i64 gr.g] 39) := ⟨_, rfl⟩
    have HB : Hid (Below w.heap.size w W) := by unfold Hid; rw [hW]; (repeat (first | exact Below.refl _ _ | assumption | refine Below.drew ?_ | refine Below.alloc ?_ (by first | (simp; done) | (simp; omega)) _ | refine Below.setCell ?_ (by first | (simp; done) | (simp; omega)) _))
    have c0_0 : W.cell? ⟨w.heap.size, 0, none⟩ = some (.int .i64 gr.p) := by rw [hW]; simp [go_sem]
    have c0_1 : W.cell? ⟨w.heap.size, 1, none⟩ = some (.int .i64 gr.q) := by rw [hW]; simp [go_sem]
    have c0_2 : W.cell? ⟨w.heap.size, 2, none⟩ = some (.int .i64 gr.g) := by rw [hW]; simp [go_sem]
    have HSW : Hid (W.heap.size = w.heap.size + 1) := by unfold Hid; rw [hW]; simp
    go_enter Try.func52, Try.ntmps52
    go_wp2_with fail
    rw [← hW]
    clear hW
    have hc : Below W.heap.size W W := Below.refl _ _
    go_wp2_with fail
    refine (impl_ProductOfPowers gr _ _ l es _ (Hv.out.below (HB.out.trans (hc.mono HB.out.size))) (Hv2.out.below (HB.out.trans (hc.mono HB.out.size)))).mono ?_
    rintro e u1 ⟨rfl, hq1⟩
    replace hc := Below.next hc hq1
    replace c0_0 := box_at c0_0 hq1
    replace c0_1 := box_at c0_1 hq1
    replace c0_2 := box_at c0_2 hq1
    clear hq1
    go_wp2_with fail
    go_ret2
    exact ⟨rfl, HB.out.trans (hc.mono HB.out.size)⟩
  | true =>
    have HL0 : Hid (¬ 0 < l.length) := by have e1 := Ev.out; have q : (vn : Int) = 0 := (by simpa using hc1); unfold Hid; omega
    have HV : Hid ((.tuple #[.int .i64 (ccR gr l es), .bool (ccB gr l es)] : Value) = .tuple #[.int .i64 0, .bool false]) := by unfold Hid; simp [ccR, ccB, hc1, HL0.out]
    rw [HV.out]
    go_enter Try.func52, Try.ntmps52
    go_wp2_with fail
    go_ret2
    exact ⟨rfl, by (repeat (first | exact Below.refl _ _ | assumption | refine Below.drew ?_ | refine Below.alloc ?_ (by first | (simp; done) | (simp; omega)) _ | refine Below.setCell ?_ (by first | (simp; done) | (simp; omega)) _))⟩
end Go.Proofs.Ytboahnklilmdpaa
