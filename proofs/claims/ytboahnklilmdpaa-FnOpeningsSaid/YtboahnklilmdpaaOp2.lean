/- Proofs of openings checked: walks (printed by gen_op2.py). -/
import Derived.Test.YtboahnklilmdpaaOp1
namespace Go.Proofs.Ytboahnklilmdpaa
open Go.RowKit
set_option linter.unusedSimpArgs false
set_option linter.unusedVariables false

theorem voR_P (gr : GroupD) (s : ByteArray) (bh : Int) (bl : List Int) (c : Int) (d : ProofD) : voR gr s bh bl c d = (voA gr bh bl c && voP gr s bh c d) := by
  unfold voR
  cases h : voA gr bh bl c with
  | false => rfl
  | true =>
    have h2 := h
    unfold voA at h2
    rw [Bool.and_eq_true] at h2
    rw [voP_eq (goodG_ok (baB_parts h2.1).1)]
theorem fmB_parts {gr : GroupD} {d : ProofD} {a b c : Nat} (h : fmB gr d a b c = true) : d.c.length = a ∧ d.h.length = b ∧ d.r.length = c ∧ d.c.all (elB gr) = true ∧ d.h.all (expB gr) = true ∧ d.r.all (expB gr) = true := by
  unfold fmB at h
  simp only [Bool.and_eq_true, decide_eq_true_iff] at h
  exact ⟨h.1, h.2.1, h.2.2.1, h.2.2.2.1, h.2.2.2.2.1, h.2.2.2.2.2⟩
set_option maxRecDepth 100000 in
set_option maxHeartbeats 2000000 in
theorem spec_l9Form (gr : GroupD) (pv : Value) (d : ProofD) (na nb nc : Nat) (w : World) (hg : OkG gr) (hp : PfR w pv d) :
    Calls Try.prog 210 #[.agg #[.int .i64 gr.p, .int .i64 gr.q, .int .i64 gr.g], pv, .int .i64 (na : Int), .int .i64 (nb : Int), .int .i64 (nc : Int)] w fun e w' => e = .returned (.bool (fmB gr d na nb nc)) ∧ Below w.heap.size w w' := by
  have HG := Lib.hid hg
  clear hg
  obtain ⟨xcv, xhv, xrv, rfl, hxc, hxh, hxr⟩ := hp
  obtain ⟨xca, xcn, xcc, rfl⟩ := hxc.shape
  have Exc := Lib.hid hxc.len
  have Kxc := Lib.hid hxc.capMax
  have Hxc := Lib.hid hxc
  clear hxc
  obtain ⟨xha, xhn, xhc, rfl⟩ := hxh.shape
  have Exh := Lib.hid hxh.len
  have Kxh := Lib.hid hxh.capMax
  have Hxh := Lib.hid hxh
  clear hxh
  obtain ⟨xra, xrn, xrc, rfl⟩ := hxr.shape
  have Exr := Lib.hid hxr.len
  have Kxr := Lib.hid hxr.capMax
  have Hxr := Lib.hid hxr
  clear hxr
  cases hc1 : ((xcn : Int) == (na : Int)) with
  | false =>
    have HLxc : Hid (decide (d.c.length = na) = false) := by have q := hc1; rw [beq_eq_false_iff_ne] at q; exact decide_eq_false (by have := Exc.out; omega)
    have HV : Hid ((.bool (fmB gr d na nb nc) : Value) = .bool false) := by unfold Hid; simp [fmB, hc1, HLxc.out]
    rw [HV.out]
    go_enter Try.func210, Try.ntmps210
    go_wp2_with fail
    go_ret
    exact ⟨rfl, by (repeat (first | exact Below.refl _ _ | assumption | refine Below.drew ?_ | refine Below.alloc ?_ (by first | (simp; done) | (simp; omega)) _ | refine Below.setCell ?_ (by first | (simp; done) | (simp; omega)) _))⟩
  | true =>
    have HLxc : Hid (decide (d.c.length = na) = true) := by have q := hc1; rw [beq_iff_eq] at q; exact decide_eq_true (by have := Exc.out; omega)
    cases hc2 : ((xhn : Int) == (nb : Int)) with
    | false =>
      have HLxh : Hid (decide (d.h.length = nb) = false) := by have q := hc2; rw [beq_eq_false_iff_ne] at q; exact decide_eq_false (by have := Exh.out; omega)
      have HV : Hid ((.bool (fmB gr d na nb nc) : Value) = .bool false) := by unfold Hid; simp [fmB, hc1, hc2, HLxc.out, HLxh.out]
      rw [HV.out]
      go_enter Try.func210, Try.ntmps210
      go_wp2_with fail
      go_ret
      exact ⟨rfl, by (repeat (first | exact Below.refl _ _ | assumption | refine Below.drew ?_ | refine Below.alloc ?_ (by first | (simp; done) | (simp; omega)) _ | refine Below.setCell ?_ (by first | (simp; done) | (simp; omega)) _))⟩
    | true =>
      have HLxh : Hid (decide (d.h.length = nb) = true) := by have q := hc2; rw [beq_iff_eq] at q; exact decide_eq_true (by have := Exh.out; omega)
      cases hc3 : ((xrn : Int) == (nc : Int)) with
      | false =>
        have HLxr : Hid (decide (d.r.length = nc) = false) := by have q := hc3; rw [beq_eq_false_iff_ne] at q; exact decide_eq_false (by have := Exr.out; omega)
        have HV : Hid ((.bool (fmB gr d na nb nc) : Value) = .bool false) := by unfold Hid; simp [fmB, hc1, hc2, hc3, HLxc.out, HLxh.out, HLxr.out]
        rw [HV.out]
        go_enter Try.func210, Try.ntmps210
        go_wp2_with fail
        go_ret
        exact ⟨rfl, by (repeat (first | exact Below.refl _ _ | assumption | refine Below.drew ?_ | refine Below.alloc ?_ (by first | (simp; done) | (simp; omega)) _ | refine Below.setCell ?_ (by first | (simp; done) | (simp; omega)) _))⟩
      | true =>
        have HLxr : Hid (decide (d.r.length = nc) = true) := by have q := hc3; rw [beq_iff_eq] at q; exact decide_eq_true (by have := Exr.out; omega)
        cases hc4 : d.c.all (elB gr) with
        | false =>
          have HV : Hid ((.bool (fmB gr d na nb nc) : Value) = .bool false) := by unfold Hid; simp [fmB, hc1, hc2, hc3, hc4, HLxc.out, HLxh.out, HLxr.out]
          rw [HV.out]
          have Hhc4 := Lib.hid hc4
          clear hc4
          obtain ⟨W, hW⟩ : ∃ W, W = (w.alloc (.cells #[.int .i64 gr.p, .int .i64 gr.q, .int .i64 gr.g] 39)).alloc (.cells #[(.slice xca xcn xcc), (.slice xha xhn xhc), (.slice xra xrn xrc)] 42) := ⟨_, rfl⟩
          have HB : Hid (Below w.heap.size w W) := by unfold Hid; rw [hW]; (repeat (first | exact Below.refl _ _ | assumption | refine Below.drew ?_ | refine Below.alloc ?_ (by first | (simp; done) | (simp; omega)) _ | refine Below.setCell ?_ (by first | (simp; done) | (simp; omega)) _))
          have c0_0 : W.cell? ⟨w.heap.size, 0, none⟩ = some (.int .i64 gr.p) := by rw [hW]; simp [go_sem]
          have c0_1 : W.cell? ⟨w.heap.size, 1, none⟩ = some (.int .i64 gr.q) := by rw [hW]; simp [go_sem]
          have c0_2 : W.cell? ⟨w.heap.size, 2, none⟩ = some (.int .i64 gr.g) := by rw [hW]; simp [go_sem]
          have c1_0 : W.cell? ⟨w.heap.size + 1, 0, none⟩ = some ((.slice xca xcn xcc)) := by rw [hW]; simp [go_sem]
          have c1_1 : W.cell? ⟨w.heap.size + 1, 1, none⟩ = some ((.slice xha xhn xhc)) := by rw [hW]; simp [go_sem]
          have c1_2 : W.cell? ⟨w.heap.size + 1, 2, none⟩ = some ((.slice xra xrn xrc)) := by rw [hW]; simp [go_sem]
          have HSW : Hid (W.heap.size = w.heap.size + 2) := by unfold Hid; rw [hW]; simp
          go_enter Try.func210, Try.ntmps210
          go_wp2_with fail
          rw [← hW]
          have hse : w.heap.size + 1 + 1 = W.heap.size := by have := HSW.out; omega
          (try rw [hse])
          clear hse
          clear hW
          have hc : Below W.heap.size W W := Below.refl _ _
          go_wp2_with fail
          refine (spec_gIs gr _ d.c _ HG.out (Hxc.out.below (HB.out.trans (hc.mono HB.out.size)))).mono ?_
          rintro e u1 ⟨rfl, hq1⟩
          replace hc := Below.next hc hq1
          replace c0_0 := box_at c0_0 hq1
          replace c0_1 := box_at c0_1 hq1
          replace c0_2 := box_at c0_2 hq1
          replace c1_0 := box_at c1_0 hq1
          replace c1_1 := box_at c1_1 hq1
          replace c1_2 := box_at c1_2 hq1
          clear hq1
          rw [Hhc4.out]
          go_wp2_with fail
          go_ret
          exact ⟨rfl, HB.out.trans (hc.mono HB.out.size)⟩
        | true =>
          cases hc5 : d.h.all (expB gr) with
          | false =>
            have HV : Hid ((.bool (fmB gr d na nb nc) : Value) = .bool false) := by unfold Hid; simp [fmB, hc1, hc2, hc3, hc4, hc5, HLxc.out, HLxh.out, HLxr.out]
            rw [HV.out]
            have Hhc4 := Lib.hid hc4
            clear hc4
            have Hhc5 := Lib.hid hc5
            clear hc5
            obtain ⟨W, hW⟩ : ∃ W, W = (w.alloc (.cells #[.int .i64 gr.p, .int .i64 gr.q, .int .i64 gr.g] 39)).alloc (.cells #[(.slice xca xcn xcc), (.slice xha xhn xhc), (.slice xra xrn xrc)] 42) := ⟨_, rfl⟩
            have HB : Hid (Below w.heap.size w W) := by unfold Hid; rw [hW]; (repeat (first | exact Below.refl _ _ | assumption | refine Below.drew ?_ | refine Below.alloc ?_ (by first | (simp; done) | (simp; omega)) _ | refine Below.setCell ?_ (by first | (simp; done) | (simp; omega)) _))
            have c0_0 : W.cell? ⟨w.heap.size, 0, none⟩ = some (.int .i64 gr.p) := by rw [hW]; simp [go_sem]
            have c0_1 : W.cell? ⟨w.heap.size, 1, none⟩ = some (.int .i64 gr.q) := by rw [hW]; simp [go_sem]
            have c0_2 : W.cell? ⟨w.heap.size, 2, none⟩ = some (.int .i64 gr.g) := by rw [hW]; simp [go_sem]
            have c1_0 : W.cell? ⟨w.heap.size + 1, 0, none⟩ = some ((.slice xca xcn xcc)) := by rw [hW]; simp [go_sem]
            have c1_1 : W.cell? ⟨w.heap.size + 1, 1, none⟩ = some ((.slice xha xhn xhc)) := by rw [hW]; simp [go_sem]
            have c1_2 : W.cell? ⟨w.heap.size + 1, 2, none⟩ = some ((.slice xra xrn xrc)) := by rw [hW]; simp [go_sem]
            have HSW : Hid (W.heap.size = w.heap.size + 2) := by unfold Hid; rw [hW]; simp
            go_enter Try.func210, Try.ntmps210
            go_wp2_with fail
            rw [← hW]
            have hse : w.heap.size + 1 + 1 = W.heap.size := by have := HSW.out; omega
            (try rw [hse])
            clear hse
            clear hW
            have hc : Below W.heap.size W W := Below.refl _ _
            go_wp2_with fail
            refine (spec_gIs gr _ d.c _ HG.out (Hxc.out.below (HB.out.trans (hc.mono HB.out.size)))).mono ?_
            rintro e u1 ⟨rfl, hq1⟩
            replace hc := Below.next hc hq1
            replace c0_0 := box_at c0_0 hq1
            replace c0_1 := box_at c0_1 hq1
            replace c0_2 := box_at c0_2 hq1
            replace c1_0 := box_at c1_0 hq1
            replace c1_1 := box_at c1_1 hq1
            replace c1_2 := box_at c1_2 hq1
            clear hq1
            rw [Hhc4.out]
            go_wp2_with fail
            refine (spec_gExps gr _ d.h _ HG.out (Hxh.out.below (HB.out.trans (hc.mono HB.out.size)))).mono ?_
            rintro e u2 ⟨rfl, hq2⟩
            replace hc := Below.next hc hq2
            replace c0_0 := box_at c0_0 hq2
            replace c0_1 := box_at c0_1 hq2
            replace c0_2 := box_at c0_2 hq2
            replace c1_0 := box_at c1_0 hq2
            replace c1_1 := box_at c1_1 hq2
            replace c1_2 := box_at c1_2 hq2
            clear hq2
            rw [Hhc5.out]
            go_wp2_with fail
            go_ret
            exact ⟨rfl, HB.out.trans (hc.mono HB.out.size)⟩
          | true =>
            cases hc6 : d.r.all (expB gr) with
            | false =>
              have HV : Hid ((.bool (fmB gr d na nb nc) : Value) = .bool false) := by unfold Hid; simp [fmB, hc1, hc2, hc3, hc4, hc5, hc6, HLxc.out, HLxh.out, HLxr.out]
              rw [HV.out]
              have Hhc4 := Lib.hid hc4
              clear hc4
              have Hhc5 := Lib.hid hc5
              clear hc5
              have Hhc6 := Lib.hid hc6
              clear hc6
              obtain ⟨W, hW⟩ : ∃ W, W = (w.alloc (.cells #[.int .i64 gr.p, .int .i64 gr.q, .int .i64 gr.g] 39)).alloc (.cells #[(.slice xca xcn xcc), (.slice xha xhn xhc), (.slice xra xrn xrc)] 42) := ⟨_, rfl⟩
              have HB : Hid (Below w.heap.size w W) := by unfold Hid; rw [hW]; (repeat (first | exact Below.refl _ _ | assumption | refine Below.drew ?_ | refine Below.alloc ?_ (by first | (simp; done) | (simp; omega)) _ | refine Below.setCell ?_ (by first | (simp; done) | (simp; omega)) _))
              have c0_0 : W.cell? ⟨w.heap.size, 0, none⟩ = some (.int .i64 gr.p) := by rw [hW]; simp [go_sem]
              have c0_1 : W.cell? ⟨w.heap.size, 1, none⟩ = some (.int .i64 gr.q) := by rw [hW]; simp [go_sem]
              have c0_2 : W.cell? ⟨w.heap.size, 2, none⟩ = some (.int .i64 gr.g) := by rw [hW]; simp [go_sem]
              have c1_0 : W.cell? ⟨w.heap.size + 1, 0, none⟩ = some ((.slice xca xcn xcc)) := by rw [hW]; simp [go_sem]
              have c1_1 : W.cell? ⟨w.heap.size + 1, 1, none⟩ = some ((.slice xha xhn xhc)) := by rw [hW]; simp [go_sem]
              have c1_2 : W.cell? ⟨w.heap.size + 1, 2, none⟩ = some ((.slice xra xrn xrc)) := by rw [hW]; simp [go_sem]
              have HSW : Hid (W.heap.size = w.heap.size + 2) := by unfold Hid; rw [hW]; simp
              go_enter Try.func210, Try.ntmps210
              go_wp2_with fail
              rw [← hW]
              have hse : w.heap.size + 1 + 1 = W.heap.size := by have := HSW.out; omega
              (try rw [hse])
              clear hse
              clear hW
              have hc : Below W.heap.size W W := Below.refl _ _
              go_wp2_with fail
              refine (spec_gIs gr _ d.c _ HG.out (Hxc.out.below (HB.out.trans (hc.mono HB.out.size)))).mono ?_
              rintro e u1 ⟨rfl, hq1⟩
              replace hc := Below.next hc hq1
              replace c0_0 := box_at c0_0 hq1
              replace c0_1 := box_at c0_1 hq1
              replace c0_2 := box_at c0_2 hq1
              replace c1_0 := box_at c1_0 hq1
              replace c1_1 := box_at c1_1 hq1
              replace c1_2 := box_at c1_2 hq1
              clear hq1
              rw [Hhc4.out]
              go_wp2_with fail
              refine (spec_gExps gr _ d.h _ HG.out (Hxh.out.below (HB.out.trans (hc.mono HB.out.size)))).mono ?_
              rintro e u2 ⟨rfl, hq2⟩
              replace hc := Below.next hc hq2
              replace c0_0 := box_at c0_0 hq2
              replace c0_1 := box_at c0_1 hq2
              replace c0_2 := box_at c0_2 hq2
              replace c1_0 := box_at c1_0 hq2
              replace c1_1 := box_at c1_1 hq2
              replace c1_2 := box_at c1_2 hq2
              clear hq2
              rw [Hhc5.out]
              go_wp2_with fail
              refine (spec_gExps gr _ d.r _ HG.out (Hxr.out.below (HB.out.trans (hc.mono HB.out.size)))).mono ?_
              rintro e u3 ⟨rfl, hq3⟩
              replace hc := Below.next hc hq3
              replace c0_0 := box_at c0_0 hq3
              replace c0_1 := box_at c0_1 hq3
              replace c0_2 := box_at c0_2 hq3
              replace c1_0 := box_at c1_0 hq3
              replace c1_1 := box_at c1_1 hq3
              replace c1_2 := box_at c1_2 hq3
              clear hq3
              rw [Hhc6.out]
              go_wp2_with fail
              go_ret
              exact ⟨rfl, HB.out.trans (hc.mono HB.out.size)⟩
            | true =>
              have HV : Hid ((.bool (fmB gr d na nb nc) : Value) = .bool true) := by unfold Hid; simp [fmB, hc1, hc2, hc3, hc4, hc5, hc6, HLxc.out, HLxh.out, HLxr.out]
              rw [HV.out]
              have Hhc4 := Lib.hid hc4
              clear hc4
              have Hhc5 := Lib.hid hc5
              clear hc5
              have Hhc6 := Lib.hid hc6
              clear hc6
              obtain ⟨W, hW⟩ : ∃ W, W = (w.alloc (.cells #[.int .i64 gr.p, .int .i64 gr.q, .int .i64 gr.g] 39)).alloc (.cells #[(.slice xca xcn xcc), (.slice xha xhn xhc), (.slice xra xrn xrc)] 42) := ⟨_, rfl⟩
              have HB : Hid (Below w.heap.size w W) := by unfold Hid; rw [hW]; (repeat (first | exact Below.refl _ _ | assumption | refine Below.drew ?_ | refine Below.alloc ?_ (by first | (simp; done) | (simp; omega)) _ | refine Below.setCell ?_ (by first | (simp; done) | (simp; omega)) _))
              have c0_0 : W.cell? ⟨w.heap.size, 0, none⟩ = some (.int .i64 gr.p) := by rw [hW]; simp [go_sem]
              have c0_1 : W.cell? ⟨w.heap.size, 1, none⟩ = some (.int .i64 gr.q) := by rw [hW]; simp [go_sem]
              have c0_2 : W.cell? ⟨w.heap.size, 2, none⟩ = some (.int .i64 gr.g) := by rw [hW]; simp [go_sem]
              have c1_0 : W.cell? ⟨w.heap.size + 1, 0, none⟩ = some ((.slice xca xcn xcc)) := by rw [hW]; simp [go_sem]
              have c1_1 : W.cell? ⟨w.heap.size + 1, 1, none⟩ = some ((.slice xha xhn xhc)) := by rw [hW]; simp [go_sem]
              have c1_2 : W.cell? ⟨w.heap.size + 1, 2, none⟩ = some ((.slice xra xrn xrc)) := by rw [hW]; simp [go_sem]
              have HSW : Hid (W.heap.size = w.heap.size + 2) := by unfold Hid; rw [hW]; simp
              go_enter Try.func210, Try.ntmps210
              go_wp2_with fail
              rw [← hW]
              have hse : w.heap.size + 1 + 1 = W.heap.size := by have := HSW.out; omega
              (try rw [hse])
              clear hse
              clear hW
              have hc : Below W.heap.size W W := Below.refl _ _
              go_wp2_with fail
              refine (spec_gIs gr _ d.c _ HG.out (Hxc.out.below (HB.out.trans (hc.mono HB.out.size)))).mono ?_
              rintro e u1 ⟨rfl, hq1⟩
              replace hc := Below.next hc hq1
              replace c0_0 := box_at c0_0 hq1
              replace c0_1 := box_at c0_1 hq1
              replace c0_2 := box_at c0_2 hq1
              replace c1_0 := box_at c1_0 hq1
              replace c1_1 := box_at c1_1 hq1
              replace c1_2 := box_at c1_2 hq1
              clear hq1
              rw [Hhc4.out]
              go_wp2_with fail
              refine (spec_gExps gr _ d.h _ HG.out (Hxh.out.below (HB.out.trans (hc.mono HB.out.size)))).mono ?_
              rintro e u2 ⟨rfl, hq2⟩
              replace hc := Below.next hc hq2
              replace c0_0 := box_at c0_0 hq2
              replace c0_1 := box_at c0_1 hq2
              replace c0_2 := box_at c0_2 hq2
              replace c1_0 := box_at c1_0 hq2
              replace c1_1 := box_at c1_1 hq2
              replace c1_2 := box_at c1_2 hq2
              clear hq2
              rw [Hhc5.out]
              go_wp2_with fail
              refine (spec_gExps gr _ d.r _ HG.out (Hxr.out.below (HB.out.trans (hc.mono HB.out.size)))).mono ?_
              rintro e u3 ⟨rfl, hq3⟩
              replace hc := Below.next hc hq3
              replace c0_0 := box_at c0_0 hq3
              replace c0_1 := box_at c0_1 hq3
              replace c0_2 := box_at c0_2 hq3
              replace c1_0 := box_at c1_0 hq3
              replace c1_1 := box_at c1_1 hq3
              replace c1_2 := box_at c1_2 hq3
              clear hq3
              rw [Hhc6.out]
              go_wp2_with fail
              go_ret
              exact ⟨rfl, HB.out.trans (hc.mono HB.out.size)⟩
set_option maxRecDepth 100000 in
set_option maxHeartbeats 2000000 in
theorem spec_pOpening (gr : GroupD) (bh : Int) (bv : Value) (bl : List Int) (c0 : Int) (pv : Value) (d : ProofD) (w : World) (hg : OkG gr) (hb : Ints w bv bl) (hp : PfR w pv d) (sbh : Small bh) (sc0 : Small c0) :
    Calls Try.prog 203 #[.agg #[.int .i64 gr.p, .int .i64 gr.q, .int .i64 gr.g], .agg #[.int .i64 bh, bv], .int .i64 c0, pv] w fun e w' => e = .returned (.bool (voV gr sOpen bh c0 d)) ∧ Below w.heap.size w w' := by
  have HG := Lib.hid hg
  clear hg
  obtain ⟨bva, bvn, bvc, rfl⟩ := hb.shape
  have Ebv := Lib.hid hb.len
  have Kbv := Lib.hid hb.capMax
  have Hbv := Lib.hid hb
  clear hb
  obtain ⟨xcv, xhv, xrv, rfl, hxc, hxh, hxr⟩ := hp
  obtain ⟨xca, xcn, xcc, rfl⟩ := hxc.shape
  have Exc := Lib.hid hxc.len
  have Kxc := Lib.hid hxc.capMax
  have Hxc := Lib.hid hxc
  clear hxc
  obtain ⟨xha, xhn, xhc, rfl⟩ := hxh.shape
  have Exh := Lib.hid hxh.len
  have Kxh := Lib.hid hxh.capMax
  have Hxh := Lib.hid hxh
  clear hxh
  obtain ⟨xra, xrn, xrc, rfl⟩ := hxr.shape
  have Exr := Lib.hid hxr.len
  have Kxr := Lib.hid hxr.capMax
  have Hxr := Lib.hid hxr
  clear hxr
  obtain ⟨W, hW⟩ : ∃ W, W = ((w.alloc (.cells #[.int .i64 gr.p, .int .i64 gr.q, .int .i64 gr.g] 39)).alloc (.cells #[.int .i64 bh, (.slice bva bvn bvc)] 79)).alloc (.cells #[(.slice xca xcn xcc), (.slice xha xhn xhc), (.slice xra xrn xrc)] 42) := ⟨_, rfl⟩
  have HB : Hid (Below w.heap.size w W) := by unfold Hid; rw [hW]; (repeat (first | exact Below.refl _ _ | assumption | refine Below.drew ?_ | refine Below.alloc ?_ (by first | (simp; done) | (simp; omega)) _ | refine Below.setCell ?_ (by first | (simp; done) | (simp; omega)) _))
  have c0_0 : W.cell? ⟨w.heap.size, 0, none⟩ = some (.int .i64 gr.p) := by rw [hW]; simp [go_sem]
  have c0_1 : W.cell? ⟨w.heap.size, 1, none⟩ = some (.int .i64 gr.q) := by rw [hW]; simp [go_sem]
  have c0_2 : W.cell? ⟨w.heap.size, 2, none⟩ = some (.int .i64 gr.g) := by rw [hW]; simp [go_sem]
  have c1_0 : W.cell? ⟨w.heap.size + 1, 0, none⟩ = some (.int .i64 bh) := by rw [hW]; simp [go_sem]
  have c1_1 : W.cell? ⟨w.heap.size + 1, 1, none⟩ = some ((.slice bva bvn bvc)) := by rw [hW]; simp [go_sem]
  have c2_0 : W.cell? ⟨w.heap.size + 1 + 1, 0, none⟩ = some ((.slice xca xcn xcc)) := by rw [hW]; simp [go_sem]
  have c2_1 : W.cell? ⟨w.heap.size + 1 + 1, 1, none⟩ = some ((.slice xha xhn xhc)) := by rw [hW]; simp [go_sem]
  have c2_2 : W.cell? ⟨w.heap.size + 1 + 1, 2, none⟩ = some ((.slice xra xrn xrc)) := by rw [hW]; simp [go_sem]
  have HSW : Hid (W.heap.size = w.heap.size + 3) := by unfold Hid; rw [hW]; simp
  go_enter Try.func203, Try.ntmps203
  go_wp2_with fail
  rw [← hW]
  have hse : w.heap.size + 1 + 1 + 1 = W.heap.size := by have := HSW.out; omega
  (try rw [hse])
  clear hse
  clear hW
  have hc : Below W.heap.size W W := Below.refl _ _
  have HCC : Hid (∀ u, Below W.heap.size W u → u.cell? ⟨w.heap.size, 0, none⟩ = some (.int .i64 gr.p) ∧ u.cell? ⟨w.heap.size, 1, none⟩ = some (.int .i64 gr.q) ∧ u.cell? ⟨w.heap.size, 2, none⟩ = some (.int .i64 gr.g) ∧ u.cell? ⟨w.heap.size + 1, 0, none⟩ = some (.int .i64 bh) ∧ u.cell? ⟨w.heap.size + 1, 1, none⟩ = some ((.slice bva bvn bvc)) ∧ u.cell? ⟨w.heap.size + 1 + 1, 0, none⟩ = some ((.slice xca xcn xcc)) ∧ u.cell? ⟨w.heap.size + 1 + 1, 1, none⟩ = some ((.slice xha xhn xhc)) ∧ u.cell? ⟨w.heap.size + 1 + 1, 2, none⟩ = some ((.slice xra xrn xrc))) := fun u h => ⟨box_at c0_0 h, box_at c0_1 h, box_at c0_2 h, box_at c1_0 h, box_at c1_1 h, box_at c2_0 h, box_at c2_1 h, box_at c2_2 h⟩
  go_wp2_with fail
  refine (spec_l9Form gr _ d 1 1 2 _ HG.out (PfR.mk (Hxc.out.below (HB.out.trans (hc.mono HB.out.size))) (Hxh.out.below (HB.out.trans (hc.mono HB.out.size))) (Hxr.out.below (HB.out.trans (hc.mono HB.out.size))))).mono ?_
  rintro e u1 ⟨rfl, hq1⟩
  replace hc := Below.next hc hq1
  clear hq1 c0_0 c0_1 c0_2 c1_0 c1_1 c2_0 c2_1 c2_2
  obtain ⟨c0_0, c0_1, c0_2, c1_0, c1_1, c2_0, c2_1, c2_2⟩ := HCC.out _ hc
  cases hc1 : fmB gr d 1 1 2 with
  | false =>
    have HEX : Hid True := trivial
    have Hhc1 := Lib.hid hc1
    clear hc1
    go_wp2_with fail
    have HV : Hid ((.bool (voV gr sOpen bh c0 d) : Value) = .bool false) := by unfold Hid; simp [voV, Hhc1.out, HEX.out]
    go_ret
    exact ⟨congrArg Ending.returned HV.out.symm, HB.out.trans (hc.mono HB.out.size)⟩
  | true =>
    have HFP := Lib.hid (fmB_parts hc1)
    have sx0 : Small (nth d.c 0) := elB_small HG.out (all_one HFP.out.1 HFP.out.2.2.2.1)
    obtain ⟨E, hE⟩ : ∃ x, opE gr sOpen bh c0 (nth d.c 0) = x := ⟨_, rfl⟩
    have HE := Lib.hid hE
    have he := chV_bd HG.out sOpen [bh, c0, nth d.c 0]
    obtain ⟨e1, e2⟩ : 0 ≤ E ∧ E < gr.q := hE ▸ he
    have zq2 := HG.out.q2
    have zp2 := HG.out.p2
    have iE : I64 E := ⟨by omega, by omega⟩
    have iz0 : I64 (nth d.r 0) := nth_64 Hxr.out 0
    have iz1 : I64 (nth d.r 1) := nth_64 Hxr.out 1
    have ih0 : I64 (nth d.h 0) := nth_64 Hxh.out 0
    clear hE he e1 e2
    have HEX := HE
    obtain rfl : xcn = 1 := by have q := Hxc.out.len; have q2 := HFP.out; omega
    obtain ⟨xcb, xco, rfl, hx⟩ := Hxc.out.at_ (by omega)
    have Kxc0 : Hid (w.cell? ⟨xcb, xco, none⟩ = some (.int .i64 (nth d.c 0))) := by unfold Hid; have h := hx 0 (by omega); simpa using h
    clear hx
    have yxc0 := box_at Kxc0.out (HB.out.trans (hc.mono HB.out.size))
    obtain rfl : xhn = 1 := by have q := Hxh.out.len; have q2 := HFP.out; omega
    obtain ⟨xhb, xho, rfl, hx⟩ := Hxh.out.at_ (by omega)
    have Kxh0 : Hid (w.cell? ⟨xhb, xho, none⟩ = some (.int .i64 (nth d.h 0))) := by unfold Hid; have h := hx 0 (by omega); simpa using h
    clear hx
    have yxh0 := box_at Kxh0.out (HB.out.trans (hc.mono HB.out.size))
    obtain rfl : xrn = 2 := by have q := Hxr.out.len; have q2 := HFP.out; omega
    obtain ⟨xrb, xro, rfl, hx⟩ := Hxr.out.at_ (by omega)
    have Kxr0 : Hid (w.cell? ⟨xrb, xro, none⟩ = some (.int .i64 (nth d.r 0))) := by unfold Hid; have h := hx 0 (by omega); simpa using h
    have Kxr1 : Hid (w.cell? ⟨xrb, xro + 1, none⟩ = some (.int .i64 (nth d.r 1))) := by unfold Hid; have h := hx 1 (by omega); simpa using h
    clear hx
    have yxr0 := box_at Kxr0.out (HB.out.trans (hc.mono HB.out.size))
    have yxr1 := box_at Kxr1.out (HB.out.trans (hc.mono HB.out.size))
    replace HCC : Hid (∀ u, Below W.heap.size W u → u.cell? ⟨w.heap.size, 0, none⟩ = some (.int .i64 gr.p) ∧ u.cell? ⟨w.heap.size, 1, none⟩ = some (.int .i64 gr.q) ∧ u.cell? ⟨w.heap.size, 2, none⟩ = some (.int .i64 gr.g) ∧ u.cell? ⟨w.heap.size + 1, 0, none⟩ = some (.int .i64 bh) ∧ u.cell? ⟨w.heap.size + 1, 1, none⟩ = some ((.slice bva bvn bvc)) ∧ u.cell? ⟨w.heap.size + 1 + 1, 0, none⟩ = some ((.slice (some ⟨xcb, xco, none⟩) 1 xcc)) ∧ u.cell? ⟨w.heap.size + 1 + 1, 1, none⟩ = some ((.slice (some ⟨xhb, xho, none⟩) 1 xhc)) ∧ u.cell? ⟨w.heap.size + 1 + 1, 2, none⟩ = some ((.slice (some ⟨xrb, xro, none⟩) 2 xrc)) ∧ u.cell? ⟨xcb, xco, none⟩ = some (.int .i64 (nth d.c 0)) ∧ u.cell? ⟨xhb, xho, none⟩ = some (.int .i64 (nth d.h 0)) ∧ u.cell? ⟨xrb, xro, none⟩ = some (.int .i64 (nth d.r 0)) ∧ u.cell? ⟨xrb, xro + 1, none⟩ = some (.int .i64 (nth d.r 1))) := fun u h => by obtain ⟨c0_0, c0_1, c0_2, c1_0, c1_1, c2_0, c2_1, c2_2⟩ := HCC.out u h; exact ⟨c0_0, c0_1, c0_2, c1_0, c1_1, c2_0, c2_1, c2_2, box_at Kxc0.out (HB.out.trans (h.mono HB.out.size)), box_at Kxh0.out (HB.out.trans (h.mono HB.out.size)), box_at Kxr0.out (HB.out.trans (h.mono HB.out.size)), box_at Kxr1.out (HB.out.trans (h.mono HB.out.size))⟩
    have Hhc1 := Lib.hid hc1
    clear hc1
    try (go_wp2_with fail)
    refine wp_region_noPanic ?_
    refine wp_region_P (fun w' => w'.cell? ⟨w.heap.size, 0, none⟩ = some (.int .i64 gr.p) ∧ w'.cell? ⟨w.heap.size, 1, none⟩ = some (.int .i64 gr.q) ∧ w'.cell? ⟨w.heap.size, 2, none⟩ = some (.int .i64 gr.g) ∧ w'.cell? ⟨w.heap.size + 1, 0, none⟩ = some (.int .i64 bh) ∧ w'.cell? ⟨w.heap.size + 1, 1, none⟩ = some ((.slice bva bvn bvc)) ∧ w'.cell? ⟨w.heap.size + 1 + 1, 0, none⟩ = some ((.slice (some ⟨xcb, xco, none⟩) 1 xcc)) ∧ w'.cell? ⟨w.heap.size + 1 + 1, 1, none⟩ = some ((.slice (some ⟨xhb, xho, none⟩) 1 xhc)) ∧ w'.cell? ⟨w.heap.size + 1 + 1, 2, none⟩ = some ((.slice (some ⟨xrb, xro, none⟩) 2 xrc)) ∧ w'.cell? ⟨xcb, xco, none⟩ = some (.int .i64 (nth d.c 0)) ∧ w'.cell? ⟨xhb, xho, none⟩ = some (.int .i64 (nth d.h 0)) ∧ w'.cell? ⟨xrb, xro, none⟩ = some (.int .i64 (nth d.r 0)) ∧ w'.cell? ⟨xrb, xro + 1, none⟩ = some (.int .i64 (nth d.r 1))) 12 [(0, []), (1, [0]), (2, [0]), (3, [0]), (4, []), (5, [0]), (6, [0]), (7, [0]), (8, [4]), (9, [1])] [] (by kernel_rfl) (by kernel_rfl) (by kernel_rfl) rfl (fun _ _ _ _ h => h) (fun w' h => ⟨box_at c0_0 h, box_at c0_1 h, box_at c0_2 h, box_at c1_0 h, box_at c1_1 h, box_at c2_0 h, box_at c2_1 h, box_at c2_2 h, box_at yxc0 h, box_at yxh0 h, box_at yxr0 h, box_at yxr1 h⟩) ?_
    simp only [pickP, pickN, List.getElem?_cons_zero, List.getElem?_cons_succ]
    iterate 10 (refine' chainP_read _ rfl rfl (fun w' hS' => ?_) ?_; rotate_left; · (simp only [lookP, allP, Act.put, List.getElem?_cons_zero, List.getElem?_cons_succ, List.setIfInBounds_toArray, List.set_cons_zero, List.set_cons_succ]; (try dsimp only at hS'); go_simp; (try with_reducible rfl)))
    refine chainP_nil (fun u2 hS' => ?_)
    simp only [allP, Act.put, List.setIfInBounds_toArray, List.set_cons_zero, List.set_cons_succ]
    have hq2 := hS'.1
    clear hS'
    replace hc := Below.next hc hq2
    clear hq2 c0_0 c0_1 c0_2 c1_0 c1_1 c2_0 c2_1 c2_2 yxc0 yxh0 yxr0 yxr1
    obtain ⟨c0_0, c0_1, c0_2, c1_0, c1_1, c2_0, c2_1, c2_2, yxc0, yxh0, yxr0, yxr1⟩ := HCC.out _ hc
    go_wp2_with fail
    refine NoPanic.normal ?_
    cases hc2 : ((nth d.h 0) == E) with
    | false =>
      have HQE : Hid True := trivial
      try (go_wp2_with fail)
      refine wp_region_noPanic ?_
      refine wp_region_P (fun w' => w'.cell? ⟨w.heap.size, 0, none⟩ = some (.int .i64 gr.p) ∧ w'.cell? ⟨w.heap.size, 1, none⟩ = some (.int .i64 gr.q) ∧ w'.cell? ⟨w.heap.size, 2, none⟩ = some (.int .i64 gr.g) ∧ w'.cell? ⟨w.heap.size + 1, 0, none⟩ = some (.int .i64 bh) ∧ w'.cell? ⟨w.heap.size + 1, 1, none⟩ = some ((.slice bva bvn bvc)) ∧ w'.cell? ⟨w.heap.size + 1 + 1, 0, none⟩ = some ((.slice (some ⟨xcb, xco, none⟩) 1 xcc)) ∧ w'.cell? ⟨w.heap.size + 1 + 1, 1, none⟩ = some ((.slice (some ⟨xhb, xho, none⟩) 1 xhc)) ∧ w'.cell? ⟨w.heap.size + 1 + 1, 2, none⟩ = some ((.slice (some ⟨xrb, xro, none⟩) 2 xrc)) ∧ w'.cell? ⟨xcb, xco, none⟩ = some (.int .i64 (nth d.c 0)) ∧ w'.cell? ⟨xhb, xho, none⟩ = some (.int .i64 (nth d.h 0)) ∧ w'.cell? ⟨xrb, xro, none⟩ = some (.int .i64 (nth d.r 0)) ∧ w'.cell? ⟨xrb, xro + 1, none⟩ = some (.int .i64 (nth d.r 1))) 32 [(0, []), (1, []), (2, []), (3, []), (4, []), (5, [3, 2, 1, 0]), (6, [5, 0]), (7, [0]), (8, [0]), (9, [1]), (10, [2]), (11, [0, 3]), (12, [0, 4]), (13, [0, 5]), (14, [6]), (15, [0, 7]), (16, [0, 8]), (17, [0, 9]), (18, [9, 8, 4, 0, 10]), (19, [11]), (20, [12]), (21, [13]), (22, [14]), (23, [15]), (24, [2, 1, 0, 16]), (25, [4, 0, 17]), (26, [6, 0, 18]), (27, [8, 0, 19]), (28, [20, 0]), (29, [0])] [] (by kernel_rfl) (by kernel_rfl) (by kernel_rfl) rfl (fun _ _ _ _ h => h) (fun w' h => ⟨box_at c0_0 h, box_at c0_1 h, box_at c0_2 h, box_at c1_0 h, box_at c1_1 h, box_at c2_0 h, box_at c2_1 h, box_at c2_2 h, box_at yxc0 h, box_at yxh0 h, box_at yxr0 h, box_at yxr1 h⟩) ?_
      simp only [pickP, pickN, List.getElem?_cons_zero, List.getElem?_cons_succ]
      iterate 5 (refine' chainP_read _ rfl rfl (fun w' hS' => ?_) ?_; rotate_left; · (simp only [lookP, allP, Act.put, List.getElem?_cons_zero, List.getElem?_cons_succ, List.setIfInBounds_toArray, List.set_cons_zero, List.set_cons_succ]; (try dsimp only at hS'); go_simp; (try with_reducible rfl)))
      -- 5: call { callee := value (func 199), args := #[t24, t25, t26, t27], argTypes := #[39, 79, 3, 3] }
      refine chainP_call (d := (some 28)) (.int .i64 E) rfl rfl (fun w' hS' => ?_) ?_
      · simp only [lookP, allP, Act.put, List.getElem?_cons_zero, List.getElem?_cons_succ, List.setIfInBounds_toArray, List.set_cons_zero, List.set_cons_succ]
        intro K hK
        go_simp
        go_at_call 199
        refine (spec_l9Challenge gr bh _ bl c0 (nth d.c 0) _ HG.out ((Hbv.out.below (HB.out.trans (hc.mono HB.out.size))).below hS'.1) sbh sc0 sx0).mono ?_
        rintro e u ⟨rfl, hq⟩
        rw [HE.out]
        exact hK.out _ hq
      iterate 2 (refine' chainP_read _ rfl rfl (fun w' hS' => ?_) ?_; rotate_left; · (simp only [lookP, allP, Act.put, List.getElem?_cons_zero, List.getElem?_cons_succ, List.setIfInBounds_toArray, List.set_cons_zero, List.set_cons_succ]; (try dsimp only at hS'); go_simp; (try with_reducible rfl)))
      -- 8: load 39 t4
      refine chainP_skip (d := (some 31)) rfl (fun w' hS' => ?_) ?_
      · simp only [lookP, allP, Act.put, List.getElem?_cons_zero, List.getElem?_cons_succ, List.setIfInBounds_toArray, List.set_cons_zero, List.set_cons_succ]
        kernel_rfl
      -- 9: load 79 t5
      refine chainP_skip (d := (some 32)) rfl (fun w' hS' => ?_) ?_
      · simp only [lookP, allP, Act.put, List.getElem?_cons_zero, List.getElem?_cons_succ, List.setIfInBounds_toArray, List.set_cons_zero, List.set_cons_succ]
        kernel_rfl
      -- 10: fieldAddr 42 t7 2
      refine chainP_skip (d := (some 33)) rfl (fun w' hS' => ?_) ?_
      · simp only [lookP, allP, Act.put, List.getElem?_cons_zero, List.getElem?_cons_succ, List.setIfInBounds_toArray, List.set_cons_zero, List.set_cons_succ]
        kernel_rfl
      -- 11: load 24 t33
      refine chainP_skip (d := (some 34)) rfl (fun w' hS' => ?_) ?_
      · simp only [lookP, allP, Act.put, List.getElem?_cons_zero, List.getElem?_cons_succ, List.setIfInBounds_toArray, List.set_cons_zero, List.set_cons_succ]
        kernel_rfl
      -- 12: indexAddr 24 t34 (const (int i64 0))
      refine chainP_skip (d := (some 35)) rfl (fun w' hS' => ?_) ?_
      · simp only [lookP, allP, Act.put, List.getElem?_cons_zero, List.getElem?_cons_succ, List.setIfInBounds_toArray, List.set_cons_zero, List.set_cons_succ]
        kernel_rfl
      -- 13: load 3 t35
      refine chainP_skip (d := (some 36)) rfl (fun w' hS' => ?_) ?_
      · simp only [lookP, allP, Act.put, List.getElem?_cons_zero, List.getElem?_cons_succ, List.setIfInBounds_toArray, List.set_cons_zero, List.set_cons_succ]
        kernel_rfl
      -- 14: fieldAddr 42 t7 2
      refine chainP_skip (d := (some 37)) rfl (fun w' hS' => ?_) ?_
      · simp only [lookP, allP, Act.put, List.getElem?_cons_zero, List.getElem?_cons_succ, List.setIfInBounds_toArray, List.set_cons_zero, List.set_cons_succ]
        kernel_rfl
      -- 15: load 24 t37
      refine chainP_skip (d := (some 38)) rfl (fun w' hS' => ?_) ?_
      · simp only [lookP, allP, Act.put, List.getElem?_cons_zero, List.getElem?_cons_succ, List.setIfInBounds_toArray, List.set_cons_zero, List.set_cons_succ]
        kernel_rfl
      -- 16: indexAddr 24 t38 (const (int i64 1))
      refine chainP_skip (d := (some 39)) rfl (fun w' hS' => ?_) ?_
      · simp only [lookP, allP, Act.put, List.getElem?_cons_zero, List.getElem?_cons_succ, List.setIfInBounds_toArray, List.set_cons_zero, List.set_cons_succ]
        kernel_rfl
      -- 17: load 3 t39
      refine chainP_skip (d := (some 40)) rfl (fun w' hS' => ?_) ?_
      · simp only [lookP, allP, Act.put, List.getElem?_cons_zero, List.getElem?_cons_succ, List.setIfInBounds_toArray, List.set_cons_zero, List.set_cons_succ]
        kernel_rfl
      -- 18: call { callee := value (func 173), args := #[t31, t32, t36, t40], argTypes := #[39, 79, 3, 3] }
      refine chainP_skip (d := (some 41)) rfl (fun w' hS' => ?_) ?_
      · simp only [lookP, allP, Act.put, List.getElem?_cons_zero, List.getElem?_cons_succ, List.setIfInBounds_toArray, List.set_cons_zero, List.set_cons_succ]
        kernel_rfl
      -- 19: load 39 t4
      refine chainP_skip (d := (some 42)) rfl (fun w' hS' => ?_) ?_
      · simp only [lookP, allP, Act.put, List.getElem?_cons_zero, List.getElem?_cons_succ, List.setIfInBounds_toArray, List.set_cons_zero, List.set_cons_succ]
        kernel_rfl
      -- 20: move t9
      refine chainP_skip (d := (some 43)) rfl (fun w' hS' => ?_) ?_
      · simp only [lookP, allP, Act.put, List.getElem?_cons_zero, List.getElem?_cons_succ, List.setIfInBounds_toArray, List.set_cons_zero, List.set_cons_succ]
        kernel_rfl
      -- 21: load 39 t4
      refine chainP_skip (d := (some 44)) rfl (fun w' hS' => ?_) ?_
      · simp only [lookP, allP, Act.put, List.getElem?_cons_zero, List.getElem?_cons_succ, List.setIfInBounds_toArray, List.set_cons_zero, List.set_cons_succ]
        kernel_rfl
      -- 22: move t2
      refine chainP_skip (d := (some 45)) rfl (fun w' hS' => ?_) ?_
      · simp only [lookP, allP, Act.put, List.getElem?_cons_zero, List.getElem?_cons_succ, List.setIfInBounds_toArray, List.set_cons_zero, List.set_cons_succ]
        kernel_rfl
      -- 23: move t10
      refine chainP_skip (d := (some 46)) rfl (fun w' hS' => ?_) ?_
      · simp only [lookP, allP, Act.put, List.getElem?_cons_zero, List.getElem?_cons_succ, List.setIfInBounds_toArray, List.set_cons_zero, List.set_cons_succ]
        kernel_rfl
      -- 24: call { callee := value (func 156), args := #[t44, t45, t46], argTypes := #[39, 3, 3] }
      refine chainP_skip (d := (some 47)) rfl (fun w' hS' => ?_) ?_
      · simp only [lookP, allP, Act.put, List.getElem?_cons_zero, List.getElem?_cons_succ, List.setIfInBounds_toArray, List.set_cons_zero, List.set_cons_succ]
        kernel_rfl
      -- 25: buildSlice 24 2 #[(0, t43), (1, t47)]
      refine chainP_skip (d := (some 48)) rfl (fun w' hS' => ?_) ?_
      · simp only [lookP, allP, Act.put, List.getElem?_cons_zero, List.getElem?_cons_succ, List.setIfInBounds_toArray, List.set_cons_zero, List.set_cons_succ]
        kernel_rfl
      -- 26: call { callee := value (func 211), args := #[t42, t48], argTypes := #[39, 24] }
      refine chainP_skip (d := (some 49)) rfl (fun w' hS' => ?_) ?_
      · simp only [lookP, allP, Act.put, List.getElem?_cons_zero, List.getElem?_cons_succ, List.setIfInBounds_toArray, List.set_cons_zero, List.set_cons_succ]
        kernel_rfl
      -- 27: binOp Bineql 3 t41 t49 3
      refine chainP_skip (d := (some 50)) rfl (fun w' hS' => ?_) ?_
      · simp only [lookP, allP, Act.put, List.getElem?_cons_zero, List.getElem?_cons_succ, List.setIfInBounds_toArray, List.set_cons_zero, List.set_cons_succ]
        kernel_rfl
      iterate 2 (refine' chainP_read _ rfl rfl (fun w' hS' => ?_) ?_; rotate_left; · (simp only [lookP, allP, Act.put, List.getElem?_cons_zero, List.getElem?_cons_succ, List.setIfInBounds_toArray, List.set_cons_zero, List.set_cons_succ]; (try dsimp only at hS'); go_simp; (try with_reducible rfl)))
      refine chainP_nil (fun u3 hS' => ?_)
      simp only [allP, Act.put, List.setIfInBounds_toArray, List.set_cons_zero, List.set_cons_succ]
      have hq3 := hS'.1
      clear hS'
      replace hc := Below.next hc hq3
      clear hq3 c0_0 c0_1 c0_2 c1_0 c1_1 c2_0 c2_1 c2_2 yxc0 yxh0 yxr0 yxr1
      obtain ⟨c0_0, c0_1, c0_2, c1_0, c1_1, c2_0, c2_1, c2_2, yxc0, yxh0, yxr0, yxr1⟩ := HCC.out _ hc
      go_wp2_with fail
      refine NoPanic.normal ?_
      go_wp2_with fail
      have HV : Hid ((.bool (voV gr sOpen bh c0 d) : Value) = .bool false) := by unfold Hid; simp [voV, Hhc1.out, hc2, HEX.out, HQE.out]
      go_ret
      exact ⟨congrArg Ending.returned HV.out.symm, HB.out.trans (hc.mono HB.out.size)⟩
    | true =>
      have HQE : Hid (E = nth d.h 0) := by unfold Hid; have q := hc2; rw [beq_iff_eq] at q; exact q.symm
      try (go_wp2_with fail)
      refine wp_region_noPanic ?_
      refine wp_region_P (fun w' => w'.cell? ⟨w.heap.size, 0, none⟩ = some (.int .i64 gr.p) ∧ w'.cell? ⟨w.heap.size, 1, none⟩ = some (.int .i64 gr.q) ∧ w'.cell? ⟨w.heap.size, 2, none⟩ = some (.int .i64 gr.g) ∧ w'.cell? ⟨w.heap.size + 1, 0, none⟩ = some (.int .i64 bh) ∧ w'.cell? ⟨w.heap.size + 1, 1, none⟩ = some ((.slice bva bvn bvc)) ∧ w'.cell? ⟨w.heap.size + 1 + 1, 0, none⟩ = some ((.slice (some ⟨xcb, xco, none⟩) 1 xcc)) ∧ w'.cell? ⟨w.heap.size + 1 + 1, 1, none⟩ = some ((.slice (some ⟨xhb, xho, none⟩) 1 xhc)) ∧ w'.cell? ⟨w.heap.size + 1 + 1, 2, none⟩ = some ((.slice (some ⟨xrb, xro, none⟩) 2 xrc)) ∧ w'.cell? ⟨xcb, xco, none⟩ = some (.int .i64 (nth d.c 0)) ∧ w'.cell? ⟨xhb, xho, none⟩ = some (.int .i64 (nth d.h 0)) ∧ w'.cell? ⟨xrb, xro, none⟩ = some (.int .i64 (nth d.r 0)) ∧ w'.cell? ⟨xrb, xro + 1, none⟩ = some (.int .i64 (nth d.r 1))) 32 [(0, []), (1, []), (2, []), (3, []), (4, []), (5, [3, 2, 1, 0]), (6, [5, 0]), (7, [0]), (8, [0]), (9, [1]), (10, [2]), (11, [0, 3]), (12, [0, 4]), (13, [0, 5]), (14, [6]), (15, [0, 7]), (16, [0, 8]), (17, [0, 9]), (18, [9, 8, 4, 0, 10]), (19, [11]), (20, [12]), (21, [13]), (22, [14]), (23, [15]), (24, [2, 1, 0, 16]), (25, [4, 0, 17]), (26, [6, 0, 18]), (27, [8, 0, 19]), (28, [20, 0]), (29, [0])] [] (by kernel_rfl) (by kernel_rfl) (by kernel_rfl) rfl (fun _ _ _ _ h => h) (fun w' h => ⟨box_at c0_0 h, box_at c0_1 h, box_at c0_2 h, box_at c1_0 h, box_at c1_1 h, box_at c2_0 h, box_at c2_1 h, box_at c2_2 h, box_at yxc0 h, box_at yxh0 h, box_at yxr0 h, box_at yxr1 h⟩) ?_
      simp only [pickP, pickN, List.getElem?_cons_zero, List.getElem?_cons_succ]
      iterate 5 (refine' chainP_read _ rfl rfl (fun w' hS' => ?_) ?_; rotate_left; · (simp only [lookP, allP, Act.put, List.getElem?_cons_zero, List.getElem?_cons_succ, List.setIfInBounds_toArray, List.set_cons_zero, List.set_cons_succ]; (try dsimp only at hS'); go_simp; (try with_reducible rfl)))
      -- 5: call { callee := value (func 199), args := #[t24, t25, t26, t27], argTypes := #[39, 79, 3, 3] }
      refine chainP_call (d := (some 28)) (.int .i64 E) rfl rfl (fun w' hS' => ?_) ?_
      · simp only [lookP, allP, Act.put, List.getElem?_cons_zero, List.getElem?_cons_succ, List.setIfInBounds_toArray, List.set_cons_zero, List.set_cons_succ]
        intro K hK
        go_simp
        go_at_call 199
        refine (spec_l9Challenge gr bh _ bl c0 (nth d.c 0) _ HG.out ((Hbv.out.below (HB.out.trans (hc.mono HB.out.size))).below hS'.1) sbh sc0 sx0).mono ?_
        rintro e u ⟨rfl, hq⟩
        rw [HE.out]
        exact hK.out _ hq
      iterate 2 (refine' chainP_read _ rfl rfl (fun w' hS' => ?_) ?_; rotate_left; · (simp only [lookP, allP, Act.put, List.getElem?_cons_zero, List.getElem?_cons_succ, List.setIfInBounds_toArray, List.set_cons_zero, List.set_cons_succ]; (try dsimp only at hS'); go_simp; (try with_reducible rfl)))
      -- 8: load 39 t4
      refine' chainP_readG (d := (some 31)) _ rfl (fun w' hS' => ?_) ?_; rotate_left
      · simp only [lookP, allP, Act.put, List.getElem?_cons_zero, List.getElem?_cons_succ, List.setIfInBounds_toArray, List.set_cons_zero, List.set_cons_succ]
        refine ⟨by kernel_rfl, ?_⟩
        (try dsimp only at hS')
        go_simp
        (try with_reducible rfl)
      -- 9: load 79 t5
      refine' chainP_readG (d := (some 32)) _ rfl (fun w' hS' => ?_) ?_; rotate_left
      · simp only [lookP, allP, Act.put, List.getElem?_cons_zero, List.getElem?_cons_succ, List.setIfInBounds_toArray, List.set_cons_zero, List.set_cons_succ]
        refine ⟨by kernel_rfl, ?_⟩
        (try dsimp only at hS')
        go_simp
        (try with_reducible rfl)
      -- 10: fieldAddr 42 t7 2
      refine' chainP_readG (d := (some 33)) _ rfl (fun w' hS' => ?_) ?_; rotate_left
      · simp only [lookP, allP, Act.put, List.getElem?_cons_zero, List.getElem?_cons_succ, List.setIfInBounds_toArray, List.set_cons_zero, List.set_cons_succ]
        refine ⟨by kernel_rfl, ?_⟩
        (try dsimp only at hS')
        go_simp
        (try with_reducible rfl)
      -- 11: load 24 t33
      refine' chainP_readG (d := (some 34)) _ rfl (fun w' hS' => ?_) ?_; rotate_left
      · simp only [lookP, allP, Act.put, List.getElem?_cons_zero, List.getElem?_cons_succ, List.setIfInBounds_toArray, List.set_cons_zero, List.set_cons_succ]
        refine ⟨by kernel_rfl, ?_⟩
        (try dsimp only at hS')
        go_simp
        (try with_reducible rfl)
      -- 12: indexAddr 24 t34 (const (int i64 0))
      refine' chainP_readG (d := (some 35)) _ rfl (fun w' hS' => ?_) ?_; rotate_left
      · simp only [lookP, allP, Act.put, List.getElem?_cons_zero, List.getElem?_cons_succ, List.setIfInBounds_toArray, List.set_cons_zero, List.set_cons_succ]
        refine ⟨by kernel_rfl, ?_⟩
        (try dsimp only at hS')
        go_simp
        (try with_reducible rfl)
      -- 13: load 3 t35
      refine' chainP_readG (d := (some 36)) _ rfl (fun w' hS' => ?_) ?_; rotate_left
      · simp only [lookP, allP, Act.put, List.getElem?_cons_zero, List.getElem?_cons_succ, List.setIfInBounds_toArray, List.set_cons_zero, List.set_cons_succ]
        refine ⟨by kernel_rfl, ?_⟩
        (try dsimp only at hS')
        go_simp
        (try with_reducible rfl)
      -- 14: fieldAddr 42 t7 2
      refine' chainP_readG (d := (some 37)) _ rfl (fun w' hS' => ?_) ?_; rotate_left
      · simp only [lookP, allP, Act.put, List.getElem?_cons_zero, List.getElem?_cons_succ, List.setIfInBounds_toArray, List.set_cons_zero, List.set_cons_succ]
        refine ⟨by kernel_rfl, ?_⟩
        (try dsimp only at hS')
        go_simp
        (try with_reducible rfl)
      -- 15: load 24 t37
      refine' chainP_readG (d := (some 38)) _ rfl (fun w' hS' => ?_) ?_; rotate_left
      · simp only [lookP, allP, Act.put, List.getElem?_cons_zero, List.getElem?_cons_succ, List.setIfInBounds_toArray, List.set_cons_zero, List.set_cons_succ]
        refine ⟨by kernel_rfl, ?_⟩
        (try dsimp only at hS')
        go_simp
        (try with_reducible rfl)
      -- 16: indexAddr 24 t38 (const (int i64 1))
      refine' chainP_readG (d := (some 39)) _ rfl (fun w' hS' => ?_) ?_; rotate_left
      · simp only [lookP, allP, Act.put, List.getElem?_cons_zero, List.getElem?_cons_succ, List.setIfInBounds_toArray, List.set_cons_zero, List.set_cons_succ]
        refine ⟨by kernel_rfl, ?_⟩
        (try dsimp only at hS')
        go_simp
        (try with_reducible rfl)
      -- 17: load 3 t39
      refine' chainP_readG (d := (some 40)) _ rfl (fun w' hS' => ?_) ?_; rotate_left
      · simp only [lookP, allP, Act.put, List.getElem?_cons_zero, List.getElem?_cons_succ, List.setIfInBounds_toArray, List.set_cons_zero, List.set_cons_succ]
        refine ⟨by kernel_rfl, ?_⟩
        (try dsimp only at hS')
        go_simp
        (try with_reducible rfl)
      -- 18: call { callee := value (func 173), args := #[t31, t32, t36, t40], argTypes := #[39, 79, 3, 3] }
      refine chainP_callG (d := (some 41)) (.int .i64 (coM gr bh (nth d.r 0) (nth d.r 1))) rfl (fun w' hS' => ?_) ?_
      · simp only [lookP, allP, Act.put, List.getElem?_cons_zero, List.getElem?_cons_succ, List.setIfInBounds_toArray, List.set_cons_zero, List.set_cons_succ]
        refine ⟨by kernel_rfl, ?_⟩
        intro K hK
        go_simp
        go_at_call 173
        refine (spec_pCommit gr bh _ bl (nth d.r 0) (nth d.r 1) _ HG.out ((Hbv.out.below (HB.out.trans (hc.mono HB.out.size))).below hS'.1) sbh iz0 iz1).mono ?_
        rintro e u ⟨rfl, hq⟩
        exact hK.out _ hq
      -- 19: load 39 t4
      refine' chainP_readG (d := (some 42)) _ rfl (fun w' hS' => ?_) ?_; rotate_left
      · simp only [lookP, allP, Act.put, List.getElem?_cons_zero, List.getElem?_cons_succ, List.setIfInBounds_toArray, List.set_cons_zero, List.set_cons_succ]
        refine ⟨by kernel_rfl, ?_⟩
        (try dsimp only at hS')
        go_simp
        (try with_reducible rfl)
      -- 20: move t9
      refine' chainP_readG (d := (some 43)) _ rfl (fun w' hS' => ?_) ?_; rotate_left
      · simp only [lookP, allP, Act.put, List.getElem?_cons_zero, List.getElem?_cons_succ, List.setIfInBounds_toArray, List.set_cons_zero, List.set_cons_succ]
        refine ⟨by kernel_rfl, ?_⟩
        (try dsimp only at hS')
        go_simp
        (try with_reducible rfl)
      -- 21: load 39 t4
      refine' chainP_readG (d := (some 44)) _ rfl (fun w' hS' => ?_) ?_; rotate_left
      · simp only [lookP, allP, Act.put, List.getElem?_cons_zero, List.getElem?_cons_succ, List.setIfInBounds_toArray, List.set_cons_zero, List.set_cons_succ]
        refine ⟨by kernel_rfl, ?_⟩
        (try dsimp only at hS')
        go_simp
        (try with_reducible rfl)
      -- 22: move t2
      refine' chainP_readG (d := (some 45)) _ rfl (fun w' hS' => ?_) ?_; rotate_left
      · simp only [lookP, allP, Act.put, List.getElem?_cons_zero, List.getElem?_cons_succ, List.setIfInBounds_toArray, List.set_cons_zero, List.set_cons_succ]
        refine ⟨by kernel_rfl, ?_⟩
        (try dsimp only at hS')
        go_simp
        (try with_reducible rfl)
      -- 23: move t10
      refine' chainP_readG (d := (some 46)) _ rfl (fun w' hS' => ?_) ?_; rotate_left
      · simp only [lookP, allP, Act.put, List.getElem?_cons_zero, List.getElem?_cons_succ, List.setIfInBounds_toArray, List.set_cons_zero, List.set_cons_succ]
        refine ⟨by kernel_rfl, ?_⟩
        (try dsimp only at hS')
        go_simp
        (try with_reducible rfl)
      -- 24: call { callee := value (func 156), args := #[t44, t45, t46], argTypes := #[39, 3, 3] }
      refine chainP_callG (d := (some 47)) (.int .i64 (powE gr c0 (nth d.h 0))) rfl (fun w' hS' => ?_) ?_
      · simp only [lookP, allP, Act.put, List.getElem?_cons_zero, List.getElem?_cons_succ, List.setIfInBounds_toArray, List.set_cons_zero, List.set_cons_succ]
        refine ⟨by kernel_rfl, ?_⟩
        intro K hK
        go_simp
        go_at_call 156
        refine (spec_gExp gr c0 (nth d.h 0) _ HG.out sc0 ih0).mono ?_
        rintro e u ⟨rfl, hq⟩
        exact hK.out _ hq
      -- 25: buildSlice 24 2 #[(0, t43), (1, t47)]
      refine chainP_doG (d := (some 48)) (fun v w => Ints w v [(nth d.c 0), powE gr c0 (nth d.h 0)]) (fun v w w' hb h => Ints.below h hb) rfl (fun w' hS' => ?_) ?_
      · simp only [lookP, allP, Act.put, List.getElem?_cons_zero, List.getElem?_cons_succ, List.setIfInBounds_toArray, List.set_cons_zero, List.set_cons_succ]
        refine ⟨by kernel_rfl, ?_⟩
        intro K hK
        go_simp
        refine hK.out _ _ ((Below.refl _ _).alloc (Nat.le_refl _) _) ?_
        exact (OwnI.lit (B := w'.heap.size) w' (Nat.le_refl _) (l := [(nth d.c 0), powE gr c0 (nth d.h 0)]) (AllI64.cons (small_64 sx0) (AllI64.cons (small_64 (powE_small HG.out _ _)) AllI64.nil)) rfl (by simp [maxLen]) 2 rfl).ints
      -- 26: call { callee := value (func 211), args := #[t42, t48], argTypes := #[39, 24] }
      refine chainP_callG (d := (some 49)) (.int .i64 (mulL gr [(nth d.c 0), powE gr c0 (nth d.h 0)])) rfl (fun w' hS' => ?_) ?_
      · simp only [lookP, allP, Act.put, List.getElem?_cons_zero, List.getElem?_cons_succ, List.setIfInBounds_toArray, List.set_cons_zero, List.set_cons_succ]
        intro x25 hx25
        refine ⟨by kernel_rfl, ?_⟩
        intro K hK
        go_simp
        go_at_call 211
        refine (spec_gMul gr _ [(nth d.c 0), powE gr c0 (nth d.h 0)] _ HG.out hx25 (AllSmall.cons sx0 (AllSmall.cons (powE_small HG.out _ _) AllSmall.nil))).mono ?_
        rintro e u ⟨rfl, hq⟩
        exact hK.out _ hq
      -- 27: binOp Bineql 3 t41 t49 3
      refine' chainP_readG (d := (some 50)) _ rfl (fun w' hS' => ?_) ?_; rotate_left
      · simp only [lookP, allP, Act.put, List.getElem?_cons_zero, List.getElem?_cons_succ, List.setIfInBounds_toArray, List.set_cons_zero, List.set_cons_succ]
        refine ⟨by kernel_rfl, ?_⟩
        (try dsimp only at hS')
        go_simp
        (try with_reducible rfl)
      iterate 2 (refine' chainP_read _ rfl rfl (fun w' hS' => ?_) ?_; rotate_left; · (simp only [lookP, allP, Act.put, List.getElem?_cons_zero, List.getElem?_cons_succ, List.setIfInBounds_toArray, List.set_cons_zero, List.set_cons_succ]; (try dsimp only at hS'); go_simp; (try with_reducible rfl)))
      refine chainP_nil (fun u3 hS' => ?_)
      simp only [allP, Act.put, List.setIfInBounds_toArray, List.set_cons_zero, List.set_cons_succ]
      intro x25 hx25
      have hq3 := hS'.1
      clear hS'
      replace hc := Below.next hc hq3
      clear hq3 c0_0 c0_1 c0_2 c1_0 c1_1 c2_0 c2_1 c2_2 yxc0 yxh0 yxr0 yxr1
      obtain ⟨c0_0, c0_1, c0_2, c1_0, c1_1, c2_0, c2_1, c2_2, yxc0, yxh0, yxr0, yxr1⟩ := HCC.out _ hc
      go_wp2_with fail
      refine NoPanic.normal ?_
      cases hc3 : (coM gr bh (nth d.r 0) (nth d.r 1) == mulL gr [(nth d.c 0), powE gr c0 (nth d.h 0)]) with
      | false =>
        go_wp2_with fail
        have HV : Hid ((.bool (voV gr sOpen bh c0 d) : Value) = .bool false) := by unfold Hid; simp [voV, Hhc1.out, hc2, hc3, HEX.out, HQE.out]
        go_ret
        exact ⟨congrArg Ending.returned HV.out.symm, HB.out.trans (hc.mono HB.out.size)⟩
      | true =>
        go_wp2_with fail
        have HV : Hid ((.bool (voV gr sOpen bh c0 d) : Value) = .bool true) := by unfold Hid; simp [voV, Hhc1.out, hc2, hc3, HEX.out, HQE.out]
        go_ret
        exact ⟨congrArg Ending.returned HV.out.symm, HB.out.trans (hc.mono HB.out.size)⟩
set_option maxRecDepth 100000 in
set_option maxHeartbeats 2000000 in
theorem spec_VerifyOpening (gr : GroupD) (bh : Int) (bv : Value) (bl : List Int) (c0 : Int) (pv : Value) (d : ProofD) (w : World) (hb : Ints w bv bl) (ibh : I64 bh) (ic0 : I64 c0) (hp : PfR w pv d) :
    Calls Try.prog 83 #[.agg #[.int .i64 gr.p, .int .i64 gr.q, .int .i64 gr.g], .agg #[.int .i64 bh, bv], .int .i64 c0, pv] w fun e w' => e = .returned (.tuple #[.bool (voR gr sOpen bh bl c0 d), .bool (voA gr bh bl c0)]) ∧ Below w.heap.size w w' := by
  obtain ⟨bva, bvn, bvc, rfl⟩ := hb.shape
  have Ebv := Lib.hid hb.len
  have Kbv := Lib.hid hb.capMax
  have Hbv := Lib.hid hb
  clear hb
  obtain ⟨xcv, xhv, xrv, rfl, hxc, hxh, hxr⟩ := hp
  obtain ⟨xca, xcn, xcc, rfl⟩ := hxc.shape
  have Exc := Lib.hid hxc.len
  have Kxc := Lib.hid hxc.capMax
  have Hxc := Lib.hid hxc
  clear hxc
  obtain ⟨xha, xhn, xhc, rfl⟩ := hxh.shape
  have Exh := Lib.hid hxh.len
  have Kxh := Lib.hid hxh.capMax
  have Hxh := Lib.hid hxh
  clear hxh
  obtain ⟨xra, xrn, xrc, rfl⟩ := hxr.shape
  have Exr := Lib.hid hxr.len
  have Kxr := Lib.hid hxr.capMax
  have Hxr := Lib.hid hxr
  clear hxr
  obtain ⟨W, hW⟩ : ∃ W, W = ((w.alloc (.cells #[.int .i64 gr.p, .int .i64 gr.q, .int .i64 gr.g] 39)).alloc (.cells #[.int .i64 bh, (.slice bva bvn bvc)] 79)).alloc (.cells #[(.slice xca xcn xcc), (.slice xha xhn xhc), (.slice xra xrn xrc)] 42) := ⟨_, rfl⟩
  have HB : Hid (Below w.heap.size w W) := by unfold Hid; rw [hW]; (repeat (first | exact Below.refl _ _ | assumption | refine Below.drew ?_ | refine Below.alloc ?_ (by first | (simp; done) | (simp; omega)) _ | refine Below.setCell ?_ (by first | (simp; done) | (simp; omega)) _))
  have c0_0 : W.cell? ⟨w.heap.size, 0, none⟩ = some (.int .i64 gr.p) := by rw [hW]; simp [go_sem]
  have c0_1 : W.cell? ⟨w.heap.size, 1, none⟩ = some (.int .i64 gr.q) := by rw [hW]; simp [go_sem]
  have c0_2 : W.cell? ⟨w.heap.size, 2, none⟩ = some (.int .i64 gr.g) := by rw [hW]; simp [go_sem]
  have c1_0 : W.cell? ⟨w.heap.size + 1, 0, none⟩ = some (.int .i64 bh) := by rw [hW]; simp [go_sem]
  have c1_1 : W.cell? ⟨w.heap.size + 1, 1, none⟩ = some ((.slice bva bvn bvc)) := by rw [hW]; simp [go_sem]
  have c2_0 : W.cell? ⟨w.heap.size + 1 + 1, 0, none⟩ = some ((.slice xca xcn xcc)) := by rw [hW]; simp [go_sem]
  have c2_1 : W.cell? ⟨w.heap.size + 1 + 1, 1, none⟩ = some ((.slice xha xhn xhc)) := by rw [hW]; simp [go_sem]
  have c2_2 : W.cell? ⟨w.heap.size + 1 + 1, 2, none⟩ = some ((.slice xra xrn xrc)) := by rw [hW]; simp [go_sem]
  have HSW : Hid (W.heap.size = w.heap.size + 3) := by unfold Hid; rw [hW]; simp
  go_enter Try.func83, Try.ntmps83
  go_wp2_with fail
  rw [← hW]
  have hse : w.heap.size + 1 + 1 + 1 = W.heap.size := by have := HSW.out; omega
  (try rw [hse])
  clear hse
  clear hW
  have hc : Below W.heap.size W W := Below.refl _ _
  have HCC : Hid (∀ u, Below W.heap.size W u → u.cell? ⟨w.heap.size, 0, none⟩ = some (.int .i64 gr.p) ∧ u.cell? ⟨w.heap.size, 1, none⟩ = some (.int .i64 gr.q) ∧ u.cell? ⟨w.heap.size, 2, none⟩ = some (.int .i64 gr.g) ∧ u.cell? ⟨w.heap.size + 1, 0, none⟩ = some (.int .i64 bh) ∧ u.cell? ⟨w.heap.size + 1, 1, none⟩ = some ((.slice bva bvn bvc)) ∧ u.cell? ⟨w.heap.size + 1 + 1, 0, none⟩ = some ((.slice xca xcn xcc)) ∧ u.cell? ⟨w.heap.size + 1 + 1, 1, none⟩ = some ((.slice xha xhn xhc)) ∧ u.cell? ⟨w.heap.size + 1 + 1, 2, none⟩ = some ((.slice xra xrn xrc))) := fun u h => ⟨box_at c0_0 h, box_at c0_1 h, box_at c0_2 h, box_at c1_0 h, box_at c1_1 h, box_at c2_0 h, box_at c2_1 h, box_at c2_2 h⟩
  go_wp2_with fail
  refine (spec_l9Good gr bh _ bl _ (Hbv.out.below (HB.out.trans (hc.mono HB.out.size))) ibh).mono ?_
  rintro e u1 ⟨rfl, hq1⟩
  replace hc := Below.next hc hq1
  clear hq1 c0_0 c0_1 c0_2 c1_0 c1_1 c2_0 c2_1 c2_2
  obtain ⟨c0_0, c0_1, c0_2, c1_0, c1_1, c2_0, c2_1, c2_2⟩ := HCC.out _ hc
  cases hc1 : baB gr bh bl with
  | false =>
    have Hhc1 := Lib.hid hc1
    clear hc1
    go_wp2_with fail
    have HV : Hid ((.tuple #[.bool (voR gr sOpen bh bl c0 d), .bool (voA gr bh bl c0)] : Value) = .tuple #[.bool false, .bool false]) := by unfold Hid; simp [voR, voA, Hhc1.out]
    go_ret2
    exact ⟨congrArg Ending.returned HV.out.symm, HB.out.trans (hc.mono HB.out.size)⟩
  | true =>
    have HBA := Lib.hid (baB_parts hc1)
    have HG := Lib.hid (goodG_ok HBA.out.1)
    have sbh : Small bh := elB_small HG.out HBA.out.2.1
    have Hhc1 := Lib.hid hc1
    clear hc1
    go_wp2_with fail
    refine (spec_gIs gr _ [c0] _ HG.out (OwnI.lit (B := 0) _ (Nat.zero_le _) (l := [c0]) (AllI64.cons ic0 AllI64.nil) rfl (by simp [maxLen]) 1 rfl).ints).mono ?_
    rintro e u2 ⟨rfl, hq2⟩
    replace hq2 := Below.next (keep_al (Below.refl _ _) _) hq2
    replace hc := Below.next hc hq2
    clear hq2 c0_0 c0_1 c0_2 c1_0 c1_1 c2_0 c2_1 c2_2
    obtain ⟨c0_0, c0_1, c0_2, c1_0, c1_1, c2_0, c2_1, c2_2⟩ := HCC.out _ hc
    cases hc2 : [c0].all (elB gr) with
    | false =>
      have Hhc2 := Lib.hid hc2
      clear hc2
      go_wp2_with fail
      have HV : Hid ((.tuple #[.bool (voR gr sOpen bh bl c0 d), .bool (voA gr bh bl c0)] : Value) = .tuple #[.bool false, .bool false]) := by unfold Hid; have qhc2 := Hhc2.out; simp only [List.all_cons, List.all_nil, Bool.and_true] at qhc2; simp [voR, voA, Hhc1.out, qhc2]
      go_ret2
      exact ⟨congrArg Ending.returned HV.out.symm, HB.out.trans (hc.mono HB.out.size)⟩
    | true =>
      have sc0 : Small c0 := elB_small HG.out (by simpa using hc2)
      have Hhc2 := Lib.hid hc2
      clear hc2
      go_wp2_with fail
      refine (spec_pOpening gr bh _ bl c0 _ d _ HG.out (Hbv.out.below (HB.out.trans (hc.mono HB.out.size))) (PfR.mk (Hxc.out.below (HB.out.trans (hc.mono HB.out.size))) (Hxh.out.below (HB.out.trans (hc.mono HB.out.size))) (Hxr.out.below (HB.out.trans (hc.mono HB.out.size)))) sbh sc0).mono ?_
      rintro e u3 ⟨rfl, hq3⟩
      replace hc := Below.next hc hq3
      clear hq3 c0_0 c0_1 c0_2 c1_0 c1_1 c2_0 c2_1 c2_2
      obtain ⟨c0_0, c0_1, c0_2, c1_0, c1_1, c2_0, c2_1, c2_2⟩ := HCC.out _ hc
      cases hc3 : voV gr sOpen bh c0 d with
      | false =>
        have Hhc3 := Lib.hid hc3
        clear hc3
        go_wp2_with fail
        have HV : Hid ((.tuple #[.bool (voR gr sOpen bh bl c0 d), .bool (voA gr bh bl c0)] : Value) = .tuple #[.bool false, .bool true]) := by unfold Hid; have qhc2 := Hhc2.out; simp only [List.all_cons, List.all_nil, Bool.and_true] at qhc2; simp [voR, voA, Hhc1.out, qhc2, Hhc3.out]
        go_ret2
        exact ⟨congrArg Ending.returned HV.out.symm, HB.out.trans (hc.mono HB.out.size)⟩
      | true =>
        have Hhc3 := Lib.hid hc3
        clear hc3
        go_wp2_with fail
        have HV : Hid ((.tuple #[.bool (voR gr sOpen bh bl c0 d), .bool (voA gr bh bl c0)] : Value) = .tuple #[.bool true, .bool true]) := by unfold Hid; have qhc2 := Hhc2.out; simp only [List.all_cons, List.all_nil, Bool.and_true] at qhc2; simp [voR, voA, Hhc1.out, qhc2, Hhc3.out]
        go_ret2
        exact ⟨congrArg Ending.returned HV.out.symm, HB.out.trans (hc.mono HB.out.size)⟩
set_option maxRecDepth 100000 in
set_option maxHeartbeats 2000000 in
theorem impl_VerifyOpening (gr : GroupD) (bh : Int) (bv : Value) (bl : List Int) (c0 : Int) (pv : Value) (d : ProofD) (w : World) (hb : Ints w bv bl) (ibh : I64 bh) (ic0 : I64 c0) (hp : PfR w pv d) :
    Calls Try.prog 81 #[.agg #[.int .i64 gr.p, .int .i64 gr.q, .int .i64 gr.g], .agg #[.int .i64 bh, bv], .int .i64 c0, pv] w fun e w' => e = .returned (.tuple #[.bool (voR gr sOpen bh bl c0 d), .bool (voA gr bh bl c0)]) ∧ Below w.heap.size w w' := by
  rw [voR_P]
  obtain ⟨bva, bvn, bvc, rfl⟩ := hb.shape
  have Ebv := Lib.hid hb.len
  have Kbv := Lib.hid hb.capMax
  have Hbv := Lib.hid hb
  clear hb
  obtain ⟨xcv, xhv, xrv, rfl, hxc, hxh, hxr⟩ := hp
  obtain ⟨xca, xcn, xcc, rfl⟩ := hxc.shape
  have Exc := Lib.hid hxc.len
  have Kxc := Lib.hid hxc.capMax
  have Hxc := Lib.hid hxc
  clear hxc
  obtain ⟨xha, xhn, xhc, rfl⟩ := hxh.shape
  have Exh := Lib.hid hxh.len
  have Kxh := Lib.hid hxh.capMax
  have Hxh := Lib.hid hxh
  clear hxh
  obtain ⟨xra, xrn, xrc, rfl⟩ := hxr.shape
  have Exr := Lib.hid hxr.len
  have Kxr := Lib.hid hxr.capMax
  have Hxr := Lib.hid hxr
  clear hxr
  obtain ⟨W, hW⟩ : ∃ W, W = ((w.alloc (.cells #[.int .i64 gr.p, .int .i64 gr.q, .int .i64 gr.g] 39)).alloc (.cells #[.int .i64 bh, (.slice bva bvn bvc)] 79)).alloc (.cells #[(.slice xca xcn xcc), (.slice xha xhn xhc), (.slice xra xrn xrc)] 42) := ⟨_, rfl⟩
  have HB : Hid (Below w.heap.size w W) := by unfold Hid; rw [hW]; (repeat (first | exact Below.refl _ _ | assumption | refine Below.drew ?_ | refine Below.alloc ?_ (by first | (simp; done) | (simp; omega)) _ | refine Below.setCell ?_ (by first | (simp; done) | (simp; omega)) _))
  have c0_0 : W.cell? ⟨w.heap.size, 0, none⟩ = some (.int .i64 gr.p) := by rw [hW]; simp [go_sem]
  have c0_1 : W.cell? ⟨w.heap.size, 1, none⟩ = some (.int .i64 gr.q) := by rw [hW]; simp [go_sem]
  have c0_2 : W.cell? ⟨w.heap.size, 2, none⟩ = some (.int .i64 gr.g) := by rw [hW]; simp [go_sem]
  have c1_0 : W.cell? ⟨w.heap.size + 1, 0, none⟩ = some (.int .i64 bh) := by rw [hW]; simp [go_sem]
  have c1_1 : W.cell? ⟨w.heap.size + 1, 1, none⟩ = some ((.slice bva bvn bvc)) := by rw [hW]; simp [go_sem]
  have c2_0 : W.cell? ⟨w.heap.size + 1 + 1, 0, none⟩ = some ((.slice xca xcn xcc)) := by rw [hW]; simp [go_sem]
  have c2_1 : W.cell? ⟨w.heap.size + 1 + 1, 1, none⟩ = some ((.slice xha xhn xhc)) := by rw [hW]; simp [go_sem]
  have c2_2 : W.cell? ⟨w.heap.size + 1 + 1, 2, none⟩ = some ((.slice xra xrn xrc)) := by rw [hW]; simp [go_sem]
  have HSW : Hid (W.heap.size = w.heap.size + 3) := by unfold Hid; rw [hW]; simp
  go_enter Try.func81, Try.ntmps81
  go_wp2_with fail
  rw [← hW]
  have hse : w.heap.size + 1 + 1 + 1 = W.heap.size := by have := HSW.out; omega
  (try rw [hse])
  clear hse
  clear hW
  have hc : Below W.heap.size W W := Below.refl _ _
  have HCC : Hid (∀ u, Below W.heap.size W u → u.cell? ⟨w.heap.size, 0, none⟩ = some (.int .i64 gr.p) ∧ u.cell? ⟨w.heap.size, 1, none⟩ = some (.int .i64 gr.q) ∧ u.cell? ⟨w.heap.size, 2, none⟩ = some (.int .i64 gr.g) ∧ u.cell? ⟨w.heap.size + 1, 0, none⟩ = some (.int .i64 bh) ∧ u.cell? ⟨w.heap.size + 1, 1, none⟩ = some ((.slice bva bvn bvc)) ∧ u.cell? ⟨w.heap.size + 1 + 1, 0, none⟩ = some ((.slice xca xcn xcc)) ∧ u.cell? ⟨w.heap.size + 1 + 1, 1, none⟩ = some ((.slice xha xhn xhc)) ∧ u.cell? ⟨w.heap.size + 1 + 1, 2, none⟩ = some ((.slice xra xrn xrc))) := fun u h => ⟨box_at c0_0 h, box_at c0_1 h, box_at c0_2 h, box_at c1_0 h, box_at c1_1 h, box_at c2_0 h, box_at c2_1 h, box_at c2_2 h⟩
  go_wp2_with fail
  refine (impl_IsValidBases gr bh _ bl _ (Hbv.out.below (HB.out.trans (hc.mono HB.out.size))) ibh).mono ?_
  rintro e u1 ⟨rfl, hq1⟩
  replace hc := Below.next hc hq1
  clear hq1 c0_0 c0_1 c0_2 c1_0 c1_1 c2_0 c2_1 c2_2
  obtain ⟨c0_0, c0_1, c0_2, c1_0, c1_1, c2_0, c2_1, c2_2⟩ := HCC.out _ hc
  cases hc1 : baB gr bh bl with
  | false =>
    have Hhc1 := Lib.hid hc1
    clear hc1
    go_wp2_with fail
    have HV : Hid ((.tuple #[.bool (voA gr bh bl c0 && voP gr sOpen bh c0 d), .bool (voA gr bh bl c0)] : Value) = .tuple #[.bool false, .bool false]) := by unfold Hid; simp [voA, voP, Hhc1.out]
    go_ret2
    exact ⟨congrArg Ending.returned HV.out.symm, HB.out.trans (hc.mono HB.out.size)⟩
  | true =>
    have HBA := Lib.hid (baB_parts hc1)
    have HG := Lib.hid (goodG_ok HBA.out.1)
    have sbh : Small bh := elB_small HG.out HBA.out.2.1
    have Hhc1 := Lib.hid hc1
    clear hc1
    go_wp2_with fail
    refine (impl_has gr c0 _ HG.out).mono ?_
    rintro e u2 ⟨rfl, hq2⟩
    replace hc := Below.next hc hq2
    clear hq2 c0_0 c0_1 c0_2 c1_0 c1_1 c2_0 c2_1 c2_2
    obtain ⟨c0_0, c0_1, c0_2, c1_0, c1_1, c2_0, c2_1, c2_2⟩ := HCC.out _ hc
    cases hc2 : elB gr c0 with
    | false =>
      have Hhc2 := Lib.hid hc2
      clear hc2
      go_wp2_with fail
      have HV : Hid ((.tuple #[.bool (voA gr bh bl c0 && voP gr sOpen bh c0 d), .bool (voA gr bh bl c0)] : Value) = .tuple #[.bool false, .bool false]) := by unfold Hid; simp [voA, voP, Hhc1.out, Hhc2.out]
      go_ret2
      exact ⟨congrArg Ending.returned HV.out.symm, HB.out.trans (hc.mono HB.out.size)⟩
    | true =>
      have sc0 : Small c0 := elB_small HG.out (hc2)
      have Hhc2 := Lib.hid hc2
      clear hc2
      cases hc3 : ((xcn : Int) != 1) with
      | false =>
        have HLxc : Hid (decide (d.c.length = 1) = true) := by have q := hc3; rw [bne_eq_false_iff_eq] at q; exact decide_eq_true (by have := Exc.out; omega)
        obtain rfl : xcn = 1 := by have q := hc3; rw [bne_eq_false_iff_eq] at q; omega
        obtain ⟨xcb, xco, rfl, hx⟩ := Hxc.out.at_ (by omega)
        have Kxc0 : Hid (w.cell? ⟨xcb, xco, none⟩ = some (.int .i64 (nth d.c 0))) := by unfold Hid; have h := hx 0 (by omega); simpa using h
        clear hx
        have yxc0 := box_at Kxc0.out (HB.out.trans (hc.mono HB.out.size))
        replace HCC : Hid (∀ u, Below W.heap.size W u → u.cell? ⟨w.heap.size, 0, none⟩ = some (.int .i64 gr.p) ∧ u.cell? ⟨w.heap.size, 1, none⟩ = some (.int .i64 gr.q) ∧ u.cell? ⟨w.heap.size, 2, none⟩ = some (.int .i64 gr.g) ∧ u.cell? ⟨w.heap.size + 1, 0, none⟩ = some (.int .i64 bh) ∧ u.cell? ⟨w.heap.size + 1, 1, none⟩ = some ((.slice bva bvn bvc)) ∧ u.cell? ⟨w.heap.size + 1 + 1, 0, none⟩ = some ((.slice (some ⟨xcb, xco, none⟩) 1 xcc)) ∧ u.cell? ⟨w.heap.size + 1 + 1, 1, none⟩ = some ((.slice xha xhn xhc)) ∧ u.cell? ⟨w.heap.size + 1 + 1, 2, none⟩ = some ((.slice xra xrn xrc)) ∧ u.cell? ⟨xcb, xco, none⟩ = some (.int .i64 (nth d.c 0))) := fun u h => by obtain ⟨c0_0, c0_1, c0_2, c1_0, c1_1, c2_0, c2_1, c2_2⟩ := HCC.out u h; exact ⟨c0_0, c0_1, c0_2, c1_0, c1_1, c2_0, c2_1, c2_2, box_at Kxc0.out (HB.out.trans (h.mono HB.out.size))⟩
        cases hc4 : ((xhn : Int) != 1) with
        | false =>
          have HLxh : Hid (decide (d.h.length = 1) = true) := by have q := hc4; rw [bne_eq_false_iff_eq] at q; exact decide_eq_true (by have := Exh.out; omega)
          obtain rfl : xhn = 1 := by have q := hc4; rw [bne_eq_false_iff_eq] at q; omega
          obtain ⟨xhb, xho, rfl, hx⟩ := Hxh.out.at_ (by omega)
          have Kxh0 : Hid (w.cell? ⟨xhb, xho, none⟩ = some (.int .i64 (nth d.h 0))) := by unfold Hid; have h := hx 0 (by omega); simpa using h
          clear hx
          have yxh0 := box_at Kxh0.out (HB.out.trans (hc.mono HB.out.size))
          replace HCC : Hid (∀ u, Below W.heap.size W u → u.cell? ⟨w.heap.size, 0, none⟩ = some (.int .i64 gr.p) ∧ u.cell? ⟨w.heap.size, 1, none⟩ = some (.int .i64 gr.q) ∧ u.cell? ⟨w.heap.size, 2, none⟩ = some (.int .i64 gr.g) ∧ u.cell? ⟨w.heap.size + 1, 0, none⟩ = some (.int .i64 bh) ∧ u.cell? ⟨w.heap.size + 1, 1, none⟩ = some ((.slice bva bvn bvc)) ∧ u.cell? ⟨w.heap.size + 1 + 1, 0, none⟩ = some ((.slice (some ⟨xcb, xco, none⟩) 1 xcc)) ∧ u.cell? ⟨w.heap.size + 1 + 1, 1, none⟩ = some ((.slice (some ⟨xhb, xho, none⟩) 1 xhc)) ∧ u.cell? ⟨w.heap.size + 1 + 1, 2, none⟩ = some ((.slice xra xrn xrc)) ∧ u.cell? ⟨xcb, xco, none⟩ = some (.int .i64 (nth d.c 0)) ∧ u.cell? ⟨xhb, xho, none⟩ = some (.int .i64 (nth d.h 0))) := fun u h => by obtain ⟨c0_0, c0_1, c0_2, c1_0, c1_1, c2_0, c2_1, c2_2, yxc0⟩ := HCC.out u h; exact ⟨c0_0, c0_1, c0_2, c1_0, c1_1, c2_0, c2_1, c2_2, yxc0, box_at Kxh0.out (HB.out.trans (h.mono HB.out.size))⟩
          cases hc5 : ((xrn : Int) != 2) with
          | false =>
            have HLxr : Hid (decide (d.r.length = 2) = true) := by have q := hc5; rw [bne_eq_false_iff_eq] at q; exact decide_eq_true (by have := Exr.out; omega)
            obtain rfl : xrn = 2 := by have q := hc5; rw [bne_eq_false_iff_eq] at q; omega
            obtain ⟨xrb, xro, rfl, hx⟩ := Hxr.out.at_ (by omega)
            have Kxr0 : Hid (w.cell? ⟨xrb, xro, none⟩ = some (.int .i64 (nth d.r 0))) := by unfold Hid; have h := hx 0 (by omega); simpa using h
            have Kxr1 : Hid (w.cell? ⟨xrb, xro + 1, none⟩ = some (.int .i64 (nth d.r 1))) := by unfold Hid; have h := hx 1 (by omega); simpa using h
            clear hx
            have yxr0 := box_at Kxr0.out (HB.out.trans (hc.mono HB.out.size))
            have yxr1 := box_at Kxr1.out (HB.out.trans (hc.mono HB.out.size))
            replace HCC : Hid (∀ u, Below W.heap.size W u → u.cell? ⟨w.heap.size, 0, none⟩ = some (.int .i64 gr.p) ∧ u.cell? ⟨w.heap.size, 1, none⟩ = some (.int .i64 gr.q) ∧ u.cell? ⟨w.heap.size, 2, none⟩ = some (.int .i64 gr.g) ∧ u.cell? ⟨w.heap.size + 1, 0, none⟩ = some (.int .i64 bh) ∧ u.cell? ⟨w.heap.size + 1, 1, none⟩ = some ((.slice bva bvn bvc)) ∧ u.cell? ⟨w.heap.size + 1 + 1, 0, none⟩ = some ((.slice (some ⟨xcb, xco, none⟩) 1 xcc)) ∧ u.cell? ⟨w.heap.size + 1 + 1, 1, none⟩ = some ((.slice (some ⟨xhb, xho, none⟩) 1 xhc)) ∧ u.cell? ⟨w.heap.size + 1 + 1, 2, none⟩ = some ((.slice (some ⟨xrb, xro, none⟩) 2 xrc)) ∧ u.cell? ⟨xcb, xco, none⟩ = some (.int .i64 (nth d.c 0)) ∧ u.cell? ⟨xhb, xho, none⟩ = some (.int .i64 (nth d.h 0)) ∧ u.cell? ⟨xrb, xro, none⟩ = some (.int .i64 (nth d.r 0)) ∧ u.cell? ⟨xrb, xro + 1, none⟩ = some (.int .i64 (nth d.r 1))) := fun u h => by obtain ⟨c0_0, c0_1, c0_2, c1_0, c1_1, c2_0, c2_1, c2_2, yxc0, yxh0⟩ := HCC.out u h; exact ⟨c0_0, c0_1, c0_2, c1_0, c1_1, c2_0, c2_1, c2_2, yxc0, yxh0, box_at Kxr0.out (HB.out.trans (h.mono HB.out.size)), box_at Kxr1.out (HB.out.trans (h.mono HB.out.size))⟩
            cases hc6 : elB gr (nth d.c 0) with
            | false =>
              have Hhc6 := Lib.hid hc6
              clear hc6
              try (go_wp2_with fail)
              refine wp_region_noPanic ?_
              refine wp_region_P (fun w' => w'.cell? ⟨w.heap.size, 0, none⟩ = some (.int .i64 gr.p) ∧ w'.cell? ⟨w.heap.size, 1, none⟩ = some (.int .i64 gr.q) ∧ w'.cell? ⟨w.heap.size, 2, none⟩ = some (.int .i64 gr.g) ∧ w'.cell? ⟨w.heap.size + 1, 0, none⟩ = some (.int .i64 bh) ∧ w'.cell? ⟨w.heap.size + 1, 1, none⟩ = some ((.slice bva bvn bvc)) ∧ w'.cell? ⟨w.heap.size + 1 + 1, 0, none⟩ = some ((.slice (some ⟨xcb, xco, none⟩) 1 xcc)) ∧ w'.cell? ⟨w.heap.size + 1 + 1, 1, none⟩ = some ((.slice (some ⟨xhb, xho, none⟩) 1 xhc)) ∧ w'.cell? ⟨w.heap.size + 1 + 1, 2, none⟩ = some ((.slice (some ⟨xrb, xro, none⟩) 2 xrc)) ∧ w'.cell? ⟨xcb, xco, none⟩ = some (.int .i64 (nth d.c 0)) ∧ w'.cell? ⟨xhb, xho, none⟩ = some (.int .i64 (nth d.h 0)) ∧ w'.cell? ⟨xrb, xro, none⟩ = some (.int .i64 (nth d.r 0)) ∧ w'.cell? ⟨xrb, xro + 1, none⟩ = some (.int .i64 (nth d.r 1))) 34 [(0, []), (1, [0]), (2, [0]), (3, [0]), (4, [0]), (5, [0]), (6, [0, 1]), (7, [0, 2]), (8, [0, 3]), (9, [4, 0]), (10, [0]), (11, [0]), (12, [0, 1]), (13, [0, 2]), (14, [0, 3]), (15, [4, 0]), (16, [0]), (17, [0]), (18, [1]), (19, [0, 2]), (20, [0, 3]), (21, [0, 4]), (22, [4, 0, 5]), (23, [0, 6]), (24, [7, 0]), (25, [0]), (26, [0]), (27, [1]), (28, [0, 2]), (29, [2, 0, 3]), (30, [0, 4]), (31, [5, 0])] [] (by kernel_rfl) (by kernel_rfl) (by kernel_rfl) rfl (fun _ _ _ _ h => h) (fun w' h => ⟨box_at c0_0 h, box_at c0_1 h, box_at c0_2 h, box_at c1_0 h, box_at c1_1 h, box_at c2_0 h, box_at c2_1 h, box_at c2_2 h, box_at yxc0 h, box_at yxh0 h, box_at yxr0 h, box_at yxr1 h⟩) ?_
              simp only [pickP, pickN, List.getElem?_cons_zero, List.getElem?_cons_succ]
              iterate 5 (refine' chainP_read _ rfl rfl (fun w' hS' => ?_) ?_; rotate_left; · (simp only [lookP, allP, Act.put, List.getElem?_cons_zero, List.getElem?_cons_succ, List.setIfInBounds_toArray, List.set_cons_zero, List.set_cons_succ]; (try dsimp only at hS'); go_simp; (try with_reducible rfl)))
              -- 5: fieldAddr 42 t7 1
              refine' chainP_readG (d := (some 28)) _ rfl (fun w' hS' => ?_) ?_; rotate_left
              · simp only [lookP, allP, Act.put, List.getElem?_cons_zero, List.getElem?_cons_succ, List.setIfInBounds_toArray, List.set_cons_zero, List.set_cons_succ]
                refine ⟨by kernel_rfl, ?_⟩
                (try dsimp only at hS')
                go_simp
                (try with_reducible rfl)
              -- 6: load 24 t28
              refine' chainP_readG (d := (some 29)) _ rfl (fun w' hS' => ?_) ?_; rotate_left
              · simp only [lookP, allP, Act.put, List.getElem?_cons_zero, List.getElem?_cons_succ, List.setIfInBounds_toArray, List.set_cons_zero, List.set_cons_succ]
                refine ⟨by kernel_rfl, ?_⟩
                (try dsimp only at hS')
                go_simp
                (try with_reducible rfl)
              -- 7: call { callee := builtin Builtin.len, args := #[t29], argTypes := #[24] }
              refine' chainP_readG (d := (some 30)) _ rfl (fun w' hS' => ?_) ?_; rotate_left
              · simp only [lookP, allP, Act.put, List.getElem?_cons_zero, List.getElem?_cons_succ, List.setIfInBounds_toArray, List.set_cons_zero, List.set_cons_succ]
                refine ⟨by kernel_rfl, ?_⟩
                (try dsimp only at hS')
                go_simp
                (try with_reducible rfl)
              -- 8: binOp Binneq 3 t30 (const (int i64 1)) 3
              refine' chainP_readG (d := (some 31)) _ rfl (fun w' hS' => ?_) ?_; rotate_left
              · simp only [lookP, allP, Act.put, List.getElem?_cons_zero, List.getElem?_cons_succ, List.setIfInBounds_toArray, List.set_cons_zero, List.set_cons_succ]
                refine ⟨by kernel_rfl, ?_⟩
                (try dsimp only at hS')
                go_simp
                (try with_reducible rfl)
              iterate 2 (refine' chainP_read _ rfl rfl (fun w' hS' => ?_) ?_; rotate_left; · (simp only [lookP, allP, Act.put, List.getElem?_cons_zero, List.getElem?_cons_succ, List.setIfInBounds_toArray, List.set_cons_zero, List.set_cons_succ]; (try dsimp only at hS'); go_simp; (try with_reducible rfl)))
              -- 11: fieldAddr 42 t7 2
              refine' chainP_readG (d := (some 34)) _ rfl (fun w' hS' => ?_) ?_; rotate_left
              · simp only [lookP, allP, Act.put, List.getElem?_cons_zero, List.getElem?_cons_succ, List.setIfInBounds_toArray, List.set_cons_zero, List.set_cons_succ]
                refine ⟨by kernel_rfl, ?_⟩
                (try dsimp only at hS')
                go_simp
                (try with_reducible rfl)
              -- 12: load 24 t34
              refine' chainP_readG (d := (some 35)) _ rfl (fun w' hS' => ?_) ?_; rotate_left
              · simp only [lookP, allP, Act.put, List.getElem?_cons_zero, List.getElem?_cons_succ, List.setIfInBounds_toArray, List.set_cons_zero, List.set_cons_succ]
                refine ⟨by kernel_rfl, ?_⟩
                (try dsimp only at hS')
                go_simp
                (try with_reducible rfl)
              -- 13: call { callee := builtin Builtin.len, args := #[t35], argTypes := #[24] }
              refine' chainP_readG (d := (some 36)) _ rfl (fun w' hS' => ?_) ?_; rotate_left
              · simp only [lookP, allP, Act.put, List.getElem?_cons_zero, List.getElem?_cons_succ, List.setIfInBounds_toArray, List.set_cons_zero, List.set_cons_succ]
                refine ⟨by kernel_rfl, ?_⟩
                (try dsimp only at hS')
                go_simp
                (try with_reducible rfl)
              -- 14: binOp Binneq 3 t36 (const (int i64 2)) 3
              refine' chainP_readG (d := (some 37)) _ rfl (fun w' hS' => ?_) ?_; rotate_left
              · simp only [lookP, allP, Act.put, List.getElem?_cons_zero, List.getElem?_cons_succ, List.setIfInBounds_toArray, List.set_cons_zero, List.set_cons_succ]
                refine ⟨by kernel_rfl, ?_⟩
                (try dsimp only at hS')
                go_simp
                (try with_reducible rfl)
              iterate 2 (refine' chainP_read _ rfl rfl (fun w' hS' => ?_) ?_; rotate_left; · (simp only [lookP, allP, Act.put, List.getElem?_cons_zero, List.getElem?_cons_succ, List.setIfInBounds_toArray, List.set_cons_zero, List.set_cons_succ]; (try dsimp only at hS'); go_simp; (try with_reducible rfl)))
              -- 17: load 39 t4
              refine' chainP_readG (d := (some 40)) _ rfl (fun w' hS' => ?_) ?_; rotate_left
              · simp only [lookP, allP, Act.put, List.getElem?_cons_zero, List.getElem?_cons_succ, List.setIfInBounds_toArray, List.set_cons_zero, List.set_cons_succ]
                refine ⟨by kernel_rfl, ?_⟩
                (try dsimp only at hS')
                go_simp
                (try with_reducible rfl)
              -- 18: fieldAddr 42 t7 0
              refine' chainP_readG (d := (some 41)) _ rfl (fun w' hS' => ?_) ?_; rotate_left
              · simp only [lookP, allP, Act.put, List.getElem?_cons_zero, List.getElem?_cons_succ, List.setIfInBounds_toArray, List.set_cons_zero, List.set_cons_succ]
                refine ⟨by kernel_rfl, ?_⟩
                (try dsimp only at hS')
                go_simp
                (try with_reducible rfl)
              -- 19: load 24 t41
              refine' chainP_readG (d := (some 42)) _ rfl (fun w' hS' => ?_) ?_; rotate_left
              · simp only [lookP, allP, Act.put, List.getElem?_cons_zero, List.getElem?_cons_succ, List.setIfInBounds_toArray, List.set_cons_zero, List.set_cons_succ]
                refine ⟨by kernel_rfl, ?_⟩
                (try dsimp only at hS')
                go_simp
                (try with_reducible rfl)
              -- 20: indexAddr 24 t42 (const (int i64 0))
              refine' chainP_readG (d := (some 43)) _ rfl (fun w' hS' => ?_) ?_; rotate_left
              · simp only [lookP, allP, Act.put, List.getElem?_cons_zero, List.getElem?_cons_succ, List.setIfInBounds_toArray, List.set_cons_zero, List.set_cons_succ]
                refine ⟨by kernel_rfl, ?_⟩
                (try dsimp only at hS')
                go_simp
                (try with_reducible rfl)
              -- 21: load 3 t43
              refine' chainP_readG (d := (some 44)) _ rfl (fun w' hS' => ?_) ?_; rotate_left
              · simp only [lookP, allP, Act.put, List.getElem?_cons_zero, List.getElem?_cons_succ, List.setIfInBounds_toArray, List.set_cons_zero, List.set_cons_succ]
                refine ⟨by kernel_rfl, ?_⟩
                (try dsimp only at hS')
                go_simp
                (try with_reducible rfl)
              -- 22: call { callee := value (func 138), args := #[t40, t44], argTypes := #[39, 3] }
              refine chainP_callG (d := (some 45)) (.bool false) rfl (fun w' hS' => ?_) ?_
              · simp only [lookP, allP, Act.put, List.getElem?_cons_zero, List.getElem?_cons_succ, List.setIfInBounds_toArray, List.set_cons_zero, List.set_cons_succ]
                refine ⟨by kernel_rfl, ?_⟩
                intro K hK
                go_simp
                go_at_call 138
                refine (impl_has gr (nth d.c 0) _ HG.out).mono ?_
                rintro e u ⟨rfl, hq⟩
                rw [Hhc6.out]
                exact hK.out _ hq
              -- 23: unOp Unnot 4 t45
              refine' chainP_readG (d := (some 46)) _ rfl (fun w' hS' => ?_) ?_; rotate_left
              · simp only [lookP, allP, Act.put, List.getElem?_cons_zero, List.getElem?_cons_succ, List.setIfInBounds_toArray, List.set_cons_zero, List.set_cons_succ]
                refine ⟨by kernel_rfl, ?_⟩
                (try dsimp only at hS')
                go_simp
                (try with_reducible rfl)
              iterate 2 (refine' chainP_read _ rfl rfl (fun w' hS' => ?_) ?_; rotate_left; · (simp only [lookP, allP, Act.put, List.getElem?_cons_zero, List.getElem?_cons_succ, List.setIfInBounds_toArray, List.set_cons_zero, List.set_cons_succ]; (try dsimp only at hS'); go_simp; (try with_reducible rfl)))
              -- 26: load 39 t4
              refine chainP_skip (d := (some 49)) rfl (fun w' hS' => ?_) ?_
              · simp only [lookP, allP, Act.put, List.getElem?_cons_zero, List.getElem?_cons_succ, List.setIfInBounds_toArray, List.set_cons_zero, List.set_cons_succ]
                kernel_rfl
              -- 27: fieldAddr 42 t7 2
              refine chainP_skip (d := (some 50)) rfl (fun w' hS' => ?_) ?_
              · simp only [lookP, allP, Act.put, List.getElem?_cons_zero, List.getElem?_cons_succ, List.setIfInBounds_toArray, List.set_cons_zero, List.set_cons_succ]
                kernel_rfl
              -- 28: load 24 t50
              refine chainP_skip (d := (some 51)) rfl (fun w' hS' => ?_) ?_
              · simp only [lookP, allP, Act.put, List.getElem?_cons_zero, List.getElem?_cons_succ, List.setIfInBounds_toArray, List.set_cons_zero, List.set_cons_succ]
                kernel_rfl
              -- 29: call { callee := value (func 140), args := #[t49, t51], argTypes := #[39, 24] }
              refine chainP_skip (d := (some 52)) rfl (fun w' hS' => ?_) ?_
              · simp only [lookP, allP, Act.put, List.getElem?_cons_zero, List.getElem?_cons_succ, List.setIfInBounds_toArray, List.set_cons_zero, List.set_cons_succ]
                kernel_rfl
              -- 30: unOp Unnot 4 t52
              refine chainP_skip (d := (some 53)) rfl (fun w' hS' => ?_) ?_
              · simp only [lookP, allP, Act.put, List.getElem?_cons_zero, List.getElem?_cons_succ, List.setIfInBounds_toArray, List.set_cons_zero, List.set_cons_succ]
                kernel_rfl
              -- 31: pick t48 (const (bool true)) t53
              refine' chainP_read (d := (some 54)) _ rfl rfl (fun w' hS' => ?_) ?_; rotate_left
              · simp only [lookP, allP, Act.put, List.getElem?_cons_zero, List.getElem?_cons_succ, List.setIfInBounds_toArray, List.set_cons_zero, List.set_cons_succ]
                (try dsimp only at hS')
                go_simp
                (try with_reducible rfl)
              refine chainP_nil (fun u3 hS' => ?_)
              simp only [allP, Act.put, List.setIfInBounds_toArray, List.set_cons_zero, List.set_cons_succ]
              have hq3 := hS'.1
              clear hS'
              replace hc := Below.next hc hq3
              clear hq3 c0_0 c0_1 c0_2 c1_0 c1_1 c2_0 c2_1 c2_2 yxc0 yxh0 yxr0 yxr1
              obtain ⟨c0_0, c0_1, c0_2, c1_0, c1_1, c2_0, c2_1, c2_2, yxc0, yxh0, yxr0, yxr1⟩ := HCC.out _ hc
              go_wp2_with fail
              refine NoPanic.normal ?_
              go_wp2_with fail
              have HV : Hid ((.tuple #[.bool (voA gr bh bl c0 && voP gr sOpen bh c0 d), .bool (voA gr bh bl c0)] : Value) = .tuple #[.bool false, .bool true]) := by unfold Hid; simp [voA, voP, Hhc1.out, Hhc2.out, hc3, hc4, hc5, Hhc6.out, HLxc.out, HLxh.out, HLxr.out]
              go_ret2
              exact ⟨congrArg Ending.returned HV.out.symm, HB.out.trans (hc.mono HB.out.size)⟩
            | true =>
              have sx0 : Small (nth d.c 0) := elB_small HG.out hc6
              have Hhc6 := Lib.hid hc6
              clear hc6
              cases hc7 : d.r.all (expB gr) with
              | false =>
                have HEX : Hid True := trivial
                have Hhc7 := Lib.hid hc7
                clear hc7
                try (go_wp2_with fail)
                refine wp_region_noPanic ?_
                refine wp_region_P (fun w' => w'.cell? ⟨w.heap.size, 0, none⟩ = some (.int .i64 gr.p) ∧ w'.cell? ⟨w.heap.size, 1, none⟩ = some (.int .i64 gr.q) ∧ w'.cell? ⟨w.heap.size, 2, none⟩ = some (.int .i64 gr.g) ∧ w'.cell? ⟨w.heap.size + 1, 0, none⟩ = some (.int .i64 bh) ∧ w'.cell? ⟨w.heap.size + 1, 1, none⟩ = some ((.slice bva bvn bvc)) ∧ w'.cell? ⟨w.heap.size + 1 + 1, 0, none⟩ = some ((.slice (some ⟨xcb, xco, none⟩) 1 xcc)) ∧ w'.cell? ⟨w.heap.size + 1 + 1, 1, none⟩ = some ((.slice (some ⟨xhb, xho, none⟩) 1 xhc)) ∧ w'.cell? ⟨w.heap.size + 1 + 1, 2, none⟩ = some ((.slice (some ⟨xrb, xro, none⟩) 2 xrc)) ∧ w'.cell? ⟨xcb, xco, none⟩ = some (.int .i64 (nth d.c 0)) ∧ w'.cell? ⟨xhb, xho, none⟩ = some (.int .i64 (nth d.h 0)) ∧ w'.cell? ⟨xrb, xro, none⟩ = some (.int .i64 (nth d.r 0)) ∧ w'.cell? ⟨xrb, xro + 1, none⟩ = some (.int .i64 (nth d.r 1))) 34 [(0, []), (1, [0]), (2, [0]), (3, [0]), (4, [0]), (5, [0]), (6, [0, 1]), (7, [0, 2]), (8, [0, 3]), (9, [4, 0]), (10, [0]), (11, [0]), (12, [0, 1]), (13, [0, 2]), (14, [0, 3]), (15, [4, 0]), (16, [0]), (17, [0]), (18, [1]), (19, [0, 2]), (20, [0, 3]), (21, [0, 4]), (22, [4, 0, 5]), (23, [0, 6]), (24, [7, 0]), (25, [0]), (26, [0]), (27, [1]), (28, [0, 2]), (29, [2, 0, 3]), (30, [0, 4]), (31, [5, 0])] [] (by kernel_rfl) (by kernel_rfl) (by kernel_rfl) rfl (fun _ _ _ _ h => h) (fun w' h => ⟨box_at c0_0 h, box_at c0_1 h, box_at c0_2 h, box_at c1_0 h, box_at c1_1 h, box_at c2_0 h, box_at c2_1 h, box_at c2_2 h, box_at yxc0 h, box_at yxh0 h, box_at yxr0 h, box_at yxr1 h⟩) ?_
                simp only [pickP, pickN, List.getElem?_cons_zero, List.getElem?_cons_succ]
                iterate 5 (refine' chainP_read _ rfl rfl (fun w' hS' => ?_) ?_; rotate_left; · (simp only [lookP, allP, Act.put, List.getElem?_cons_zero, List.getElem?_cons_succ, List.setIfInBounds_toArray, List.set_cons_zero, List.set_cons_succ]; (try dsimp only at hS'); go_simp; (try with_reducible rfl)))
                -- 5: fieldAddr 42 t7 1
                refine' chainP_readG (d := (some 28)) _ rfl (fun w' hS' => ?_) ?_; rotate_left
                · simp only [lookP, allP, Act.put, List.getElem?_cons_zero, List.getElem?_cons_succ, List.setIfInBounds_toArray, List.set_cons_zero, List.set_cons_succ]
                  refine ⟨by kernel_rfl, ?_⟩
                  (try dsimp only at hS')
                  go_simp
                  (try with_reducible rfl)
                -- 6: load 24 t28
                refine' chainP_readG (d := (some 29)) _ rfl (fun w' hS' => ?_) ?_; rotate_left
                · simp only [lookP, allP, Act.put, List.getElem?_cons_zero, List.getElem?_cons_succ, List.setIfInBounds_toArray, List.set_cons_zero, List.set_cons_succ]
                  refine ⟨by kernel_rfl, ?_⟩
                  (try dsimp only at hS')
                  go_simp
                  (try with_reducible rfl)
                -- 7: call { callee := builtin Builtin.len, args := #[t29], argTypes := #[24] }
                refine' chainP_readG (d := (some 30)) _ rfl (fun w' hS' => ?_) ?_; rotate_left
                · simp only [lookP, allP, Act.put, List.getElem?_cons_zero, List.getElem?_cons_succ, List.setIfInBounds_toArray, List.set_cons_zero, List.set_cons_succ]
                  refine ⟨by kernel_rfl, ?_⟩
                  (try dsimp only at hS')
                  go_simp
                  (try with_reducible rfl)
                -- 8: binOp Binneq 3 t30 (const (int i64 1)) 3
                refine' chainP_readG (d := (some 31)) _ rfl (fun w' hS' => ?_) ?_; rotate_left
                · simp only [lookP, allP, Act.put, List.getElem?_cons_zero, List.getElem?_cons_succ, List.setIfInBounds_toArray, List.set_cons_zero, List.set_cons_succ]
                  refine ⟨by kernel_rfl, ?_⟩
                  (try dsimp only at hS')
                  go_simp
                  (try with_reducible rfl)
                iterate 2 (refine' chainP_read _ rfl rfl (fun w' hS' => ?_) ?_; rotate_left; · (simp only [lookP, allP, Act.put, List.getElem?_cons_zero, List.getElem?_cons_succ, List.setIfInBounds_toArray, List.set_cons_zero, List.set_cons_succ]; (try dsimp only at hS'); go_simp; (try with_reducible rfl)))
                -- 11: fieldAddr 42 t7 2
                refine' chainP_readG (d := (some 34)) _ rfl (fun w' hS' => ?_) ?_; rotate_left
                · simp only [lookP, allP, Act.put, List.getElem?_cons_zero, List.getElem?_cons_succ, List.setIfInBounds_toArray, List.set_cons_zero, List.set_cons_succ]
                  refine ⟨by kernel_rfl, ?_⟩
                  (try dsimp only at hS')
                  go_simp
                  (try with_reducible rfl)
                -- 12: load 24 t34
                refine' chainP_readG (d := (some 35)) _ rfl (fun w' hS' => ?_) ?_; rotate_left
                · simp only [lookP, allP, Act.put, List.getElem?_cons_zero, List.getElem?_cons_succ, List.setIfInBounds_toArray, List.set_cons_zero, List.set_cons_succ]
                  refine ⟨by kernel_rfl, ?_⟩
                  (try dsimp only at hS')
                  go_simp
                  (try with_reducible rfl)
                -- 13: call { callee := builtin Builtin.len, args := #[t35], argTypes := #[24] }
                refine' chainP_readG (d := (some 36)) _ rfl (fun w' hS' => ?_) ?_; rotate_left
                · simp only [lookP, allP, Act.put, List.getElem?_cons_zero, List.getElem?_cons_succ, List.setIfInBounds_toArray, List.set_cons_zero, List.set_cons_succ]
                  refine ⟨by kernel_rfl, ?_⟩
                  (try dsimp only at hS')
                  go_simp
                  (try with_reducible rfl)
                -- 14: binOp Binneq 3 t36 (const (int i64 2)) 3
                refine' chainP_readG (d := (some 37)) _ rfl (fun w' hS' => ?_) ?_; rotate_left
                · simp only [lookP, allP, Act.put, List.getElem?_cons_zero, List.getElem?_cons_succ, List.setIfInBounds_toArray, List.set_cons_zero, List.set_cons_succ]
                  refine ⟨by kernel_rfl, ?_⟩
                  (try dsimp only at hS')
                  go_simp
                  (try with_reducible rfl)
                iterate 2 (refine' chainP_read _ rfl rfl (fun w' hS' => ?_) ?_; rotate_left; · (simp only [lookP, allP, Act.put, List.getElem?_cons_zero, List.getElem?_cons_succ, List.setIfInBounds_toArray, List.set_cons_zero, List.set_cons_succ]; (try dsimp only at hS'); go_simp; (try with_reducible rfl)))
                -- 17: load 39 t4
                refine' chainP_readG (d := (some 40)) _ rfl (fun w' hS' => ?_) ?_; rotate_left
                · simp only [lookP, allP, Act.put, List.getElem?_cons_zero, List.getElem?_cons_succ, List.setIfInBounds_toArray, List.set_cons_zero, List.set_cons_succ]
                  refine ⟨by kernel_rfl, ?_⟩
                  (try dsimp only at hS')
                  go_simp
                  (try with_reducible rfl)
                -- 18: fieldAddr 42 t7 0
                refine' chainP_readG (d := (some 41)) _ rfl (fun w' hS' => ?_) ?_; rotate_left
                · simp only [lookP, allP, Act.put, List.getElem?_cons_zero, List.getElem?_cons_succ, List.setIfInBounds_toArray, List.set_cons_zero, List.set_cons_succ]
                  refine ⟨by kernel_rfl, ?_⟩
                  (try dsimp only at hS')
                  go_simp
                  (try with_reducible rfl)
                -- 19: load 24 t41
                refine' chainP_readG (d := (some 42)) _ rfl (fun w' hS' => ?_) ?_; rotate_left
                · simp only [lookP, allP, Act.put, List.getElem?_cons_zero, List.getElem?_cons_succ, List.setIfInBounds_toArray, List.set_cons_zero, List.set_cons_succ]
                  refine ⟨by kernel_rfl, ?_⟩
                  (try dsimp only at hS')
                  go_simp
                  (try with_reducible rfl)
                -- 20: indexAddr 24 t42 (const (int i64 0))
                refine' chainP_readG (d := (some 43)) _ rfl (fun w' hS' => ?_) ?_; rotate_left
                · simp only [lookP, allP, Act.put, List.getElem?_cons_zero, List.getElem?_cons_succ, List.setIfInBounds_toArray, List.set_cons_zero, List.set_cons_succ]
                  refine ⟨by kernel_rfl, ?_⟩
                  (try dsimp only at hS')
                  go_simp
                  (try with_reducible rfl)
                -- 21: load 3 t43
                refine' chainP_readG (d := (some 44)) _ rfl (fun w' hS' => ?_) ?_; rotate_left
                · simp only [lookP, allP, Act.put, List.getElem?_cons_zero, List.getElem?_cons_succ, List.setIfInBounds_toArray, List.set_cons_zero, List.set_cons_succ]
                  refine ⟨by kernel_rfl, ?_⟩
                  (try dsimp only at hS')
                  go_simp
                  (try with_reducible rfl)
                -- 22: call { callee := value (func 138), args := #[t40, t44], argTypes := #[39, 3] }
                refine chainP_callG (d := (some 45)) (.bool true) rfl (fun w' hS' => ?_) ?_
                · simp only [lookP, allP, Act.put, List.getElem?_cons_zero, List.getElem?_cons_succ, List.setIfInBounds_toArray, List.set_cons_zero, List.set_cons_succ]
                  refine ⟨by kernel_rfl, ?_⟩
                  intro K hK
                  go_simp
                  go_at_call 138
                  refine (impl_has gr (nth d.c 0) _ HG.out).mono ?_
                  rintro e u ⟨rfl, hq⟩
                  rw [Hhc6.out]
                  exact hK.out _ hq
                -- 23: unOp Unnot 4 t45
                refine' chainP_readG (d := (some 46)) _ rfl (fun w' hS' => ?_) ?_; rotate_left
                · simp only [lookP, allP, Act.put, List.getElem?_cons_zero, List.getElem?_cons_succ, List.setIfInBounds_toArray, List.set_cons_zero, List.set_cons_succ]
                  refine ⟨by kernel_rfl, ?_⟩
                  (try dsimp only at hS')
                  go_simp
                  (try with_reducible rfl)
                iterate 2 (refine' chainP_read _ rfl rfl (fun w' hS' => ?_) ?_; rotate_left; · (simp only [lookP, allP, Act.put, List.getElem?_cons_zero, List.getElem?_cons_succ, List.setIfInBounds_toArray, List.set_cons_zero, List.set_cons_succ]; (try dsimp only at hS'); go_simp; (try with_reducible rfl)))
                -- 26: load 39 t4
                refine' chainP_readG (d := (some 49)) _ rfl (fun w' hS' => ?_) ?_; rotate_left
                · simp only [lookP, allP, Act.put, List.getElem?_cons_zero, List.getElem?_cons_succ, List.setIfInBounds_toArray, List.set_cons_zero, List.set_cons_succ]
                  refine ⟨by kernel_rfl, ?_⟩
                  (try dsimp only at hS')
                  go_simp
                  (try with_reducible rfl)
                -- 27: fieldAddr 42 t7 2
                refine' chainP_readG (d := (some 50)) _ rfl (fun w' hS' => ?_) ?_; rotate_left
                · simp only [lookP, allP, Act.put, List.getElem?_cons_zero, List.getElem?_cons_succ, List.setIfInBounds_toArray, List.set_cons_zero, List.set_cons_succ]
                  refine ⟨by kernel_rfl, ?_⟩
                  (try dsimp only at hS')
                  go_simp
                  (try with_reducible rfl)
                -- 28: load 24 t50
                refine' chainP_readG (d := (some 51)) _ rfl (fun w' hS' => ?_) ?_; rotate_left
                · simp only [lookP, allP, Act.put, List.getElem?_cons_zero, List.getElem?_cons_succ, List.setIfInBounds_toArray, List.set_cons_zero, List.set_cons_succ]
                  refine ⟨by kernel_rfl, ?_⟩
                  (try dsimp only at hS')
                  go_simp
                  (try with_reducible rfl)
                -- 29: call { callee := value (func 140), args := #[t49, t51], argTypes := #[39, 24] }
                refine chainP_callG (d := (some 52)) (.bool false) rfl (fun w' hS' => ?_) ?_
                · simp only [lookP, allP, Act.put, List.getElem?_cons_zero, List.getElem?_cons_succ, List.setIfInBounds_toArray, List.set_cons_zero, List.set_cons_succ]
                  refine ⟨by kernel_rfl, ?_⟩
                  intro K hK
                  go_simp
                  go_at_call 140
                  refine (impl_areExps gr _ d.r _ HG.out ((Hxr.out.below (HB.out.trans (hc.mono HB.out.size))).below hS'.1)).mono ?_
                  rintro e u ⟨rfl, hq⟩
                  rw [Hhc7.out]
                  exact hK.out _ hq
                -- 30: unOp Unnot 4 t52
                refine' chainP_readG (d := (some 53)) _ rfl (fun w' hS' => ?_) ?_; rotate_left
                · simp only [lookP, allP, Act.put, List.getElem?_cons_zero, List.getElem?_cons_succ, List.setIfInBounds_toArray, List.set_cons_zero, List.set_cons_succ]
                  refine ⟨by kernel_rfl, ?_⟩
                  (try dsimp only at hS')
                  go_simp
                  (try with_reducible rfl)
                -- 31: pick t48 (const (bool true)) t53
                refine' chainP_read (d := (some 54)) _ rfl rfl (fun w' hS' => ?_) ?_; rotate_left
                · simp only [lookP, allP, Act.put, List.getElem?_cons_zero, List.getElem?_cons_succ, List.setIfInBounds_toArray, List.set_cons_zero, List.set_cons_succ]
                  (try dsimp only at hS')
                  go_simp
                  (try with_reducible rfl)
                refine chainP_nil (fun u3 hS' => ?_)
                simp only [allP, Act.put, List.setIfInBounds_toArray, List.set_cons_zero, List.set_cons_succ]
                have hq3 := hS'.1
                clear hS'
                replace hc := Below.next hc hq3
                clear hq3 c0_0 c0_1 c0_2 c1_0 c1_1 c2_0 c2_1 c2_2 yxc0 yxh0 yxr0 yxr1
                obtain ⟨c0_0, c0_1, c0_2, c1_0, c1_1, c2_0, c2_1, c2_2, yxc0, yxh0, yxr0, yxr1⟩ := HCC.out _ hc
                go_wp2_with fail
                refine NoPanic.normal ?_
                go_wp2_with fail
                have HV : Hid ((.tuple #[.bool (voA gr bh bl c0 && voP gr sOpen bh c0 d), .bool (voA gr bh bl c0)] : Value) = .tuple #[.bool false, .bool true]) := by unfold Hid; simp [voA, voP, Hhc1.out, Hhc2.out, hc3, hc4, hc5, Hhc6.out, Hhc7.out, HLxc.out, HLxh.out, HLxr.out, HEX.out]
                go_ret2
                exact ⟨congrArg Ending.returned HV.out.symm, HB.out.trans (hc.mono HB.out.size)⟩
              | true =>
                obtain ⟨E, hE⟩ : ∃ x, opE gr sOpen bh c0 (nth d.c 0) = x := ⟨_, rfl⟩
                have HE := Lib.hid hE
                have he := chV_bd HG.out sOpen [bh, c0, nth d.c 0]
                obtain ⟨e1, e2⟩ : 0 ≤ E ∧ E < gr.q := hE ▸ he
                have zq2 := HG.out.q2
                have zp2 := HG.out.p2
                have iE : I64 E := ⟨by omega, by omega⟩
                have iz0 : I64 (nth d.r 0) := nth_64 Hxr.out 0
                have iz1 : I64 (nth d.r 1) := nth_64 Hxr.out 1
                have ih0 : I64 (nth d.h 0) := nth_64 Hxh.out 0
                clear hE he e1 e2
                have HEX := HE
                have Hhc7 := Lib.hid hc7
                clear hc7
                try (go_wp2_with fail)
                refine wp_region_noPanic ?_
                refine wp_region_P (fun w' => w'.cell? ⟨w.heap.size, 0, none⟩ = some (.int .i64 gr.p) ∧ w'.cell? ⟨w.heap.size, 1, none⟩ = some (.int .i64 gr.q) ∧ w'.cell? ⟨w.heap.size, 2, none⟩ = some (.int .i64 gr.g) ∧ w'.cell? ⟨w.heap.size + 1, 0, none⟩ = some (.int .i64 bh) ∧ w'.cell? ⟨w.heap.size + 1, 1, none⟩ = some ((.slice bva bvn bvc)) ∧ w'.cell? ⟨w.heap.size + 1 + 1, 0, none⟩ = some ((.slice (some ⟨xcb, xco, none⟩) 1 xcc)) ∧ w'.cell? ⟨w.heap.size + 1 + 1, 1, none⟩ = some ((.slice (some ⟨xhb, xho, none⟩) 1 xhc)) ∧ w'.cell? ⟨w.heap.size + 1 + 1, 2, none⟩ = some ((.slice (some ⟨xrb, xro, none⟩) 2 xrc)) ∧ w'.cell? ⟨xcb, xco, none⟩ = some (.int .i64 (nth d.c 0)) ∧ w'.cell? ⟨xhb, xho, none⟩ = some (.int .i64 (nth d.h 0)) ∧ w'.cell? ⟨xrb, xro, none⟩ = some (.int .i64 (nth d.r 0)) ∧ w'.cell? ⟨xrb, xro + 1, none⟩ = some (.int .i64 (nth d.r 1))) 34 [(0, []), (1, [0]), (2, [0]), (3, [0]), (4, [0]), (5, [0]), (6, [0, 1]), (7, [0, 2]), (8, [0, 3]), (9, [4, 0]), (10, [0]), (11, [0]), (12, [0, 1]), (13, [0, 2]), (14, [0, 3]), (15, [4, 0]), (16, [0]), (17, [0]), (18, [1]), (19, [0, 2]), (20, [0, 3]), (21, [0, 4]), (22, [4, 0, 5]), (23, [0, 6]), (24, [7, 0]), (25, [0]), (26, [0]), (27, [1]), (28, [0, 2]), (29, [2, 0, 3]), (30, [0, 4]), (31, [5, 0])] [] (by kernel_rfl) (by kernel_rfl) (by kernel_rfl) rfl (fun _ _ _ _ h => h) (fun w' h => ⟨box_at c0_0 h, box_at c0_1 h, box_at c0_2 h, box_at c1_0 h, box_at c1_1 h, box_at c2_0 h, box_at c2_1 h, box_at c2_2 h, box_at yxc0 h, box_at yxh0 h, box_at yxr0 h, box_at yxr1 h⟩) ?_
                simp only [pickP, pickN, List.getElem?_cons_zero, List.getElem?_cons_succ]
                iterate 5 (refine' chainP_read _ rfl rfl (fun w' hS' => ?_) ?_; rotate_left; · (simp only [lookP, allP, Act.put, List.getElem?_cons_zero, List.getElem?_cons_succ, List.setIfInBounds_toArray, List.set_cons_zero, List.set_cons_succ]; (try dsimp only at hS'); go_simp; (try with_reducible rfl)))
                -- 5: fieldAddr 42 t7 1
                refine' chainP_readG (d := (some 28)) _ rfl (fun w' hS' => ?_) ?_; rotate_left
                · simp only [lookP, allP, Act.put, List.getElem?_cons_zero, List.getElem?_cons_succ, List.setIfInBounds_toArray, List.set_cons_zero, List.set_cons_succ]
                  refine ⟨by kernel_rfl, ?_⟩
                  (try dsimp only at hS')
                  go_simp
                  (try with_reducible rfl)
                -- 6: load 24 t28
                refine' chainP_readG (d := (some 29)) _ rfl (fun w' hS' => ?_) ?_; rotate_left
                · simp only [lookP, allP, Act.put, List.getElem?_cons_zero, List.getElem?_cons_succ, List.setIfInBounds_toArray, List.set_cons_zero, List.set_cons_succ]
                  refine ⟨by kernel_rfl, ?_⟩
                  (try dsimp only at hS')
                  go_simp
                  (try with_reducible rfl)
                -- 7: call { callee := builtin Builtin.len, args := #[t29], argTypes := #[24] }
                refine' chainP_readG (d := (some 30)) _ rfl (fun w' hS' => ?_) ?_; rotate_left
                · simp only [lookP, allP, Act.put, List.getElem?_cons_zero, List.getElem?_cons_succ, List.setIfInBounds_toArray, List.set_cons_zero, List.set_cons_succ]
                  refine ⟨by kernel_rfl, ?_⟩
                  (try dsimp only at hS')
                  go_simp
                  (try with_reducible rfl)
                -- 8: binOp Binneq 3 t30 (const (int i64 1)) 3
                refine' chainP_readG (d := (some 31)) _ rfl (fun w' hS' => ?_) ?_; rotate_left
                · simp only [lookP, allP, Act.put, List.getElem?_cons_zero, List.getElem?_cons_succ, List.setIfInBounds_toArray, List.set_cons_zero, List.set_cons_succ]
                  refine ⟨by kernel_rfl, ?_⟩
                  (try dsimp only at hS')
                  go_simp
                  (try with_reducible rfl)
                iterate 2 (refine' chainP_read _ rfl rfl (fun w' hS' => ?_) ?_; rotate_left; · (simp only [lookP, allP, Act.put, List.getElem?_cons_zero, List.getElem?_cons_succ, List.setIfInBounds_toArray, List.set_cons_zero, List.set_cons_succ]; (try dsimp only at hS'); go_simp; (try with_reducible rfl)))
                -- 11: fieldAddr 42 t7 2
                refine' chainP_readG (d := (some 34)) _ rfl (fun w' hS' => ?_) ?_; rotate_left
                · simp only [lookP, allP, Act.put, List.getElem?_cons_zero, List.getElem?_cons_succ, List.setIfInBounds_toArray, List.set_cons_zero, List.set_cons_succ]
                  refine ⟨by kernel_rfl, ?_⟩
                  (try dsimp only at hS')
                  go_simp
                  (try with_reducible rfl)
                -- 12: load 24 t34
                refine' chainP_readG (d := (some 35)) _ rfl (fun w' hS' => ?_) ?_; rotate_left
                · simp only [lookP, allP, Act.put, List.getElem?_cons_zero, List.getElem?_cons_succ, List.setIfInBounds_toArray, List.set_cons_zero, List.set_cons_succ]
                  refine ⟨by kernel_rfl, ?_⟩
                  (try dsimp only at hS')
                  go_simp
                  (try with_reducible rfl)
                -- 13: call { callee := builtin Builtin.len, args := #[t35], argTypes := #[24] }
                refine' chainP_readG (d := (some 36)) _ rfl (fun w' hS' => ?_) ?_; rotate_left
                · simp only [lookP, allP, Act.put, List.getElem?_cons_zero, List.getElem?_cons_succ, List.setIfInBounds_toArray, List.set_cons_zero, List.set_cons_succ]
                  refine ⟨by kernel_rfl, ?_⟩
                  (try dsimp only at hS')
                  go_simp
                  (try with_reducible rfl)
                -- 14: binOp Binneq 3 t36 (const (int i64 2)) 3
                refine' chainP_readG (d := (some 37)) _ rfl (fun w' hS' => ?_) ?_; rotate_left
                · simp only [lookP, allP, Act.put, List.getElem?_cons_zero, List.getElem?_cons_succ, List.setIfInBounds_toArray, List.set_cons_zero, List.set_cons_succ]
                  refine ⟨by kernel_rfl, ?_⟩
                  (try dsimp only at hS')
                  go_simp
                  (try with_reducible rfl)
                iterate 2 (refine' chainP_read _ rfl rfl (fun w' hS' => ?_) ?_; rotate_left; · (simp only [lookP, allP, Act.put, List.getElem?_cons_zero, List.getElem?_cons_succ, List.setIfInBounds_toArray, List.set_cons_zero, List.set_cons_succ]; (try dsimp only at hS'); go_simp; (try with_reducible rfl)))
                -- 17: load 39 t4
                refine' chainP_readG (d := (some 40)) _ rfl (fun w' hS' => ?_) ?_; rotate_left
                · simp only [lookP, allP, Act.put, List.getElem?_cons_zero, List.getElem?_cons_succ, List.setIfInBounds_toArray, List.set_cons_zero, List.set_cons_succ]
                  refine ⟨by kernel_rfl, ?_⟩
                  (try dsimp only at hS')
                  go_simp
                  (try with_reducible rfl)
                -- 18: fieldAddr 42 t7 0
                refine' chainP_readG (d := (some 41)) _ rfl (fun w' hS' => ?_) ?_; rotate_left
                · simp only [lookP, allP, Act.put, List.getElem?_cons_zero, List.getElem?_cons_succ, List.setIfInBounds_toArray, List.set_cons_zero, List.set_cons_succ]
                  refine ⟨by kernel_rfl, ?_⟩
                  (try dsimp only at hS')
                  go_simp
                  (try with_reducible rfl)
                -- 19: load 24 t41
                refine' chainP_readG (d := (some 42)) _ rfl (fun w' hS' => ?_) ?_; rotate_left
                · simp only [lookP, allP, Act.put, List.getElem?_cons_zero, List.getElem?_cons_succ, List.setIfInBounds_toArray, List.set_cons_zero, List.set_cons_succ]
                  refine ⟨by kernel_rfl, ?_⟩
                  (try dsimp only at hS')
                  go_simp
                  (try with_reducible rfl)
                -- 20: indexAddr 24 t42 (const (int i64 0))
                refine' chainP_readG (d := (some 43)) _ rfl (fun w' hS' => ?_) ?_; rotate_left
                · simp only [lookP, allP, Act.put, List.getElem?_cons_zero, List.getElem?_cons_succ, List.setIfInBounds_toArray, List.set_cons_zero, List.set_cons_succ]
                  refine ⟨by kernel_rfl, ?_⟩
                  (try dsimp only at hS')
                  go_simp
                  (try with_reducible rfl)
                -- 21: load 3 t43
                refine' chainP_readG (d := (some 44)) _ rfl (fun w' hS' => ?_) ?_; rotate_left
                · simp only [lookP, allP, Act.put, List.getElem?_cons_zero, List.getElem?_cons_succ, List.setIfInBounds_toArray, List.set_cons_zero, List.set_cons_succ]
                  refine ⟨by kernel_rfl, ?_⟩
                  (try dsimp only at hS')
                  go_simp
                  (try with_reducible rfl)
                -- 22: call { callee := value (func 138), args := #[t40, t44], argTypes := #[39, 3] }
                refine chainP_callG (d := (some 45)) (.bool true) rfl (fun w' hS' => ?_) ?_
                · simp only [lookP, allP, Act.put, List.getElem?_cons_zero, List.getElem?_cons_succ, List.setIfInBounds_toArray, List.set_cons_zero, List.set_cons_succ]
                  refine ⟨by kernel_rfl, ?_⟩
                  intro K hK
                  go_simp
                  go_at_call 138
                  refine (impl_has gr (nth d.c 0) _ HG.out).mono ?_
                  rintro e u ⟨rfl, hq⟩
                  rw [Hhc6.out]
                  exact hK.out _ hq
                -- 23: unOp Unnot 4 t45
                refine' chainP_readG (d := (some 46)) _ rfl (fun w' hS' => ?_) ?_; rotate_left
                · simp only [lookP, allP, Act.put, List.getElem?_cons_zero, List.getElem?_cons_succ, List.setIfInBounds_toArray, List.set_cons_zero, List.set_cons_succ]
                  refine ⟨by kernel_rfl, ?_⟩
                  (try dsimp only at hS')
                  go_simp
                  (try with_reducible rfl)
                iterate 2 (refine' chainP_read _ rfl rfl (fun w' hS' => ?_) ?_; rotate_left; · (simp only [lookP, allP, Act.put, List.getElem?_cons_zero, List.getElem?_cons_succ, List.setIfInBounds_toArray, List.set_cons_zero, List.set_cons_succ]; (try dsimp only at hS'); go_simp; (try with_reducible rfl)))
                -- 26: load 39 t4
                refine' chainP_readG (d := (some 49)) _ rfl (fun w' hS' => ?_) ?_; rotate_left
                · simp only [lookP, allP, Act.put, List.getElem?_cons_zero, List.getElem?_cons_succ, List.setIfInBounds_toArray, List.set_cons_zero, List.set_cons_succ]
                  refine ⟨by kernel_rfl, ?_⟩
                  (try dsimp only at hS')
                  go_simp
                  (try with_reducible rfl)
                -- 27: fieldAddr 42 t7 2
                refine' chainP_readG (d := (some 50)) _ rfl (fun w' hS' => ?_) ?_; rotate_left
                · simp only [lookP, allP, Act.put, List.getElem?_cons_zero, List.getElem?_cons_succ, List.setIfInBounds_toArray, List.set_cons_zero, List.set_cons_succ]
                  refine ⟨by kernel_rfl, ?_⟩
                  (try dsimp only at hS')
                  go_simp
                  (try with_reducible rfl)
                -- 28: load 24 t50
                refine' chainP_readG (d := (some 51)) _ rfl (fun w' hS' => ?_) ?_; rotate_left
                · simp only [lookP, allP, Act.put, List.getElem?_cons_zero, List.getElem?_cons_succ, List.setIfInBounds_toArray, List.set_cons_zero, List.set_cons_succ]
                  refine ⟨by kernel_rfl, ?_⟩
                  (try dsimp only at hS')
                  go_simp
                  (try with_reducible rfl)
                -- 29: call { callee := value (func 140), args := #[t49, t51], argTypes := #[39, 24] }
                refine chainP_callG (d := (some 52)) (.bool true) rfl (fun w' hS' => ?_) ?_
                · simp only [lookP, allP, Act.put, List.getElem?_cons_zero, List.getElem?_cons_succ, List.setIfInBounds_toArray, List.set_cons_zero, List.set_cons_succ]
                  refine ⟨by kernel_rfl, ?_⟩
                  intro K hK
                  go_simp
                  go_at_call 140
                  refine (impl_areExps gr _ d.r _ HG.out ((Hxr.out.below (HB.out.trans (hc.mono HB.out.size))).below hS'.1)).mono ?_
                  rintro e u ⟨rfl, hq⟩
                  rw [Hhc7.out]
                  exact hK.out _ hq
                -- 30: unOp Unnot 4 t52
                refine' chainP_readG (d := (some 53)) _ rfl (fun w' hS' => ?_) ?_; rotate_left
                · simp only [lookP, allP, Act.put, List.getElem?_cons_zero, List.getElem?_cons_succ, List.setIfInBounds_toArray, List.set_cons_zero, List.set_cons_succ]
                  refine ⟨by kernel_rfl, ?_⟩
                  (try dsimp only at hS')
                  go_simp
                  (try with_reducible rfl)
                -- 31: pick t48 (const (bool true)) t53
                refine' chainP_read (d := (some 54)) _ rfl rfl (fun w' hS' => ?_) ?_; rotate_left
                · simp only [lookP, allP, Act.put, List.getElem?_cons_zero, List.getElem?_cons_succ, List.setIfInBounds_toArray, List.set_cons_zero, List.set_cons_succ]
                  (try dsimp only at hS')
                  go_simp
                  (try with_reducible rfl)
                refine chainP_nil (fun u3 hS' => ?_)
                simp only [allP, Act.put, List.setIfInBounds_toArray, List.set_cons_zero, List.set_cons_succ]
                have hq3 := hS'.1
                clear hS'
                replace hc := Below.next hc hq3
                clear hq3 c0_0 c0_1 c0_2 c1_0 c1_1 c2_0 c2_1 c2_2 yxc0 yxh0 yxr0 yxr1
                obtain ⟨c0_0, c0_1, c0_2, c1_0, c1_1, c2_0, c2_1, c2_2, yxc0, yxh0, yxr0, yxr1⟩ := HCC.out _ hc
                go_wp2_with fail
                refine NoPanic.normal ?_
                go_wp2_with fail
                refine (impl_openingChallenge gr bh _ bl c0 (nth d.c 0) _ HG.out (Hbv.out.below (HB.out.trans (hc.mono HB.out.size))) sbh sc0 sx0).mono ?_
                rintro e u4 ⟨rfl, hq4⟩
                rw [HE.out]
                replace hc := Below.next hc hq4
                clear hq4 c0_0 c0_1 c0_2 c1_0 c1_1 c2_0 c2_1 c2_2 yxc0 yxh0 yxr0 yxr1
                obtain ⟨c0_0, c0_1, c0_2, c1_0, c1_1, c2_0, c2_1, c2_2, yxc0, yxh0, yxr0, yxr1⟩ := HCC.out _ hc
                cases hc8 : ((nth d.h 0) == E) with
                | false =>
                  try (go_wp2_with fail)
                  refine wp_region_noPanic ?_
                  refine wp_region_P (fun w' => w'.cell? ⟨w.heap.size, 0, none⟩ = some (.int .i64 gr.p) ∧ w'.cell? ⟨w.heap.size, 1, none⟩ = some (.int .i64 gr.q) ∧ w'.cell? ⟨w.heap.size, 2, none⟩ = some (.int .i64 gr.g) ∧ w'.cell? ⟨w.heap.size + 1, 0, none⟩ = some (.int .i64 bh) ∧ w'.cell? ⟨w.heap.size + 1, 1, none⟩ = some ((.slice bva bvn bvc)) ∧ w'.cell? ⟨w.heap.size + 1 + 1, 0, none⟩ = some ((.slice (some ⟨xcb, xco, none⟩) 1 xcc)) ∧ w'.cell? ⟨w.heap.size + 1 + 1, 1, none⟩ = some ((.slice (some ⟨xhb, xho, none⟩) 1 xhc)) ∧ w'.cell? ⟨w.heap.size + 1 + 1, 2, none⟩ = some ((.slice (some ⟨xrb, xro, none⟩) 2 xrc)) ∧ w'.cell? ⟨xcb, xco, none⟩ = some (.int .i64 (nth d.c 0)) ∧ w'.cell? ⟨xhb, xho, none⟩ = some (.int .i64 (nth d.h 0)) ∧ w'.cell? ⟨xrb, xro, none⟩ = some (.int .i64 (nth d.r 0)) ∧ w'.cell? ⟨xrb, xro + 1, none⟩ = some (.int .i64 (nth d.r 1))) 32 [(0, []), (1, [0]), (2, [0]), (3, [0]), (4, []), (5, [1, 0]), (6, [0]), (7, [0]), (8, [1]), (9, [2]), (10, [0, 3]), (11, [0, 4]), (12, [0, 5]), (13, [6]), (14, [0, 7]), (15, [0, 8]), (16, [0, 9]), (17, [9, 8, 4, 0, 10]), (18, [11]), (19, [12]), (20, [13]), (21, [14]), (22, [15]), (23, [2, 1, 0, 16]), (24, [4, 0, 17]), (25, [6, 0, 18]), (26, [8, 0, 19]), (27, [20, 0]), (28, [0]), (29, [])] [] (by kernel_rfl) (by kernel_rfl) (by kernel_rfl) rfl (fun _ _ _ _ h => h) (fun w' h => ⟨box_at c0_0 h, box_at c0_1 h, box_at c0_2 h, box_at c1_0 h, box_at c1_1 h, box_at c2_0 h, box_at c2_1 h, box_at c2_2 h, box_at yxc0 h, box_at yxh0 h, box_at yxr0 h, box_at yxr1 h⟩) ?_
                  simp only [pickP, pickN, List.getElem?_cons_zero, List.getElem?_cons_succ]
                  iterate 7 (refine' chainP_read _ rfl rfl (fun w' hS' => ?_) ?_; rotate_left; · (simp only [lookP, allP, Act.put, List.getElem?_cons_zero, List.getElem?_cons_succ, List.setIfInBounds_toArray, List.set_cons_zero, List.set_cons_succ]; (try dsimp only at hS'); go_simp; (try with_reducible rfl)))
                  -- 7: load 39 t4
                  refine chainP_skip (d := (some 74)) rfl (fun w' hS' => ?_) ?_
                  · simp only [lookP, allP, Act.put, List.getElem?_cons_zero, List.getElem?_cons_succ, List.setIfInBounds_toArray, List.set_cons_zero, List.set_cons_succ]
                    kernel_rfl
                  -- 8: load 79 t5
                  refine chainP_skip (d := (some 75)) rfl (fun w' hS' => ?_) ?_
                  · simp only [lookP, allP, Act.put, List.getElem?_cons_zero, List.getElem?_cons_succ, List.setIfInBounds_toArray, List.set_cons_zero, List.set_cons_succ]
                    kernel_rfl
                  -- 9: fieldAddr 42 t7 2
                  refine chainP_skip (d := (some 76)) rfl (fun w' hS' => ?_) ?_
                  · simp only [lookP, allP, Act.put, List.getElem?_cons_zero, List.getElem?_cons_succ, List.setIfInBounds_toArray, List.set_cons_zero, List.set_cons_succ]
                    kernel_rfl
                  -- 10: load 24 t76
                  refine chainP_skip (d := (some 77)) rfl (fun w' hS' => ?_) ?_
                  · simp only [lookP, allP, Act.put, List.getElem?_cons_zero, List.getElem?_cons_succ, List.setIfInBounds_toArray, List.set_cons_zero, List.set_cons_succ]
                    kernel_rfl
                  -- 11: indexAddr 24 t77 (const (int i64 0))
                  refine chainP_skip (d := (some 78)) rfl (fun w' hS' => ?_) ?_
                  · simp only [lookP, allP, Act.put, List.getElem?_cons_zero, List.getElem?_cons_succ, List.setIfInBounds_toArray, List.set_cons_zero, List.set_cons_succ]
                    kernel_rfl
                  -- 12: load 3 t78
                  refine chainP_skip (d := (some 79)) rfl (fun w' hS' => ?_) ?_
                  · simp only [lookP, allP, Act.put, List.getElem?_cons_zero, List.getElem?_cons_succ, List.setIfInBounds_toArray, List.set_cons_zero, List.set_cons_succ]
                    kernel_rfl
                  -- 13: fieldAddr 42 t7 2
                  refine chainP_skip (d := (some 80)) rfl (fun w' hS' => ?_) ?_
                  · simp only [lookP, allP, Act.put, List.getElem?_cons_zero, List.getElem?_cons_succ, List.setIfInBounds_toArray, List.set_cons_zero, List.set_cons_succ]
                    kernel_rfl
                  -- 14: load 24 t80
                  refine chainP_skip (d := (some 81)) rfl (fun w' hS' => ?_) ?_
                  · simp only [lookP, allP, Act.put, List.getElem?_cons_zero, List.getElem?_cons_succ, List.setIfInBounds_toArray, List.set_cons_zero, List.set_cons_succ]
                    kernel_rfl
                  -- 15: indexAddr 24 t81 (const (int i64 1))
                  refine chainP_skip (d := (some 82)) rfl (fun w' hS' => ?_) ?_
                  · simp only [lookP, allP, Act.put, List.getElem?_cons_zero, List.getElem?_cons_succ, List.setIfInBounds_toArray, List.set_cons_zero, List.set_cons_succ]
                    kernel_rfl
                  -- 16: load 3 t82
                  refine chainP_skip (d := (some 83)) rfl (fun w' hS' => ?_) ?_
                  · simp only [lookP, allP, Act.put, List.getElem?_cons_zero, List.getElem?_cons_succ, List.setIfInBounds_toArray, List.set_cons_zero, List.set_cons_succ]
                    kernel_rfl
                  -- 17: call { callee := value (func 171), args := #[t74, t75, t79, t83], argTypes := #[39, 79, 3, 3] }
                  refine chainP_skip (d := (some 84)) rfl (fun w' hS' => ?_) ?_
                  · simp only [lookP, allP, Act.put, List.getElem?_cons_zero, List.getElem?_cons_succ, List.setIfInBounds_toArray, List.set_cons_zero, List.set_cons_succ]
                    kernel_rfl
                  -- 18: load 39 t4
                  refine chainP_skip (d := (some 85)) rfl (fun w' hS' => ?_) ?_
                  · simp only [lookP, allP, Act.put, List.getElem?_cons_zero, List.getElem?_cons_succ, List.setIfInBounds_toArray, List.set_cons_zero, List.set_cons_succ]
                    kernel_rfl
                  -- 19: move t10
                  refine chainP_skip (d := (some 86)) rfl (fun w' hS' => ?_) ?_
                  · simp only [lookP, allP, Act.put, List.getElem?_cons_zero, List.getElem?_cons_succ, List.setIfInBounds_toArray, List.set_cons_zero, List.set_cons_succ]
                    kernel_rfl
                  -- 20: load 39 t4
                  refine chainP_skip (d := (some 87)) rfl (fun w' hS' => ?_) ?_
                  · simp only [lookP, allP, Act.put, List.getElem?_cons_zero, List.getElem?_cons_succ, List.setIfInBounds_toArray, List.set_cons_zero, List.set_cons_succ]
                    kernel_rfl
                  -- 21: move t2
                  refine chainP_skip (d := (some 88)) rfl (fun w' hS' => ?_) ?_
                  · simp only [lookP, allP, Act.put, List.getElem?_cons_zero, List.getElem?_cons_succ, List.setIfInBounds_toArray, List.set_cons_zero, List.set_cons_succ]
                    kernel_rfl
                  -- 22: move t11
                  refine chainP_skip (d := (some 89)) rfl (fun w' hS' => ?_) ?_
                  · simp only [lookP, allP, Act.put, List.getElem?_cons_zero, List.getElem?_cons_succ, List.setIfInBounds_toArray, List.set_cons_zero, List.set_cons_succ]
                    kernel_rfl
                  -- 23: call { callee := value (func 165), args := #[t87, t88, t89], argTypes := #[39, 3, 3] }
                  refine chainP_skip (d := (some 90)) rfl (fun w' hS' => ?_) ?_
                  · simp only [lookP, allP, Act.put, List.getElem?_cons_zero, List.getElem?_cons_succ, List.setIfInBounds_toArray, List.set_cons_zero, List.set_cons_succ]
                    kernel_rfl
                  -- 24: buildSlice 24 2 #[(0, t86), (1, t90)]
                  refine chainP_skip (d := (some 91)) rfl (fun w' hS' => ?_) ?_
                  · simp only [lookP, allP, Act.put, List.getElem?_cons_zero, List.getElem?_cons_succ, List.setIfInBounds_toArray, List.set_cons_zero, List.set_cons_succ]
                    kernel_rfl
                  -- 25: call { callee := value (func 197), args := #[t85, t91], argTypes := #[39, 24] }
                  refine chainP_skip (d := (some 92)) rfl (fun w' hS' => ?_) ?_
                  · simp only [lookP, allP, Act.put, List.getElem?_cons_zero, List.getElem?_cons_succ, List.setIfInBounds_toArray, List.set_cons_zero, List.set_cons_succ]
                    kernel_rfl
                  -- 26: binOp Bineql 3 t84 t92 3
                  refine chainP_skip (d := (some 93)) rfl (fun w' hS' => ?_) ?_
                  · simp only [lookP, allP, Act.put, List.getElem?_cons_zero, List.getElem?_cons_succ, List.setIfInBounds_toArray, List.set_cons_zero, List.set_cons_succ]
                    kernel_rfl
                  iterate 3 (refine' chainP_read _ rfl rfl (fun w' hS' => ?_) ?_; rotate_left; · (simp only [lookP, allP, Act.put, List.getElem?_cons_zero, List.getElem?_cons_succ, List.setIfInBounds_toArray, List.set_cons_zero, List.set_cons_succ]; (try dsimp only at hS'); go_simp; (try with_reducible rfl)))
                  refine chainP_nil (fun u5 hS' => ?_)
                  simp only [allP, Act.put, List.setIfInBounds_toArray, List.set_cons_zero, List.set_cons_succ]
                  have hq5 := hS'.1
                  clear hS'
                  replace hc := Below.next hc hq5
                  clear hq5 c0_0 c0_1 c0_2 c1_0 c1_1 c2_0 c2_1 c2_2 yxc0 yxh0 yxr0 yxr1
                  obtain ⟨c0_0, c0_1, c0_2, c1_0, c1_1, c2_0, c2_1, c2_2, yxc0, yxh0, yxr0, yxr1⟩ := HCC.out _ hc
                  go_wp2_with fail
                  refine NoPanic.normal ?_
                  go_wp2_with fail
                  have HV : Hid ((.tuple #[.bool (voA gr bh bl c0 && voP gr sOpen bh c0 d), .bool (voA gr bh bl c0)] : Value) = .tuple #[.bool false, .bool true]) := by unfold Hid; simp [voA, voP, Hhc1.out, Hhc2.out, hc3, hc4, hc5, Hhc6.out, Hhc7.out, hc8, HLxc.out, HLxh.out, HLxr.out, HEX.out]
                  go_ret2
                  exact ⟨congrArg Ending.returned HV.out.symm, HB.out.trans (hc.mono HB.out.size)⟩
                | true =>
                  try (go_wp2_with fail)
                  refine wp_region_noPanic ?_
                  refine wp_region_P (fun w' => w'.cell? ⟨w.heap.size, 0, none⟩ = some (.int .i64 gr.p) ∧ w'.cell? ⟨w.heap.size, 1, none⟩ = some (.int .i64 gr.q) ∧ w'.cell? ⟨w.heap.size, 2, none⟩ = some (.int .i64 gr.g) ∧ w'.cell? ⟨w.heap.size + 1, 0, none⟩ = some (.int .i64 bh) ∧ w'.cell? ⟨w.heap.size + 1, 1, none⟩ = some ((.slice bva bvn bvc)) ∧ w'.cell? ⟨w.heap.size + 1 + 1, 0, none⟩ = some ((.slice (some ⟨xcb, xco, none⟩) 1 xcc)) ∧ w'.cell? ⟨w.heap.size + 1 + 1, 1, none⟩ = some ((.slice (some ⟨xhb, xho, none⟩) 1 xhc)) ∧ w'.cell? ⟨w.heap.size + 1 + 1, 2, none⟩ = some ((.slice (some ⟨xrb, xro, none⟩) 2 xrc)) ∧ w'.cell? ⟨xcb, xco, none⟩ = some (.int .i64 (nth d.c 0)) ∧ w'.cell? ⟨xhb, xho, none⟩ = some (.int .i64 (nth d.h 0)) ∧ w'.cell? ⟨xrb, xro, none⟩ = some (.int .i64 (nth d.r 0)) ∧ w'.cell? ⟨xrb, xro + 1, none⟩ = some (.int .i64 (nth d.r 1))) 32 [(0, []), (1, [0]), (2, [0]), (3, [0]), (4, []), (5, [1, 0]), (6, [0]), (7, [0]), (8, [1]), (9, [2]), (10, [0, 3]), (11, [0, 4]), (12, [0, 5]), (13, [6]), (14, [0, 7]), (15, [0, 8]), (16, [0, 9]), (17, [9, 8, 4, 0, 10]), (18, [11]), (19, [12]), (20, [13]), (21, [14]), (22, [15]), (23, [2, 1, 0, 16]), (24, [4, 0, 17]), (25, [6, 0, 18]), (26, [8, 0, 19]), (27, [20, 0]), (28, [0]), (29, [])] [] (by kernel_rfl) (by kernel_rfl) (by kernel_rfl) rfl (fun _ _ _ _ h => h) (fun w' h => ⟨box_at c0_0 h, box_at c0_1 h, box_at c0_2 h, box_at c1_0 h, box_at c1_1 h, box_at c2_0 h, box_at c2_1 h, box_at c2_2 h, box_at yxc0 h, box_at yxh0 h, box_at yxr0 h, box_at yxr1 h⟩) ?_
                  simp only [pickP, pickN, List.getElem?_cons_zero, List.getElem?_cons_succ]
                  iterate 7 (refine' chainP_read _ rfl rfl (fun w' hS' => ?_) ?_; rotate_left; · (simp only [lookP, allP, Act.put, List.getElem?_cons_zero, List.getElem?_cons_succ, List.setIfInBounds_toArray, List.set_cons_zero, List.set_cons_succ]; (try dsimp only at hS'); go_simp; (try with_reducible rfl)))
                  -- 7: load 39 t4
                  refine' chainP_readG (d := (some 74)) _ rfl (fun w' hS' => ?_) ?_; rotate_left
                  · simp only [lookP, allP, Act.put, List.getElem?_cons_zero, List.getElem?_cons_succ, List.setIfInBounds_toArray, List.set_cons_zero, List.set_cons_succ]
                    refine ⟨by kernel_rfl, ?_⟩
                    (try dsimp only at hS')
                    go_simp
                    (try with_reducible rfl)
                  -- 8: load 79 t5
                  refine' chainP_readG (d := (some 75)) _ rfl (fun w' hS' => ?_) ?_; rotate_left
                  · simp only [lookP, allP, Act.put, List.getElem?_cons_zero, List.getElem?_cons_succ, List.setIfInBounds_toArray, List.set_cons_zero, List.set_cons_succ]
                    refine ⟨by kernel_rfl, ?_⟩
                    (try dsimp only at hS')
                    go_simp
                    (try with_reducible rfl)
                  -- 9: fieldAddr 42 t7 2
                  refine' chainP_readG (d := (some 76)) _ rfl (fun w' hS' => ?_) ?_; rotate_left
                  · simp only [lookP, allP, Act.put, List.getElem?_cons_zero, List.getElem?_cons_succ, List.setIfInBounds_toArray, List.set_cons_zero, List.set_cons_succ]
                    refine ⟨by kernel_rfl, ?_⟩
                    (try dsimp only at hS')
                    go_simp
                    (try with_reducible rfl)
                  -- 10: load 24 t76
                  refine' chainP_readG (d := (some 77)) _ rfl (fun w' hS' => ?_) ?_; rotate_left
                  · simp only [lookP, allP, Act.put, List.getElem?_cons_zero, List.getElem?_cons_succ, List.setIfInBounds_toArray, List.set_cons_zero, List.set_cons_succ]
                    refine ⟨by kernel_rfl, ?_⟩
                    (try dsimp only at hS')
                    go_simp
                    (try with_reducible rfl)
                  -- 11: indexAddr 24 t77 (const (int i64 0))
                  refine' chainP_readG (d := (some 78)) _ rfl (fun w' hS' => ?_) ?_; rotate_left
                  · simp only [lookP, allP, Act.put, List.getElem?_cons_zero, List.getElem?_cons_succ, List.setIfInBounds_toArray, List.set_cons_zero, List.set_cons_succ]
                    refine ⟨by kernel_rfl, ?_⟩
                    (try dsimp only at hS')
                    go_simp
                    (try with_reducible rfl)
                  -- 12: load 3 t78
                  refine' chainP_readG (d := (some 79)) _ rfl (fun w' hS' => ?_) ?_; rotate_left
                  · simp only [lookP, allP, Act.put, List.getElem?_cons_zero, List.getElem?_cons_succ, List.setIfInBounds_toArray, List.set_cons_zero, List.set_cons_succ]
                    refine ⟨by kernel_rfl, ?_⟩
                    (try dsimp only at hS')
                    go_simp
                    (try with_reducible rfl)
                  -- 13: fieldAddr 42 t7 2
                  refine' chainP_readG (d := (some 80)) _ rfl (fun w' hS' => ?_) ?_; rotate_left
                  · simp only [lookP, allP, Act.put, List.getElem?_cons_zero, List.getElem?_cons_succ, List.setIfInBounds_toArray, List.set_cons_zero, List.set_cons_succ]
                    refine ⟨by kernel_rfl, ?_⟩
                    (try dsimp only at hS')
                    go_simp
                    (try with_reducible rfl)
                  -- 14: load 24 t80
                  refine' chainP_readG (d := (some 81)) _ rfl (fun w' hS' => ?_) ?_; rotate_left
                  · simp only [lookP, allP, Act.put, List.getElem?_cons_zero, List.getElem?_cons_succ, List.setIfInBounds_toArray, List.set_cons_zero, List.set_cons_succ]
                    refine ⟨by kernel_rfl, ?_⟩
                    (try dsimp only at hS')
                    go_simp
                    (try with_reducible rfl)
                  -- 15: indexAddr 24 t81 (const (int i64 1))
                  refine' chainP_readG (d := (some 82)) _ rfl (fun w' hS' => ?_) ?_; rotate_left
                  · simp only [lookP, allP, Act.put, List.getElem?_cons_zero, List.getElem?_cons_succ, List.setIfInBounds_toArray, List.set_cons_zero, List.set_cons_succ]
                    refine ⟨by kernel_rfl, ?_⟩
                    (try dsimp only at hS')
                    go_simp
                    (try with_reducible rfl)
                  -- 16: load 3 t82
                  refine' chainP_readG (d := (some 83)) _ rfl (fun w' hS' => ?_) ?_; rotate_left
                  · simp only [lookP, allP, Act.put, List.getElem?_cons_zero, List.getElem?_cons_succ, List.setIfInBounds_toArray, List.set_cons_zero, List.set_cons_succ]
                    refine ⟨by kernel_rfl, ?_⟩
                    (try dsimp only at hS')
                    go_simp
                    (try with_reducible rfl)
                  -- 17: call { callee := value (func 171), args := #[t74, t75, t79, t83], argTypes := #[39, 79, 3, 3] }
                  refine chainP_callG (d := (some 84)) (.int .i64 (coM gr bh (nth d.r 0) (nth d.r 1))) rfl (fun w' hS' => ?_) ?_
                  · simp only [lookP, allP, Act.put, List.getElem?_cons_zero, List.getElem?_cons_succ, List.setIfInBounds_toArray, List.set_cons_zero, List.set_cons_succ]
                    refine ⟨by kernel_rfl, ?_⟩
                    intro K hK
                    go_simp
                    go_at_call 171
                    refine (impl_commit gr bh _ bl (nth d.r 0) (nth d.r 1) _ HG.out ((Hbv.out.below (HB.out.trans (hc.mono HB.out.size))).below hS'.1) sbh iz0 iz1).mono ?_
                    rintro e u ⟨rfl, hq⟩
                    exact hK.out _ hq
                  -- 18: load 39 t4
                  refine' chainP_readG (d := (some 85)) _ rfl (fun w' hS' => ?_) ?_; rotate_left
                  · simp only [lookP, allP, Act.put, List.getElem?_cons_zero, List.getElem?_cons_succ, List.setIfInBounds_toArray, List.set_cons_zero, List.set_cons_succ]
                    refine ⟨by kernel_rfl, ?_⟩
                    (try dsimp only at hS')
                    go_simp
                    (try with_reducible rfl)
                  -- 19: move t10
                  refine' chainP_readG (d := (some 86)) _ rfl (fun w' hS' => ?_) ?_; rotate_left
                  · simp only [lookP, allP, Act.put, List.getElem?_cons_zero, List.getElem?_cons_succ, List.setIfInBounds_toArray, List.set_cons_zero, List.set_cons_succ]
                    refine ⟨by kernel_rfl, ?_⟩
                    (try dsimp only at hS')
                    go_simp
                    (try with_reducible rfl)
                  -- 20: load 39 t4
                  refine' chainP_readG (d := (some 87)) _ rfl (fun w' hS' => ?_) ?_; rotate_left
                  · simp only [lookP, allP, Act.put, List.getElem?_cons_zero, List.getElem?_cons_succ, List.setIfInBounds_toArray, List.set_cons_zero, List.set_cons_succ]
                    refine ⟨by kernel_rfl, ?_⟩
                    (try dsimp only at hS')
                    go_simp
                    (try with_reducible rfl)
                  -- 21: move t2
                  refine' chainP_readG (d := (some 88)) _ rfl (fun w' hS' => ?_) ?_; rotate_left
                  · simp only [lookP, allP, Act.put, List.getElem?_cons_zero, List.getElem?_cons_succ, List.setIfInBounds_toArray, List.set_cons_zero, List.set_cons_succ]
                    refine ⟨by kernel_rfl, ?_⟩
                    (try dsimp only at hS')
                    go_simp
                    (try with_reducible rfl)
                  -- 22: move t11
                  refine' chainP_readG (d := (some 89)) _ rfl (fun w' hS' => ?_) ?_; rotate_left
                  · simp only [lookP, allP, Act.put, List.getElem?_cons_zero, List.getElem?_cons_succ, List.setIfInBounds_toArray, List.set_cons_zero, List.set_cons_succ]
                    refine ⟨by kernel_rfl, ?_⟩
                    (try dsimp only at hS')
                    go_simp
                    (try with_reducible rfl)
                  -- 23: call { callee := value (func 165), args := #[t87, t88, t89], argTypes := #[39, 3, 3] }
                  refine chainP_callG (d := (some 90)) (.int .i64 (powE gr c0 E)) rfl (fun w' hS' => ?_) ?_
                  · simp only [lookP, allP, Act.put, List.getElem?_cons_zero, List.getElem?_cons_succ, List.setIfInBounds_toArray, List.set_cons_zero, List.set_cons_succ]
                    refine ⟨by kernel_rfl, ?_⟩
                    intro K hK
                    go_simp
                    go_at_call 165
                    refine (impl_pow gr c0 E _ HG.out sc0 iE).mono ?_
                    rintro e u ⟨rfl, hq⟩
                    exact hK.out _ hq
                  -- 24: buildSlice 24 2 #[(0, t86), (1, t90)]
                  refine chainP_doG (d := (some 91)) (fun v w => Ints w v [(nth d.c 0), powE gr c0 E]) (fun v w w' hb h => Ints.below h hb) rfl (fun w' hS' => ?_) ?_
                  · simp only [lookP, allP, Act.put, List.getElem?_cons_zero, List.getElem?_cons_succ, List.setIfInBounds_toArray, List.set_cons_zero, List.set_cons_succ]
                    refine ⟨by kernel_rfl, ?_⟩
                    intro K hK
                    go_simp
                    refine hK.out _ _ ((Below.refl _ _).alloc (Nat.le_refl _) _) ?_
                    exact (OwnI.lit (B := w'.heap.size) w' (Nat.le_refl _) (l := [(nth d.c 0), powE gr c0 E]) (AllI64.cons (small_64 sx0) (AllI64.cons (small_64 (powE_small HG.out _ _)) AllI64.nil)) rfl (by simp [maxLen]) 2 rfl).ints
                  -- 25: call { callee := value (func 197), args := #[t85, t91], argTypes := #[39, 24] }
                  refine chainP_callG (d := (some 92)) (.int .i64 (mulL gr [(nth d.c 0), powE gr c0 E])) rfl (fun w' hS' => ?_) ?_
                  · simp only [lookP, allP, Act.put, List.getElem?_cons_zero, List.getElem?_cons_succ, List.setIfInBounds_toArray, List.set_cons_zero, List.set_cons_succ]
                    intro x24 hx24
                    refine ⟨by kernel_rfl, ?_⟩
                    intro K hK
                    go_simp
                    go_at_call 197
                    refine (impl_mul gr _ [(nth d.c 0), powE gr c0 E] _ HG.out hx24 (AllSmall.cons sx0 (AllSmall.cons (powE_small HG.out _ _) AllSmall.nil))).mono ?_
                    rintro e u ⟨rfl, hq⟩
                    exact hK.out _ hq
                  -- 26: binOp Bineql 3 t84 t92 3
                  refine' chainP_readG (d := (some 93)) _ rfl (fun w' hS' => ?_) ?_; rotate_left
                  · simp only [lookP, allP, Act.put, List.getElem?_cons_zero, List.getElem?_cons_succ, List.setIfInBounds_toArray, List.set_cons_zero, List.set_cons_succ]
                    refine ⟨by kernel_rfl, ?_⟩
                    (try dsimp only at hS')
                    go_simp
                    (try with_reducible rfl)
                  iterate 3 (refine' chainP_read _ rfl rfl (fun w' hS' => ?_) ?_; rotate_left; · (simp only [lookP, allP, Act.put, List.getElem?_cons_zero, List.getElem?_cons_succ, List.setIfInBounds_toArray, List.set_cons_zero, List.set_cons_succ]; (try dsimp only at hS'); go_simp; (try with_reducible rfl)))
                  refine chainP_nil (fun u5 hS' => ?_)
                  simp only [allP, Act.put, List.setIfInBounds_toArray, List.set_cons_zero, List.set_cons_succ]
                  intro x24 hx24
                  have hq5 := hS'.1
                  clear hS'
                  replace hc := Below.next hc hq5
                  clear hq5 c0_0 c0_1 c0_2 c1_0 c1_1 c2_0 c2_1 c2_2 yxc0 yxh0 yxr0 yxr1
                  obtain ⟨c0_0, c0_1, c0_2, c1_0, c1_1, c2_0, c2_1, c2_2, yxc0, yxh0, yxr0, yxr1⟩ := HCC.out _ hc
                  go_wp2_with fail
                  refine NoPanic.normal ?_
                  cases hc9 : (coM gr bh (nth d.r 0) (nth d.r 1) == mulL gr [(nth d.c 0), powE gr c0 E]) with
                  | false =>
                    go_wp2_with fail
                    have HV : Hid ((.tuple #[.bool (voA gr bh bl c0 && voP gr sOpen bh c0 d), .bool (voA gr bh bl c0)] : Value) = .tuple #[.bool false, .bool true]) := by unfold Hid; simp [voA, voP, Hhc1.out, Hhc2.out, hc3, hc4, hc5, Hhc6.out, Hhc7.out, hc8, hc9, HLxc.out, HLxh.out, HLxr.out, HEX.out]
                    go_ret2
                    exact ⟨congrArg Ending.returned HV.out.symm, HB.out.trans (hc.mono HB.out.size)⟩
                  | true =>
                    go_wp2_with fail
                    have HV : Hid ((.tuple #[.bool (voA gr bh bl c0 && voP gr sOpen bh c0 d), .bool (voA gr bh bl c0)] : Value) = .tuple #[.bool true, .bool true]) := by unfold Hid; simp [voA, voP, Hhc1.out, Hhc2.out, hc3, hc4, hc5, Hhc6.out, Hhc7.out, hc8, hc9, HLxc.out, HLxh.out, HLxr.out, HEX.out]
                    go_ret2
                    exact ⟨congrArg Ending.returned HV.out.symm, HB.out.trans (hc.mono HB.out.size)⟩
          | true =>
            have HLxr : Hid (decide (d.r.length = 2) = false) := by have q := hc5; rw [bne_iff_ne] at q; exact decide_eq_false (by have := Exr.out; omega)
            try (go_wp2_with fail)
            refine wp_region_noPanic ?_
            refine wp_region_P (fun w' => w'.cell? ⟨w.heap.size, 0, none⟩ = some (.int .i64 gr.p) ∧ w'.cell? ⟨w.heap.size, 1, none⟩ = some (.int .i64 gr.q) ∧ w'.cell? ⟨w.heap.size, 2, none⟩ = some (.int .i64 gr.g) ∧ w'.cell? ⟨w.heap.size + 1, 0, none⟩ = some (.int .i64 bh) ∧ w'.cell? ⟨w.heap.size + 1, 1, none⟩ = some ((.slice bva bvn bvc)) ∧ w'.cell? ⟨w.heap.size + 1 + 1, 0, none⟩ = some ((.slice (some ⟨xcb, xco, none⟩) 1 xcc)) ∧ w'.cell? ⟨w.heap.size + 1 + 1, 1, none⟩ = some ((.slice (some ⟨xhb, xho, none⟩) 1 xhc)) ∧ w'.cell? ⟨w.heap.size + 1 + 1, 2, none⟩ = some ((.slice xra xrn xrc)) ∧ w'.cell? ⟨xcb, xco, none⟩ = some (.int .i64 (nth d.c 0)) ∧ w'.cell? ⟨xhb, xho, none⟩ = some (.int .i64 (nth d.h 0))) 34 [(0, []), (1, [0]), (2, [0]), (3, [0]), (4, [0]), (5, [0]), (6, [0, 1]), (7, [0, 2]), (8, [0, 3]), (9, [4, 0]), (10, [0]), (11, [0]), (12, [0, 1]), (13, [0, 2]), (14, [0, 3]), (15, [4, 0]), (16, [0]), (17, [0]), (18, [1]), (19, [0, 2]), (20, [0, 3]), (21, [0, 4]), (22, [4, 0, 5]), (23, [0, 6]), (24, [7, 0]), (25, [0]), (26, [0]), (27, [1]), (28, [0, 2]), (29, [2, 0, 3]), (30, [0, 4]), (31, [5, 0])] [] (by kernel_rfl) (by kernel_rfl) (by kernel_rfl) rfl (fun _ _ _ _ h => h) (fun w' h => ⟨box_at c0_0 h, box_at c0_1 h, box_at c0_2 h, box_at c1_0 h, box_at c1_1 h, box_at c2_0 h, box_at c2_1 h, box_at c2_2 h, box_at yxc0 h, box_at yxh0 h⟩) ?_
            simp only [pickP, pickN, List.getElem?_cons_zero, List.getElem?_cons_succ]
            iterate 5 (refine' chainP_read _ rfl rfl (fun w' hS' => ?_) ?_; rotate_left; · (simp only [lookP, allP, Act.put, List.getElem?_cons_zero, List.getElem?_cons_succ, List.setIfInBounds_toArray, List.set_cons_zero, List.set_cons_succ]; (try dsimp only at hS'); go_simp; (try with_reducible rfl)))
            -- 5: fieldAddr 42 t7 1
            refine' chainP_readG (d := (some 28)) _ rfl (fun w' hS' => ?_) ?_; rotate_left
            · simp only [lookP, allP, Act.put, List.getElem?_cons_zero, List.getElem?_cons_succ, List.setIfInBounds_toArray, List.set_cons_zero, List.set_cons_succ]
              refine ⟨by kernel_rfl, ?_⟩
              (try dsimp only at hS')
              go_simp
              (try with_reducible rfl)
            -- 6: load 24 t28
            refine' chainP_readG (d := (some 29)) _ rfl (fun w' hS' => ?_) ?_; rotate_left
            · simp only [lookP, allP, Act.put, List.getElem?_cons_zero, List.getElem?_cons_succ, List.setIfInBounds_toArray, List.set_cons_zero, List.set_cons_succ]
              refine ⟨by kernel_rfl, ?_⟩
              (try dsimp only at hS')
              go_simp
              (try with_reducible rfl)
            -- 7: call { callee := builtin Builtin.len, args := #[t29], argTypes := #[24] }
            refine' chainP_readG (d := (some 30)) _ rfl (fun w' hS' => ?_) ?_; rotate_left
            · simp only [lookP, allP, Act.put, List.getElem?_cons_zero, List.getElem?_cons_succ, List.setIfInBounds_toArray, List.set_cons_zero, List.set_cons_succ]
              refine ⟨by kernel_rfl, ?_⟩
              (try dsimp only at hS')
              go_simp
              (try with_reducible rfl)
            -- 8: binOp Binneq 3 t30 (const (int i64 1)) 3
            refine' chainP_readG (d := (some 31)) _ rfl (fun w' hS' => ?_) ?_; rotate_left
            · simp only [lookP, allP, Act.put, List.getElem?_cons_zero, List.getElem?_cons_succ, List.setIfInBounds_toArray, List.set_cons_zero, List.set_cons_succ]
              refine ⟨by kernel_rfl, ?_⟩
              (try dsimp only at hS')
              go_simp
              (try with_reducible rfl)
            iterate 2 (refine' chainP_read _ rfl rfl (fun w' hS' => ?_) ?_; rotate_left; · (simp only [lookP, allP, Act.put, List.getElem?_cons_zero, List.getElem?_cons_succ, List.setIfInBounds_toArray, List.set_cons_zero, List.set_cons_succ]; (try dsimp only at hS'); go_simp; (try with_reducible rfl)))
            -- 11: fieldAddr 42 t7 2
            refine' chainP_readG (d := (some 34)) _ rfl (fun w' hS' => ?_) ?_; rotate_left
            · simp only [lookP, allP, Act.put, List.getElem?_cons_zero, List.getElem?_cons_succ, List.setIfInBounds_toArray, List.set_cons_zero, List.set_cons_succ]
              refine ⟨by kernel_rfl, ?_⟩
              (try dsimp only at hS')
              go_simp
              (try with_reducible rfl)
            -- 12: load 24 t34
            refine' chainP_readG (d := (some 35)) _ rfl (fun w' hS' => ?_) ?_; rotate_left
            · simp only [lookP, allP, Act.put, List.getElem?_cons_zero, List.getElem?_cons_succ, List.setIfInBounds_toArray, List.set_cons_zero, List.set_cons_succ]
              refine ⟨by kernel_rfl, ?_⟩
              (try dsimp only at hS')
              go_simp
              (try with_reducible rfl)
            -- 13: call { callee := builtin Builtin.len, args := #[t35], argTypes := #[24] }
            refine' chainP_readG (d := (some 36)) _ rfl (fun w' hS' => ?_) ?_; rotate_left
            · simp only [lookP, allP, Act.put, List.getElem?_cons_zero, List.getElem?_cons_succ, List.setIfInBounds_toArray, List.set_cons_zero, List.set_cons_succ]
              refine ⟨by kernel_rfl, ?_⟩
              (try dsimp only at hS')
              go_simp
              (try with_reducible rfl)
            -- 14: binOp Binneq 3 t36 (const (int i64 2)) 3
            refine' chainP_readG (d := (some 37)) _ rfl (fun w' hS' => ?_) ?_; rotate_left
            · simp only [lookP, allP, Act.put, List.getElem?_cons_zero, List.getElem?_cons_succ, List.setIfInBounds_toArray, List.set_cons_zero, List.set_cons_succ]
              refine ⟨by kernel_rfl, ?_⟩
              (try dsimp only at hS')
              go_simp
              (try with_reducible rfl)
            iterate 2 (refine' chainP_read _ rfl rfl (fun w' hS' => ?_) ?_; rotate_left; · (simp only [lookP, allP, Act.put, List.getElem?_cons_zero, List.getElem?_cons_succ, List.setIfInBounds_toArray, List.set_cons_zero, List.set_cons_succ]; (try dsimp only at hS'); go_simp; (try with_reducible rfl)))
            -- 17: load 39 t4
            refine chainP_skip (d := (some 40)) rfl (fun w' hS' => ?_) ?_
            · simp only [lookP, allP, Act.put, List.getElem?_cons_zero, List.getElem?_cons_succ, List.setIfInBounds_toArray, List.set_cons_zero, List.set_cons_succ]
              kernel_rfl
            -- 18: fieldAddr 42 t7 0
            refine chainP_skip (d := (some 41)) rfl (fun w' hS' => ?_) ?_
            · simp only [lookP, allP, Act.put, List.getElem?_cons_zero, List.getElem?_cons_succ, List.setIfInBounds_toArray, List.set_cons_zero, List.set_cons_succ]
              kernel_rfl
            -- 19: load 24 t41
            refine chainP_skip (d := (some 42)) rfl (fun w' hS' => ?_) ?_
            · simp only [lookP, allP, Act.put, List.getElem?_cons_zero, List.getElem?_cons_succ, List.setIfInBounds_toArray, List.set_cons_zero, List.set_cons_succ]
              kernel_rfl
            -- 20: indexAddr 24 t42 (const (int i64 0))
            refine chainP_skip (d := (some 43)) rfl (fun w' hS' => ?_) ?_
            · simp only [lookP, allP, Act.put, List.getElem?_cons_zero, List.getElem?_cons_succ, List.setIfInBounds_toArray, List.set_cons_zero, List.set_cons_succ]
              kernel_rfl
            -- 21: load 3 t43
            refine chainP_skip (d := (some 44)) rfl (fun w' hS' => ?_) ?_
            · simp only [lookP, allP, Act.put, List.getElem?_cons_zero, List.getElem?_cons_succ, List.setIfInBounds_toArray, List.set_cons_zero, List.set_cons_succ]
              kernel_rfl
            -- 22: call { callee := value (func 138), args := #[t40, t44], argTypes := #[39, 3] }
            refine chainP_skip (d := (some 45)) rfl (fun w' hS' => ?_) ?_
            · simp only [lookP, allP, Act.put, List.getElem?_cons_zero, List.getElem?_cons_succ, List.setIfInBounds_toArray, List.set_cons_zero, List.set_cons_succ]
              kernel_rfl
            -- 23: unOp Unnot 4 t45
            refine chainP_skip (d := (some 46)) rfl (fun w' hS' => ?_) ?_
            · simp only [lookP, allP, Act.put, List.getElem?_cons_zero, List.getElem?_cons_succ, List.setIfInBounds_toArray, List.set_cons_zero, List.set_cons_succ]
              kernel_rfl
            iterate 2 (refine' chainP_read _ rfl rfl (fun w' hS' => ?_) ?_; rotate_left; · (simp only [lookP, allP, Act.put, List.getElem?_cons_zero, List.getElem?_cons_succ, List.setIfInBounds_toArray, List.set_cons_zero, List.set_cons_succ]; (try dsimp only at hS'); go_simp; (try with_reducible rfl)))
            -- 26: load 39 t4
            refine chainP_skip (d := (some 49)) rfl (fun w' hS' => ?_) ?_
            · simp only [lookP, allP, Act.put, List.getElem?_cons_zero, List.getElem?_cons_succ, List.setIfInBounds_toArray, List.set_cons_zero, List.set_cons_succ]
              kernel_rfl
            -- 27: fieldAddr 42 t7 2
            refine chainP_skip (d := (some 50)) rfl (fun w' hS' => ?_) ?_
            · simp only [lookP, allP, Act.put, List.getElem?_cons_zero, List.getElem?_cons_succ, List.setIfInBounds_toArray, List.set_cons_zero, List.set_cons_succ]
              kernel_rfl
            -- 28: load 24 t50
            refine chainP_skip (d := (some 51)) rfl (fun w' hS' => ?_) ?_
            · simp only [lookP, allP, Act.put, List.getElem?_cons_zero, List.getElem?_cons_succ, List.setIfInBounds_toArray, List.set_cons_zero, List.set_cons_succ]
              kernel_rfl
            -- 29: call { callee := value (func 140), args := #[t49, t51], argTypes := #[39, 24] }
            refine chainP_skip (d := (some 52)) rfl (fun w' hS' => ?_) ?_
            · simp only [lookP, allP, Act.put, List.getElem?_cons_zero, List.getElem?_cons_succ, List.setIfInBounds_toArray, List.set_cons_zero, List.set_cons_succ]
              kernel_rfl
            -- 30: unOp Unnot 4 t52
            refine chainP_skip (d := (some 53)) rfl (fun w' hS' => ?_) ?_
            · simp only [lookP, allP, Act.put, List.getElem?_cons_zero, List.getElem?_cons_succ, List.setIfInBounds_toArray, List.set_cons_zero, List.set_cons_succ]
              kernel_rfl
            -- 31: pick t48 (const (bool true)) t53
            refine' chainP_read (d := (some 54)) _ rfl rfl (fun w' hS' => ?_) ?_; rotate_left
            · simp only [lookP, allP, Act.put, List.getElem?_cons_zero, List.getElem?_cons_succ, List.setIfInBounds_toArray, List.set_cons_zero, List.set_cons_succ]
              (try dsimp only at hS')
              go_simp
              (try with_reducible rfl)
            refine chainP_nil (fun u3 hS' => ?_)
            simp only [allP, Act.put, List.setIfInBounds_toArray, List.set_cons_zero, List.set_cons_succ]
            have hq3 := hS'.1
            clear hS'
            replace hc := Below.next hc hq3
            clear hq3 c0_0 c0_1 c0_2 c1_0 c1_1 c2_0 c2_1 c2_2 yxc0 yxh0
            obtain ⟨c0_0, c0_1, c0_2, c1_0, c1_1, c2_0, c2_1, c2_2, yxc0, yxh0⟩ := HCC.out _ hc
            go_wp2_with fail
            refine NoPanic.normal ?_
            go_wp2_with fail
            have HV : Hid ((.tuple #[.bool (voA gr bh bl c0 && voP gr sOpen bh c0 d), .bool (voA gr bh bl c0)] : Value) = .tuple #[.bool false, .bool true]) := by unfold Hid; simp [voA, voP, Hhc1.out, Hhc2.out, hc3, hc4, hc5, HLxc.out, HLxh.out, HLxr.out]
            go_ret2
            exact ⟨congrArg Ending.returned HV.out.symm, HB.out.trans (hc.mono HB.out.size)⟩
        | true =>
          have HLxh : Hid (decide (d.h.length = 1) = false) := by have q := hc4; rw [bne_iff_ne] at q; exact decide_eq_false (by have := Exh.out; omega)
          try (go_wp2_with fail)
          refine wp_region_noPanic ?_
          refine wp_region_P (fun w' => w'.cell? ⟨w.heap.size, 0, none⟩ = some (.int .i64 gr.p) ∧ w'.cell? ⟨w.heap.size, 1, none⟩ = some (.int .i64 gr.q) ∧ w'.cell? ⟨w.heap.size, 2, none⟩ = some (.int .i64 gr.g) ∧ w'.cell? ⟨w.heap.size + 1, 0, none⟩ = some (.int .i64 bh) ∧ w'.cell? ⟨w.heap.size + 1, 1, none⟩ = some ((.slice bva bvn bvc)) ∧ w'.cell? ⟨w.heap.size + 1 + 1, 0, none⟩ = some ((.slice (some ⟨xcb, xco, none⟩) 1 xcc)) ∧ w'.cell? ⟨w.heap.size + 1 + 1, 1, none⟩ = some ((.slice xha xhn xhc)) ∧ w'.cell? ⟨w.heap.size + 1 + 1, 2, none⟩ = some ((.slice xra xrn xrc)) ∧ w'.cell? ⟨xcb, xco, none⟩ = some (.int .i64 (nth d.c 0))) 34 [(0, []), (1, [0]), (2, [0]), (3, [0]), (4, [0]), (5, [0]), (6, [0, 1]), (7, [0, 2]), (8, [0, 3]), (9, [4, 0]), (10, [0]), (11, [0]), (12, [0, 1]), (13, [0, 2]), (14, [0, 3]), (15, [4, 0]), (16, [0]), (17, [0]), (18, [1]), (19, [0, 2]), (20, [0, 3]), (21, [0, 4]), (22, [4, 0, 5]), (23, [0, 6]), (24, [7, 0]), (25, [0]), (26, [0]), (27, [1]), (28, [0, 2]), (29, [2, 0, 3]), (30, [0, 4]), (31, [5, 0])] [] (by kernel_rfl) (by kernel_rfl) (by kernel_rfl) rfl (fun _ _ _ _ h => h) (fun w' h => ⟨box_at c0_0 h, box_at c0_1 h, box_at c0_2 h, box_at c1_0 h, box_at c1_1 h, box_at c2_0 h, box_at c2_1 h, box_at c2_2 h, box_at yxc0 h⟩) ?_
          simp only [pickP, pickN, List.getElem?_cons_zero, List.getElem?_cons_succ]
          iterate 5 (refine' chainP_read _ rfl rfl (fun w' hS' => ?_) ?_; rotate_left; · (simp only [lookP, allP, Act.put, List.getElem?_cons_zero, List.getElem?_cons_succ, List.setIfInBounds_toArray, List.set_cons_zero, List.set_cons_succ]; (try dsimp only at hS'); go_simp; (try with_reducible rfl)))
          -- 5: fieldAddr 42 t7 1
          refine' chainP_readG (d := (some 28)) _ rfl (fun w' hS' => ?_) ?_; rotate_left
          · simp only [lookP, allP, Act.put, List.getElem?_cons_zero, List.getElem?_cons_succ, List.setIfInBounds_toArray, List.set_cons_zero, List.set_cons_succ]
            refine ⟨by kernel_rfl, ?_⟩
            (try dsimp only at hS')
            go_simp
            (try with_reducible rfl)
          -- 6: load 24 t28
          refine' chainP_readG (d := (some 29)) _ rfl (fun w' hS' => ?_) ?_; rotate_left
          · simp only [lookP, allP, Act.put, List.getElem?_cons_zero, List.getElem?_cons_succ, List.setIfInBounds_toArray, List.set_cons_zero, List.set_cons_succ]
            refine ⟨by kernel_rfl, ?_⟩
            (try dsimp only at hS')
            go_simp
            (try with_reducible rfl)
          -- 7: call { callee := builtin Builtin.len, args := #[t29], argTypes := #[24] }
          refine' chainP_readG (d := (some 30)) _ rfl (fun w' hS' => ?_) ?_; rotate_left
          · simp only [lookP, allP, Act.put, List.getElem?_cons_zero, List.getElem?_cons_succ, List.setIfInBounds_toArray, List.set_cons_zero, List.set_cons_succ]
            refine ⟨by kernel_rfl, ?_⟩
            (try dsimp only at hS')
            go_simp
            (try with_reducible rfl)
          -- 8: binOp Binneq 3 t30 (const (int i64 1)) 3
          refine' chainP_readG (d := (some 31)) _ rfl (fun w' hS' => ?_) ?_; rotate_left
          · simp only [lookP, allP, Act.put, List.getElem?_cons_zero, List.getElem?_cons_succ, List.setIfInBounds_toArray, List.set_cons_zero, List.set_cons_succ]
            refine ⟨by kernel_rfl, ?_⟩
            (try dsimp only at hS')
            go_simp
            (try with_reducible rfl)
          iterate 2 (refine' chainP_read _ rfl rfl (fun w' hS' => ?_) ?_; rotate_left; · (simp only [lookP, allP, Act.put, List.getElem?_cons_zero, List.getElem?_cons_succ, List.setIfInBounds_toArray, List.set_cons_zero, List.set_cons_succ]; (try dsimp only at hS'); go_simp; (try with_reducible rfl)))
          -- 11: fieldAddr 42 t7 2
          refine chainP_skip (d := (some 34)) rfl (fun w' hS' => ?_) ?_
          · simp only [lookP, allP, Act.put, List.getElem?_cons_zero, List.getElem?_cons_succ, List.setIfInBounds_toArray, List.set_cons_zero, List.set_cons_succ]
            kernel_rfl
          -- 12: load 24 t34
          refine chainP_skip (d := (some 35)) rfl (fun w' hS' => ?_) ?_
          · simp only [lookP, allP, Act.put, List.getElem?_cons_zero, List.getElem?_cons_succ, List.setIfInBounds_toArray, List.set_cons_zero, List.set_cons_succ]
            kernel_rfl
          -- 13: call { callee := builtin Builtin.len, args := #[t35], argTypes := #[24] }
          refine chainP_skip (d := (some 36)) rfl (fun w' hS' => ?_) ?_
          · simp only [lookP, allP, Act.put, List.getElem?_cons_zero, List.getElem?_cons_succ, List.setIfInBounds_toArray, List.set_cons_zero, List.set_cons_succ]
            kernel_rfl
          -- 14: binOp Binneq 3 t36 (const (int i64 2)) 3
          refine chainP_skip (d := (some 37)) rfl (fun w' hS' => ?_) ?_
          · simp only [lookP, allP, Act.put, List.getElem?_cons_zero, List.getElem?_cons_succ, List.setIfInBounds_toArray, List.set_cons_zero, List.set_cons_succ]
            kernel_rfl
          iterate 2 (refine' chainP_read _ rfl rfl (fun w' hS' => ?_) ?_; rotate_left; · (simp only [lookP, allP, Act.put, List.getElem?_cons_zero, List.getElem?_cons_succ, List.setIfInBounds_toArray, List.set_cons_zero, List.set_cons_succ]; (try dsimp only at hS'); go_simp; (try with_reducible rfl)))
          -- 17: load 39 t4
          refine chainP_skip (d := (some 40)) rfl (fun w' hS' => ?_) ?_
          · simp only [lookP, allP, Act.put, List.getElem?_cons_zero, List.getElem?_cons_succ, List.setIfInBounds_toArray, List.set_cons_zero, List.set_cons_succ]
            kernel_rfl
          -- 18: fieldAddr 42 t7 0
          refine chainP_skip (d := (some 41)) rfl (fun w' hS' => ?_) ?_
          · simp only [lookP, allP, Act.put, List.getElem?_cons_zero, List.getElem?_cons_succ, List.setIfInBounds_toArray, List.set_cons_zero, List.set_cons_succ]
            kernel_rfl
          -- 19: load 24 t41
          refine chainP_skip (d := (some 42)) rfl (fun w' hS' => ?_) ?_
          · simp only [lookP, allP, Act.put, List.getElem?_cons_zero, List.getElem?_cons_succ, List.setIfInBounds_toArray, List.set_cons_zero, List.set_cons_succ]
            kernel_rfl
          -- 20: indexAddr 24 t42 (const (int i64 0))
          refine chainP_skip (d := (some 43)) rfl (fun w' hS' => ?_) ?_
          · simp only [lookP, allP, Act.put, List.getElem?_cons_zero, List.getElem?_cons_succ, List.setIfInBounds_toArray, List.set_cons_zero, List.set_cons_succ]
            kernel_rfl
          -- 21: load 3 t43
          refine chainP_skip (d := (some 44)) rfl (fun w' hS' => ?_) ?_
          · simp only [lookP, allP, Act.put, List.getElem?_cons_zero, List.getElem?_cons_succ, List.setIfInBounds_toArray, List.set_cons_zero, List.set_cons_succ]
            kernel_rfl
          -- 22: call { callee := value (func 138), args := #[t40, t44], argTypes := #[39, 3] }
          refine chainP_skip (d := (some 45)) rfl (fun w' hS' => ?_) ?_
          · simp only [lookP, allP, Act.put, List.getElem?_cons_zero, List.getElem?_cons_succ, List.setIfInBounds_toArray, List.set_cons_zero, List.set_cons_succ]
            kernel_rfl
          -- 23: unOp Unnot 4 t45
          refine chainP_skip (d := (some 46)) rfl (fun w' hS' => ?_) ?_
          · simp only [lookP, allP, Act.put, List.getElem?_cons_zero, List.getElem?_cons_succ, List.setIfInBounds_toArray, List.set_cons_zero, List.set_cons_succ]
            kernel_rfl
          iterate 2 (refine' chainP_read _ rfl rfl (fun w' hS' => ?_) ?_; rotate_left; · (simp only [lookP, allP, Act.put, List.getElem?_cons_zero, List.getElem?_cons_succ, List.setIfInBounds_toArray, List.set_cons_zero, List.set_cons_succ]; (try dsimp only at hS'); go_simp; (try with_reducible rfl)))
          -- 26: load 39 t4
          refine chainP_skip (d := (some 49)) rfl (fun w' hS' => ?_) ?_
          · simp only [lookP, allP, Act.put, List.getElem?_cons_zero, List.getElem?_cons_succ, List.setIfInBounds_toArray, List.set_cons_zero, List.set_cons_succ]
            kernel_rfl
          -- 27: fieldAddr 42 t7 2
          refine chainP_skip (d := (some 50)) rfl (fun w' hS' => ?_) ?_
          · simp only [lookP, allP, Act.put, List.getElem?_cons_zero, List.getElem?_cons_succ, List.setIfInBounds_toArray, List.set_cons_zero, List.set_cons_succ]
            kernel_rfl
          -- 28: load 24 t50
          refine chainP_skip (d := (some 51)) rfl (fun w' hS' => ?_) ?_
          · simp only [lookP, allP, Act.put, List.getElem?_cons_zero, List.getElem?_cons_succ, List.setIfInBounds_toArray, List.set_cons_zero, List.set_cons_succ]
            kernel_rfl
          -- 29: call { callee := value (func 140), args := #[t49, t51], argTypes := #[39, 24] }
          refine chainP_skip (d := (some 52)) rfl (fun w' hS' => ?_) ?_
          · simp only [lookP, allP, Act.put, List.getElem?_cons_zero, List.getElem?_cons_succ, List.setIfInBounds_toArray, List.set_cons_zero, List.set_cons_succ]
            kernel_rfl
          -- 30: unOp Unnot 4 t52
          refine chainP_skip (d := (some 53)) rfl (fun w' hS' => ?_) ?_
          · simp only [lookP, allP, Act.put, List.getElem?_cons_zero, List.getElem?_cons_succ, List.setIfInBounds_toArray, List.set_cons_zero, List.set_cons_succ]
            kernel_rfl
          -- 31: pick t48 (const (bool true)) t53
          refine' chainP_read (d := (some 54)) _ rfl rfl (fun w' hS' => ?_) ?_; rotate_left
          · simp only [lookP, allP, Act.put, List.getElem?_cons_zero, List.getElem?_cons_succ, List.setIfInBounds_toArray, List.set_cons_zero, List.set_cons_succ]
            (try dsimp only at hS')
            go_simp
            (try with_reducible rfl)
          refine chainP_nil (fun u3 hS' => ?_)
          simp only [allP, Act.put, List.setIfInBounds_toArray, List.set_cons_zero, List.set_cons_succ]
          have hq3 := hS'.1
          clear hS'
          replace hc := Below.next hc hq3
          clear hq3 c0_0 c0_1 c0_2 c1_0 c1_1 c2_0 c2_1 c2_2 yxc0
          obtain ⟨c0_0, c0_1, c0_2, c1_0, c1_1, c2_0, c2_1, c2_2, yxc0⟩ := HCC.out _ hc
          go_wp2_with fail
          refine NoPanic.normal ?_
          go_wp2_with fail
          have HV : Hid ((.tuple #[.bool (voA gr bh bl c0 && voP gr sOpen bh c0 d), .bool (voA gr bh bl c0)] : Value) = .tuple #[.bool false, .bool true]) := by unfold Hid; simp [voA, voP, Hhc1.out, Hhc2.out, hc3, hc4, HLxc.out, HLxh.out]
          go_ret2
          exact ⟨congrArg Ending.returned HV.out.symm, HB.out.trans (hc.mono HB.out.size)⟩
      | true =>
        have HLxc : Hid (decide (d.c.length = 1) = false) := by have q := hc3; rw [bne_iff_ne] at q; exact decide_eq_false (by have := Exc.out; omega)
        try (go_wp2_with fail)
        refine wp_region_noPanic ?_
        refine wp_region_P (fun w' => w'.cell? ⟨w.heap.size, 0, none⟩ = some (.int .i64 gr.p) ∧ w'.cell? ⟨w.heap.size, 1, none⟩ = some (.int .i64 gr.q) ∧ w'.cell? ⟨w.heap.size, 2, none⟩ = some (.int .i64 gr.g) ∧ w'.cell? ⟨w.heap.size + 1, 0, none⟩ = some (.int .i64 bh) ∧ w'.cell? ⟨w.heap.size + 1, 1, none⟩ = some ((.slice bva bvn bvc)) ∧ w'.cell? ⟨w.heap.size + 1 + 1, 0, none⟩ = some ((.slice xca xcn xcc)) ∧ w'.cell? ⟨w.heap.size + 1 + 1, 1, none⟩ = some ((.slice xha xhn xhc)) ∧ w'.cell? ⟨w.heap.size + 1 + 1, 2, none⟩ = some ((.slice xra xrn xrc))) 34 [(0, []), (1, [0]), (2, [0]), (3, [0]), (4, [0]), (5, [0]), (6, [0, 1]), (7, [0, 2]), (8, [0, 3]), (9, [4, 0]), (10, [0]), (11, [0]), (12, [0, 1]), (13, [0, 2]), (14, [0, 3]), (15, [4, 0]), (16, [0]), (17, [0]), (18, [1]), (19, [0, 2]), (20, [0, 3]), (21, [0, 4]), (22, [4, 0, 5]), (23, [0, 6]), (24, [7, 0]), (25, [0]), (26, [0]), (27, [1]), (28, [0, 2]), (29, [2, 0, 3]), (30, [0, 4]), (31, [5, 0])] [] (by kernel_rfl) (by kernel_rfl) (by kernel_rfl) rfl (fun _ _ _ _ h => h) (fun w' h => ⟨box_at c0_0 h, box_at c0_1 h, box_at c0_2 h, box_at c1_0 h, box_at c1_1 h, box_at c2_0 h, box_at c2_1 h, box_at c2_2 h⟩) ?_
        simp only [pickP, pickN, List.getElem?_cons_zero, List.getElem?_cons_succ]
        iterate 5 (refine' chainP_read _ rfl rfl (fun w' hS' => ?_) ?_; rotate_left; · (simp only [lookP, allP, Act.put, List.getElem?_cons_zero, List.getElem?_cons_succ, List.setIfInBounds_toArray, List.set_cons_zero, List.set_cons_succ]; (try dsimp only at hS'); go_simp; (try with_reducible rfl)))
        -- 5: fieldAddr 42 t7 1
        refine chainP_skip (d := (some 28)) rfl (fun w' hS' => ?_) ?_
        · simp only [lookP, allP, Act.put, List.getElem?_cons_zero, List.getElem?_cons_succ, List.setIfInBounds_toArray, List.set_cons_zero, List.set_cons_succ]
          kernel_rfl
        -- 6: load 24 t28
        refine chainP_skip (d := (some 29)) rfl (fun w' hS' => ?_) ?_
        · simp only [lookP, allP, Act.put, List.getElem?_cons_zero, List.getElem?_cons_succ, List.setIfInBounds_toArray, List.set_cons_zero, List.set_cons_succ]
          kernel_rfl
        -- 7: call { callee := builtin Builtin.len, args := #[t29], argTypes := #[24] }
        refine chainP_skip (d := (some 30)) rfl (fun w' hS' => ?_) ?_
        · simp only [lookP, allP, Act.put, List.getElem?_cons_zero, List.getElem?_cons_succ, List.setIfInBounds_toArray, List.set_cons_zero, List.set_cons_succ]
          kernel_rfl
        -- 8: binOp Binneq 3 t30 (const (int i64 1)) 3
        refine chainP_skip (d := (some 31)) rfl (fun w' hS' => ?_) ?_
        · simp only [lookP, allP, Act.put, List.getElem?_cons_zero, List.getElem?_cons_succ, List.setIfInBounds_toArray, List.set_cons_zero, List.set_cons_succ]
          kernel_rfl
        iterate 2 (refine' chainP_read _ rfl rfl (fun w' hS' => ?_) ?_; rotate_left; · (simp only [lookP, allP, Act.put, List.getElem?_cons_zero, List.getElem?_cons_succ, List.setIfInBounds_toArray, List.set_cons_zero, List.set_cons_succ]; (try dsimp only at hS'); go_simp; (try with_reducible rfl)))
        -- 11: fieldAddr 42 t7 2
        refine chainP_skip (d := (some 34)) rfl (fun w' hS' => ?_) ?_
        · simp only [lookP, allP, Act.put, List.getElem?_cons_zero, List.getElem?_cons_succ, List.setIfInBounds_toArray, List.set_cons_zero, List.set_cons_succ]
          kernel_rfl
        -- 12: load 24 t34
        refine chainP_skip (d := (some 35)) rfl (fun w' hS' => ?_) ?_
        · simp only [lookP, allP, Act.put, List.getElem?_cons_zero, List.getElem?_cons_succ, List.setIfInBounds_toArray, List.set_cons_zero, List.set_cons_succ]
          kernel_rfl
        -- 13: call { callee := builtin Builtin.len, args := #[t35], argTypes := #[24] }
        refine chainP_skip (d := (some 36)) rfl (fun w' hS' => ?_) ?_
        · simp only [lookP, allP, Act.put, List.getElem?_cons_zero, List.getElem?_cons_succ, List.setIfInBounds_toArray, List.set_cons_zero, List.set_cons_succ]
          kernel_rfl
        -- 14: binOp Binneq 3 t36 (const (int i64 2)) 3
        refine chainP_skip (d := (some 37)) rfl (fun w' hS' => ?_) ?_
        · simp only [lookP, allP, Act.put, List.getElem?_cons_zero, List.getElem?_cons_succ, List.setIfInBounds_toArray, List.set_cons_zero, List.set_cons_succ]
          kernel_rfl
        iterate 2 (refine' chainP_read _ rfl rfl (fun w' hS' => ?_) ?_; rotate_left; · (simp only [lookP, allP, Act.put, List.getElem?_cons_zero, List.getElem?_cons_succ, List.setIfInBounds_toArray, List.set_cons_zero, List.set_cons_succ]; (try dsimp only at hS'); go_simp; (try with_reducible rfl)))
        -- 17: load 39 t4
        refine chainP_skip (d := (some 40)) rfl (fun w' hS' => ?_) ?_
        · simp only [lookP, allP, Act.put, List.getElem?_cons_zero, List.getElem?_cons_succ, List.setIfInBounds_toArray, List.set_cons_zero, List.set_cons_succ]
          kernel_rfl
        -- 18: fieldAddr 42 t7 0
        refine chainP_skip (d := (some 41)) rfl (fun w' hS' => ?_) ?_
        · simp only [lookP, allP, Act.put, List.getElem?_cons_zero, List.getElem?_cons_succ, List.setIfInBounds_toArray, List.set_cons_zero, List.set_cons_succ]
          kernel_rfl
        -- 19: load 24 t41
        refine chainP_skip (d := (some 42)) rfl (fun w' hS' => ?_) ?_
        · simp only [lookP, allP, Act.put, List.getElem?_cons_zero, List.getElem?_cons_succ, List.setIfInBounds_toArray, List.set_cons_zero, List.set_cons_succ]
          kernel_rfl
        -- 20: indexAddr 24 t42 (const (int i64 0))
        refine chainP_skip (d := (some 43)) rfl (fun w' hS' => ?_) ?_
        · simp only [lookP, allP, Act.put, List.getElem?_cons_zero, List.getElem?_cons_succ, List.setIfInBounds_toArray, List.set_cons_zero, List.set_cons_succ]
          kernel_rfl
        -- 21: load 3 t43
        refine chainP_skip (d := (some 44)) rfl (fun w' hS' => ?_) ?_
        · simp only [lookP, allP, Act.put, List.getElem?_cons_zero, List.getElem?_cons_succ, List.setIfInBounds_toArray, List.set_cons_zero, List.set_cons_succ]
          kernel_rfl
        -- 22: call { callee := value (func 138), args := #[t40, t44], argTypes := #[39, 3] }
        refine chainP_skip (d := (some 45)) rfl (fun w' hS' => ?_) ?_
        · simp only [lookP, allP, Act.put, List.getElem?_cons_zero, List.getElem?_cons_succ, List.setIfInBounds_toArray, List.set_cons_zero, List.set_cons_succ]
          kernel_rfl
        -- 23: unOp Unnot 4 t45
        refine chainP_skip (d := (some 46)) rfl (fun w' hS' => ?_) ?_
        · simp only [lookP, allP, Act.put, List.getElem?_cons_zero, List.getElem?_cons_succ, List.setIfInBounds_toArray, List.set_cons_zero, List.set_cons_succ]
          kernel_rfl
        iterate 2 (refine' chainP_read _ rfl rfl (fun w' hS' => ?_) ?_; rotate_left; · (simp only [lookP, allP, Act.put, List.getElem?_cons_zero, List.getElem?_cons_succ, List.setIfInBounds_toArray, List.set_cons_zero, List.set_cons_succ]; (try dsimp only at hS'); go_simp; (try with_reducible rfl)))
        -- 26: load 39 t4
        refine chainP_skip (d := (some 49)) rfl (fun w' hS' => ?_) ?_
        · simp only [lookP, allP, Act.put, List.getElem?_cons_zero, List.getElem?_cons_succ, List.setIfInBounds_toArray, List.set_cons_zero, List.set_cons_succ]
          kernel_rfl
        -- 27: fieldAddr 42 t7 2
        refine chainP_skip (d := (some 50)) rfl (fun w' hS' => ?_) ?_
        · simp only [lookP, allP, Act.put, List.getElem?_cons_zero, List.getElem?_cons_succ, List.setIfInBounds_toArray, List.set_cons_zero, List.set_cons_succ]
          kernel_rfl
        -- 28: load 24 t50
        refine chainP_skip (d := (some 51)) rfl (fun w' hS' => ?_) ?_
        · simp only [lookP, allP, Act.put, List.getElem?_cons_zero, List.getElem?_cons_succ, List.setIfInBounds_toArray, List.set_cons_zero, List.set_cons_succ]
          kernel_rfl
        -- 29: call { callee := value (func 140), args := #[t49, t51], argTypes := #[39, 24] }
        refine chainP_skip (d := (some 52)) rfl (fun w' hS' => ?_) ?_
        · simp only [lookP, allP, Act.put, List.getElem?_cons_zero, List.getElem?_cons_succ, List.setIfInBounds_toArray, List.set_cons_zero, List.set_cons_succ]
          kernel_rfl
        -- 30: unOp Unnot 4 t52
        refine chainP_skip (d := (some 53)) rfl (fun w' hS' => ?_) ?_
        · simp only [lookP, allP, Act.put, List.getElem?_cons_zero, List.getElem?_cons_succ, List.setIfInBounds_toArray, List.set_cons_zero, List.set_cons_succ]
          kernel_rfl
        -- 31: pick t48 (const (bool true)) t53
        refine' chainP_read (d := (some 54)) _ rfl rfl (fun w' hS' => ?_) ?_; rotate_left
        · simp only [lookP, allP, Act.put, List.getElem?_cons_zero, List.getElem?_cons_succ, List.setIfInBounds_toArray, List.set_cons_zero, List.set_cons_succ]
          (try dsimp only at hS')
          go_simp
          (try with_reducible rfl)
        refine chainP_nil (fun u3 hS' => ?_)
        simp only [allP, Act.put, List.setIfInBounds_toArray, List.set_cons_zero, List.set_cons_succ]
        have hq3 := hS'.1
        clear hS'
        replace hc := Below.next hc hq3
        clear hq3 c0_0 c0_1 c0_2 c1_0 c1_1 c2_0 c2_1 c2_2
        obtain ⟨c0_0, c0_1, c0_2, c1_0, c1_1, c2_0, c2_1, c2_2⟩ := HCC.out _ hc
        go_wp2_with fail
        refine NoPanic.normal ?_
        go_wp2_with fail
        have HV : Hid ((.tuple #[.bool (voA gr bh bl c0 && voP gr sOpen bh c0 d), .bool (voA gr bh bl c0)] : Value) = .tuple #[.bool false, .bool true]) := by unfold Hid; simp [voA, voP, Hhc1.out, Hhc2.out, hc3, HLxc.out]
        go_ret2
        exact ⟨congrArg Ending.returned HV.out.symm, HB.out.trans (hc.mono HB.out.size)⟩
end Go.Proofs.Ytboahnklilmdpaa
