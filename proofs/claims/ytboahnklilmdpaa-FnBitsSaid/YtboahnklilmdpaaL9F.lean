/- The form of a proof: walk (printed by gen_sum1.py). -/
import Derived.Test.YtboahnklilmdpaaPfM
namespace Go.Proofs.Ytboahnklilmdpaa
open Go.RowKit
set_option linter.unusedSimpArgs false
set_option linter.unusedVariables false

set_option maxRecDepth 100000 in
set_option maxHeartbeats 2000000 in
theorem spec_l9Form (gr : GroupD) (pv : Value) (d : ProofD) (na nb nc : Nat) (w : World) (hg : OkG gr) (hp : PfR w pv d) :
    Calls Try.prog 210 #[.agg #[.int .i64 gr.p, .int .i64 gr.q, .int .i64 gr.g], pv, .int .i64 (na : Int), .int .i64 (nb : Int), .int .i64 (nc : Int)] w fun e w' => e = .returned (.bool (fmB gr d na nb nc)) ∧ Below w.heap.size w w' := by
  have HG := Lib.hid hg
  clear hg
  obtain ⟨xcv, xhv, xrv, rfl, hxc, hxh, hxr⟩ := hp
  obtain ⟨xca, xcn, xcc, rfl⟩ := hxc.shape
  have Exc := Lib.hid hxc.len
  have Kxc := Lib.hid hxc.capMax
  have Hxc := Lib.hid hxc
  clear hxc
  obtain ⟨xha, xhn, xhc, rfl⟩ := hxh.shape
  have Exh := Lib.hid hxh.len
  have Kxh := Lib.hid hxh.capMax
  have Hxh := Lib.hid hxh
  clear hxh
  obtain ⟨xra, xrn, xrc, rfl⟩ := hxr.shape
  have Exr := Lib.hid hxr.len
  have Kxr := Lib.hid hxr.capMax
  have Hxr := Lib.hid hxr
  clear hxr
  cases hc1 : ((xcn : Int) == (na : Int)) with
  | false =>
    have HLxc : Hid (decide (d.c.length = na) = false) := by have q := hc1; rw [beq_eq_false_iff_ne] at q; exact decide_eq_false (by have := Exc.out; omega)
    have HV : Hid ((.bool (fmB gr d na nb nc) : Value) = .bool false) := by unfold Hid; simp [fmB, hc1, HLxc.out]
    rw [HV.out]
    go_enter Try.func210, Try.ntmps210
    go_wp2_with fail
    go_ret
    exact ⟨rfl, by (repeat (first | exact Below.refl _ _ | assumption | refine Below.drew ?_ | refine Below.alloc ?_ (by first | (simp; done) | (simp; omega)) _ | refine Below.setCell ?_ (by first | (simp; done) | (simp; omega)) _))⟩
  | true =>
    have HLxc : Hid (decide (d.c.length = na) = true) := by have q := hc1; rw [beq_iff_eq] at q; exact decide_eq_true (by have := Exc.out; omega)
    cases hc2 : ((xhn : Int) == (nb : Int)) with
    | false =>
      have HLxh : Hid (decide (d.h.length = nb) = false) := by have q := hc2; rw [beq_eq_false_iff_ne] at q; exact decide_eq_false (by have := Exh.out; omega)
      have HV : Hid ((.bool (fmB gr d na nb nc) : Value) = .bool false) := by unfold Hid; simp [fmB, hc1, hc2, HLxc.out, HLxh.out]
      rw [HV.out]
      go_enter Try.func210, Try.ntmps210
      go_wp2_with fail
      go_ret
      exact ⟨rfl, by (repeat (first | exact Below.refl _ _ | assumption | refine Below.drew ?_ | refine Below.alloc ?_ (by first | (simp; done) | (simp; omega)) _ | refine Below.setCell ?_ (by first | (simp; done) | (simp; omega)) _))⟩
    | true =>
      have HLxh : Hid (decide (d.h.length = nb) = true) := by have q := hc2; rw [beq_iff_eq] at q; exact decide_eq_true (by have := Exh.out; omega)
      cases hc3 : ((xrn : Int) == (nc : Int)) with
      | false =>
        have HLxr : Hid (decide (d.r.length = nc) = false) := by have q := hc3; rw [beq_eq_false_iff_ne] at q; exact decide_eq_false (by have := Exr.out; omega)
        have HV : Hid ((.bool (fmB gr d na nb nc) : Value) = .bool false) := by unfold Hid; simp [fmB, hc1, hc2, hc3, HLxc.out, HLxh.out, HLxr.out]
        rw [HV.out]
        go_enter Try.func210, Try.ntmps210
        go_wp2_with fail
        go_ret
        exact ⟨rfl, by (repeat (first | exact Below.refl _ _ | assumption | refine Below.drew ?_ | refine Below.alloc ?_ (by first | (simp; done) | (simp; omega)) _ | refine Below.setCell ?_ (by first | (simp; done) | (simp; omega)) _))⟩
      | true =>
        have HLxr : Hid (decide (d.r.length = nc) = true) := by have q := hc3; rw [beq_iff_eq] at q; exact decide_eq_true (by have := Exr.out; omega)
        cases hc4 : d.c.all (elB gr) with
        | false =>
          have HV : Hid ((.bool (fmB gr d na nb nc) : Value) = .bool false) := by unfold Hid; simp [fmB, hc1, hc2, hc3, hc4, HLxc.out, HLxh.out, HLxr.out]
          rw [HV.out]
          have Hhc4 := Lib.hid hc4
          clear hc4
          obtain ⟨W, hW⟩ : ∃ W, W = (w.alloc (.cells #[.int .i64 gr.p, .int .i64 gr.q, .int .i64 gr.g] 39)).alloc (.cells #[(.slice xca xcn xcc), (.slice xha xhn xhc), (.slice xra xrn xrc)] 42) := ⟨_, rfl⟩
          have HB : Hid (Below w.heap.size w W) := by unfold Hid; rw [hW]; (repeat (first | exact Below.refl _ _ | assumption | refine Below.drew ?_ | refine Below.alloc ?_ (by first | (simp; done) | (simp; omega)) _ | refine Below.setCell ?_ (by first | (simp; done) | (simp; omega)) _))
          have c0_0 : W.cell? ⟨w.heap.size, 0, none⟩ = some (.int .i64 gr.p) := by rw [hW]; simp [go_sem]
          have c0_1 : W.cell? ⟨w.heap.size, 1, none⟩ = some (.int .i64 gr.q) := by rw [hW]; simp [go_sem]
          have c0_2 : W.cell? ⟨w.heap.size, 2, none⟩ = some (.int .i64 gr.g) := by rw [hW]; simp [go_sem]
          have c1_0 : W.cell? ⟨w.heap.size + 1, 0, none⟩ = some ((.slice xca xcn xcc)) := by rw [hW]; simp [go_sem]
          have c1_1 : W.cell? ⟨w.heap.size + 1, 1, none⟩ = some ((.slice xha xhn xhc)) := by rw [hW]; simp [go_sem]
          have c1_2 : W.cell? ⟨w.heap.size + 1, 2, none⟩ = some ((.slice xra xrn xrc)) := by rw [hW]; simp [go_sem]
          have HSW : Hid (W.heap.size = w.heap.size + 2) := by unfold Hid; rw [hW]; simp
          go_enter Try.func210, Try.ntmps210
          go_wp2_with fail
          rw [← hW]
          have hse : w.heap.size + 1 + 1 = W.heap.size := by have := HSW.out; omega
          (try rw [hse])
          clear hse
          clear hW
          have hc : Below W.heap.size W W := Below.refl _ _
          go_wp2_with fail
          refine (spec_gIs gr _ d.c _ HG.out (Hxc.out.below (HB.out.trans (hc.mono HB.out.size)))).mono ?_
          rintro e u1 ⟨rfl, hq1⟩
          replace hc := Below.next hc hq1
          replace c0_0 := box_at c0_0 hq1
          replace c0_1 := box_at c0_1 hq1
          replace c0_2 := box_at c0_2 hq1
          replace c1_0 := box_at c1_0 hq1
          replace c1_1 := box_at c1_1 hq1
          replace c1_2 := box_at c1_2 hq1
          clear hq1
          rw [Hhc4.out]
          go_wp2_with fail
          go_ret
          exact ⟨rfl, HB.out.trans (hc.mono HB.out.size)⟩
        | true =>
          cases hc5 : d.h.all (expB gr) with
          | false =>
            have HV : Hid ((.bool (fmB gr d na nb nc) : Value) = .bool false) := by unfold Hid; simp [fmB, hc1, hc2, hc3, hc4, hc5, HLxc.out, HLxh.out, HLxr.out]
            rw [HV.out]
            have Hhc4 := Lib.hid hc4
            clear hc4
            have Hhc5 := Lib.hid hc5
            clear hc5
            obtain ⟨W, hW⟩ : ∃ W, W = (w.alloc (.cells #[.int .i64 gr.p, .int .i64 gr.q, .int .i64 gr.g] 39)).alloc (.cells #[(.slice xca xcn xcc), (.slice xha xhn xhc), (.slice xra xrn xrc)] 42) := ⟨_, rfl⟩
            have HB : Hid (Below w.heap.size w W) := by unfold Hid; rw [hW]; (repeat (first | exact Below.refl _ _ | assumption | refine Below.drew ?_ | refine Below.alloc ?_ (by first | (simp; done) | (simp; omega)) _ | refine Below.setCell ?_ (by first | (simp; done) | (simp; omega)) _))
            have c0_0 : W.cell? ⟨w.heap.size, 0, none⟩ = some (.int .i64 gr.p) := by rw [hW]; simp [go_sem]
            have c0_1 : W.cell? ⟨w.heap.size, 1, none⟩ = some (.int .i64 gr.q) := by rw [hW]; simp [go_sem]
            have c0_2 : W.cell? ⟨w.heap.size, 2, none⟩ = some (.int .i64 gr.g) := by rw [hW]; simp [go_sem]
            have c1_0 : W.cell? ⟨w.heap.size + 1, 0, none⟩ = some ((.slice xca xcn xcc)) := by rw [hW]; simp [go_sem]
            have c1_1 : W.cell? ⟨w.heap.size + 1, 1, none⟩ = some ((.slice xha xhn xhc)) := by rw [hW]; simp [go_sem]
            have c1_2 : W.cell? ⟨w.heap.size + 1, 2, none⟩ = some ((.slice xra xrn xrc)) := by rw [hW]; simp [go_sem]
            have HSW : Hid (W.heap.size = w.heap.size + 2) := by unfold Hid; rw [hW]; simp
            go_enter Try.func210, Try.ntmps210
            go_wp2_with fail
            rw [← hW]
            have hse : w.heap.size + 1 + 1 = W.heap.size := by have := HSW.out; omega
            (try rw [hse])
            clear hse
            clear hW
            have hc : Below W.heap.size W W := Below.refl _ _
            go_wp2_with fail
            refine (spec_gIs gr _ d.c _ HG.out (Hxc.out.below (HB.out.trans (hc.mono HB.out.size)))).mono ?_
            rintro e u1 ⟨rfl, hq1⟩
            replace hc := Below.next hc hq1
            replace c0_0 := box_at c0_0 hq1
            replace c0_1 := box_at c0_1 hq1
            replace c0_2 := box_at c0_2 hq1
            replace c1_0 := box_at c1_0 hq1
            replace c1_1 := box_at c1_1 hq1
            replace c1_2 := box_at c1_2 hq1
            clear hq1
            rw [Hhc4.out]
            go_wp2_with fail
            refine (spec_gExps gr _ d.h _ HG.out (Hxh.out.below (HB.out.trans (hc.mono HB.out.size)))).mono ?_
            rintro e u2 ⟨rfl, hq2⟩
            replace hc := Below.next hc hq2
            replace c0_0 := box_at c0_0 hq2
            replace c0_1 := box_at c0_1 hq2
            replace c0_2 := box_at c0_2 hq2
            replace c1_0 := box_at c1_0 hq2
            replace c1_1 := box_at c1_1 hq2
            replace c1_2 := box_at c1_2 hq2
            clear hq2
            rw [Hhc5.out]
            go_wp2_with fail
            go_ret
            exact ⟨rfl, HB.out.trans (hc.mono HB.out.size)⟩
          | true =>
            cases hc6 : d.r.all (expB gr) with
            | false =>
              have HV : Hid ((.bool (fmB gr d na nb nc) : Value) = .bool false) := by unfold Hid; simp [fmB, hc1, hc2, hc3, hc4, hc5, hc6, HLxc.out, HLxh.out, HLxr.out]
              rw [HV.out]
              have Hhc4 := Lib.hid hc4
              clear hc4
              have Hhc5 := Lib.hid hc5
              clear hc5
              have Hhc6 := Lib.hid hc6
              clear hc6
              obtain ⟨W, hW⟩ : ∃ W, W = (w.alloc (.cells #[.int .i64 gr.p, .int .i64 gr.q, .int .i64 gr.g] 39)).alloc (.cells #[(.slice xca xcn xcc), (.slice xha xhn xhc), (.slice xra xrn xrc)] 42) := ⟨_, rfl⟩
              have HB : Hid (Below w.heap.size w W) := by unfold Hid; rw [hW]; (repeat (first | exact Below.refl _ _ | assumption | refine Below.drew ?_ | refine Below.alloc ?_ (by first | (simp; done) | (simp; omega)) _ | refine Below.setCell ?_ (by first | (simp; done) | (simp; omega)) _))
              have c0_0 : W.cell? ⟨w.heap.size, 0, none⟩ = some (.int .i64 gr.p) := by rw [hW]; simp [go_sem]
              have c0_1 : W.cell? ⟨w.heap.size, 1, none⟩ = some (.int .i64 gr.q) := by rw [hW]; simp [go_sem]
              have c0_2 : W.cell? ⟨w.heap.size, 2, none⟩ = some (.int .i64 gr.g) := by rw [hW]; simp [go_sem]
              have c1_0 : W.cell? ⟨w.heap.size + 1, 0, none⟩ = some ((.slice xca xcn xcc)) := by rw [hW]; simp [go_sem]
              have c1_1 : W.cell? ⟨w.heap.size + 1, 1, none⟩ = some ((.slice xha xhn xhc)) := by rw [hW]; simp [go_sem]
              have c1_2 : W.cell? ⟨w.heap.size + 1, 2, none⟩ = some ((.slice xra xrn xrc)) := by rw [hW]; simp [go_sem]
              have HSW : Hid (W.heap.size = w.heap.size + 2) := by unfold Hid; rw [hW]; simp
              go_enter Try.func210, Try.ntmps210
              go_wp2_with fail
              rw [← hW]
              have hse : w.heap.size + 1 + 1 = W.heap.size := by have := HSW.out; omega
              (try rw [hse])
              clear hse
              clear hW
              have hc : Below W.heap.size W W := Below.refl _ _
              go_wp2_with fail
              refine (spec_gIs gr _ d.c _ HG.out (Hxc.out.below (HB.out.trans (hc.mono HB.out.size)))).mono ?_
              rintro e u1 ⟨rfl, hq1⟩
              replace hc := Below.next hc hq1
              replace c0_0 := box_at c0_0 hq1
              replace c0_1 := box_at c0_1 hq1
              replace c0_2 := box_at c0_2 hq1
              replace c1_0 := box_at c1_0 hq1
              replace c1_1 := box_at c1_1 hq1
              replace c1_2 := box_at c1_2 hq1
              clear hq1
              rw [Hhc4.out]
              go_wp2_with fail
              refine (spec_gExps gr _ d.h _ HG.out (Hxh.out.below (HB.out.trans (hc.mono HB.out.size)))).mono ?_
              rintro e u2 ⟨rfl, hq2⟩
              replace hc := Below.next hc hq2
              replace c0_0 := box_at c0_0 hq2
              replace c0_1 := box_at c0_1 hq2
              replace c0_2 := box_at c0_2 hq2
              replace c1_0 := box_at c1_0 hq2
              replace c1_1 := box_at c1_1 hq2
              replace c1_2 := box_at c1_2 hq2
              clear hq2
              rw [Hhc5.out]
              go_wp2_with fail
              refine (spec_gExps gr _ d.r _ HG.out (Hxr.out.below (HB.out.trans (hc.mono HB.out.size)))).mono ?_
              rintro e u3 ⟨rfl, hq3⟩
              replace hc := Below.next hc hq3
              replace c0_0 := box_at c0_0 hq3
              replace c0_1 := box_at c0_1 hq3
              replace c0_2 := box_at c0_2 hq3
              replace c1_0 := box_at c1_0 hq3
              replace c1_1 := box_at c1_1 hq3
              replace c1_2 := box_at c1_2 hq3
              clear hq3
              rw [Hhc6.out]
              go_wp2_with fail
              go_ret
              exact ⟨rfl, HB.out.trans (hc.mono HB.out.size)⟩
            | true =>
              have HV : Hid ((.bool (fmB gr d na nb nc) : Value) = .bool true) := by unfold Hid; simp [fmB, hc1, hc2, hc3, hc4, hc5, hc6, HLxc.out, HLxh.out, HLxr.out]
              rw [HV.out]
              have Hhc4 := Lib.hid hc4
              clear hc4
              have Hhc5 := Lib.hid hc5
              clear hc5
              have Hhc6 := Lib.hid hc6
              clear hc6
              obtain ⟨W, hW⟩ : ∃ W, W = (w.alloc (.cells #[.int .i64 gr.p, .int .i64 gr.q, .int .i64 gr.g] 39)).alloc (.cells #[(.slice xca xcn xcc), (.slice xha xhn xhc), (.slice xra xrn xrc)] 42) := ⟨_, rfl⟩
              have HB : Hid (Below w.heap.size w W) := by unfold Hid; rw [hW]; (repeat (first | exact Below.refl _ _ | assumption | refine Below.drew ?_ | refine Below.alloc ?_ (by first | (simp; done) | (simp; omega)) _ | refine Below.setCell ?_ (by first | (simp; done) | (simp; omega)) _))
              have c0_0 : W.cell? ⟨w.heap.size, 0, none⟩ = some (.int .i64 gr.p) := by rw [hW]; simp [go_sem]
              have c0_1 : W.cell? ⟨w.heap.size, 1, none⟩ = some (.int .i64 gr.q) := by rw [hW]; simp [go_sem]
              have c0_2 : W.cell? ⟨w.heap.size, 2, none⟩ = some (.int .i64 gr.g) := by rw [hW]; simp [go_sem]
              have c1_0 : W.cell? ⟨w.heap.size + 1, 0, none⟩ = some ((.slice xca xcn xcc)) := by rw [hW]; simp [go_sem]
              have c1_1 : W.cell? ⟨w.heap.size + 1, 1, none⟩ = some ((.slice xha xhn xhc)) := by rw [hW]; simp [go_sem]
              have c1_2 : W.cell? ⟨w.heap.size + 1, 2, none⟩ = some ((.slice xra xrn xrc)) := by rw [hW]; simp [go_sem]
              have HSW : Hid (W.heap.size = w.heap.size + 2) := by unfold Hid; rw [hW]; simp
              go_enter Try.func210, Try.ntmps210
              go_wp2_with fail
              rw [← hW]
              have hse : w.heap.size + 1 + 1 = W.heap.size := by have := HSW.out; omega
              (try rw [hse])
              clear hse
              clear hW
              have hc : Below W.heap.size W W := Below.refl _ _
              go_wp2_with fail
              refine (spec_gIs gr _ d.c _ HG.out (Hxc.out.below (HB.out.trans (hc.mono HB.out.size)))).mono ?_
              rintro e u1 ⟨rfl, hq1⟩
              replace hc := Below.next hc hq1
              replace c0_0 := box_at c0_0 hq1
              replace c0_1 := box_at c0_1 hq1
              replace c0_2 := box_at c0_2 hq1
              replace c1_0 := box_at c1_0 hq1
              replace c1_1 := box_at c1_1 hq1
              replace c1_2 := box_at c1_2 hq1
              clear hq1
              rw [Hhc4.out]
              go_wp2_with fail
              refine (spec_gExps gr _ d.h _ HG.out (Hxh.out.below (HB.out.trans (hc.mono HB.out.size)))).mono ?_
              rintro e u2 ⟨rfl, hq2⟩
              replace hc := Below.next hc hq2
              replace c0_0 := box_at c0_0 hq2
              replace c0_1 := box_at c0_1 hq2
              replace c0_2 := box_at c0_2 hq2
              replace c1_0 := box_at c1_0 hq2
              replace c1_1 := box_at c1_1 hq2
              replace c1_2 := box_at c1_2 hq2
              clear hq2
              rw [Hhc5.out]
              go_wp2_with fail
              refine (spec_gExps gr _ d.r _ HG.out (Hxr.out.below (HB.out.trans (hc.mono HB.out.size)))).mono ?_
              rintro e u3 ⟨rfl, hq3⟩
              replace hc := Below.next hc hq3
              replace c0_0 := box_at c0_0 hq3
              replace c0_1 := box_at c0_1 hq3
              replace c0_2 := box_at c0_2 hq3
              replace c1_0 := box_at c1_0 hq3
              replace c1_1 := box_at c1_1 hq3
              replace c1_2 := box_at c1_2 hq3
              clear hq3
              rw [Hhc6.out]
              go_wp2_with fail
              go_ret
              exact ⟨rfl, HB.out.trans (hc.mono HB.out.size)⟩
end Go.Proofs.Ytboahnklilmdpaa
