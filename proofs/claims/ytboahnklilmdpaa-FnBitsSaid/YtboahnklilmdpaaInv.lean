/- Inverses of elements: walks (as in Cip6, printed by gen_cip6.py). -/
import Derived.Test.YtboahnklilmdpaaCom1
namespace Go.Proofs.Ytboahnklilmdpaa
open Go.RowKit
set_option linter.unusedSimpArgs false
set_option linter.unusedVariables false

set_option maxRecDepth 100000 in
set_option maxHeartbeats 2000000 in
theorem impl_inv (gr : GroupD) (x : Int) (w : World) (hg : OkG gr) (hx : Small x) :
    Calls Try.prog 224 #[.agg #[.int .i64 gr.p, .int .i64 gr.q, .int .i64 gr.g], .int .i64 x] w fun e w' => e = .returned (.int .i64 (powE gr x (-1))) ∧ Below w.heap.size w w' := by
  have HG := Lib.hid hg
  clear hg
  obtain ⟨W, hW⟩ : ∃ W, W = w.alloc (.cells #[.int .i64 gr.p, .int .i64 gr.q, .int .i64 gr.g] 39) := ⟨_, rfl⟩
  have HB : Hid (Below w.heap.size w W) := by unfold Hid; rw [hW]; (repeat (first | exact Below.refl _ _ | assumption | refine Below.drew ?_ | refine Below.alloc ?_ (by first | (simp; done) | (simp; omega)) _ | refine Below.setCell ?_ (by first | (simp; done) | (simp; omega)) _))
  have c0_0 : W.cell? ⟨w.heap.size, 0, none⟩ = some (.int .i64 gr.p) := by rw [hW]; simp [go_sem]
  have c0_1 : W.cell? ⟨w.heap.size, 1, none⟩ = some (.int .i64 gr.q) := by rw [hW]; simp [go_sem]
  have c0_2 : W.cell? ⟨w.heap.size, 2, none⟩ = some (.int .i64 gr.g) := by rw [hW]; simp [go_sem]
  have HSW : Hid (W.heap.size = w.heap.size + 1) := by unfold Hid; rw [hW]; simp
  go_enter Try.func224, Try.ntmps224
  go_wp2_with fail
  rw [← hW]
  clear hW
  have hc : Below W.heap.size W W := Below.refl _ _
  go_wp2_with fail
  refine (impl_pow gr x (-1) _ HG.out hx ⟨by decide, by decide⟩).mono ?_
  rintro e u1 ⟨rfl, hq1⟩
  replace hc := Below.next hc hq1
  replace c0_0 := box_at c0_0 hq1
  replace c0_1 := box_at c0_1 hq1
  replace c0_2 := box_at c0_2 hq1
  clear hq1
  go_wp2_with fail
  go_ret
  exact ⟨rfl, HB.out.trans (hc.mono HB.out.size)⟩
set_option maxRecDepth 100000 in
set_option maxHeartbeats 2000000 in
theorem spec_gInv (gr : GroupD) (x : Int) (w : World) (hg : OkG gr) (hx : Small x) :
    Calls Try.prog 311 #[.agg #[.int .i64 gr.p, .int .i64 gr.q, .int .i64 gr.g], .int .i64 x] w fun e w' => e = .returned (.int .i64 (powE gr x (-1))) ∧ Below w.heap.size w w' := by
  have HG := Lib.hid hg
  have hg1 := hg.g1
  have hg2 := hg.g2
  have hp1 := hg.p1
  have hp2 := hg.p2
  have hq1 := hg.q1
  have hq2 := hg.q2
  clear hg
  obtain ⟨hx1, hx2⟩ := hx
  have hw1 : IntKind.i64.wrap (gr.q - 1) = gr.q - 1 := IntWalk.i64_in _ (by omega)
  have HEQ : Hid (powE gr x (-1) = powM x (gr.q - 1) gr.p) := by unfold Hid powE; rw [show (-1 : Int) % gr.q = gr.q - 1 from by rw [show (-1 : Int) = (gr.q - 1) - gr.q by omega, Int.sub_emod, Int.emod_self, Int.sub_zero, Int.emod_emod, Int.emod_eq_of_lt (by omega) (by omega)]]
  rw [HEQ.out]
  obtain ⟨W, hW⟩ : ∃ W, W = w.alloc (.cells #[.int .i64 gr.p, .int .i64 gr.q, .int .i64 gr.g] 39) := ⟨_, rfl⟩
  have HB : Hid (Below w.heap.size w W) := by unfold Hid; rw [hW]; (repeat (first | exact Below.refl _ _ | assumption | refine Below.drew ?_ | refine Below.alloc ?_ (by first | (simp; done) | (simp; omega)) _ | refine Below.setCell ?_ (by first | (simp; done) | (simp; omega)) _))
  have c0_0 : W.cell? ⟨w.heap.size, 0, none⟩ = some (.int .i64 gr.p) := by rw [hW]; simp [go_sem]
  have c0_1 : W.cell? ⟨w.heap.size, 1, none⟩ = some (.int .i64 gr.q) := by rw [hW]; simp [go_sem]
  have c0_2 : W.cell? ⟨w.heap.size, 2, none⟩ = some (.int .i64 gr.g) := by rw [hW]; simp [go_sem]
  have HSW : Hid (W.heap.size = w.heap.size + 1) := by unfold Hid; rw [hW]; simp
  go_enter Try.func311, Try.ntmps311
  go_wp2_with fail
  rw [← hW]
  clear hW
  have hc : Below W.heap.size W W := Below.refl _ _
  go_wp2_with fail
  refine (spec_nPower x (gr.q - 1) gr.p _ ⟨by omega, by omega⟩ ⟨by omega, by omega⟩ ⟨by omega, by omega⟩).mono ?_
  rintro e u1 ⟨rfl, rfl⟩
  go_wp2_with fail
  go_ret
  exact ⟨rfl, HB.out.trans (hc.mono HB.out.size)⟩
end Go.Proofs.Ytboahnklilmdpaa
