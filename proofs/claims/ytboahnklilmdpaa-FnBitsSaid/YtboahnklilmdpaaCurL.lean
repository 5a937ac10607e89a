/- Draws of digests and leaves. -/
import Derived.Test.YtboahnklilmdpaaCur
import Derived.Test.YtboahnklilmdpaaBa
namespace Go.Proofs.Ytboahnklilmdpaa
open Go.RowKit
set_option linter.unusedSimpArgs false
set_option linter.unusedVariables false

theorem OwnI.within {w w' : World} {B g : Nat} {v : Value} {l : List Int} (h : OwnI w B v l) (hw : Within g (g + 1) w w') (hg : g < B) : OwnI w' B v l := (InI.kept (InI.of_own h) hw (.inr (by omega))).1
theorem Within.belowStep {lo hi : Nat} {w w1 w2 : World} (h : Within lo hi w w1) (hb : Below w.heap.size w1 w2) : Within lo hi w w2 :=
  ⟨hb.os.trans h.os, hb.tape.trans h.tape, hb.output.trans h.output, Nat.le_trans h.size hb.size, fun k hk hr => (hb.block k hk).trans (h.block k hk hr)⟩
theorem Cur.belowB {w0 w w' : World} {g B : Nat} {n : Int} (h : Cur w0 w g n) (hb : Below B w w') (hg : g < B) : Cur w0 w' g n := by
  obtain ⟨h1, v, p, s, hB, h2⟩ := h
  exact ⟨h1, v, p, s, (hb.block g hg).trans hB, h2⟩
theorem lit_I64 {l : List Int} (h : (l.all fun x => decide (-9223372036854775808 ≤ x ∧ x ≤ 9223372036854775807)) = true) : AllI64 l := fun x hx => by
  have := List.all_eq_true.1 h x hx; simpa [I64] using this
theorem digest_I64' {x : Int} (h : 0 ≤ x ∧ x ≤ 4611686018427387903) : I64 x := ⟨by omega, by omega⟩
theorem sl_dropU {a : Option Addr} {n c : Nat} {x : Int} {k : Nat} (hx : x = k) (hk : k ≤ n) :
    ∃ a', (∀ W, (Instr.slice 24 (.slice a n c) (some (.int .i64 x)) none none).run Try.prog W = .ok (.slice a' (n - k) (c - k)) W) ∧ ∀ u l, Ints u (.slice a n c) l → Ints u (.slice a' (n - k) (c - k)) (l.drop k) := by
  subst hx
  refine ⟨_, fun W => ?_, fun u l h => h.drop hk⟩
  simp [Try.underlying24, go_sem, hk, run_slice_l, run_underlying]
theorem own_zeros (w : World) (m : Nat) (h : m ≤ 1000000000) : OwnI (w.alloc (.cells (madeCells #[.int .i64 0] m) 3)) w.heap.size (.slice (some ⟨w.heap.size, 0, none⟩) m m) (List.replicate m 0) := by
  refine OwnI.lit w (Nat.le_refl _) ?_ ?_ ?_ m ?_
  · intro x hx; rw [List.eq_of_mem_replicate hx]; exact ⟨by decide, by decide⟩
  · rw [← Array.toList_inj, toList_madeCells_one]; simp
  · simp; unfold maxLen; omega
  · simp
end Go.Proofs.Ytboahnklilmdpaa
