/- Common ground: the tools that the walks use. -/
import Derived.Test.YtlkhkoemfmjloaaRows
import Derived.WalkKit
import Derived.WalkSpells
import Derived.WalkLawsBesides
import Derived.Deep.QuietTactic
import Derived.BigQuiet
import Derived.BigGuardPart
import Derived.Deep.RegionHeld3
import Derived.Deep.LoopGhost
import Derived.Deep.OwnRows
import Derived.Lib.Hide
namespace Go.Proofs.Ytlkhkoemfmjloaa
open Go.RowKit

theorem ret_congr {v v' : Value} (h : v = v') : Ending.returned v = .returned v' := by rw [h]
theorem ret_bool {a b : Bool} (h : a = b) : Ending.returned (.bool a) = .returned (.bool b) := by rw [h]
theorem ret_int {k : IntKind} {a b : Int} (h : a = b) : Ending.returned (.int k a) = .returned (.int k b) := by rw [h]

theorem ret_int_bool {a a' : Int} {b b' : Bool} (h : a = a') (h' : b = b') : Ending.returned (.tuple #[.int .i64 a, .bool b]) = .returned (.tuple #[.int .i64 a', .bool b']) := by rw [h, h']

/-- old cells and old marks read as before -/
theorem bcell {B : Nat} {W w1 : World} (hb : Below B W w1) : (∀ b o, b < B → w1.cell? ⟨b, o, none⟩ = W.cell? ⟨b, o, none⟩) ∧ (∀ b o, b < B → w1.frozen? ⟨b, o, none⟩ = W.frozen? ⟨b, o, none⟩) :=
  ⟨fun b o h => hb.cell (p := ⟨b, o, none⟩) h, fun b o h => hb.frozen (p := ⟨b, o, none⟩) h⟩

/-- a product within bounds -/
theorem mul_bd {a b A B : Int} (ha : 0 ≤ a) (hA : a ≤ A) (hb : 0 ≤ b) (hB : b ≤ B) : 0 ≤ a * b ∧ a * b ≤ A * B :=
  ⟨Int.mul_nonneg ha hb, Int.mul_le_mul hA hB hb (Int.le_trans ha hA)⟩

/-- what a drawn region of reads and calls keeps: all that was there -/
theorem keep_b {w wa w' : World} (hb : Below wa.heap.size wa w') (h : Below w.heap.size w wa) : Below w.heap.size w w' := h.trans (hb.mono h.size)

/-- what a drawn region keeps: the one block B (a box), and all below it -/
theorem keep_call {B : Nat} {w1 wa w' : World} (hB : B < w1.heap.size) (hS : Below (B + 1) w1 wa ∧ ∀ o, wa.cell? ⟨B, o, none⟩ = w1.cell? ⟨B, o, none⟩) (hb : Below wa.heap.size wa w') :
    Below (B + 1) w1 w' ∧ ∀ o, w'.cell? ⟨B, o, none⟩ = w1.cell? ⟨B, o, none⟩ := by
  have h1 := hS.1.size
  exact ⟨hS.1.trans (hb.mono (by omega)), fun o => (hb.cell (p := ⟨B, o, none⟩) (by simp; omega)).trans (hS.2 o)⟩

end Go.Proofs.Ytlkhkoemfmjloaa
