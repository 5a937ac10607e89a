/- Common ground: the tools that the walks use. -/
import Derived.Test.YtapfceghgkmgoaaRows
import Derived.WalkKit
import Derived.WalkSpells
import Derived.WalkLawsBesides
import Derived.Deep.QuietTactic
import Derived.BigQuiet
import Derived.BigGuardPart
import Derived.Deep.RegionHeld3
import Derived.Deep.LoopGhost
import Derived.Deep.OwnRows
import Derived.Lib.Hide
namespace Go.Proofs.Ytapfceghgkmgoaa
open Go.RowKit

theorem ret_congr {v v' : Value} (h : v = v') : Ending.returned v = .returned v' := by rw [h]
theorem ret_bool {a b : Bool} (h : a = b) : Ending.returned (.bool a) = .returned (.bool b) := by rw [h]
theorem ret_int {k : IntKind} {a b : Int} (h : a = b) : Ending.returned (.int k a) = .returned (.int k b) := by rw [h]

theorem ret_int_bool {a a' : Int} {b b' : Bool} (h : a = a') (h' : b = b') : Ending.returned (.tuple #[.int .i64 a, .bool b]) = .returned (.tuple #[.int .i64 a', .bool b']) := by rw [h, h']

/-- old cells and old marks read as before -/
theorem bcell {B : Nat} {W w1 : World} (hb : Below B W w1) : (∀ b o, b < B → w1.cell? ⟨b, o, none⟩ = W.cell? ⟨b, o, none⟩) ∧ (∀ b o, b < B → w1.frozen? ⟨b, o, none⟩ = W.frozen? ⟨b, o, none⟩) :=
  ⟨fun b o h => hb.cell (p := ⟨b, o, none⟩) h, fun b o h => hb.frozen (p := ⟨b, o, none⟩) h⟩

/-- a product within bounds -/
theorem mul_bd {a b A B : Int} (ha : 0 ≤ a) (hA : a ≤ A) (hb : 0 ≤ b) (hB : b ≤ B) : 0 ≤ a * b ∧ a * b ≤ A * B :=
  ⟨Int.mul_nonneg ha hb, Int.mul_le_mul hA hB hb (Int.le_trans ha hA)⟩

/-- what a drawn region of reads and calls keeps: all that was there -/
theorem keep_b {w wa w' : World} (hb : Below wa.heap.size wa w') (h : Below w.heap.size w wa) : Below w.heap.size w w' := h.trans (hb.mono h.size)

/-- what a drawn region keeps: the one block B (a box), and all below it -/
theorem keep_call {B : Nat} {w1 wa w' : World} (hB : B < w1.heap.size) (hS : Below (B + 1) w1 wa ∧ ∀ o, wa.cell? ⟨B, o, none⟩ = w1.cell? ⟨B, o, none⟩) (hb : Below wa.heap.size wa w') :
    Below (B + 1) w1 w' ∧ ∀ o, w'.cell? ⟨B, o, none⟩ = w1.cell? ⟨B, o, none⟩ := by
  have h1 := hS.1.size
  exact ⟨hS.1.trans (hb.mono (by omega)), fun o => (hb.cell (p := ⟨B, o, none⟩) (by simp; omega)).trans (hS.2 o)⟩

/-- u, if it has grown from w (all that was there is as it was), else w: a class of worlds as a function, so that the walk of a region in the order of the text (Derived/Deep/Quiet.lean) serves callees that make memory -/
noncomputable def grow (w u : World) : World := @ite _ (Below w.heap.size w u) (Classical.propDecidable _) u w
theorem grow_below (w u : World) : Below w.heap.size w (grow w u) := by
  unfold grow
  split
  · assumption
  · exact Below.refl _ _
theorem grow_eq {w u : World} (h : Below w.heap.size w u) : grow w u = u := by unfold grow; rw [if_pos h]
theorem grow_cell {w : World} {a : Addr} {v : Value} (h : w.cell? a = some v) (u : World) : (grow w u).cell? a = some v := ((grow_below w u).cell (World.block_lt_of_cell? w a h)).trans h
theorem wp_region_grow {P : Program} {id : Nat} {Q : Exit → Act → World → Prop} {a : Act} {w : World} {l : List Oper} (hm : P.follows .mixedOrders = true) (hB : Region.lexB .any l.toArray = true)
    (h : wpQuiet P l.toArray (fun w' => ∃ n, w' = grow w n) (fun a' => ∀ w', (∃ n, w' = grow w n) → Q .normal a' w') l a) : (Code.region id l.toArray true).wp P Q a w :=
  wp_region_quiet (C := fun w' => ∃ n, w' = grow w n) hm hB ⟨w.drew, (grow_eq (Below.refl _ _).drew).symm⟩ (by simpa using h)
/-- a callee's contract inside such a region -/
theorem calls_grow {P : Program} {f : FuncId} {args : Array Value} {w u : World} {v : Value} {post : Ending → World → Prop} (h : Calls P f args (grow w u) post)
    (hp : ∀ e w', post e w' → e = .returned v ∧ Below (grow w u).heap.size (grow w u) w') : Calls P f args (grow w u) fun e w' => e = .returned v ∧ ∃ m, w' = grow w m :=
  h.mono fun e w' hh => ⟨(hp e w' hh).1, w', (grow_eq ((grow_below w u).trans ((hp e w' hh).2.mono (grow_below w u).size))).symm⟩

end Go.Proofs.Ytapfceghgkmgoaa
