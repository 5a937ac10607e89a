/- Walks: VerifyConsistency (printed by gen_merkle4.py). -/
import Derived.Test.YtapfceghgkmgoaaMerkle3
namespace Go.Proofs.Ytapfceghgkmgoaa
open Go.RowKit
set_option linter.unusedSimpArgs false
set_option linter.unusedVariables false

/-- both roots that result from a path, and whether it has the right length -/
def bothN : Nat → Nat → Nat → Int → Bool → List Int → Int × Int × Bool
  | 0, _, _, _, _, _ => (0, 0, false)
  | f + 1, m, n, x, b, l =>
    if m = n then (if b = true then (x, x, decide (l.length = 0)) else if l.length = 1 then (nth l 0, nth l 0, true) else (0, 0, false))
    else if l.length = 0 then (0, 0, false)
    else if m ≤ splitN n then
      ((bothN f m (splitN n) x b (l.take (l.length - 1))).1, node (bothN f m (splitN n) x b (l.take (l.length - 1))).2.1 (nth l (l.length - 1)), (bothN f m (splitN n) x b (l.take (l.length - 1))).2.2)
    else
      (node (nth l (l.length - 1)) (bothN f (m - splitN n) (n - splitN n) x false (l.take (l.length - 1))).1, node (nth l (l.length - 1)) (bothN f (m - splitN n) (n - splitN n) x false (l.take (l.length - 1))).2.1, (bothN f (m - splitN n) (n - splitN n) x false (l.take (l.length - 1))).2.2)
theorem bothN_digest {f : Nat} : ∀ {m n : Nat} {x : Int} {b : Bool} {l : List Int}, digestB x = true → l.all digestB = true →
    digestB (bothN f m n x b l).1 = true ∧ digestB (bothN f m n x b l).2.1 = true := by
  induction f with
  | zero => intro m n x b l _ _; exact ⟨rfl, rfl⟩
  | succ f ih =>
    intro m n x b l hx hl
    unfold bothN
    split
    · split
      · exact ⟨hx, hx⟩
      · split
        · exact ⟨nth_digest hl _, nth_digest hl _⟩
        · exact ⟨rfl, rfl⟩
    · split
      · exact ⟨rfl, rfl⟩
      · split
        · exact ⟨(ih hx (all_take hl _)).1, digestB_node _ _⟩
        · exact ⟨digestB_node _ _, digestB_node _ _⟩
theorem keep_c {w wa w' : World} {b o : Nat} {x : Value} (hS : Below w.heap.size w wa ∧ wa.cell? ⟨b, o, none⟩ = some x) (hb : Below wa.heap.size wa w') :
    Below w.heap.size w w' ∧ w'.cell? ⟨b, o, none⟩ = some x :=
  ⟨keep_b hb hS.1, (hb.cell (p := ⟨b, o, none⟩) (World.block_lt_of_cell? wa _ hS.2)).trans hS.2⟩
theorem ret_iib {a a' b b' : Int} {c c' : Bool} (h1 : a = a') (h2 : b = b') (h3 : c = c') : Ending.returned (.tuple #[.int .i64 a, .int .i64 b, .bool c]) = .returned (.tuple #[.int .i64 a', .int .i64 b', .bool c']) := by rw [h1, h2, h3]
/-- VerifyConsistency -/
def vcB (m n x y : Int) (l : List Int) : Bool := decide (1 ≤ n ∧ n ≤ 64) && (decide (1 ≤ m ∧ m ≤ n) && (digestB x && (digestB y && l.all digestB)))
def vcR (m n x y : Int) (l : List Int) : Bool := vcB m n x y l && ((bothN 65 m.toNat n.toNat x true l).2.2 && (decide ((bothN 65 m.toNat n.toNat x true l).1 = x) && decide ((bothN 65 m.toNat n.toNat x true l).2.1 = y)))
end Go.Proofs.Ytapfceghgkmgoaa
