/- Walks: paths of Merkle trees (printed by gen_merkle2.py). -/
import Derived.Test.YtapfceghgkmgoaaMerkle
namespace Go.Proofs.Ytapfceghgkmgoaa
open Go.RowKit
set_option linter.unusedSimpArgs false
set_option linter.unusedVariables false

/-- append as a step of a region that draws its order -/
theorem step_append_ints {ops : Array Oper} {o : Oper} {a : Act} {w : World} {K : Act → World → Prop} {Q : Exit → Act → World → Prop} {E : Prop} (hg : o.guard = none) (s x : Operand)
    (ho : o.op = .call { callee := .builtin .append, args := #[s, x], argTypes := #[37, 37] })
    (B : Nat) (v y : Value) (l m : List Int) (hs : a.eval s = v) (hown : OwnI w B v l) (hx : a.eval x = y) (hy : Ints w y m) (hlen : l.length + m.length ≤ 1000000000000) (hB : B ≤ w.heap.size)
    (hK : ∀ v' w', OwnI w' B v' (l ++ m) → Below B w w' → K (a.put o.dst v') w') : if Region.wanted o (yielded ops a.tmps) = true then Oper.wp Try.prog o a w K Q else E := by
  rw [if_pos (by simp [Region.wanted, hg])]
  obtain ⟨v', w', hr, h1, h2⟩ := run_append_ints (t := 37) rfl hown hy hlen hB o.type
  unfold Oper.wp execOp
  simp only [ho, resolve, invoke, builtin, Sem.run_bind, Sem.run_pure, Result.andThen_ok, List.map_toArray, List.map_cons, List.map_nil, hs, hx, hr]
  exact hK v' w' h1 (hown.grown h2 hB)
theorem keep_t {B : Nat} {w wa w' : World} (hb : Below B wa w') (h : Below B w wa) : Below B w w' := h.trans hb
theorem keep_a {w wa : World} (h : Below w.heap.size w wa) (o : Obj) : Below w.heap.size w (wa.alloc o) := h.alloc h.size o
theorem digest_I64 {x : Int} (h : digestB x = true) : I64 x := by
  simp only [digestB, decide_eq_true_iff] at h; exact ⟨by omega, by omega⟩

/-- the path of a leaf -/
def pathN : Nat → List Int → Nat → List Int
  | 0, _, _ => []
  | f + 1, l, i => if l.length = 1 then [] else if i < splitN l.length then pathN f (l.take (splitN l.length)) i ++ [rootN 65 (l.drop (splitN l.length))] else pathN f (l.drop (splitN l.length)) (i - splitN l.length) ++ [rootN 65 (l.take (splitN l.length))]
theorem pathN_length {f : Nat} : ∀ {l : List Int} {i : Nat}, (pathN f l i).length ≤ f := by
  induction f with
  | zero => intro l i; exact Nat.le_refl _
  | succ f ih =>
    intro l i
    unfold pathN
    split
    · simp
    · split
      · simp; exact ih
      · simp; exact ih
/-- the proof that the first m leaves are the beginning -/
def consN : Nat → Nat → List Int → Bool → List Int
  | 0, _, _, _ => []
  | f + 1, m, l, b => if m = l.length then (if b = true then [] else [rootN 65 l]) else if m ≤ splitN l.length then consN f m (l.take (splitN l.length)) b ++ [rootN 65 (l.drop (splitN l.length))] else consN f (m - splitN l.length) (l.drop (splitN l.length)) false ++ [rootN 65 (l.take (splitN l.length))]
theorem consN_length {f : Nat} : ∀ {m : Nat} {l : List Int} {b : Bool}, (consN f m l b).length ≤ f := by
  induction f with
  | zero => intro m l b; exact Nat.le_refl _
  | succ f ih =>
    intro m l b
    unfold consN
    split
    · split <;> simp
    · split
      · simp; exact ih
      · simp; exact ih
end Go.Proofs.Ytapfceghgkmgoaa
