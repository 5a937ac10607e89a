/- Proofs in memory (printed by gen_sum1.py). -/
import Derived.Test.YtboahnklilmdpaaOpL
namespace Go.Proofs.Ytboahnklilmdpaa
open Go.RowKit
set_option linter.unusedSimpArgs false
set_option linter.unusedVariables false

/-- a proof in memory -/
def PfR (w : World) (v : Value) (d : ProofD) : Prop := ∃ a b c, v = .agg #[a, b, c] ∧ Ints w a d.c ∧ Ints w b d.h ∧ Ints w c d.r
theorem PfR.below {w w' : World} {v : Value} {d : ProofD} (h : PfR w v d) (hb : Below w.heap.size w w') : PfR w' v d := by
  obtain ⟨a, b, c, e, h1, h2, h3⟩ := h; exact ⟨a, b, c, e, h1.below hb, h2.below hb, h3.below hb⟩
theorem PfR.mk {w : World} {a b c : Value} {d : ProofD} (h1 : Ints w a d.c) (h2 : Ints w b d.h) (h3 : Ints w c d.r) : PfR w (.agg #[a, b, c]) d := ⟨a, b, c, rfl, h1, h2, h3⟩
/-- a proof in new memory and a Bool are returned -/
def RetP (e : Ending) (w : World) (B : Nat) (b : Bool) (d : ProofD) : Prop := ∃ x y z, e = .returned (.tuple #[.agg #[x, y, z], .bool b]) ∧ OwnI w B x d.c ∧ OwnI w B y d.h ∧ OwnI w B z d.r
theorem RetP.mk {w : World} {B : Nat} {x y z : Value} {b : Bool} {d : ProofD} (h1 : OwnI w B x d.c) (h2 : OwnI w B y d.h) (h3 : OwnI w B z d.r) : RetP (.returned (.tuple #[.agg #[x, y, z], .bool b])) w B b d := ⟨x, y, z, rfl, h1, h2, h3⟩
theorem OwnI.shapeN {w : World} {B n : Nat} {v : Value} {l : List Int} (h : OwnI w B v l) (hn : l.length = n) : ∃ a c, v = .slice a n c := by subst hn; exact h.shape
theorem OwnI.oth {w : World} {B b : Nat} {v : Value} {l : List Int} (h : OwnI w B v l) (hb : b < B) (j : Nat) (x : Value) : OwnI (w.setCell ⟨b, j, none⟩ x) B v l :=
  h.kept (grownBy_setCell _ b j x) (.inr fun e => by have := (h.lt _ e).1; omega)
theorem coM_small {gr : GroupD} (hg : OkG gr) (h m r : Int) : Small (coM gr h m r) := mulL_small hg _
theorem mul_bnd {a b : Int} (h1 : 0 ≤ a) (h2 : a ≤ 2000000000) (h3 : 0 ≤ b) (h4 : b ≤ 2000000000) : 0 ≤ a * b ∧ a * b ≤ 4000000000000000000 :=
  ⟨Int.mul_nonneg h1 h3, Int.le_trans (Int.mul_le_mul h2 h4 h3 (by omega)) (by decide)⟩
theorem all_two {f : Int → Bool} {l : List Int} (h : l.length = 2) (ha : l.all f = true) : f (nth l 0) = true ∧ f (nth l 1) = true := by
  rw [list_two h] at ha
  simpa using ha
theorem all_one {f : Int → Bool} {l : List Int} (h : l.length = 1) (ha : l.all f = true) : f (nth l 0) = true := by
  rw [list_one h] at ha
  simpa using ha
theorem nth_64 {w : World} {v : Value} {l : List Int} (h : Ints w v l) (i : Nat) : I64 (nth l i) := by
  by_cases hi : i < l.length
  · have e : nth l i = l[i] := by simp [nth, List.getD, hi]
    rw [e]; exact h.all _ (List.getElem_mem _)
  · have e : nth l i = 0 := by simp [nth, List.getD, Nat.not_lt.1 hi]
    rw [e]; exact ⟨by decide, by decide⟩
theorem fmB_parts {gr : GroupD} {d : ProofD} {a b c : Nat} (h : fmB gr d a b c = true) : d.c.length = a ∧ d.h.length = b ∧ d.r.length = c ∧ d.c.all (elB gr) = true ∧ d.h.all (expB gr) = true ∧ d.r.all (expB gr) = true := by
  unfold fmB at h
  simp only [Bool.and_eq_true, decide_eq_true_iff] at h
  exact ⟨h.1, h.2.1, h.2.2.1, h.2.2.2.1, h.2.2.2.2.1, h.2.2.2.2.2⟩
end Go.Proofs.Ytboahnklilmdpaa
