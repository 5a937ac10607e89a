/- Merkle trees as functions on lists: plain Lean. -/
import Derived.Test.YtapfceghgkmgoaaSlices
import Derived.Test.YtapfceghgkmgoaaHash
import Derived.Lib.BitFns
namespace Go.Proofs.Ytapfceghgkmgoaa
open Go.RowKit

/-- the greatest power of 2 that is less than a number of at least 2 -/
def splitN (n : Nat) : Nat := 2 ^ (Lib.bitLen (n - 1) - 1)
theorem splitN_bd : ∀ n, n < 66 → 2 ≤ n → 1 ≤ splitN n ∧ splitN n < n ∧ n ≤ 2 * splitN n := by decide +kernel
theorem bitLen_bd : ∀ n, 1 ≤ n → n < 65 → 1 ≤ Lib.bitLen n ∧ Lib.bitLen n ≤ 7 := by
  intro n h1 h2
  have : ∀ m, m < 65 → 1 ≤ m → 1 ≤ Lib.bitLen m ∧ Lib.bitLen m ≤ 7 := by decide +kernel
  exact this n h2 h1
theorem splitN_of : ∀ n, n < 66 → ∀ j, j < 7 → (j = 0 ∨ 2 ^ j < n) → ¬ 2 * 2 ^ j < n → splitN n = 2 ^ j := by decide +kernel
def sNode : ByteArray := ⟨#[110, 111, 100, 101]⟩
def sEmpty : ByteArray := ⟨#[101, 109, 112, 116, 121]⟩
/-- the digest of a node -/
def node (a b : Int) : Int := hashOf (lab sNode ++ [a, b])
def emptyD : Int := hashOf (lab sEmpty ++ [])
/-- the root of leaves -/
def rootN : Nat → List Int → Int
  | 0, _ => 0
  | f + 1, l => if l.length = 0 then emptyD else if l.length = 1 then nth l 0 else node (rootN f (l.take (splitN l.length))) (rootN f (l.drop (splitN l.length)))
def root (l : List Int) : Int := rootN 65 l

theorem digestB_hash (l : List Int) : digestB (hashOf l) = true := by have := hashOf_bd l; simp [digestB, this.1, this.2]
theorem digestB_node (a b : Int) : digestB (node a b) = true := digestB_hash _
theorem rootN_digest {f : Nat} : ∀ {l : List Int}, l.all digestB = true → digestB (rootN f l) = true := by
  induction f with
  | zero => intro l _; rfl
  | succ f ih =>
    intro l h
    unfold rootN
    split
    · exact digestB_hash _
    · split
      · rename_i h0 h1
        rw [nth_eq (by omega)]
        exact List.all_eq_true.1 h _ (List.getElem_mem _)
      · exact digestB_node _ _
theorem rootN_fuel {f : Nat} : ∀ {f' : Nat} {l : List Int}, l.length < f → l.length < f' → l.length ≤ 64 → rootN f l = rootN f' l := by
  induction f with
  | zero => intro f' l h; omega
  | succ f ih =>
    intro f' l h h' hl
    cases f' with
    | zero => omega
    | succ f' =>
      unfold rootN
      by_cases h0 : l.length = 0
      · rw [if_pos h0, if_pos h0]
      · rw [if_neg h0, if_neg h0]
        by_cases h1 : l.length = 1
        · rw [if_pos h1, if_pos h1]
        · rw [if_neg h1, if_neg h1]
          obtain ⟨s1, s2, s3⟩ := splitN_bd l.length (by omega) (by omega)
          rw [ih (f' := f') (by simp; omega) (by simp; omega) (by simp; omega), ih (f' := f') (by simp; omega) (by simp; omega) (by simp; omega)]
theorem root_two {l : List Int} (h : 2 ≤ l.length) (hl : l.length ≤ 64) : root l = node (root (l.take (splitN l.length))) (root (l.drop (splitN l.length))) := by
  obtain ⟨s1, s2, s3⟩ := splitN_bd l.length (by omega) h
  have e : root l = node (rootN 64 (l.take (splitN l.length))) (rootN 64 (l.drop (splitN l.length))) := by
    show rootN (64 + 1) l = _
    rw [rootN, if_neg (by omega), if_neg (by omega)]
  rw [e, rootN_fuel (f := 64) (f' := 65) (by simp; omega) (by simp; omega) (by simp; omega), rootN_fuel (f := 64) (f' := 65) (by simp; omega) (by simp; omega) (by simp; omega)]
  rfl
theorem root_one {l : List Int} (h : l.length = 1) : root l = nth l 0 := by unfold root rootN; rw [if_neg (by omega), if_pos h]
theorem root_none {l : List Int} (h : l.length = 0) : root l = emptyD := by unfold root rootN; rw [if_pos h]
theorem root_digest {l : List Int} (h : l.all digestB = true) : digestB (root l) = true := rootN_digest h
theorem all_take {l : List Int} (h : l.all digestB = true) (k : Nat) : (l.take k).all digestB = true :=
  List.all_eq_true.2 fun x hx => List.all_eq_true.1 h x (List.mem_of_mem_take hx)
theorem all_drop {l : List Int} (h : l.all digestB = true) (k : Nat) : (l.drop k).all digestB = true :=
  List.all_eq_true.2 fun x hx => List.all_eq_true.1 h x (List.mem_of_mem_drop hx)
/-- the root of a frontier, folded from its end down to the place j -/
def frTo (l : List Int) (j : Nat) : Int := ((l.take (l.length - 1)).drop j).foldr node (nth l (l.length - 1))
def frRoot (l : List Int) : Int := if l.length = 0 then emptyD else frTo l 0
def frB (l : List Int) : Bool := decide (l.length ≤ 7) && l.all digestB
def frI (l : List Int) : Int := if frB l = true then frRoot l else 0
theorem frTo_last (l : List Int) : frTo l (l.length - 1) = nth l (l.length - 1) := by
  unfold frTo; rw [List.drop_of_length_le (by simp)]; rfl
theorem frTo_succ {l : List Int} {j : Nat} (h : j < l.length - 1) : frTo l j = node (nth l j) (frTo l (j + 1)) := by
  unfold frTo
  have hj : j < (l.take (l.length - 1)).length := by simp; omega
  rw [List.drop_eq_getElem_cons hj, List.foldr_cons]
  congr 1
  rw [nth_eq (by omega)]; simp
theorem frTo_digest {l : List Int} (h : l.all digestB = true) (hl : 0 < l.length) (j : Nat) : digestB (frTo l j) = true := by
  unfold frTo
  generalize (l.take (l.length - 1)).drop j = m
  cases m with
  | nil => simp only [List.foldr_nil]; rw [nth_eq (by omega)]; exact List.all_eq_true.1 h _ (List.getElem_mem _)
  | cons x m => exact digestB_node _ _
theorem nth_digest {l : List Int} (h : l.all digestB = true) (j : Nat) : digestB (nth l j) = true := by
  by_cases hj : j < l.length
  · rw [nth_eq hj]; exact List.all_eq_true.1 h _ (List.getElem_mem _)
  · have : nth l j = 0 := by simp [nth, List.getD, Nat.le_of_not_lt hj]
    rw [this]; rfl

/-- the number of binary digits 1 -/
def onesF : Nat → Nat → Nat
  | 0, _ => 0
  | f + 1, n => n % 2 + onesF f (n / 2)
def ones (n : Nat) : Nat := onesF 7 n
end Go.Proofs.Ytapfceghgkmgoaa
