/- Bundle of walks and laws: MerkleP, Merkle, Merkle2, Merkle3, Merkle4, Sets, ReachP, Reach, Reach2, Entry. -/
import Derived.Test.YtbcaknmpbkapnaaBa
import Derived.Lib.BitFns
import Derived.Test.YtbcaknmpbkapnaaBitsLen
import Derived.Deep.QuietTactic
import Derived.BigQuiet
/- Merkle trees as functions on lists: plain Lean. -/



namespace Go.Proofs.Ytbcaknmpbkapnaa
open Go.RowKit

/-- the greatest power of 2 that is less than a number of at least 2 -/
def splitN (n : Nat) : Nat := 2 ^ (Lib.bitLen (n - 1) - 1)
theorem splitN_bd : ∀ n, n < 66 → 2 ≤ n → 1 ≤ splitN n ∧ splitN n < n ∧ n ≤ 2 * splitN n := by decide +kernel
theorem bitLen_bd : ∀ n, 1 ≤ n → n < 65 → 1 ≤ Lib.bitLen n ∧ Lib.bitLen n ≤ 7 := by
  intro n h1 h2
  have : ∀ m, m < 65 → 1 ≤ m → 1 ≤ Lib.bitLen m ∧ Lib.bitLen m ≤ 7 := by decide +kernel
  exact this n h2 h1
theorem splitN_of : ∀ n, n < 66 → ∀ j, j < 7 → (j = 0 ∨ 2 ^ j < n) → ¬ 2 * 2 ^ j < n → splitN n = 2 ^ j := by decide +kernel
def sNode : ByteArray := ⟨#[110, 111, 100, 101]⟩
def sEmpty : ByteArray := ⟨#[101, 109, 112, 116, 121]⟩
/-- the digest of a node -/
def node (a b : Int) : Int := hashOf (lab sNode ++ [a, b])
def emptyD : Int := hashOf (lab sEmpty ++ [])
/-- the root of leaves -/
def rootN : Nat → List Int → Int
  | 0, _ => 0
  | f + 1, l => if l.length = 0 then emptyD else if l.length = 1 then nth l 0 else node (rootN f (l.take (splitN l.length))) (rootN f (l.drop (splitN l.length)))
def root (l : List Int) : Int := rootN 65 l

theorem digestB_hash (l : List Int) : digestB (hashOf l) = true := by have := hashOf_bd l; simp [digestB, this.1, this.2]
theorem digestB_node (a b : Int) : digestB (node a b) = true := digestB_hash _
theorem rootN_digest {f : Nat} : ∀ {l : List Int}, l.all digestB = true → digestB (rootN f l) = true := by
  induction f with
  | zero => intro l _; rfl
  | succ f ih =>
    intro l h
    unfold rootN
    split
    · exact digestB_hash _
    · split
      · rename_i h0 h1
        rw [nth_eq (by omega)]
        exact List.all_eq_true.1 h _ (List.getElem_mem _)
      · exact digestB_node _ _
theorem rootN_fuel {f : Nat} : ∀ {f' : Nat} {l : List Int}, l.length < f → l.length < f' → l.length ≤ 64 → rootN f l = rootN f' l := by
  induction f with
  | zero => intro f' l h; omega
  | succ f ih =>
    intro f' l h h' hl
    cases f' with
    | zero => omega
    | succ f' =>
      unfold rootN
      by_cases h0 : l.length = 0
      · rw [if_pos h0, if_pos h0]
      · rw [if_neg h0, if_neg h0]
        by_cases h1 : l.length = 1
        · rw [if_pos h1, if_pos h1]
        · rw [if_neg h1, if_neg h1]
          obtain ⟨s1, s2, s3⟩ := splitN_bd l.length (by omega) (by omega)
          rw [ih (f' := f') (by simp; omega) (by simp; omega) (by simp; omega), ih (f' := f') (by simp; omega) (by simp; omega) (by simp; omega)]
theorem root_two {l : List Int} (h : 2 ≤ l.length) (hl : l.length ≤ 64) : root l = node (root (l.take (splitN l.length))) (root (l.drop (splitN l.length))) := by
  obtain ⟨s1, s2, s3⟩ := splitN_bd l.length (by omega) h
  have e : root l = node (rootN 64 (l.take (splitN l.length))) (rootN 64 (l.drop (splitN l.length))) := by
    show rootN (64 + 1) l = _
    rw [rootN, if_neg (by omega), if_neg (by omega)]
  rw [e, rootN_fuel (f := 64) (f' := 65) (by simp; omega) (by simp; omega) (by simp; omega), rootN_fuel (f := 64) (f' := 65) (by simp; omega) (by simp; omega) (by simp; omega)]
  rfl
theorem root_one {l : List Int} (h : l.length = 1) : root l = nth l 0 := by unfold root rootN; rw [if_neg (by omega), if_pos h]
theorem root_none {l : List Int} (h : l.length = 0) : root l = emptyD := by unfold root rootN; rw [if_pos h]
theorem root_digest {l : List Int} (h : l.all digestB = true) : digestB (root l) = true := rootN_digest h
theorem all_take {l : List Int} (h : l.all digestB = true) (k : Nat) : (l.take k).all digestB = true :=
  List.all_eq_true.2 fun x hx => List.all_eq_true.1 h x (List.mem_of_mem_take hx)
theorem all_drop {l : List Int} (h : l.all digestB = true) (k : Nat) : (l.drop k).all digestB = true :=
  List.all_eq_true.2 fun x hx => List.all_eq_true.1 h x (List.mem_of_mem_drop hx)
/-- the root of a frontier, folded from its end down to the place j -/
def frTo (l : List Int) (j : Nat) : Int := ((l.take (l.length - 1)).drop j).foldr node (nth l (l.length - 1))
def frRoot (l : List Int) : Int := if l.length = 0 then emptyD else frTo l 0
def frB (l : List Int) : Bool := decide (l.length ≤ 7) && l.all digestB
def frI (l : List Int) : Int := if frB l = true then frRoot l else 0
theorem frTo_last (l : List Int) : frTo l (l.length - 1) = nth l (l.length - 1) := by
  unfold frTo; rw [List.drop_of_length_le (by simp)]; rfl
theorem frTo_succ {l : List Int} {j : Nat} (h : j < l.length - 1) : frTo l j = node (nth l j) (frTo l (j + 1)) := by
  unfold frTo
  have hj : j < (l.take (l.length - 1)).length := by simp; omega
  rw [List.drop_eq_getElem_cons hj, List.foldr_cons]
  congr 1
  rw [nth_eq (by omega)]; simp
theorem frTo_digest {l : List Int} (h : l.all digestB = true) (hl : 0 < l.length) (j : Nat) : digestB (frTo l j) = true := by
  unfold frTo
  generalize (l.take (l.length - 1)).drop j = m
  cases m with
  | nil => simp only [List.foldr_nil]; rw [nth_eq (by omega)]; exact List.all_eq_true.1 h _ (List.getElem_mem _)
  | cons x m => exact digestB_node _ _
theorem nth_digest {l : List Int} (h : l.all digestB = true) (j : Nat) : digestB (nth l j) = true := by
  by_cases hj : j < l.length
  · rw [nth_eq hj]; exact List.all_eq_true.1 h _ (List.getElem_mem _)
  · have : nth l j = 0 := by simp [nth, List.getD, Nat.le_of_not_lt hj]
    rw [this]; rfl

/-- the number of binary digits 1 -/
def onesF : Nat → Nat → Nat
  | 0, _ => 0
  | f + 1, n => n % 2 + onesF f (n / 2)
def ones (n : Nat) : Nat := onesF 7 n
end Go.Proofs.Ytbcaknmpbkapnaa
/- Walks: Merkle trees. -/


namespace Go.Proofs.Ytbcaknmpbkapnaa
open Go.RowKit
set_option linter.unusedSimpArgs false
set_option linter.unusedVariables false

theorem node_ok {a b : Int} (ha : digestB a = true) (hb : digestB b = true) : labelledB sNode [a, b] = true ∧ labelledI sNode [a, b] = node a b := by
  have h : labelledB sNode [a, b] = true := by
    unfold labelledB hashable
    rw [List.all_append, List.length_append, lab_length, lab_all _ (by decide)]
    simp [ha, hb]; decide
  refine ⟨h, ?_⟩
  unfold labelledI
  rw [if_pos h]; rfl
theorem empty_ok : labelledB sEmpty [] = true ∧ labelledI sEmpty [] = emptyD := by
  have h : labelledB sEmpty [] = true := by decide +kernel
  exact ⟨h, by unfold labelledI; rw [if_pos h]; rfl⟩
end Go.Proofs.Ytbcaknmpbkapnaa
/- Walks: paths of Merkle trees (printed by gen_merkle2.py). -/

namespace Go.Proofs.Ytbcaknmpbkapnaa
open Go.RowKit
set_option linter.unusedSimpArgs false
set_option linter.unusedVariables false

/-- append as a step of a region that draws its order -/
theorem step_append_ints {ops : Array Oper} {o : Oper} {a : Act} {w : World} {K : Act → World → Prop} {Q : Exit → Act → World → Prop} {E : Prop} (hg : o.guard = none) (s x : Operand)
    (ho : o.op = .call { callee := .builtin .append, args := #[s, x], argTypes := #[22, 22] })
    (B : Nat) (v y : Value) (l m : List Int) (hs : a.eval s = v) (hown : OwnI w B v l) (hx : a.eval x = y) (hy : Ints w y m) (hlen : l.length + m.length ≤ 1000000000000) (hB : B ≤ w.heap.size)
    (hK : ∀ v' w', OwnI w' B v' (l ++ m) → Below B w w' → K (a.put o.dst v') w') : if Region.wanted o (yielded ops a.tmps) = true then Oper.wp Try.prog o a w K Q else E := by
  rw [if_pos (by simp [Region.wanted, hg])]
  obtain ⟨v', w', hr, h1, h2⟩ := run_append_ints (t := 22) rfl hown hy hlen hB o.type
  unfold Oper.wp execOp
  simp only [ho, resolve, invoke, builtin, Sem.run_bind, Sem.run_pure, Result.andThen_ok, List.map_toArray, List.map_cons, List.map_nil, hs, hx, hr]
  exact hK v' w' h1 (hown.grown h2 hB)
theorem keep_t {B : Nat} {w wa w' : World} (hb : Below B wa w') (h : Below B w wa) : Below B w w' := h.trans hb
theorem keep_a {w wa : World} (h : Below w.heap.size w wa) (o : Obj) : Below w.heap.size w (wa.alloc o) := h.alloc h.size o
theorem digest_I64 {x : Int} (h : digestB x = true) : I64 x := by
  simp only [digestB, decide_eq_true_iff] at h; exact ⟨by omega, by omega⟩

/-- the path of a leaf -/
def pathN : Nat → List Int → Nat → List Int
  | 0, _, _ => []
  | f + 1, l, i => if l.length = 1 then [] else if i < splitN l.length then pathN f (l.take (splitN l.length)) i ++ [rootN 65 (l.drop (splitN l.length))] else pathN f (l.drop (splitN l.length)) (i - splitN l.length) ++ [rootN 65 (l.take (splitN l.length))]
theorem pathN_length {f : Nat} : ∀ {l : List Int} {i : Nat}, (pathN f l i).length ≤ f := by
  induction f with
  | zero => intro l i; exact Nat.le_refl _
  | succ f ih =>
    intro l i
    unfold pathN
    split
    · simp
    · split
      · simp; exact ih
      · simp; exact ih
/-- the proof that the first m leaves are the beginning -/
def consN : Nat → Nat → List Int → Bool → List Int
  | 0, _, _, _ => []
  | f + 1, m, l, b => if m = l.length then (if b = true then [] else [rootN 65 l]) else if m ≤ splitN l.length then consN f m (l.take (splitN l.length)) b ++ [rootN 65 (l.drop (splitN l.length))] else consN f (m - splitN l.length) (l.drop (splitN l.length)) false ++ [rootN 65 (l.take (splitN l.length))]
theorem consN_length {f : Nat} : ∀ {m : Nat} {l : List Int} {b : Bool}, (consN f m l b).length ≤ f := by
  induction f with
  | zero => intro m l b; exact Nat.le_refl _
  | succ f ih =>
    intro m l b
    unfold consN
    split
    · split <;> simp
    · split
      · simp; exact ih
      · simp; exact ih
end Go.Proofs.Ytbcaknmpbkapnaa
/- Walks: InclusionPath and ConsistencyPath (printed by gen_merkle3.py). -/

namespace Go.Proofs.Ytbcaknmpbkapnaa
open Go.RowKit
set_option linter.unusedSimpArgs false
set_option linter.unusedVariables false

/-- leaves -/
def goodL (l : List Int) : Bool := decide (l.length ≤ 64) && l.all digestB
theorem goodL_yes {l : List Int} (h : goodL l = true) : l.length ≤ 64 ∧ l.all digestB = true := by
  unfold goodL at h; rw [Bool.and_eq_true, decide_eq_true_iff] at h; exact h
def incB (l : List Int) (i : Int) : Bool := goodL l && decide (0 ≤ i ∧ i ≤ (l.length : Int) - 1)
def incL (l : List Int) (i : Int) : List Int := if incB l i = true then pathN 65 l i.toNat else []
theorem incL_length (l : List Int) (i : Int) : (incL l i).length ≤ 65 := by
  unfold incL; split
  · exact pathN_length
  · simp
def conB (l : List Int) (m : Int) : Bool := goodL l && decide (1 ≤ m ∧ m ≤ (l.length : Int))
def conL (l : List Int) (m : Int) : List Int := if conB l m = true then consN 65 m.toNat l true else []
theorem conL_length (l : List Int) (m : Int) : (conL l m).length ≤ 65 := by
  unfold conL; split
  · exact consN_length
  · simp
end Go.Proofs.Ytbcaknmpbkapnaa
/- Walks: VerifyConsistency (printed by gen_merkle4.py). -/

namespace Go.Proofs.Ytbcaknmpbkapnaa
open Go.RowKit
set_option linter.unusedSimpArgs false
set_option linter.unusedVariables false

/-- both roots that result from a path, and whether it has the right length -/
def bothN : Nat → Nat → Nat → Int → Bool → List Int → Int × Int × Bool
  | 0, _, _, _, _, _ => (0, 0, false)
  | f + 1, m, n, x, b, l =>
    if m = n then (if b = true then (x, x, decide (l.length = 0)) else if l.length = 1 then (nth l 0, nth l 0, true) else (0, 0, false))
    else if l.length = 0 then (0, 0, false)
    else if m ≤ splitN n then
      ((bothN f m (splitN n) x b (l.take (l.length - 1))).1, node (bothN f m (splitN n) x b (l.take (l.length - 1))).2.1 (nth l (l.length - 1)), (bothN f m (splitN n) x b (l.take (l.length - 1))).2.2)
    else
      (node (nth l (l.length - 1)) (bothN f (m - splitN n) (n - splitN n) x false (l.take (l.length - 1))).1, node (nth l (l.length - 1)) (bothN f (m - splitN n) (n - splitN n) x false (l.take (l.length - 1))).2.1, (bothN f (m - splitN n) (n - splitN n) x false (l.take (l.length - 1))).2.2)
theorem bothN_digest {f : Nat} : ∀ {m n : Nat} {x : Int} {b : Bool} {l : List Int}, digestB x = true → l.all digestB = true →
    digestB (bothN f m n x b l).1 = true ∧ digestB (bothN f m n x b l).2.1 = true := by
  induction f with
  | zero => intro m n x b l _ _; exact ⟨rfl, rfl⟩
  | succ f ih =>
    intro m n x b l hx hl
    unfold bothN
    split
    · split
      · exact ⟨hx, hx⟩
      · split
        · exact ⟨nth_digest hl _, nth_digest hl _⟩
        · exact ⟨rfl, rfl⟩
    · split
      · exact ⟨rfl, rfl⟩
      · split
        · exact ⟨(ih hx (all_take hl _)).1, digestB_node _ _⟩
        · exact ⟨digestB_node _ _, digestB_node _ _⟩
theorem keep_c {w wa w' : World} {b o : Nat} {x : Value} (hS : Below w.heap.size w wa ∧ wa.cell? ⟨b, o, none⟩ = some x) (hb : Below wa.heap.size wa w') :
    Below w.heap.size w w' ∧ w'.cell? ⟨b, o, none⟩ = some x :=
  ⟨keep_b hb hS.1, (hb.cell (p := ⟨b, o, none⟩) (World.block_lt_of_cell? wa _ hS.2)).trans hS.2⟩
theorem ret_iib {a a' b b' : Int} {c c' : Bool} (h1 : a = a') (h2 : b = b') (h3 : c = c') : Ending.returned (.tuple #[.int .i64 a, .int .i64 b, .bool c]) = .returned (.tuple #[.int .i64 a', .int .i64 b', .bool c']) := by rw [h1, h2, h3]
/-- VerifyConsistency -/
def vcB (m n x y : Int) (l : List Int) : Bool := decide (1 ≤ n ∧ n ≤ 64) && (decide (1 ≤ m ∧ m ≤ n) && (digestB x && (digestB y && l.all digestB)))
def vcR (m n x y : Int) (l : List Int) : Bool := vcB m n x y l && ((bothN 65 m.toNat n.toNat x true l).2.2 && (decide ((bothN 65 m.toNat n.toNat x true l).1 = x) && decide ((bothN 65 m.toNat n.toNat x true l).2.1 = y)))
end Go.Proofs.Ytbcaknmpbkapnaa
/- Walks: sorted lists as sets (spec.l1Has, spec.l1Put). -/

namespace Go.Proofs.Ytbcaknmpbkapnaa
open Go.RowKit
set_option linter.unusedSimpArgs false
set_option linter.unusedVariables false

/-- where a number is put -/
def posF (l : List Int) (n : Int) : Nat := (l.takeWhile fun x => decide (x < n)).length
def putL (l : List Int) (n : Int) : List Int := if posF l n < l.length ∧ nth l (posF l n) = n then l else (l.take (posF l n) ++ [n]) ++ l.drop (posF l n)
theorem posF_le (l : List Int) (n : Int) : posF l n ≤ l.length := by unfold posF; exact (List.takeWhile_prefix _).length_le
theorem posF_lt {l : List Int} {n : Int} : ∀ {i : Nat}, i < posF l n → nth l i < n := by
  induction l with
  | nil => intro i h; simp [posF] at h
  | cons a l ih =>
    intro i h
    unfold posF at h ih
    rw [List.takeWhile_cons] at h
    by_cases ha : a < n
    · rw [if_pos (by simpa using ha)] at h
      cases i with
      | zero => exact ha
      | succ i => exact ih (by simpa using h)
    · rw [if_neg (by simpa using ha)] at h; simp at h
theorem posF_ge {l : List Int} {n : Int} (h : posF l n < l.length) : ¬ nth l (posF l n) < n := by
  induction l with
  | nil => simp at h
  | cons a l ih =>
    unfold posF at h ih ⊢
    rw [List.takeWhile_cons] at h ⊢
    by_cases ha : a < n
    · rw [if_pos (by simpa using ha)] at h ⊢
      exact ih (by simpa using h)
    · rw [if_neg (by simpa using ha)]; exact ha
theorem posF_eq {l : List Int} {n : Int} {k : Nat} (h1 : ∀ i, i < k → nth l i < n) (h2 : k ≤ l.length) (h3 : k < l.length → ¬ nth l k < n) : posF l n = k := by
  rcases Nat.lt_trichotomy (posF l n) k with h | h | h
  · exact absurd (h1 _ h) (posF_ge (by omega))
  · exact h
  · exact absurd (posF_lt h) (h3 (by have := posF_le l n; omega))
end Go.Proofs.Ytbcaknmpbkapnaa
/- The plain law of ReachOf: a set as a sorted list, and as marks. -/

namespace Go.Proofs.Ytbcaknmpbkapnaa
set_option linter.unusedSimpArgs false
set_option linter.unusedVariables false

/-- the marked numbers from k on, m of them -/
def ascF (f : Nat → Bool) : Nat → Nat → List Int
  | _, 0 => []
  | k, m + 1 => if f k = true then (k : Int) :: ascF f (k + 1) m else ascF f (k + 1) m
theorem ascF_ge {f : Nat → Bool} : ∀ {m k : Nat} {x : Int}, x ∈ ascF f k m → (k : Int) ≤ x ∧ x < (k + m : Nat) := by
  intro m
  induction m with
  | zero => intro k x h; simp [ascF] at h
  | succ m ih =>
    intro k x h
    unfold ascF at h
    split at h
    · rcases List.mem_cons.1 h with rfl | h
      · omega
      · have := ih h; omega
    · have := ih h; omega
theorem ascF_mem {f : Nat → Bool} : ∀ {m k j : Nat}, ((j : Int) ∈ ascF f k m) ↔ (k ≤ j ∧ j < k + m ∧ f j = true) := by
  intro m
  induction m with
  | zero => intro k j; simp [ascF]; omega
  | succ m ih =>
    intro k j
    unfold ascF
    by_cases hf : f k = true
    · rw [if_pos hf, List.mem_cons, ih]
      constructor
      · rintro (h | h)
        · obtain rfl : j = k := by omega
          exact ⟨Nat.le_refl _, by omega, hf⟩
        · exact ⟨by omega, by omega, h.2.2⟩
      · rintro ⟨h1, h2, h3⟩
        by_cases hj : j = k
        · left; rw [hj]
        · right; exact ⟨by omega, by omega, h3⟩
    · rw [if_neg hf, ih]
      constructor
      · rintro ⟨h1, h2, h3⟩; exact ⟨by omega, by omega, h3⟩
      · rintro ⟨h1, h2, h3⟩
        have : j ≠ k := fun e => hf (e ▸ h3)
        exact ⟨by omega, by omega, h3⟩
/-- a mark more -/
def setF (f : Nat → Bool) (j : Nat) : Nat → Bool := fun i => if i = j then true else f i
theorem setF_same {f : Nat → Bool} {j : Nat} (h : f j = true) : setF f j = f := by
  funext i; unfold setF; split
  · rename_i e; rw [e, h]
  · rfl
theorem ascF_congr {f g : Nat → Bool} : ∀ {m k : Nat}, (∀ i, k ≤ i → i < k + m → f i = g i) → ascF f k m = ascF g k m := by
  intro m
  induction m with
  | zero => intro k _; rfl
  | succ m ih =>
    intro k h
    unfold ascF
    rw [h k (Nat.le_refl _) (by omega), ih (fun i h1 h2 => h i (by omega) (by omega))]
theorem putL_cons_lt {a n : Int} {l : List Int} (h : a < n) : putL (a :: l) n = a :: putL l n := by
  have hp : posF (a :: l) n = posF l n + 1 := by unfold posF; rw [List.takeWhile_cons, if_pos (by simpa using h)]; rfl
  unfold putL
  rw [hp]
  have hn : nth (a :: l) (posF l n + 1) = nth l (posF l n) := by simp [nth]
  rw [hn]
  by_cases hc : posF l n < l.length ∧ nth l (posF l n) = n
  · rw [if_pos hc, if_pos ⟨by simp; exact hc.1, hc.2⟩]
  · rw [if_neg hc, if_neg (fun hh => hc ⟨by simpa using hh.1, hh.2⟩)]; simp
theorem putL_head_eq {n : Int} {l : List Int} : putL (n :: l) n = n :: l := by
  have hp : posF (n :: l) n = 0 := by unfold posF; rw [List.takeWhile_cons, if_neg (by simp)]; rfl
  unfold putL
  rw [hp, if_pos ⟨by simp, by simp [nth]⟩]
theorem putL_all_gt {n : Int} {l : List Int} (h : ∀ x ∈ l, n < x) : putL l n = n :: l := by
  have hp : posF l n = 0 := by
    unfold posF
    cases l with
    | nil => rfl
    | cons a l => rw [List.takeWhile_cons, if_neg (by have := h a (by simp); simp; omega)]; rfl
  unfold putL
  rw [hp, if_neg]
  · simp
  · rintro ⟨h1, h2⟩
    cases l with
    | nil => simp at h1
    | cons a l => have := h a (by simp); simp [nth] at h2; omega
/-- to put a number into the list is to mark it -/
theorem putL_ascF {f : Nat → Bool} : ∀ {m k j : Nat}, k ≤ j → j < k + m → putL (ascF f k m) (j : Int) = ascF (setF f j) k m := by
  intro m
  induction m with
  | zero => intro k j h1 h2; omega
  | succ m ih =>
    intro k j h1 h2
    by_cases hj : j = k
    · subst hj
      have e : ascF (setF f j) (j + 1) m = ascF f (j + 1) m := ascF_congr fun i h3 h4 => by unfold setF; rw [if_neg (by omega)]
      have hs : setF f j j = true := by simp [setF]
      unfold ascF
      rw [if_pos hs, e]
      by_cases hf : f j = true
      · rw [if_pos hf]; exact putL_head_eq
      · rw [if_neg hf]; exact putL_all_gt fun x hx => by have := (ascF_ge hx).1; omega
    · have hs : setF f j k = f k := by unfold setF; rw [if_neg (by omega)]
      unfold ascF
      rw [hs]
      by_cases hf : f k = true
      · rw [if_pos hf, if_pos hf, putL_cons_lt (by omega), ih (by omega) (by omega)]
      · rw [if_neg hf, if_neg hf]; exact ih (by omega) (by omega)
end Go.Proofs.Ytbcaknmpbkapnaa
/- Walks: ReachOf. -/




namespace Go.Proofs.Ytbcaknmpbkapnaa
open Go.RowKit
set_option linter.unusedSimpArgs false
set_option linter.unusedVariables false

def pairB (n : Int) (p : List Int) : Bool := decide (p.length = 2) && ((p.all fun x => decide (0 ≤ x ∧ x ≤ n - 1)) && !(nth p 0 == nth p 1))
def pairsB (n : Int) (ls : List (List Int)) : Bool := decide (ls.length ≤ 20) && ls.all (pairB n)
theorem all_take_succ {ls : List (List Int)} {p : List Int → Bool} {k : Nat} (h : k < ls.length) : (ls.take (k + 1)).all p = ((ls.take k).all p && p ls[k]) := by
  rw [List.take_succ_eq_append_getElem h, List.all_append]; simp
theorem all_false_of {ls : List (List Int)} {p : List Int → Bool} {k : Nat} (h : k < ls.length) (hp : p ls[k] = false) : ls.all p = false := by
  rw [List.all_eq_false]; exact ⟨_, List.getElem_mem h, by rw [hp]; simp⟩
/-- a function value that decides p on lists, in every world that has grown from w -/
structure DecidesR (w : World) (g : FuncId) (caps : Array Value) (p : List Int → Bool) : Prop where
  enters : ∀ args wr, (callFunc g args).run Try.prog wr = .ok (.enter g args) wr
  runs : ∀ v l wr, Ints wr v l → Below w.heap.size w wr → Calls Try.prog g (#[v] ++ caps) wr fun e w' => e = .returned (.bool (p l)) ∧ Below wr.heap.size wr w'
theorem DecidesR.below {w w' : World} {g : FuncId} {caps : Array Value} {p : List Int → Bool} (h : DecidesR w g caps p) (hb : Below w.heap.size w w') : DecidesR w' g caps p :=
  ⟨h.enters, fun v l wr hx hr => h.runs v l wr hx (hb.trans (hr.mono hb.size))⟩
end Go.Proofs.Ytbcaknmpbkapnaa
/- Walks: pairs of readers (impl.arePairs). -/

namespace Go.Proofs.Ytbcaknmpbkapnaa
open Go.RowKit
set_option linter.unusedSimpArgs false
set_option linter.unusedVariables false

theorem pairsB_any (n : Int) (ls : List (List Int)) : (ls.any fun l => !pairB n l) = !(ls.all (pairB n)) := by
  induction ls with
  | nil => rfl
  | cons a ls ih => simp only [List.any_cons, List.all_cons, ih, Bool.not_and]
end Go.Proofs.Ytbcaknmpbkapnaa
/- Entries of a board: the digest of an entry. -/

namespace Go.Proofs.Ytbcaknmpbkapnaa
open Go.RowKit
set_option linter.unusedSimpArgs false
set_option linter.unusedVariables false

/-- an entry without its signature -/
def entB (k a : Int) (l : List Int) : Bool := decide (1 ≤ k ∧ k ≤ 9) && (decide (0 ≤ a ∧ a ≤ 39) && (decide (l.length ≤ 380) && l.all digestB))
def sEntry : ByteArray := ⟨#[101, 110, 116, 114, 121]⟩
/-- an entry at a place has a digest -/
def edB (k a t : Int) (l : List Int) : Bool := entB k a l && decide (0 ≤ t ∧ t ≤ 63)
def edI (k a t : Int) (l : List Int) : Int := if edB k a t l = true then hashOf (lab sEntry ++ ([k, a, t] ++ l)) else 0
theorem edI_yes {k a t : Int} {l : List Int} (h : edB k a t l = true) : edI k a t l = hashOf (lab sEntry ++ ([k, a, t] ++ l)) := by unfold edI; rw [if_pos h]
theorem edI_no {k a t : Int} {l : List Int} (h : edB k a t l = false) : edI k a t l = 0 := by unfold edI; rw [if_neg (by rw [h]; simp)]
theorem entB_parts {k a : Int} {l : List Int} (h : entB k a l = true) : (1 ≤ k ∧ k ≤ 9) ∧ (0 ≤ a ∧ a ≤ 39) ∧ l.length ≤ 380 ∧ l.all digestB = true := by
  unfold entB at h; simpa only [Bool.and_eq_true, decide_eq_true_iff] using h
theorem edB_parts {k a t : Int} {l : List Int} (h : edB k a t l = true) : (1 ≤ k ∧ k ≤ 9) ∧ (0 ≤ a ∧ a ≤ 39) ∧ l.length ≤ 380 ∧ l.all digestB = true ∧ 0 ≤ t ∧ t ≤ 63 := by
  unfold edB at h
  rw [Bool.and_eq_true, decide_eq_true_iff] at h
  obtain ⟨h1, h2, h3, h4⟩ := entB_parts h.1
  exact ⟨h1, h2, h3, h4, h.2⟩
theorem ed_all {k a t : Int} {l : List Int} (h : edB k a t l = true) : ([k, a, t] ++ l).all digestB = true := by
  obtain ⟨h1, h2, h3, h4, h5⟩ := edB_parts h
  simp only [List.all_append, h4, Bool.and_true]
  simp [digestB]; omega
theorem ed_labelled {k a t : Int} {l : List Int} (h : edB k a t l = true) : labelledB sEntry ([k, a, t] ++ l) = true := by
  obtain ⟨h1, h2, h3, h4, h5⟩ := edB_parts h
  have e : (lab sEntry).length = 6 := lab_length _
  have e2 : sEntry.size = 5 := rfl
  unfold labelledB hashable
  rw [List.all_append, ed_all h, lab_all _ (by rw [e2]; omega), List.length_append, List.length_append, e, e2]
  simp; omega

theorem Ints.lit3 {B : Nat} (w : World) (hB : B ≤ w.heap.size) {g : Nat} (hg : g = w.heap.size) {x y z : Int} (h : I64 x) (h2 : I64 y) (h3 : I64 z) : OwnI (w.alloc (.cells #[.int .i64 x, .int .i64 y, .int .i64 z] 3)) B (.slice (some ⟨g, 0, none⟩) 3 3) [x, y, z] := by
  subst hg; exact OwnI.lit w hB (AllI64.cons h (AllI64.cons h2 (AllI64.one h3))) rfl (by simp [maxLen]) 3 rfl
end Go.Proofs.Ytbcaknmpbkapnaa
