/- The plain law of ReachOf: a set as a sorted list, and as marks. -/
import Derived.Test.YtapfceghgkmgoaaSets
namespace Go.Proofs.Ytapfceghgkmgoaa
set_option linter.unusedSimpArgs false
set_option linter.unusedVariables false

/-- the marked numbers from k on, m of them -/
def ascF (f : Nat → Bool) : Nat → Nat → List Int
  | _, 0 => []
  | k, m + 1 => if f k = true then (k : Int) :: ascF f (k + 1) m else ascF f (k + 1) m
theorem ascF_ge {f : Nat → Bool} : ∀ {m k : Nat} {x : Int}, x ∈ ascF f k m → (k : Int) ≤ x ∧ x < (k + m : Nat) := by
  intro m
  induction m with
  | zero => intro k x h; simp [ascF] at h
  | succ m ih =>
    intro k x h
    unfold ascF at h
    split at h
    · rcases List.mem_cons.1 h with rfl | h
      · omega
      · have := ih h; omega
    · have := ih h; omega
theorem ascF_mem {f : Nat → Bool} : ∀ {m k j : Nat}, ((j : Int) ∈ ascF f k m) ↔ (k ≤ j ∧ j < k + m ∧ f j = true) := by
  intro m
  induction m with
  | zero => intro k j; simp [ascF]; omega
  | succ m ih =>
    intro k j
    unfold ascF
    by_cases hf : f k = true
    · rw [if_pos hf, List.mem_cons, ih]
      constructor
      · rintro (h | h)
        · obtain rfl : j = k := by omega
          exact ⟨Nat.le_refl _, by omega, hf⟩
        · exact ⟨by omega, by omega, h.2.2⟩
      · rintro ⟨h1, h2, h3⟩
        by_cases hj : j = k
        · left; rw [hj]
        · right; exact ⟨by omega, by omega, h3⟩
    · rw [if_neg hf, ih]
      constructor
      · rintro ⟨h1, h2, h3⟩; exact ⟨by omega, by omega, h3⟩
      · rintro ⟨h1, h2, h3⟩
        have : j ≠ k := fun e => hf (e ▸ h3)
        exact ⟨by omega, by omega, h3⟩
/-- a mark more -/
def setF (f : Nat → Bool) (j : Nat) : Nat → Bool := fun i => if i = j then true else f i
theorem setF_same {f : Nat → Bool} {j : Nat} (h : f j = true) : setF f j = f := by
  funext i; unfold setF; split
  · rename_i e; rw [e, h]
  · rfl
theorem ascF_congr {f g : Nat → Bool} : ∀ {m k : Nat}, (∀ i, k ≤ i → i < k + m → f i = g i) → ascF f k m = ascF g k m := by
  intro m
  induction m with
  | zero => intro k _; rfl
  | succ m ih =>
    intro k h
    unfold ascF
    rw [h k (Nat.le_refl _) (by omega), ih (fun i h1 h2 => h i (by omega) (by omega))]
theorem putL_cons_lt {a n : Int} {l : List Int} (h : a < n) : putL (a :: l) n = a :: putL l n := by
  have hp : posF (a :: l) n = posF l n + 1 := by unfold posF; rw [List.takeWhile_cons, if_pos (by simpa using h)]; rfl
  unfold putL
  rw [hp]
  have hn : nth (a :: l) (posF l n + 1) = nth l (posF l n) := by simp [nth]
  rw [hn]
  by_cases hc : posF l n < l.length ∧ nth l (posF l n) = n
  · rw [if_pos hc, if_pos ⟨by simp; exact hc.1, hc.2⟩]
  · rw [if_neg hc, if_neg (fun hh => hc ⟨by simpa using hh.1, hh.2⟩)]; simp
theorem putL_head_eq {n : Int} {l : List Int} : putL (n :: l) n = n :: l := by
  have hp : posF (n :: l) n = 0 := by unfold posF; rw [List.takeWhile_cons, if_neg (by simp)]; rfl
  unfold putL
  rw [hp, if_pos ⟨by simp, by simp [nth]⟩]
theorem putL_all_gt {n : Int} {l : List Int} (h : ∀ x ∈ l, n < x) : putL l n = n :: l := by
  have hp : posF l n = 0 := by
    unfold posF
    cases l with
    | nil => rfl
    | cons a l => rw [List.takeWhile_cons, if_neg (by have := h a (by simp); simp; omega)]; rfl
  unfold putL
  rw [hp, if_neg]
  · simp
  · rintro ⟨h1, h2⟩
    cases l with
    | nil => simp at h1
    | cons a l => have := h a (by simp); simp [nth] at h2; omega
/-- to put a number into the list is to mark it -/
theorem putL_ascF {f : Nat → Bool} : ∀ {m k j : Nat}, k ≤ j → j < k + m → putL (ascF f k m) (j : Int) = ascF (setF f j) k m := by
  intro m
  induction m with
  | zero => intro k j h1 h2; omega
  | succ m ih =>
    intro k j h1 h2
    by_cases hj : j = k
    · subst hj
      have e : ascF (setF f j) (j + 1) m = ascF f (j + 1) m := ascF_congr fun i h3 h4 => by unfold setF; rw [if_neg (by omega)]
      have hs : setF f j j = true := by simp [setF]
      unfold ascF
      rw [if_pos hs, e]
      by_cases hf : f j = true
      · rw [if_pos hf]; exact putL_head_eq
      · rw [if_neg hf]; exact putL_all_gt fun x hx => by have := (ascF_ge hx).1; omega
    · have hs : setF f j k = f k := by unfold setF; rw [if_neg (by omega)]
      unfold ascF
      rw [hs]
      by_cases hf : f k = true
      · rw [if_pos hf, if_pos hf, putL_cons_lt (by omega), ih (by omega) (by omega)]
      · rw [if_neg hf, if_neg hf]; exact ih (by omega) (by omega)
end Go.Proofs.Ytapfceghgkmgoaa
