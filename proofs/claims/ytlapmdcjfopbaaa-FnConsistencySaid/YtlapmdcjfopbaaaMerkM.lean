/- Merkle trees, plain laws: a path leads to the root; a proof of consistency leads to both roots; pushing leaves yields the frontier, whose root is that of the list. -/
import Derived.Test.YtlapmdcjfopbaaaMerkle6
namespace Go.Proofs.Ytlapmdcjfopbaaa
open Go.RowKit

/-! ### paths -/
/-- the root that results from a leaf and a path, if the path has the right length -/
def incN : Nat → Int → Nat → Nat → List Int → Option Int
  | 0, _, _, _, _ => none
  | f + 1, x, i, n, l =>
    if n = 1 then (if l.length = 0 then some x else none)
    else if l.length = 0 then none
    else if i < splitN n then (incN f x i (splitN n) (l.take (l.length - 1))).map fun d => node d (nth l (l.length - 1))
    else (incN f x (i - splitN n) (n - splitN n) (l.take (l.length - 1))).map fun d => node (nth l (l.length - 1)) d
theorem snoc_len (l : List Int) (x : Int) : (l ++ [x]).length - 1 = l.length := by simp
theorem snoc_take (l : List Int) (x : Int) : (l ++ [x]).take ((l ++ [x]).length - 1) = l := by simp
theorem snoc_nth (l : List Int) (x : Int) : nth (l ++ [x]) ((l ++ [x]).length - 1) = x := by simp [nth, List.getD]
theorem snoc_ne (l : List Int) (x : Int) : ¬ (l ++ [x]).length = 0 := by simp
theorem incN_path (f : Nat) : ∀ {l : List Int} {i : Nat}, l.length < f → l.length ≤ 64 → i < l.length → incN f (nth l i) i l.length (pathN f l i) = some (root l) := by
  induction f with
  | zero => intro l i h; omega
  | succ f ih =>
    intro l i h hl hi
    unfold incN pathN
    by_cases h1 : l.length = 1
    · rw [if_pos h1, if_pos h1, root_one h1, show i = 0 by omega]; rfl
    · obtain ⟨s1, s2, s3⟩ := splitN_bd l.length (by omega) (by omega)
      rw [if_neg h1, if_neg h1, root_two (by omega) hl]
      by_cases hk : i < splitN l.length
      · have h3 := ih (l := l.take (splitN l.length)) (i := i) (by rw [List.length_take]; omega) (by rw [List.length_take]; omega) (by rw [List.length_take]; omega)
        rw [nth_take hk, List.length_take, Nat.min_eq_left (by omega)] at h3
        rw [if_pos hk, if_pos hk, if_neg (snoc_ne _ _), snoc_take, snoc_nth, h3]; rfl
      · have h3 := ih (l := l.drop (splitN l.length)) (i := i - splitN l.length) (by rw [List.length_drop]; omega) (by rw [List.length_drop]; omega) (by rw [List.length_drop]; omega)
        rw [nth_drop, List.length_drop, show splitN l.length + (i - splitN l.length) = i by omega] at h3
        rw [if_neg hk, if_neg hk, if_neg (snoc_ne _ _), snoc_take, snoc_nth, h3]; rfl
theorem splitN_mid : ∀ n, n < 66 → 2 ≤ n → ∀ m, m < 66 → splitN n < m → m ≤ n → splitN m = splitN n := by decide +kernel
theorem bothN_cons (f : Nat) : ∀ {l : List Int} {m : Nat} {x : Int} {b : Bool}, l.length < f → l.length ≤ 64 → 1 ≤ m → m ≤ l.length → (b = true → x = root (l.take m)) →
    bothN f m l.length x b (consN f m l b) = (root (l.take m), root l, true) := by
  induction f with
  | zero => intro l m x b h; omega
  | succ f ih =>
    intro l m x b h hl hm hml hx
    unfold bothN consN
    by_cases h1 : m = l.length
    · rw [if_pos h1, if_pos h1]
      have e : l.take m = l := List.take_of_length_le (by omega)
      rw [e] at hx ⊢
      cases b with
      | true => simp [hx rfl]
      | false => simp [nth, root]
    · obtain ⟨s1, s2, s3⟩ := splitN_bd l.length (by omega) (by omega)
      rw [if_neg h1, if_neg h1, root_two (l := l) (by omega) hl]
      by_cases hk : m ≤ splitN l.length
      · have e : (l.take (splitN l.length)).take m = l.take m := by rw [List.take_take, Nat.min_eq_left hk]
        have h3 := ih (l := l.take (splitN l.length)) (m := m) (x := x) (b := b) (by rw [List.length_take]; omega) (by rw [List.length_take]; omega) hm (by rw [List.length_take]; omega) (by rw [e]; exact hx)
        rw [e, List.length_take, Nat.min_eq_left (by omega)] at h3
        rw [if_pos hk, if_pos hk, if_neg (snoc_ne _ _), snoc_take, snoc_nth, h3]; rfl
      · have h3 := ih (l := l.drop (splitN l.length)) (m := m - splitN l.length) (x := x) (b := false) (by rw [List.length_drop]; omega) (by rw [List.length_drop]; omega) (by omega) (by rw [List.length_drop]; omega) (fun h => by cases h)
        rw [List.length_drop] at h3
        have e1 : (l.take m).length = m := by rw [List.length_take]; omega
        have e2 : splitN m = splitN l.length := splitN_mid l.length (by omega) (by omega) m (by omega) (by omega) (by omega)
        have e3 : (l.take m).take (splitN l.length) = l.take (splitN l.length) := by rw [List.take_take, Nat.min_eq_left (by omega)]
        have e4 : (l.take m).drop (splitN l.length) = (l.drop (splitN l.length)).take (m - splitN l.length) := by rw [List.drop_take]
        rw [if_neg hk, if_neg hk, if_neg (snoc_ne _ _), snoc_take, snoc_nth, h3, root_two (l := l.take m) (by omega) (by omega), e1, e2, e3, e4]; rfl
/-! ### frontiers -/
theorem splitN_top : ∀ j, j < 7 → ∀ r, r < 2 ^ j → 2 ^ j + r ≤ 64 → splitN (2 ^ j + r + 1) = 2 ^ j := by decide +kernel
theorem splitN_two : ∀ j, j < 6 → splitN (2 ^ (j + 1)) = 2 ^ j := by decide +kernel
theorem frnN_fuel {f : Nat} : ∀ {f' : Nat} {l : List Int}, l.length < f → l.length < f' → l.length ≤ 64 → frnN f l = frnN f' l := by
  induction f with
  | zero => intro f' l h; omega
  | succ f ih =>
    intro f' l h h' hl
    cases f' with
    | zero => omega
    | succ f' =>
      unfold frnN
      by_cases h0 : l.length = 0
      · rw [if_pos h0, if_pos h0]
      · rw [if_neg h0, if_neg h0]
        obtain ⟨s1, s2, s3⟩ := splitN_bd (l.length + 1) (by omega) (by omega)
        rw [ih (f' := f') (by rw [List.length_drop]; omega) (by rw [List.length_drop]; omega) (by rw [List.length_drop]; omega)]
def frn (l : List Int) : List Int := frnN 65 l
theorem frn_nil : frn [] = [] := rfl
theorem frn_top {A r : List Int} {j : Nat} (hj : j < 7) (hA : A.length = 2 ^ j) (hr : r.length < 2 ^ j) (hl : A.length + r.length ≤ 64) : frn (A ++ r) = root A :: frn r := by
  have hp : 0 < 2 ^ j := Nat.pow_pos (by omega)
  have e : splitN ((A ++ r).length + 1) = A.length := by rw [List.length_append, hA]; exact splitN_top j hj r.length hr (by omega)
  have h1 : frn (A ++ r) = rootN 65 ((A ++ r).take A.length) :: frnN 64 ((A ++ r).drop A.length) := by
    show frnN (64 + 1) _ = _
    rw [frnN, if_neg (by rw [List.length_append]; omega), e]
  rw [h1, List.take_left', List.drop_left', frnN_fuel (f := 64) (f' := 65) (by omega) (by omega) (by omega)]
  · rfl
  · rfl
  · rfl
theorem frn_pow {A : List Int} {j : Nat} (hj : j < 7) (hA : A.length = 2 ^ j) : frn A = [root A] := by
  have hp : 0 < 2 ^ j := Nat.pow_pos (by omega)
  have h64 : (2 : Nat) ^ j ≤ 2 ^ 6 := Nat.pow_le_pow_right (by omega) (by omega)
  have := frn_top (A := A) (r := []) hj hA (by simpa using hp) (by simp; omega)
  simpa [frn_nil] using this
theorem pushN_frn (j : Nat) : ∀ {f h : Nat} {G r : List Int} {x : Int}, j < 7 → j ≤ f → r.length < 2 ^ j →
    pushN f (2 ^ j * h + r.length) (G ++ frn r) x = if r.length + 1 < 2 ^ j then G ++ frn (r ++ [x]) else pushN (f - j) h G (root (r ++ [x])) := by
  induction j with
  | zero =>
    intro f h G r x _ _ hr
    obtain rfl : r = [] := List.eq_nil_of_length_eq_zero (by simpa using hr)
    rw [if_neg (by simp), frn_nil, root_one (by simp)]
    simp [nth]
  | succ j ih =>
    intro f h G r x hj hf hr
    have hp : 0 < 2 ^ j := Nat.pow_pos (by omega)
    have h2 : 2 ^ (j + 1) = 2 ^ j + 2 ^ j := by rw [Nat.pow_succ]; omega
    have h64 : (2 : Nat) ^ (j + 1) ≤ 2 ^ 6 := Nat.pow_le_pow_right (by omega) (by omega)
    obtain ⟨f', rfl⟩ : ∃ f', f = j + (f' + 1) := ⟨f - j - 1, by omega⟩
    by_cases hc : r.length < 2 ^ j
    · have e : 2 ^ (j + 1) * h + r.length = 2 ^ j * (2 * h) + r.length := by rw [Nat.pow_succ, Nat.mul_assoc]
      rw [e, ih (by omega) (by omega) hc, if_pos (show r.length + 1 < 2 ^ (j + 1) by omega)]
      by_cases hd : r.length + 1 < 2 ^ j
      · rw [if_pos hd]
      · rw [if_neg hd, show j + (f' + 1) - j = f' + 1 by omega, pushN, if_neg (by omega), frn_pow (A := r ++ [x]) (j := j) (by omega) (by simp; omega)]
    · obtain ⟨A, r', rfl, hA⟩ : ∃ A r', r = A ++ r' ∧ A.length = 2 ^ j := ⟨r.take (2 ^ j), r.drop (2 ^ j), (List.take_append_drop _ _).symm, by rw [List.length_take]; omega⟩
      rw [List.length_append] at hr hc ⊢
      have hr' : r'.length < 2 ^ j := by omega
      rw [frn_top (j := j) (by omega) hA hr' (by omega)]
      have e : 2 ^ (j + 1) * h + (A.length + r'.length) = 2 ^ j * (2 * h + 1) + r'.length := by rw [Nat.pow_succ, hA, Nat.mul_assoc, Nat.mul_add]; omega
      have e2 : G ++ root A :: frn r' = (G ++ [root A]) ++ frn r' := by simp
      rw [e, e2, ih (by omega) (by omega) hr', hA]
      by_cases hd : r'.length + 1 < 2 ^ j
      · rw [if_pos hd, if_pos (by omega), List.append_assoc A r', frn_top (j := j) (by omega) hA (by simpa using hd) (by simp; omega)]
        simp
      · rw [if_neg hd, if_neg (by omega), show j + (f' + 1) - j = f' + 1 by omega, show j + (f' + 1) - (j + 1) = f' by omega, pushN, if_pos (by omega), snoc_take, snoc_nth]
        have hl : (A ++ r' ++ [x]).length = 2 ^ (j + 1) := by simp; omega
        have es : splitN (A ++ r' ++ [x]).length = A.length := by rw [hl, splitN_two j (by omega), hA]
        rw [root_two (l := A ++ r' ++ [x]) (by omega) (by omega), es, List.append_assoc, List.take_left' rfl, List.drop_left' rfl, show (2 * h + 1) / 2 = h by omega]
theorem push_frn {l : List Int} {x : Int} (hl : l.length ≤ 63) : pushN 7 l.length (frn l) x = frn (l ++ [x]) := by
  have h := pushN_frn 6 (f := 7) (h := 0) (G := []) (r := l) (x := x) (by omega) (by omega) (by omega)
  rw [Nat.mul_zero, Nat.zero_add, List.nil_append] at h
  rw [h]
  by_cases hc : l.length + 1 < 2 ^ 6
  · rw [if_pos hc]; rfl
  · rw [if_neg hc, frn_pow (j := 6) (by omega) (by simp; omega)]
    show pushN (0 + 1) 0 [] _ = _
    rw [pushN, if_neg (by omega)]; rfl
theorem frTo_cons {x : Int} {l : List Int} (h : 0 < l.length) : frTo (x :: l) 0 = node x (frTo l 0) := by
  unfold frTo
  cases l with
  | nil => simp at h
  | cons y l => simp [nth]
theorem frRoot_frn (j : Nat) : ∀ {l : List Int}, j < 7 → 0 < l.length → l.length ≤ 2 ^ j → frTo (frn l) 0 = root l := by
  induction j with
  | zero =>
    intro l _ h1 h2
    rw [frn_pow (j := 0) (by omega) (by simp at h2 ⊢; omega)]; rfl
  | succ j ih =>
    intro l hj h1 h2
    have hp : 0 < 2 ^ j := Nat.pow_pos (by omega)
    have e2 : 2 ^ (j + 1) = 2 ^ j + 2 ^ j := by rw [Nat.pow_succ]; omega
    have h64 : (2 : Nat) ^ (j + 1) ≤ 2 ^ 6 := Nat.pow_le_pow_right (by omega) (by omega)
    by_cases hc : l.length ≤ 2 ^ j
    · exact ih (by omega) h1 hc
    · by_cases hf : l.length = 2 ^ (j + 1)
      · rw [frn_pow (j := j + 1) hj hf]; rfl
      · obtain ⟨A, r, rfl, hA⟩ : ∃ A r, l = A ++ r ∧ A.length = 2 ^ j := ⟨l.take (2 ^ j), l.drop (2 ^ j), (List.take_append_drop _ _).symm, by rw [List.length_take]; omega⟩
        rw [List.length_append] at *
        have hr0 : 0 < r.length := by omega
        rw [frn_top (j := j) (by omega) hA (by omega) (by omega)]
        have hne : 0 < (frn r).length := by
          show 0 < (frnN (64 + 1) r).length
          rw [frnN, if_neg (by omega)]; simp
        have es : splitN (A ++ r).length = A.length := by
          have := splitN_mid (2 ^ (j + 1)) (by omega) (by omega) (A ++ r).length (by rw [List.length_append]; omega) (by rw [splitN_two j (by omega), List.length_append]; omega) (by rw [List.length_append]; omega)
          rw [this, splitN_two j (by omega), hA]
        rw [frTo_cons hne, ih (by omega) hr0 (by omega), root_two (l := A ++ r) (by rw [List.length_append]; omega) (by rw [List.length_append]; omega), es, List.take_left' rfl, List.drop_left' rfl]
theorem frRoot_frn_all {l : List Int} (hl : l.length ≤ 64) : frRoot (frn l) = root l := by
  unfold frRoot
  by_cases h0 : l.length = 0
  · obtain rfl := List.eq_nil_of_length_eq_zero h0
    rw [frn_nil, if_pos (show ([] : List Int).length = 0 from rfl), root_none rfl]
  · have hne : ¬ (frn l).length = 0 := by
      show ¬ (frnN (64 + 1) l).length = 0
      rw [frnN, if_neg h0]; simp
    rw [if_neg hne, frRoot_frn 6 (by omega) (by omega) hl]
end Go.Proofs.Ytlapmdcjfopbaaa
