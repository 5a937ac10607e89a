/- The greatest code of a contest: plain laws, codes of digits. -/
import Derived.Test.YtboahnklilmdpaaCt
import Derived.Test.YtboahnklilmdpaaBa
namespace Go.Proofs.Ytboahnklilmdpaa
open Go.RowKit
set_option linter.unusedSimpArgs false
set_option linter.unusedVariables false

/-- the list of f 0, f 1, .. of length n -/
def tab (n : Nat) (f : Nat → Int) : List Int := (List.range n).map f
theorem tab_succ (n : Nat) (f : Nat → Int) : tab (n + 1) f = tab n f ++ [f n] := by simp [tab, List.range_succ]
theorem tab_length (n : Nat) (f : Nat → Int) : (tab n f).length = n := by simp [tab]
theorem tab_zero (f : Nat → Int) : tab 0 f = [] := rfl
theorem tab_mem {n : Nat} {f : Nat → Int} {x : Int} (h : x ∈ tab n f) : ∃ i, i < n ∧ f i = x := by
  simp only [tab, List.mem_map, List.mem_range] at h; exact h
/-- the number of digits, the last digit first -/
def codeL (b : Int) (l : List Int) : Int := l.foldr (fun d c => c * b + d) 0
theorem codeL_drop (b : Int) {l : List Int} {k : Nat} (h : k < l.length) : codeL b (l.drop k) = codeL b (l.drop (k + 1)) * b + nth l k := by
  rw [← List.getElem_cons_drop h, nth_eq h]; rfl
/-- digits -/
def Digs (l : List Int) : Prop := l.length ≤ 8 ∧ ∀ x ∈ l, 0 ≤ x ∧ x ≤ 26
theorem codeL_bd0 {b : Int} (h1 : 0 ≤ b) (h2 : b ≤ 27) (l : List Int) : (∀ x ∈ l, 0 ≤ x ∧ x ≤ 26) → 0 ≤ codeL b l ∧ codeL b l < 27 ^ l.length := by
  induction l with
  | nil => intro _; exact ⟨Int.le_refl _, by show (0 : Int) < 27 ^ 0; decide⟩
  | cons a l ih =>
    intro h
    obtain ⟨i1, i2⟩ := ih (fun x hx => h x (List.mem_cons_of_mem _ hx))
    obtain ⟨a1, a2⟩ := h a (List.mem_cons_self ..)
    obtain ⟨m1, m2⟩ := mul_bd (a := codeL b l) (b := b) (A := 27 ^ l.length - 1) i1 (by omega) h1 h2
    have e : codeL b (a :: l) = codeL b l * b + a := rfl
    rw [e, List.length_cons, Int.pow_succ]
    omega
theorem codeL_bd {b : Int} (h1 : 0 ≤ b) (h2 : b ≤ 27) {l : List Int} (h : Digs l) : 0 ≤ codeL b l ∧ codeL b l ≤ 282429536480 := by
  obtain ⟨a, b⟩ := codeL_bd0 h1 h2 l h.2
  refine ⟨a, ?_⟩
  have h3 : l.length < 9 := by have := h.1; omega
  have e : (27 : Int) ^ l.length ≤ 282429536481 := by
    generalize l.length = n at h3
    obtain ⟨j, rfl⟩ : ∃ j : Fin 9, n = j := ⟨⟨n, h3⟩, rfl⟩
    revert j; decide
  omega
theorem Digs.drop {l : List Int} (h : Digs l) (k : Nat) : Digs (l.drop k) := ⟨by have := h.1; simp; omega, fun x hx => h.2 x (List.mem_of_mem_drop hx)⟩
theorem Digs.at_ {l : List Int} (h : Digs l) {k : Nat} (hk : k < l.length) : 0 ≤ nth l k ∧ nth l k ≤ 26 := by rw [nth_eq hk]; exact h.2 _ (List.getElem_mem hk)
/-- each digit with something added -/
def addL (a : Int) (l : List Int) : List Int := l.map (· + a)
theorem nth_addL {a : Int} {l : List Int} {k : Nat} (h : k < l.length) : nth (addL a l) k = nth l k + a := by
  rw [nth_eq (by simpa [addL] using h), nth_eq h]; simp [addL]
theorem addL_zero (l : List Int) : addL 0 l = l := by simp [addL]
theorem addL_length (a : Int) (l : List Int) : (addL a l).length = l.length := by simp [addL]

/-- the base of a contest's codes -/
def ctBase (k o p : Int) : Int := if k = 2 then p + 1 else if k = 3 then o + 1 else if k = 4 then 27 else 2
/-- n digits that hold r, each of at most p, the last ones first -/
def scoreL (p : Int) : Nat → Int → List Int
  | 0, _ => []
  | n + 1, r => scoreL p n (r - min r p) ++ [min r p]
theorem scoreL_length (p : Int) (n : Nat) : ∀ r, (scoreL p n r).length = n := by
  induction n with
  | zero => intro r; rfl
  | succ n ih => intro r; simp [scoreL, ih]
theorem scoreL_digs {p : Int} (hp0 : 0 ≤ p) (hp : p ≤ 26) (n : Nat) : ∀ r, 0 ≤ r → ∀ x ∈ scoreL p n r, 0 ≤ x ∧ x ≤ 26 := by
  induction n with
  | zero => intro r _ x hx; cases hx
  | succ n ih =>
    intro r hr x hx
    rw [scoreL, List.mem_append] at hx
    rcases hx with hx | hx
    · exact ih _ (by omega) x hx
    · simp at hx; omega
/-- the digits of the greatest code -/
def grD (k : Int) (o m : Nat) (p : Int) : List Int :=
  if k = 1 then tab o (fun i => if (o : Int) - m ≤ i then 1 else 0)
  else if k = 2 then scoreL p o m
  else if k = 3 then tab m (fun i => (o : Int) - m + 1 + i)
  else tab m (fun _ => 26)
/-- the greatest code -/
def ctGr (k o m p : Int) : Int := codeL (ctBase k o p) (grD k o.toNat m.toNat p)
/-- noughts, and ones at the numbers of a list -/
def markL (n : Nat) (v : List Int) : List Int := v.foldl (fun l k => l.set k.toNat 1) (List.replicate n 0)
theorem markL_length (n : Nat) (v : List Int) : (markL n v).length = n := by
  unfold markL
  suffices h : ∀ l0 : List Int, (v.foldl (fun l k => l.set k.toNat 1) l0).length = l0.length by rw [h]; simp
  induction v with
  | nil => intro l0; rfl
  | cons a v ih => intro l0; rw [List.foldl_cons, ih]; simp
theorem markL_succ (n : Nat) {v : List Int} {k : Nat} (h : k < v.length) : markL n (v.take (k + 1)) = (markL n (v.take k)).set (nth v k).toNat 1 := by
  unfold markL; rw [take_succ_nth h, List.foldl_append]; rfl
theorem markL_tab {o m : Nat} (ho : o ≤ 8) (hm : m ≤ o) : markL o (tab m (fun i => (o : Int) - m + i)) = tab o (fun i => if (o : Int) - m ≤ i then 1 else 0) := by
  obtain ⟨a, rfl⟩ : ∃ a : Fin 9, o = a := ⟨⟨o, by omega⟩, rfl⟩
  obtain ⟨b, rfl⟩ : ∃ b : Fin 9, m = b := ⟨⟨m, by omega⟩, rfl⟩
  revert a b; decide
/-- what bounds a valid contest's numbers -/
structure CtN (k : Int) (o m : Nat) (p : Int) : Prop where
  k1 : k = 1 ∨ k = 2 ∨ k = 3 ∨ k = 4
  o8 : o ≤ 8
  p0 : 0 ≤ p
  p5 : p ≤ 5
  m40 : m ≤ 40
  mo : k = 1 ∨ k = 3 → m ≤ o
  m4 : k = 4 → m ≤ 5
theorem CtN.of {k o l m p : Int} (h : ctOk k o l m p = true) : ∃ on mn : Nat, o = on ∧ m = mn ∧ CtN k on mn p := by
  have hb := ctOk_bd h
  unfold ctOk at h; rw [decide_eq_true_iff] at h
  refine ⟨o.toNat, m.toNat, by omega, by omega, ⟨by omega, by omega, by omega, by omega, by omega, by omega, by omega⟩⟩
theorem CtN.digs {k p : Int} {o m : Nat} (h : CtN k o m p) : Digs (grD k o m p) := by
  obtain ⟨hk, ho, hp0, hp5, hm, hmo, hm4⟩ := h
  unfold grD
  rcases hk with rfl | rfl | rfl | rfl
  · have := hmo (.inl rfl)
    refine ⟨by simp [tab_length]; omega, fun x hx => ?_⟩
    simp only [if_true] at hx
    obtain ⟨i, hi, rfl⟩ := tab_mem hx
    split <;> omega
  · refine ⟨by simp [scoreL_length]; omega, fun x hx => ?_⟩
    exact scoreL_digs hp0 (by omega) o m (by omega) x (by simpa using hx)
  · have := hmo (.inr rfl)
    refine ⟨by simp [tab_length]; omega, fun x hx => ?_⟩
    obtain ⟨i, hi, rfl⟩ := tab_mem (show x ∈ tab m _ by simpa using hx)
    omega
  · have := hm4 rfl
    refine ⟨by simp [tab_length]; omega, fun x hx => ?_⟩
    obtain ⟨i, hi, rfl⟩ := tab_mem (show x ∈ tab m _ by simpa using hx)
    omega
theorem CtN.base {k p : Int} {o m : Nat} (h : CtN k o m p) : 0 ≤ ctBase k o p ∧ ctBase k o p ≤ 27 := by
  have := h.o8; have := h.p0; have := h.p5
  unfold ctBase; split
  · omega
  · split
    · omega
    · split <;> omega
theorem CtN.gr {k p : Int} {o m : Nat} (h : CtN k o m p) : 0 ≤ ctGr k o m p ∧ ctGr k o m p ≤ 282429536480 := by
  have := codeL_bd h.base.1 h.base.2 h.digs
  unfold ctGr; simpa using this
theorem ctGr_eq (k p : Int) (o m : Nat) : ctGr k o m p = codeL (ctBase k o p) (grD k o m p) := by unfold ctGr; simp

theorem spec_l1Least (a b : Int) (w : World) :
    Calls Try.prog 215 #[.int .i64 a, .int .i64 b] w fun e w' => e = .returned (.int .i64 (min a b)) ∧ w = w' := by
  have h : a < b ∨ b ≤ a := by omega
  go_enter Try.func215, Try.ntmps215
  rcases h with h | h
  · have HR : Hid (min a b = a) := Int.min_eq_left (by omega)
    go_wp2; go_ret; exact ⟨ret_int (by first | (rw [HR.out]; done) | (rw [HR.out]; rfl) | exact HR.out.symm), rfl⟩
  · have HR : Hid (min a b = b) := Int.min_eq_right h
    have h' : decide (a < b) = false := decide_eq_false (by omega)
    go_wp2; go_ret; exact ⟨ret_int (by first | (rw [HR.out]; done) | (rw [HR.out]; rfl) | exact HR.out.symm), rfl⟩
end Go.Proofs.Ytboahnklilmdpaa
