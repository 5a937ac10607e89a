/- Polynomials over a prime modulus: roots and interpolation: plain Lean. -/
import Derived.Test.YtacpnphfopmofaaInvP
import Derived.Test.YtacpnphfopmofaaBaP
import Derived.Test.YtacpnphfopmofaaBgP
import Derived.Test.YtacpnphfopmofaaBmP
import Derived.Test.YtacpnphfopmofaaCip3P
import Derived.Test.YtacpnphfopmofaaDrTP
namespace Go.Proofs.Ytacpnphfopmofaa
open Go.RowKit
set_option linter.unusedSimpArgs false
set_option linter.unusedVariables false

/-- the value of a polynomial over the integers -/
def evI (f : List Int) (x : Int) : Int := f.foldr (fun a o => o * x + a) 0
theorem evI_cons (a : Int) (f : List Int) (x : Int) : evI (a :: f) x = evI f x * x + a := rfl
/-- a function that is a polynomial with at most n coefficients -/
def IsP (n : Nat) (F : Int → Int) : Prop := ∃ f : List Int, f.length = n ∧ ∀ x, F x = evI f x
theorem IsP.zero (n : Nat) : IsP n (fun _ => 0) := by
  refine ⟨List.replicate n 0, by simp, fun x => ?_⟩
  induction n with
  | zero => rfl
  | succ n ih => rw [List.replicate_succ, evI_cons, ← ih]; simp
theorem evI_add (f g : List Int) (h : f.length = g.length) (x : Int) : evI (List.zipWith (· + ·) f g) x = evI f x + evI g x := by
  induction f generalizing g with
  | nil => cases g with
    | nil => rfl
    | cons b g => simp at h
  | cons a f ih => cases g with
    | nil => simp at h
    | cons b g =>
      rw [List.zipWith_cons_cons, evI_cons, evI_cons, evI_cons, ih g (by simpa using h), Int.add_mul]; omega
theorem IsP.add {n : Nat} {F G : Int → Int} (hF : IsP n F) (hG : IsP n G) : IsP n (fun x => F x + G x) := by
  obtain ⟨f, hf, hF⟩ := hF
  obtain ⟨g, hg, hG⟩ := hG
  exact ⟨List.zipWith (· + ·) f g, by simp [hf, hg], fun x => by show F x + G x = _; rw [evI_add f g (by omega), hF, hG]⟩
theorem IsP.up {n : Nat} {F : Int → Int} (hF : IsP n F) : IsP (n + 1) F := by
  obtain ⟨f, hf, hF⟩ := hF
  refine ⟨f ++ [0], by simp [hf], fun x => ?_⟩
  rw [hF]
  unfold evI
  rw [List.foldr_append]; simp
theorem IsP.one : IsP 1 (fun _ => 1) := ⟨[1], rfl, fun x => by simp [evI]⟩
theorem IsP.ev (f : List Int) : IsP f.length (evI f) := ⟨f, rfl, fun _ => rfl⟩
/-- a product that a prime divides -/
theorem prm_mul {q a b : Int} (hq : Prm q) (h : a * b % q = 0) : a % q = 0 ∨ b % q = 0 := by
  by_cases ha : a % q = 0
  · exact .inl ha
  · refine .inr ?_
    have h2 := hq.1
    have h0 := Int.emod_nonneg a (show q ≠ 0 by omega)
    have h1 := Int.emod_lt_of_pos a (show 0 < q by omega)
    obtain ⟨z, hz⟩ := inverse_is hq (show 0 < a % q by omega) h1
    have e : z * (a * b) % q = b % q := by
      rw [emod_mul_left] at hz
      rw [← Int.mul_assoc, Int.mul_comm z, Int.mul_emod, hz, Int.one_mul, Int.emod_emod]
    rw [← e, Int.mul_emod, h, Int.mul_zero, Int.zero_emod]
end Go.Proofs.Ytacpnphfopmofaa
namespace Go.Proofs.Ytacpnphfopmofaa
open Go.RowKit
set_option linter.unusedSimpArgs false
set_option linter.unusedVariables false

/-- a sum -/
def smN : Nat → (Nat → Int) → Int
  | 0, _ => 0
  | n + 1, f => smN n f + f n
theorem smN_add (a b : Nat) (f : Nat → Int) : smN (a + b) f = smN a f + smN b (fun i => f (a + i)) := by
  induction b with
  | zero => simp [smN]
  | succ b ih => show smN (a + b) f + f (a + b) = smN a f + (smN b _ + f (a + b)); rw [ih]; omega
theorem smN_congr {f g : Nat → Int} : ∀ n, (∀ i, i < n → f i = g i) → smN n f = smN n g := by
  intro n
  induction n with
  | zero => intro _; rfl
  | succ n ih => intro h; show smN n f + f n = smN n g + g n; rw [ih (fun i hi => h i (by omega)), h n (by omega)]
theorem smN_plus (n : Nat) (f g : Nat → Int) : smN n (fun i => f i + g i) = smN n f + smN n g := by
  induction n with
  | zero => rfl
  | succ n ih => show smN n _ + (f n + g n) = smN n f + f n + (smN n g + g n); rw [ih]; omega
theorem smN_const (n : Nat) (c : Int) : smN n (fun _ => c) = n * c := by
  induction n with
  | zero => simp [smN]
  | succ n ih => show smN n _ + c = _; rw [ih, Int.natCast_succ, Int.add_mul, Int.one_mul]
theorem smN_le {f g : Nat → Int} : ∀ n, (∀ i, i < n → f i ≤ g i) → smN n f ≤ smN n g := by
  intro n
  induction n with
  | zero => intro _; exact Int.le_refl _
  | succ n ih => intro h; show smN n f + f n ≤ smN n g + g n; have := ih (fun i hi => h i (by omega)); have := h n (by omega); omega
theorem smN_mul (n : Nat) (f : Nat → Int) (c : Int) : smN n (fun i => f i * c) = smN n f * c := by
  induction n with
  | zero => simp [smN]
  | succ n ih => show smN n _ + f n * c = (smN n f + f n) * c; rw [ih, Int.add_mul]
/-- digits and rests -/
theorem smN_digits {B : Nat} (hB : 0 < B) (f : Nat → Nat → Int) : ∀ M, smN (B * M) (fun n => f (n % B) (n / B)) = smN B (fun d => smN M (f d)) := by
  intro M
  induction M with
  | zero => rw [Nat.mul_zero]; show (0 : Int) = smN B fun _ => 0; rw [smN_const, Int.mul_zero]
  | succ M ih =>
    rw [Nat.mul_succ, smN_add, ih, ← smN_plus]
    refine smN_congr _ fun d hd => ?_
    show _ + f ((B * M + d) % B) ((B * M + d) / B) = _
    rw [Nat.mul_add_mod, Nat.mod_eq_of_lt hd, Nat.mul_add_div hB, Nat.div_eq_of_lt hd]; rfl
def hitI (q s : Int) : Int := if s % q = 0 then 1 else 0
/-- the reference's count -/
def pgR (q : Int) : List Int → Int → Int
  | [], s => hitI q s
  | e :: es, s => smN (q - 1).toNat (fun i => pgR q es (s + ((i : Int) + 1) * e))
/-- the program's total of a number -/
def psStep (q : Int) (t : Int × Int) (e : Int) : Int × Int := (t.1 + (1 + t.2 % (q - 1)) * e, t.2 / (q - 1))
def psT (q : Int) (es : List Int) (n : Int) (k : Nat) : Int × Int := (es.take k).foldl (psStep q) (0, n)
def psC (q : Int) (es : List Int) : Nat → Int
  | 0 => 0
  | n + 1 => psC q es n + hitI q (psT q es (n : Int) es.length).1
theorem psT_succ {q : Int} {es : List Int} {n : Int} {k : Nat} (h : k < es.length) : psT q es n (k + 1) = psStep q (psT q es n k) (nth es k) := by
  have e : nth es k = es[k] := by simp [nth, List.getD, h]
  unfold psT
  rw [List.take_succ_eq_append_getElem h, List.foldl_append, e]; rfl
theorem psC_sm (q : Int) (es : List Int) (n : Nat) : psC q es n = smN n (fun i => hitI q (psT q es (i : Int) es.length).1) := by
  induction n with
  | zero => rfl
  | succ n ih => show psC q es n + _ = smN n _ + _; rw [ih]
theorem fold_wp {q : Int} (hq : 2 ≤ q) : ∀ (es : List Int) (s : Int), smN ((q - 1).toNat ^ es.length) (fun n => hitI q (es.foldl (psStep q) (s, (n : Int))).1) = pgR q es s := by
  intro es
  induction es with
  | nil => intro s; show 0 + hitI q s = hitI q s; omega
  | cons e es ih =>
    intro s
    obtain ⟨B, hB⟩ : ∃ B : Nat, q - 1 = B := ⟨(q - 1).toNat, by omega⟩
    have hBt : (q - 1).toNat = B := by omega
    have hB0 : 0 < B := by omega
    rw [hBt] at ih ⊢
    show smN (B ^ (es.length + 1)) _ = smN (q - 1).toNat _
    rw [hBt, Nat.pow_succ, Nat.mul_comm]
    rw [smN_congr (g := fun n => (fun (d r : Nat) => hitI q (es.foldl (psStep q) (s + ((d : Int) + 1) * e, (r : Int))).1) (n % B) (n / B)) _ (fun n _ => by
      show hitI q (List.foldl (psStep q) (psStep q (s, (n : Int)) e) es).1 = _
      unfold psStep
      show hitI q (List.foldl (psStep q) (s + (1 + (n : Int) % (q - 1)) * e, (n : Int) / (q - 1)) es).1 = _
      show _ = hitI q (es.foldl (psStep q) (s + (((n % B : Nat) : Int) + 1) * e, ((n / B : Nat) : Int))).1
      rw [Int.natCast_emod, Int.natCast_ediv, Int.add_comm 1, hB]), smN_digits hB0 (fun (d r : Nat) => hitI q (es.foldl (psStep q) (s + ((d : Int) + 1) * e, (r : Int))).1)]
    exact smN_congr _ fun d _ => ih _
/-- both counts are the same -/
theorem pass_same {q : Int} (hq : 2 ≤ q) (es : List Int) : psC q es ((q - 1).toNat ^ es.length) = pgR q es 0 := by
  rw [psC_sm, ← fold_wp hq]
  refine smN_congr _ fun n _ => ?_
  unfold psT; rw [List.take_length]
theorem hitI_bd (q s : Int) : 0 ≤ hitI q s ∧ hitI q s ≤ 1 := by unfold hitI; split <;> omega
theorem pgR_zero {q : Int} (hq : 2 ≤ q) : ∀ (es : List Int) (s : Int), (∀ e ∈ es, e = 0) → pgR q es s = hitI q s * ((q - 1).toNat ^ es.length : Nat) := by
  intro es
  induction es with
  | nil => intro s _; show hitI q s = hitI q s * ((1 : Nat) : Int); omega
  | cons e es ih =>
    intro s h
    have he := h e (by simp)
    subst he
    show smN (q - 1).toNat (fun i => pgR q es (s + ((i : Int) + 1) * 0)) = _
    rw [smN_congr (g := fun _ => hitI q s * (((q - 1).toNat ^ es.length : Nat) : Int)) _ (fun i _ => by rw [Int.mul_zero, Int.add_zero]; exact ih s (fun e he => h e (by simp [he]))), smN_const]
    rw [List.length_cons, Nat.pow_succ, Int.natCast_mul, Int.mul_left_comm, Int.mul_comm ((q - 1).toNat : Int)]
/-- a nonzero error hits at most once -/
theorem hit_once {q e s : Int} (hq : Prm q) (he : e % q ≠ 0) : ∀ n : Nat, (n : Int) ≤ q - 1 → smN n (fun i => hitI q (s + ((i : Int) + 1) * e)) = 0 ∨ (smN n (fun i => hitI q (s + ((i : Int) + 1) * e)) = 1 ∧ ∃ i : Nat, i < n ∧ (s + ((i : Int) + 1) * e) % q = 0) := by
  intro n
  have h2 := hq.1
  induction n with
  | zero => intro _; exact .inl rfl
  | succ n ih =>
    intro hn
    show smN n _ + hitI q (s + ((n : Int) + 1) * e) = 0 ∨ (smN n _ + hitI q (s + ((n : Int) + 1) * e) = 1 ∧ _)
    by_cases hh : (s + ((n : Int) + 1) * e) % q = 0
    · have e1 : hitI q (s + ((n : Int) + 1) * e) = 1 := if_pos hh
      rcases ih (by omega) with h | ⟨h, i, hi, h3⟩
      · right; rw [h, e1]; exact ⟨rfl, n, by omega, hh⟩
      · exfalso
        have h4 : (((n : Int) - (i : Int)) * e) % q = 0 := by
          have : ((n : Int) - (i : Int)) * e = (s + ((n : Int) + 1) * e) - (s + ((i : Int) + 1) * e) := by
            rw [Int.sub_mul, Int.add_mul, Int.add_mul]; omega
          rw [this, Int.sub_emod, hh, h3]; simp
        rcases prm_mul hq h4 with h5 | h5
        · rw [Int.emod_eq_of_lt (by omega) (by omega)] at h5; omega
        · exact he h5
    · have e1 : hitI q (s + ((n : Int) + 1) * e) = 0 := if_neg hh
      rcases ih (by omega) with h | ⟨h, i, hi, h3⟩
      · left; rw [h, e1]; rfl
      · right; rw [h, e1]; exact ⟨rfl, i, by omega, h3⟩
theorem small_mod {q e : Int} (h0 : 0 < e) (h1 : e < q) : e % q ≠ 0 := by rw [Int.emod_eq_of_lt (by omega) h1]; omega
/-- with an error, at most one of q - 1 passes -/
theorem pass_few {q : Int} (hq : Prm q) : ∀ (es : List Int) (s : Int), (∀ e ∈ es, 0 ≤ e ∧ e < q) → (∃ e ∈ es, 0 < e) → pgR q es s * (q - 1) ≤ ((q - 1).toNat ^ es.length : Nat) := by
  have h2 := hq.1
  intro es
  induction es with
  | nil => intro s _ h; obtain ⟨e, he, _⟩ := h; simp at he
  | cons e es ih =>
    intro s hb hx
    have hB : (((q - 1).toNat : Nat) : Int) = q - 1 := by omega
    rw [List.length_cons, Nat.pow_succ, Int.natCast_mul, hB]
    show smN (q - 1).toNat (fun i => pgR q es (s + ((i : Int) + 1) * e)) * (q - 1) ≤ _
    by_cases hy : ∃ e ∈ es, 0 < e
    · have h1 := smN_le (f := fun i => pgR q es (s + ((i : Int) + 1) * e) * (q - 1)) (g := fun _ => (((q - 1).toNat ^ es.length : Nat) : Int)) (q - 1).toNat (fun i _ => ih _ (fun e he => hb e (by simp [he])) hy)
      rw [smN_const, smN_mul, hB] at h1
      rw [Int.mul_comm (((q - 1).toNat ^ es.length : Nat) : Int)]; exact h1
    · have hz : ∀ e ∈ es, e = 0 := fun x hx' => by
        have := hb x (by simp [hx'])
        have : ¬ 0 < x := fun h => hy ⟨x, hx', h⟩
        omega
      have he0 : 0 < e := by
        obtain ⟨x, hx1, hx2⟩ := hx
        rcases List.mem_cons.1 hx1 with h | h
        · rw [← h]; exact hx2
        · exact absurd ⟨x, h, hx2⟩ hy
      refine Int.mul_le_mul_of_nonneg_right ?_ (by omega)
      rw [smN_congr _ (fun i _ => pgR_zero (by omega) es _ hz), smN_mul]
      have h3 := hit_once (s := s) hq (small_mod he0 (hb e (by simp)).2) (q - 1).toNat (by omega)
      have h4 : smN (q - 1).toNat (fun i => hitI q (s + ((i : Int) + 1) * e)) ≤ 1 := by rcases h3 with h | h <;> omega
      have h5 := Int.mul_le_mul_of_nonneg_right h4 (Int.natCast_nonneg ((q - 1).toNat ^ es.length))
      omega
/-- how many are wrong -/
def wrN (es : List Int) : Nat → Int
  | 0 => 0
  | k + 1 => wrN es k + if 0 < nth es k then 1 else 0
def wrC (es : List Int) : Nat := (es.filter (fun e => decide (0 < e))).length
theorem wrN_take (es : List Int) : ∀ k, k ≤ es.length → wrN es k = (wrC (es.take k) : Int) := by
  intro k
  induction k with
  | zero => intro _; simp [wrN, wrC]
  | succ k ih =>
    intro hk
    have e : nth es k = es[k] := by simp [nth, List.getD, show k < es.length by omega]
    unfold wrN wrC
    rw [ih (by omega), List.take_succ_eq_append_getElem (by omega), List.filter_append, List.length_append, e]
    unfold wrC
    by_cases h : 0 < es[k]
    · rw [if_pos h]; simp [h]
    · rw [if_neg h]; simp [h]
theorem wrN_all (es : List Int) : wrN es es.length = (wrC es : Int) := by rw [wrN_take _ _ (Nat.le_refl _), List.take_length]
theorem wrC_zero {es : List Int} (h : wrC es = 0) : ∀ e ∈ es, ¬ 0 < e := by
  intro e he h0
  unfold wrC at h
  have : e ∈ es.filter (fun e => decide (0 < e)) := List.mem_filter.2 ⟨he, by simp [h0]⟩
  rw [List.length_eq_zero_iff.1 h] at this
  simp at this
/-- a single error never passes -/
theorem pass_one {q : Int} (hq : Prm q) : ∀ (es : List Int), (∀ e ∈ es, 0 ≤ e ∧ e < q) → wrC es = 1 → pgR q es 0 = 0 := by
  have h2 := hq.1
  intro es
  induction es with
  | nil => intro _ h; simp [wrC] at h
  | cons e es ih =>
    intro hb h
    show smN (q - 1).toNat (fun i => pgR q es (0 + ((i : Int) + 1) * e)) = 0
    by_cases he : 0 < e
    · have hz : wrC es = 0 := by
        unfold wrC at *
        rw [List.filter_cons_of_pos (by simp [he]), List.length_cons] at h; omega
      have hz' : ∀ x ∈ es, x = 0 := fun x hx => by
        have := wrC_zero hz x hx
        have := hb x (by simp [hx]); omega
      rw [smN_congr (g := fun _ => 0) _ (fun i hi => ?_), smN_const, Int.mul_zero]
      rw [pgR_zero (by omega) es _ hz', Int.zero_add]
      have : hitI q (((i : Int) + 1) * e) = 0 := by
        refine if_neg fun h0 => ?_
        rcases prm_mul hq h0 with h5 | h5
        · rw [Int.emod_eq_of_lt (by omega) (by omega)] at h5; omega
        · exact small_mod he (hb e (by simp)).2 h5
      rw [this, Int.zero_mul]
    · have e0 : e = 0 := by have := hb e (by simp); omega
      subst e0
      have hz : wrC es = 1 := by
        unfold wrC at *
        rw [List.filter_cons_of_neg (by simp)] at h; exact h
      rw [smN_congr (g := fun _ => 0) _ (fun i hi => ?_), smN_const, Int.mul_zero]
      rw [Int.mul_zero, Int.add_zero]; exact ih (fun x hx => hb x (by simp [hx])) hz
/-- without an error, all pass -/
theorem pass_all {q : Int} (hq : 2 ≤ q) {es : List Int} (hb : ∀ e ∈ es, 0 ≤ e ∧ e < q) (h : wrC es = 0) : pgR q es 0 = ((q - 1).toNat ^ es.length : Nat) := by
  rw [pgR_zero hq es 0 (fun e he => by have := hb e he; have := wrC_zero h e he; omega)]
  rw [show hitI q 0 = 1 from if_pos (Int.zero_emod q), Int.one_mul]
theorem pass_some {es : List Int} (h : 0 < wrC es) : ∃ e ∈ es, 0 < e := by
  unfold wrC at h
  obtain ⟨e, he⟩ := List.exists_mem_of_length_pos h
  have := List.mem_filter.1 he
  exact ⟨e, this.1, by simpa using this.2⟩
end Go.Proofs.Ytacpnphfopmofaa
namespace Go.Proofs.Ytacpnphfopmofaa
open Go.RowKit
set_option linter.unusedSimpArgs false
set_option linter.unusedVariables false

theorem ps_pow {m k : Nat} (hm : m ≤ 22) (hk : k ≤ 3) : m ^ k ≤ 10648 :=
  Nat.le_trans (Nat.pow_le_pow_left hm k) (Nat.le_trans (Nat.pow_le_pow_right (by decide) hk) (by decide))
theorem ps_term {q r e : Int} (hq : 2 ≤ q ∧ q ≤ 23) (hr : 0 ≤ r) (he : 0 ≤ e ∧ e < q) : 0 ≤ (1 + r % (q - 1)) * e ∧ (1 + r % (q - 1)) * e ≤ 600 := by
  have h1 : 0 ≤ r % (q - 1) := Int.emod_nonneg _ (by omega)
  have h2 : r % (q - 1) < q - 1 := Int.emod_lt_of_pos _ (by omega)
  have h3 : (1 + r % (q - 1)) * e ≤ 22 * 22 := Int.mul_le_mul (by omega) (by omega) he.1 (by omega)
  exact ⟨Int.mul_nonneg (by omega) he.1, by omega⟩
theorem psT_bd {q : Int} {es : List Int} (hq : 2 ≤ q ∧ q ≤ 23) (he : ∀ e ∈ es, 0 ≤ e ∧ e < q) {n : Int} (hn : 0 ≤ n) : ∀ k, k ≤ es.length → 0 ≤ (psT q es n k).1 ∧ (psT q es n k).1 ≤ 600 * (k : Int) ∧ 0 ≤ (psT q es n k).2 ∧ (psT q es n k).2 ≤ n := by
  intro k
  induction k with
  | zero => intro _; refine ⟨?_, ?_, ?_, ?_⟩ <;> simp [psT, hn]
  | succ k ih =>
    intro hk
    obtain ⟨h1, h2, h3, h4⟩ := ih (by omega)
    rw [psT_succ (by omega)]
    have hk' : k < es.length := by omega
    have hx := he (nth es k) (by rw [show nth es k = es[k] by simp [nth, List.getD, hk']]; exact List.getElem_mem _)
    obtain ⟨t1, t2⟩ := ps_term hq h3 hx
    unfold psStep
    refine ⟨by show 0 ≤ _ + _; omega, by show _ + _ ≤ _; push_cast; omega, Int.ediv_nonneg h3 (by omega), Int.le_trans (Int.ediv_le_self _ h3) h4⟩
theorem psC_bd (q : Int) (es : List Int) : ∀ n, 0 ≤ psC q es n ∧ psC q es n ≤ (n : Int) := by
  intro n
  induction n with
  | zero => simp [psC]
  | succ n ih => have := hitI_bd q (psT q es (n : Int) es.length).1; unfold psC; omega
set_option maxRecDepth 100000 in
set_option maxHeartbeats 2000000 in
theorem impl_passing (q : Int) (v : Value) (es : List Int) (w : World) (h : Ints w v es) (hq : 2 ≤ q ∧ q ≤ 23) (hl : es.length ≤ 3) (he : ∀ e ∈ es, 0 ≤ e ∧ e < q) :
    Calls Try.prog 74 #[.int .i64 q, v] w fun e w' => e = .returned (.tuple #[.int .i64 (psC q es ((q - 1).toNat ^ es.length)), .int .i64 (((q - 1).toNat ^ es.length : Nat) : Int)]) ∧ w = w' := by
  obtain ⟨a, n, c, rfl⟩ := h.shape
  have E := Lib.hid h.len
  have H := Lib.hid h
  have HE := Lib.hid he
  have HQ := Lib.hid hq
  obtain ⟨m, hm⟩ : ∃ m : Nat, (m : Int) = q - 1 := ⟨(q - 1).toNat, by omega⟩
  have hm1 : (q - 1).toNat = m := by omega
  rw [hm1]
  have hm22 : m ≤ 22 := by omega
  have hn3 : n ≤ 3 := by have := E.out; omega
  rw [E.out]
  clear hm1 h he hl
  have HM := Lib.hid hm
  have ewq : IntKind.i64.wrap (q - 1) = q - 1 := IntWalk.i64_in _ (by omega)
  clear hm
  go_enter Try.func74, Try.ntmps74
  go_wp2_with fail
  go_loopg [7, 15] n (fun gk av iv wr => ∃ k : Nat, k + gk = n ∧ av = .int .i64 ((m ^ k : Nat) : Int) ∧ iv = .int .i64 (k : Int) ∧ wr = w)
  case atStart => exact ⟨0, by omega, by simp, rfl, rfl⟩
  case round =>
    obtain ⟨k, hkg, rfl, rfl, rfl⟩ := hrel
    by_cases hlt : k < n
    · have b1 : decide ((k : Int) < (n : Int)) = true := decide_eq_true (by omega)
      have b2 : decide (k < n) = true := decide_eq_true hlt
      have hwk : IntKind.i64.wrap ((k : Int) + 1) = (k : Int) + 1 := IntWalk.i64_in _ (by omega)
      have hp : ((m ^ k : Nat) : Int) * (q - 1) = ((m ^ (k + 1) : Nat) : Int) := by rw [← HM.out, Nat.pow_succ]; push_cast; rfl
      have hpb := ps_pow (k := k + 1) hm22 (by omega)
      have hwp : IntKind.i64.wrap (((m ^ k : Nat) : Int) * (q - 1)) = ((m ^ (k + 1) : Nat) : Int) := by rw [hp]; exact IntWalk.i64_in _ (by omega)
      clear hp
      obtain ⟨A, hA⟩ : ∃ A, m ^ k = A := ⟨_, rfl⟩
      obtain ⟨A1, hA1⟩ : ∃ A, m ^ (k + 1) = A := ⟨_, rfl⟩
      rw [hA, hA1] at hwp
      rw [hA]
      have HA := Lib.hid hA1
      clear hA hA1
      go_wp2_with fail
      go_roundg (n - (k + 1))
      case measure => omega
      case rel => exact ⟨k + 1, by omega, by rw [HA.out], by go_num, rfl⟩
    · obtain rfl : n = k := by omega
      have b1 : decide ((n : Int) < (n : Int)) = false := decide_eq_false (by omega)
      have b2 : decide (n < n) = false := decide_eq_false hlt
      have hAb := ps_pow (k := n) hm22 hn3
      obtain ⟨A, hA⟩ : ∃ A, m ^ n = A := ⟨_, rfl⟩
      rw [hA] at hAb ⊢
      have HAA := Lib.hid hA
      clear hA hlt hkg
      go_wp2_with fail
      clear b1 b2
      go_loopg [6, 23] A (fun gk cv iv wx => ∃ k : Nat, k + gk = A ∧ cv = .int .i64 (psC q es k) ∧ iv = .int .i64 (k : Int) ∧ wx = wr)
      case atStart => exact ⟨0, by omega, rfl, rfl, rfl⟩
      case round =>
        obtain ⟨k, hkg, rfl, rfl, rfl⟩ := hrel
        have hcb := psC_bd q es k
        by_cases hlt : k < A
        · have b1 : decide ((k : Int) < (A : Int)) = true := decide_eq_true (by omega)
          have b2 : decide (k < A) = true := decide_eq_true hlt
          obtain ⟨gO, rfl⟩ : ∃ z, z = gk := ⟨_, rfl⟩
          have HCS : Hid (psC q es (k + 1) = psC q es k + hitI q (psT q es (k : Int) es.length).1) := rfl
          obtain ⟨C, hC⟩ : ∃ C, psC q es k = C := ⟨_, rfl⟩
          rw [hC] at HCS hcb ⊢
          clear hC
          go_wp2_with fail
          clear b1 b2
          go_loopg [9, 10, 29] n (fun gk tv rv iv wy => ∃ j : Nat, j + gk = n ∧ tv = .int .i64 (psT q es (k : Int) j).1 ∧ rv = .int .i64 (psT q es (k : Int) j).2 ∧ iv = .int .i64 (j : Int) ∧ wy = wr)
          case atStart => exact ⟨0, by omega, rfl, rfl, rfl, rfl⟩
          case round =>
            obtain ⟨j, hjg, rfl, rfl, rfl, rfl⟩ := hrel
            have HTB := Lib.hid (psT_bd (n := (k : Int)) HQ.out HE.out (by omega) j (by have := E.out; omega))
            obtain ⟨t1, t2, t3, t4⟩ := HTB.out
            by_cases hjl : j < n
            · have b1 : decide ((j : Int) < (n : Int)) = true := decide_eq_true (by omega)
              have b2 : decide (j < n) = true := decide_eq_true hjl
              have hTS := psT_succ (q := q) (n := (k : Int)) (show j < es.length by have := E.out; omega)
              obtain ⟨sb, so, hsa, hpc⟩ := H.out.at_ (by omega)
              have y1 := hpc j hjl
              have hsa' := hsa
              subst hsa'
              clear hsa hpc
              have hxe := HE.out (nth es j) (by have hk' : j < es.length := by have := E.out; omega
                                                rw [show nth es j = es[j] by simp [nth, List.getD, hk']]; exact List.getElem_mem _)
              obtain ⟨x, hx⟩ : ∃ x, nth es j = x := ⟨_, rfl⟩
              rw [hx] at y1 hTS hxe
              obtain ⟨T, hT⟩ : ∃ T, psT q es (k : Int) j = T := ⟨_, rfl⟩
              rw [hT] at hTS t1 t2 t3 t4 ⊢
              clear hx hT HTB
              obtain ⟨tt, rr⟩ := T
              replace t1 : 0 ≤ tt := t1
              replace t2 : tt ≤ 600 * (j : Int) := t2
              replace t3 : 0 ≤ rr := t3
              replace t4 : rr ≤ (k : Int) := t4
              obtain ⟨p1, p2⟩ := ps_term HQ.out t3 hxe
              have HTS : Hid (psT q es (k : Int) (j + 1) = (tt + (1 + rr % (q - 1)) * x, rr / (q - 1))) := hTS
              clear hTS
              have m1 : 0 ≤ rr % (q - 1) := Int.emod_nonneg _ (by omega)
              have m2 : rr % (q - 1) < q - 1 := Int.emod_lt_of_pos _ (by omega)
              have et1 : Int.tmod rr (q - 1) = rr % (q - 1) := Int.tmod_eq_emod_of_nonneg t3
              have et2 : Int.tdiv rr (q - 1) = rr / (q - 1) := Int.tdiv_eq_ediv_of_nonneg t3
              have d1 : 0 ≤ rr / (q - 1) := Int.ediv_nonneg t3 (by omega)
              have d2 : rr / (q - 1) ≤ rr := Int.ediv_le_self _ t3
              have ew2 : IntKind.i64.wrap (rr % (q - 1)) = rr % (q - 1) := IntWalk.i64_in _ (by omega)
              have ew3 : IntKind.i64.wrap (1 + rr % (q - 1)) = 1 + rr % (q - 1) := IntWalk.i64_in _ (by omega)
              have ew4 : IntKind.i64.wrap ((1 + rr % (q - 1)) * x) = (1 + rr % (q - 1)) * x := IntWalk.i64_in _ (by omega)
              have ew5 : IntKind.i64.wrap (tt + (1 + rr % (q - 1)) * x) = tt + (1 + rr % (q - 1)) * x := IntWalk.i64_in _ (by omega)
              have ew6 : IntKind.i64.wrap (rr / (q - 1)) = rr / (q - 1) := IntWalk.i64_in _ (by omega)
              have hwk : IntKind.i64.wrap ((j : Int) + 1) = (j : Int) + 1 := IntWalk.i64_in _ (by omega)
              have hz1 : ¬ q - 1 = 0 := by omega
              have hz2 : (q - 1 == 0) = false := by rw [beq_eq_false_iff_ne]; omega
              have b3 : (0 : Int) ≤ (j : Int) := by omega
              have b4 : (j : Int) < (n : Int) := by omega
              go_wp2_with fail
              go_roundg (n - (j + 1))
              case measure => omega
              case rel => exact ⟨j + 1, by omega, by rw [HTS.out], by rw [HTS.out], by go_num, rfl⟩
            · obtain rfl : n = j := by omega
              have b1 : decide ((n : Int) < (n : Int)) = false := decide_eq_false (by omega)
              have b2 : decide (n < n) = false := decide_eq_false hjl
              rw [E.out] at HCS
              obtain ⟨T, hT⟩ : ∃ T, (psT q es (k : Int) n).1 = T := ⟨_, rfl⟩
              rw [hT] at HCS t1 t2 ⊢
              clear hT hjl hjg HTB
              have et1 : Int.tmod T q = T % q := Int.tmod_eq_emod_of_nonneg t1
              have m1 : 0 ≤ T % q := Int.emod_nonneg _ (by omega)
              have m2 : T % q < q := Int.emod_lt_of_pos _ (by omega)
              have ew2 : IntKind.i64.wrap (T % q) = T % q := IntWalk.i64_in _ (by omega)
              have hz1 : ¬ q = 0 := by omega
              have hz2 : (q == 0) = false := by rw [beq_eq_false_iff_ne]; omega
              have hwk : IntKind.i64.wrap ((k : Int) + 1) = (k : Int) + 1 := IntWalk.i64_in _ (by omega)
              have hwc : IntKind.i64.wrap (C + 1) = C + 1 := IntWalk.i64_in _ (by omega)
              by_cases hh : T % q = 0
              · have hb : (T % q == 0) = true := by rw [beq_iff_eq]; exact hh
                have HN : Hid (psC q es (k + 1) = C + 1) := by unfold Hid; rw [HCS.out]; unfold hitI; rw [if_pos hh]
                clear hh
                go_wp2_with fail
                go_roundg (A - (k + 1))
                case measure => omega
                case rel => exact ⟨k + 1, by omega, by rw [HN.out], by go_num, rfl⟩
              · have hb : (T % q == 0) = false := by rw [beq_eq_false_iff_ne]; exact hh
                have HN : Hid (psC q es (k + 1) = C) := by unfold Hid; rw [HCS.out]; unfold hitI; rw [if_neg hh, Int.add_zero]
                clear hh
                go_wp2_with fail
                go_roundg (A - (k + 1))
                case measure => omega
                case rel => exact ⟨k + 1, by omega, by rw [HN.out], by go_num, rfl⟩
        · obtain rfl : A = k := by omega
          have b1 : decide ((A : Int) < (A : Int)) = false := decide_eq_false (by omega)
          have b2 : decide (A < A) = false := decide_eq_false hlt
          go_wp2_with fail
          go_ret2
          exact ⟨by rw [HAA.out]; rfl, rfl⟩
end Go.Proofs.Ytacpnphfopmofaa
namespace Go.Proofs.Ytacpnphfopmofaa
open Go.RowKit
set_option linter.unusedSimpArgs false
set_option linter.unusedVariables false

noncomputable def erB (q : Int) (es : List Int) : Bool := decide (2 ≤ q ∧ q ≤ 23) && (primeB q && (decide (1 ≤ (es.length : Int) ∧ (es.length : Int) ≤ 3) && es.all (fun x => decide (0 ≤ x ∧ x ≤ q - 1))))
noncomputable def cpR (q : Int) (es : List Int) : Int := if erB q es = true then pgR q es 0 else 0
theorem erB_parts {q : Int} {es : List Int} (h : erB q es = true) : (2 ≤ q ∧ q ≤ 23) ∧ primeB q = true ∧ (1 ≤ es.length ∧ es.length ≤ 3) ∧ ∀ e ∈ es, 0 ≤ e ∧ e < q := by
  unfold erB at h
  simp only [Bool.and_eq_true, decide_eq_true_iff, List.all_eq_true] at h
  exact ⟨h.1, h.2.1, by omega, fun e he => by have := h.2.2.2 e he; omega⟩
set_option maxRecDepth 100000 in
theorem impl_areErrors (q : Int) (v : Value) (es : List Int) (w : World) (h : Ints w v es) :
    Calls Try.prog 73 #[.int .i64 q, v] w fun e w' => e = .returned (.bool (erB q es)) ∧ Below w.heap.size w w' := by
  obtain ⟨a, n, c, rfl⟩ := h.shape
  have E := Lib.hid h.len
  have H := Lib.hid h
  clear h
  go_enter Try.func73, Try.ntmps73
  go_wp2_with fail
  refine (impl_within q 2 23 _).mono ?_
  rintro e w1 ⟨rfl, rfl⟩
  cases h1 : decide (2 ≤ q ∧ q ≤ 23) with
  | false =>
    have H1 := Lib.hid h1
    clear h1
    go_wp2_with fail
    go_ret
    exact ⟨ret_bool (by unfold erB; rw [H1.out]; rfl), Below.refl _ _⟩
  | true =>
    have hq := of_decide_eq_true h1
    have H1 := Lib.hid h1
    clear h1
    go_wp2_with fail
    refine (impl_isPrime q _).mono ?_
    rintro e w1 ⟨rfl, rfl⟩
    rw [decide_eq_true (show q ≤ 2000000000 by omega), Bool.true_and]
    cases h2 : primeB q with
    | false =>
      have H2 := Lib.hid h2
      clear h2
      go_wp2_with fail
      go_ret
      exact ⟨ret_bool (by unfold erB; rw [H1.out, H2.out]; rfl), Below.refl _ _⟩
    | true =>
      have H2 := Lib.hid h2
      clear h2
      go_wp2_with fail
      refine (impl_within (n : Int) 1 3 _).mono ?_
      rintro e w1 ⟨rfl, rfl⟩
      cases h3 : decide (1 ≤ (n : Int) ∧ (n : Int) ≤ 3) with
      | false =>
        have H3 := Lib.hid h3
        clear h3
        go_wp2_with fail
        go_ret
        exact ⟨ret_bool (by unfold erB; rw [H1.out, H2.out, E.out, H3.out]; rfl), Below.refl _ _⟩
      | true =>
        have H3 := Lib.hid h3
        clear h3
        go_wp2_with fail
        refine (impl_areBelow _ es q _ H.out (by omega) (by omega)).mono ?_
        rintro e w1 ⟨rfl, hb⟩
        have HV : Hid (erB q es = es.all (fun x => decide (0 ≤ x ∧ x ≤ q - 1))) := by unfold Hid erB; rw [H1.out, H2.out, E.out, H3.out]; rfl
        rw [← HV.out]
        go_wp2_with fail
        go_ret
        exact ⟨rfl, hb⟩
set_option maxRecDepth 100000 in
theorem spec_wErrors (q : Int) (v : Value) (es : List Int) (w : World) (h : Ints w v es) :
    Calls Try.prog 75 #[.int .i64 q, v] w fun e w' => e = .returned (.bool (erB q es)) ∧ Below w.heap.size w w' := by
  obtain ⟨a, n, c, rfl⟩ := h.shape
  have E := Lib.hid h.len
  have H := Lib.hid h
  clear h
  go_enter Try.func75, Try.ntmps75
  go_wp2_with fail
  refine (spec_l1In q 2 23 _).mono ?_
  rintro e w1 ⟨rfl, rfl⟩
  cases h1 : decide (2 ≤ q ∧ q ≤ 23) with
  | false =>
    have H1 := Lib.hid h1
    clear h1
    go_wp2_with fail
    go_ret
    exact ⟨ret_bool (by unfold erB; rw [H1.out]; rfl), Below.refl _ _⟩
  | true =>
    have hq := of_decide_eq_true h1
    have H1 := Lib.hid h1
    clear h1
    go_wp2_with fail
    refine (spec_nPrime q _ (by omega)).mono ?_
    rintro e w1 ⟨rfl, rfl⟩
    cases h2 : primeB q with
    | false =>
      have H2 := Lib.hid h2
      clear h2
      go_wp2_with fail
      go_ret
      exact ⟨ret_bool (by unfold erB; rw [H1.out, H2.out]; rfl), Below.refl _ _⟩
    | true =>
      have H2 := Lib.hid h2
      clear h2
      go_wp2_with fail
      refine (spec_l1In (n : Int) 1 3 _).mono ?_
      rintro e w1 ⟨rfl, rfl⟩
      have ewq : IntKind.i64.wrap (q - 1) = q - 1 := IntWalk.i64_in _ (by omega)
      cases h3 : decide (1 ≤ (n : Int) ∧ (n : Int) ≤ 3) with
      | false =>
        have H3 := Lib.hid h3
        clear h3
        go_wp2_with fail
        go_ret
        exact ⟨ret_bool (by unfold erB; rw [H1.out, H2.out, E.out, H3.out]; rfl), Below.refl _ _⟩
      | true =>
        have H3 := Lib.hid h3
        clear h3
        go_wp2_with fail
        refine (spec_l1All _ es 0 (q - 1) _ H.out).mono ?_
        rintro e w1 ⟨rfl, rfl⟩
        have HV : Hid (erB q es = es.all (fun x => decide (0 ≤ x ∧ x ≤ q - 1))) := by unfold Hid erB; rw [H1.out, H2.out, E.out, H3.out]; rfl
        rw [← HV.out]
        go_wp2_with fail
        go_ret
        exact ⟨rfl, Below.refl _ _⟩
set_option maxRecDepth 100000 in
theorem impl_CountPassing (q : Int) (v : Value) (es : List Int) (w : World) (h : Ints w v es) :
    Calls Try.prog 18 #[.int .i64 q, v] w fun e w' => e = .returned (.tuple #[.int .i64 (cpR q es), .bool (erB q es)]) ∧ Below w.heap.size w w' := by
  obtain ⟨a, n, c, rfl⟩ := h.shape
  have H := Lib.hid h
  clear h
  go_enter Try.func18, Try.ntmps18
  go_wp2_with fail
  refine (impl_areErrors q _ es _ H.out).mono ?_
  rintro e w1 ⟨rfl, hb⟩
  cases h1 : erB q es with
  | false =>
    have HV : Hid (cpR q es = 0) := by unfold Hid cpR; rw [h1]; rfl
    have H1 := Lib.hid h1
    clear h1
    go_wp2_with fail
    go_ret2
    exact ⟨by rw [HV.out, H1.out]; rfl, hb⟩
  | true =>
    obtain ⟨hq, hp, hl, he⟩ := erB_parts h1
    have HV : Hid (cpR q es = psC q es ((q - 1).toNat ^ es.length)) := by unfold Hid cpR; rw [if_pos h1]; exact (pass_same hq.1 es).symm
    have H1 := Lib.hid h1
    clear h1
    go_wp2_with fail
    refine (impl_passing q _ es _ (H.out.below hb) hq hl.2 he).mono ?_
    rintro e w2 ⟨rfl, rfl⟩
    rw [← HV.out]
    go_wp2_with fail
    go_ret2
    exact ⟨by rw [H1.out]; rfl, hb⟩
theorem smN_bd {f : Nat → Int} {B : Int} : ∀ n, (∀ i, 0 ≤ f i ∧ f i ≤ B) → 0 ≤ smN n f ∧ smN n f ≤ (n : Int) * B := by
  intro n h
  induction n with
  | zero => simp [smN]
  | succ n ih =>
    have := h n
    unfold smN
    rw [show ((n + 1 : Nat) : Int) * B = (n : Int) * B + B by push_cast; rw [Int.add_mul, Int.one_mul]]
    omega
theorem pgR_bd {q : Int} : ∀ (es : List Int) (s : Int), 0 ≤ pgR q es s ∧ pgR q es s ≤ (((q - 1).toNat ^ es.length : Nat) : Int) := by
  intro es
  induction es with
  | nil => intro s; have := hitI_bd q s; unfold pgR; simpa using this
  | cons e es ih =>
    intro s
    unfold pgR
    have h := smN_bd (f := fun i => pgR q es (s + ((i : Int) + 1) * e)) (q - 1).toNat (fun i => ih _)
    rw [List.length_cons, Nat.pow_succ, Nat.mul_comm]
    push_cast at h ⊢
    exact h
set_option maxRecDepth 100000 in
set_option maxHeartbeats 2000000 in
theorem spec_wPassing (q : Int) (hq : 2 ≤ q ∧ q ≤ 23) : ∀ (es : List Int) (s : Int) (v : Value) (w : World), Ints w v es → es.length ≤ 3 → (∀ e ∈ es, 0 ≤ e ∧ e < q) → (0 ≤ s ∧ s + 600 * (es.length : Int) ≤ 10000) →
    Calls Try.prog 76 #[.int .i64 q, v, .int .i64 s] w fun e w' => e = .returned (.int .i64 (pgR q es s)) ∧ Below w.heap.size w w' := by
  intro es
  induction es with
  | nil =>
    intro s v w h hl he hs
    obtain ⟨a, n, c, rfl⟩ := h.shape
    have hn : n = 0 := by have := h.len; simpa using this.symm
    subst hn
    clear h
    have hs1 : 0 ≤ s := hs.1
    have hs2 : s ≤ 10000 := by have := hs.2; simp at this; omega
    have et1 : Int.tmod s q = s % q := Int.tmod_eq_emod_of_nonneg hs1
    have m1 : 0 ≤ s % q := Int.emod_nonneg _ (by omega)
    have m2 : s % q < q := Int.emod_lt_of_pos _ (by omega)
    have ew2 : IntKind.i64.wrap (s % q) = s % q := IntWalk.i64_in _ (by omega)
    have hz1 : ¬ q = 0 := by omega
    have hz2 : (q == 0) = false := by rw [beq_eq_false_iff_ne]; omega
    by_cases hh : s % q = 0
    · have hb : (s % q == 0) = true := by rw [beq_iff_eq]; exact hh
      have HV : Hid (pgR q [] s = 1) := by unfold Hid pgR hitI; rw [if_pos hh]
      rw [HV.out]
      clear hh
      go_enter Try.func76, Try.ntmps76
      go_wp2_with fail
      go_ret
      exact ⟨rfl, Below.refl _ _⟩
    · have hb : (s % q == 0) = false := by rw [beq_eq_false_iff_ne]; exact hh
      have HV : Hid (pgR q [] s = 0) := by unfold Hid pgR hitI; rw [if_neg hh]
      rw [HV.out]
      clear hh
      go_enter Try.func76, Try.ntmps76
      go_wp2_with fail
      go_ret
      exact ⟨rfl, Below.refl _ _⟩
  | cons e es ih =>
    intro s v w h hl he hs
    obtain ⟨a, n, c, rfl⟩ := h.shape
    have hlen := h.len
    rw [List.length_cons] at hlen hl
    have hs2 := hs.2
    rw [List.length_cons] at hs2
    have hs1 := hs.1
    have HX := Lib.hid (he e (List.mem_cons_self ..))
    have HE : Hid (∀ x ∈ es, 0 ≤ x ∧ x < q) := fun x hx => he x (List.mem_cons_of_mem _ hx)
    have HIH := Lib.hid ih
    have H := Lib.hid h
    have HL3 : Hid (es.length ≤ 3) := by unfold Hid; omega
    have hs3 : s + 600 * (es.length : Int) + 600 ≤ 10000 := by push_cast at hs2; omega
    obtain ⟨LN, hLN⟩ : ∃ z, es.length = z := ⟨_, rfl⟩
    rw [hLN] at hlen hs3 hl
    have HLN := Lib.hid hLN
    obtain ⟨F, hF⟩ : ∃ F : Nat → Int, (fun i : Nat => pgR q es (s + ((i : Int) + 1) * e)) = F := ⟨_, rfl⟩
    have HF := Lib.hid hF
    have HFB : Hid (∀ i, 0 ≤ F i ∧ F i ≤ 484) := by
      intro i
      have h1 := pgR_bd (q := q) es (s + ((i : Int) + 1) * e)
      have h2 := ps_pow (m := (q - 1).toNat) (k := es.length) (by omega) (by omega)
      have h3 : (q - 1).toNat ^ es.length ≤ 22 ^ 2 := Nat.le_trans (Nat.pow_le_pow_left (by omega) _) (Nat.pow_le_pow_right (by decide) (by omega))
      have h4 : F i = pgR q es (s + ((i : Int) + 1) * e) := by rw [← hF]
      have h5 : (22 : Nat) ^ 2 = 484 := by decide
      rw [h5] at h3
      have h6 : (((q - 1).toNat ^ es.length : Nat) : Int) ≤ 484 := Int.ofNat_le.2 h3
      rw [h4]
      exact ⟨h1.1, Int.le_trans h1.2 h6⟩
    obtain ⟨m, hm⟩ : ∃ m, (q - 1).toNat = m := ⟨_, rfl⟩
    have hm22 : (m : Int) = q - 1 := by omega
    have HV : Hid (pgR q (e :: es) s = smN m F) := by unfold Hid; rw [← hF, ← hm]; rfl
    rw [HV.out]
    clear h ih he hF hLN hm hs hs2
    obtain ⟨b, o, hba, hcx⟩ := H.out.at_ (by omega)
    have y0 := hcx 0 (by omega)
    rw [Nat.add_zero, show nth (e :: es) 0 = e from rfl] at y0
    have hba' := hba
    subst hba'
    clear hba hcx
    have HY := Lib.hid y0
    clear y0
    obtain ⟨ad, hsl, hdq⟩ := sl_dropU (a := some ⟨b, o, none⟩) (n := n) (c := c) (x := 1) (k := 1) rfl (by omega)
    have HDQ : Hid (∀ u, Ints u (.slice (some ⟨b, o, none⟩) n c) (e :: es) → Ints u (.slice ad (n - 1) (c - 1)) es) := fun u h => hdq u (e :: es) h
    clear hdq
    have hz : ((n : Int) == 0) = false := by rw [beq_eq_false_iff_ne]; omega
    have hzn : (n == 0) = false := by rw [beq_eq_false_iff_ne]; omega
    go_enter Try.func76, Try.ntmps76
    go_wp2_with fail
    clear hz hzn
    go_loopg [7, 8] m (fun gk nv dv wr => ∃ k : Nat, k + gk = m ∧ nv = .int .i64 (smN k F) ∧ dv = .int .i64 ((k : Int) + 1) ∧ Below w.heap.size w wr)
    case atStart => exact ⟨0, by omega, rfl, rfl, Below.refl _ _⟩
    case round =>
      obtain ⟨k, hkg, rfl, rfl, hbr⟩ := hrel
      by_cases hlt : k < m
      · have b1 : decide ((k : Int) + 1 < q) = true := decide_eq_true (by omega)
        have hx1 := HX.out.1
        have hx2 := HX.out.2
        have p1 : 0 ≤ ((k : Int) + 1) * e := Int.mul_nonneg (by omega) hx1
        have p2 : ((k : Int) + 1) * e ≤ 22 * 22 := Int.mul_le_mul (by omega) (by omega) hx1 (by omega)
        have ew1 : IntKind.i64.wrap (((k : Int) + 1) * e) = ((k : Int) + 1) * e := IntWalk.i64_in _ (by omega)
        have ew2 : IntKind.i64.wrap (s + ((k : Int) + 1) * e) = s + ((k : Int) + 1) * e := IntWalk.i64_in _ (by omega)
        have ew3 : IntKind.i64.wrap ((k : Int) + 1 + 1) = (k : Int) + 1 + 1 := IntWalk.i64_in _ (by omega)
        have HFK : Hid (pgR q es (s + ((k : Int) + 1) * e) = F k) := by unfold Hid; rw [← HF.out]
        have HS1 : Hid (smN (k + 1) F = smN k F + F k) := rfl
        have hfb := HFB.out k
        have hsb := smN_bd (f := F) (B := 484) k HFB.out
        have hkb : (k : Int) * 484 ≤ 22 * 484 := Int.mul_le_mul_of_nonneg_right (by omega) (by omega)
        have ew4 : IntKind.i64.wrap (smN k F + F k) = smN k F + F k := IntWalk.i64_in _ (by omega)
        obtain ⟨SM, hSM⟩ : ∃ z, smN k F = z := ⟨_, rfl⟩
        rw [hSM] at ew4 HS1 ⊢
        clear hSM hsb hkb
        have hn0 : 0 < n := by omega
        have hni : (0 : Int) < (n : Int) := by omega
        go_wp2_with fail
        refine wp_region_noPanic ?_
        refine wp_region_V (fun w' => w'.cell? ⟨b, o, none⟩ = some (.int .i64 e)) 16 13 (.rd 0 (.rd 1 (.rd 2 (.rd 3 (.rd 4 (.rd 5 (.rd 6 (.rd 7 (.rd 8 (.rd 9 (.rd 10 (.alt 11 (.rd 12 .done) .nil)))))))))))) [13] (by kernel_rfl) (by kernel_rfl) rfl (fun _ _ _ _ _ h => h) (box_at HY.out hbr.drew) ?_
        simp only [pickV, pickN, List.getElem?_cons_zero, List.getElem?_cons_succ]
        repeat (refine' wpV_read _ (by kernel_rfl) (fun w' hS' => ?_) ?_; rotate_left; (focus ((try dsimp only at hS'); go_simp; (try with_reducible rfl))); (try simp only [Act.put, List.setIfInBounds_toArray, List.set_cons_zero, List.set_cons_succ]))
        refine wpV_do (by kernel_rfl) (fun K hK => ?_)
        go_simp
        go_at_call 76
        refine (HIH.out (s + ((k : Int) + 1) * e) _ _ (HDQ.out _ (H.out.below hbr.drew)) HL3.out HE.out (by rw [HLN.out]; exact ⟨by omega, by omega⟩)).mono ?_
        rintro e' u2 ⟨rfl, hb2⟩
        rw [HFK.out]
        have hbu : Below w.heap.size w u2 := Below.next hbr.drew hb2
        clear hb2
        refine hK.out _ _ (box_at HY.out hbu) (fun _ => ?_)
        clear hK K
        (try simp only [Act.put, List.setIfInBounds_toArray, List.set_cons_zero, List.set_cons_succ])
        repeat (refine' wpV_read _ (by kernel_rfl) (fun w' hS' => ?_) ?_; rotate_left; (focus ((try dsimp only at hS'); go_simp; (try with_reducible rfl))); (try simp only [Act.put, List.setIfInBounds_toArray, List.set_cons_zero, List.set_cons_succ]))
        refine wpV_done ?_
        go_wp2_with fail
        refine NoPanic.normal ?_
        go_wp2_with fail
        go_roundg (m - (k + 1))
        case measure => omega
        case rel => exact ⟨k + 1, by omega, by rw [HS1.out], by go_num, hbu⟩
      · obtain rfl : m = k := by omega
        have b1 : decide ((m : Int) + 1 < q) = false := decide_eq_false (by omega)
        go_wp2_with fail
        go_ret
        exact ⟨rfl, hbr⟩
set_option maxRecDepth 100000 in
theorem spec_CountPassing (q : Int) (v : Value) (es : List Int) (w : World) (h : Ints w v es) :
    Calls Try.prog 19 #[.int .i64 q, v] w fun e w' => e = .returned (.tuple #[.int .i64 (cpR q es), .bool (erB q es)]) ∧ Below w.heap.size w w' := by
  obtain ⟨a, n, c, rfl⟩ := h.shape
  have H := Lib.hid h
  clear h
  go_enter Try.func19, Try.ntmps19
  go_wp2_with fail
  refine (spec_wErrors q _ es _ H.out).mono ?_
  rintro e w1 ⟨rfl, hb⟩
  cases h1 : erB q es with
  | false =>
    have HV : Hid (cpR q es = 0) := by unfold Hid cpR; rw [h1]; rfl
    have H1 := Lib.hid h1
    clear h1
    go_wp2_with fail
    go_ret2
    exact ⟨by rw [HV.out, H1.out]; rfl, hb⟩
  | true =>
    obtain ⟨hq, hp, hl, he⟩ := erB_parts h1
    have HV : Hid (cpR q es = pgR q es 0) := by unfold Hid cpR; rw [if_pos h1]
    have H1 := Lib.hid h1
    clear h1
    go_wp2_with fail
    refine (spec_wPassing q hq es 0 _ _ (H.out.below hb) hl.2 he ⟨by decide, by have := hl.2; omega⟩).mono ?_
    rintro e w2 ⟨rfl, hb2⟩
    rw [← HV.out]
    go_wp2_with fail
    go_ret2
    exact ⟨by rw [H1.out]; rfl, Below.next hb hb2⟩
end Go.Proofs.Ytacpnphfopmofaa
namespace Go.Proofs.Ytacpnphfopmofaa
open Go.RowKit
set_option linter.unusedSimpArgs false
set_option linter.unusedVariables false

set_option maxRecDepth 100000 in
set_option maxHeartbeats 1000000 in
theorem impl_reduced (x0 y0 : Nat) (hx : x0 ≤ 1000000) (hy : 0 < y0 ∧ y0 ≤ 1000000) (w : World) :
    Calls Try.prog 77 #[.int .i64 (x0 : Int), .int .i64 (y0 : Int)] w fun e w' => e = .returned (.tuple #[.int .i64 ((x0 / Nat.gcd x0 y0 : Nat) : Int), .int .i64 ((y0 / Nat.gcd x0 y0 : Nat) : Int)]) ∧ w.heap.size ≤ w'.heap.size ∧ Below w.heap.size w w' := by
  obtain ⟨G, hG⟩ : ∃ G, Nat.gcd x0 y0 = G := ⟨_, rfl⟩
  have hG0 : 0 < G := by rw [← hG]; exact Nat.gcd_pos_of_pos_right _ hy.1
  rw [hG]
  have HG := Lib.hid hG
  clear hG
  go_enter Try.func77, Try.ntmps77
  go_wp2_with fail
  go_loopg [6, 7] y0 (fun gk av bv wr => ∃ x y : Nat, av = .int .i64 (x : Int) ∧ bv = .int .i64 (y : Int) ∧ y = gk ∧ x ≤ 1000000 ∧ y ≤ 1000000 ∧ Hid (Nat.gcd x y = G) ∧ Below w.heap.size w wr)
  case atStart => exact ⟨x0, y0, rfl, rfl, rfl, hx, hy.2, HG, Below.refl _ _⟩
  case round =>
    obtain ⟨x, y, rfl, rfl, rfl, hx1, hy1, HGC, hbr⟩ := hrel
    by_cases hlt : y = 0
    · subst hlt
      have hxg : x = G := by have := HGC.out; rwa [Nat.gcd_zero_right] at this
      subst hxg
      have hz : ((x : Int) == 0) = false := by rw [beq_eq_false_iff_ne]; omega
      have hz1 : ¬ (x : Int) = 0 := by omega
      have hz2 : (x == 0) = false := by rw [beq_eq_false_iff_ne]; omega
      have hz3 : ¬ x = 0 := by omega
      have et1 : Int.tdiv (x0 : Int) (x : Int) = ((x0 / x : Nat) : Int) := rfl
      have et2 : Int.tdiv (y0 : Int) (x : Int) = ((y0 / x : Nat) : Int) := rfl
      have d1 : x0 / x ≤ x0 := Nat.div_le_self _ _
      have d2 : y0 / x ≤ y0 := Nat.div_le_self _ _
      obtain ⟨X, hX⟩ : ∃ X, x0 / x = X := ⟨_, rfl⟩
      obtain ⟨Y, hY⟩ : ∃ Y, y0 / x = Y := ⟨_, rfl⟩
      rw [hX] at et1 d1
      rw [hY] at et2 d2
      have ew1 : IntKind.i64.wrap (X : Int) = (X : Int) := IntWalk.i64_in _ (by omega)
      have ew2 : IntKind.i64.wrap (Y : Int) = (Y : Int) := IntWalk.i64_in _ (by omega)
      have HX := Lib.hid hX
      have HY := Lib.hid hY
      clear hX hY
      go_wp2_with fail
      refine wp_region_noPanic ?_
      refine wp_region_V (fun _ => True) 10 7 (.rd 0 (.rd 1 (.rd 2 (.rd 3 (.rd 4 (.rd 5 (.alt 6 .done .nil))))))) [7] (by kernel_rfl) (by kernel_rfl) rfl (fun _ _ _ _ _ h => h) trivial ?_
      simp only [pickV, pickN, List.getElem?_cons_zero, List.getElem?_cons_succ]
      repeat (refine' wpV_read _ (by kernel_rfl) (fun w' hS' => ?_) ?_; rotate_left; (focus ((try dsimp only at hS'); go_simp; (try with_reducible rfl))); (try simp only [Act.put, List.setIfInBounds_toArray, List.set_cons_zero, List.set_cons_succ]))
      refine wpV_do (by kernel_rfl) (fun K hK => ?_)
      go_simp
      refine hK.out _ _ trivial (fun _ => ?_)
      clear hK K
      (try simp only [Act.put, List.setIfInBounds_toArray, List.set_cons_zero, List.set_cons_succ])
      refine wpV_done ?_
      go_wp2_with fail
      refine NoPanic.normal ?_
      go_wp2_with fail
      go_ret2
      exact ⟨by rw [HX.out, HY.out]; rfl, hbr.drew.size, hbr.drew⟩
    · have hb : ((y : Int) == 0) = false := by rw [beq_eq_false_iff_ne]; omega
      have hb2 : ((y : Int) != 0) = true := by rw [bne_iff_ne]; omega
      have hb3 : (y == 0) = false := by rw [beq_eq_false_iff_ne]; omega
      have hb4 : (y != 0) = true := by rw [bne_iff_ne]; omega
      have hz1 : ¬ (y : Int) = 0 := by omega
      have et1 : Int.tmod (x : Int) (y : Int) = ((x % y : Nat) : Int) := rfl
      have m1 : x % y < y := Nat.mod_lt _ (by omega)
      have HN : Hid (Nat.gcd y (x % y) = G) := by unfold Hid; rw [Nat.gcd_comm, ← Nat.gcd_rec, Nat.gcd_comm]; exact HGC.out
      obtain ⟨z, hz⟩ : ∃ z, x % y = z := ⟨_, rfl⟩
      rw [hz] at et1 m1 HN
      have ew1 : IntKind.i64.wrap (z : Int) = (z : Int) := IntWalk.i64_in _ (by omega)
      clear hz
      go_wp2_with fail
      refine wp_region_noPanic ?_
      refine wp_region_V (fun _ => True) 8 5 (.rd 0 (.rd 1 (.rd 2 (.rd 3 (.alt 4 .done .nil))))) [5] (by kernel_rfl) (by kernel_rfl) rfl (fun _ _ _ _ _ h => h) trivial ?_
      simp only [pickV, pickN, List.getElem?_cons_zero, List.getElem?_cons_succ]
      repeat (refine' wpV_read _ (by kernel_rfl) (fun w' hS' => ?_) ?_; rotate_left; (focus ((try dsimp only at hS'); go_simp; (try with_reducible rfl))); (try simp only [Act.put, List.setIfInBounds_toArray, List.set_cons_zero, List.set_cons_succ]))
      refine wpV_do (by kernel_rfl) (fun K hK => ?_)
      go_simp
      refine hK.out _ _ trivial (fun _ => ?_)
      clear hK K
      (try simp only [Act.put, List.setIfInBounds_toArray, List.set_cons_zero, List.set_cons_succ])
      refine wpV_done ?_
      go_wp2_with fail
      refine NoPanic.normal ?_
      go_wp2_with fail
      go_roundg z
      case measure => omega
      case rel => exact ⟨y, z, rfl, rfl, rfl, hy1, by omega, HN, hbr.drew⟩
set_option maxRecDepth 100000 in
theorem impl_PassingChance (q : Int) (v : Value) (es : List Int) (w : World) (h : Ints w v es) (h1 : erB q es = true) :
    Calls Try.prog 20 #[.int .i64 q, v] w fun e w' => (∃ X Y : Int, e = .returned (.tuple #[.int .i64 X, .int .i64 Y, .bool true]) ∧ (0 ≤ X ∧ X ≤ 10648) ∧ (0 ≤ Y ∧ Y ≤ 10648) ∧ X * (((q - 1).toNat ^ es.length : Nat) : Int) = cpR q es * Y) ∧ Below w.heap.size w w' := by
  obtain ⟨a, n, c, rfl⟩ := h.shape
  have H := Lib.hid h
  clear h
  obtain ⟨hq, hp, hl, he⟩ := erB_parts h1
  have HV : Hid (cpR q es = psC q es ((q - 1).toNat ^ es.length)) := by unfold Hid cpR; rw [if_pos h1]; exact (pass_same hq.1 es).symm
  have H1 := Lib.hid h1
  clear h1
  have hA := ps_pow (m := (q - 1).toNat) (k := es.length) (by omega) hl.2
  have hA0 : 0 < (q - 1).toNat ^ es.length := Nat.pow_pos (by omega)
  have hC := psC_bd q es ((q - 1).toNat ^ es.length)
  rw [HV.out]
  go_enter Try.func20, Try.ntmps20
  go_wp2_with fail
  refine (impl_areErrors q _ es _ H.out).mono ?_
  rintro e w1 ⟨rfl, hb⟩
  rw [H1.out]
  go_wp2_with fail
  refine (impl_passing q _ es _ (H.out.below hb) hq hl.2 he).mono ?_
  rintro e w2 ⟨rfl, rfl⟩
  obtain ⟨A, hAA⟩ : ∃ A, (q - 1).toNat ^ es.length = A := ⟨_, rfl⟩
  rw [hAA] at hA hA0 hC ⊢
  have HAA := Lib.hid hAA
  obtain ⟨C, hCC⟩ := Int.eq_ofNat_of_zero_le hC.1
  have HCC := Lib.hid hCC
  rw [hCC] at hC ⊢
  clear hCC
  go_wp2_with fail
  refine (impl_reduced C A (by omega) ⟨hA0, by omega⟩ _).mono ?_
  rintro e w3 ⟨rfl, _, hb3⟩
  have d1 : C / Nat.gcd C A ≤ C := Nat.div_le_self _ _
  have d2 : A / Nat.gcd C A ≤ A := Nat.div_le_self _ _
  have HR : Hid (((C / Nat.gcd C A : Nat) : Int) * (A : Int) = (C : Int) * ((A / Nat.gcd C A : Nat) : Int)) := by
    unfold Hid
    obtain ⟨x, hx⟩ := Nat.gcd_dvd_left C A
    obtain ⟨y, hy⟩ := Nat.gcd_dvd_right C A
    have hg : 0 < Nat.gcd C A := Nat.gcd_pos_of_pos_right _ hA0
    obtain ⟨g, hgg⟩ : ∃ g, Nat.gcd C A = g := ⟨_, rfl⟩
    rw [hgg] at hx hy hg ⊢
    subst hx hy
    rw [Nat.mul_div_cancel_left _ hg, Nat.mul_div_cancel_left _ hg, ← Int.natCast_mul, ← Int.natCast_mul]
    congr 1
    rw [Nat.mul_left_comm, Nat.mul_assoc]
  obtain ⟨X, hX⟩ : ∃ X, C / Nat.gcd C A = X := ⟨_, rfl⟩
  obtain ⟨Y, hY⟩ : ∃ Y, A / Nat.gcd C A = Y := ⟨_, rfl⟩
  rw [hX] at HR d1 ⊢
  rw [hY] at HR d2 ⊢
  clear hX hY
  go_wp2_with fail
  refine bodyPost_ret (v := .tuple #[.int .i64 (X : Int), .int .i64 (Y : Int), .bool true]) (by simp [results, Try.results20, go_sem]) rfl ⟨⟨(X : Int), (Y : Int), rfl, ⟨by omega, by omega⟩, ⟨by omega, by omega⟩, by rw [HAA.out, HCC.out]; exact HR.out⟩, Below.next hb hb3⟩
end Go.Proofs.Ytacpnphfopmofaa
namespace Go.Proofs.Ytacpnphfopmofaa
open Go.RowKit
set_option linter.unusedSimpArgs false
set_option linter.unusedVariables false

/-- the small exponent of a place -/
def sxI (gr : GroupD) (s : ByteArray) (l : List Int) (i : Nat) : Int := 1 + hashOf (lab s ++ (l ++ [(i : Int)])) % min 65535 (gr.q - 1)
def sxE (gr : GroupD) (s : ByteArray) (l : List Int) (n : Nat) : List Int := (List.range n).map (sxI gr s l)
theorem sxE_len (gr : GroupD) (s : ByteArray) (l : List Int) (n : Nat) : (sxE gr s l n).length = n := by unfold sxE; rw [List.length_map, List.length_range]
theorem sxE_succ (gr : GroupD) (s : ByteArray) (l : List Int) (n : Nat) : sxE gr s l (n + 1) = sxE gr s l n ++ [sxI gr s l n] := by unfold sxE; rw [List.range_succ, List.map_append]; rfl
theorem sxE_nth (gr : GroupD) (s : ByteArray) (l : List Int) {n i : Nat} (h : i < n) : nth (sxE gr s l n) i = sxI gr s l i := by unfold sxE; exact nth_range h
theorem sxE_take (gr : GroupD) (s : ByteArray) (l : List Int) {n m : Nat} (h : n ≤ m) : (sxE gr s l m).take n = sxE gr s l n := by
  unfold sxE; rw [← List.map_take, List.take_range, Nat.min_eq_left h]
theorem sxI_bd {gr : GroupD} (hq : 2 ≤ gr.q) (s : ByteArray) (l : List Int) (i : Nat) : 1 ≤ sxI gr s l i ∧ sxI gr s l i ≤ 65535 := by
  have h0 : 0 < min 65535 (gr.q - 1) := by omega
  have h1 := Int.emod_nonneg (hashOf (lab s ++ (l ++ [(i : Int)]))) (show min 65535 (gr.q - 1) ≠ 0 by omega)
  have h2 := Int.emod_lt_of_pos (hashOf (lab s ++ (l ++ [(i : Int)]))) h0
  unfold sxI
  omega
/-- a proof has the form of a proof of a bit, and its challenges sum up to the hash -/
def bfB (gr : GroupD) (s : ByteArray) (bh c : Int) (d : ProofD) : Bool := fmB gr d 2 2 2 && ((nth d.h 0 + nth d.h 1) % gr.q == btE gr s bh c (nth d.c 0) (nth d.c 1))
def atP (ps : List ProofD) (k : Nat) : ProofD := ps.getD k ⟨[], [], []⟩
/-- the first k proofs have the form -/
def bfN (gr : GroupD) (s : ByteArray) (bh : Int) (cs : List Int) (ps : List ProofD) : Nat → Bool
  | 0 => true
  | k + 1 => bfN gr s bh cs ps k && bfB gr s bh (nth cs k) (atP ps k)
theorem bfN_no {gr : GroupD} {s : ByteArray} {bh : Int} {cs : List Int} {ps : List ProofD} {j : Nat} (h : bfB gr s bh (nth cs j) (atP ps j) = false) : ∀ k, j < k → bfN gr s bh cs ps k = false := by
  intro k
  induction k with
  | zero => intro h; omega
  | succ k ih =>
    intro hk
    unfold bfN
    by_cases e : j = k
    · subst e; rw [h, Bool.and_false]
    · rw [ih (by omega), Bool.false_and]
theorem bfN_at {gr : GroupD} {s : ByteArray} {bh : Int} {cs : List Int} {ps : List ProofD} : ∀ k, bfN gr s bh cs ps k = true → ∀ j, j < k → bfB gr s bh (nth cs j) (atP ps j) = true := by
  intro k
  induction k with
  | zero => intro _ j hj; omega
  | succ k ih =>
    intro h j hj
    unfold bfN at h
    rw [Bool.and_eq_true] at h
    by_cases e : j = k
    · subst e; exact h.2
    · exact ih h.1 j (by omega)
/-- the responses of the first k proofs -/
def bfZ (ps : List ProofD) : Nat → List Int
  | 0 => []
  | k + 1 => bfZ ps k ++ (atP ps k).r
theorem bfZ_len {gr : GroupD} {s : ByteArray} {bh : Int} {cs : List Int} {ps : List ProofD} : ∀ k, bfN gr s bh cs ps k = true → (bfZ ps k).length = 2 * k := by
  intro k
  induction k with
  | zero => intro _; rfl
  | succ k ih =>
    intro h
    unfold bfN at h
    rw [Bool.and_eq_true] at h
    have h2 := h.2
    unfold bfB fmB at h2
    simp only [Bool.and_eq_true, decide_eq_true_iff] at h2
    unfold bfZ
    rw [List.length_append, ih h.1, h2.1.2.2.1]
    omega
theorem bfZ_exp {gr : GroupD} {s : ByteArray} {bh : Int} {cs : List Int} {ps : List ProofD} : ∀ k, bfN gr s bh cs ps k = true → (bfZ ps k).all (expB gr) = true := by
  intro k
  induction k with
  | zero => intro _; rfl
  | succ k ih =>
    intro h
    unfold bfN at h
    rw [Bool.and_eq_true] at h
    have h2 := h.2
    unfold bfB fmB at h2
    simp only [Bool.and_eq_true, decide_eq_true_iff] at h2
    unfold bfZ
    rw [List.all_append, ih h.1, h2.1.2.2.2.2.2]
    rfl
/-- the quotient of a case -/
def bfT (gr : GroupD) (bh c : Int) (d : ProofD) (k : Nat) : Int := mulL gr [powE gr bh (nth d.r k), powE gr (mulL gr [nth d.c k, powE gr (bcI gr c (k : Int)) (nth d.h k)]) (-1)]
/-- the product, case by case -/
def bfP (gr : GroupD) (bh : Int) (cs : List Int) (ps : List ProofD) (ds : List Int) : Nat → Int
  | 0 => 1
  | j + 1 => mulL gr [bfP gr bh cs ps ds j, powE gr (bfT gr bh (nth cs (j / 2)) (atP ps (j / 2)) (j % 2)) (nth ds j)]
theorem bfP_succ (gr : GroupD) (bh : Int) (cs : List Int) (ps : List ProofD) (ds : List Int) (k m : Nat) (h : m < 2) : bfP gr bh cs ps ds (2 * k + m + 1) = mulL gr [bfP gr bh cs ps ds (2 * k + m), powE gr (bfT gr bh (nth cs k) (atP ps k) m) (nth ds (2 * k + m))] := by
  rw [show bfP gr bh cs ps ds (2 * k + m + 1) = mulL gr [bfP gr bh cs ps ds (2 * k + m), powE gr (bfT gr bh (nth cs ((2 * k + m) / 2)) (atP ps ((2 * k + m) / 2)) ((2 * k + m) % 2)) (nth ds (2 * k + m))] from rfl, show (2 * k + m) / 2 = k by omega, show (2 * k + m) % 2 = m by omega]
noncomputable def bbB (gr : GroupD) (bh : Int) (bl cs : List Int) (ps : List ProofD) : Bool := baB gr bh bl && (decide (cs.length ≤ 12) && (decide (ps.length = cs.length) && cs.all (elB gr)))
def bbV (gr : GroupD) (s t : ByteArray) (bh : Int) (cs : List Int) (ps : List ProofD) : Bool := bfN gr s bh cs ps ps.length && (bfP gr bh cs ps (sxE gr t (bfZ ps ps.length) (2 * ps.length)) (2 * ps.length) == 1)
noncomputable def bbR (gr : GroupD) (s t : ByteArray) (bh : Int) (bl cs : List Int) (ps : List ProofD) : Bool := bbB gr bh bl cs ps && bbV gr s t bh cs ps
end Go.Proofs.Ytacpnphfopmofaa
namespace Go.Proofs.Ytacpnphfopmofaa
open Go.RowKit
set_option linter.unusedSimpArgs false
set_option linter.unusedVariables false

theorem spec_l1LeastC (a b : Int) (w : World) :
    Calls Try.prog 157 #[.int .i64 a, .int .i64 b] w fun e w' => e = .returned (.int .i64 (min a b)) ∧ Below w.heap.size w w' := by
  by_cases h : a < b
  · have e : min a b = a := by omega
    rw [e]
    have hd : decide (a < b) = true := decide_eq_true h
    go_enter Try.func157, Try.ntmps157
    go_wp2_with fail
    go_ret
    exact ⟨rfl, Below.refl _ _⟩
  · have e : min a b = b := by omega
    rw [e]
    have hd : decide (a < b) = false := decide_eq_false h
    go_enter Try.func157, Try.ntmps157
    go_wp2_with fail
    go_ret
    exact ⟨rfl, Below.refl _ _⟩
end Go.Proofs.Ytacpnphfopmofaa
