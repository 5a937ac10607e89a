/- The greatest code of a contest: plain laws, codes of digits. -/
import Derived.Test.YtboahnklilmdpaaCtW
import Derived.Test.YtboahnklilmdpaaBaW
import Derived.Test.YtboahnklilmdpaaRegVW
import Derived.Test.YtboahnklilmdpaaPow2W
import Derived.Test.YtboahnklilmdpaaBgW
import Derived.Test.YtboahnklilmdpaaRegPW
import Derived.Test.YtboahnklilmdpaaBmW
namespace Go.Proofs.Ytboahnklilmdpaa
open Go.RowKit
set_option linter.unusedSimpArgs false
set_option linter.unusedVariables false

/-- the list of f 0, f 1, .. of length n -/
def tab (n : Nat) (f : Nat → Int) : List Int := (List.range n).map f
theorem tab_length (n : Nat) (f : Nat → Int) : (tab n f).length = n := by simp [tab]
theorem tab_mem {n : Nat} {f : Nat → Int} {x : Int} (h : x ∈ tab n f) : ∃ i, i < n ∧ f i = x := by
  simp only [tab, List.mem_map, List.mem_range] at h; exact h
/-- the number of digits, the last digit first -/
def codeL (b : Int) (l : List Int) : Int := l.foldr (fun d c => c * b + d) 0
/-- digits -/
def Digs (l : List Int) : Prop := l.length ≤ 8 ∧ ∀ x ∈ l, 0 ≤ x ∧ x ≤ 26
theorem codeL_bd0 {b : Int} (h1 : 0 ≤ b) (h2 : b ≤ 27) (l : List Int) : (∀ x ∈ l, 0 ≤ x ∧ x ≤ 26) → 0 ≤ codeL b l ∧ codeL b l < 27 ^ l.length := by
  induction l with
  | nil => intro _; exact ⟨Int.le_refl _, by show (0 : Int) < 27 ^ 0; decide⟩
  | cons a l ih =>
    intro h
    obtain ⟨i1, i2⟩ := ih (fun x hx => h x (List.mem_cons_of_mem _ hx))
    obtain ⟨a1, a2⟩ := h a (List.mem_cons_self ..)
    obtain ⟨m1, m2⟩ := mul_bd (a := codeL b l) (b := b) (A := 27 ^ l.length - 1) i1 (by omega) h1 h2
    have e : codeL b (a :: l) = codeL b l * b + a := rfl
    rw [e, List.length_cons, Int.pow_succ]
    omega
theorem codeL_bd {b : Int} (h1 : 0 ≤ b) (h2 : b ≤ 27) {l : List Int} (h : Digs l) : 0 ≤ codeL b l ∧ codeL b l ≤ 282429536480 := by
  obtain ⟨a, b⟩ := codeL_bd0 h1 h2 l h.2
  refine ⟨a, ?_⟩
  have h3 : l.length < 9 := by have := h.1; omega
  have e : (27 : Int) ^ l.length ≤ 282429536481 := by
    generalize l.length = n at h3
    obtain ⟨j, rfl⟩ : ∃ j : Fin 9, n = j := ⟨⟨n, h3⟩, rfl⟩
    revert j; decide
  omega
theorem Digs.drop {l : List Int} (h : Digs l) (k : Nat) : Digs (l.drop k) := ⟨by have := h.1; simp; omega, fun x hx => h.2 x (List.mem_of_mem_drop hx)⟩
theorem Digs.at_ {l : List Int} (h : Digs l) {k : Nat} (hk : k < l.length) : 0 ≤ nth l k ∧ nth l k ≤ 26 := by rw [nth_eq hk]; exact h.2 _ (List.getElem_mem hk)
/-- the base of a contest's codes -/
def ctBase (k o p : Int) : Int := if k = 2 then p + 1 else if k = 3 then o + 1 else if k = 4 then 27 else 2
/-- n digits that hold r, each of at most p, the last ones first -/
def scoreL (p : Int) : Nat → Int → List Int
  | 0, _ => []
  | n + 1, r => scoreL p n (r - min r p) ++ [min r p]
theorem scoreL_length (p : Int) (n : Nat) : ∀ r, (scoreL p n r).length = n := by
  induction n with
  | zero => intro r; rfl
  | succ n ih => intro r; simp [scoreL, ih]
theorem scoreL_digs {p : Int} (hp0 : 0 ≤ p) (hp : p ≤ 26) (n : Nat) : ∀ r, 0 ≤ r → ∀ x ∈ scoreL p n r, 0 ≤ x ∧ x ≤ 26 := by
  induction n with
  | zero => intro r _ x hx; cases hx
  | succ n ih =>
    intro r hr x hx
    rw [scoreL, List.mem_append] at hx
    rcases hx with hx | hx
    · exact ih _ (by omega) x hx
    · simp at hx; omega
/-- the digits of the greatest code -/
def grD (k : Int) (o m : Nat) (p : Int) : List Int :=
  if k = 1 then tab o (fun i => if (o : Int) - m ≤ i then 1 else 0)
  else if k = 2 then scoreL p o m
  else if k = 3 then tab m (fun i => (o : Int) - m + 1 + i)
  else tab m (fun _ => 26)
/-- the greatest code -/
def ctGr (k o m p : Int) : Int := codeL (ctBase k o p) (grD k o.toNat m.toNat p)
/-- what bounds a valid contest's numbers -/
structure CtN (k : Int) (o m : Nat) (p : Int) : Prop where
  k1 : k = 1 ∨ k = 2 ∨ k = 3 ∨ k = 4
  o8 : o ≤ 8
  p0 : 0 ≤ p
  p5 : p ≤ 5
  m40 : m ≤ 40
  mo : k = 1 ∨ k = 3 → m ≤ o
  m4 : k = 4 → m ≤ 5
theorem CtN.of {k o l m p : Int} (h : ctOk k o l m p = true) : ∃ on mn : Nat, o = on ∧ m = mn ∧ CtN k on mn p := by
  have hb := ctOk_bd h
  unfold ctOk at h; rw [decide_eq_true_iff] at h
  refine ⟨o.toNat, m.toNat, by omega, by omega, ⟨by omega, by omega, by omega, by omega, by omega, by omega, by omega⟩⟩
theorem CtN.digs {k p : Int} {o m : Nat} (h : CtN k o m p) : Digs (grD k o m p) := by
  obtain ⟨hk, ho, hp0, hp5, hm, hmo, hm4⟩ := h
  unfold grD
  rcases hk with rfl | rfl | rfl | rfl
  · have := hmo (.inl rfl)
    refine ⟨by simp [tab_length]; omega, fun x hx => ?_⟩
    simp only [if_true] at hx
    obtain ⟨i, hi, rfl⟩ := tab_mem hx
    split <;> omega
  · refine ⟨by simp [scoreL_length]; omega, fun x hx => ?_⟩
    exact scoreL_digs hp0 (by omega) o m (by omega) x (by simpa using hx)
  · have := hmo (.inr rfl)
    refine ⟨by simp [tab_length]; omega, fun x hx => ?_⟩
    obtain ⟨i, hi, rfl⟩ := tab_mem (show x ∈ tab m _ by simpa using hx)
    omega
  · have := hm4 rfl
    refine ⟨by simp [tab_length]; omega, fun x hx => ?_⟩
    obtain ⟨i, hi, rfl⟩ := tab_mem (show x ∈ tab m _ by simpa using hx)
    omega
theorem CtN.base {k p : Int} {o m : Nat} (h : CtN k o m p) : 0 ≤ ctBase k o p ∧ ctBase k o p ≤ 27 := by
  have := h.o8; have := h.p0; have := h.p5
  unfold ctBase; split
  · omega
  · split
    · omega
    · split <;> omega
theorem CtN.gr {k p : Int} {o m : Nat} (h : CtN k o m p) : 0 ≤ ctGr k o m p ∧ ctGr k o m p ≤ 282429536480 := by
  have := codeL_bd h.base.1 h.base.2 h.digs
  unfold ctGr; simpa using this
end Go.Proofs.Ytboahnklilmdpaa
namespace Go.Proofs.Ytboahnklilmdpaa
open Go.RowKit
set_option linter.unusedSimpArgs false
set_option linter.unusedVariables false

theorem BoxN.belowB {w w' : World} {b B : Nat} {t : TypeId} {cs : List Value} (h : BoxN w b t cs) (hb : Below B w w') (hB : b < B) : BoxN w' b t cs := (hb.block b hB).trans h
end Go.Proofs.Ytboahnklilmdpaa
namespace Go.Proofs.Ytboahnklilmdpaa
open Go.RowKit
set_option linter.unusedSimpArgs false
set_option linter.unusedVariables false

theorem OwnI.other {w : World} {B b : Nat} {v : Value} {l : List Int} (h : OwnI w B v l) (hb : b < B) (j : Nat) (x : Value) : OwnI (w.setCell ⟨b, j, none⟩ x) B v l :=
  h.kept (grownBy_setCell _ b j x) (.inr fun e => by have := (h.lt _ e).1; omega)
/-- a row of integers and a box of another type lie in different blocks -/
theorem OwnI.apart {w : World} {B b : Nat} {v : Value} {l : List Int} {t : TypeId} {cs : List Value} (h : OwnI w B v l) (hx : BoxN w b t cs) (ht : t ≠ 3) : ∀ k, v.ownBlock = some k → b ≠ k := by
  rintro k hk rfl
  rcases h.2.2 with h2 | ⟨g, cap, cur, rfl, hg, hr, r⟩
  · rw [h2.1] at hk; cases hk
  · cases hk
    unfold BoxN at hx
    rw [hx] at hr
    injection hr with hr
    injection hr with h1 h2 h3
    exact ht h2
end Go.Proofs.Ytboahnklilmdpaa
namespace Go.Proofs.Ytboahnklilmdpaa
open Go.RowKit
set_option linter.unusedSimpArgs false
set_option linter.unusedVariables false

/-- the product of two residues -/
theorem mulT {gr : GroupD} (a b : Int) : mulL gr [a, b] = a * b % gr.p := by
  unfold mulL
  simp only [List.foldl_cons, List.foldl_nil, Int.one_mul]
  rw [emod_mul_left]
theorem elT {gr : GroupD} (hg : OkG gr) {x : Int} (h0 : 0 ≤ x) (h1 : x < gr.p) (h : powM x gr.q gr.p = 1) : elB gr x = true := by
  have hp := hg.p1
  have hq := hg.q1
  have h2 : x ≠ 0 := fun h3 => by
    rw [h3] at h
    unfold powM at h
    obtain ⟨n, hn⟩ : ∃ n, gr.q.toNat = n + 1 := ⟨gr.q.toNat - 1, by omega⟩
    rw [hn, Int.pow_succ, Int.mul_zero] at h
    simp at h
  unfold elB
  rw [h, Bool.and_eq_true, decide_eq_true_iff]
  exact ⟨by omega, rfl⟩
theorem elT_mod {gr : GroupD} (hg : OkG gr) {x : Int} (h : elB gr x = true) : x % gr.p = x := by
  obtain ⟨h1, h2⟩ := elB_bd h
  exact Int.emod_eq_of_lt (by omega) (by omega)
theorem elT_mul {gr : GroupD} (hg : OkG gr) {a b : Int} (ha : elB gr a = true) (hb : elB gr b = true) : elB gr (a * b % gr.p) = true := by
  have hp := hg.p1
  refine elT hg (Int.emod_nonneg _ (by omega)) (Int.emod_lt_of_pos _ (by omega)) ?_
  have h1 := elB_pow ha
  have h2 := elB_pow hb
  unfold powM at h1 h2 ⊢
  rw [emod_pow, Int.mul_pow, Int.mul_emod, h1, h2]
  exact Int.emod_eq_of_lt (by omega) (by omega)
theorem pow_one_mod {a p : Int} (hp : 1 < p) (h : a % p = 1) (k : Nat) : a ^ k % p = 1 := by
  rw [← emod_pow, h, Int.one_pow]
  exact Int.emod_eq_of_lt (by omega) hp
theorem elT_pow {gr : GroupD} (hg : OkG gr) {x : Int} (h : elB gr x = true) (e : Int) : elB gr (powE gr x e) = true := by
  have hp := hg.p1
  obtain ⟨h1, h2⟩ := powE_bd hg x e
  refine elT hg h1 h2 ?_
  have h3 := elB_pow h
  unfold powM at h3
  unfold powE powM
  rw [emod_pow, ← Int.pow_mul, Nat.mul_comm, Int.pow_mul]
  exact pow_one_mod (by omega) h3 _
theorem powE_emod (gr : GroupD) (x e : Int) : powE gr x (e % gr.q) = powE gr x e := by
  unfold powE; rw [Int.emod_emod]
/-- a power of an element goes by the residue of the exponent -/
theorem powE_nat {gr : GroupD} (hg : OkG gr) {x : Int} (h : elB gr x = true) (k : Nat) : powE gr x (k : Int) = x ^ k % gr.p := by
  have hq := hg.q1
  have h1 := elB_pow h
  obtain ⟨d, hd⟩ : ∃ d : Nat, gr.q = d := ⟨gr.q.toNat, by omega⟩
  have h2 : yE gr x d = 1 := by rw [hd] at h1; exact h1
  have h3 := yE_mod gr x (d := d) (by omega) h2 k
  have e1 : ((k : Int) % gr.q) = ((k % d : Nat) : Int) := by rw [hd]; omega
  show powM x ((k : Int) % gr.q) gr.p = x ^ k % gr.p
  rw [e1]
  exact h3.symm
theorem powE_pow {gr : GroupD} (hg : OkG gr) {x : Int} (h : elB gr x = true) (a b : Int) : powE gr (powE gr x a) b = powE gr x (a * b) := by
  have hq := hg.q1
  have e1 : 0 ≤ a % gr.q := Int.emod_nonneg _ (by omega)
  have e2 : 0 ≤ b % gr.q := Int.emod_nonneg _ (by omega)
  obtain ⟨i, hi⟩ : ∃ i : Nat, a % gr.q = i := ⟨(a % gr.q).toNat, by omega⟩
  obtain ⟨j, hj⟩ : ∃ j : Nat, b % gr.q = j := ⟨(b % gr.q).toNat, by omega⟩
  rw [← powE_emod gr x (a * b), Int.mul_emod, hi, hj, powE_emod, ← powE_emod gr (powE gr x a) b, hj, powE_nat hg (elT_pow hg h a), ← powE_emod gr x a, hi, powE_nat hg h, emod_pow, ← Int.pow_mul, show ((i : Int) * (j : Int)) = ((i * j : Nat) : Int) by rw [Int.natCast_mul], powE_nat hg h]
theorem powE_single {gr : GroupD} (hg : OkG gr) {x : Int} (h : elB gr x = true) : powE gr x 1 = x := by
  have h1 := powE_nat hg h 1
  rw [Int.pow_succ, Int.pow_zero, Int.one_mul, elT_mod hg h] at h1
  exact h1
theorem powE_eq {gr : GroupD} {x a b : Int} (h : a % gr.q = b % gr.q) : powE gr x a = powE gr x b := by
  rw [← powE_emod gr x a, h, powE_emod]
end Go.Proofs.Ytboahnklilmdpaa
namespace Go.Proofs.Ytboahnklilmdpaa
open Go.RowKit
set_option linter.unusedSimpArgs false
set_option linter.unusedVariables false

/-- what a round of Euclid's algorithm keeps: r and n are multiples of a (by x and y), the coefficients stay below m, a common divisor divides both -/
def EuInv (a m r n x y : Int) : Prop :=
  0 ≤ n ∧ 1 ≤ r ∧ r ≤ m ∧ n ≤ m ∧ (∃ u v : Int, 0 ≤ u ∧ 0 ≤ v ∧ u * n + v * r = m ∧ u ≤ m ∧ v ≤ m ∧ ((x = u ∧ y = -v) ∨ (x = -u ∧ y = v))) ∧ m ∣ x * a - r ∧ m ∣ y * a - n ∧ (∀ d : Int, d ∣ r → d ∣ n → d ∣ m ∧ d ∣ a)
theorem EuInv.start {a m : Int} (h0 : 0 ≤ a) (h1 : a ≤ m) (hm : 1 ≤ m) : EuInv a m m a 0 1 := by
  refine ⟨h0, hm, Int.le_refl _, h1, ⟨0, 1, by omega, by omega, by omega, by omega, hm, .inr ⟨rfl, rfl⟩⟩, ⟨-1, by omega⟩, ⟨0, by omega⟩, fun d h2 h3 => ⟨h2, h3⟩⟩
theorem EuInv.quo {a m r n x y : Int} (h : EuInv a m r n x y) (hn : 0 < n) : 0 ≤ r / n ∧ r / n ≤ m ∧ 0 ≤ r / n * n ∧ r / n * n ≤ r ∧ r - r / n * n < n ∧ 0 ≤ r - r / n * n := by
  obtain ⟨h0, h1, h2, h3, _⟩ := h
  have e1 : 0 ≤ r / n := Int.ediv_nonneg (by omega) (by omega)
  have e2 : r / n * n ≤ r := Int.ediv_mul_le _ (by omega)
  have e3 : r - r / n * n = r % n := by have := Int.emod_def r n; rw [this, Int.mul_comm]
  have e4 := Int.emod_lt_of_pos r hn
  have e5 : r / n ≤ r := Int.ediv_le_self _ (by omega)
  exact ⟨e1, by omega, Int.mul_nonneg e1 (by omega), e2, by omega, by omega⟩
theorem EuInv.step {a m r n x y : Int} (h : EuInv a m r n x y) (hn : 0 < n) : EuInv a m n (r - r / n * n) y (x - r / n * y) ∧ -m ≤ r / n * y ∧ r / n * y ≤ m := by
  obtain ⟨q0, q1, q2, q3, q4, q5⟩ := h.quo hn
  obtain ⟨h0, h1, h2, h3, ⟨u, v, h4, h5, h6, h7, h8, h9⟩, h10, h11, h12⟩ := h
  obtain ⟨q, hq⟩ : ∃ q, r / n = q := ⟨_, rfl⟩
  rw [hq] at q0 q1 q2 q3 q4 q5 ⊢
  have hqv : 0 ≤ q * v := Int.mul_nonneg q0 h5
  have e1 : (u + q * v) * n + v * (r - q * n) = u * n + v * r - (v * (q * n) - q * v * n) := by
    rw [Int.add_mul, Int.mul_sub]; omega
  have e2 : v * (q * n) = q * v * n := by ac_rfl
  have e3 : v * n + (u + q * v) * 0 = v * n := by omega
  -- the coefficients: v and u + q v
  have e4 : v * (r - q * n) + (u + q * v) * n = m := by rw [Int.add_comm, e1, e2]; omega
  have e5 : u + q * v ≤ m := by
    have s1 : 0 ≤ v * (r - q * n) := Int.mul_nonneg h5 q5
    have s2 : (u + q * v) * 1 ≤ (u + q * v) * n := Int.mul_le_mul_of_nonneg_left (by omega) (by omega)
    omega
  have e6 : -m ≤ q * y ∧ q * y ≤ m := by
    rcases h9 with ⟨_, rfl⟩ | ⟨_, rfl⟩
    · rw [Int.mul_neg]; omega
    · omega
  refine ⟨⟨q5, by omega, h3, by omega, ⟨v, u + q * v, h5, by omega, e4, h8, e5, ?_⟩, h11, ?_, fun d d1 d2 => ?_⟩, e6.1, e6.2⟩
  · rcases h9 with ⟨rfl, rfl⟩ | ⟨rfl, rfl⟩
    · exact .inr ⟨rfl, by rw [Int.mul_neg]; omega⟩
    · exact .inl ⟨rfl, by omega⟩
  · obtain ⟨c1, k1⟩ := h10
    obtain ⟨c2, k2⟩ := h11
    refine ⟨c1 - q * c2, ?_⟩
    have s1 : (x - q * y) * a - (r - q * n) = (x * a - r) - q * (y * a - n) := by
      rw [Int.sub_mul, Int.mul_sub, Int.mul_assoc]; omega
    rw [s1, k1, k2, Int.mul_sub]
    congr 1
    ac_rfl
  · refine h12 d ?_ d1
    obtain ⟨c1, k1⟩ := d1
    obtain ⟨c2, k2⟩ := d2
    refine ⟨c2 + q * c1, ?_⟩
    rw [Int.mul_add]
    have s1 : d * (q * c1) = q * n := by rw [k1]; ac_rfl
    omega
theorem Prm.gcd_one {a m r : Int} (hm : Prm m) (h0 : 0 < a) (h1 : a < m) (hr : 1 ≤ r) (h2 : r ∣ m) (h3 : r ∣ a) : r = 1 := by
  by_cases h : r = 1
  · exact h
  · exfalso
    have hra : r ≤ a := Int.le_of_dvd h0 h3
    obtain ⟨c, hc⟩ := h2
    have hc1 : 1 < c := by
      have s0 : 0 < c := by
        apply Int.not_le.1
        intro hle
        have s2 : r * c ≤ r * 0 := Int.mul_le_mul_of_nonneg_left hle (by omega)
        have := hm.1
        omega
      have s1 : c ≠ 1 := fun e => by rw [e] at hc; omega
      omega
    by_cases hle : r * r ≤ m
    · exact hm.2 r (by omega) hle (Int.emod_eq_zero_of_dvd ⟨c, hc⟩)
    · have hcr : c * c ≤ m := by
        have s1 : c ≤ r := by
          apply Int.not_lt.1
          intro hlt
          have : r * r ≤ r * c := Int.mul_le_mul_of_nonneg_left (by omega) (by omega)
          omega
        rw [hc]
        exact Int.mul_le_mul_of_nonneg_right s1 (by omega)
      exact hm.2 c (by omega) hcr (Int.emod_eq_zero_of_dvd ⟨r, by rw [hc, Int.mul_comm]⟩)
/-- the inverse of an exponent, found by Euclid's algorithm -/
theorem EuInv.done {a m r x y : Int} (h : EuInv a m r 0 x y) (hm : Prm m) (h0 : 0 < a) (h1 : a < m) : r = 1 ∧ a * (x % m) % m = 1 := by
  obtain ⟨_, h2, _, _, _, h3, _, h4⟩ := h
  obtain ⟨d1, d2⟩ := h4 r (Int.dvd_refl _) (Int.dvd_zero _)
  have hr := hm.gcd_one h0 h1 h2 d1 d2
  subst hr
  refine ⟨rfl, ?_⟩
  obtain ⟨c, hc⟩ := h3
  have hm2 := hm.1
  rw [emod_mul_right, Int.mul_comm, show x * a = 1 + m * c by omega, Int.add_mul_emod_self_left]
  exact Int.emod_eq_of_lt (by omega) (by omega)
theorem EuInv.ends {a m : Int} (hm : Prm m) (h0 : 0 < a) (h1 : a < m) : ∀ (k : Nat) (r n x y : Int), n.toNat ≤ k → EuInv a m r n x y → ∃ z, a * z % m = 1
  | 0, r, n, x, y, hk, h => by
    have h2 := h.1
    have e : n = 0 := by omega
    rw [e] at h
    exact ⟨_, (h.done hm h0 h1).2⟩
  | k + 1, r, n, x, y, hk, h => by
    have h2 := h.1
    by_cases e : n = 0
    · rw [e] at h
      exact ⟨_, (h.done hm h0 h1).2⟩
    · have h3 := h.quo (by omega)
      have h4 := (h.step (by omega)).1
      exact EuInv.ends hm h0 h1 k _ _ _ _ (by omega) h4
theorem inverse_is {a m : Int} (hm : Prm m) (h0 : 0 < a) (h1 : a < m) : ∃ z, a * z % m = 1 :=
  EuInv.ends hm h0 h1 a.toNat m a 0 1 (Nat.le_refl _) (EuInv.start (by omega) (by omega) (by have := hm.1; omega))
theorem inverse_bd {a m : Int} (hm : Prm m) (h0 : 0 < a) (h1 : a < m) : ∃ z, (0 ≤ z ∧ z < m) ∧ a * z % m = 1 := by
  obtain ⟨z, hz⟩ := inverse_is hm h0 h1
  have := hm.1
  exact ⟨z % m, ⟨Int.emod_nonneg _ (by omega), Int.emod_lt_of_pos _ (by omega)⟩, by rw [emod_mul_right]; exact hz⟩
open Classical in
/-- the inverse of an exponent -/
noncomputable def invQ (a m : Int) : Int := if h : ∃ z, (0 ≤ z ∧ z < m) ∧ a * z % m = 1 then h.choose else 0
theorem invQ_is {a m : Int} (hm : Prm m) (h0 : 0 < a) (h1 : a < m) : (0 ≤ invQ a m ∧ invQ a m < m) ∧ a * invQ a m % m = 1 := by
  have h := inverse_bd hm h0 h1
  unfold invQ
  rw [dif_pos h]
  exact h.choose_spec
theorem invQ_one {a m y : Int} (hm : Prm m) (h0 : 0 < a) (h1 : a < m) (hy : 0 ≤ y ∧ y < m) (h : a * y % m = 1) : y = invQ a m := by
  obtain ⟨hz, hz2⟩ := invQ_is hm h0 h1
  obtain ⟨z, e⟩ : ∃ z, invQ a m = z := ⟨_, rfl⟩
  rw [e] at hz hz2 ⊢
  have e1 : (y * (a * z)) % m = y := by rw [← emod_mul_right, hz2, Int.mul_one]; exact Int.emod_eq_of_lt hy.1 hy.2
  have e2 : (y * (a * z)) % m = z := by
    rw [show y * (a * z) = (a * y) * z by ac_rfl, ← emod_mul_left, h, Int.one_mul]; exact Int.emod_eq_of_lt hz.1 hz.2
  rw [← e1, e2]
theorem EuInv.inv {a m r x y : Int} (h : EuInv a m r 0 x y) (hm : Prm m) (h0 : 0 < a) (h1 : a < m) : r = 1 ∧ x % m = invQ a m := by
  obtain ⟨e1, e2⟩ := h.done hm h0 h1
  exact ⟨e1, invQ_one hm h0 h1 ⟨Int.emod_nonneg _ (by omega), Int.emod_lt_of_pos _ (by omega)⟩ e2⟩
end Go.Proofs.Ytboahnklilmdpaa
/- The struct Proof as a kind (printed by genkind.py): its data, its row, the walks of the laws' helpers. -/

namespace Go.Proofs.Ytboahnklilmdpaa
open Go.RowKit
set_option linter.unusedSimpArgs false
set_option linter.unusedVariables false

structure ProofD where
  c : List Int
  h : List Int
  r : List Int
deriving DecidableEq
end Go.Proofs.Ytboahnklilmdpaa
/- The struct Head as a kind (printed by genkind.py): its data, its row, the walks of the laws' helpers. -/


namespace Go.Proofs.Ytboahnklilmdpaa
open Go.RowKit
set_option linter.unusedSimpArgs false
set_option linter.unusedVariables false

end Go.Proofs.Ytboahnklilmdpaa
/- The struct Entry as a kind (printed by genkind.py): its data, its row, the walks of the laws' helpers. -/


namespace Go.Proofs.Ytboahnklilmdpaa
open Go.RowKit
set_option linter.unusedSimpArgs false
set_option linter.unusedVariables false

end Go.Proofs.Ytboahnklilmdpaa
namespace Go.Proofs.Ytboahnklilmdpaa
open Go.RowKit
set_option linter.unusedSimpArgs false
set_option linter.unusedVariables false

/-- a proof in memory -/
def PfR (w : World) (v : Value) (d : ProofD) : Prop := ∃ a b c, v = .agg #[a, b, c] ∧ Ints w a d.c ∧ Ints w b d.h ∧ Ints w c d.r
theorem PfR.below {w w' : World} {v : Value} {d : ProofD} (h : PfR w v d) (hb : Below w.heap.size w w') : PfR w' v d := by
  obtain ⟨a, b, c, e, h1, h2, h3⟩ := h; exact ⟨a, b, c, e, h1.below hb, h2.below hb, h3.below hb⟩
theorem PfR.mk {w : World} {a b c : Value} {d : ProofD} (h1 : Ints w a d.c) (h2 : Ints w b d.h) (h3 : Ints w c d.r) : PfR w (.agg #[a, b, c]) d := ⟨a, b, c, rfl, h1, h2, h3⟩
/-- a proof in new memory and a Bool are returned -/
def RetP (e : Ending) (w : World) (B : Nat) (b : Bool) (d : ProofD) : Prop := ∃ x y z, e = .returned (.tuple #[.agg #[x, y, z], .bool b]) ∧ OwnI w B x d.c ∧ OwnI w B y d.h ∧ OwnI w B z d.r
theorem RetP.mk {w : World} {B : Nat} {x y z : Value} {b : Bool} {d : ProofD} (h1 : OwnI w B x d.c) (h2 : OwnI w B y d.h) (h3 : OwnI w B z d.r) : RetP (.returned (.tuple #[.agg #[x, y, z], .bool b])) w B b d := ⟨x, y, z, rfl, h1, h2, h3⟩
end Go.Proofs.Ytboahnklilmdpaa
namespace Go.Proofs.Ytboahnklilmdpaa
open Go.RowKit
set_option linter.unusedSimpArgs false
set_option linter.unusedVariables false

/-- what holds in every world that agrees in the blocks from B on below T -/
def SinceT (B T : Nat) (w : World) (P : World → Prop) : Prop := T ≤ w.heap.size ∧ ∀ w', w.heap.size ≤ w'.heap.size → (∀ k, B ≤ k → k < T → w'.heap[k]? = w.heap[k]?) → P w'
theorem SinceT.of {B T : Nat} {w W : World} {P : World → Prop} (h : Since B w P) (hb : Below w.heap.size w W) (hT : w.heap.size ≤ T ∧ T ≤ W.heap.size) : SinceT B T W P :=
  ⟨hT.2, fun w' hs hk => h w' (Nat.le_trans hb.size hs) fun k h1 h2 => (hk k h1 (by omega)).trans (hb.block k h2)⟩
theorem SinceT.here {B T : Nat} {w : World} {P : World → Prop} (h : SinceT B T w P) : P w := h.2 w (Nat.le_refl _) fun _ _ _ => rfl
theorem SinceT.step {B T : Nat} {w w' : World} {P : World → Prop} (h : SinceT B T w P) (hs : w.heap.size ≤ w'.heap.size) (hb : ∀ k, B ≤ k → k < T → w'.heap[k]? = w.heap[k]?) : SinceT B T w' P :=
  ⟨Nat.le_trans h.1 hs, fun u h1 h2 => h.2 u (Nat.le_trans hs h1) fun k hk hlt => (h2 k hk hlt).trans (hb k hk hlt)⟩
theorem SinceT.within {B T lo hi : Nat} {w w' : World} {P : World → Prop} (h : SinceT B T w P) (hw : Within lo hi w w') (hT : T ≤ lo ∨ hi ≤ B) : SinceT B T w' P :=
  h.step hw.size fun k hk hlt => hw.block k (by have := h.1; omega) (by omega)
theorem SinceT.below {B T : Nat} {w w' : World} {P : World → Prop} (h : SinceT B T w P) (hb : Below w.heap.size w w') : SinceT B T w' P := h.step hb.size fun k _ hlt => hb.block k (by have := h.1; omega)
theorem SinceT.mono {B B' T : Nat} {w : World} {P : World → Prop} (h : SinceT B T w P) (hB : B' ≤ B) : Since B' w P := fun w' hs hk => h.2 w' hs fun k h1 h2 => hk k (by omega) (by have := h.1; omega)
end Go.Proofs.Ytboahnklilmdpaa
