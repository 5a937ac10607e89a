/- The algebra of groups: powers and products of elements: plain Lean. -/
import Derived.Test.YtacpnphfopmofaaGreatPow2S
import Derived.Test.YtacpnphfopmofaaGreatRegPS
namespace Go.Proofs.YtacpnphfopmofaaGreat
open Go.RowKit
set_option linter.unusedSimpArgs false
set_option linter.unusedVariables false

/-- the product of two residues -/
theorem mulT {gr : GroupD} (a b : Int) : mulL gr [a, b] = a * b % gr.p := by
  unfold mulL
  simp only [List.foldl_cons, List.foldl_nil, Int.one_mul]
  rw [emod_mul_left]
theorem elT {gr : GroupD} (hg : OkG gr) {x : Int} (h0 : 0 ≤ x) (h1 : x < gr.p) (h : powM x gr.q gr.p = 1) : elB gr x = true := by
  have hp := hg.p1
  have hq := hg.q1
  have h2 : x ≠ 0 := fun h3 => by
    rw [h3] at h
    unfold powM at h
    obtain ⟨n, hn⟩ : ∃ n, gr.q.toNat = n + 1 := ⟨gr.q.toNat - 1, by omega⟩
    rw [hn, Int.pow_succ, Int.mul_zero] at h
    simp at h
  unfold elB
  rw [h, Bool.and_eq_true, decide_eq_true_iff]
  exact ⟨by omega, rfl⟩
theorem elT_mod {gr : GroupD} (hg : OkG gr) {x : Int} (h : elB gr x = true) : x % gr.p = x := by
  obtain ⟨h1, h2⟩ := elB_bd h
  exact Int.emod_eq_of_lt (by omega) (by omega)
theorem elT_mul {gr : GroupD} (hg : OkG gr) {a b : Int} (ha : elB gr a = true) (hb : elB gr b = true) : elB gr (a * b % gr.p) = true := by
  have hp := hg.p1
  refine elT hg (Int.emod_nonneg _ (by omega)) (Int.emod_lt_of_pos _ (by omega)) ?_
  have h1 := elB_pow ha
  have h2 := elB_pow hb
  unfold powM at h1 h2 ⊢
  rw [emod_pow, Int.mul_pow, Int.mul_emod, h1, h2]
  exact Int.emod_eq_of_lt (by omega) (by omega)
theorem elT_gen {gr : GroupD} (h : goodG gr = true) : elB gr gr.g = true := by
  have hg := goodG_ok h
  refine elT hg (by have := hg.g1; omega) (by have := hg.g2; omega) ?_
  unfold goodG at h
  simp only [Bool.and_eq_true, beq_iff_eq] at h
  exact h.2.2.2.2.2.2
theorem pow_one_mod {a p : Int} (hp : 1 < p) (h : a % p = 1) (k : Nat) : a ^ k % p = 1 := by
  rw [← emod_pow, h, Int.one_pow]
  exact Int.emod_eq_of_lt (by omega) hp
theorem elT_pow {gr : GroupD} (hg : OkG gr) {x : Int} (h : elB gr x = true) (e : Int) : elB gr (powE gr x e) = true := by
  have hp := hg.p1
  obtain ⟨h1, h2⟩ := powE_bd hg x e
  refine elT hg h1 h2 ?_
  have h3 := elB_pow h
  unfold powM at h3
  unfold powE powM
  rw [emod_pow, ← Int.pow_mul, Nat.mul_comm, Int.pow_mul]
  exact pow_one_mod (by omega) h3 _
theorem powE_emod (gr : GroupD) (x e : Int) : powE gr x (e % gr.q) = powE gr x e := by
  unfold powE; rw [Int.emod_emod]
/-- a power of an element goes by the residue of the exponent -/
theorem powE_nat {gr : GroupD} (hg : OkG gr) {x : Int} (h : elB gr x = true) (k : Nat) : powE gr x (k : Int) = x ^ k % gr.p := by
  have hq := hg.q1
  have h1 := elB_pow h
  obtain ⟨d, hd⟩ : ∃ d : Nat, gr.q = d := ⟨gr.q.toNat, by omega⟩
  have h2 : yE gr x d = 1 := by rw [hd] at h1; exact h1
  have h3 := yE_mod gr x (d := d) (by omega) h2 k
  have e1 : ((k : Int) % gr.q) = ((k % d : Nat) : Int) := by rw [hd]; omega
  show powM x ((k : Int) % gr.q) gr.p = x ^ k % gr.p
  rw [e1]
  exact h3.symm
theorem powE_add {gr : GroupD} (hg : OkG gr) {x : Int} (h : elB gr x = true) (a b : Int) : powE gr x (a + b) = powE gr x a * powE gr x b % gr.p := by
  have hq := hg.q1
  have e1 : 0 ≤ a % gr.q := Int.emod_nonneg _ (by omega)
  have e2 : 0 ≤ b % gr.q := Int.emod_nonneg _ (by omega)
  obtain ⟨i, hi⟩ : ∃ i : Nat, a % gr.q = i := ⟨(a % gr.q).toNat, by omega⟩
  obtain ⟨j, hj⟩ : ∃ j : Nat, b % gr.q = j := ⟨(b % gr.q).toNat, by omega⟩
  rw [← powE_emod gr x (a + b), Int.add_emod, hi, hj, powE_emod, ← powE_emod gr x a, ← powE_emod gr x b, hi, hj, powE_nat hg h, powE_nat hg h, show ((i : Int) + (j : Int)) = ((i + j : Nat) : Int) by omega, powE_nat hg h, Int.pow_add, Int.mul_emod]
theorem powE_pow {gr : GroupD} (hg : OkG gr) {x : Int} (h : elB gr x = true) (a b : Int) : powE gr (powE gr x a) b = powE gr x (a * b) := by
  have hq := hg.q1
  have e1 : 0 ≤ a % gr.q := Int.emod_nonneg _ (by omega)
  have e2 : 0 ≤ b % gr.q := Int.emod_nonneg _ (by omega)
  obtain ⟨i, hi⟩ : ∃ i : Nat, a % gr.q = i := ⟨(a % gr.q).toNat, by omega⟩
  obtain ⟨j, hj⟩ : ∃ j : Nat, b % gr.q = j := ⟨(b % gr.q).toNat, by omega⟩
  rw [← powE_emod gr x (a * b), Int.mul_emod, hi, hj, powE_emod, ← powE_emod gr (powE gr x a) b, hj, powE_nat hg (elT_pow hg h a), ← powE_emod gr x a, hi, powE_nat hg h, emod_pow, ← Int.pow_mul, show ((i : Int) * (j : Int)) = ((i * j : Nat) : Int) by rw [Int.natCast_mul], powE_nat hg h]
theorem powE_zero {gr : GroupD} (hg : OkG gr) {x : Int} : powE gr x 0 = 1 := by
  have := hg.p1
  unfold powE powM
  rw [Int.zero_emod, show (0 : Int).toNat = 0 from rfl, Int.pow_zero]
  exact Int.emod_eq_of_lt (by omega) (by omega)
theorem powE_single {gr : GroupD} (hg : OkG gr) {x : Int} (h : elB gr x = true) : powE gr x 1 = x := by
  have h1 := powE_nat hg h 1
  rw [Int.pow_succ, Int.pow_zero, Int.one_mul, elT_mod hg h] at h1
  exact h1
theorem powE_mulB (gr : GroupD) (a b e : Int) : powE gr (a * b % gr.p) e = powE gr a e * powE gr b e % gr.p := by
  unfold powE powM
  rw [emod_pow, Int.mul_pow, Int.mul_emod]
theorem expT {gr : GroupD} (hg : OkG gr) (a : Int) : expB gr (a % gr.q) = true := by
  have hq := hg.q1
  unfold expB
  rw [decide_eq_true_iff]
  have := Int.emod_nonneg a (show gr.q ≠ 0 by omega)
  have := Int.emod_lt_of_pos a (show 0 < gr.q by omega)
  exact ⟨by omega, by omega⟩
end Go.Proofs.YtacpnphfopmofaaGreat
namespace Go.Proofs.YtacpnphfopmofaaGreat
open Go.RowKit
set_option linter.unusedSimpArgs false
set_option linter.unusedVariables false

theorem small_64 {x : Int} (h : Small x) : I64 x := ⟨by have := h.1; omega, by have := h.2; omega⟩
theorem powE_small {gr : GroupD} (hg : OkG gr) (x e : Int) : Small (powE gr x e) := by
  have := powE_bd hg x e; have := hg.p2; exact ⟨by omega, by omega⟩
theorem mulL_small {gr : GroupD} (hg : OkG gr) (l : List Int) : Small (mulL gr l) := by
  have := mulL_bd hg l; have := hg.p2; exact ⟨by omega, by omega⟩
theorem AllSmall.nil : AllSmall [] := fun x hx => by cases hx
theorem AllSmall.cons {x : Int} {l : List Int} (h : Small x) (h' : AllSmall l) : AllSmall (x :: l) := fun y hy => by
  rcases List.mem_cons.1 hy with rfl | hy
  · exact h
  · exact h' y hy
end Go.Proofs.YtacpnphfopmofaaGreat
