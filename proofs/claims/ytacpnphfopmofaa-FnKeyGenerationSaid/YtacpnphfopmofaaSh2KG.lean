/- Commitments: valid bases, commitments checked: walks (printed by gen_com2.py). -/
import Derived.Test.YtacpnphfopmofaaCom1KG
import Derived.Test.YtacpnphfopmofaaBgKG
import Derived.Test.YtacpnphfopmofaaBaKG
import Derived.Test.YtacpnphfopmofaaFindDealingKG
import Derived.Deep.Cut
namespace Go.Proofs.Ytacpnphfopmofaa
open Go.RowKit
set_option linter.unusedSimpArgs false
set_option linter.unusedVariables false

/-- valid bases, but for the group -/
def hbB (gr : GroupD) (bh : Int) (bl : List Int) : Bool := (bh != 1) && (elB gr bh && (decide (bl.length ≤ 24) && ((!decide (1 ∈ bl)) && bl.all (elB gr))))
end Go.Proofs.Ytacpnphfopmofaa
namespace Go.Proofs.Ytacpnphfopmofaa
open Go.RowKit
set_option linter.unusedSimpArgs false
set_option linter.unusedVariables false

/-- what a round of Euclid's algorithm keeps: r and n are multiples of a (by x and y), the coefficients stay below m, a common divisor divides both -/
def EuInv (a m r n x y : Int) : Prop :=
  0 ≤ n ∧ 1 ≤ r ∧ r ≤ m ∧ n ≤ m ∧ (∃ u v : Int, 0 ≤ u ∧ 0 ≤ v ∧ u * n + v * r = m ∧ u ≤ m ∧ v ≤ m ∧ ((x = u ∧ y = -v) ∨ (x = -u ∧ y = v))) ∧ m ∣ x * a - r ∧ m ∣ y * a - n ∧ (∀ d : Int, d ∣ r → d ∣ n → d ∣ m ∧ d ∣ a)
theorem EuInv.start {a m : Int} (h0 : 0 ≤ a) (h1 : a ≤ m) (hm : 1 ≤ m) : EuInv a m m a 0 1 := by
  refine ⟨h0, hm, Int.le_refl _, h1, ⟨0, 1, by omega, by omega, by omega, by omega, hm, .inr ⟨rfl, rfl⟩⟩, ⟨-1, by omega⟩, ⟨0, by omega⟩, fun d h2 h3 => ⟨h2, h3⟩⟩
theorem EuInv.quo {a m r n x y : Int} (h : EuInv a m r n x y) (hn : 0 < n) : 0 ≤ r / n ∧ r / n ≤ m ∧ 0 ≤ r / n * n ∧ r / n * n ≤ r ∧ r - r / n * n < n ∧ 0 ≤ r - r / n * n := by
  obtain ⟨h0, h1, h2, h3, _⟩ := h
  have e1 : 0 ≤ r / n := Int.ediv_nonneg (by omega) (by omega)
  have e2 : r / n * n ≤ r := Int.ediv_mul_le _ (by omega)
  have e3 : r - r / n * n = r % n := by have := Int.emod_def r n; rw [this, Int.mul_comm]
  have e4 := Int.emod_lt_of_pos r hn
  have e5 : r / n ≤ r := Int.ediv_le_self _ (by omega)
  exact ⟨e1, by omega, Int.mul_nonneg e1 (by omega), e2, by omega, by omega⟩
theorem EuInv.step {a m r n x y : Int} (h : EuInv a m r n x y) (hn : 0 < n) : EuInv a m n (r - r / n * n) y (x - r / n * y) ∧ -m ≤ r / n * y ∧ r / n * y ≤ m := by
  obtain ⟨q0, q1, q2, q3, q4, q5⟩ := h.quo hn
  obtain ⟨h0, h1, h2, h3, ⟨u, v, h4, h5, h6, h7, h8, h9⟩, h10, h11, h12⟩ := h
  obtain ⟨q, hq⟩ : ∃ q, r / n = q := ⟨_, rfl⟩
  rw [hq] at q0 q1 q2 q3 q4 q5 ⊢
  have hqv : 0 ≤ q * v := Int.mul_nonneg q0 h5
  have e1 : (u + q * v) * n + v * (r - q * n) = u * n + v * r - (v * (q * n) - q * v * n) := by
    rw [Int.add_mul, Int.mul_sub]; omega
  have e2 : v * (q * n) = q * v * n := by ac_rfl
  have e3 : v * n + (u + q * v) * 0 = v * n := by omega
  -- the coefficients: v and u + q v
  have e4 : v * (r - q * n) + (u + q * v) * n = m := by rw [Int.add_comm, e1, e2]; omega
  have e5 : u + q * v ≤ m := by
    have s1 : 0 ≤ v * (r - q * n) := Int.mul_nonneg h5 q5
    have s2 : (u + q * v) * 1 ≤ (u + q * v) * n := Int.mul_le_mul_of_nonneg_left (by omega) (by omega)
    omega
  have e6 : -m ≤ q * y ∧ q * y ≤ m := by
    rcases h9 with ⟨_, rfl⟩ | ⟨_, rfl⟩
    · rw [Int.mul_neg]; omega
    · omega
  refine ⟨⟨q5, by omega, h3, by omega, ⟨v, u + q * v, h5, by omega, e4, h8, e5, ?_⟩, h11, ?_, fun d d1 d2 => ?_⟩, e6.1, e6.2⟩
  · rcases h9 with ⟨rfl, rfl⟩ | ⟨rfl, rfl⟩
    · exact .inr ⟨rfl, by rw [Int.mul_neg]; omega⟩
    · exact .inl ⟨rfl, by omega⟩
  · obtain ⟨c1, k1⟩ := h10
    obtain ⟨c2, k2⟩ := h11
    refine ⟨c1 - q * c2, ?_⟩
    have s1 : (x - q * y) * a - (r - q * n) = (x * a - r) - q * (y * a - n) := by
      rw [Int.sub_mul, Int.mul_sub, Int.mul_assoc]; omega
    rw [s1, k1, k2, Int.mul_sub]
    congr 1
    ac_rfl
  · refine h12 d ?_ d1
    obtain ⟨c1, k1⟩ := d1
    obtain ⟨c2, k2⟩ := d2
    refine ⟨c2 + q * c1, ?_⟩
    rw [Int.mul_add]
    have s1 : d * (q * c1) = q * n := by rw [k1]; ac_rfl
    omega
theorem Prm.gcd_one {a m r : Int} (hm : Prm m) (h0 : 0 < a) (h1 : a < m) (hr : 1 ≤ r) (h2 : r ∣ m) (h3 : r ∣ a) : r = 1 := by
  by_cases h : r = 1
  · exact h
  · exfalso
    have hra : r ≤ a := Int.le_of_dvd h0 h3
    obtain ⟨c, hc⟩ := h2
    have hc1 : 1 < c := by
      have s0 : 0 < c := by
        apply Int.not_le.1
        intro hle
        have s2 : r * c ≤ r * 0 := Int.mul_le_mul_of_nonneg_left hle (by omega)
        have := hm.1
        omega
      have s1 : c ≠ 1 := fun e => by rw [e] at hc; omega
      omega
    by_cases hle : r * r ≤ m
    · exact hm.2 r (by omega) hle (Int.emod_eq_zero_of_dvd ⟨c, hc⟩)
    · have hcr : c * c ≤ m := by
        have s1 : c ≤ r := by
          apply Int.not_lt.1
          intro hlt
          have : r * r ≤ r * c := Int.mul_le_mul_of_nonneg_left (by omega) (by omega)
          omega
        rw [hc]
        exact Int.mul_le_mul_of_nonneg_right s1 (by omega)
      exact hm.2 c (by omega) hcr (Int.emod_eq_zero_of_dvd ⟨r, by rw [hc, Int.mul_comm]⟩)
/-- the inverse of an exponent, found by Euclid's algorithm -/
theorem EuInv.done {a m r x y : Int} (h : EuInv a m r 0 x y) (hm : Prm m) (h0 : 0 < a) (h1 : a < m) : r = 1 ∧ a * (x % m) % m = 1 := by
  obtain ⟨_, h2, _, _, _, h3, _, h4⟩ := h
  obtain ⟨d1, d2⟩ := h4 r (Int.dvd_refl _) (Int.dvd_zero _)
  have hr := hm.gcd_one h0 h1 h2 d1 d2
  subst hr
  refine ⟨rfl, ?_⟩
  obtain ⟨c, hc⟩ := h3
  have hm2 := hm.1
  rw [emod_mul_right, Int.mul_comm, show x * a = 1 + m * c by omega, Int.add_mul_emod_self_left]
  exact Int.emod_eq_of_lt (by omega) (by omega)
theorem EuInv.ends {a m : Int} (hm : Prm m) (h0 : 0 < a) (h1 : a < m) : ∀ (k : Nat) (r n x y : Int), n.toNat ≤ k → EuInv a m r n x y → ∃ z, a * z % m = 1
  | 0, r, n, x, y, hk, h => by
    have h2 := h.1
    have e : n = 0 := by omega
    rw [e] at h
    exact ⟨_, (h.done hm h0 h1).2⟩
  | k + 1, r, n, x, y, hk, h => by
    have h2 := h.1
    by_cases e : n = 0
    · rw [e] at h
      exact ⟨_, (h.done hm h0 h1).2⟩
    · have h3 := h.quo (by omega)
      have h4 := (h.step (by omega)).1
      exact EuInv.ends hm h0 h1 k _ _ _ _ (by omega) h4
theorem inverse_is {a m : Int} (hm : Prm m) (h0 : 0 < a) (h1 : a < m) : ∃ z, a * z % m = 1 :=
  EuInv.ends hm h0 h1 a.toNat m a 0 1 (Nat.le_refl _) (EuInv.start (by omega) (by omega) (by have := hm.1; omega))
theorem inverse_bd {a m : Int} (hm : Prm m) (h0 : 0 < a) (h1 : a < m) : ∃ z, (0 ≤ z ∧ z < m) ∧ a * z % m = 1 := by
  obtain ⟨z, hz⟩ := inverse_is hm h0 h1
  have := hm.1
  exact ⟨z % m, ⟨Int.emod_nonneg _ (by omega), Int.emod_lt_of_pos _ (by omega)⟩, by rw [emod_mul_right]; exact hz⟩
open Classical in
/-- the inverse of an exponent -/
noncomputable def invQ (a m : Int) : Int := if h : ∃ z, (0 ≤ z ∧ z < m) ∧ a * z % m = 1 then h.choose else 0
theorem invQ_is {a m : Int} (hm : Prm m) (h0 : 0 < a) (h1 : a < m) : (0 ≤ invQ a m ∧ invQ a m < m) ∧ a * invQ a m % m = 1 := by
  have h := inverse_bd hm h0 h1
  unfold invQ
  rw [dif_pos h]
  exact h.choose_spec
theorem invQ_one {a m y : Int} (hm : Prm m) (h0 : 0 < a) (h1 : a < m) (hy : 0 ≤ y ∧ y < m) (h : a * y % m = 1) : y = invQ a m := by
  obtain ⟨hz, hz2⟩ := invQ_is hm h0 h1
  obtain ⟨z, e⟩ : ∃ z, invQ a m = z := ⟨_, rfl⟩
  rw [e] at hz hz2 ⊢
  have e1 : (y * (a * z)) % m = y := by rw [← emod_mul_right, hz2, Int.mul_one]; exact Int.emod_eq_of_lt hy.1 hy.2
  have e2 : (y * (a * z)) % m = z := by
    rw [show y * (a * z) = (a * y) * z by ac_rfl, ← emod_mul_left, h, Int.one_mul]; exact Int.emod_eq_of_lt hz.1 hz.2
  rw [← e1, e2]
theorem EuInv.inv {a m r x y : Int} (h : EuInv a m r 0 x y) (hm : Prm m) (h0 : 0 < a) (h1 : a < m) : r = 1 ∧ x % m = invQ a m := by
  obtain ⟨e1, e2⟩ := h.done hm h0 h1
  exact ⟨e1, invQ_one hm h0 h1 ⟨Int.emod_nonneg _ (by omega), Int.emod_lt_of_pos _ (by omega)⟩ e2⟩
end Go.Proofs.Ytacpnphfopmofaa
/- The struct Proof as a kind (printed by genkind.py): its data, its row, the walks of the laws' helpers. -/

namespace Go.Proofs.Ytacpnphfopmofaa
open Go.RowKit
set_option linter.unusedSimpArgs false
set_option linter.unusedVariables false

structure ProofD where
  c : List Int
  h : List Int
  r : List Int
deriving DecidableEq
end Go.Proofs.Ytacpnphfopmofaa
/- The struct Head as a kind (printed by genkind.py): its data, its row, the walks of the laws' helpers. -/


namespace Go.Proofs.Ytacpnphfopmofaa
open Go.RowKit
set_option linter.unusedSimpArgs false
set_option linter.unusedVariables false

end Go.Proofs.Ytacpnphfopmofaa
/- The struct Entry as a kind (printed by genkind.py): its data, its row, the walks of the laws' helpers. -/


namespace Go.Proofs.Ytacpnphfopmofaa
open Go.RowKit
set_option linter.unusedSimpArgs false
set_option linter.unusedVariables false

end Go.Proofs.Ytacpnphfopmofaa
namespace Go.Proofs.Ytacpnphfopmofaa
open Go.RowKit
set_option linter.unusedSimpArgs false
set_option linter.unusedVariables false

/-- a proof in memory -/
def PfR (w : World) (v : Value) (d : ProofD) : Prop := ∃ a b c, v = .agg #[a, b, c] ∧ Ints w a d.c ∧ Ints w b d.h ∧ Ints w c d.r
theorem PfR.below {w w' : World} {v : Value} {d : ProofD} (h : PfR w v d) (hb : Below w.heap.size w w') : PfR w' v d := by
  obtain ⟨a, b, c, e, h1, h2, h3⟩ := h; exact ⟨a, b, c, e, h1.below hb, h2.below hb, h3.below hb⟩
theorem PfR.mk {w : World} {a b c : Value} {d : ProofD} (h1 : Ints w a d.c) (h2 : Ints w b d.h) (h3 : Ints w c d.r) : PfR w (.agg #[a, b, c]) d := ⟨a, b, c, rfl, h1, h2, h3⟩
/-- a proof in new memory and a Bool are returned -/
def RetP (e : Ending) (w : World) (B : Nat) (b : Bool) (d : ProofD) : Prop := ∃ x y z, e = .returned (.tuple #[.agg #[x, y, z], .bool b]) ∧ OwnI w B x d.c ∧ OwnI w B y d.h ∧ OwnI w B z d.r
theorem RetP.mk {w : World} {B : Nat} {x y z : Value} {b : Bool} {d : ProofD} (h1 : OwnI w B x d.c) (h2 : OwnI w B y d.h) (h3 : OwnI w B z d.r) : RetP (.returned (.tuple #[.agg #[x, y, z], .bool b])) w B b d := ⟨x, y, z, rfl, h1, h2, h3⟩
theorem OwnI.shapeN {w : World} {B n : Nat} {v : Value} {l : List Int} (h : OwnI w B v l) (hn : l.length = n) : ∃ a c, v = .slice a n c := by subst hn; exact h.shape
theorem OwnI.oth {w : World} {B b : Nat} {v : Value} {l : List Int} (h : OwnI w B v l) (hb : b < B) (j : Nat) (x : Value) : OwnI (w.setCell ⟨b, j, none⟩ x) B v l :=
  h.kept (grownBy_setCell _ b j x) (.inr fun e => by have := (h.lt _ e).1; omega)
theorem nth_64 {w : World} {v : Value} {l : List Int} (h : Ints w v l) (i : Nat) : I64 (nth l i) := by
  by_cases hi : i < l.length
  · have e : nth l i = l[i] := by simp [nth, List.getD, hi]
    rw [e]; exact h.all _ (List.getElem_mem _)
  · have e : nth l i = 0 := by simp [nth, List.getD, Nat.not_lt.1 hi]
    rw [e]; exact ⟨by decide, by decide⟩
end Go.Proofs.Ytacpnphfopmofaa
namespace Go.Proofs.Ytacpnphfopmofaa
open Go.RowKit
set_option linter.unusedSimpArgs false
set_option linter.unusedVariables false
set_option maxRecDepth 100000 in
set_option maxHeartbeats 1000000 in
theorem laws_qInts (v1 v2 : Value) (l : List Int) (w : World) (h1 : Ints w v1 l) (h2 : Ints w v2 l) :
    Calls Try.prog 40 #[v1, v2] w fun e w' => e = .returned (.bool true) ∧ Below w.heap.size w w' := by
  obtain ⟨a1, n, c1, rfl⟩ := h1.shape
  obtain ⟨a2, n2, c2, rfl⟩ := h2.shape
  have e1 := h1.len
  have e2 := h2.len
  obtain ⟨k1, k2⟩ := h1.capMax
  unfold maxLen at k2
  obtain rfl : n = n2 := by omega
  have HE := Lib.hid e1
  clear e1 e2
  have H1 := Lib.hid h1
  have H2 := Lib.hid h2
  clear h1 h2
  have hnn : ((n : Int) == (n : Int)) = true := by simp
  go_enter Try.func40, Try.ntmps40
  go_wp2_with fail
  go_loopg [13] n (fun gh iv wr => ∃ k : Nat, k + gh = n ∧ iv = .int .i64 k ∧ Below w.heap.size w wr)
  case atStart => exact ⟨0, by omega, rfl, Below.refl _ _⟩
  case round =>
    obtain ⟨k, hkg, rfl, hb⟩ := hrel
    by_cases hlt : k < n
    · obtain ⟨b1, o1, rfl, hc1⟩ := H1.out.at_ (by omega)
      obtain ⟨b2, o2, rfl, hc2⟩ := H2.out.at_ (by omega)
      have y0 := box_at (hc1 k hlt) hb
      have y1 := box_at (hc2 k hlt) hb
      clear hc1 hc2
      generalize nth l k = x at y0 y1
      have hc : Below wr.heap.size wr wr := Below.refl _ _
      have HB := Lib.hid hb
      clear hb
      have b0 : (0 : Int) ≤ (k : Int) := by omega
      have bk1 : (k : Int) < (n : Int) := by omega
      have xa : (x == x) = true := by simp
      have hwk : IntKind.i64.wrap ((k : Int) + 1) = (k : Int) + 1 := IntWalk.i64_in _ (by omega)
      go_wp2_with fail
      try (go_wp2_with fail)
      refine wp_region_noPanic ?_
      refine wp_region_P (fun w' => w'.cell? ⟨b1, o1 + k, none⟩ = some (.int .i64 x) ∧ w'.cell? ⟨b2, o2 + k, none⟩ = some (.int .i64 x)) 11 [(0, []), (1, []), (2, [1, 0]), (3, [0]), (4, []), (5, []), (6, [1, 0]), (7, [0]), (8, [4, 0])] [] (by kernel_rfl) (by kernel_rfl) (by kernel_rfl) rfl (fun _ _ _ _ h => h) (fun w' h => ⟨box_at y0 h, box_at y1 h⟩) ?_
      simp only [pickP, pickN, List.getElem?_cons_zero, List.getElem?_cons_succ]
      iterate 9 (refine' chainP_read _ rfl rfl (fun w' hS' => ?_) ?_; rotate_left; · (simp only [lookP, allP, Act.put, List.getElem?_cons_zero, List.getElem?_cons_succ, List.setIfInBounds_toArray, List.set_cons_zero, List.set_cons_succ]; (try dsimp only at hS'); go_simp; (try with_reducible rfl)))
      refine chainP_nil (fun ua hS' => ?_)
      simp only [allP, Act.put, List.setIfInBounds_toArray, List.set_cons_zero, List.set_cons_succ]
      have hq1 := hS'.1
      clear hS'
      replace hc := Below.next hc hq1
      replace y0 := box_at y0 hq1
      replace y1 := box_at y1 hq1
      clear hq1
      clear y0 y1
      go_wp2_with fail
      refine NoPanic.normal ?_
      go_wp2_with fail
      go_roundg (n - (k + 1))
      case measure => omega
      case rel => exact ⟨k + 1, by omega, by go_num, HB.out.trans (hc.mono HB.out.size)⟩
    · obtain rfl : n = k := by omega
      have HB := Lib.hid hb
      clear hb
      go_wp2_with fail
      go_ret
      exact ⟨rfl, HB.out⟩
end Go.Proofs.Ytacpnphfopmofaa
namespace Go.Proofs.Ytacpnphfopmofaa
open Go.RowKit
set_option linter.unusedSimpArgs false
set_option linter.unusedVariables false

/-- a dealing in memory -/
def DlR (w : World) (v : Value) (d : DealingD) : Prop := ∃ a b, v = .agg #[a, b] ∧ Ints w a d.c ∧ Ints w b d.s
theorem DlR.mk {w : World} {a b : Value} {d : DealingD} (h1 : Ints w a d.c) (h2 : Ints w b d.s) : DlR w (.agg #[a, b]) d := ⟨a, b, rfl, h1, h2⟩
theorem DlR.below {w w' : World} {v : Value} {d : DealingD} (h : DlR w v d) (hb : Below w.heap.size w w') : DlR w' v d := by
  obtain ⟨a, b, e, h1, h2⟩ := h; exact ⟨a, b, e, h1.below hb, h2.below hb⟩
def lnB (d : DealingD) : Bool := decide ((d.c.length : Int) ≤ (d.s.length : Int) ∧ (d.s.length : Int) ≤ 7)
def deB (gr : GroupD) (d : DealingD) : Bool := cmsB gr d.c && (lnB d && d.s.all (expB gr))
noncomputable def vdB (gr : GroupD) (d : DealingD) : Bool := shG gr && deB gr d
def smB (a b : DealingD) : Bool := decide (a.c.length = b.c.length) && decide (a.s.length = b.s.length)
def bdL (gr : GroupD) (d : DealingD) : Nat → List Int
  | 0 => []
  | k + 1 => if shrB gr d.c ((k : Int) + 1) (nth d.s k) = true then bdL gr d k else bdL gr d k ++ [(k : Int) + 1]
def badE (gr : GroupD) (d : DealingD) : List Int := bdL gr d d.s.length
noncomputable def bsR (gr : GroupD) (d : DealingD) : List Int := if vdB gr d = true then badE gr d else []
theorem bdL_len (gr : GroupD) (d : DealingD) (k : Nat) : (bdL gr d k).length ≤ k := by
  induction k with
  | zero => exact Nat.le_refl _
  | succ k ih =>
    unfold bdL
    split
    · omega
    · rw [List.length_append, List.length_singleton]; omega
theorem deB_parts {gr : GroupD} {d : DealingD} (h : deB gr d = true) : (1 ≤ d.c.length ∧ d.c.length ≤ d.s.length ∧ d.s.length ≤ 7) ∧ d.c.all (elB gr) = true ∧ d.s.all (expB gr) = true := by
  unfold deB lnB at h
  simp only [Bool.and_eq_true, decide_eq_true_iff] at h
  obtain ⟨h1, h2, h3⟩ := h
  have := (cmsB_parts h1).1
  exact ⟨⟨by omega, by omega, by omega⟩, (cmsB_parts h1).2, h3⟩
set_option maxRecDepth 100000 in
set_option maxHeartbeats 2000000 in
theorem impl_hasDealing (gr : GroupD) (pv : Value) (d : DealingD) (w : World) (hg : OkG gr) (hp : DlR w pv d) :
    Calls Try.prog 121 #[.agg #[.int .i64 gr.p, .int .i64 gr.q, .int .i64 gr.g], pv] w fun e w' => e = .returned (.bool (deB gr d)) ∧ Below w.heap.size w w' := by
  have HG := Lib.hid hg
  clear hg
  obtain ⟨xcv, xsv, rfl, hxc, hxs⟩ := hp
  obtain ⟨xca, xcn, xcc, rfl⟩ := hxc.shape
  have Exc := Lib.hid hxc.len
  have Kxc := Lib.hid hxc.capMax
  have Hxc := Lib.hid hxc
  clear hxc
  obtain ⟨xsa, xsn, xsc, rfl⟩ := hxs.shape
  have Exs := Lib.hid hxs.len
  have Kxs := Lib.hid hxs.capMax
  have Hxs := Lib.hid hxs
  clear hxs
  obtain ⟨W, hW⟩ : ∃ W, W = (w.alloc (.cells #[.int .i64 gr.p, .int .i64 gr.q, .int .i64 gr.g] 24)).alloc (.cells #[(.slice xca xcn xcc), (.slice xsa xsn xsc)] 57) := ⟨_, rfl⟩
  have HB : Hid (Below w.heap.size w W) := by unfold Hid; rw [hW]; (repeat (first | exact Below.refl _ _ | assumption | refine Below.drew ?_ | refine Below.alloc ?_ (by first | (simp; done) | (simp; omega)) _ | refine Below.setCell ?_ (by first | (simp; done) | (simp; omega)) _))
  have c0_0 : W.cell? ⟨w.heap.size, 0, none⟩ = some (.int .i64 gr.p) := by rw [hW]; simp [go_sem]
  have c0_1 : W.cell? ⟨w.heap.size, 1, none⟩ = some (.int .i64 gr.q) := by rw [hW]; simp [go_sem]
  have c0_2 : W.cell? ⟨w.heap.size, 2, none⟩ = some (.int .i64 gr.g) := by rw [hW]; simp [go_sem]
  have c1_0 : W.cell? ⟨w.heap.size + 1, 0, none⟩ = some ((.slice xca xcn xcc)) := by rw [hW]; simp [go_sem]
  have c1_1 : W.cell? ⟨w.heap.size + 1, 1, none⟩ = some ((.slice xsa xsn xsc)) := by rw [hW]; simp [go_sem]
  have HSW : Hid (W.heap.size = w.heap.size + 2) := by unfold Hid; rw [hW]; simp
  go_enter Try.func121, Try.ntmps121
  go_wp2_with fail
  rw [← hW]
  have hse : w.heap.size + 1 + 1 = W.heap.size := by have := HSW.out; omega
  (try rw [hse])
  clear hse
  clear hW
  have hc : Below W.heap.size W W := Below.refl _ _
  have HCC : Hid (∀ u, Below W.heap.size W u → u.cell? ⟨w.heap.size, 0, none⟩ = some (.int .i64 gr.p) ∧ u.cell? ⟨w.heap.size, 1, none⟩ = some (.int .i64 gr.q) ∧ u.cell? ⟨w.heap.size, 2, none⟩ = some (.int .i64 gr.g) ∧ u.cell? ⟨w.heap.size + 1, 0, none⟩ = some ((.slice xca xcn xcc)) ∧ u.cell? ⟨w.heap.size + 1, 1, none⟩ = some ((.slice xsa xsn xsc))) := fun u h => ⟨box_at c0_0 h, box_at c0_1 h, box_at c0_2 h, box_at c1_0 h, box_at c1_1 h⟩
  go_wp2_with fail
  refine (impl_areCommits gr _ d.c _ HG.out (Hxc.out.below (HB.out.trans (hc.mono HB.out.size)))).mono ?_
  rintro e u1 ⟨rfl, hq1⟩
  replace hc := Below.next hc hq1
  clear hq1 c0_0 c0_1 c0_2 c1_0 c1_1
  obtain ⟨c0_0, c0_1, c0_2, c1_0, c1_1⟩ := HCC.out _ hc
  cases hc1 : cmsB gr d.c with
  | false =>
    have Hhc1 := Lib.hid hc1
    clear hc1
    go_wp2_with fail
    have HV : Hid ((.bool (deB gr d) : Value) = .bool false) := by unfold Hid; simp [deB, Hhc1.out]
    go_ret
    exact ⟨congrArg Ending.returned HV.out.symm, HB.out.trans (hc.mono HB.out.size)⟩
  | true =>
    have Hhc1 := Lib.hid hc1
    clear hc1
    go_wp2_with fail
    refine (impl_within (xsn : Int) (xcn : Int) 7 _).mono ?_
    rintro e u2 ⟨rfl, rfl⟩
    cases hc2 : decide ((xcn : Int) ≤ (xsn : Int) ∧ (xsn : Int) ≤ 7) with
    | false =>
      have HLN : Hid (lnB d = false) := by have q := of_decide_eq_false hc2; have := Exc.out; have := Exs.out; unfold Hid lnB; exact decide_eq_false (by omega)
      go_wp2_with fail
      have HV : Hid ((.bool (deB gr d) : Value) = .bool false) := by unfold Hid; simp [deB, Hhc1.out, HLN.out]
      go_ret
      exact ⟨congrArg Ending.returned HV.out.symm, HB.out.trans (hc.mono HB.out.size)⟩
    | true =>
      have HLN : Hid (lnB d = true) := by have q := of_decide_eq_true hc2; have := Exc.out; have := Exs.out; unfold Hid lnB; exact decide_eq_true (by omega)
      go_wp2_with fail
      refine (impl_areExps gr _ d.s _ HG.out (Hxs.out.below (HB.out.trans (hc.mono HB.out.size)))).mono ?_
      rintro e u3 ⟨rfl, hq3⟩
      replace hc := Below.next hc hq3
      clear hq3 c0_0 c0_1 c0_2 c1_0 c1_1
      obtain ⟨c0_0, c0_1, c0_2, c1_0, c1_1⟩ := HCC.out _ hc
      cases hc3 : d.s.all (expB gr) with
      | false =>
        have Hhc3 := Lib.hid hc3
        clear hc3
        go_wp2_with fail
        have HV : Hid ((.bool (deB gr d) : Value) = .bool false) := by unfold Hid; simp [deB, Hhc1.out, Hhc3.out, HLN.out]
        go_ret
        exact ⟨congrArg Ending.returned HV.out.symm, HB.out.trans (hc.mono HB.out.size)⟩
      | true =>
        have Hhc3 := Lib.hid hc3
        clear hc3
        go_wp2_with fail
        have HV : Hid ((.bool (deB gr d) : Value) = .bool true) := by unfold Hid; simp [deB, Hhc1.out, Hhc3.out, HLN.out]
        go_ret
        exact ⟨congrArg Ending.returned HV.out.symm, HB.out.trans (hc.mono HB.out.size)⟩
set_option maxRecDepth 100000 in
set_option maxHeartbeats 2000000 in
theorem spec_sDealing (gr : GroupD) (pv : Value) (d : DealingD) (w : World) (hg : OkG gr) (hp : DlR w pv d) :
    Calls Try.prog 223 #[.agg #[.int .i64 gr.p, .int .i64 gr.q, .int .i64 gr.g], pv] w fun e w' => e = .returned (.bool (deB gr d)) ∧ Below w.heap.size w w' := by
  have HG := Lib.hid hg
  clear hg
  obtain ⟨xcv, xsv, rfl, hxc, hxs⟩ := hp
  obtain ⟨xca, xcn, xcc, rfl⟩ := hxc.shape
  have Exc := Lib.hid hxc.len
  have Kxc := Lib.hid hxc.capMax
  have Hxc := Lib.hid hxc
  clear hxc
  obtain ⟨xsa, xsn, xsc, rfl⟩ := hxs.shape
  have Exs := Lib.hid hxs.len
  have Kxs := Lib.hid hxs.capMax
  have Hxs := Lib.hid hxs
  clear hxs
  obtain ⟨W, hW⟩ : ∃ W, W = (w.alloc (.cells #[.int .i64 gr.p, .int .i64 gr.q, .int .i64 gr.g] 24)).alloc (.cells #[(.slice xca xcn xcc), (.slice xsa xsn xsc)] 57) := ⟨_, rfl⟩
  have HB : Hid (Below w.heap.size w W) := by unfold Hid; rw [hW]; (repeat (first | exact Below.refl _ _ | assumption | refine Below.drew ?_ | refine Below.alloc ?_ (by first | (simp; done) | (simp; omega)) _ | refine Below.setCell ?_ (by first | (simp; done) | (simp; omega)) _))
  have c0_0 : W.cell? ⟨w.heap.size, 0, none⟩ = some (.int .i64 gr.p) := by rw [hW]; simp [go_sem]
  have c0_1 : W.cell? ⟨w.heap.size, 1, none⟩ = some (.int .i64 gr.q) := by rw [hW]; simp [go_sem]
  have c0_2 : W.cell? ⟨w.heap.size, 2, none⟩ = some (.int .i64 gr.g) := by rw [hW]; simp [go_sem]
  have c1_0 : W.cell? ⟨w.heap.size + 1, 0, none⟩ = some ((.slice xca xcn xcc)) := by rw [hW]; simp [go_sem]
  have c1_1 : W.cell? ⟨w.heap.size + 1, 1, none⟩ = some ((.slice xsa xsn xsc)) := by rw [hW]; simp [go_sem]
  have HSW : Hid (W.heap.size = w.heap.size + 2) := by unfold Hid; rw [hW]; simp
  go_enter Try.func223, Try.ntmps223
  go_wp2_with fail
  rw [← hW]
  have hse : w.heap.size + 1 + 1 = W.heap.size := by have := HSW.out; omega
  (try rw [hse])
  clear hse
  clear hW
  have hc : Below W.heap.size W W := Below.refl _ _
  have HCC : Hid (∀ u, Below W.heap.size W u → u.cell? ⟨w.heap.size, 0, none⟩ = some (.int .i64 gr.p) ∧ u.cell? ⟨w.heap.size, 1, none⟩ = some (.int .i64 gr.q) ∧ u.cell? ⟨w.heap.size, 2, none⟩ = some (.int .i64 gr.g) ∧ u.cell? ⟨w.heap.size + 1, 0, none⟩ = some ((.slice xca xcn xcc)) ∧ u.cell? ⟨w.heap.size + 1, 1, none⟩ = some ((.slice xsa xsn xsc))) := fun u h => ⟨box_at c0_0 h, box_at c0_1 h, box_at c0_2 h, box_at c1_0 h, box_at c1_1 h⟩
  go_wp2_with fail
  refine (spec_sCommits gr _ d.c _ HG.out (Hxc.out.below (HB.out.trans (hc.mono HB.out.size)))).mono ?_
  rintro e u1 ⟨rfl, hq1⟩
  replace hc := Below.next hc hq1
  clear hq1 c0_0 c0_1 c0_2 c1_0 c1_1
  obtain ⟨c0_0, c0_1, c0_2, c1_0, c1_1⟩ := HCC.out _ hc
  cases hc1 : cmsB gr d.c with
  | false =>
    have Hhc1 := Lib.hid hc1
    clear hc1
    go_wp2_with fail
    have HV : Hid ((.bool (deB gr d) : Value) = .bool false) := by unfold Hid; simp [deB, Hhc1.out]
    go_ret
    exact ⟨congrArg Ending.returned HV.out.symm, HB.out.trans (hc.mono HB.out.size)⟩
  | true =>
    have Hhc1 := Lib.hid hc1
    clear hc1
    go_wp2_with fail
    refine (spec_l1In (xsn : Int) (xcn : Int) 7 _).mono ?_
    rintro e u2 ⟨rfl, rfl⟩
    cases hc2 : decide ((xcn : Int) ≤ (xsn : Int) ∧ (xsn : Int) ≤ 7) with
    | false =>
      have HLN : Hid (lnB d = false) := by have q := of_decide_eq_false hc2; have := Exc.out; have := Exs.out; unfold Hid lnB; exact decide_eq_false (by omega)
      go_wp2_with fail
      have HV : Hid ((.bool (deB gr d) : Value) = .bool false) := by unfold Hid; simp [deB, Hhc1.out, HLN.out]
      go_ret
      exact ⟨congrArg Ending.returned HV.out.symm, HB.out.trans (hc.mono HB.out.size)⟩
    | true =>
      have HLN : Hid (lnB d = true) := by have q := of_decide_eq_true hc2; have := Exc.out; have := Exs.out; unfold Hid lnB; exact decide_eq_true (by omega)
      go_wp2_with fail
      refine (spec_gExps gr _ d.s _ HG.out (Hxs.out.below (HB.out.trans (hc.mono HB.out.size)))).mono ?_
      rintro e u3 ⟨rfl, hq3⟩
      replace hc := Below.next hc hq3
      clear hq3 c0_0 c0_1 c0_2 c1_0 c1_1
      obtain ⟨c0_0, c0_1, c0_2, c1_0, c1_1⟩ := HCC.out _ hc
      cases hc3 : d.s.all (expB gr) with
      | false =>
        have Hhc3 := Lib.hid hc3
        clear hc3
        go_wp2_with fail
        have HV : Hid ((.bool (deB gr d) : Value) = .bool false) := by unfold Hid; simp [deB, Hhc1.out, Hhc3.out, HLN.out]
        go_ret
        exact ⟨congrArg Ending.returned HV.out.symm, HB.out.trans (hc.mono HB.out.size)⟩
      | true =>
        have Hhc3 := Lib.hid hc3
        clear hc3
        go_wp2_with fail
        have HV : Hid ((.bool (deB gr d) : Value) = .bool true) := by unfold Hid; simp [deB, Hhc1.out, Hhc3.out, HLN.out]
        go_ret
        exact ⟨congrArg Ending.returned HV.out.symm, HB.out.trans (hc.mono HB.out.size)⟩
set_option maxRecDepth 100000 in
set_option maxHeartbeats 2000000 in
theorem impl_IsValidDealing (gr : GroupD) (pv : Value) (d : DealingD) (w : World) (hp : DlR w pv d) :
    Calls Try.prog 33 #[.agg #[.int .i64 gr.p, .int .i64 gr.q, .int .i64 gr.g], pv] w fun e w' => e = .returned (.bool (vdB gr d)) ∧ Below w.heap.size w w' := by
  obtain ⟨xcv, xsv, rfl, hxc, hxs⟩ := hp
  obtain ⟨xca, xcn, xcc, rfl⟩ := hxc.shape
  have Exc := Lib.hid hxc.len
  have Kxc := Lib.hid hxc.capMax
  have Hxc := Lib.hid hxc
  clear hxc
  obtain ⟨xsa, xsn, xsc, rfl⟩ := hxs.shape
  have Exs := Lib.hid hxs.len
  have Kxs := Lib.hid hxs.capMax
  have Hxs := Lib.hid hxs
  clear hxs
  obtain ⟨W, hW⟩ : ∃ W, W = (w.alloc (.cells #[.int .i64 gr.p, .int .i64 gr.q, .int .i64 gr.g] 24)).alloc (.cells #[(.slice xca xcn xcc), (.slice xsa xsn xsc)] 57) := ⟨_, rfl⟩
  have HB : Hid (Below w.heap.size w W) := by unfold Hid; rw [hW]; (repeat (first | exact Below.refl _ _ | assumption | refine Below.drew ?_ | refine Below.alloc ?_ (by first | (simp; done) | (simp; omega)) _ | refine Below.setCell ?_ (by first | (simp; done) | (simp; omega)) _))
  have c0_0 : W.cell? ⟨w.heap.size, 0, none⟩ = some (.int .i64 gr.p) := by rw [hW]; simp [go_sem]
  have c0_1 : W.cell? ⟨w.heap.size, 1, none⟩ = some (.int .i64 gr.q) := by rw [hW]; simp [go_sem]
  have c0_2 : W.cell? ⟨w.heap.size, 2, none⟩ = some (.int .i64 gr.g) := by rw [hW]; simp [go_sem]
  have c1_0 : W.cell? ⟨w.heap.size + 1, 0, none⟩ = some ((.slice xca xcn xcc)) := by rw [hW]; simp [go_sem]
  have c1_1 : W.cell? ⟨w.heap.size + 1, 1, none⟩ = some ((.slice xsa xsn xsc)) := by rw [hW]; simp [go_sem]
  have HSW : Hid (W.heap.size = w.heap.size + 2) := by unfold Hid; rw [hW]; simp
  go_enter Try.func33, Try.ntmps33
  go_wp2_with fail
  rw [← hW]
  have hse : w.heap.size + 1 + 1 = W.heap.size := by have := HSW.out; omega
  (try rw [hse])
  clear hse
  clear hW
  have hc : Below W.heap.size W W := Below.refl _ _
  have HCC : Hid (∀ u, Below W.heap.size W u → u.cell? ⟨w.heap.size, 0, none⟩ = some (.int .i64 gr.p) ∧ u.cell? ⟨w.heap.size, 1, none⟩ = some (.int .i64 gr.q) ∧ u.cell? ⟨w.heap.size, 2, none⟩ = some (.int .i64 gr.g) ∧ u.cell? ⟨w.heap.size + 1, 0, none⟩ = some ((.slice xca xcn xcc)) ∧ u.cell? ⟨w.heap.size + 1, 1, none⟩ = some ((.slice xsa xsn xsc))) := fun u h => ⟨box_at c0_0 h, box_at c0_1 h, box_at c0_2 h, box_at c1_0 h, box_at c1_1 h⟩
  go_wp2_with fail
  refine (impl_isSharing gr _).mono ?_
  rintro e u1 ⟨rfl, hq1⟩
  replace hc := Below.next hc hq1
  clear hq1 c0_0 c0_1 c0_2 c1_0 c1_1
  obtain ⟨c0_0, c0_1, c0_2, c1_0, c1_1⟩ := HCC.out _ hc
  cases hc1 : shG gr with
  | false =>
    have Hhc1 := Lib.hid hc1
    clear hc1
    go_wp2_with fail
    have HV : Hid ((.bool (vdB gr d) : Value) = .bool false) := by unfold Hid; simp [vdB, Hhc1.out]
    go_ret
    exact ⟨congrArg Ending.returned HV.out.symm, HB.out.trans (hc.mono HB.out.size)⟩
  | true =>
    have HG := Lib.hid (shG_ok hc1)
    have Hhc1 := Lib.hid hc1
    clear hc1
    go_wp2_with fail
    refine (impl_hasDealing gr _ d _ HG.out (DlR.mk (Hxc.out.below (HB.out.trans (hc.mono HB.out.size))) (Hxs.out.below (HB.out.trans (hc.mono HB.out.size))))).mono ?_
    rintro e u2 ⟨rfl, hq2⟩
    replace hc := Below.next hc hq2
    clear hq2 c0_0 c0_1 c0_2 c1_0 c1_1
    obtain ⟨c0_0, c0_1, c0_2, c1_0, c1_1⟩ := HCC.out _ hc
    cases hc2 : deB gr d with
    | false =>
      have Hhc2 := Lib.hid hc2
      clear hc2
      go_wp2_with fail
      have HV : Hid ((.bool (vdB gr d) : Value) = .bool false) := by unfold Hid; simp [vdB, Hhc1.out, Hhc2.out]
      go_ret
      exact ⟨congrArg Ending.returned HV.out.symm, HB.out.trans (hc.mono HB.out.size)⟩
    | true =>
      have Hhc2 := Lib.hid hc2
      clear hc2
      go_wp2_with fail
      have HV : Hid ((.bool (vdB gr d) : Value) = .bool true) := by unfold Hid; simp [vdB, Hhc1.out, Hhc2.out]
      go_ret
      exact ⟨congrArg Ending.returned HV.out.symm, HB.out.trans (hc.mono HB.out.size)⟩
set_option maxRecDepth 100000 in
set_option maxHeartbeats 2000000 in
theorem impl_sameShape (pv qv : Value) (d f : DealingD) (w : World) (hp : DlR w pv d) (hq : DlR w qv f) :
    Calls Try.prog 178 #[pv, qv] w fun e w' => e = .returned (.bool (smB d f)) ∧ Below w.heap.size w w' := by
  obtain ⟨xcv, xsv, rfl, hxc, hxs⟩ := hp
  obtain ⟨xca, xcn, xcc, rfl⟩ := hxc.shape
  have Exc := Lib.hid hxc.len
  have Kxc := Lib.hid hxc.capMax
  have Hxc := Lib.hid hxc
  clear hxc
  obtain ⟨xsa, xsn, xsc, rfl⟩ := hxs.shape
  have Exs := Lib.hid hxs.len
  have Kxs := Lib.hid hxs.capMax
  have Hxs := Lib.hid hxs
  clear hxs
  obtain ⟨ycv, ysv, rfl, hyc, hys⟩ := hq
  obtain ⟨yca, ycn, ycc, rfl⟩ := hyc.shape
  have Eyc := Lib.hid hyc.len
  have Kyc := Lib.hid hyc.capMax
  have Hyc := Lib.hid hyc
  clear hyc
  obtain ⟨ysa, ysn, ysc, rfl⟩ := hys.shape
  have Eys := Lib.hid hys.len
  have Kys := Lib.hid hys.capMax
  have Hys := Lib.hid hys
  clear hys
  cases hc1 : ((xcn : Int) == (ycn : Int)) with
  | false =>
    have HS1 : Hid (decide (d.c.length = f.c.length) = false) := by have q := hc1; rw [beq_eq_false_iff_ne] at q; have := Exc.out; have := Eyc.out; unfold Hid; exact decide_eq_false (by omega)
    have HV : Hid ((.bool (smB d f) : Value) = .bool false) := by unfold Hid; simp [smB, hc1, HS1.out]
    rw [HV.out]
    go_enter Try.func178, Try.ntmps178
    go_wp2_with fail
    go_ret
    exact ⟨rfl, by (repeat (first | exact Below.refl _ _ | assumption | refine Below.drew ?_ | refine Below.alloc ?_ (by first | (simp; done) | (simp; omega)) _ | refine Below.setCell ?_ (by first | (simp; done) | (simp; omega)) _))⟩
  | true =>
    have HS1 : Hid (decide (d.c.length = f.c.length) = true) := by have q := hc1; rw [beq_iff_eq] at q; have := Exc.out; have := Eyc.out; unfold Hid; exact decide_eq_true (by omega)
    cases hc2 : ((xsn : Int) == (ysn : Int)) with
    | false =>
      have HS2 : Hid (decide (d.s.length = f.s.length) = false) := by have q := hc2; rw [beq_eq_false_iff_ne] at q; have := Exs.out; have := Eys.out; unfold Hid; exact decide_eq_false (by omega)
      have HV : Hid ((.bool (smB d f) : Value) = .bool false) := by unfold Hid; simp [smB, hc1, hc2, HS1.out, HS2.out]
      rw [HV.out]
      go_enter Try.func178, Try.ntmps178
      go_wp2_with fail
      go_ret
      exact ⟨rfl, by (repeat (first | exact Below.refl _ _ | assumption | refine Below.drew ?_ | refine Below.alloc ?_ (by first | (simp; done) | (simp; omega)) _ | refine Below.setCell ?_ (by first | (simp; done) | (simp; omega)) _))⟩
    | true =>
      have HS2 : Hid (decide (d.s.length = f.s.length) = true) := by have q := hc2; rw [beq_iff_eq] at q; have := Exs.out; have := Eys.out; unfold Hid; exact decide_eq_true (by omega)
      have HV : Hid ((.bool (smB d f) : Value) = .bool true) := by unfold Hid; simp [smB, hc1, hc2, HS1.out, HS2.out]
      rw [HV.out]
      go_enter Try.func178, Try.ntmps178
      go_wp2_with fail
      go_ret
      exact ⟨rfl, by (repeat (first | exact Below.refl _ _ | assumption | refine Below.drew ?_ | refine Below.alloc ?_ (by first | (simp; done) | (simp; omega)) _ | refine Below.setCell ?_ (by first | (simp; done) | (simp; omega)) _))⟩
set_option maxRecDepth 100000 in
set_option maxHeartbeats 2000000 in
theorem impl_bad (gr : GroupD) (pv : Value) (d : DealingD) (w : World) (hg : OkG gr) (hp : DlR w pv d) (hd : deB gr d = true) :
    Calls Try.prog 117 #[.agg #[.int .i64 gr.p, .int .i64 gr.q, .int .i64 gr.g], pv] w fun e w' => (∃ v', e = .returned v' ∧ OwnI w' w.heap.size v' (badE gr d)) ∧ Below w.heap.size w w' := by
  have HG := Lib.hid hg
  have HD := Lib.hid (deB_parts hd)
  have HEL := Lib.hid (cms_small hg (deB_parts hd).2.1)
  clear hg hd
  obtain ⟨xcv, xsv, rfl, hxc, hxs⟩ := hp
  obtain ⟨xca, xcn, xcc, rfl⟩ := hxc.shape
  have Exc := Lib.hid hxc.len
  have Kxc := Lib.hid hxc.capMax
  have Hxc := Lib.hid hxc
  clear hxc
  obtain ⟨xsa, xsn, xsc, rfl⟩ := hxs.shape
  have Exs := Lib.hid hxs.len
  have Kxs := Lib.hid hxs.capMax
  have Hxs := Lib.hid hxs
  clear hxs
  obtain ⟨W, hW⟩ : ∃ W, W = (w.alloc (.cells #[.int .i64 gr.p, .int .i64 gr.q, .int .i64 gr.g] 24)).alloc (.cells #[.slice xca xcn xcc, .slice xsa xsn xsc] 57) := ⟨_, rfl⟩
  have HB : Hid (Below w.heap.size w W) := by unfold Hid; rw [hW]; (repeat (first | exact Below.refl _ _ | assumption | refine Below.drew ?_ | refine Below.alloc ?_ (by first | (simp; done) | (simp; omega)) _ | refine Below.setCell ?_ (by first | (simp; done) | (simp; omega)) _))
  have HBG : Hid (BoxN W w.heap.size 24 [.int .i64 gr.p, .int .i64 gr.q, .int .i64 gr.g]) := by unfold Hid; rw [hW]; have h := (BoxN.new w [.int .i64 gr.p, .int .i64 gr.q, .int .i64 gr.g] 24).alloc (.cells #[.slice xca xcn xcc, .slice xsa xsn xsc] 57); simpa using h
  have HBD : Hid (BoxN W (w.heap.size + 1) 57 [.slice xca xcn xcc, .slice xsa xsn xsc]) := by unfold Hid; rw [hW]; have h := BoxN.new (w.alloc (.cells #[.int .i64 gr.p, .int .i64 gr.q, .int .i64 gr.g] 24)) [.slice xca xcn xcc, .slice xsa xsn xsc] 57; simpa using h
  have HSW : w.heap.size ≤ W.heap.size := HB.out.size
  have HW2 : Hid (W.heap.size = w.heap.size + 1 + 1) := by unfold Hid; rw [hW]; simp
  have d0 := HBD.out.cell (i := 0) rfl
  have d1 := HBD.out.cell (i := 1) rfl
  go_enter Try.func117, Try.ntmps117
  go_wp2_with fail
  rw [← hW]
  clear hW d0 d1
  obtain ⟨V, hV⟩ : ∃ V, V = W.alloc (.cells #[] 3) := ⟨_, rfl⟩
  have hbV : Below W.heap.size W V := by rw [hV]; exact (Below.refl _ _).alloc (Nat.le_refl _) _
  have HO0 : Hid (OwnI V W.heap.size (.slice (some ⟨w.heap.size + 1 + 1, 0, none⟩) 0 0) []) := by unfold Hid; rw [hV, ← HW2.out]; exact OwnI.lit W (Nat.le_refl _) AllI64.nil rfl (by simp) 0 rfl
  have d1 := HBD.out.cell (i := 1) rfl
  have d0 := HBD.out.cell (i := 0) rfl
  (try (go_wp2_with fail))
  (try rw [← hV])
  clear hV d0 d1
  go_loopg [5, 12] xsn (fun gk ov iv wr => ∃ k : Nat, k + gk = xsn ∧ iv = .int .i64 (k : Int) ∧ OwnI wr W.heap.size ov (bdL gr d k) ∧ Below W.heap.size W wr)
  case atStart => exact ⟨0, by omega, rfl, HO0.out, hbV⟩
  case round =>
    obtain ⟨k, hkg, rfl, hO, hbr⟩ := hrel
    have HKG := Lib.hid hkg
    have HBR := Lib.hid hbr
    have hgl : k < xsn → xsn - (k + 1) < gk := by omega
    have hsr := hbr.size
    have HLB := Lib.hid (bdL_len gr d k)
    obtain ⟨LB, hLB⟩ : ∃ l, bdL gr d k = l := ⟨_, rfl⟩
    rw [hLB] at hO HLB
    have HLe := Lib.hid hLB
    obtain ⟨ao, co, rfl⟩ := hO.shape
    have HO := Lib.hid hO
    clear hkg hbr hO hLB
    have hN7 : xsn ≤ 7 := by have := HD.out.1; have := Exs.out; omega
    by_cases hlt : k < xsn
    · obtain ⟨b, o, e, hcx⟩ := Hxs.out.at_ (by have := Exs.out; omega)
      cases e
      have yk := box_at (box_at (hcx k hlt) HB.out) HBR.out
      clear hcx
      have HXI : Hid (I64 (nth d.s k)) := nth_64 Hxs.out k
      obtain ⟨x, hx⟩ : ∃ z, nth d.s k = z := ⟨_, rfl⟩
      rw [hx] at yk HXI
      have HXe := Lib.hid hx
      clear hx
      have kk0 : (0 : Int) ≤ (k : Int) := by omega
      have kk1 : (k : Int) < (xsn : Int) := by omega
      have hwk : IntKind.i64.wrap ((k : Int) + 1) = (k : Int) + 1 := IntWalk.i64_in _ (by omega)
      have HKI : Hid (0 ≤ (k : Int) + 1 ∧ (k : Int) + 1 ≤ 1000) := ⟨by omega, by omega⟩
      have c0 := (HBG.out.below HBR.out).cell (i := 0) rfl
      have c1 := (HBG.out.below HBR.out).cell (i := 1) rfl
      have c2 := (HBG.out.below HBR.out).cell (i := 2) rfl
      have d0 := (HBD.out.below HBR.out).cell (i := 0) rfl
      have d1 := (HBD.out.below HBR.out).cell (i := 1) rfl
      go_wp2_with fail
      refine (impl_isShare gr _ d.c ((k : Int) + 1) x _ HG.out ((Hxc.out.below HB.out).below HBR.out) HEL.out (by have := HD.out.1; omega) HKI.out HXI.out).mono ?_
      rintro e w1 ⟨rfl, hb1⟩
      have hs1 := hb1.size
      have HO1 := Lib.hid (HO.out.below hb1)
      have HB1 := Lib.hid (HBR.out.trans (hb1.mono HBR.out.size))
      clear hb1 c0 c1 c2 d0 d1 yk
      obtain ⟨q, hq⟩ : ∃ q, shrB gr d.c ((k : Int) + 1) x = q := ⟨_, rfl⟩
      have HQ := Lib.hid hq
      rw [hq]
      clear hq
      cases q with
      | true =>
        have HN : Hid (bdL gr d (k + 1) = LB) := by unfold Hid bdL; rw [HXe.out, if_pos HQ.out]; exact HLe.out
        go_wp2_with fail
        go_roundg (xsn - (k + 1))
        case measure => exact hgl hlt
        case rel => exact ⟨k + 1, by have := HKG.out; omega, by go_num, by rw [HN.out]; exact HO1.out, HB1.out⟩
      | false =>
        have HN : Hid (bdL gr d (k + 1) = LB ++ [(k : Int) + 1]) := by unfold Hid bdL; rw [HXe.out, if_neg (by rw [HQ.out]; simp), HLe.out]
        go_wp2_with (at_builtin; refine wpList_append_ints rfl _ _ rfl W.heap.size _ _ LB [(k : Int) + 1] rfl (HO1.out.alloc _) rfl (Ints.lit1 _ ⟨by omega, by omega⟩) (by have := HLB.out; simp; omega) (by simp; omega) ?_; intro v4 w4 hown4 hgr4)
        have hb4 := (HO1.out.alloc _).grown hgr4 (by simp; omega)
        have hb5 := ((Below.refl W.heap.size w1).alloc (by omega) _).trans hb4
        go_roundg (xsn - (k + 1))
        case measure => exact hgl hlt
        case rel => exact ⟨k + 1, by have := HKG.out; omega, by go_num, by rw [HN.out]; exact hown4, HB1.out.trans hb5⟩
    · obtain rfl : k = xsn := by have := HKG.out; omega
      have HV : Hid (badE gr d = LB) := by unfold Hid badE; rw [Exs.out]; exact HLe.out
      go_wp2_with fail
      go_ret
      exact ⟨⟨_, rfl, by rw [HV.out]; exact HO.out.mono HSW⟩, HB.out.trans (HBR.out.mono HB.out.size)⟩
theorem vdB_parts {gr : GroupD} {d : DealingD} (h : vdB gr d = true) : OkG gr ∧ deB gr d = true := by
  unfold vdB at h; rw [Bool.and_eq_true] at h; exact ⟨shG_ok h.1, h.2⟩
set_option maxRecDepth 100000 in
set_option maxHeartbeats 2000000 in
theorem impl_BadShares (gr : GroupD) (pv : Value) (d : DealingD) (w : World) (hp : DlR w pv d) :
    Calls Try.prog 31 #[.agg #[.int .i64 gr.p, .int .i64 gr.q, .int .i64 gr.g], pv] w fun e w' => (∃ v', e = .returned (.tuple #[v', .bool (vdB gr d)]) ∧ Ints w' v' (bsR gr d)) ∧ Below w.heap.size w w' := by
  obtain ⟨xcv, xsv, rfl, hxc, hxs⟩ := hp
  obtain ⟨xca, xcn, xcc, rfl⟩ := hxc.shape
  have Exc := Lib.hid hxc.len
  have Kxc := Lib.hid hxc.capMax
  have Hxc := Lib.hid hxc
  clear hxc
  obtain ⟨xsa, xsn, xsc, rfl⟩ := hxs.shape
  have Exs := Lib.hid hxs.len
  have Kxs := Lib.hid hxs.capMax
  have Hxs := Lib.hid hxs
  clear hxs
  obtain ⟨W, hW⟩ : ∃ W, W = (w.alloc (.cells #[.int .i64 gr.p, .int .i64 gr.q, .int .i64 gr.g] 24)).alloc (.cells #[(.slice xca xcn xcc), (.slice xsa xsn xsc)] 57) := ⟨_, rfl⟩
  have HB : Hid (Below w.heap.size w W) := by unfold Hid; rw [hW]; (repeat (first | exact Below.refl _ _ | assumption | refine Below.drew ?_ | refine Below.alloc ?_ (by first | (simp; done) | (simp; omega)) _ | refine Below.setCell ?_ (by first | (simp; done) | (simp; omega)) _))
  have c0_0 : W.cell? ⟨w.heap.size, 0, none⟩ = some (.int .i64 gr.p) := by rw [hW]; simp [go_sem]
  have c0_1 : W.cell? ⟨w.heap.size, 1, none⟩ = some (.int .i64 gr.q) := by rw [hW]; simp [go_sem]
  have c0_2 : W.cell? ⟨w.heap.size, 2, none⟩ = some (.int .i64 gr.g) := by rw [hW]; simp [go_sem]
  have c1_0 : W.cell? ⟨w.heap.size + 1, 0, none⟩ = some ((.slice xca xcn xcc)) := by rw [hW]; simp [go_sem]
  have c1_1 : W.cell? ⟨w.heap.size + 1, 1, none⟩ = some ((.slice xsa xsn xsc)) := by rw [hW]; simp [go_sem]
  have HSW : Hid (W.heap.size = w.heap.size + 2) := by unfold Hid; rw [hW]; simp
  go_enter Try.func31, Try.ntmps31
  go_wp2_with fail
  rw [← hW]
  have hse : w.heap.size + 1 + 1 = W.heap.size := by have := HSW.out; omega
  (try rw [hse])
  clear hse
  clear hW
  have hc : Below W.heap.size W W := Below.refl _ _
  have HCC : Hid (∀ u, Below W.heap.size W u → u.cell? ⟨w.heap.size, 0, none⟩ = some (.int .i64 gr.p) ∧ u.cell? ⟨w.heap.size, 1, none⟩ = some (.int .i64 gr.q) ∧ u.cell? ⟨w.heap.size, 2, none⟩ = some (.int .i64 gr.g) ∧ u.cell? ⟨w.heap.size + 1, 0, none⟩ = some ((.slice xca xcn xcc)) ∧ u.cell? ⟨w.heap.size + 1, 1, none⟩ = some ((.slice xsa xsn xsc))) := fun u h => ⟨box_at c0_0 h, box_at c0_1 h, box_at c0_2 h, box_at c1_0 h, box_at c1_1 h⟩
  go_wp2_with fail
  refine (impl_IsValidDealing gr _ d _ (DlR.mk (Hxc.out.below (HB.out.trans (hc.mono HB.out.size))) (Hxs.out.below (HB.out.trans (hc.mono HB.out.size))))).mono ?_
  rintro e u1 ⟨rfl, hq1⟩
  replace hc := Below.next hc hq1
  clear hq1 c0_0 c0_1 c0_2 c1_0 c1_1
  obtain ⟨c0_0, c0_1, c0_2, c1_0, c1_1⟩ := HCC.out _ hc
  cases hc1 : vdB gr d with
  | false =>
    have Hhc1 := Lib.hid hc1
    clear hc1
    go_wp2_with fail
    have HVB : Hid (vdB gr d = false) := by unfold Hid; simp [Hhc1.out]
    have HPR : Hid (bsR gr d = []) := by unfold Hid bsR; rw [if_neg (by rw [HVB.out]; simp)]
    go_ret2
    exact ⟨⟨_, by rw [HVB.out]; rfl, by rw [HPR.out]; exact Ints.nil _⟩, HB.out.trans (hc.mono HB.out.size)⟩
  | true =>
    have HG := Lib.hid (vdB_parts hc1).1
    have HDB := Lib.hid (vdB_parts hc1).2
    have Hhc1 := Lib.hid hc1
    clear hc1
    go_wp2_with fail
    refine (impl_bad gr _ d _ HG.out (DlR.mk (Hxc.out.below (HB.out.trans (hc.mono HB.out.size))) (Hxs.out.below (HB.out.trans (hc.mono HB.out.size)))) HDB.out).mono ?_
    rintro e u2 ⟨⟨vb, rfl, hob⟩, hq2⟩
    replace hc := Below.next hc hq2
    clear hq2 c0_0 c0_1 c0_2 c1_0 c1_1
    obtain ⟨c0_0, c0_1, c0_2, c1_0, c1_1⟩ := HCC.out _ hc
    go_wp2_with fail
    have HVB : Hid (vdB gr d = true) := by unfold Hid; simp [Hhc1.out]
    have HPR : Hid (bsR gr d = badE gr d) := by unfold Hid bsR; rw [if_pos (by rw [HVB.out])]
    go_ret2
    exact ⟨⟨_, by rw [HVB.out]; rfl, by rw [HPR.out]; exact hob.ints⟩, HB.out.trans (hc.mono HB.out.size)⟩
/-- an element of a slice of dealings -/
theorem RdDl.get {w : World} {a : Option Addr} {n c k : Nat} {l : List DealingD} (h : RdR rDealing w (.slice a n c) l) (hk : k < l.length) :
    ∃ b o a0 n0 c0 a1 n1 c1, a = some ⟨b, o, none⟩ ∧ w.cell? ⟨b, o + k * 2, none⟩ = some (.slice a0 n0 c0) ∧ w.cell? ⟨b, o + k * 2 + 1, none⟩ = some (.slice a1 n1 c1) ∧ Ints w (.slice a0 n0 c0) l[k].c ∧ Ints w (.slice a1 n1 c1) l[k].s := by
  have hn := h.len
  obtain ⟨b, o, rfl, hcx⟩ := h.at_ (by omega)
  obtain ⟨us, hcell, hrd⟩ := hcx k hk
  obtain ⟨a0, n0, c0, a1, n1, c1, ers, h0, h1⟩ := rdDealing.1 ⟨us, rfl, hrd⟩
  obtain rfl : us = [.slice a0 n0 c0, .slice a1 n1 c1] := by have h := Value.agg.inj ers; simpa using congrArg Array.toList h
  refine ⟨b, o, a0, n0, c0, a1, n1, c1, rfl, ?_, ?_, h0, h1⟩
  · have h := hcell 0 (by decide)
    have e : rDealing.width = 2 := rfl
    rw [e, Nat.add_zero] at h
    simpa using h
  · have h := hcell 1 (by decide)
    have e : rDealing.width = 2 := rfl
    rw [e, ← Nat.add_assoc] at h
    simpa using h
theorem RdDl.first {w : World} {a : Option Addr} {n c : Nat} {l : List DealingD} (h : RdR rDealing w (.slice a n c) l) (hk : 0 < l.length) :
    ∃ b o a0 n0 c0 a1 n1 c1, a = some ⟨b, o, none⟩ ∧ w.cell? ⟨b, o, none⟩ = some (.slice a0 n0 c0) ∧ w.cell? ⟨b, o + 1, none⟩ = some (.slice a1 n1 c1) ∧ Ints w (.slice a0 n0 c0) l[0].c ∧ Ints w (.slice a1 n1 c1) l[0].s := by
  obtain ⟨b, o, a0, n0, c0, a1, n1, c1, e, h1, h2, h3, h4⟩ := RdDl.get h hk
  rw [Nat.zero_mul, Nat.add_zero] at h1 h2
  exact ⟨b, o, a0, n0, c0, a1, n1, c1, e, h1, h2, h3, h4⟩
def hdD (l : List DealingD) : DealingD := l.headD ⟨[], []⟩
theorem hdD_eq {l : List DealingD} (h : 0 < l.length) : hdD l = l[0] := by
  cases l with
  | nil => simp at h
  | cons a l => rfl
def dsB (gr : GroupD) (l : List DealingD) : Bool := decide ((l.length : Int) ≤ 7) && l.all (deB gr)
def alB (gr : GroupD) (l : List DealingD) : Bool := decide ((1 : Int) ≤ (l.length : Int) ∧ (l.length : Int) ≤ 7) && l.all (fun d => deB gr d && smB d (hdD l))
noncomputable def sdB (gr : GroupD) (l : List DealingD) : Bool := shG gr && alB gr l
theorem dl_any (gr : GroupD) (l : List DealingD) : (l.any fun e => !deB gr e) = !(l.all (deB gr)) := by
  induction l with
  | nil => rfl
  | cons a l ih => simp only [List.any_cons, List.all_cons, ih, Bool.not_and]
theorem sm_any (f : DealingD) (l : List DealingD) : (l.any fun e => !smB e f) = !(l.all fun e => smB e f) := by
  induction l with
  | nil => rfl
  | cons a l ih => simp only [List.any_cons, List.all_cons, ih, Bool.not_and]
theorem all_and' {α : Type} (f g : α → Bool) (l : List α) : (l.all fun d => f d && g d) = (l.all f && l.all g) := by
  induction l with
  | nil => rfl
  | cons a l ih => simp only [List.all_cons, ih]; cases f a <;> cases g a <;> simp
theorem sdB_alt (gr : GroupD) (l : List DealingD) : sdB gr l = (shG gr && (!((l.length : Int) == 0) && (dsB gr l && !(l.any fun d => !smB d (hdD l))))) := by
  unfold sdB alB dsB
  rw [sm_any, all_and', Bool.not_not]
  congr 1
  by_cases h0 : l.length = 0
  · rw [h0]; simp
  · rw [show ((l.length : Int) == 0) = false by rw [beq_eq_false_iff_ne]; omega]
    rw [show decide ((1 : Int) ≤ (l.length : Int) ∧ (l.length : Int) ≤ 7) = decide ((l.length : Int) ≤ 7) by rw [decide_eq_decide]; omega]
    simp [Bool.and_assoc]
set_option maxHeartbeats 1000000 in
theorem impl_hasDealings1 (gr : GroupD) (v : Value) (d : DealingD) (b : Nat) (w : World) (hg : OkG gr) (h : (kS rDealing).rd w v d) (hx : BoxN w b 24 [.int .i64 gr.p, .int .i64 gr.q, .int .i64 gr.g]) :
    Calls Try.prog 205 #[v, .pointer (some ⟨b, 0, none⟩)] w fun e w' => e = .returned (.bool (!deB gr d)) ∧ Below w.heap.size w w' := by
  obtain ⟨q, hq⟩ : ∃ q, deB gr d = q := ⟨_, rfl⟩
  have HQ := Lib.hid hq
  have HG := Lib.hid hg
  rw [hq]; clear hq hg
  obtain ⟨a0, n0, c0, a1, n1, c1, rfl, j0, j1⟩ := rdDealing.1 h
  have HJ : Hid (DlR w (.agg #[.slice a0 n0 c0, .slice a1 n1 c1]) d) := DlR.mk j0 j1
  clear h j0 j1
  obtain ⟨W, hW⟩ : ∃ W, W = w.alloc (.cells #[.slice a0 n0 c0, .slice a1 n1 c1] 57) := ⟨_, rfl⟩
  have HB : Hid (Below w.heap.size w W) := by unfold Hid; rw [hW]; (repeat (first | exact Below.refl _ _ | assumption | refine Below.drew ?_ | refine Below.alloc ?_ (by first | (simp; done) | (simp; omega)) _ | refine Below.setCell ?_ (by first | (simp; done) | (simp; omega)) _))
  have g0 := box_at (hx.cell (i := 0) rfl) HB.out
  have g1 := box_at (hx.cell (i := 1) rfl) HB.out
  have g2 := box_at (hx.cell (i := 2) rfl) HB.out
  have hlt := hx.lt
  have e0 := hx.cell (i := 0) rfl
  have e1 := hx.cell (i := 1) rfl
  have e2 := hx.cell (i := 2) rfl
  clear hx
  have d0 : W.cell? ⟨w.heap.size, 0, none⟩ = some (.slice a0 n0 c0) := by rw [hW]; simp [go_sem]
  have d1 : W.cell? ⟨w.heap.size, 1, none⟩ = some (.slice a1 n1 c1) := by rw [hW]; simp [go_sem]
  go_enter Try.func205, Try.ntmps205
  go_wp2_with fail
  rw [← hW]
  clear hW
  (try (go_wp2_with fail))
  refine (impl_hasDealing gr _ d _ HG.out (HJ.out.below HB.out)).mono ?_
  rintro e w1 ⟨rfl, hb1⟩
  rw [HQ.out]
  go_wp2_with fail
  go_ret
  exact ⟨rfl, HB.out.trans (hb1.mono HB.out.size)⟩
set_option maxHeartbeats 1000000 in
theorem impl_hasDealings (gr : GroupD) (v : Value) (l : List DealingD) (w : World) (hg : OkG gr) (h : RdR rDealing w v l) :
    Calls Try.prog 175 #[.agg #[.int .i64 gr.p, .int .i64 gr.q, .int .i64 gr.g], v] w fun e w' => e = .returned (.bool (dsB gr l)) ∧ Below w.heap.size w w' := by
  obtain ⟨a, n, c, rfl⟩ := h.shape
  have e := h.len
  have HG := Lib.hid hg
  obtain ⟨W, hW⟩ : ∃ W, W = w.alloc (.cells #[.int .i64 gr.p, .int .i64 gr.q, .int .i64 gr.g] 24) := ⟨_, rfl⟩
  have HB : Hid (Below w.heap.size w W) := by unfold Hid; rw [hW]; (repeat (first | exact Below.refl _ _ | assumption | refine Below.drew ?_ | refine Below.alloc ?_ (by first | (simp; done) | (simp; omega)) _ | refine Below.setCell ?_ (by first | (simp; done) | (simp; omega)) _))
  have HX : Hid (BoxN W w.heap.size 24 [.int .i64 gr.p, .int .i64 gr.q, .int .i64 gr.g]) := by unfold Hid; rw [hW]; exact BoxN.new w _ _
  have H : Hid (RdR rDealing W (.slice a n c) l) := h.below HB.out
  clear h
  have HD : Hid (DecidesS rDealing W 205 #[.pointer (some ⟨w.heap.size, 0, none⟩)] (fun d => !deB gr d)) :=
    ⟨Try.call205, fun v d wr hx hb => impl_hasDealings1 gr v d _ wr HG.out hx (HX.out.below hb)⟩
  by_cases hn : n ≤ 7
  · have HR : Hid (dsB gr l = !(l.any fun d => !deB gr d)) := by unfold Hid dsB; rw [dl_any, decide_eq_true (by omega)]; simp
    have H1 : decide ((n : Int) ≤ 7) = true := decide_eq_true (by omega)
    obtain ⟨q, hq⟩ : ∃ q, (l.any fun d => !deB gr d) = q := ⟨_, rfl⟩
    have HQ := Lib.hid hq
    rw [hq] at HR; clear hq e hg
    go_enter Try.func175, Try.ntmps175
    go_wp2_with fail
    rw [← hW]
    clear hW
    refine (slices_ContainsFuncDealing _ l _ _ (fun d => !deB gr d) _ H.out HD.out).mono ?_
    rintro e w1 ⟨rfl, hb⟩
    rw [HQ.out]
    go_wp2_with fail
    go_ret
    exact ⟨ret_bool (by first | (rw [HR.out]; done) | (rw [HR.out]; rfl) | exact HR.out.symm), HB.out.trans (hb.mono HB.out.size)⟩
  · have HR : Hid (dsB gr l = false) := by unfold Hid dsB; rw [decide_eq_false (by omega)]; rfl
    have H1 : decide ((n : Int) ≤ 7) = false := decide_eq_false (by omega)
    clear e hg
    go_enter Try.func175, Try.ntmps175
    go_wp2_with fail
    rw [← hW]
    clear hW
    (try (go_wp2_with fail))
    go_ret
    exact ⟨ret_bool (by first | (rw [HR.out]; done) | (rw [HR.out]; rfl) | exact HR.out.symm), HB.out⟩
end Go.Proofs.Ytacpnphfopmofaa
