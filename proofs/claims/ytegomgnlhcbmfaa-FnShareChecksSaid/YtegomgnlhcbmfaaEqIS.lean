/- The struct Dealing as a kind (printed by genkind.py): its data, its row, the walks of the laws' helpers. -/
import Derived.Test.YtegomgnlhcbmfaaBaS
import Derived.Test.YtegomgnlhcbmfaaCom1S
import Derived.Test.YtegomgnlhcbmfaaBmS
import Derived.Test.YtegomgnlhcbmfaaPow2S
namespace Go.Proofs.Ytegomgnlhcbmfaa
open Go.RowKit
set_option linter.unusedSimpArgs false
set_option linter.unusedVariables false

structure DealingD where
  c : List Int
  s : List Int
deriving DecidableEq
abbrev rDealing : RowK DealingD := rMap (rS sInts (rS sInts rNil)) (fun d => (d.c, (d.s, ())))
theorem rdDealing {w : World} {v : Value} {d : DealingD} : (kS rDealing).rd w v d ↔ ∃ a0 n0 c0 a1 n1 c1, v = .agg #[.slice a0 n0 c0, .slice a1 n1 c1] ∧ sInts.rd w (.slice a0 n0 c0) d.c ∧ sInts.rd w (.slice a1 n1 c1) d.s := by
  constructor
  · rintro ⟨_, rfl, ⟨v1, _, rfl, h2, ⟨v3, _, rfl, h4, rfl⟩⟩⟩
    obtain ⟨_, _, _, rfl⟩ := sInts.sl h2
    obtain ⟨_, _, _, rfl⟩ := sInts.sl h4
    exact ⟨_, _, _, _, _, _, rfl, h2, h4⟩
  · rintro ⟨a0, n0, c0, a1, n1, c1, rfl, g0, g1⟩
    exact ⟨_, rfl, ⟨_, _, rfl, g0, ⟨_, _, rfl, g1, rfl⟩⟩⟩
end Go.Proofs.Ytegomgnlhcbmfaa
namespace Go.Proofs.Ytegomgnlhcbmfaa
open Go.RowKit

/-- a function value that decides p on structs of a row, in every world that has grown from w -/
structure DecidesS {δ : Type} (R : RowK δ) (w : World) (g : FuncId) (caps : Array Value) (p : δ → Bool) : Prop where
  enters : ∀ args wr, (callFunc g args).run Try.prog wr = .ok (.enter g args) wr
  runs : ∀ v d wr, (kS R).rd wr v d → Below w.heap.size w wr → Calls Try.prog g (#[v] ++ caps) wr fun e w' => e = .returned (.bool (p d)) ∧ Below wr.heap.size wr w'
theorem DecidesS.below {δ : Type} {R : RowK δ} {w w' : World} {g : FuncId} {caps : Array Value} {p : δ → Bool} (h : DecidesS R w g caps p) (hb : Below w.heap.size w w') : DecidesS R w' g caps p :=
  ⟨h.enters, fun v d wr hx hr => h.runs v d wr hx (hb.trans (hr.mono hb.size))⟩
end Go.Proofs.Ytegomgnlhcbmfaa
namespace Go.Proofs.Ytegomgnlhcbmfaa
open Go.RowKit
set_option linter.unusedSimpArgs false
set_option linter.unusedVariables false

set_option maxHeartbeats 2000000 in
theorem slices_IndexFuncDealing (v : Value) (ds : List DealingD) (g : FuncId) (caps : Array Value) (p : DealingD → Bool) (w : World) (h : RdR rDealing w v ds) (hp : DecidesS rDealing w g caps p) :
    Calls Try.prog 207 #[v, .func (.func g) #[] caps] w fun e w' => (∃ r : Int, e = .returned (.int .i64 r) ∧ decide (0 ≤ r) = ds.any p) ∧ Below w.heap.size w w' := by
  obtain ⟨a, n, c, rfl⟩ := h.shape
  have e := h.len
  obtain ⟨k1, k2⟩ := h.capMax
  unfold maxLen at k2
  have HE := Lib.hid e; clear e
  have hent := hp.enters
  have HP := Lib.hid hp; clear hp
  have H := Lib.hid h; clear h
  go_enter Try.func207, Try.ntmps207
  go_wp2
  go_loopg [8] n (fun g i wr => ∃ k : Nat, k + g = n ∧ i = .int .i64 k ∧ Hid ((ds.take k).any p = false) ∧ Below w.heap.size w wr)
  case atStart => exact ⟨0, by omega, rfl, by unfold Hid; simp, Below.refl _ _⟩
  case round =>
    obtain ⟨k, hkg, rfl, HF, hb⟩ := hrel
    by_cases hlt : k < n
    · have HK : Hid (k < ds.length) := by unfold Hid; rw [HE.out]; exact hlt
      obtain ⟨b, o, rfl, hcx⟩ := H.out.at_ (by omega)
      obtain ⟨us, hcell, hrd⟩ := hcx k HK.out
      have HS : Hid ((ds.take (k + 1)).any p = ((ds.take k).any p || p (ds[k]'HK.out))) := by unfold Hid; rw [List.take_succ_eq_append_getElem HK.out, List.any_append]; simp
      have HM := Lib.hid (List.getElem_mem HK.out)
      generalize ds[k]'HK.out = d at hrd HS HM
      obtain ⟨v37, _, rfl, h38, ⟨v39, _, rfl, h40, rfl⟩⟩ := hrd
      obtain ⟨aa0, nn0, cc0, rfl⟩ := sInts.sl h38
      obtain ⟨aa1, nn1, cc1, rfl⟩ := sInts.sl h40
      have y0 : w.cell? ⟨b, o + (k * 2 + 0), none⟩ = some (.slice aa0 nn0 cc0) := hcell 0 (by decide)
      replace y0 : w.cell? ⟨b, o + k * 2, none⟩ = some (.slice aa0 nn0 cc0) := by rw [Nat.add_zero] at y0; exact y0
      have y1 : w.cell? ⟨b, o + (k * 2 + 1), none⟩ = some (.slice aa1 nn1 cc1) := hcell 1 (by decide)
      replace y1 : w.cell? ⟨b, o + k * 2 + 1, none⟩ = some (.slice aa1 nn1 cc1) := by rw [← Nat.add_assoc] at y1; exact y1
      have HR : Hid ((kS rDealing).rd wr (.agg #[.slice aa0 nn0 cc0, .slice aa1 nn1 cc1]) d) := (kS rDealing).rd_below (rdDealing.2 ⟨_, _, _, _, _, _, rfl, h38, h40⟩) hb
      replace y0 := box_at y0 hb
      replace y1 := box_at y1 hb
      clear hcell hcx h38 h40
      cases hpx : p d with
      | true =>
        have HA : Hid (decide (0 ≤ (k : Int)) = ds.any p) := by
          unfold Hid; rw [decide_eq_true (by omega), eq_comm, List.any_eq_true]; exact ⟨_, HM.out, hpx⟩
        have HX := Lib.hid hpx
        clear hpx
        go_wp2_with fail
        refine (HP.out.runs _ _ _ HR.out hb).mono ?_
        rintro e w1 ⟨rfl, hb1⟩
        rw [HX.out]
        go_wp2_with fail
        go_ret
        exact ⟨⟨_, rfl, HA.out⟩, hb.trans (hb1.mono hb.size)⟩
      | false =>
        have HX := Lib.hid hpx
        clear hpx
        go_wp2_with fail
        refine (HP.out.runs _ _ _ HR.out hb).mono ?_
        rintro e w1 ⟨rfl, hb1⟩
        rw [HX.out]
        go_wp2_with fail
        go_roundg (n - (k + 1))
        case measure => omega
        case rel => exact ⟨k + 1, by omega, by go_num, by unfold Hid; rw [HS.out, HF.out, HX.out]; rfl, hb.trans (hb1.mono hb.size)⟩
    · obtain rfl : n = k := by omega
      have HA : Hid (decide (0 ≤ (-1 : Int)) = ds.any p) := by
        have := HF.out
        rw [List.take_of_length_le (by rw [HE.out]; exact Nat.le_refl _)] at this
        unfold Hid; rw [this]; rfl
      go_wp2_with fail
      go_ret
      exact ⟨⟨_, rfl, HA.out⟩, hb⟩
theorem slices_ContainsFuncDealing (v : Value) (ds : List DealingD) (g : FuncId) (caps : Array Value) (p : DealingD → Bool) (w : World) (h : RdR rDealing w v ds) (hp : DecidesS rDealing w g caps p) :
    Calls Try.prog 134 #[v, .func (.func g) #[] caps] w fun e w' => e = .returned (.bool (ds.any p)) ∧ Below w.heap.size w w' := by
  have HP := Lib.hid hp; clear hp
  have H := Lib.hid h; clear h
  go_enter Try.func134, Try.ntmps134
  go_wp2_with fail
  refine (slices_IndexFuncDealing v ds g caps p _ H.out HP.out).mono ?_
  rintro e w1 ⟨⟨r, rfl, hr⟩, hb⟩
  have HR := Lib.hid hr; clear hr
  go_wp2_with fail
  go_ret
  exact ⟨ret_bool (by first | (rw [HR.out]; done) | (rw [HR.out]; rfl) | exact HR.out.symm), hb⟩
end Go.Proofs.Ytegomgnlhcbmfaa
namespace Go.Proofs.Ytegomgnlhcbmfaa
open Go.RowKit
set_option linter.unusedSimpArgs false
set_option linter.unusedVariables false

/-- what a round of Euclid's algorithm keeps: r and n are multiples of a (by x and y), the coefficients stay below m, a common divisor divides both -/
def EuInv (a m r n x y : Int) : Prop :=
  0 ≤ n ∧ 1 ≤ r ∧ r ≤ m ∧ n ≤ m ∧ (∃ u v : Int, 0 ≤ u ∧ 0 ≤ v ∧ u * n + v * r = m ∧ u ≤ m ∧ v ≤ m ∧ ((x = u ∧ y = -v) ∨ (x = -u ∧ y = v))) ∧ m ∣ x * a - r ∧ m ∣ y * a - n ∧ (∀ d : Int, d ∣ r → d ∣ n → d ∣ m ∧ d ∣ a)
theorem EuInv.start {a m : Int} (h0 : 0 ≤ a) (h1 : a ≤ m) (hm : 1 ≤ m) : EuInv a m m a 0 1 := by
  refine ⟨h0, hm, Int.le_refl _, h1, ⟨0, 1, by omega, by omega, by omega, by omega, hm, .inr ⟨rfl, rfl⟩⟩, ⟨-1, by omega⟩, ⟨0, by omega⟩, fun d h2 h3 => ⟨h2, h3⟩⟩
theorem EuInv.quo {a m r n x y : Int} (h : EuInv a m r n x y) (hn : 0 < n) : 0 ≤ r / n ∧ r / n ≤ m ∧ 0 ≤ r / n * n ∧ r / n * n ≤ r ∧ r - r / n * n < n ∧ 0 ≤ r - r / n * n := by
  obtain ⟨h0, h1, h2, h3, _⟩ := h
  have e1 : 0 ≤ r / n := Int.ediv_nonneg (by omega) (by omega)
  have e2 : r / n * n ≤ r := Int.ediv_mul_le _ (by omega)
  have e3 : r - r / n * n = r % n := by have := Int.emod_def r n; rw [this, Int.mul_comm]
  have e4 := Int.emod_lt_of_pos r hn
  have e5 : r / n ≤ r := Int.ediv_le_self _ (by omega)
  exact ⟨e1, by omega, Int.mul_nonneg e1 (by omega), e2, by omega, by omega⟩
theorem EuInv.step {a m r n x y : Int} (h : EuInv a m r n x y) (hn : 0 < n) : EuInv a m n (r - r / n * n) y (x - r / n * y) ∧ -m ≤ r / n * y ∧ r / n * y ≤ m := by
  obtain ⟨q0, q1, q2, q3, q4, q5⟩ := h.quo hn
  obtain ⟨h0, h1, h2, h3, ⟨u, v, h4, h5, h6, h7, h8, h9⟩, h10, h11, h12⟩ := h
  obtain ⟨q, hq⟩ : ∃ q, r / n = q := ⟨_, rfl⟩
  rw [hq] at q0 q1 q2 q3 q4 q5 ⊢
  have hqv : 0 ≤ q * v := Int.mul_nonneg q0 h5
  have e1 : (u + q * v) * n + v * (r - q * n) = u * n + v * r - (v * (q * n) - q * v * n) := by
    rw [Int.add_mul, Int.mul_sub]; omega
  have e2 : v * (q * n) = q * v * n := by ac_rfl
  have e3 : v * n + (u + q * v) * 0 = v * n := by omega
  -- the coefficients: v and u + q v
  have e4 : v * (r - q * n) + (u + q * v) * n = m := by rw [Int.add_comm, e1, e2]; omega
  have e5 : u + q * v ≤ m := by
    have s1 : 0 ≤ v * (r - q * n) := Int.mul_nonneg h5 q5
    have s2 : (u + q * v) * 1 ≤ (u + q * v) * n := Int.mul_le_mul_of_nonneg_left (by omega) (by omega)
    omega
  have e6 : -m ≤ q * y ∧ q * y ≤ m := by
    rcases h9 with ⟨_, rfl⟩ | ⟨_, rfl⟩
    · rw [Int.mul_neg]; omega
    · omega
  refine ⟨⟨q5, by omega, h3, by omega, ⟨v, u + q * v, h5, by omega, e4, h8, e5, ?_⟩, h11, ?_, fun d d1 d2 => ?_⟩, e6.1, e6.2⟩
  · rcases h9 with ⟨rfl, rfl⟩ | ⟨rfl, rfl⟩
    · exact .inr ⟨rfl, by rw [Int.mul_neg]; omega⟩
    · exact .inl ⟨rfl, by omega⟩
  · obtain ⟨c1, k1⟩ := h10
    obtain ⟨c2, k2⟩ := h11
    refine ⟨c1 - q * c2, ?_⟩
    have s1 : (x - q * y) * a - (r - q * n) = (x * a - r) - q * (y * a - n) := by
      rw [Int.sub_mul, Int.mul_sub, Int.mul_assoc]; omega
    rw [s1, k1, k2, Int.mul_sub]
    congr 1
    ac_rfl
  · refine h12 d ?_ d1
    obtain ⟨c1, k1⟩ := d1
    obtain ⟨c2, k2⟩ := d2
    refine ⟨c2 + q * c1, ?_⟩
    rw [Int.mul_add]
    have s1 : d * (q * c1) = q * n := by rw [k1]; ac_rfl
    omega
theorem Prm.gcd_one {a m r : Int} (hm : Prm m) (h0 : 0 < a) (h1 : a < m) (hr : 1 ≤ r) (h2 : r ∣ m) (h3 : r ∣ a) : r = 1 := by
  by_cases h : r = 1
  · exact h
  · exfalso
    have hra : r ≤ a := Int.le_of_dvd h0 h3
    obtain ⟨c, hc⟩ := h2
    have hc1 : 1 < c := by
      have s0 : 0 < c := by
        apply Int.not_le.1
        intro hle
        have s2 : r * c ≤ r * 0 := Int.mul_le_mul_of_nonneg_left hle (by omega)
        have := hm.1
        omega
      have s1 : c ≠ 1 := fun e => by rw [e] at hc; omega
      omega
    by_cases hle : r * r ≤ m
    · exact hm.2 r (by omega) hle (Int.emod_eq_zero_of_dvd ⟨c, hc⟩)
    · have hcr : c * c ≤ m := by
        have s1 : c ≤ r := by
          apply Int.not_lt.1
          intro hlt
          have : r * r ≤ r * c := Int.mul_le_mul_of_nonneg_left (by omega) (by omega)
          omega
        rw [hc]
        exact Int.mul_le_mul_of_nonneg_right s1 (by omega)
      exact hm.2 c (by omega) hcr (Int.emod_eq_zero_of_dvd ⟨r, by rw [hc, Int.mul_comm]⟩)
/-- the inverse of an exponent, found by Euclid's algorithm -/
theorem EuInv.done {a m r x y : Int} (h : EuInv a m r 0 x y) (hm : Prm m) (h0 : 0 < a) (h1 : a < m) : r = 1 ∧ a * (x % m) % m = 1 := by
  obtain ⟨_, h2, _, _, _, h3, _, h4⟩ := h
  obtain ⟨d1, d2⟩ := h4 r (Int.dvd_refl _) (Int.dvd_zero _)
  have hr := hm.gcd_one h0 h1 h2 d1 d2
  subst hr
  refine ⟨rfl, ?_⟩
  obtain ⟨c, hc⟩ := h3
  have hm2 := hm.1
  rw [emod_mul_right, Int.mul_comm, show x * a = 1 + m * c by omega, Int.add_mul_emod_self_left]
  exact Int.emod_eq_of_lt (by omega) (by omega)
theorem EuInv.ends {a m : Int} (hm : Prm m) (h0 : 0 < a) (h1 : a < m) : ∀ (k : Nat) (r n x y : Int), n.toNat ≤ k → EuInv a m r n x y → ∃ z, a * z % m = 1
  | 0, r, n, x, y, hk, h => by
    have h2 := h.1
    have e : n = 0 := by omega
    rw [e] at h
    exact ⟨_, (h.done hm h0 h1).2⟩
  | k + 1, r, n, x, y, hk, h => by
    have h2 := h.1
    by_cases e : n = 0
    · rw [e] at h
      exact ⟨_, (h.done hm h0 h1).2⟩
    · have h3 := h.quo (by omega)
      have h4 := (h.step (by omega)).1
      exact EuInv.ends hm h0 h1 k _ _ _ _ (by omega) h4
theorem inverse_is {a m : Int} (hm : Prm m) (h0 : 0 < a) (h1 : a < m) : ∃ z, a * z % m = 1 :=
  EuInv.ends hm h0 h1 a.toNat m a 0 1 (Nat.le_refl _) (EuInv.start (by omega) (by omega) (by have := hm.1; omega))
theorem inverse_bd {a m : Int} (hm : Prm m) (h0 : 0 < a) (h1 : a < m) : ∃ z, (0 ≤ z ∧ z < m) ∧ a * z % m = 1 := by
  obtain ⟨z, hz⟩ := inverse_is hm h0 h1
  have := hm.1
  exact ⟨z % m, ⟨Int.emod_nonneg _ (by omega), Int.emod_lt_of_pos _ (by omega)⟩, by rw [emod_mul_right]; exact hz⟩
open Classical in
/-- the inverse of an exponent -/
noncomputable def invQ (a m : Int) : Int := if h : ∃ z, (0 ≤ z ∧ z < m) ∧ a * z % m = 1 then h.choose else 0
theorem invQ_is {a m : Int} (hm : Prm m) (h0 : 0 < a) (h1 : a < m) : (0 ≤ invQ a m ∧ invQ a m < m) ∧ a * invQ a m % m = 1 := by
  have h := inverse_bd hm h0 h1
  unfold invQ
  rw [dif_pos h]
  exact h.choose_spec
theorem invQ_one {a m y : Int} (hm : Prm m) (h0 : 0 < a) (h1 : a < m) (hy : 0 ≤ y ∧ y < m) (h : a * y % m = 1) : y = invQ a m := by
  obtain ⟨hz, hz2⟩ := invQ_is hm h0 h1
  obtain ⟨z, e⟩ : ∃ z, invQ a m = z := ⟨_, rfl⟩
  rw [e] at hz hz2 ⊢
  have e1 : (y * (a * z)) % m = y := by rw [← emod_mul_right, hz2, Int.mul_one]; exact Int.emod_eq_of_lt hy.1 hy.2
  have e2 : (y * (a * z)) % m = z := by
    rw [show y * (a * z) = (a * y) * z by ac_rfl, ← emod_mul_left, h, Int.one_mul]; exact Int.emod_eq_of_lt hz.1 hz.2
  rw [← e1, e2]
theorem EuInv.inv {a m r x y : Int} (h : EuInv a m r 0 x y) (hm : Prm m) (h0 : 0 < a) (h1 : a < m) : r = 1 ∧ x % m = invQ a m := by
  obtain ⟨e1, e2⟩ := h.done hm h0 h1
  exact ⟨e1, invQ_one hm h0 h1 ⟨Int.emod_nonneg _ (by omega), Int.emod_lt_of_pos _ (by omega)⟩ e2⟩
end Go.Proofs.Ytegomgnlhcbmfaa
/- The struct Proof as a kind (printed by genkind.py): its data, its row, the walks of the laws' helpers. -/

namespace Go.Proofs.Ytegomgnlhcbmfaa
open Go.RowKit
set_option linter.unusedSimpArgs false
set_option linter.unusedVariables false

structure ProofD where
  c : List Int
  h : List Int
  r : List Int
deriving DecidableEq
end Go.Proofs.Ytegomgnlhcbmfaa
/- The struct Head as a kind (printed by genkind.py): its data, its row, the walks of the laws' helpers. -/


namespace Go.Proofs.Ytegomgnlhcbmfaa
open Go.RowKit
set_option linter.unusedSimpArgs false
set_option linter.unusedVariables false

end Go.Proofs.Ytegomgnlhcbmfaa
/- The struct Entry as a kind (printed by genkind.py): its data, its row, the walks of the laws' helpers. -/


namespace Go.Proofs.Ytegomgnlhcbmfaa
open Go.RowKit
set_option linter.unusedSimpArgs false
set_option linter.unusedVariables false

end Go.Proofs.Ytegomgnlhcbmfaa
namespace Go.Proofs.Ytegomgnlhcbmfaa
open Go.RowKit
set_option linter.unusedSimpArgs false
set_option linter.unusedVariables false

/-- a proof in memory -/
def PfR (w : World) (v : Value) (d : ProofD) : Prop := ∃ a b c, v = .agg #[a, b, c] ∧ Ints w a d.c ∧ Ints w b d.h ∧ Ints w c d.r
theorem PfR.below {w w' : World} {v : Value} {d : ProofD} (h : PfR w v d) (hb : Below w.heap.size w w') : PfR w' v d := by
  obtain ⟨a, b, c, e, h1, h2, h3⟩ := h; exact ⟨a, b, c, e, h1.below hb, h2.below hb, h3.below hb⟩
theorem PfR.mk {w : World} {a b c : Value} {d : ProofD} (h1 : Ints w a d.c) (h2 : Ints w b d.h) (h3 : Ints w c d.r) : PfR w (.agg #[a, b, c]) d := ⟨a, b, c, rfl, h1, h2, h3⟩
/-- a proof in new memory and a Bool are returned -/
def RetP (e : Ending) (w : World) (B : Nat) (b : Bool) (d : ProofD) : Prop := ∃ x y z, e = .returned (.tuple #[.agg #[x, y, z], .bool b]) ∧ OwnI w B x d.c ∧ OwnI w B y d.h ∧ OwnI w B z d.r
theorem RetP.mk {w : World} {B : Nat} {x y z : Value} {b : Bool} {d : ProofD} (h1 : OwnI w B x d.c) (h2 : OwnI w B y d.h) (h3 : OwnI w B z d.r) : RetP (.returned (.tuple #[.agg #[x, y, z], .bool b])) w B b d := ⟨x, y, z, rfl, h1, h2, h3⟩
theorem OwnI.shapeN {w : World} {B n : Nat} {v : Value} {l : List Int} (h : OwnI w B v l) (hn : l.length = n) : ∃ a c, v = .slice a n c := by subst hn; exact h.shape
theorem OwnI.oth {w : World} {B b : Nat} {v : Value} {l : List Int} (h : OwnI w B v l) (hb : b < B) (j : Nat) (x : Value) : OwnI (w.setCell ⟨b, j, none⟩ x) B v l :=
  h.kept (grownBy_setCell _ b j x) (.inr fun e => by have := (h.lt _ e).1; omega)
theorem nth_64 {w : World} {v : Value} {l : List Int} (h : Ints w v l) (i : Nat) : I64 (nth l i) := by
  by_cases hi : i < l.length
  · have e : nth l i = l[i] := by simp [nth, List.getD, hi]
    rw [e]; exact h.all _ (List.getElem_mem _)
  · have e : nth l i = 0 := by simp [nth, List.getD, Nat.not_lt.1 hi]
    rw [e]; exact ⟨by decide, by decide⟩
end Go.Proofs.Ytegomgnlhcbmfaa
namespace Go.Proofs.Ytegomgnlhcbmfaa
open Go.RowKit
set_option linter.unusedSimpArgs false
set_option linter.unusedVariables false
set_option maxRecDepth 100000 in
set_option maxHeartbeats 1000000 in
theorem laws_qInts (v1 v2 : Value) (l : List Int) (w : World) (h1 : Ints w v1 l) (h2 : Ints w v2 l) :
    Calls Try.prog 63 #[v1, v2] w fun e w' => e = .returned (.bool true) ∧ Below w.heap.size w w' := by
  obtain ⟨a1, n, c1, rfl⟩ := h1.shape
  obtain ⟨a2, n2, c2, rfl⟩ := h2.shape
  have e1 := h1.len
  have e2 := h2.len
  obtain ⟨k1, k2⟩ := h1.capMax
  unfold maxLen at k2
  obtain rfl : n = n2 := by omega
  have HE := Lib.hid e1
  clear e1 e2
  have H1 := Lib.hid h1
  have H2 := Lib.hid h2
  clear h1 h2
  have hnn : ((n : Int) == (n : Int)) = true := by simp
  go_enter Try.func63, Try.ntmps63
  go_wp2_with fail
  go_loopg [13] n (fun gh iv wr => ∃ k : Nat, k + gh = n ∧ iv = .int .i64 k ∧ Below w.heap.size w wr)
  case atStart => exact ⟨0, by omega, rfl, Below.refl _ _⟩
  case round =>
    obtain ⟨k, hkg, rfl, hb⟩ := hrel
    by_cases hlt : k < n
    · obtain ⟨b1, o1, rfl, hc1⟩ := H1.out.at_ (by omega)
      obtain ⟨b2, o2, rfl, hc2⟩ := H2.out.at_ (by omega)
      have y0 := box_at (hc1 k hlt) hb
      have y1 := box_at (hc2 k hlt) hb
      clear hc1 hc2
      generalize nth l k = x at y0 y1
      have hc : Below wr.heap.size wr wr := Below.refl _ _
      have HB := Lib.hid hb
      clear hb
      have b0 : (0 : Int) ≤ (k : Int) := by omega
      have bk1 : (k : Int) < (n : Int) := by omega
      have xa : (x == x) = true := by simp
      have hwk : IntKind.i64.wrap ((k : Int) + 1) = (k : Int) + 1 := IntWalk.i64_in _ (by omega)
      go_wp2_with fail
      try (go_wp2_with fail)
      refine wp_region_noPanic ?_
      refine wp_region_P (fun w' => w'.cell? ⟨b1, o1 + k, none⟩ = some (.int .i64 x) ∧ w'.cell? ⟨b2, o2 + k, none⟩ = some (.int .i64 x)) 11 [(0, []), (1, []), (2, [1, 0]), (3, [0]), (4, []), (5, []), (6, [1, 0]), (7, [0]), (8, [4, 0])] [] (by kernel_rfl) (by kernel_rfl) (by kernel_rfl) rfl (fun _ _ _ _ h => h) (fun w' h => ⟨box_at y0 h, box_at y1 h⟩) ?_
      simp only [pickP, pickN, List.getElem?_cons_zero, List.getElem?_cons_succ]
      iterate 9 (refine' chainP_read _ rfl rfl (fun w' hS' => ?_) ?_; rotate_left; · (simp only [lookP, allP, Act.put, List.getElem?_cons_zero, List.getElem?_cons_succ, List.setIfInBounds_toArray, List.set_cons_zero, List.set_cons_succ]; (try dsimp only at hS'); go_simp; (try with_reducible rfl)))
      refine chainP_nil (fun ua hS' => ?_)
      simp only [allP, Act.put, List.setIfInBounds_toArray, List.set_cons_zero, List.set_cons_succ]
      have hq1 := hS'.1
      clear hS'
      replace hc := Below.next hc hq1
      replace y0 := box_at y0 hq1
      replace y1 := box_at y1 hq1
      clear hq1
      clear y0 y1
      go_wp2_with fail
      refine NoPanic.normal ?_
      go_wp2_with fail
      go_roundg (n - (k + 1))
      case measure => omega
      case rel => exact ⟨k + 1, by omega, by go_num, HB.out.trans (hc.mono HB.out.size)⟩
    · obtain rfl : n = k := by omega
      have HB := Lib.hid hb
      clear hb
      go_wp2_with fail
      go_ret
      exact ⟨rfl, HB.out⟩
end Go.Proofs.Ytegomgnlhcbmfaa
