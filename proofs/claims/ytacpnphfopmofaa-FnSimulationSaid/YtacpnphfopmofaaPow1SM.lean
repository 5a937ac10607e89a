/- Bundle of walks and laws: NumP, Grp1, Grp2, Grp3, Grp4, Grp5. -/
import Derived.Test.YtacpnphfopmofaaBmSM
/- Residues and primes: plain Lean. -/

namespace Go.Proofs.Ytacpnphfopmofaa
open Go.RowKit

/-! ### powers of residues -/
theorem emod_mul_left (a b m : Int) : ((a % m) * b) % m = (a * b) % m := by rw [Int.mul_emod, Int.emod_emod, ← Int.mul_emod]
theorem emod_mul_right (a b m : Int) : (a * (b % m)) % m = (a * b) % m := by rw [Int.mul_emod, Int.emod_emod, ← Int.mul_emod]
theorem emod_pow (a m : Int) (k : Nat) : (a % m) ^ k % m = a ^ k % m := by
  induction k with
  | zero => simp
  | succ k ih => rw [Int.pow_succ, Int.pow_succ, Int.mul_emod, ih, Int.emod_emod, ← Int.mul_emod]
/-- the power of a residue -/
def powM (a e m : Int) : Int := a ^ e.toNat % m
theorem powM_bd {a e m : Int} (h : 0 < m) : 0 ≤ powM a e m ∧ powM a e m < m := ⟨Int.emod_nonneg _ (by omega), Int.emod_lt_of_pos _ h⟩
theorem sq_pow (a : Int) (k : Nat) : (a * a) ^ k = a ^ (2 * k) := by
  rw [Int.pow_mul, Int.pow_succ, Int.pow_succ, Int.pow_zero, Int.one_mul]
theorem powM_even {out a : Int} {e : Nat} {m : Int} (h : e % 2 = 0) : (out * (a * a % m) ^ (e / 2)) % m = (out * a ^ e) % m := by
  rw [Int.mul_emod, emod_pow, ← Int.mul_emod, sq_pow, show 2 * (e / 2) = e by omega]
theorem powM_odd {out a : Int} {e : Nat} {m : Int} (h : e % 2 = 1) : ((out * a % m) * (a * a % m) ^ (e / 2)) % m = (out * a ^ e) % m := by
  obtain ⟨k, rfl⟩ : ∃ k, e = 2 * k + 1 := ⟨e / 2, by omega⟩
  rw [emod_mul_left, Int.mul_emod, emod_pow, ← Int.mul_emod, sq_pow, show 2 * ((2 * k + 1) / 2) = 2 * k by omega, Int.pow_succ, Int.mul_assoc, Int.mul_comm a]
/-! ### primes -/
/-- a number with no divisor but 1 and itself -/
def Prm (n : Int) : Prop := 2 ≤ n ∧ ∀ d, 2 ≤ d → d * d ≤ n → n % d ≠ 0
noncomputable def primeB (n : Int) : Bool := @decide (Prm n) (Classical.propDecidable _)
theorem primeB_iff {n : Int} : primeB n = true ↔ Prm n := @decide_eq_true_iff _ (Classical.propDecidable _)
theorem primeB_no {n : Int} (h : ¬ Prm n) : primeB n = false := @decide_eq_false _ (Classical.propDecidable _) h
theorem primeB_yes {n : Int} (h : Prm n) : primeB n = true := primeB_iff.2 h
/-- no divisor from 2 up to d -/
def noDiv (n d : Int) : Prop := ∀ d', 2 ≤ d' → d' < d → n % d' ≠ 0
theorem noDiv_two (n : Int) : noDiv n 2 := fun d h1 h2 => by omega
theorem noDiv_succ {n d : Int} (h : noDiv n d) (hd : n % d ≠ 0) : noDiv n (d + 1) := fun d' h1 h2 => by
  by_cases e : d' = d
  · rw [e]; exact hd
  · exact h d' h1 (by omega)
theorem odd_no_even {n d : Int} (h : n % 2 = 1) (hd : d % 2 = 0) : n % d ≠ 0 := fun h0 => by
  have h1 := Int.dvd_of_emod_eq_zero h0
  have h2 := Int.dvd_of_emod_eq_zero hd
  have h3 := Int.emod_eq_zero_of_dvd (Int.dvd_trans h2 h1)
  omega
theorem sq_le {d d' : Int} (h : 0 ≤ d') (h2 : d' ≤ d) : d' * d' ≤ d * d := Int.mul_le_mul h2 h2 h (by omega)
theorem Prm_of_noDiv {n d : Int} (h2 : 2 ≤ n) (h : noDiv n d) (hd : n < d * d) (h0 : 0 ≤ d) : Prm n := ⟨h2, fun d' h3 h4 => by
  by_cases e : d' < d
  · exact h d' h3 e
  · have := sq_le (d := d') (d' := d) h0 (by omega); omega⟩
theorem not_Prm_of_dvd {n d : Int} (h1 : 2 ≤ d) (h2 : d * d ≤ n) (h : n % d = 0) : ¬ Prm n := fun hp => hp.2 d h1 h2 h
end Go.Proofs.Ytacpnphfopmofaa
/- Walks: residues, powers, primes. -/

namespace Go.Proofs.Ytacpnphfopmofaa
open Go.RowKit
set_option linter.unusedSimpArgs false
set_option linter.unusedVariables false

theorem tmod_mod (n m : Int) (hm : 0 < m) : (Int.tmod n m + m) % m = n % m := by
  have h1 : Int.tmod n m = n - m * Int.tdiv n m := by have := Int.tmod_add_mul_tdiv n m; omega
  rw [h1, show n - m * n.tdiv m + m = n + m * (1 - n.tdiv m) by rw [Int.mul_sub, Int.mul_one]; omega, Int.add_mul_emod_self_left]
theorem tmod_bd (n m : Int) (hm : 0 < m) : -m < Int.tmod n m ∧ Int.tmod n m < m := by
  have h1 := Int.tmod_lt_of_pos n hm
  have h2 : -m < Int.tmod n m := by
    have := Int.lt_tmod_of_pos n hm; omega
  exact ⟨h2, h1⟩
theorem impl_mod (n m : Int) (w : World) (hn : I64 n) (h1 : 0 < m) (h2 : m ≤ 4000000000) :
    Calls Try.prog 139 #[.int .i64 n, .int .i64 m] w fun e w' => e = .returned (.int .i64 (n % m)) ∧ w = w' := by
  have ht := tmod_bd n m h1
  have HM := Lib.hid (tmod_mod n m h1)
  have hn1 := hn.1; have hn2 := hn.2
  clear hn
  go_enter Try.func139, Try.ntmps139
  go_wp2
  go_ret
  exact ⟨ret_int (by first | exact HM.out | (have := HM.out; simpa using this)), rfl⟩
theorem spec_nMod (n m : Int) (w : World) (hn : I64 n) (h1 : 0 < m) (h2 : m ≤ 4000000000) :
    Calls Try.prog 94 #[.int .i64 n, .int .i64 m] w fun e w' => e = .returned (.int .i64 (n % m)) ∧ w = w' := by
  have ht := tmod_bd n m h1
  have HM := Lib.hid (tmod_mod n m h1)
  have hn1 := hn.1; have hn2 := hn.2
  clear hn
  go_enter Try.func94, Try.ntmps94
  go_wp2
  go_ret
  exact ⟨ret_int (by first | exact HM.out | (have := HM.out; simpa using this)), rfl⟩
theorem and1_gen (x : Int) (h0 : 0 ≤ x) (h1 : x ≤ 4611686018427387903) : bits .and .i64 x 1 = x % 2 := by
  have h := bits_mask .i64 62 (by decide) (fun n h h' => IntWalk.i64_in n ⟨by omega, by
    have e : ((2 : Int) ^ 62) = 4611686018427387904 := by decide
    omega⟩) 1 (by decide) x h0 (by
    have e : ((2 : Int) ^ 62) = 4611686018427387904 := by decide
    omega)
  have e1 : ((2 : Int) ^ 1 - 1) = 1 := by decide
  have e2 : ((2 : Int) ^ 1) = 2 := by decide
  rw [e1, e2] at h
  exact h
set_option maxHeartbeats 1000000 in
theorem impl_power (a e m : Int) (w : World) (ha : 0 ≤ a ∧ a ≤ 3000000000) (he : 0 ≤ e ∧ e ≤ 4000000000) (hm : 0 < m ∧ m ≤ 3000000000) :
    Calls Try.prog 134 #[.int .i64 a, .int .i64 e, .int .i64 m] w fun e' w' => e' = .returned (.int .i64 (powM a e m)) ∧ w = w' := by
  obtain ⟨ha1, ha2⟩ := ha
  obtain ⟨he1, he2⟩ := he
  obtain ⟨hm1, hm2⟩ := hm
  have hp0 := powM_bd (a := a) (e := e) hm1
  have H0 : Hid ((1 % m * a ^ e.toNat) % m = powM a e m) := by unfold Hid powM; rw [emod_mul_left, Int.one_mul]
  have ho1 : 0 ≤ 1 % m := Int.emod_nonneg _ (by omega)
  have ho2 : 1 % m < m := Int.emod_lt_of_pos _ hm1
  generalize powM a e m = T at H0 hp0 ⊢
  go_enter Try.func134, Try.ntmps134
  go_wp2
  go_loopg [0, 1, 7] e.toNat (fun g av ev ov wr => ∃ (b : Int) (k : Nat) (o : Int), av = .int .i64 b ∧ ev = .int .i64 k ∧ ov = .int .i64 o ∧ (k : Int) ≤ 4000000000 ∧ k ≤ g ∧ 0 ≤ b ∧ b ≤ 3000000000 ∧ 0 ≤ o ∧ o < m ∧ Hid ((o * b ^ k) % m = T) ∧ w = wr)
  case atStart => exact ⟨a, e.toNat, 1 % m, rfl, by rw [Int.toNat_of_nonneg he1], rfl, by omega, by omega, ha1, ha2, ho1, ho2, H0.out, rfl⟩
  case round =>
    obtain ⟨b, k, o, rfl, rfl, rfl, hk, hkg, hb0, hb1, ho0, ho1, HP, rfl⟩ := hrel
    by_cases hz : k = 0
    · subst hz
      have HR : Hid (o = T) := by have := HP.out; rw [Int.pow_zero, Int.mul_one, Int.emod_eq_of_lt ho0 ho1] at this; exact this
      go_wp2
      go_ret
      exact ⟨ret_int HR.out, rfl⟩
    · obtain ⟨p1, p2⟩ := mul_bd hb0 hb1 hb0 hb1
      obtain ⟨p3, p4⟩ := mul_bd ho0 (show o ≤ 3000000000 by omega) hb0 hb1
      have hand := and1_gen (k : Int) (by omega) (by omega)
      have d1 : 0 ≤ b * b % m := Int.emod_nonneg _ (by omega)
      have d2 : b * b % m < m := Int.emod_lt_of_pos _ hm1
      have d3 : 0 ≤ o * b % m := Int.emod_nonneg _ (by omega)
      have d4 : o * b % m < m := Int.emod_lt_of_pos _ hm1
      by_cases h2 : k % 2 = 1
      · have HN : Hid (((o * b % m) * (b * b % m) ^ (k / 2)) % m = T) := by unfold Hid; rw [powM_odd h2]; exact HP.out
        have hq : ((k : Int) % 2 == 1) = true := by rw [beq_iff_eq]; omega
        go_wp2
        go_roundg (k / 2)
        case measure => omega
        case rel => exact ⟨b * b % m, k / 2, o * b % m, rfl, by first | rfl | (congr 1; omega), rfl, by omega, by omega, d1, by omega, d3, d4, HN.out, rfl⟩
      · have HN : Hid ((o * (b * b % m) ^ (k / 2)) % m = T) := by unfold Hid; rw [powM_even (by omega)]; exact HP.out
        have hq : ((k : Int) % 2 == 1) = false := by rw [beq_eq_false_iff_ne]; omega
        go_wp2
        go_roundg (k / 2)
        case measure => omega
        case rel => exact ⟨b * b % m, k / 2, o, rfl, by first | rfl | (congr 1; omega), rfl, by omega, by omega, d1, by omega, ho0, ho1, HN.out, rfl⟩
set_option maxHeartbeats 1000000 in
theorem spec_nPower (a e m : Int) (w : World) (ha : 0 ≤ a ∧ a ≤ 3000000000) (he : 0 ≤ e ∧ e ≤ 4000000000) (hm : 0 < m ∧ m ≤ 3000000000) :
    Calls Try.prog 140 #[.int .i64 a, .int .i64 e, .int .i64 m] w fun e' w' => e' = .returned (.int .i64 (powM a e m)) ∧ w = w' := by
  obtain ⟨ha1, ha2⟩ := ha
  obtain ⟨he1, he2⟩ := he
  obtain ⟨hm1, hm2⟩ := hm
  have hp0 := powM_bd (a := a) (e := e) hm1
  have H0 : Hid ((1 % m * a ^ e.toNat) % m = powM a e m) := by unfold Hid powM; rw [emod_mul_left, Int.one_mul]
  have ho1 : 0 ≤ 1 % m := Int.emod_nonneg _ (by omega)
  have ho2 : 1 % m < m := Int.emod_lt_of_pos _ hm1
  generalize powM a e m = T at H0 hp0 ⊢
  go_enter Try.func140, Try.ntmps140
  go_wp2
  go_loopg [0, 1, 7] e.toNat (fun g av ev ov wr => ∃ (b : Int) (k : Nat) (o : Int), av = .int .i64 b ∧ ev = .int .i64 k ∧ ov = .int .i64 o ∧ (k : Int) ≤ 4000000000 ∧ k ≤ g ∧ 0 ≤ b ∧ b ≤ 3000000000 ∧ 0 ≤ o ∧ o < m ∧ Hid ((o * b ^ k) % m = T) ∧ w = wr)
  case atStart => exact ⟨a, e.toNat, 1 % m, rfl, by rw [Int.toNat_of_nonneg he1], rfl, by omega, by omega, ha1, ha2, ho1, ho2, H0.out, rfl⟩
  case round =>
    obtain ⟨b, k, o, rfl, rfl, rfl, hk, hkg, hb0, hb1, ho0, ho1, HP, rfl⟩ := hrel
    by_cases hz : k = 0
    · subst hz
      have HR : Hid (o = T) := by have := HP.out; rw [Int.pow_zero, Int.mul_one, Int.emod_eq_of_lt ho0 ho1] at this; exact this
      go_wp2
      go_ret
      exact ⟨ret_int HR.out, rfl⟩
    · obtain ⟨p1, p2⟩ := mul_bd hb0 hb1 hb0 hb1
      obtain ⟨p3, p4⟩ := mul_bd ho0 (show o ≤ 3000000000 by omega) hb0 hb1
      have hand := and1_gen (k : Int) (by omega) (by omega)
      have d1 : 0 ≤ b * b % m := Int.emod_nonneg _ (by omega)
      have d2 : b * b % m < m := Int.emod_lt_of_pos _ hm1
      have d3 : 0 ≤ o * b % m := Int.emod_nonneg _ (by omega)
      have d4 : o * b % m < m := Int.emod_lt_of_pos _ hm1
      by_cases h2 : k % 2 = 1
      · have HN : Hid (((o * b % m) * (b * b % m) ^ (k / 2)) % m = T) := by unfold Hid; rw [powM_odd h2]; exact HP.out
        have hq : ((k : Int) % 2 == 1) = true := by rw [beq_iff_eq]; omega
        go_wp2
        go_roundg (k / 2)
        case measure => omega
        case rel => exact ⟨b * b % m, k / 2, o * b % m, rfl, by first | rfl | (congr 1; omega), rfl, by omega, by omega, d1, by omega, d3, d4, HN.out, rfl⟩
      · have HN : Hid ((o * (b * b % m) ^ (k / 2)) % m = T) := by unfold Hid; rw [powM_even (by omega)]; exact HP.out
        have hq : ((k : Int) % 2 == 1) = false := by rw [beq_eq_false_iff_ne]; omega
        go_wp2
        go_roundg (k / 2)
        case measure => omega
        case rel => exact ⟨b * b % m, k / 2, o, rfl, by first | rfl | (congr 1; omega), rfl, by omega, by omega, d1, by omega, ho0, ho1, HN.out, rfl⟩
theorem impl_isModulus (n : Int) (w : World) :
    Calls Try.prog 188 #[.int .i64 n] w fun e w' => e = .returned (.bool (decide (2 ≤ n ∧ n ≤ 2000000000))) ∧ w = w' := by
  (obtain ⟨q, h_q⟩ : ∃ b_q, decide (2 ≤ n ∧ n ≤ 2000000000) = b_q := ⟨_, rfl⟩); have HQ := Lib.hid h_q; clear h_q
  rw [HQ.out]
  go_enter Try.func188, Try.ntmps188
  go_wp2_with fail
  refine (impl_within _ _ _ _).mono ?_
  rintro e w1 ⟨rfl, rfl⟩
  rw [HQ.out]
  go_wp2_with fail
  go_ret
  exact ⟨rfl, rfl⟩
set_option maxHeartbeats 1000000 in
theorem impl_isPrime (n : Int) (w : World) :
    Calls Try.prog 144 #[.int .i64 n] w fun e w' => e = .returned (.bool (decide (n ≤ 2000000000) && primeB n)) ∧ w = w' := by
  by_cases hr : 2 ≤ n ∧ n ≤ 2000000000
  · obtain ⟨hr1, hr2⟩ := hr
    have HM : Hid (decide (2 ≤ n ∧ n ≤ 2000000000) = true) := decide_eq_true ⟨hr1, hr2⟩
    rw [decide_eq_true hr2]
    have htm : Int.tmod n 2 = n % 2 := Int.tmod_eq_emod_of_nonneg (by omega)
    by_cases hev : n % 2 = 0 ∧ n ≠ 2
    · have HP : Hid ((true && primeB n) = false) := by
        unfold Hid; rw [Bool.true_and]; exact primeB_no (not_Prm_of_dvd (d := 2) (by omega) (by omega) hev.1)
      have e1 : (n % 2 == 0) = true := by rw [beq_iff_eq]; exact hev.1
      have e2 : (n != 2) = true := by rw [bne_iff_ne]; exact hev.2
      clear hev htm
      go_enter Try.func144, Try.ntmps144
      go_wp2_with (first | (go_at_call 188; refine (impl_isModulus _ _).mono ?_; rintro e w1 ⟨rfl, rfl⟩; rw [HM.out]) | fail)
      go_ret
      exact ⟨ret_bool HP.out.symm, rfl⟩
    · have hst : Hid (noDiv n 3 ∨ n = 2) := by
        unfold Hid
        by_cases h2 : n = 2
        · exact .inr h2
        · exact .inl (noDiv_succ (d := 2) (noDiv_two n) (by omega))
      have hodd : Hid (n % 2 = 1 ∨ n = 2) := by unfold Hid; omega
      have hqq : ((n % 2 == 0) && (n != 2)) = false := by
        rw [Bool.and_eq_false_iff, beq_eq_false_iff_ne]
        by_cases h2 : n = 2
        · right; rw [h2]; rfl
        · left; omega
      clear hev htm
      rcases (by have := hodd.out; omega : (n % 2 ≠ 0) ∨ n = 2) with hb | rfl
      · have e1 : (n % 2 == 0) = false := by rw [beq_eq_false_iff_ne]; exact hb
        have HN0 : Hid (noDiv n 3) := by rcases hst.out with h | h; exact h; omega
        clear hqq hst hb
        go_enter Try.func144, Try.ntmps144
        go_wp2_with (first | (go_at_call 188; refine (impl_isModulus _ _).mono ?_; rintro e w1 ⟨rfl, rfl⟩; rw [HM.out]) | fail)
        go_loopg [3] 50000 (fun g dv wr => ∃ d : Int, dv = .int .i64 d ∧ 3 ≤ d ∧ d + 2 * (g : Int) ≤ 100003 ∧ 44800 ≤ d + 2 * (g : Int) ∧ Hid (d % 2 = 1) ∧ Hid (noDiv n d) ∧ w = wr)
        case atStart => exact ⟨3, rfl, by omega, by omega, by omega, by unfold Hid; omega, HN0.out, rfl⟩
        case round =>
          obtain ⟨d, rfl, hd3, hdg, hdl, HO, HN, rfl⟩ := hrel
          by_cases hle : d * d ≤ n
          · have hd5 : d ≤ 44721 := by
              by_cases hc : d ≤ 44721
              · exact hc
              · have := sq_le (d := d) (d' := 44722) (by omega) (by omega); omega
            have hp := mul_bd (show 0 ≤ d by omega) hd5 (show 0 ≤ d by omega) hd5
            by_cases hdv : n % d = 0
            · have HP : Hid ((true && primeB n) = false) := by
                unfold Hid; rw [Bool.true_and]; exact primeB_no (not_Prm_of_dvd (d := d) (by omega) hle hdv)
              have e2 : (n % d == 0) = true := by rw [beq_iff_eq]; exact hdv
              clear hdv
              go_wp2
              go_ret
              exact ⟨ret_bool HP.out.symm, rfl⟩
            · have e2 : (n % d == 0) = false := by rw [beq_eq_false_iff_ne]; exact hdv
              have HN2 : Hid (noDiv n (d + 2)) := by
                have h1 := noDiv_succ HN.out hdv
                have h2 := noDiv_succ h1 (odd_no_even (n := n) (d := d + 1) (by have := hodd.out; rcases this with h | h; exact h; rw [h] at e1; cases e1) (by have := HO.out; omega))
                rw [show d + 1 + 1 = d + 2 by omega] at h2; exact h2
              have HO2 : Hid ((d + 2) % 2 = 1) := by have := HO.out; unfold Hid; omega
              clear hdv
              obtain ⟨f, rfl⟩ : ∃ f, gk = f + 1 := ⟨gk - 1, by omega⟩
              go_wp2
              go_roundg f
              case measure => omega
              case rel => exact ⟨d + 2, rfl, by omega, by omega, by omega, HO2.out, HN2.out, rfl⟩
          · have HP : Hid ((true && primeB n) = true) := by
              unfold Hid; rw [Bool.true_and]; exact primeB_yes (Prm_of_noDiv (by omega) HN.out (by omega) (by omega))
            have hd5 : d ≤ 100003 := by omega
            have hp := mul_bd (show 0 ≤ d by omega) hd5 (show 0 ≤ d by omega) hd5
            have hle' : n < d * d := by omega
            clear hle
            go_wp2
            go_ret
            exact ⟨ret_bool HP.out.symm, rfl⟩
      · have HP : Hid ((true && primeB 2) = true) := by
          unfold Hid; rw [Bool.true_and]; exact primeB_yes ⟨by omega, fun d h1 h2 => by have := sq_le (d := d) (d' := 2) (by omega) h1; omega⟩
        clear hqq hst hodd
        go_enter Try.func144, Try.ntmps144
        go_wp2_with (first | (go_at_call 188; refine (impl_isModulus _ _).mono ?_; rintro e w1 ⟨rfl, rfl⟩; rw [HM.out]) | fail)
        go_loopg [3] 1 (fun g dv wr => dv = .int .i64 3 ∧ w = wr)
        case atStart => exact ⟨rfl, rfl⟩
        case round =>
          obtain ⟨rfl, rfl⟩ := hrel
          go_wp2
          go_ret
          exact ⟨ret_bool HP.out.symm, rfl⟩
  · have HM : Hid (decide (2 ≤ n ∧ n ≤ 2000000000) = false) := decide_eq_false hr
    have HP : Hid ((decide (n ≤ 2000000000) && primeB n) = false) := by
      unfold Hid
      by_cases h2 : n ≤ 2000000000
      · rw [primeB_no (fun h => hr ⟨h.1, h2⟩), Bool.and_false]
      · rw [decide_eq_false h2]; rfl
    clear hr
    go_enter Try.func144, Try.ntmps144
    go_wp2_with (first | (go_at_call 188; refine (impl_isModulus _ _).mono ?_; rintro e w1 ⟨rfl, rfl⟩; rw [HM.out]) | fail)
    go_ret
    exact ⟨ret_bool HP.out.symm, rfl⟩
set_option maxHeartbeats 1000000 in
theorem spec_nPrime (n : Int) (w : World) (hn : n ≤ 4000000000) :
    Calls Try.prog 141 #[.int .i64 n] w fun e w' => e = .returned (.bool (primeB n)) ∧ w = w' := by
  by_cases hr : 2 ≤ n
  · go_enter Try.func141, Try.ntmps141
    go_wp2
    go_loopg [3] 100000 (fun g dv wr => ∃ d : Int, dv = .int .i64 d ∧ 2 ≤ d ∧ d + (g : Int) ≤ 100002 ∧ 70000 ≤ d + (g : Int) ∧ Hid (noDiv n d) ∧ w = wr)
    case atStart => exact ⟨2, rfl, by omega, by omega, by omega, noDiv_two n, rfl⟩
    case round =>
      obtain ⟨d, rfl, hd3, hdg, hdl, HN, rfl⟩ := hrel
      by_cases hle : d * d ≤ n
      · have hd5 : d ≤ 63246 := by
          by_cases hc : d ≤ 63246
          · exact hc
          · have := sq_le (d := d) (d' := 63247) (by omega) (by omega); omega
        have hp := mul_bd (show 0 ≤ d by omega) hd5 (show 0 ≤ d by omega) hd5
        by_cases hdv : n % d = 0
        · have HP : Hid (primeB n = false) := primeB_no (not_Prm_of_dvd (d := d) (by omega) hle hdv)
          have e2 : (n % d == 0) = true := by rw [beq_iff_eq]; exact hdv
          clear hdv
          go_wp2
          go_ret
          exact ⟨ret_bool HP.out.symm, rfl⟩
        · have e2 : (n % d == 0) = false := by rw [beq_eq_false_iff_ne]; exact hdv
          have HN2 : Hid (noDiv n (d + 1)) := noDiv_succ HN.out hdv
          clear hdv
          obtain ⟨f, rfl⟩ : ∃ f, gk = f + 1 := ⟨gk - 1, by omega⟩
          go_wp2
          go_roundg f
          case measure => omega
          case rel => exact ⟨d + 1, rfl, by omega, by omega, by omega, HN2.out, rfl⟩
      · have HP : Hid (primeB n = true) := primeB_yes (Prm_of_noDiv (by omega) HN.out (by omega) (by omega))
        have hd5 : d ≤ 100003 := by omega
        have hp := mul_bd (show 0 ≤ d by omega) hd5 (show 0 ≤ d by omega) hd5
        have hle' : n < d * d := by omega
        clear hle
        go_wp2
        go_ret
        exact ⟨ret_bool HP.out.symm, rfl⟩
  · have HP : Hid (primeB n = false) := primeB_no (fun h => hr h.1)
    go_enter Try.func141, Try.ntmps141
    go_wp2
    go_ret
    exact ⟨ret_bool HP.out.symm, rfl⟩
end Go.Proofs.Ytacpnphfopmofaa
/- Walks: groups: validity, elements, exponents. -/


namespace Go.Proofs.Ytacpnphfopmofaa
open Go.RowKit
set_option linter.unusedSimpArgs false
set_option linter.unusedVariables false

structure GroupD where
  p : Int
  q : Int
  g : Int
/-- a valid group -/
noncomputable def goodG (gr : GroupD) : Bool := decide (3 ≤ gr.p ∧ gr.p ≤ 2000000000) && (decide (2 ≤ gr.q ∧ gr.q ≤ gr.p - 1) && (((gr.p - 1) % gr.q == 0) && (decide (2 ≤ gr.g ∧ gr.g ≤ gr.p - 1) && (primeB gr.p && (primeB gr.q && (powM gr.g gr.q gr.p == 1))))))
/-- what the walks want of a group -/
structure OkG (gr : GroupD) : Prop where
  p1 : 3 ≤ gr.p
  p2 : gr.p ≤ 2000000000
  q1 : 2 ≤ gr.q
  q2 : gr.q ≤ gr.p - 1
  g1 : 2 ≤ gr.g
  g2 : gr.g ≤ gr.p - 1
  div : (gr.p - 1) % gr.q = 0
  pp : Prm gr.p
  qp : Prm gr.q
  one : powM gr.g gr.q gr.p = 1
theorem goodG_ok {gr : GroupD} (h : goodG gr = true) : OkG gr := by
  unfold goodG at h
  simp only [Bool.and_eq_true, decide_eq_true_iff, beq_iff_eq] at h
  obtain ⟨⟨h1, h2⟩, ⟨h3, h4⟩, h5, ⟨h6, h7⟩, h8, h9, h10⟩ := h
  exact ⟨h1, h2, h3, h4, h6, h7, h5, primeB_iff.1 h8, primeB_iff.1 h9, h10⟩
/-- an element -/
def elB (gr : GroupD) (x : Int) : Bool := decide (1 ≤ x ∧ x ≤ gr.p - 1) && (powM x gr.q gr.p == 1)
/-- an exponent -/
def expB (gr : GroupD) (e : Int) : Bool := decide (0 ≤ e ∧ e ≤ gr.q - 1)
theorem elB_bd {gr : GroupD} {x : Int} (h : elB gr x = true) : 1 ≤ x ∧ x ≤ gr.p - 1 := by
  unfold elB at h; simp only [Bool.and_eq_true, decide_eq_true_iff] at h; exact h.1
theorem expB_bd {gr : GroupD} {x : Int} (h : expB gr x = true) : 0 ≤ x ∧ x ≤ gr.q - 1 := by
  unfold expB at h; simpa using h
set_option maxRecDepth 100000 in
set_option maxHeartbeats 1000000 in
theorem impl_IsValidGroup (gr : GroupD) (w : World) :
    Calls Try.prog 67 #[.agg #[.int .i64 gr.p, .int .i64 gr.q, .int .i64 gr.g]] w fun e w' => e = .returned (.bool (goodG gr)) ∧ Below w.heap.size w w' := by
  obtain ⟨p, q, g⟩ := gr
  by_cases hp : 3 ≤ p ∧ p ≤ 2000000000
  · obtain ⟨hp1, hp2⟩ := hp
    have H1 : Hid (decide (3 ≤ p ∧ p ≤ 2000000000) = true) := decide_eq_true ⟨hp1, hp2⟩
    by_cases hq : 2 ≤ q ∧ q ≤ p - 1
    · obtain ⟨hq1, hq2⟩ := hq
      have H2 : Hid (decide (2 ≤ q ∧ q ≤ p - 1) = true) := decide_eq_true ⟨hq1, hq2⟩
      obtain ⟨q3, h3⟩ : ∃ b, ((p - 1) % q == 0) = b := ⟨_, rfl⟩
      (obtain ⟨q4, h_q⟩ : ∃ b_q, decide (2 ≤ g ∧ g ≤ p - 1) = b_q := ⟨_, rfl⟩); have H4 := Lib.hid h_q; clear h_q
      (obtain ⟨q5, h_q⟩ : ∃ b_q, primeB p = b_q := ⟨_, rfl⟩); have H5 := Lib.hid h_q; clear h_q
      (obtain ⟨q6, h_q⟩ : ∃ b_q, primeB q = b_q := ⟨_, rfl⟩); have H6 := Lib.hid h_q; clear h_q
      (obtain ⟨q7, h_q⟩ : ∃ b_q, (powM g q p == 1) = b_q := ⟨_, rfl⟩); have H7 := Lib.hid h_q; clear h_q
      have HB : Hid (goodG ⟨p, q, g⟩ = (q3 && (q4 && (q5 && (q6 && q7))))) := by
        unfold Hid goodG
        simp only []
        rw [decide_eq_true ⟨hp1, hp2⟩, decide_eq_true ⟨hq1, hq2⟩, h3, H4.out, H5.out, H6.out, H7.out]; rfl
      have HG : Hid (q4 = true → 2 ≤ g ∧ g ≤ p - 1) := fun e => of_decide_eq_true (H4.out.trans e)
      have H8 : Hid (decide (p ≤ 2000000000) = true) := decide_eq_true hp2
      have H9 : Hid (decide (q ≤ 2000000000) = true) := decide_eq_true (by omega)
      rw [HB.out]
      go_enter Try.func67, Try.ntmps67
      go_wp2_with (first
        | (go_at_call 103; refine (impl_within _ _ _ _).mono ?_; rintro e w1 ⟨rfl, rfl⟩; first | rw [H1.out] | rw [H2.out] | (rw [H4.out]; cases q4))
        | (go_at_call_of 144 (Value.int .i64 p); refine (impl_isPrime _ _).mono ?_; rintro e w1 ⟨rfl, rfl⟩; rw [H8.out, H5.out, Bool.true_and]; cases q5)
        | (go_at_call_of 144 (Value.int .i64 q); refine (impl_isPrime _ _).mono ?_; rintro e w1 ⟨rfl, rfl⟩; rw [H9.out, H6.out, Bool.true_and]; cases q6)
        | (go_at_call 134; refine (impl_power g q p _ (by first | omega | (have := HG.out trivial; omega) | (have := HG.out rfl; omega)) (by omega) (by omega)).mono ?_; rintro e w1 ⟨rfl, rfl⟩; obtain ⟨x7, hx7⟩ : ∃ x, powM g q p = x := ⟨_, rfl⟩; rw [hx7] at H7 ⊢; (obtain h7 := H7.out); clear hx7)
        | fail)
      all_goals go_ret
      all_goals exact ⟨ret_bool (by simp [*]), by (repeat (first | exact Below.refl _ _ | assumption | refine Below.drew ?_ | refine Below.alloc ?_ (by first | (simp; done) | (simp; omega)) _ | refine Below.setCell ?_ (by first | (simp; done) | (simp; omega)) _))⟩
    · have H2 : Hid (decide (2 ≤ q ∧ q ≤ p - 1) = false) := decide_eq_false hq
      have HB : Hid (goodG ⟨p, q, g⟩ = false) := by
        unfold Hid goodG; simp only []; rw [decide_eq_false hq]; simp
      rw [HB.out]
      clear hq
      go_enter Try.func67, Try.ntmps67
      go_wp2_with (first
        | (go_at_call 103; refine (impl_within _ _ _ _).mono ?_; rintro e w1 ⟨rfl, rfl⟩; first | rw [H1.out] | rw [H2.out])
        | fail)
      all_goals go_ret
      all_goals exact ⟨rfl, by (repeat (first | exact Below.refl _ _ | assumption | refine Below.drew ?_ | refine Below.alloc ?_ (by first | (simp; done) | (simp; omega)) _ | refine Below.setCell ?_ (by first | (simp; done) | (simp; omega)) _))⟩
  · have H1 : Hid (decide (3 ≤ p ∧ p ≤ 2000000000) = false) := decide_eq_false hp
    have HB : Hid (goodG ⟨p, q, g⟩ = false) := by
      unfold Hid goodG; simp only []; rw [decide_eq_false hp]; rfl
    rw [HB.out]
    clear hp
    go_enter Try.func67, Try.ntmps67
    go_wp2_with (first
      | (go_at_call 103; refine (impl_within _ _ _ _).mono ?_; rintro e w1 ⟨rfl, rfl⟩; rw [H1.out])
      | fail)
    all_goals go_ret
    all_goals exact ⟨rfl, by (repeat (first | exact Below.refl _ _ | assumption | refine Below.drew ?_ | refine Below.alloc ?_ (by first | (simp; done) | (simp; omega)) _ | refine Below.setCell ?_ (by first | (simp; done) | (simp; omega)) _))⟩
set_option maxRecDepth 100000 in
set_option maxHeartbeats 1000000 in
theorem spec_l2Good (gr : GroupD) (w : World) :
    Calls Try.prog 53 #[.agg #[.int .i64 gr.p, .int .i64 gr.q, .int .i64 gr.g]] w fun e w' => e = .returned (.bool (goodG gr)) ∧ Below w.heap.size w w' := by
  obtain ⟨p, q, g⟩ := gr
  by_cases hp : 3 ≤ p ∧ p ≤ 2000000000
  · obtain ⟨hp1, hp2⟩ := hp
    have H1 : Hid (decide (3 ≤ p ∧ p ≤ 2000000000) = true) := decide_eq_true ⟨hp1, hp2⟩
    by_cases hq : 2 ≤ q ∧ q ≤ p - 1
    · obtain ⟨hq1, hq2⟩ := hq
      have H2 : Hid (decide (2 ≤ q ∧ q ≤ p - 1) = true) := decide_eq_true ⟨hq1, hq2⟩
      obtain ⟨q3, h3⟩ : ∃ b, ((p - 1) % q == 0) = b := ⟨_, rfl⟩
      (obtain ⟨q4, h_q⟩ : ∃ b_q, decide (2 ≤ g ∧ g ≤ p - 1) = b_q := ⟨_, rfl⟩); have H4 := Lib.hid h_q; clear h_q
      (obtain ⟨q5, h_q⟩ : ∃ b_q, primeB p = b_q := ⟨_, rfl⟩); have H5 := Lib.hid h_q; clear h_q
      (obtain ⟨q6, h_q⟩ : ∃ b_q, primeB q = b_q := ⟨_, rfl⟩); have H6 := Lib.hid h_q; clear h_q
      (obtain ⟨q7, h_q⟩ : ∃ b_q, (powM g q p == 1) = b_q := ⟨_, rfl⟩); have H7 := Lib.hid h_q; clear h_q
      have HB : Hid (goodG ⟨p, q, g⟩ = (q3 && (q4 && (q5 && (q6 && q7))))) := by
        unfold Hid goodG
        simp only []
        rw [decide_eq_true ⟨hp1, hp2⟩, decide_eq_true ⟨hq1, hq2⟩, h3, H4.out, H5.out, H6.out, H7.out]; rfl
      have HG : Hid (q4 = true → 2 ≤ g ∧ g ≤ p - 1) := fun e => of_decide_eq_true (H4.out.trans e)
      have H8 : Hid (decide (p ≤ 2000000000) = true) := decide_eq_true hp2
      have H9 : Hid (decide (q ≤ 2000000000) = true) := decide_eq_true (by omega)
      rw [HB.out]
      go_enter Try.func53, Try.ntmps53
      go_wp2_with (first
        | (go_at_call 106; refine (spec_l1In _ _ _ _).mono ?_; rintro e w1 ⟨rfl, rfl⟩; first | rw [H1.out] | rw [H2.out] | (rw [H4.out]; cases q4))
        | (go_at_call_of 141 (Value.int .i64 p); refine (spec_nPrime _ _ (by omega)).mono ?_; rintro e w1 ⟨rfl, rfl⟩; rw [H5.out]; cases q5)
        | (go_at_call_of 141 (Value.int .i64 q); refine (spec_nPrime _ _ (by omega)).mono ?_; rintro e w1 ⟨rfl, rfl⟩; rw [H6.out]; cases q6)
        | (go_at_call 140; refine (spec_nPower g q p _ (by first | omega | (have := HG.out trivial; omega) | (have := HG.out rfl; omega)) (by omega) (by omega)).mono ?_; rintro e w1 ⟨rfl, rfl⟩; obtain ⟨x7, hx7⟩ : ∃ x, powM g q p = x := ⟨_, rfl⟩; rw [hx7] at H7 ⊢; (obtain h7 := H7.out); clear hx7)
        | fail)
      all_goals go_ret
      all_goals exact ⟨ret_bool (by simp [*]), by (repeat (first | exact Below.refl _ _ | assumption | refine Below.drew ?_ | refine Below.alloc ?_ (by first | (simp; done) | (simp; omega)) _ | refine Below.setCell ?_ (by first | (simp; done) | (simp; omega)) _))⟩
    · have H2 : Hid (decide (2 ≤ q ∧ q ≤ p - 1) = false) := decide_eq_false hq
      have HB : Hid (goodG ⟨p, q, g⟩ = false) := by
        unfold Hid goodG; simp only []; rw [decide_eq_false hq]; simp
      rw [HB.out]
      clear hq
      go_enter Try.func53, Try.ntmps53
      go_wp2_with (first
        | (go_at_call 106; refine (spec_l1In _ _ _ _).mono ?_; rintro e w1 ⟨rfl, rfl⟩; first | rw [H1.out] | rw [H2.out])
        | fail)
      all_goals go_ret
      all_goals exact ⟨rfl, by (repeat (first | exact Below.refl _ _ | assumption | refine Below.drew ?_ | refine Below.alloc ?_ (by first | (simp; done) | (simp; omega)) _ | refine Below.setCell ?_ (by first | (simp; done) | (simp; omega)) _))⟩
  · have H1 : Hid (decide (3 ≤ p ∧ p ≤ 2000000000) = false) := decide_eq_false hp
    have HB : Hid (goodG ⟨p, q, g⟩ = false) := by
      unfold Hid goodG; simp only []; rw [decide_eq_false hp]; rfl
    rw [HB.out]
    clear hp
    go_enter Try.func53, Try.ntmps53
    go_wp2_with (first
      | (go_at_call 106; refine (spec_l1In _ _ _ _).mono ?_; rintro e w1 ⟨rfl, rfl⟩; rw [H1.out])
      | fail)
    all_goals go_ret
    all_goals exact ⟨rfl, by (repeat (first | exact Below.refl _ _ | assumption | refine Below.drew ?_ | refine Below.alloc ?_ (by first | (simp; done) | (simp; omega)) _ | refine Below.setCell ?_ (by first | (simp; done) | (simp; omega)) _))⟩
set_option maxHeartbeats 1000000 in
theorem impl_has (gr : GroupD) (x : Int) (w : World) (hg : OkG gr) :
    Calls Try.prog 47 #[.agg #[.int .i64 gr.p, .int .i64 gr.q, .int .i64 gr.g], .int .i64 x] w fun e w' => e = .returned (.bool (elB gr x)) ∧ Below w.heap.size w w' := by
  obtain ⟨hp1, hp2, hq1, hq2, _, _, _, _, _, _⟩ := hg
  obtain ⟨p, q, g⟩ := gr
  simp only [] at hp1 hp2 hq1 hq2
  by_cases hx : 1 ≤ x ∧ x ≤ p - 1
  · have H1 : Hid (decide (1 ≤ x ∧ x ≤ p - 1) = true) := decide_eq_true hx
    have HB : Hid (elB ⟨p, q, g⟩ x = (powM x q p == 1)) := by unfold Hid elB; simp only []; rw [H1.out]; rfl
    obtain ⟨hx1, hx2⟩ := hx
    rw [HB.out]
    go_enter Try.func47, Try.ntmps47
    go_wp2_with (first
      | (go_at_call 103; refine (impl_within _ _ _ _).mono ?_; rintro e w1 ⟨rfl, rfl⟩; rw [H1.out])
      | (go_at_call 134; refine (impl_power _ _ _ _ (by omega) (by omega) (by omega)).mono ?_; rintro e w1 ⟨rfl, rfl⟩)
      | fail)
    go_ret
    exact ⟨rfl, by (repeat (first | exact Below.refl _ _ | assumption | refine Below.drew ?_ | refine Below.alloc ?_ (by first | (simp; done) | (simp; omega)) _ | refine Below.setCell ?_ (by first | (simp; done) | (simp; omega)) _))⟩
  · have H1 : Hid (decide (1 ≤ x ∧ x ≤ p - 1) = false) := decide_eq_false hx
    have HB : Hid (elB ⟨p, q, g⟩ x = false) := by unfold Hid elB; simp only []; rw [H1.out]; rfl
    rw [HB.out]
    clear hx
    go_enter Try.func47, Try.ntmps47
    go_wp2_with (first
      | (go_at_call 103; refine (impl_within _ _ _ _).mono ?_; rintro e w1 ⟨rfl, rfl⟩; rw [H1.out])
      | fail)
    go_ret
    exact ⟨rfl, by (repeat (first | exact Below.refl _ _ | assumption | refine Below.drew ?_ | refine Below.alloc ?_ (by first | (simp; done) | (simp; omega)) _ | refine Below.setCell ?_ (by first | (simp; done) | (simp; omega)) _))⟩
theorem impl_isExp (gr : GroupD) (x : Int) (w : World) (hg : OkG gr) :
    Calls Try.prog 48 #[.agg #[.int .i64 gr.p, .int .i64 gr.q, .int .i64 gr.g], .int .i64 x] w fun e w' => e = .returned (.bool (expB gr x)) ∧ Below w.heap.size w w' := by
  obtain ⟨hp1, hp2, hq1, hq2, _, _, _, _, _, _⟩ := hg
  obtain ⟨p, q, g⟩ := gr
  simp only [] at hp1 hp2 hq1 hq2
  (obtain ⟨b, h_q⟩ : ∃ b_q, expB ⟨p, q, g⟩ x = b_q := ⟨_, rfl⟩); have HQ := Lib.hid h_q; clear h_q
  have HR : Hid (decide (0 ≤ x ∧ x ≤ q - 1) = b) := HQ.out
  rw [HQ.out]
  go_enter Try.func48, Try.ntmps48
  go_wp2_with (first
    | (go_at_call 103; refine (impl_within _ _ _ _).mono ?_; rintro e w1 ⟨rfl, rfl⟩; rw [HR.out])
    | fail)
  go_ret
  exact ⟨rfl, by (repeat (first | exact Below.refl _ _ | assumption | refine Below.drew ?_ | refine Below.alloc ?_ (by first | (simp; done) | (simp; omega)) _ | refine Below.setCell ?_ (by first | (simp; done) | (simp; omega)) _))⟩
/-- a method value (bound to the receiver r) that decides p on integers -/
structure DecidesM (w : World) (g : FuncId) (r : Value) (p : Int → Bool) : Prop where
  enters : ∀ args wr, (callFunc g args).run Try.prog wr = .ok (.enter g args) wr
  runs : ∀ x wr, I64 x → Below w.heap.size w wr → Calls Try.prog g #[r, .int .i64 x] wr fun e w' => e = .returned (.bool (p x)) ∧ Below wr.heap.size wr w'
theorem DecidesM.below {w w' : World} {g : FuncId} {r : Value} {p : Int → Bool} (h : DecidesM w g r p) (hb : Below w.heap.size w w') : DecidesM w' g r p :=
  ⟨h.enters, fun x wr hx hr => h.runs x wr hx (hb.trans (hr.mono hb.size))⟩
set_option maxHeartbeats 400000 in
theorem impl_areAllM1 (x : Int) (a : Addr) (g : FuncId) (r : Value) (p : Int → Bool) (w : World) (hx : I64 x) (hc : w.cell? a = some (.func (.func g) #[r] #[])) (hp : DecidesM w g r p) :
    Calls Try.prog 187 #[.int .i64 x, .pointer (some a)] w fun e w' => e = .returned (.bool (!p x)) ∧ Below w.heap.size w w' := by
  have hent := hp.enters
  have HP := Lib.hid hp; clear hp
  go_enter Try.func187, Try.ntmps187
  go_wp2_with fail
  refine (HP.out.runs _ _ hx (Below.refl _ _)).mono ?_
  rintro e w1 ⟨rfl, hb1⟩
  go_wp2_with fail
  go_ret
  exact ⟨rfl, hb1⟩
set_option maxHeartbeats 400000 in
theorem impl_areAllM (v : Value) (l : List Int) (g : FuncId) (r : Value) (p : Int → Bool) (w : World) (h : Ints w v l) (hp : DecidesM w g r p) :
    Calls Try.prog 143 #[v, .func (.func g) #[r] #[]] w fun e w' => e = .returned (.bool (l.all p)) ∧ Below w.heap.size w w' := by
  have HP := Lib.hid hp; clear hp
  have H := Lib.hid h; clear h
  have HD : Hid (Decides (w.alloc (.cells #[.func (.func g) #[r] #[]] 89)) 187 #[.pointer (some ⟨w.heap.size, 0, none⟩)] (fun x => !p x)) := by
    refine ⟨Try.call187, fun x wr hx hb => ?_⟩
    refine impl_areAllM1 x ⟨w.heap.size, 0, none⟩ g r p wr hx ?_ (HP.out.below (((Below.refl _ _).alloc (Nat.le_refl _) _).trans (hb.mono (by simp))))
    rw [hb.cell (p := ⟨w.heap.size, 0, none⟩) (by simp)]
    simp [go_sem]
  have HE : Hid ((!l.any fun x => !p x) = l.all p) := by
    unfold Hid; rw [List.all_eq_not_any_not]
  go_enter Try.func143, Try.ntmps143
  go_wp2_with fail
  refine (slices_ContainsFunc v l 187 _ (fun x => !p x) _ (H.out.alloc _) HD.out).mono ?_
  rintro e w1 ⟨rfl, hb⟩
  go_wp2_with fail
  go_ret
  exact ⟨ret_bool (by first | (rw [HE.out]; done) | (rw [HE.out]; rfl) | exact HE.out.symm), (by (repeat (first | exact Below.refl _ _ | assumption | refine Below.drew ?_ | refine Below.alloc ?_ (by first | (simp; done) | (simp; omega)) _ | refine Below.setCell ?_ (by first | (simp; done) | (simp; omega)) _)) : Below w.heap.size w (w.alloc _)).trans (hb.mono (by simp))⟩
theorem impl_hasAll (gr : GroupD) (v : Value) (l : List Int) (w : World) (hg : OkG gr) (h : Ints w v l) :
    Calls Try.prog 64 #[.agg #[.int .i64 gr.p, .int .i64 gr.q, .int .i64 gr.g], v] w fun e w' => e = .returned (.bool (l.all (elB gr))) ∧ Below w.heap.size w w' := by
  have HG := Lib.hid hg; clear hg
  have H := Lib.hid h; clear h
  have HD : Hid (DecidesM (w.alloc (.cells #[.int .i64 gr.p, .int .i64 gr.q, .int .i64 gr.g] 24)) 47 (.agg #[.int .i64 gr.p, .int .i64 gr.q, .int .i64 gr.g]) (elB gr)) := ⟨Try.call47, fun x wr hx hb => impl_has gr x wr HG.out⟩
  go_enter Try.func64, Try.ntmps64
  go_wp2_with fail
  refine (impl_areAllM v l _ _ _ _ (H.out.alloc _) HD.out).mono ?_
  rintro e w1 ⟨rfl, hb⟩
  go_wp2_with fail
  go_ret
  exact ⟨rfl, (by (repeat (first | exact Below.refl _ _ | assumption | refine Below.drew ?_ | refine Below.alloc ?_ (by first | (simp; done) | (simp; omega)) _ | refine Below.setCell ?_ (by first | (simp; done) | (simp; omega)) _)) : Below w.heap.size w (w.alloc _)).trans (hb.mono (by simp))⟩
theorem spec_gExps (gr : GroupD) (v : Value) (l : List Int) (w : World) (hg : OkG gr) (h : Ints w v l) :
    Calls Try.prog 55 #[.agg #[.int .i64 gr.p, .int .i64 gr.q, .int .i64 gr.g], v] w fun e w' => e = .returned (.bool (l.all (expB gr))) ∧ Below w.heap.size w w' := by
  obtain ⟨hp1, hp2, hq1, hq2, _, _, _, _, _, _⟩ := hg
  obtain ⟨p, q, g⟩ := gr
  simp only [] at hp1 hp2 hq1 hq2
  have H := Lib.hid h; clear h
  have HR : Hid ((l.all fun x => decide (0 ≤ x ∧ x ≤ q - 1)) = l.all (expB ⟨p, q, g⟩)) := rfl
  go_enter Try.func55, Try.ntmps55
  go_wp2_with (first
    | (go_at_call 112; refine (spec_l1All _ l _ _ _ (H.out.alloc _)).mono ?_; rintro e w1 ⟨rfl, rfl⟩; rw [HR.out])
    | fail)
  go_ret
  exact ⟨rfl, by (repeat (first | exact Below.refl _ _ | assumption | refine Below.drew ?_ | refine Below.alloc ?_ (by first | (simp; done) | (simp; omega)) _ | refine Below.setCell ?_ (by first | (simp; done) | (simp; omega)) _))⟩
set_option maxHeartbeats 1000000 in
theorem spec_gIs (gr : GroupD) (v : Value) (l : List Int) (w : World) (hg : OkG gr) (h : Ints w v l) :
    Calls Try.prog 54 #[.agg #[.int .i64 gr.p, .int .i64 gr.q, .int .i64 gr.g], v] w fun e w' => e = .returned (.bool (l.all (elB gr))) ∧ Below w.heap.size w w' := by
  obtain ⟨hp1, hp2, hq1, hq2, _, _, _, _, _, _⟩ := hg
  obtain ⟨p, q, g⟩ := gr
  simp only [] at hp1 hp2 hq1 hq2
  obtain ⟨a, n, c, rfl⟩ := h.shape
  have e := h.len
  obtain ⟨k1, k2⟩ := h.capMax
  unfold maxLen at k2
  have HE := Lib.hid e; clear e
  have H := Lib.hid h; clear h
  go_enter Try.func54, Try.ntmps54
  go_wp2
  obtain ⟨W, hW⟩ : ∃ W, W = w.alloc (.cells #[.int .i64 p, .int .i64 q, .int .i64 g] 24) := ⟨_, rfl⟩
  rw [← hW]
  have hb : Below w.heap.size w W := by rw [hW]; exact (Below.refl _ _).alloc (Nat.le_refl _) _
  have c0 : W.cell? ⟨w.heap.size, 0, none⟩ = some (.int .i64 p) := by rw [hW]; simp [go_sem]
  have c1 : W.cell? ⟨w.heap.size, 1, none⟩ = some (.int .i64 q) := by rw [hW]; simp [go_sem]
  clear hW
  go_loopg [9] n (fun gh i wr => ∃ k : Nat, k + gh = n ∧ i = .int .i64 k ∧ Hid ((l.take k).all (elB ⟨p, q, g⟩) = true) ∧ W = wr)
  case atStart => exact ⟨0, by omega, rfl, by unfold Hid; simp, rfl⟩
  case round =>
    obtain ⟨k, hk, rfl, HF, rfl⟩ := hrel
    by_cases hlt : k < n
    · have HK : Hid (k < l.length) := by unfold Hid; rw [HE.out]; exact hlt
      obtain ⟨bk, o, rfl, hcx⟩ := (H.out.below hb).at_ (by omega)
      have hy := hcx k hlt
      have HS : Hid ((l.take (k + 1)).all (elB ⟨p, q, g⟩) = ((l.take k).all (elB ⟨p, q, g⟩) && elB ⟨p, q, g⟩ (nth l k))) := by unfold Hid; rw [take_succ_nth HK.out, List.all_append]; simp
      have HM : Hid (nth l k ∈ l) := by unfold Hid; rw [nth_eq HK.out]; exact List.getElem_mem _
      clear hcx
      generalize nth l k = x at hy HS HM
      have HNO : Hid (elB ⟨p, q, g⟩ x = false → l.all (elB ⟨p, q, g⟩) = false) := fun hh => by
        rw [List.all_eq_false]; exact ⟨x, HM.out, by rw [hh]; simp⟩
      by_cases hx : 1 ≤ x ∧ x ≤ p - 1
      · have H1 : Hid (decide (1 ≤ x ∧ x ≤ p - 1) = true) := decide_eq_true hx
        have HB : Hid (elB ⟨p, q, g⟩ x = (powM x q p == 1)) := by unfold Hid elB; simp only []; rw [H1.out]; rfl
        obtain ⟨hx1, hx2⟩ := hx
        cases hpx : (powM x q p == 1) with
        | true =>
          have hpn : (powM x q p != 1) = false := by simp only [bne, hpx]; rfl
          rw [hpx] at HB
          clear hpx
          go_wp2_with (first
            | (go_at_call 106; refine (spec_l1In _ _ _ _).mono ?_; rintro e w1 ⟨rfl, rfl⟩; rw [H1.out])
            | (go_at_call 140; refine (spec_nPower _ _ _ _ (by omega) (by omega) (by omega)).mono ?_; rintro e w1 ⟨rfl, rfl⟩)
            | fail)
          go_roundg (n - (k + 1))
          case measure => omega
          case rel => exact ⟨k + 1, by omega, by go_num, by unfold Hid; rw [HS.out, HF.out, HB.out]; rfl, rfl⟩
        | false =>
          have hpn : (powM x q p != 1) = true := by simp only [bne, hpx]; rfl
          rw [hpx] at HB
          have HNN := Lib.hid (HNO.out HB.out)
          clear hpx
          go_wp2_with (first
            | (go_at_call 106; refine (spec_l1In _ _ _ _).mono ?_; rintro e w1 ⟨rfl, rfl⟩; rw [H1.out])
            | (go_at_call 140; refine (spec_nPower _ _ _ _ (by omega) (by omega) (by omega)).mono ?_; rintro e w1 ⟨rfl, rfl⟩)
            | fail)
          go_ret
          exact ⟨ret_bool (by first | (rw [HNN.out]; done) | (rw [HNN.out]; rfl) | exact HNN.out.symm), hb⟩
      · have H1 : Hid (decide (1 ≤ x ∧ x ≤ p - 1) = false) := decide_eq_false hx
        have HNN := Lib.hid (HNO.out (by unfold elB; simp only []; rw [H1.out]; rfl))
        clear hx
        go_wp2_with (first
          | (go_at_call 106; refine (spec_l1In _ _ _ _).mono ?_; rintro e w1 ⟨rfl, rfl⟩; rw [H1.out])
          | fail)
        go_ret
        exact ⟨ret_bool (by first | (rw [HNN.out]; done) | (rw [HNN.out]; rfl) | exact HNN.out.symm), hb⟩
    · obtain rfl : n = k := by omega
      have HA : Hid (l.all (elB ⟨p, q, g⟩) = true) := by
        have := HF.out
        rw [List.take_of_length_le (by rw [HE.out]; exact Nat.le_refl _)] at this; exact this
      go_wp2
      go_ret
      exact ⟨ret_bool (by first | (rw [HA.out]; done) | (rw [HA.out]; rfl) | exact HA.out.symm), hb⟩
end Go.Proofs.Ytacpnphfopmofaa
/- Walks: groups: powers, products. -/


namespace Go.Proofs.Ytacpnphfopmofaa
open Go.RowKit
set_option linter.unusedSimpArgs false
set_option linter.unusedVariables false

/-- the power of an element with any exponent -/
def powE (gr : GroupD) (x e : Int) : Int := powM x (e % gr.q) gr.p
/-- the product of elements -/
def mulL (gr : GroupD) (l : List Int) : Int := l.foldl (fun o x => o * x % gr.p) 1
/-- numbers that can be multiplied -/
def Small (x : Int) : Prop := 0 ≤ x ∧ x ≤ 2000000000
def AllSmall (l : List Int) : Prop := ∀ x ∈ l, Small x
theorem AllSmall.at_ {l : List Int} (h : AllSmall l) (i : Nat) : Small (nth l i) := by
  by_cases hi : i < l.length
  · rw [nth_eq hi]; exact h _ (List.getElem_mem _)
  · have : nth l i = 0 := by simp [nth, List.getD, Nat.le_of_not_lt hi]
    rw [this]; exact ⟨by decide, by decide⟩
theorem elB_small {gr : GroupD} (hg : OkG gr) {x : Int} (h : elB gr x = true) : Small x := by
  have := elB_bd h; have := hg.p2; exact ⟨by omega, by omega⟩
theorem powE_bd {gr : GroupD} (hg : OkG gr) (x e : Int) : 0 ≤ powE gr x e ∧ powE gr x e < gr.p := powM_bd (by have := hg.p1; omega)
theorem mulL_succ {gr : GroupD} {l : List Int} {k : Nat} (h : k < l.length) : mulL gr (l.take (k + 1)) = mulL gr (l.take k) * nth l k % gr.p := by
  unfold mulL; rw [take_succ_nth h, List.foldl_append]; rfl
theorem keep_al {w wa : World} (h : Below w.heap.size w wa) (o : Obj) : Below w.heap.size w (wa.alloc o) := h.alloc h.size o
theorem Ints.lit2 (w : World) {x y : Int} (hx : I64 x) (hy : I64 y) : Ints (w.alloc (.cells #[.int .i64 x, .int .i64 y] 3)) (.slice (some ⟨w.heap.size, 0, none⟩) 2 2) [x, y] :=
  (OwnI.lit w (Nat.le_refl _) (AllI64.cons hx (AllI64.one hy)) rfl (by simp [maxLen]) 2 rfl).ints
set_option maxHeartbeats 1000000 in
theorem impl_pow (gr : GroupD) (x e : Int) (w : World) (hg : OkG gr) (hx : Small x) (he : I64 e) :
    Calls Try.prog 51 #[.agg #[.int .i64 gr.p, .int .i64 gr.q, .int .i64 gr.g], .int .i64 x, .int .i64 e] w fun e' w' => e' = .returned (.int .i64 (powE gr x e)) ∧ Below w.heap.size w w' := by
  obtain ⟨hp1, hp2, hq1, hq2, _, _, _, _, _, _⟩ := hg
  obtain ⟨p, q, g⟩ := gr
  obtain ⟨hx1, hx2⟩ := hx
  simp only [] at hp1 hp2 hq1 hq2
  have HR : Hid (powM x (e % q) p = powE ⟨p, q, g⟩ x e) := rfl
  have hm0 : 0 ≤ e % q := Int.emod_nonneg _ (by omega)
  have hm1 : e % q < q := Int.emod_lt_of_pos _ (by omega)
  have HE := Lib.hid he; clear he
  go_enter Try.func51, Try.ntmps51
  go_wp2
  go_quiet (first
    | (go_at_call 139; exact Calls.quiet_of_same ((impl_mod e q _ HE.out (by omega) (by omega)).mono fun e' w' h => ⟨h.1, h.2.symm⟩))
    | (go_at_call 134; exact Calls.quiet_of_same ((impl_power x (e % q) p _ (by omega) (by omega) (by omega)).mono fun e' w' h => ⟨h.1, h.2.symm⟩))
    | fail)
  go_wp2
  go_ret
  exact ⟨ret_int HR.out, by (repeat (first | exact Below.refl _ _ | assumption | refine Below.drew ?_ | refine below_drewN ?_ _ | refine Below.alloc ?_ (by first | (simp; done) | (simp; omega)) _ | refine Below.setCell ?_ (by first | (simp; done) | (simp; omega)) _))⟩
set_option maxHeartbeats 1000000 in
theorem spec_gExp (gr : GroupD) (x e : Int) (w : World) (hg : OkG gr) (hx : Small x) (he : I64 e) :
    Calls Try.prog 57 #[.agg #[.int .i64 gr.p, .int .i64 gr.q, .int .i64 gr.g], .int .i64 x, .int .i64 e] w fun e' w' => e' = .returned (.int .i64 (powE gr x e)) ∧ Below w.heap.size w w' := by
  obtain ⟨hp1, hp2, hq1, hq2, _, _, _, _, _, _⟩ := hg
  obtain ⟨p, q, g⟩ := gr
  obtain ⟨hx1, hx2⟩ := hx
  simp only [] at hp1 hp2 hq1 hq2
  have HR : Hid (powM x (e % q) p = powE ⟨p, q, g⟩ x e) := rfl
  have hm0 : 0 ≤ e % q := Int.emod_nonneg _ (by omega)
  have hm1 : e % q < q := Int.emod_lt_of_pos _ (by omega)
  have HE := Lib.hid he; clear he
  go_enter Try.func57, Try.ntmps57
  go_wp2
  go_quiet (first
    | (go_at_call 94; exact Calls.quiet_of_same ((spec_nMod e q _ HE.out (by omega) (by omega)).mono fun e' w' h => ⟨h.1, h.2.symm⟩))
    | (go_at_call 140; exact Calls.quiet_of_same ((spec_nPower x (e % q) p _ (by omega) (by omega) (by omega)).mono fun e' w' h => ⟨h.1, h.2.symm⟩))
    | fail)
  go_wp2
  go_ret
  exact ⟨ret_int HR.out, by (repeat (first | exact Below.refl _ _ | assumption | refine Below.drew ?_ | refine below_drewN ?_ _ | refine Below.alloc ?_ (by first | (simp; done) | (simp; omega)) _ | refine Below.setCell ?_ (by first | (simp; done) | (simp; omega)) _))⟩
theorem impl_exp (gr : GroupD) (n : Int) (w : World) (hg : OkG gr) (hn : I64 n) :
    Calls Try.prog 52 #[.agg #[.int .i64 gr.p, .int .i64 gr.q, .int .i64 gr.g], .int .i64 n] w fun e' w' => e' = .returned (.int .i64 (n % gr.q)) ∧ Below w.heap.size w w' := by
  obtain ⟨hp1, hp2, hq1, hq2, _, _, _, _, _, _⟩ := hg
  obtain ⟨p, q, g⟩ := gr
  simp only [] at hp1 hp2 hq1 hq2
  have HE := Lib.hid hn; clear hn
  go_enter Try.func52, Try.ntmps52
  go_wp2_with (first
    | (go_at_call 139; refine (impl_mod n q _ HE.out (by omega) (by omega)).mono ?_; rintro e w1 ⟨rfl, rfl⟩)
    | fail)
  go_ret
  exact ⟨rfl, by (repeat (first | exact Below.refl _ _ | assumption | refine Below.drew ?_ | refine Below.alloc ?_ (by first | (simp; done) | (simp; omega)) _ | refine Below.setCell ?_ (by first | (simp; done) | (simp; omega)) _))⟩
set_option maxHeartbeats 1000000 in
theorem impl_mul (gr : GroupD) (v : Value) (l : List Int) (w : World) (hg : OkG gr) (h : Ints w v l) (hl : AllSmall l) :
    Calls Try.prog 90 #[.agg #[.int .i64 gr.p, .int .i64 gr.q, .int .i64 gr.g], v] w fun e w' => e = .returned (.int .i64 (mulL gr l)) ∧ Below w.heap.size w w' := by
  have HG := Lib.hid hg
  obtain ⟨hp1, hp2, hq1, hq2, _, _, _, _, _, _⟩ := hg
  obtain ⟨p, q, g⟩ := gr
  simp only [] at hp1 hp2 hq1 hq2
  obtain ⟨a, n, c, rfl⟩ := h.shape
  have e := h.len
  obtain ⟨k1, k2⟩ := h.capMax
  unfold maxLen at k2
  have HE := Lib.hid e; clear e
  have HL := Lib.hid hl; clear hl
  have H := Lib.hid h; clear h
  go_enter Try.func90, Try.ntmps90
  go_wp2
  obtain ⟨W, hW⟩ : ∃ W, W = w.alloc (.cells #[.int .i64 p, .int .i64 q, .int .i64 g] 24) := ⟨_, rfl⟩
  rw [← hW]
  have hb : Below w.heap.size w W := by rw [hW]; exact (Below.refl _ _).alloc (Nat.le_refl _) _
  have c0 : W.cell? ⟨w.heap.size, 0, none⟩ = some (.int .i64 p) := by rw [hW]; simp [go_sem]
  clear hW
  go_loopg [5, 10] n (fun gh ov i wr => ∃ (k : Nat) (o : Int), k + gh = n ∧ i = .int .i64 k ∧ ov = .int .i64 o ∧ Hid (mulL ⟨p, q, g⟩ (l.take k) = o) ∧ 0 ≤ o ∧ o < p ∧ W = wr)
  case atStart => exact ⟨0, 1, by omega, rfl, rfl, rfl, by omega, by omega, rfl⟩
  case round =>
    obtain ⟨k, o, hk, rfl, rfl, HF, ho0, ho1, rfl⟩ := hrel
    by_cases hlt : k < n
    · have HK : Hid (k < l.length) := by unfold Hid; rw [HE.out]; exact hlt
      obtain ⟨bk, oo, rfl, hcx⟩ := (H.out.below hb).at_ (by omega)
      have hy := hcx k hlt
      obtain ⟨s0, s1⟩ := HL.out.at_ k
      have HS : Hid (mulL ⟨p, q, g⟩ (l.take (k + 1)) = o * nth l k % p) := by unfold Hid; rw [mulL_succ HK.out, HF.out]
      clear hcx
      generalize nth l k = x at hy HS s0 s1
      obtain ⟨m0, m1⟩ := mul_bd ho0 (show o ≤ 2000000000 by omega) s0 s1
      have r0 : 0 ≤ o * x % p := Int.emod_nonneg _ (by omega)
      have r1 : o * x % p < p := Int.emod_lt_of_pos _ (by omega)
      go_wp2
      go_roundg (n - (k + 1))
      case measure => omega
      case rel => exact ⟨k + 1, o * x % p, by omega, by go_num, rfl, HS.out, r0, r1, rfl⟩
    · obtain rfl : n = k := by omega
      have HA : Hid (o = mulL ⟨p, q, g⟩ l) := by
        have := HF.out
        rw [List.take_of_length_le (by rw [HE.out]; exact Nat.le_refl _)] at this; exact this.symm
      go_wp2
      go_ret
      exact ⟨ret_int HA.out, hb⟩
set_option maxHeartbeats 1000000 in
theorem spec_gMul (gr : GroupD) (v : Value) (l : List Int) (w : World) (hg : OkG gr) (h : Ints w v l) (hl : AllSmall l) :
    Calls Try.prog 66 #[.agg #[.int .i64 gr.p, .int .i64 gr.q, .int .i64 gr.g], v] w fun e w' => e = .returned (.int .i64 (mulL gr l)) ∧ Below w.heap.size w w' := by
  have HG := Lib.hid hg
  obtain ⟨hp1, hp2, hq1, hq2, _, _, _, _, _, _⟩ := hg
  obtain ⟨p, q, g⟩ := gr
  simp only [] at hp1 hp2 hq1 hq2
  obtain ⟨a, n, c, rfl⟩ := h.shape
  have e := h.len
  obtain ⟨k1, k2⟩ := h.capMax
  unfold maxLen at k2
  have HE := Lib.hid e; clear e
  have HL := Lib.hid hl; clear hl
  have H := Lib.hid h; clear h
  go_enter Try.func66, Try.ntmps66
  go_wp2
  obtain ⟨W, hW⟩ : ∃ W, W = w.alloc (.cells #[.int .i64 p, .int .i64 q, .int .i64 g] 24) := ⟨_, rfl⟩
  rw [← hW]
  have hb : Below w.heap.size w W := by rw [hW]; exact (Below.refl _ _).alloc (Nat.le_refl _) _
  have c0 : W.cell? ⟨w.heap.size, 0, none⟩ = some (.int .i64 p) := by rw [hW]; simp [go_sem]
  clear hW
  go_loopg [5, 10] n (fun gh ov i wr => ∃ (k : Nat) (o : Int), k + gh = n ∧ i = .int .i64 k ∧ ov = .int .i64 o ∧ Hid (mulL ⟨p, q, g⟩ (l.take k) = o) ∧ 0 ≤ o ∧ o < p ∧ W = wr)
  case atStart => exact ⟨0, 1, by omega, rfl, rfl, rfl, by omega, by omega, rfl⟩
  case round =>
    obtain ⟨k, o, hk, rfl, rfl, HF, ho0, ho1, rfl⟩ := hrel
    by_cases hlt : k < n
    · have HK : Hid (k < l.length) := by unfold Hid; rw [HE.out]; exact hlt
      obtain ⟨bk, oo, rfl, hcx⟩ := (H.out.below hb).at_ (by omega)
      have hy := hcx k hlt
      obtain ⟨s0, s1⟩ := HL.out.at_ k
      have HS : Hid (mulL ⟨p, q, g⟩ (l.take (k + 1)) = o * nth l k % p) := by unfold Hid; rw [mulL_succ HK.out, HF.out]
      clear hcx
      generalize nth l k = x at hy HS s0 s1
      obtain ⟨m0, m1⟩ := mul_bd ho0 (show o ≤ 2000000000 by omega) s0 s1
      have r0 : 0 ≤ o * x % p := Int.emod_nonneg _ (by omega)
      have r1 : o * x % p < p := Int.emod_lt_of_pos _ (by omega)
      go_wp2
      go_roundg (n - (k + 1))
      case measure => omega
      case rel => exact ⟨k + 1, o * x % p, by omega, by go_num, rfl, HS.out, r0, r1, rfl⟩
    · obtain rfl : n = k := by omega
      have HA : Hid (o = mulL ⟨p, q, g⟩ l) := by
        have := HF.out
        rw [List.take_of_length_le (by rw [HE.out]; exact Nat.le_refl _)] at this; exact this.symm
      go_wp2
      go_ret
      exact ⟨ret_int HA.out, hb⟩
end Go.Proofs.Ytacpnphfopmofaa
/- Walks: challenges, images. -/




namespace Go.Proofs.Ytacpnphfopmofaa
open Go.RowKit
set_option linter.unusedSimpArgs false
set_option linter.unusedVariables false

end Go.Proofs.Ytacpnphfopmofaa
/- Walks: rows of elements, images. -/

namespace Go.Proofs.Ytacpnphfopmofaa
open Go.RowKit
set_option linter.unusedSimpArgs false
set_option linter.unusedVariables false

end Go.Proofs.Ytacpnphfopmofaa
namespace Go.Proofs.Ytacpnphfopmofaa
open Go.RowKit
set_option linter.unusedSimpArgs false
set_option linter.unusedVariables false

noncomputable def exB (gr : GroupD) (x e : Int) : Bool := goodG gr && (elB gr x && expB gr e)
noncomputable def exR (gr : GroupD) (x e : Int) : Int := if exB gr x e = true then powE gr x e else 0
set_option maxRecDepth 100000 in
set_option maxHeartbeats 2000000 in
theorem impl_ExpOf (gr : GroupD) (x e0 : Int) (w : World) (he0 : I64 e0) :
    Calls Try.prog 14 #[.agg #[.int .i64 gr.p, .int .i64 gr.q, .int .i64 gr.g], .int .i64 x, .int .i64 e0] w fun e w' => e = .returned (.tuple #[.int .i64 (exR gr x e0), .bool (exB gr x e0)]) ∧ Below w.heap.size w w' := by
  obtain ⟨p, q, g⟩ := gr
  obtain ⟨W, hW⟩ : ∃ W, W = w.alloc (.cells #[.int .i64 p, .int .i64 q, .int .i64 g] 24) := ⟨_, rfl⟩
  have HB : Hid (Below w.heap.size w W) := by unfold Hid; rw [hW]; exact (Below.refl _ _).alloc (Nat.le_refl _) _
  have HX : Hid (BoxN W w.heap.size 24 [.int .i64 p, .int .i64 q, .int .i64 g]) := by unfold Hid; rw [hW]; exact BoxN.new w _ _
  have HSW : Hid (W.heap.size = w.heap.size + 1) := by unfold Hid; rw [hW]; simp
  have HWW := Lib.hid hW
  clear hW
  have HE0 := Lib.hid he0; clear he0
  obtain ⟨b3, hb3⟩ : ∃ b, elB ⟨p, q, g⟩ x = b := ⟨_, rfl⟩
  obtain ⟨b4, hb4⟩ : ∃ b, expB ⟨p, q, g⟩ e0 = b := ⟨_, rfl⟩
  have H3 := Lib.hid hb3
  have H4 := Lib.hid hb4
  cases hgd : goodG ⟨p, q, g⟩ with
  | false =>
    have H1 := Lib.hid hgd
    have HR : Hid (exB ⟨p, q, g⟩ x e0 = false) := by unfold Hid exB; rw [hgd]; rfl
    have HV : Hid (exR ⟨p, q, g⟩ x e0 = 0) := by unfold Hid exR; rw [HR.out]; rfl
    rw [HR.out, HV.out]
    clear hgd hb3 hb4
    go_enter Try.func14, Try.ntmps14
    go_wp2_with fail
    rw [← HWW.out]
    try rw [← HSW.out]
    clear HWW
    refine (impl_IsValidGroup ⟨p, q, g⟩ _).mono ?_
    rintro e w1 ⟨rfl, hcum⟩
    rw [H1.out]
    have c0 := box_at (HX.out.cell (i := 0) rfl) hcum
    have c1 := box_at (HX.out.cell (i := 1) rfl) hcum
    have c2 := box_at (HX.out.cell (i := 2) rfl) hcum
    go_wp2_with fail
    go_ret2
    exact ⟨rfl, HB.out.trans (hcum.mono HB.out.size)⟩
  | true =>
    have H1 := Lib.hid hgd
    have HG := Lib.hid (goodG_ok hgd)
    have HRR : Hid (exB ⟨p, q, g⟩ x e0 = (b3 && b4)) := by unfold Hid exB; rw [hgd, hb3, hb4]; rfl
    have HVV : Hid (exR ⟨p, q, g⟩ x e0 = if (b3 && b4) = true then powE ⟨p, q, g⟩ x e0 else 0) := by unfold Hid exR; rw [HRR.out]
    rw [HRR.out, HVV.out]
    clear hgd hb3 hb4
    go_enter Try.func14, Try.ntmps14
    go_wp2_with fail
    rw [← HWW.out]
    try rw [← HSW.out]
    clear HWW
    refine (impl_IsValidGroup ⟨p, q, g⟩ _).mono ?_
    rintro e w1 ⟨rfl, hcum⟩
    rw [H1.out]
    have c0 := box_at (HX.out.cell (i := 0) rfl) hcum
    have c1 := box_at (HX.out.cell (i := 1) rfl) hcum
    have c2 := box_at (HX.out.cell (i := 2) rfl) hcum
    cases b3
    rotate_left
    all_goals cases b4
    all_goals
      go_wp2_with (first
        | (go_at_call 47; refine (impl_has ⟨p, q, g⟩ x _ HG.out).mono ?_; rintro e wa ⟨rfl, hba⟩; rw [H3.out]; (replace hcum := Below.next hcum hba); (replace c0 := box_at c0 hba); (replace c1 := box_at c1 hba); (replace c2 := box_at c2 hba); clear hba)
        | (go_at_call 48; refine (impl_isExp ⟨p, q, g⟩ e0 _ HG.out).mono ?_; rintro e wa ⟨rfl, hba⟩; rw [H4.out]; (replace hcum := Below.next hcum hba); (replace c0 := box_at c0 hba); (replace c1 := box_at c1 hba); (replace c2 := box_at c2 hba); clear hba)
        | (go_at_call 51; refine (impl_pow ⟨p, q, g⟩ x e0 _ HG.out (elB_small HG.out H3.out) HE0.out).mono ?_; rintro e wa ⟨rfl, hba⟩; (replace hcum := Below.next hcum hba); clear hba)
        | fail)
      go_ret2
      exact ⟨ret_int_bool (by first | rfl | simp) rfl, HB.out.trans (hcum.mono HB.out.size)⟩
end Go.Proofs.Ytacpnphfopmofaa
