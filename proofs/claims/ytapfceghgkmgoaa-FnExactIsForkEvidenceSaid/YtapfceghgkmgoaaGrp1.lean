/- Walks: residues, powers, primes. -/
import Derived.Test.YtapfceghgkmgoaaNumP
namespace Go.Proofs.Ytapfceghgkmgoaa
open Go.RowKit
set_option linter.unusedSimpArgs false
set_option linter.unusedVariables false

theorem tmod_mod (n m : Int) (hm : 0 < m) : (Int.tmod n m + m) % m = n % m := by
  have h1 : Int.tmod n m = n - m * Int.tdiv n m := by have := Int.tmod_add_mul_tdiv n m; omega
  rw [h1, show n - m * n.tdiv m + m = n + m * (1 - n.tdiv m) by rw [Int.mul_sub, Int.mul_one]; omega, Int.add_mul_emod_self_left]
theorem tmod_bd (n m : Int) (hm : 0 < m) : -m < Int.tmod n m ∧ Int.tmod n m < m := by
  have h1 := Int.tmod_lt_of_pos n hm
  have h2 : -m < Int.tmod n m := by
    have := Int.lt_tmod_of_pos n hm; omega
  exact ⟨h2, h1⟩
theorem impl_mod (n m : Int) (w : World) (hn : I64 n) (h1 : 0 < m) (h2 : m ≤ 4000000000) :
    Calls Try.prog 282 #[.int .i64 n, .int .i64 m] w fun e w' => e = .returned (.int .i64 (n % m)) ∧ w = w' := by
  have ht := tmod_bd n m h1
  have HM := Lib.hid (tmod_mod n m h1)
  have hn1 := hn.1; have hn2 := hn.2
  clear hn
  go_enter Try.func282, Try.ntmps282
  go_wp2
  go_ret
  exact ⟨ret_int (by first | exact HM.out | (have := HM.out; simpa using this)), rfl⟩
theorem spec_nMod (n m : Int) (w : World) (hn : I64 n) (h1 : 0 < m) (h2 : m ≤ 4000000000) :
    Calls Try.prog 286 #[.int .i64 n, .int .i64 m] w fun e w' => e = .returned (.int .i64 (n % m)) ∧ w = w' := by
  have ht := tmod_bd n m h1
  have HM := Lib.hid (tmod_mod n m h1)
  have hn1 := hn.1; have hn2 := hn.2
  clear hn
  go_enter Try.func286, Try.ntmps286
  go_wp2
  go_ret
  exact ⟨ret_int (by first | exact HM.out | (have := HM.out; simpa using this)), rfl⟩
theorem and1_gen (x : Int) (h0 : 0 ≤ x) (h1 : x ≤ 4611686018427387903) : bits .and .i64 x 1 = x % 2 := by
  have h := bits_mask .i64 62 (by decide) (fun n h h' => IntWalk.i64_in n ⟨by omega, by
    have e : ((2 : Int) ^ 62) = 4611686018427387904 := by decide
    omega⟩) 1 (by decide) x h0 (by
    have e : ((2 : Int) ^ 62) = 4611686018427387904 := by decide
    omega)
  have e1 : ((2 : Int) ^ 1 - 1) = 1 := by decide
  have e2 : ((2 : Int) ^ 1) = 2 := by decide
  rw [e1, e2] at h
  exact h
set_option maxHeartbeats 1000000 in
theorem impl_power (a e m : Int) (w : World) (ha : 0 ≤ a ∧ a ≤ 3000000000) (he : 0 ≤ e ∧ e ≤ 4000000000) (hm : 0 < m ∧ m ≤ 3000000000) :
    Calls Try.prog 226 #[.int .i64 a, .int .i64 e, .int .i64 m] w fun e' w' => e' = .returned (.int .i64 (powM a e m)) ∧ w = w' := by
  obtain ⟨ha1, ha2⟩ := ha
  obtain ⟨he1, he2⟩ := he
  obtain ⟨hm1, hm2⟩ := hm
  have hp0 := powM_bd (a := a) (e := e) hm1
  have H0 : Hid ((1 % m * a ^ e.toNat) % m = powM a e m) := by unfold Hid powM; rw [emod_mul_left, Int.one_mul]
  have ho1 : 0 ≤ 1 % m := Int.emod_nonneg _ (by omega)
  have ho2 : 1 % m < m := Int.emod_lt_of_pos _ hm1
  generalize powM a e m = T at H0 hp0 ⊢
  go_enter Try.func226, Try.ntmps226
  go_wp2
  go_loopg [0, 1, 7] e.toNat (fun g av ev ov wr => ∃ (b : Int) (k : Nat) (o : Int), av = .int .i64 b ∧ ev = .int .i64 k ∧ ov = .int .i64 o ∧ (k : Int) ≤ 4000000000 ∧ k ≤ g ∧ 0 ≤ b ∧ b ≤ 3000000000 ∧ 0 ≤ o ∧ o < m ∧ Hid ((o * b ^ k) % m = T) ∧ w = wr)
  case atStart => exact ⟨a, e.toNat, 1 % m, rfl, by rw [Int.toNat_of_nonneg he1], rfl, by omega, by omega, ha1, ha2, ho1, ho2, H0.out, rfl⟩
  case round =>
    obtain ⟨b, k, o, rfl, rfl, rfl, hk, hkg, hb0, hb1, ho0, ho1, HP, rfl⟩ := hrel
    by_cases hz : k = 0
    · subst hz
      have HR : Hid (o = T) := by have := HP.out; rw [Int.pow_zero, Int.mul_one, Int.emod_eq_of_lt ho0 ho1] at this; exact this
      go_wp2
      go_ret
      exact ⟨ret_int HR.out, rfl⟩
    · obtain ⟨p1, p2⟩ := mul_bd hb0 hb1 hb0 hb1
      obtain ⟨p3, p4⟩ := mul_bd ho0 (show o ≤ 3000000000 by omega) hb0 hb1
      have hand := and1_gen (k : Int) (by omega) (by omega)
      have d1 : 0 ≤ b * b % m := Int.emod_nonneg _ (by omega)
      have d2 : b * b % m < m := Int.emod_lt_of_pos _ hm1
      have d3 : 0 ≤ o * b % m := Int.emod_nonneg _ (by omega)
      have d4 : o * b % m < m := Int.emod_lt_of_pos _ hm1
      by_cases h2 : k % 2 = 1
      · have HN : Hid (((o * b % m) * (b * b % m) ^ (k / 2)) % m = T) := by unfold Hid; rw [powM_odd h2]; exact HP.out
        have hq : ((k : Int) % 2 == 1) = true := by rw [beq_iff_eq]; omega
        go_wp2
        go_roundg (k / 2)
        case measure => omega
        case rel => exact ⟨b * b % m, k / 2, o * b % m, rfl, by first | rfl | (congr 1; omega), rfl, by omega, by omega, d1, by omega, d3, d4, HN.out, rfl⟩
      · have HN : Hid ((o * (b * b % m) ^ (k / 2)) % m = T) := by unfold Hid; rw [powM_even (by omega)]; exact HP.out
        have hq : ((k : Int) % 2 == 1) = false := by rw [beq_eq_false_iff_ne]; omega
        go_wp2
        go_roundg (k / 2)
        case measure => omega
        case rel => exact ⟨b * b % m, k / 2, o, rfl, by first | rfl | (congr 1; omega), rfl, by omega, by omega, d1, by omega, ho0, ho1, HN.out, rfl⟩
set_option maxHeartbeats 1000000 in
theorem spec_nPower (a e m : Int) (w : World) (ha : 0 ≤ a ∧ a ≤ 3000000000) (he : 0 ≤ e ∧ e ≤ 4000000000) (hm : 0 < m ∧ m ≤ 3000000000) :
    Calls Try.prog 209 #[.int .i64 a, .int .i64 e, .int .i64 m] w fun e' w' => e' = .returned (.int .i64 (powM a e m)) ∧ w = w' := by
  obtain ⟨ha1, ha2⟩ := ha
  obtain ⟨he1, he2⟩ := he
  obtain ⟨hm1, hm2⟩ := hm
  have hp0 := powM_bd (a := a) (e := e) hm1
  have H0 : Hid ((1 % m * a ^ e.toNat) % m = powM a e m) := by unfold Hid powM; rw [emod_mul_left, Int.one_mul]
  have ho1 : 0 ≤ 1 % m := Int.emod_nonneg _ (by omega)
  have ho2 : 1 % m < m := Int.emod_lt_of_pos _ hm1
  generalize powM a e m = T at H0 hp0 ⊢
  go_enter Try.func209, Try.ntmps209
  go_wp2
  go_loopg [0, 1, 7] e.toNat (fun g av ev ov wr => ∃ (b : Int) (k : Nat) (o : Int), av = .int .i64 b ∧ ev = .int .i64 k ∧ ov = .int .i64 o ∧ (k : Int) ≤ 4000000000 ∧ k ≤ g ∧ 0 ≤ b ∧ b ≤ 3000000000 ∧ 0 ≤ o ∧ o < m ∧ Hid ((o * b ^ k) % m = T) ∧ w = wr)
  case atStart => exact ⟨a, e.toNat, 1 % m, rfl, by rw [Int.toNat_of_nonneg he1], rfl, by omega, by omega, ha1, ha2, ho1, ho2, H0.out, rfl⟩
  case round =>
    obtain ⟨b, k, o, rfl, rfl, rfl, hk, hkg, hb0, hb1, ho0, ho1, HP, rfl⟩ := hrel
    by_cases hz : k = 0
    · subst hz
      have HR : Hid (o = T) := by have := HP.out; rw [Int.pow_zero, Int.mul_one, Int.emod_eq_of_lt ho0 ho1] at this; exact this
      go_wp2
      go_ret
      exact ⟨ret_int HR.out, rfl⟩
    · obtain ⟨p1, p2⟩ := mul_bd hb0 hb1 hb0 hb1
      obtain ⟨p3, p4⟩ := mul_bd ho0 (show o ≤ 3000000000 by omega) hb0 hb1
      have hand := and1_gen (k : Int) (by omega) (by omega)
      have d1 : 0 ≤ b * b % m := Int.emod_nonneg _ (by omega)
      have d2 : b * b % m < m := Int.emod_lt_of_pos _ hm1
      have d3 : 0 ≤ o * b % m := Int.emod_nonneg _ (by omega)
      have d4 : o * b % m < m := Int.emod_lt_of_pos _ hm1
      by_cases h2 : k % 2 = 1
      · have HN : Hid (((o * b % m) * (b * b % m) ^ (k / 2)) % m = T) := by unfold Hid; rw [powM_odd h2]; exact HP.out
        have hq : ((k : Int) % 2 == 1) = true := by rw [beq_iff_eq]; omega
        go_wp2
        go_roundg (k / 2)
        case measure => omega
        case rel => exact ⟨b * b % m, k / 2, o * b % m, rfl, by first | rfl | (congr 1; omega), rfl, by omega, by omega, d1, by omega, d3, d4, HN.out, rfl⟩
      · have HN : Hid ((o * (b * b % m) ^ (k / 2)) % m = T) := by unfold Hid; rw [powM_even (by omega)]; exact HP.out
        have hq : ((k : Int) % 2 == 1) = false := by rw [beq_eq_false_iff_ne]; omega
        go_wp2
        go_roundg (k / 2)
        case measure => omega
        case rel => exact ⟨b * b % m, k / 2, o, rfl, by first | rfl | (congr 1; omega), rfl, by omega, by omega, d1, by omega, ho0, ho1, HN.out, rfl⟩
theorem impl_isModulus (n : Int) (w : World) :
    Calls Try.prog 263 #[.int .i64 n] w fun e w' => e = .returned (.bool (decide (2 ≤ n ∧ n ≤ 2000000000))) ∧ w = w' := by
  (obtain ⟨q, h_q⟩ : ∃ b_q, decide (2 ≤ n ∧ n ≤ 2000000000) = b_q := ⟨_, rfl⟩); have HQ := Lib.hid h_q; clear h_q
  rw [HQ.out]
  go_enter Try.func263, Try.ntmps263
  go_wp2_with fail
  refine (impl_within _ _ _ _).mono ?_
  rintro e w1 ⟨rfl, rfl⟩
  rw [HQ.out]
  go_wp2_with fail
  go_ret
  exact ⟨rfl, rfl⟩
set_option maxHeartbeats 1000000 in
theorem impl_isPrime (n : Int) (w : World) :
    Calls Try.prog 225 #[.int .i64 n] w fun e w' => e = .returned (.bool (decide (n ≤ 2000000000) && primeB n)) ∧ w = w' := by
  by_cases hr : 2 ≤ n ∧ n ≤ 2000000000
  · obtain ⟨hr1, hr2⟩ := hr
    have HM : Hid (decide (2 ≤ n ∧ n ≤ 2000000000) = true) := decide_eq_true ⟨hr1, hr2⟩
    rw [decide_eq_true hr2]
    have htm : Int.tmod n 2 = n % 2 := Int.tmod_eq_emod_of_nonneg (by omega)
    by_cases hev : n % 2 = 0 ∧ n ≠ 2
    · have HP : Hid ((true && primeB n) = false) := by
        unfold Hid; rw [Bool.true_and]; exact primeB_no (not_Prm_of_dvd (d := 2) (by omega) (by omega) hev.1)
      have e1 : (n % 2 == 0) = true := by rw [beq_iff_eq]; exact hev.1
      have e2 : (n != 2) = true := by rw [bne_iff_ne]; exact hev.2
      clear hev htm
      go_enter Try.func225, Try.ntmps225
      go_wp2_with (first | (go_at_call 263; refine (impl_isModulus _ _).mono ?_; rintro e w1 ⟨rfl, rfl⟩; rw [HM.out]) | fail)
      go_ret
      exact ⟨ret_bool HP.out.symm, rfl⟩
    · have hst : Hid (noDiv n 3 ∨ n = 2) := by
        unfold Hid
        by_cases h2 : n = 2
        · exact .inr h2
        · exact .inl (noDiv_succ (d := 2) (noDiv_two n) (by omega))
      have hodd : Hid (n % 2 = 1 ∨ n = 2) := by unfold Hid; omega
      have hqq : ((n % 2 == 0) && (n != 2)) = false := by
        rw [Bool.and_eq_false_iff, beq_eq_false_iff_ne]
        by_cases h2 : n = 2
        · right; rw [h2]; rfl
        · left; omega
      clear hev htm
      rcases (by have := hodd.out; omega : (n % 2 ≠ 0) ∨ n = 2) with hb | rfl
      · have e1 : (n % 2 == 0) = false := by rw [beq_eq_false_iff_ne]; exact hb
        have HN0 : Hid (noDiv n 3) := by rcases hst.out with h | h; exact h; omega
        clear hqq hst hb
        go_enter Try.func225, Try.ntmps225
        go_wp2_with (first | (go_at_call 263; refine (impl_isModulus _ _).mono ?_; rintro e w1 ⟨rfl, rfl⟩; rw [HM.out]) | fail)
        go_loopg [3] 50000 (fun g dv wr => ∃ d : Int, dv = .int .i64 d ∧ 3 ≤ d ∧ d + 2 * (g : Int) ≤ 100003 ∧ 44800 ≤ d + 2 * (g : Int) ∧ Hid (d % 2 = 1) ∧ Hid (noDiv n d) ∧ w = wr)
        case atStart => exact ⟨3, rfl, by omega, by omega, by omega, by unfold Hid; omega, HN0.out, rfl⟩
        case round =>
          obtain ⟨d, rfl, hd3, hdg, hdl, HO, HN, rfl⟩ := hrel
          by_cases hle : d * d ≤ n
          · have hd5 : d ≤ 44721 := by
              by_cases hc : d ≤ 44721
              · exact hc
              · have := sq_le (d := d) (d' := 44722) (by omega) (by omega); omega
            have hp := mul_bd (show 0 ≤ d by omega) hd5 (show 0 ≤ d by omega) hd5
            by_cases hdv : n % d = 0
            · have HP : Hid ((true && primeB n) = false) := by
                unfold Hid; rw [Bool.true_and]; exact primeB_no (not_Prm_of_dvd (d := d) (by omega) hle hdv)
              have e2 : (n % d == 0) = true := by rw [beq_iff_eq]; exact hdv
              clear hdv
              go_wp2
              go_ret
              exact ⟨ret_bool HP.out.symm, rfl⟩
            · have e2 : (n % d == 0) = false := by rw [beq_eq_false_iff_ne]; exact hdv
              have HN2 : Hid (noDiv n (d + 2)) := by
                have h1 := noDiv_succ HN.out hdv
                have h2 := noDiv_succ h1 (odd_no_even (n := n) (d := d + 1) (by have := hodd.out; rcases this with h | h; exact h; rw [h] at e1; cases e1) (by have := HO.out; omega))
                rw [show d + 1 + 1 = d + 2 by omega] at h2; exact h2
              have HO2 : Hid ((d + 2) % 2 = 1) := by have := HO.out; unfold Hid; omega
              clear hdv
              obtain ⟨f, rfl⟩ : ∃ f, gk = f + 1 := ⟨gk - 1, by omega⟩
              go_wp2
              go_roundg f
              case measure => omega
              case rel => exact ⟨d + 2, rfl, by omega, by omega, by omega, HO2.out, HN2.out, rfl⟩
          · have HP : Hid ((true && primeB n) = true) := by
              unfold Hid; rw [Bool.true_and]; exact primeB_yes (Prm_of_noDiv (by omega) HN.out (by omega) (by omega))
            have hd5 : d ≤ 100003 := by omega
            have hp := mul_bd (show 0 ≤ d by omega) hd5 (show 0 ≤ d by omega) hd5
            have hle' : n < d * d := by omega
            clear hle
            go_wp2
            go_ret
            exact ⟨ret_bool HP.out.symm, rfl⟩
      · have HP : Hid ((true && primeB 2) = true) := by
          unfold Hid; rw [Bool.true_and]; exact primeB_yes ⟨by omega, fun d h1 h2 => by have := sq_le (d := d) (d' := 2) (by omega) h1; omega⟩
        clear hqq hst hodd
        go_enter Try.func225, Try.ntmps225
        go_wp2_with (first | (go_at_call 263; refine (impl_isModulus _ _).mono ?_; rintro e w1 ⟨rfl, rfl⟩; rw [HM.out]) | fail)
        go_loopg [3] 1 (fun g dv wr => dv = .int .i64 3 ∧ w = wr)
        case atStart => exact ⟨rfl, rfl⟩
        case round =>
          obtain ⟨rfl, rfl⟩ := hrel
          go_wp2
          go_ret
          exact ⟨ret_bool HP.out.symm, rfl⟩
  · have HM : Hid (decide (2 ≤ n ∧ n ≤ 2000000000) = false) := decide_eq_false hr
    have HP : Hid ((decide (n ≤ 2000000000) && primeB n) = false) := by
      unfold Hid
      by_cases h2 : n ≤ 2000000000
      · rw [primeB_no (fun h => hr ⟨h.1, h2⟩), Bool.and_false]
      · rw [decide_eq_false h2]; rfl
    clear hr
    go_enter Try.func225, Try.ntmps225
    go_wp2_with (first | (go_at_call 263; refine (impl_isModulus _ _).mono ?_; rintro e w1 ⟨rfl, rfl⟩; rw [HM.out]) | fail)
    go_ret
    exact ⟨ret_bool HP.out.symm, rfl⟩
set_option maxHeartbeats 1000000 in
theorem spec_nPrime (n : Int) (w : World) (hn : n ≤ 4000000000) :
    Calls Try.prog 210 #[.int .i64 n] w fun e w' => e = .returned (.bool (primeB n)) ∧ w = w' := by
  by_cases hr : 2 ≤ n
  · go_enter Try.func210, Try.ntmps210
    go_wp2
    go_loopg [3] 100000 (fun g dv wr => ∃ d : Int, dv = .int .i64 d ∧ 2 ≤ d ∧ d + (g : Int) ≤ 100002 ∧ 70000 ≤ d + (g : Int) ∧ Hid (noDiv n d) ∧ w = wr)
    case atStart => exact ⟨2, rfl, by omega, by omega, by omega, noDiv_two n, rfl⟩
    case round =>
      obtain ⟨d, rfl, hd3, hdg, hdl, HN, rfl⟩ := hrel
      by_cases hle : d * d ≤ n
      · have hd5 : d ≤ 63246 := by
          by_cases hc : d ≤ 63246
          · exact hc
          · have := sq_le (d := d) (d' := 63247) (by omega) (by omega); omega
        have hp := mul_bd (show 0 ≤ d by omega) hd5 (show 0 ≤ d by omega) hd5
        by_cases hdv : n % d = 0
        · have HP : Hid (primeB n = false) := primeB_no (not_Prm_of_dvd (d := d) (by omega) hle hdv)
          have e2 : (n % d == 0) = true := by rw [beq_iff_eq]; exact hdv
          clear hdv
          go_wp2
          go_ret
          exact ⟨ret_bool HP.out.symm, rfl⟩
        · have e2 : (n % d == 0) = false := by rw [beq_eq_false_iff_ne]; exact hdv
          have HN2 : Hid (noDiv n (d + 1)) := noDiv_succ HN.out hdv
          clear hdv
          obtain ⟨f, rfl⟩ : ∃ f, gk = f + 1 := ⟨gk - 1, by omega⟩
          go_wp2
          go_roundg f
          case measure => omega
          case rel => exact ⟨d + 1, rfl, by omega, by omega, by omega, HN2.out, rfl⟩
      · have HP : Hid (primeB n = true) := primeB_yes (Prm_of_noDiv (by omega) HN.out (by omega) (by omega))
        have hd5 : d ≤ 100003 := by omega
        have hp := mul_bd (show 0 ≤ d by omega) hd5 (show 0 ≤ d by omega) hd5
        have hle' : n < d * d := by omega
        clear hle
        go_wp2
        go_ret
        exact ⟨ret_bool HP.out.symm, rfl⟩
  · have HP : Hid (primeB n = false) := primeB_no (fun h => hr h.1)
    go_enter Try.func210, Try.ntmps210
    go_wp2
    go_ret
    exact ⟨ret_bool HP.out.symm, rfl⟩
end Go.Proofs.Ytapfceghgkmgoaa
