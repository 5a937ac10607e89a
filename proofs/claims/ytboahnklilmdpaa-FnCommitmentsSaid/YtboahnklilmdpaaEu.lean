/- Inverses by Euclid's algorithm: walks. -/
import Derived.Test.YtboahnklilmdpaaEuL
namespace Go.Proofs.Ytboahnklilmdpaa
open Go.RowKit
set_option linter.unusedSimpArgs false
set_option linter.unusedVariables false

theorem tdiv_pos {a b : Int} (h : 0 ≤ a) : Int.tdiv a b = a / b := Int.tdiv_eq_ediv_of_nonneg h
set_option maxHeartbeats 1000000 in
theorem impl_inverse (a m : Int) (w : World) (hm : Prm m) (h0 : 0 < a) (h1 : a < m) (h2 : m ≤ 2000000000) :
    Calls Try.prog 178 #[.int .i64 a, .int .i64 m] w fun e w' => e = .returned (.int .i64 (invQ a m)) ∧ w = w' := by
  have HM := Lib.hid hm
  clear hm
  go_enter Try.func178, Try.ntmps178
  go_wp2
  go_loopg [5, 6, 7, 8] a.toNat (fun g rv nv xv yv wr => ∃ (r n x y : Int), rv = .int .i64 r ∧ nv = .int .i64 n ∧ xv = .int .i64 x ∧ yv = .int .i64 y ∧ n ≤ (g : Int) ∧ Hid (EuInv a m r n x y) ∧ w = wr)
  case atStart => exact ⟨m, a, 0, 1, rfl, rfl, rfl, rfl, by omega, EuInv.start (by omega) (by omega) (by omega), rfl⟩
  case round =>
    obtain ⟨r, n, x, y, rfl, rfl, rfl, rfl, hg, HI, rfl⟩ := hrel
    have hn0 : 0 ≤ n := HI.out.1
    have hr1 : 1 ≤ r := HI.out.2.1
    have hrm : r ≤ m := HI.out.2.2.1
    have hnm : n ≤ m := HI.out.2.2.2.1
    obtain ⟨hx1, hx2, hy1, hy2⟩ := HI.out.bd
    by_cases hz : n = 0
    · subst hz
      obtain ⟨e1, e2⟩ := HI.out.inv HM.out h0 h1
      have HE := Lib.hid e2
      subst e1
      clear e2
      go_wp2_with fail
      refine (impl_mod x m _ ⟨by omega, by omega⟩ (by omega) (by omega)).mono ?_
      rintro e w1 ⟨rfl, rfl⟩
      go_wp2_with fail
      go_ret
      exact ⟨ret_int HE.out, rfl⟩
    · have hz2 : (n == 0) = false := beq_eq_false_iff_ne.2 hz
      have hz3 : (n != 0) = true := by rw [bne_iff_ne]; exact hz
      obtain ⟨HN, s1, s2⟩ := HI.out.step (by omega)
      obtain ⟨q0, q1, q2, q3, q4, q5⟩ := HI.out.quo (by omega)
      have hd : Int.tdiv r n = r / n := tdiv_pos (by omega)
      obtain ⟨t1, t2, t3, t4⟩ := HN.bd
      have HN := Lib.hid HN
      obtain ⟨q, hq⟩ : ∃ q, r / n = q := ⟨_, rfl⟩
      rw [hq] at HN s1 s2 q0 q1 q2 q3 q4 q5 hd t3 t4
      clear hq
      have w1 : IntKind.i64.wrap q = q := IntWalk.i64_in _ (by omega)
      have w2 : IntKind.i64.wrap (q * n) = q * n := IntWalk.i64_in _ (by omega)
      have w3 : IntKind.i64.wrap (r - q * n) = r - q * n := IntWalk.i64_in _ (by omega)
      have w4 : IntKind.i64.wrap (q * y) = q * y := IntWalk.i64_in _ (by omega)
      have w5 : IntKind.i64.wrap (x - q * y) = x - q * y := IntWalk.i64_in _ (by omega)
      go_wp2_with fail
      go_roundg (r - q * n).toNat
      case measure => omega
      case rel => exact ⟨n, r - q * n, y, x - q * y, rfl, rfl, rfl, rfl, by omega, HN.out, rfl⟩
set_option maxHeartbeats 1000000 in
theorem spec_nInverse (a m : Int) (w : World) (hm : Prm m) (ha : I64 a) (h0 : 0 < a % m) (h2 : m ≤ 2000000000) :
    Calls Try.prog 179 #[.int .i64 a, .int .i64 m] w fun e w' => e = .returned (.tuple #[.int .i64 (invQ (a % m) m), .bool true]) ∧ w = w' := by
  have hm2 := hm.1
  have HM := Lib.hid hm
  clear hm
  have h1 : a % m < m := Int.emod_lt_of_pos _ (by omega)
  have HA := Lib.hid ha
  clear ha
  go_enter Try.func179, Try.ntmps179
  go_wp2_with fail
  refine (spec_nMod a m _ HA.out (by omega) (by omega)).mono ?_
  rintro e w1 ⟨rfl, rfl⟩
  clear HA
  obtain ⟨c, hcc⟩ : ∃ c, a % m = c := ⟨_, rfl⟩
  rw [hcc] at h0 h1 ⊢
  have HCC := Lib.hid hcc
  clear hcc
  go_wp2_with fail
  go_loopg [6, 7, 8, 9] m.toNat (fun g rv nv xv yv wr => ∃ (r n x y : Int), rv = .int .i64 r ∧ nv = .int .i64 n ∧ xv = .int .i64 x ∧ yv = .int .i64 y ∧ n ≤ (g : Int) ∧ Hid (EuInv c m r n x y) ∧ w = wr)
  case atStart => exact ⟨c, m, 1, 0, rfl, rfl, rfl, rfl, by omega, EuInv.start2 (by omega) (by omega), rfl⟩
  case round =>
    obtain ⟨r, n, x, y, rfl, rfl, rfl, rfl, hg, HI, rfl⟩ := hrel
    have hn0 : 0 ≤ n := HI.out.1
    have hr1 : 1 ≤ r := HI.out.2.1
    have hrm : r ≤ m := HI.out.2.2.1
    have hnm : n ≤ m := HI.out.2.2.2.1
    obtain ⟨hx1, hx2, hy1, hy2⟩ := HI.out.bd
    by_cases hz : n = 0
    · subst hz
      obtain ⟨e1, e2⟩ := HI.out.inv HM.out h0 h1
      have HE := Lib.hid e2
      subst e1
      clear e2
      go_wp2_with fail
      refine (spec_nMod x m _ ⟨by omega, by omega⟩ (by omega) (by omega)).mono ?_
      rintro e w1 ⟨rfl, rfl⟩
      go_wp2_with fail
      go_ret2
      exact ⟨by rw [HCC.out, HE.out]; rfl, rfl⟩
    · have hz2 : (n == 0) = false := beq_eq_false_iff_ne.2 hz
      have hz3 : (n != 0) = true := by rw [bne_iff_ne]; exact hz
      obtain ⟨HN, s1, s2⟩ := HI.out.step (by omega)
      obtain ⟨q0, q1, q2, q3, q4, q5⟩ := HI.out.quo (by omega)
      have hd : Int.tdiv r n = r / n := tdiv_pos (by omega)
      obtain ⟨t1, t2, t3, t4⟩ := HN.bd
      have HN := Lib.hid HN
      obtain ⟨q, hq⟩ : ∃ q, r / n = q := ⟨_, rfl⟩
      rw [hq] at HN s1 s2 q0 q1 q2 q3 q4 q5 hd t3 t4
      clear hq
      have w1 : IntKind.i64.wrap q = q := IntWalk.i64_in _ (by omega)
      have w2 : IntKind.i64.wrap (q * n) = q * n := IntWalk.i64_in _ (by omega)
      have w3 : IntKind.i64.wrap (r - q * n) = r - q * n := IntWalk.i64_in _ (by omega)
      have w4 : IntKind.i64.wrap (q * y) = q * y := IntWalk.i64_in _ (by omega)
      have w5 : IntKind.i64.wrap (x - q * y) = x - q * y := IntWalk.i64_in _ (by omega)
      go_wp2_with fail
      go_roundg (r - q * n).toNat
      case measure => omega
      case rel => exact ⟨n, r - q * n, y, x - q * y, rfl, rfl, rfl, rfl, by omega, HN.out, rfl⟩
end Go.Proofs.Ytboahnklilmdpaa
