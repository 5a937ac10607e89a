/- Proofs of sums: walks (printed by gen_sum1.py). -/
import Derived.Test.YtegomgnlhcbmfaaSumLV
import Derived.Test.YtegomgnlhcbmfaaKEqualLogV
namespace Go.Proofs.Ytegomgnlhcbmfaa
open Go.RowKit
set_option linter.unusedSimpArgs false
set_option linter.unusedVariables false

set_option maxHeartbeats 1000000 in
theorem impl_sum (v : Value) (l : List Int) (q : Int) (w : World) (h : Ints w v l) (hq : 0 < q) (hq2 : q ≤ 2000000000) (hl : ∀ x ∈ l, 0 ≤ x ∧ x < q) :
    Calls Try.prog 104 #[v, .int .i64 q] w fun e w' => e = .returned (.int .i64 (sumM q l)) ∧ w = w' := by
  obtain ⟨a, n, c, rfl⟩ := h.shape
  have HE := Lib.hid h.len
  have HH := Lib.hid h
  have HL := Lib.hid hl
  obtain ⟨k1, k2⟩ := h.capMax
  unfold maxLen at k2
  clear h hl
  have hqz : ¬ q = 0 := by omega
  have hqz2 : (q == 0) = false := beq_eq_false_iff_ne.2 hqz
  go_enter Try.func104, Try.ntmps104
  go_wp2_with fail
  go_loopg [5, 10] n (fun gk ov iv wr => ∃ k : Nat, k + gk = n ∧ iv = .int .i64 k ∧ ov = .int .i64 (sumM q (l.take k)) ∧ w = wr)
  case atStart => exact ⟨0, by omega, rfl, rfl, rfl⟩
  case round =>
    obtain ⟨k, hkg, rfl, rfl, rfl⟩ := hrel
    have hb := sumM_bd hq (l.take k)
    by_cases hlt : k < n
    · obtain ⟨b, o, rfl, hc⟩ := HH.out.at_ (by omega)
      have y0 := hc k hlt
      have HS := Lib.hid (sumM_succ (q := q) (l := l) (k := k) (by have := HE.out; omega))
      have hx : 0 ≤ nth l k ∧ nth l k < q := by
        have e : nth l k = l[k]'(by have := HE.out; omega) := by simp [nth, List.getD, show k < l.length by have := HE.out; omega]
        rw [e]; exact HL.out _ (List.getElem_mem _)
      obtain ⟨hx0, hx1⟩ := hx
      obtain ⟨hb0, hb1⟩ := hb
      clear hc
      generalize nth l k = x at y0 HS hx0 hx1
      generalize sumM q (l.take k) = z at HS hb0 hb1 ⊢
      have b0 : (0 : Int) ≤ (k : Int) := by omega
      have bk1 : (k : Int) < (n : Int) := by omega
      have ew1 : IntKind.i64.wrap (z + x) = z + x := IntWalk.i64_in _ (by omega)
      have et : Int.tmod (z + x) q = (z + x) % q := Int.tmod_eq_emod_of_nonneg (by omega)
      have em0 : 0 ≤ (z + x) % q := Int.emod_nonneg _ hqz
      have em1 : (z + x) % q < q := Int.emod_lt_of_pos _ hq
      have ew2 : IntKind.i64.wrap ((z + x) % q) = (z + x) % q := IntWalk.i64_in _ (by omega)
      have hwk : IntKind.i64.wrap ((k : Int) + 1) = (k : Int) + 1 := IntWalk.i64_in _ (by omega)
      clear em0 em1
      go_wp2_with fail
      go_roundg (n - (k + 1))
      case measure => omega
      case rel => exact ⟨k + 1, by omega, by go_num, by rw [HS.out], rfl⟩
    · obtain rfl : n = k := by omega
      have HT : Hid (sumM q (l.take n) = sumM q l) := by unfold Hid; rw [List.take_of_length_le (by have := HE.out; omega)]
      rw [HT.out]
      clear hb
      go_wp2_with fail
      go_ret
      exact ⟨rfl, rfl⟩
set_option maxHeartbeats 1000000 in
theorem spec_nSum (v : Value) (l : List Int) (q : Int) (w : World) (h : Ints w v l) (hq : 0 < q) (hq2 : q ≤ 2000000000) (hl : ∀ x ∈ l, 0 ≤ x ∧ x < q) :
    Calls Try.prog 199 #[v, .int .i64 q] w fun e w' => e = .returned (.int .i64 (sumM q l)) ∧ w = w' := by
  obtain ⟨a, n, c, rfl⟩ := h.shape
  have HE := Lib.hid h.len
  have HH := Lib.hid h
  have HL := Lib.hid hl
  obtain ⟨k1, k2⟩ := h.capMax
  unfold maxLen at k2
  clear h hl
  have hqz : ¬ q = 0 := by omega
  have hqz2 : (q == 0) = false := beq_eq_false_iff_ne.2 hqz
  go_enter Try.func199, Try.ntmps199
  go_wp2_with fail
  go_loopg [5, 10] n (fun gk ov iv wr => ∃ k : Nat, k + gk = n ∧ iv = .int .i64 k ∧ ov = .int .i64 (sumM q (l.take k)) ∧ w = wr)
  case atStart => exact ⟨0, by omega, rfl, rfl, rfl⟩
  case round =>
    obtain ⟨k, hkg, rfl, rfl, rfl⟩ := hrel
    have hb := sumM_bd hq (l.take k)
    by_cases hlt : k < n
    · obtain ⟨b, o, rfl, hc⟩ := HH.out.at_ (by omega)
      have y0 := hc k hlt
      have HS := Lib.hid (sumM_succ (q := q) (l := l) (k := k) (by have := HE.out; omega))
      have hx : 0 ≤ nth l k ∧ nth l k < q := by
        have e : nth l k = l[k]'(by have := HE.out; omega) := by simp [nth, List.getD, show k < l.length by have := HE.out; omega]
        rw [e]; exact HL.out _ (List.getElem_mem _)
      obtain ⟨hx0, hx1⟩ := hx
      obtain ⟨hb0, hb1⟩ := hb
      clear hc
      generalize nth l k = x at y0 HS hx0 hx1
      generalize sumM q (l.take k) = z at HS hb0 hb1 ⊢
      have b0 : (0 : Int) ≤ (k : Int) := by omega
      have bk1 : (k : Int) < (n : Int) := by omega
      have ew1 : IntKind.i64.wrap (z + x) = z + x := IntWalk.i64_in _ (by omega)
      have et : Int.tmod (z + x) q = (z + x) % q := Int.tmod_eq_emod_of_nonneg (by omega)
      have em0 : 0 ≤ (z + x) % q := Int.emod_nonneg _ hqz
      have em1 : (z + x) % q < q := Int.emod_lt_of_pos _ hq
      have ew2 : IntKind.i64.wrap ((z + x) % q) = (z + x) % q := IntWalk.i64_in _ (by omega)
      have hwk : IntKind.i64.wrap ((k : Int) + 1) = (k : Int) + 1 := IntWalk.i64_in _ (by omega)
      clear em0 em1
      go_wp2_with fail
      go_roundg (n - (k + 1))
      case measure => omega
      case rel => exact ⟨k + 1, by omega, by go_num, by rw [HS.out], rfl⟩
    · obtain rfl : n = k := by omega
      have HT : Hid (sumM q (l.take n) = sumM q l) := by unfold Hid; rw [List.take_of_length_le (by have := HE.out; omega)]
      rw [HT.out]
      clear hb
      go_wp2_with fail
      go_ret
      exact ⟨rfl, rfl⟩
end Go.Proofs.Ytegomgnlhcbmfaa
