/- Walks: small functions on slices of integers (Go's slices.Clone, slices.Equal; spec.l1Own, spec.l3Digest). -/
import Derived.Test.YtapfceghgkmgoaaHash
import Derived.Test.YtapfceghgkmgoaaLawsI
import Derived.Lib.SliceRun
namespace Go.Proofs.Ytapfceghgkmgoaa
open Go.RowKit
set_option linter.unusedSimpArgs false
set_option linter.unusedVariables false

/-- 'l[k:]', 'l[:k]', 'l[j:k]': the new slice's address under a name of its own, as a fact that the walk takes -/
theorem sl_drop {w : World} {a : Option Addr} {n c : Nat} {l : List Int} (h : Ints w (.slice a n c) l) {x : Int} {k : Nat} (hx : x = k) (hk : k ≤ n) :
    ∃ a', (∀ W, (Instr.slice 37 (.slice a n c) (some (.int .i64 x)) none none).run Try.prog W = .ok (.slice a' (n - k) (c - k)) W) ∧ Ints w (.slice a' (n - k) (c - k)) (l.drop k) := by
  subst hx
  refine ⟨_, fun W => ?_, h.drop hk⟩
  simp [Try.underlying37, go_sem, hk, run_slice_l, run_underlying]
theorem sl_take {w : World} {a : Option Addr} {n c : Nat} {l : List Int} (h : Ints w (.slice a n c) l) {x : Int} {k : Nat} (hx : x = k) (hk : k ≤ n) :
    (∀ W, (Instr.slice 37 (.slice a n c) none (some (.int .i64 x)) none).run Try.prog W = .ok (.slice a k c) W) ∧ Ints w (.slice a k c) (l.take k) := by
  subst hx
  have hc := h.capMax.1
  refine ⟨fun W => ?_, h.take hk⟩
  have h2 : (k : Int) ≤ (c : Int) := by omega
  simp [Try.underlying37, go_sem, h2, run_slice_h, run_underlying]
theorem sl_mid {w : World} {a : Option Addr} {n c : Nat} {l : List Int} (h : Ints w (.slice a n c) l) {x y : Int} {j k : Nat} (hx : x = j) (hy : y = k) (hj : j ≤ k) (hk : k ≤ n) :
    ∃ a', (∀ W, (Instr.slice 37 (.slice a n c) (some (.int .i64 x)) (some (.int .i64 y)) none).run Try.prog W = .ok (.slice a' (k - j) (c - j)) W) ∧ Ints w (.slice a' (k - j) (c - j)) ((l.drop j).take (k - j)) := by
  subst hx; subst hy
  have hc := h.capMax.1
  refine ⟨_, fun W => ?_, (h.drop (k := j) (by omega)).take (by omega)⟩
  have h2 : (k : Int) ≤ (c : Int) := by omega
  simp [Try.underlying37, go_sem, h2, hj, run_slice_lh, run_underlying]
theorem spec_l3Digest (x : Int) (w : World) :
    Calls Try.prog 212 #[.int .i64 x] w fun e w' => e = .returned (.bool (digestB x)) ∧ w = w' := by
  go_enter Try.func212, Try.ntmps212
  go_wp2_with fail
  refine (spec_l1In _ _ _ _).mono ?_
  rintro e w1 ⟨rfl, rfl⟩
  rw [show decide (0 ≤ x ∧ x ≤ 4611686018427387903) = digestB x from rfl]
  go_wp2_with fail
  go_ret
  exact ⟨rfl, rfl⟩
theorem spec_l1Own (v : Value) (l : List Int) (w : World) (h : Ints w v l) (hl : l.length ≤ 1000000000) :
    Calls Try.prog 219 #[v] w fun e w' => ∃ v', e = .returned v' ∧ OwnI w' w.heap.size v' l ∧ Below w.heap.size w w' := by
  have hO : Hid (OwnI (w.alloc (.cells #[] 3)) w.heap.size (.slice (some ⟨w.heap.size, 0, none⟩) 0 0) []) := OwnI.lit w (Nat.le_refl _) AllI64.nil rfl (by simp) 0 rfl
  obtain ⟨a, n, c, rfl⟩ := h.shape
  go_enter Try.func219, Try.ntmps219
  go_wp2_with (at_builtin; refine wpList_append_ints rfl _ _ rfl w.heap.size (.slice (some ⟨w.heap.size, 0, none⟩) 0 0) (.slice a n c) [] l rfl hO.out rfl (h.alloc _) (by simp; omega) (by simp) ?_; intro v' w1 hown1 hgr1)
  go_ret
  exact ⟨_, rfl, hown1, ((Below.refl _ _).alloc (Nat.le_refl _) _).trans (hO.out.grown hgr1 (by simp))⟩
theorem slices_Clone (v : Value) (l : List Int) (w : World) (h : Ints w v l) (hl : l.length ≤ 1000000000) :
    Calls Try.prog 150 #[v] w fun e w' => ∃ v', e = .returned v' ∧ OwnI w' w.heap.size v' l ∧ Below w.heap.size w w' := by
  have hO : Hid (OwnI (w.alloc (.cells #[] 3)) w.heap.size (.slice (some ⟨w.heap.size, 0, none⟩) 0 0) []) := OwnI.lit w (Nat.le_refl _) AllI64.nil rfl (by simp) 0 rfl
  have qT : ∀ (w : World) (a : Option Addr) (n c n' c' : Nat), (binOp .eql 37 (.slice a n c) (.slice none n' c')).run Try.prog w = .ok (.bool a.isNone) w := fun w a n c n' c' => Lib.run_eql_slice_nil w _ _ a n c n' c' Try.underlying37
  obtain ⟨a, n, c, rfl⟩ := h.shape
  have e := h.len
  cases a with
  | none =>
    obtain rfl : n = 0 := by
      by_cases hn : n = 0
      · exact hn
      · obtain ⟨b, o, hc, _⟩ := h.at_ (by omega)
        cases hc
    have : l = [] := List.eq_nil_of_length_eq_zero e
    subst this
    clear e h
    go_enter Try.func150, Try.ntmps150
    go_wp2_with fail
    go_ret
    exact ⟨_, rfl, OwnI.nil _ _, Below.refl _ _⟩
  | some ad =>
    go_enter Try.func150, Try.ntmps150
    go_wp2_with (at_builtin; refine wpList_append_ints rfl _ _ rfl w.heap.size (.slice (some ⟨w.heap.size, 0, none⟩) 0 0) (.slice (some ad) n c) [] l rfl hO.out rfl (h.alloc _) (by simp; omega) (by simp) ?_; intro v' w1 hown1 hgr1)
    go_ret
    exact ⟨_, rfl, hown1, ((Below.refl _ _).alloc (Nat.le_refl _) _).trans (hO.out.grown hgr1 (by simp))⟩
set_option maxHeartbeats 400000 in
theorem slices_Equal (v1 v2 : Value) (l1 l2 : List Int) (w : World) (h1 : Ints w v1 l1) (h2 : Ints w v2 l2) :
    Calls Try.prog 116 #[v1, v2] w fun e w' => e = .returned (.bool (decide (l1 = l2))) ∧ ∃ m, w' = w.drewN m := by
  obtain ⟨a1, n1, c1, rfl⟩ := h1.shape
  obtain ⟨a2, n2, c2, rfl⟩ := h2.shape
  have k1 := h1.capMax
  have k2 := h2.capMax
  unfold maxLen at k1 k2
  obtain ⟨k1, k1'⟩ := k1
  obtain ⟨k2, k2'⟩ := k2
  by_cases hn : n1 = n2
  · subst hn
    go_enter Try.func116, Try.ntmps116
    go_wp2_with fail
    go_loopg [13] n1 (fun g i wr => ∃ k m : Nat, k + g = n1 ∧ i = .int .i64 k ∧ Hid (∀ i, i < k → nth l1 i = nth l2 i) ∧ wr = w.drewN m)
    case atStart => exact ⟨0, 0, by omega, rfl, fun i h => by omega, rfl⟩
    case round =>
      obtain ⟨k, m, hk, rfl, H, rfl⟩ := hrel
      by_cases hlt : k < n1
      · obtain ⟨b1, o1, rfl, hc1⟩ := h1.at_ (by omega)
        obtain ⟨b2, o2, rfl, hc2⟩ := h2.at_ (by omega)
        have hx1 := hc1 k hlt
        have hx2 := hc2 k hlt
        clear hc1 hc2
        have hk1 : (k : Int) < (n1 : Int) := by omega
        have hk0 : (0 : Int) ≤ (k : Int) := by omega
        by_cases hx : nth l1 k = nth l2 k
        · have H' : Hid (∀ i, i < k + 1 → nth l1 i = nth l2 i) := fun i hi => by
            rcases Nat.lt_succ_iff_lt_or_eq.1 hi with h | rfl
            · exact H.out i h
            · exact hx
          have hxb : (nth l1 k != nth l2 k) = false := by simpa using hx
          clear hx H
          go_wp2_with fail
          go_quiet (fail)
          go_wp2_with fail
          go_roundg (n1 - (k + 1))
          case measure => omega
          case rel => exact ⟨k + 1, m + nq, by omega, by go_num, H', (by first | rfl | exact World.drewN_drewN _ _ _)⟩
        · have hxb : (nth l1 k != nth l2 k) = true := by simpa using hx
          have HR : Hid (decide (l1 = l2) = false) := by
            refine decide_eq_false fun e => hx (by rw [e])
          clear hx H
          go_wp2_with fail
          go_quiet (fail)
          go_wp2_with fail
          go_ret
          exact ⟨ret_bool (by first | (rw [HR.out]; done) | (rw [HR.out]; rfl) | exact HR.out.symm), m + nq, (by first | rfl | exact World.drewN_drewN _ _ _)⟩
      · have e1 := h1.len
        have e2 := h2.len
        have HR : Hid (decide (l1 = l2) = true) := decide_eq_true (eq_of_nth (e1.trans e2.symm) fun i hi => H.out i (by omega))
        clear e1 e2 H
        go_wp2_with fail
        go_ret
        exact ⟨ret_bool (by first | (rw [HR.out]; done) | (rw [HR.out]; rfl) | exact HR.out.symm), m, rfl⟩
  · have HR : Hid (decide (l1 = l2) = false) := by
      refine decide_eq_false fun e => hn ?_
      rw [← h1.len, ← h2.len, e]
    have hb : ((n1 : Int) != (n2 : Int)) = true := by rw [bne_iff_ne]; omega
    clear hn
    go_enter Try.func116, Try.ntmps116
    go_wp2_with fail
    go_ret
    exact ⟨ret_bool (by first | (rw [HR.out]; done) | (rw [HR.out]; rfl) | exact HR.out.symm), 0, rfl⟩
set_option maxHeartbeats 400000 in
theorem spec_l1Same (v1 v2 : Value) (l1 l2 : List Int) (w : World) (h1 : Ints w v1 l1) (h2 : Ints w v2 l2) :
    Calls Try.prog 163 #[v1, v2] w fun e w' => e = .returned (.bool (decide (l1 = l2))) ∧ ∃ m, w' = w.drewN m := by
  obtain ⟨a1, n1, c1, rfl⟩ := h1.shape
  obtain ⟨a2, n2, c2, rfl⟩ := h2.shape
  have k1 := h1.capMax
  have k2 := h2.capMax
  unfold maxLen at k1 k2
  obtain ⟨k1, k1'⟩ := k1
  obtain ⟨k2, k2'⟩ := k2
  by_cases hn : n1 = n2
  · subst hn
    go_enter Try.func163, Try.ntmps163
    go_wp2_with fail
    go_loopg [13] n1 (fun g i wr => ∃ k m : Nat, k + g = n1 ∧ i = .int .i64 k ∧ Hid (∀ i, i < k → nth l1 i = nth l2 i) ∧ wr = w.drewN m)
    case atStart => exact ⟨0, 0, by omega, rfl, fun i h => by omega, rfl⟩
    case round =>
      obtain ⟨k, m, hk, rfl, H, rfl⟩ := hrel
      by_cases hlt : k < n1
      · obtain ⟨b1, o1, rfl, hc1⟩ := h1.at_ (by omega)
        obtain ⟨b2, o2, rfl, hc2⟩ := h2.at_ (by omega)
        have hx1 := hc1 k hlt
        have hx2 := hc2 k hlt
        clear hc1 hc2
        have hk1 : (k : Int) < (n1 : Int) := by omega
        have hk0 : (0 : Int) ≤ (k : Int) := by omega
        by_cases hx : nth l1 k = nth l2 k
        · have H' : Hid (∀ i, i < k + 1 → nth l1 i = nth l2 i) := fun i hi => by
            rcases Nat.lt_succ_iff_lt_or_eq.1 hi with h | rfl
            · exact H.out i h
            · exact hx
          have hxb : (nth l1 k != nth l2 k) = false := by simpa using hx
          clear hx H
          go_wp2_with fail
          go_quiet (fail)
          go_wp2_with fail
          go_roundg (n1 - (k + 1))
          case measure => omega
          case rel => exact ⟨k + 1, m + nq, by omega, by go_num, H', (by first | rfl | exact World.drewN_drewN _ _ _)⟩
        · have hxb : (nth l1 k != nth l2 k) = true := by simpa using hx
          have HR : Hid (decide (l1 = l2) = false) := by
            refine decide_eq_false fun e => hx (by rw [e])
          clear hx H
          go_wp2_with fail
          go_quiet (fail)
          go_wp2_with fail
          go_ret
          exact ⟨ret_bool (by first | (rw [HR.out]; done) | (rw [HR.out]; rfl) | exact HR.out.symm), m + nq, (by first | rfl | exact World.drewN_drewN _ _ _)⟩
      · have e1 := h1.len
        have e2 := h2.len
        have HR : Hid (decide (l1 = l2) = true) := decide_eq_true (eq_of_nth (e1.trans e2.symm) fun i hi => H.out i (by omega))
        clear e1 e2 H
        go_wp2_with fail
        go_ret
        exact ⟨ret_bool (by first | (rw [HR.out]; done) | (rw [HR.out]; rfl) | exact HR.out.symm), m, rfl⟩
  · have HR : Hid (decide (l1 = l2) = false) := by
      refine decide_eq_false fun e => hn ?_
      rw [← h1.len, ← h2.len, e]
    have hb : ((n1 : Int) != (n2 : Int)) = true := by rw [bne_iff_ne]; omega
    clear hn
    go_enter Try.func163, Try.ntmps163
    go_wp2_with fail
    go_ret
    exact ⟨ret_bool (by first | (rw [HR.out]; done) | (rw [HR.out]; rfl) | exact HR.out.symm), 0, rfl⟩
end Go.Proofs.Ytapfceghgkmgoaa
