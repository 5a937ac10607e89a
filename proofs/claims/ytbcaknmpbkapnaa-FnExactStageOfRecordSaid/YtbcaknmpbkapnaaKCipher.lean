/- The struct Cipher as a kind (printed by genkind.py): its data, its row, the walks of the laws' helpers. -/
import Derived.Test.YtbcaknmpbkapnaaBa
namespace Go.Proofs.Ytbcaknmpbkapnaa
open Go.RowKit
set_option linter.unusedSimpArgs false
set_option linter.unusedVariables false

structure CipherD where
  a : Int
  b : Int
deriving DecidableEq
abbrev rCipher : RowK CipherD := rMap (rI (rI rNil)) (fun d => (d.a, (d.b, ())))
theorem CipherD.ext_iff' {a b : CipherD} : a = b ↔ a.a = b.a ∧ a.b = b.b := by
  cases a; cases b; simp
/-- what it counts for in the laws' bound; the marks that it holds -/
def szCipher (d : CipherD) : Nat := 0
def cnCipher (d : CipherD) : Nat := 0
theorem cnCipher_le (d : CipherD) : cnCipher d ≤ 4 * szCipher d := by
  unfold cnCipher szCipher;  omega
theorem rdCipher {w : World} {v : Value} {d : CipherD} : (kS rCipher).rd w v d ↔ v = .agg #[.int .i64 d.a, .int .i64 d.b] ∧ I64 d.a ∧ I64 d.b := by
  constructor
  · rintro ⟨_, rfl, ⟨_, rfl, i1, ⟨_, rfl, i2, rfl⟩⟩⟩
    exact ⟨rfl, i1, i2⟩
  · rintro ⟨rfl, g0, g1⟩
    exact ⟨_, rfl, ⟨_, rfl, g0, ⟨_, rfl, g1, rfl⟩⟩⟩
set_option maxHeartbeats 2000000 in
theorem laws_eqCipher (v1 v2 : Value) (d1 d2 : CipherD) (w : World) (h1 : (kS rCipher).rd w v1 d1) (h2 : (kS rCipher).rd w v2 d2) :
    Calls Try.prog 53 #[v1, v2] w fun e w' => e = .returned (.bool (decide (d1 = d2))) ∧ Below w.heap.size w w' := by
  obtain ⟨rfl, j0x, j1x⟩ := rdCipher.1 h1
  clear j0x j1x
  obtain ⟨rfl, j0y, j1y⟩ := rdCipher.1 h2
  clear j0y j1y
  clear h1 h2
  obtain ⟨W, hW⟩ : ∃ W, W = (w.alloc (.cells #[.int .i64 d1.a, .int .i64 d1.b] 75)).alloc (.cells #[.int .i64 d2.a, .int .i64 d2.b] 75) := ⟨_, rfl⟩
  have hs1 : (w.alloc (.cells #[.int .i64 d1.a, .int .i64 d1.b] 75)).heap.size = w.heap.size + 1 := by simp
  have HB0 : Hid (Below w.heap.size w W) := by unfold Hid; rw [hW]; (repeat (first | exact Below.refl _ _ | assumption | refine Below.drew ?_ | refine Below.alloc ?_ (by first | (simp; done) | (simp; omega)) _ | refine Below.setCell ?_ (by first | (simp; done) | (simp; omega)) _))
  have BX : Hid (BoxN W w.heap.size 75 [.int .i64 d1.a, .int .i64 d1.b]) := by unfold Hid; rw [hW]; exact (BoxN.new w [.int .i64 d1.a, .int .i64 d1.b] _).alloc _
  have BY : Hid (BoxN W (w.heap.size + 1) 75 [.int .i64 d2.a, .int .i64 d2.b]) := by unfold Hid; rw [hW, ← hs1]; exact BoxN.new _ [.int .i64 d2.a, .int .i64 d2.b] _
  obtain ⟨q_a, hq_a⟩ : ∃ q, decide (d1.a = d2.a) = q := ⟨_, rfl⟩
  obtain ⟨q_b, hq_b⟩ : ∃ q, decide (d1.b = d2.b) = q := ⟨_, rfl⟩
  have HR : Hid (decide (d1 = d2) = (q_a && (q_b))) := by
    unfold Hid; rw [← hq_a, ← hq_b, Bool.eq_iff_iff]; simp only [Bool.and_eq_true, decide_eq_true_eq]; exact CipherD.ext_iff'
  have Q_a := Lib.hid hq_a; clear hq_a
  have Q_b := Lib.hid hq_b; clear hq_b
  clear hs1
  have HA0 : Hid (Below W.heap.size W W) := Below.refl _ _
  cases q_a with
  | false =>
    have hb_a : (d1.a != d2.a) = true := by rw [bne_iff_ne]; exact of_decide_eq_false Q_a.out
    go_enter Try.func53, Try.ntmps53
    go_wp2_with fail
    (try (go_quiet (fail); go_wp2_with fail))
    go_ret
    exact ⟨ret_bool (by rw [HR.out]; (try rfl)), by (repeat (first | exact Below.refl _ _ | assumption | refine Below.drew ?_ | refine Below.alloc ?_ (by first | (simp; done) | (simp; omega)) _ | refine Below.setCell ?_ (by first | (simp; done) | (simp; omega)) _))⟩
  | true =>
  have hb_a : (d1.a != d2.a) = false := by rw [bne_eq_false_iff_eq]; exact of_decide_eq_true Q_a.out
  cases q_b with
  | false =>
    have hb_b : (d1.b != d2.b) = true := by rw [bne_iff_ne]; exact of_decide_eq_false Q_b.out
    go_enter Try.func53, Try.ntmps53
    go_wp2_with fail
    (try (go_quiet (fail); go_wp2_with fail))
    go_ret
    exact ⟨ret_bool (by rw [HR.out]; (try rfl)), by (repeat (first | exact Below.refl _ _ | assumption | refine Below.drew ?_ | refine Below.alloc ?_ (by first | (simp; done) | (simp; omega)) _ | refine Below.setCell ?_ (by first | (simp; done) | (simp; omega)) _))⟩
  | true =>
  have hb_b : (d1.b != d2.b) = false := by rw [bne_eq_false_iff_eq]; exact of_decide_eq_true Q_b.out
  go_enter Try.func53, Try.ntmps53
  go_wp2_with fail
  (try (go_quiet (fail); go_wp2_with fail))
  go_ret
  exact ⟨ret_bool (by rw [HR.out]; (try rfl)), by (repeat (first | exact Below.refl _ _ | assumption | refine Below.drew ?_ | refine Below.alloc ?_ (by first | (simp; done) | (simp; omega)) _ | refine Below.setCell ?_ (by first | (simp; done) | (simp; omega)) _))⟩
/-- the struct with marks in its slices, from k0 on -/
def mkCipher (k0 : Nat) (d : CipherD) : CipherD := ⟨d.a, d.b⟩
end Go.Proofs.Ytbcaknmpbkapnaa
