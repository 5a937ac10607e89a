/- Walks: plain heads (impl.isPlainHead, spec.oHead), CompareHeads. -/
import Derived.Test.YtodennbdfloccaaGreatBk
import Derived.Test.YtodennbdfloccaaGreatBm
import Derived.Test.YtodennbdfloccaaGreatBa
namespace Go.Proofs.YtodennbdfloccaaGreat
open Go.RowKit
set_option linter.unusedSimpArgs false
set_option linter.unusedVariables false

def headI (a s r : Int) : Bool := decide (0 ≤ a ∧ a ≤ 39) && (decide (0 ≤ s ∧ s ≤ 64) && digestB r)
def headB (d : HeadD) : Bool := headI d.author d.size d.root
theorem headB_yes {d : HeadD} (h : headB d = true) : (0 ≤ d.author ∧ d.author ≤ 39) ∧ (0 ≤ d.size ∧ d.size ≤ 64) ∧ digestB d.root = true := by
  unfold headB headI at h; simpa using h
theorem impl_isPlainHead (a s r : Int) (w : World) :
    Calls Tryz.prog 114 #[.int .i64 a, .int .i64 s, .int .i64 r] w fun e w' => e = .returned (.bool (headI a s r)) ∧ w = w' := by
  obtain ⟨q1, h1⟩ : ∃ q, decide (0 ≤ a ∧ a ≤ 39) = q := ⟨_, rfl⟩
  obtain ⟨q2, h2⟩ : ∃ q, decide (0 ≤ s ∧ s ≤ 64) = q := ⟨_, rfl⟩
  obtain ⟨q3, h3⟩ : ∃ q, digestB r = q := ⟨_, rfl⟩
  have HR : Hid (headI a s r = (q1 && (q2 && q3))) := by unfold Hid headI; rw [h1, h2, h3]
  have H1 := Lib.hid h1; have H2 := Lib.hid h2; have H3 := Lib.hid h3
  clear h1 h2 h3
  cases q1 <;> cases q2
  all_goals
    go_enter Tryz.func114, Tryz.ntmps114
    go_wp2_with (first
      | (go_at_call 66; refine (impl_within _ _ _ _).mono ?_; rintro e w1 ⟨rfl, rfl⟩; first | rw [H1.out] | rw [H2.out])
      | (go_at_call 144; refine (impl_isDigest _ _).mono ?_; rintro e w1 ⟨rfl, rfl⟩; rw [H3.out])
      | fail)
    go_ret
    exact ⟨ret_bool (by rw [HR.out]; rfl), rfl⟩
theorem impl_isPlain (v : Value) (d : HeadD) (w : World) (h : (kS rHead).rd w v d) :
    Calls Tryz.prog 86 #[v] w fun e w' => e = .returned (.bool (headB d)) ∧ Below w.heap.size w w' := by
  obtain ⟨a3, n3, c3, a4, n4, c4, a5, n5, c5, rfl, _⟩ := rdHead.1 h
  clear h
  go_enter Tryz.func86, Tryz.ntmps86
  go_wp2_with (first
    | (go_at_call 114; refine (impl_isPlainHead _ _ _ _).mono ?_; rintro e w1 ⟨rfl, rfl⟩)
    | fail)
  go_ret
  exact ⟨rfl, by (repeat (first | exact Below.refl _ _ | assumption | refine Below.drew ?_ | refine Below.alloc ?_ (by first | (simp; done) | (simp; omega)) _ | refine Below.setCell ?_ (by first | (simp; done) | (simp; omega)) _))⟩
theorem spec_oHead (v : Value) (d : HeadD) (w : World) (h : (kS rHead).rd w v d) :
    Calls Tryz.prog 83 #[v] w fun e w' => e = .returned (.bool (headB d)) ∧ Below w.heap.size w w' := by
  obtain ⟨a3, n3, c3, a4, n4, c4, a5, n5, c5, rfl, _⟩ := rdHead.1 h
  clear h
  obtain ⟨q1, h1⟩ : ∃ q, decide (0 ≤ d.author ∧ d.author ≤ 39) = q := ⟨_, rfl⟩
  obtain ⟨q2, h2⟩ : ∃ q, decide (0 ≤ d.size ∧ d.size ≤ 64) = q := ⟨_, rfl⟩
  obtain ⟨q3, h3⟩ : ∃ q, digestB d.root = q := ⟨_, rfl⟩
  have HR : Hid (headB d = (q1 && (q2 && q3))) := by unfold Hid headB headI; rw [h1, h2, h3]
  have H1 := Lib.hid h1; have H2 := Lib.hid h2; have H3 := Lib.hid h3
  clear h1 h2 h3
  cases q1 <;> cases q2
  all_goals
    go_enter Tryz.func83, Tryz.ntmps83
    go_wp2_with (first
      | (go_at_call 61; refine (spec_l1In _ _ _ _).mono ?_; rintro e w1 ⟨rfl, rfl⟩; first | rw [H1.out] | rw [H2.out])
      | (go_at_call 123; refine (spec_l3Digest _ _).mono ?_; rintro e w1 ⟨rfl, rfl⟩; rw [H3.out])
      | fail)
    go_ret
    exact ⟨ret_bool (by rw [HR.out]; rfl), by (repeat (first | exact Below.refl _ _ | assumption | refine Below.drew ?_ | refine Below.alloc ?_ (by first | (simp; done) | (simp; omega)) _ | refine Below.setCell ?_ (by first | (simp; done) | (simp; omega)) _))⟩
end Go.Proofs.YtodennbdfloccaaGreat
