/- Walks: pairs of readers (impl.arePairs). -/
import Derived.Test.YtapfceghgkmgoaaReach
namespace Go.Proofs.Ytapfceghgkmgoaa
open Go.RowKit
set_option linter.unusedSimpArgs false
set_option linter.unusedVariables false

set_option maxHeartbeats 2000000 in
theorem impl_arePairs1 (v : Value) (l : List Int) (n : Int) (g : Nat) (w : World) (h : Ints w v l) (h0 : 1 ≤ n) (h1 : n ≤ 100) (hc : w.cell? ⟨g, 0, none⟩ = some (.int .i64 n)) :
    Calls Try.prog 181 #[v, .pointer (some ⟨g, 0, none⟩)] w fun e w' => e = .returned (.bool (!pairB n l)) ∧ Below w.heap.size w w' := by
  obtain ⟨a, m, c, rfl⟩ := h.shape
  have e := h.len
  obtain ⟨k1, k2⟩ := h.capMax
  unfold maxLen at k2
  have H := Lib.hid h; clear h
  by_cases hl2 : m = 2
  · subst hl2
    obtain ⟨b, o, rfl, hcy⟩ := H.out.at_ (by omega)
    have y0 := fun u => grow_cell (hcy 0 (by omega)) u
    have y1 := fun u => grow_cell (hcy 1 (by omega)) u
    have gc := fun u => grow_cell hc u
    rw [Nat.add_zero] at y0
    clear hcy hc
    obtain ⟨q, hal⟩ : ∃ q, (l.all fun x => decide (0 ≤ x ∧ x ≤ n - 1)) = q := ⟨_, rfl⟩
    obtain ⟨r, hq⟩ : ∃ r, (nth l 0 == nth l 1) = r := ⟨_, rfl⟩
    have HR : Hid ((!pairB n l) = (!q || r)) := by unfold Hid pairB; rw [hal, hq, decide_eq_true e]; cases q <;> cases r <;> rfl
    have HX := Lib.hid hal; clear hal e
    cases q <;> cases r
    all_goals
      go_enter Try.func181, Try.ntmps181
      go_wp2_with fail
      (refine wp_region_grow (by kernel_rfl) (by kernel_rfl) ?_; (repeat (go_big_quiet_step ((first | (go_at_call 182; refine calls_grow (impl_areBelow _ l n _ (H.out.below (grow_below _ _)) h0 h1) (fun e w' h => ⟨by rw [h.1, HX.out], h.2⟩)) | fail)))); refine wpQuiet_nil ?_; intro _ hw'; obtain ⟨uq, hw''⟩ := hw'; subst hw''; have hbq := grow_below w uq; generalize grow w uq = wq at hbq ⊢)
      go_wp2_with fail
      go_ret
      exact ⟨ret_bool (by first | (rw [HR.out]; done) | (rw [HR.out]; rfl) | exact HR.out.symm), hbq⟩
  · have HR : Hid ((!pairB n l) = true) := by unfold Hid pairB; rw [decide_eq_false (by omega)]; rfl
    have z1 : ((m : Int) == 2) = false := by rw [beq_eq_false_iff_ne]; omega
    have z2 : ¬ ((m : Int) = 2) := by omega
    have z3 : decide ((m : Int) = 2) = false := decide_eq_false z2
    clear e
    go_enter Try.func181, Try.ntmps181
    go_wp2_with fail
    go_quiet (fail)
    go_wp2_with fail
    go_ret
    exact ⟨ret_bool (by first | (rw [HR.out]; done) | (rw [HR.out]; rfl) | exact HR.out.symm), below_drewN (Below.refl _ _) _⟩
theorem pairsB_any (n : Int) (ls : List (List Int)) : (ls.any fun l => !pairB n l) = !(ls.all (pairB n)) := by
  induction ls with
  | nil => rfl
  | cons a ls ih => simp only [List.any_cons, List.all_cons, ih, Bool.not_and]
set_option maxHeartbeats 400000 in
theorem impl_arePairs (v : Value) (ls : List (List Int)) (n : Int) (w : World) (h : RdL kInts w v ls) (h0 : 1 ≤ n) (h1 : n ≤ 100) :
    Calls Try.prog 85 #[v, .int .i64 n] w fun e w' => e = .returned (.bool (pairsB n ls)) ∧ Below w.heap.size w w' := by
  obtain ⟨a, m, c, rfl⟩ := h.shape
  have e := h.len
  have H := Lib.hid h; clear h
  have HBA : Hid (Below w.heap.size w (w.alloc (.cells #[.int .i64 n] 3))) := (Below.refl _ _).alloc (Nat.le_refl _) _
  have HD : Hid (DecidesR (w.alloc (.cells #[.int .i64 n] 3)) 181 #[.pointer (some ⟨w.heap.size, 0, none⟩)] (fun l => !pairB n l)) := by
    refine ⟨Try.call181, fun x l wr hx hb => impl_arePairs1 x l n w.heap.size wr hx h0 h1 ?_⟩
    rw [hb.cell (p := ⟨w.heap.size, 0, none⟩) (by simp)]
    simp [go_sem]
  by_cases hm : m ≤ 20
  · have HQ : Hid (pairsB n ls = !(ls.any fun l => !pairB n l)) := by unfold Hid pairsB; rw [pairsB_any, decide_eq_true (by omega)]; simp
    have hm' : (m : Int) ≤ 20 := by omega
    clear e
    go_enter Try.func85, Try.ntmps85
    go_wp2_with fail
    refine (slices_ContainsFuncR _ ls 181 _ (fun l => !pairB n l) _ (kRows.rd_below H.out HBA.out) HD.out).mono ?_
    rintro e w1 ⟨rfl, hb⟩
    obtain ⟨q, hq⟩ : ∃ q, (ls.any fun l => !pairB n l) = q := ⟨_, rfl⟩
    have HQ2 := Lib.hid hq
    rw [hq]; clear hq
    go_wp2_with fail
    go_ret
    exact ⟨ret_bool (by rw [HQ.out, HQ2.out]), HBA.out.trans (hb.mono (by simp))⟩
  · have HQ : Hid (pairsB n ls = false) := by unfold Hid pairsB; rw [decide_eq_false (by omega)]; rfl
    have hm' : ¬ (m : Int) ≤ 20 := by omega
    clear e
    go_enter Try.func85, Try.ntmps85
    go_wp2_with fail
    go_ret
    exact ⟨ret_bool (by first | (rw [HQ.out]; done) | (rw [HQ.out]; rfl) | exact HQ.out.symm), HBA.out⟩
end Go.Proofs.Ytapfceghgkmgoaa
