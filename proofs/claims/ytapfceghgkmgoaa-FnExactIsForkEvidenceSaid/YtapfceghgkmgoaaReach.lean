/- Walks: ReachOf. -/
import Derived.Test.YtapfceghgkmgoaaReachP
import Derived.Test.YtapfceghgkmgoaaKinds
import Derived.Deep.QuietTactic
import Derived.BigQuiet
namespace Go.Proofs.Ytapfceghgkmgoaa
open Go.RowKit
set_option linter.unusedSimpArgs false
set_option linter.unusedVariables false

def pairB (n : Int) (p : List Int) : Bool := decide (p.length = 2) && ((p.all fun x => decide (0 ≤ x ∧ x ≤ n - 1)) && !(nth p 0 == nth p 1))
def pairsB (n : Int) (ls : List (List Int)) : Bool := decide (ls.length ≤ 20) && ls.all (pairB n)
theorem all_take_succ {ls : List (List Int)} {p : List Int → Bool} {k : Nat} (h : k < ls.length) : (ls.take (k + 1)).all p = ((ls.take k).all p && p ls[k]) := by
  rw [List.take_succ_eq_append_getElem h, List.all_append]; simp
theorem all_false_of {ls : List (List Int)} {p : List Int → Bool} {k : Nat} (h : k < ls.length) (hp : p ls[k] = false) : ls.all p = false := by
  rw [List.all_eq_false]; exact ⟨_, List.getElem_mem h, by rw [hp]; simp⟩
set_option maxRecDepth 100000 in
set_option maxHeartbeats 2000000 in
theorem spec_fPairs (n : Int) (v : Value) (ls : List (List Int)) (w : World) (h : RdL kInts w v ls) (h0 : 1 ≤ n) (h1 : n ≤ 100) :
    Calls Try.prog 174 #[.int .i64 n, v] w fun e w' => e = .returned (.bool (pairsB n ls)) ∧ Below w.heap.size w w' := by
  obtain ⟨a, m, c, rfl⟩ := h.shape
  have e := h.len
  obtain ⟨k1, k2⟩ := h.capMax
  unfold maxLen at k2
  have HE := Lib.hid e; clear e
  have H := Lib.hid h; clear h
  have ew : IntKind.i64.wrap (n - 1) = n - 1 := IntWalk.i64_in _ (by omega)
  go_enter Try.func174, Try.ntmps174
  go_wp2_with fail
  go_loopg [9] m (fun g i wr => ∃ k : Nat, k + g = m ∧ i = .int .i64 k ∧ Hid ((ls.take k).all (pairB n) = true) ∧ Below w.heap.size w wr)
  case atStart => exact ⟨0, by omega, rfl, by unfold Hid; simp, Below.refl _ _⟩
  case round =>
    obtain ⟨k, hkg, rfl, hF, hb⟩ := hrel
    by_cases hlt : k < m
    · have HK : Hid (k < ls.length) := by unfold Hid; rw [HE.out]; exact hlt
      obtain ⟨b, o, rfl, us, hcx⟩ := H.out.at_ (by omega)
      obtain ⟨hy, hr⟩ := hcx k HK.out
      obtain ⟨p, hp⟩ : ∃ p, ls[k]'HK.out = p := ⟨_, rfl⟩
      have hr' : Ints w (us k) (ls[k]'HK.out) := hr
      rw [hp] at hr'
      obtain ⟨a2, n2, c2, hu⟩ := Ints.shape hr'
      rw [hu] at hy hr'
      have hn2 := Ints.len hr'
      have hcm := Ints.capMax hr'
      unfold maxLen at hcm
      obtain ⟨q1, q2⟩ := hcm
      have HR := Lib.hid (Ints.below hr' hb)
      rw [← hb.cell (p := ⟨b, o + k, none⟩) (World.block_lt_of_cell? w _ hy)] at hy
      have HN2 := Lib.hid hn2; clear hn2 hr hr' hcx
      have HS := Lib.hid (all_take_succ (p := pairB n) HK.out)
      have HPK := Lib.hid hp; clear hp
      by_cases hl2 : n2 = 2
      · subst hl2
        obtain ⟨b2, o2, rfl, hcy⟩ := HR.out.at_ (by omega)
        have y0 := hcy 0 (by omega)
        have y1 := hcy 1 (by omega)
        rw [Nat.add_zero] at y0
        clear hcy
        cases hal : (p.all fun x => decide (0 ≤ x ∧ x ≤ n - 1)) with
        | false =>
          have HX := Lib.hid hal
          have HF2 : Hid (pairsB n ls = false) := by
            unfold Hid pairsB; rw [all_false_of HK.out (by rw [HPK.out]; unfold pairB; rw [hal]; simp), Bool.and_false]
          clear hal
          go_wp2_with fail
          go_quiet (first | (go_at_call 211; refine Calls.quiet_of_same (((spec_l1All _ p 0 (n - 1) _ (HR.out.below (below_drewN (Below.refl _ _) _))).mono fun e w1 h => ⟨by rw [h.1, HX.out], h.2.symm⟩))) | fail)
          go_wp2_with fail
          go_ret
          exact ⟨ret_bool (by first | (rw [HF2.out]; done) | (rw [HF2.out]; rfl) | exact HF2.out.symm), below_drewN hb _⟩
        | true =>
          have HX := Lib.hid hal
          cases hq : (nth p 0 == nth p 1) with
          | true =>
            have HF2 : Hid (pairsB n ls = false) := by
              unfold Hid pairsB; rw [all_false_of HK.out (by rw [HPK.out]; unfold pairB; rw [hq]; simp), Bool.and_false]
            clear hal
            go_wp2_with fail
            go_quiet (first | (go_at_call 211; refine Calls.quiet_of_same (((spec_l1All _ p 0 (n - 1) _ (HR.out.below (below_drewN (Below.refl _ _) _))).mono fun e w1 h => ⟨by rw [h.1, HX.out], h.2.symm⟩))) | fail)
            go_wp2_with fail
            go_ret
            exact ⟨ret_bool (by first | (rw [HF2.out]; done) | (rw [HF2.out]; rfl) | exact HF2.out.symm), below_drewN hb _⟩
          | false =>
            have HG : Hid ((ls.take (k + 1)).all (pairB n) = true) := by
              have e2 := HN2.out
              unfold Hid; rw [HS.out, hF.out, HPK.out]; unfold pairB; rw [hal, hq, decide_eq_true e2]; rfl
            clear hal
            go_wp2_with fail
            go_quiet (first | (go_at_call 211; refine Calls.quiet_of_same (((spec_l1All _ p 0 (n - 1) _ (HR.out.below (below_drewN (Below.refl _ _) _))).mono fun e w1 h => ⟨by rw [h.1, HX.out], h.2.symm⟩))) | fail)
            go_wp2_with fail
            go_roundg (m - (k + 1))
            case measure => omega
            case rel => exact ⟨k + 1, by omega, by go_num, HG.out, below_drewN hb _⟩
      · have HF2 : Hid (pairsB n ls = false) := by
          have e2 := HN2.out
          unfold Hid pairsB; rw [all_false_of HK.out (by rw [HPK.out]; unfold pairB; rw [decide_eq_false (by omega)]; rfl), Bool.and_false]
        have z1 : ((n2 : Int) == 2) = false := by rw [beq_eq_false_iff_ne]; omega
        have z2 : ¬ ((n2 : Int) = 2) := by omega
        have z3 : decide ((n2 : Int) = 2) = false := decide_eq_false z2
        go_wp2_with fail
        go_quiet (fail)
        go_wp2_with fail
        go_ret
        exact ⟨ret_bool (by first | (rw [HF2.out]; done) | (rw [HF2.out]; rfl) | exact HF2.out.symm), below_drewN hb _⟩
    · obtain rfl : m = k := by omega
      have HG : Hid (pairsB n ls = decide ((m : Int) ≤ 20)) := by
        have := hF.out
        rw [List.take_of_length_le (by rw [HE.out]; exact Nat.le_refl _)] at this
        unfold Hid pairsB; rw [this, HE.out, Bool.and_true, decide_eq_decide]; omega
      go_wp2_with fail
      go_ret
      exact ⟨ret_bool (by first | (rw [HG.out]; done) | (rw [HG.out]; rfl) | exact HG.out.symm), hb⟩
/-- a function value that decides p on lists, in every world that has grown from w -/
structure DecidesR (w : World) (g : FuncId) (caps : Array Value) (p : List Int → Bool) : Prop where
  enters : ∀ args wr, (callFunc g args).run Try.prog wr = .ok (.enter g args) wr
  runs : ∀ v l wr, Ints wr v l → Below w.heap.size w wr → Calls Try.prog g (#[v] ++ caps) wr fun e w' => e = .returned (.bool (p l)) ∧ Below wr.heap.size wr w'
theorem DecidesR.below {w w' : World} {g : FuncId} {caps : Array Value} {p : List Int → Bool} (h : DecidesR w g caps p) (hb : Below w.heap.size w w') : DecidesR w' g caps p :=
  ⟨h.enters, fun v l wr hx hr => h.runs v l wr hx (hb.trans (hr.mono hb.size))⟩
set_option maxHeartbeats 400000 in
theorem slices_IndexFuncR (v : Value) (ls : List (List Int)) (g : FuncId) (caps : Array Value) (p : List Int → Bool) (w : World) (h : RdL kInts w v ls) (hp : DecidesR w g caps p) :
    Calls Try.prog 241 #[v, .func (.func g) #[] caps] w fun e w' => (∃ r : Int, e = .returned (.int .i64 r) ∧ decide (0 ≤ r) = ls.any p) ∧ Below w.heap.size w w' := by
  obtain ⟨a, n, c, rfl⟩ := h.shape
  have e := h.len
  obtain ⟨k1, k2⟩ := h.capMax
  unfold maxLen at k2
  have HE := Lib.hid e; clear e
  have hent := hp.enters
  have HP := Lib.hid hp; clear hp
  have H := Lib.hid h; clear h
  go_enter Try.func241, Try.ntmps241
  go_wp2
  go_loopg [8] n (fun g i wr => ∃ k : Nat, k + g = n ∧ i = .int .i64 k ∧ Hid ((ls.take k).any p = false) ∧ Below w.heap.size w wr)
  case atStart => exact ⟨0, by omega, rfl, by unfold Hid; simp, Below.refl _ _⟩
  case round =>
    obtain ⟨k, hkg, rfl, HF, hb⟩ := hrel
    by_cases hlt : k < n
    · have HK : Hid (k < ls.length) := by unfold Hid; rw [HE.out]; exact hlt
      obtain ⟨b, o, rfl, us, hcx⟩ := H.out.at_ (by omega)
      obtain ⟨hy, hr⟩ := hcx k HK.out
      have HR := Lib.hid (Ints.below hr hb); clear hr hcx
      rw [← hb.cell (p := ⟨b, o + k, none⟩) (World.block_lt_of_cell? w _ hy)] at hy
      have HS : Hid ((ls.take (k + 1)).any p = ((ls.take k).any p || p (ls[k]'HK.out))) := by unfold Hid; rw [List.take_succ_eq_append_getElem HK.out, List.any_append]; simp
      cases hpx : p (ls[k]'HK.out) with
      | true =>
        have HA : Hid (decide (0 ≤ (k : Int)) = ls.any p) := by
          unfold Hid; rw [decide_eq_true (by omega), eq_comm, List.any_eq_true]; exact ⟨_, List.getElem_mem HK.out, hpx⟩
        have HX := Lib.hid hpx
        clear hpx
        go_wp2_with fail
        refine (HP.out.runs _ _ _ HR.out hb).mono ?_
        rintro e w1 ⟨rfl, hb1⟩
        rw [HX.out]
        go_wp2_with fail
        go_ret
        exact ⟨⟨_, rfl, HA.out⟩, hb.trans (hb1.mono hb.size)⟩
      | false =>
        have HX := Lib.hid hpx
        clear hpx
        go_wp2_with fail
        refine (HP.out.runs _ _ _ HR.out hb).mono ?_
        rintro e w1 ⟨rfl, hb1⟩
        rw [HX.out]
        go_wp2_with fail
        go_roundg (n - (k + 1))
        case measure => omega
        case rel => exact ⟨k + 1, by omega, by go_num, by unfold Hid; rw [HS.out, HF.out, HX.out]; rfl, hb.trans (hb1.mono hb.size)⟩
    · obtain rfl : n = k := by omega
      have HA : Hid (decide (0 ≤ (-1 : Int)) = ls.any p) := by
        have := HF.out
        rw [List.take_of_length_le (by rw [HE.out]; exact Nat.le_refl _)] at this
        unfold Hid; rw [this]; rfl
      go_wp2_with fail
      go_ret
      exact ⟨⟨_, rfl, HA.out⟩, hb⟩
theorem slices_ContainsFuncR (v : Value) (ls : List (List Int)) (g : FuncId) (caps : Array Value) (p : List Int → Bool) (w : World) (h : RdL kInts w v ls) (hp : DecidesR w g caps p) :
    Calls Try.prog 180 #[v, .func (.func g) #[] caps] w fun e w' => e = .returned (.bool (ls.any p)) ∧ Below w.heap.size w w' := by
  have HP := Lib.hid hp; clear hp
  have H := Lib.hid h; clear h
  go_enter Try.func180, Try.ntmps180
  go_wp2_with fail
  refine (slices_IndexFuncR v ls g caps p _ H.out HP.out).mono ?_
  rintro e w1 ⟨⟨r, rfl, hr⟩, hb⟩
  have HR := Lib.hid hr; clear hr
  go_wp2_with fail
  go_ret
  exact ⟨ret_bool (by first | (rw [HR.out]; done) | (rw [HR.out]; rfl) | exact HR.out.symm), hb⟩
theorem impl_areBelow1 (x n : Int) (a : Addr) (w : World) (hx : I64 x) (h0 : 1 ≤ n) (h1 : n ≤ 100) (hc : w.cell? a = some (.int .i64 n)) :
    Calls Try.prog 243 #[.int .i64 x, .pointer (some a)] w fun e w' => e = .returned (.bool (decide (0 ≤ x ∧ x ≤ n - 1))) ∧ Below w.heap.size w w' := by
  have ew : IntKind.i64.wrap (n - 1) = n - 1 := IntWalk.i64_in _ (by omega)
  obtain ⟨q, hq⟩ : ∃ q, decide (0 ≤ x ∧ x ≤ n - 1) = q := ⟨_, rfl⟩
  have HQ := Lib.hid hq
  rw [hq]; clear hq
  go_enter Try.func243, Try.ntmps243
  go_wp2_with fail
  refine (impl_within _ _ _ _).mono ?_; rintro e w1 ⟨rfl, rfl⟩
  rw [HQ.out]
  go_wp2_with fail
  go_ret
  exact ⟨rfl, Below.refl _ _⟩
set_option maxHeartbeats 400000 in
theorem impl_areBelow (v : Value) (l : List Int) (n : Int) (w : World) (h : Ints w v l) (h0 : 1 ≤ n) (h1 : n ≤ 100) :
    Calls Try.prog 182 #[v, .int .i64 n] w fun e w' => e = .returned (.bool (l.all fun x => decide (0 ≤ x ∧ x ≤ n - 1))) ∧ Below w.heap.size w w' := by
  have H := Lib.hid h; clear h
  have HD : Hid (Decides (w.alloc (.cells #[.int .i64 n] 3)) 243 #[.pointer (some ⟨w.heap.size, 0, none⟩)] (fun x => decide (0 ≤ x ∧ x ≤ n - 1))) := by
    refine ⟨Try.call243, fun x wr hx hb => impl_areBelow1 x n ⟨w.heap.size, 0, none⟩ wr hx h0 h1 ?_⟩
    rw [hb.cell (p := ⟨w.heap.size, 0, none⟩) (by simp)]
    simp [go_sem]
  obtain ⟨q, hq⟩ : ∃ q, (l.all fun x => decide (0 ≤ x ∧ x ≤ n - 1)) = q := ⟨_, rfl⟩
  have HQ := Lib.hid hq
  rw [hq]; clear hq
  go_enter Try.func182, Try.ntmps182
  go_wp2_with fail
  refine (impl_areAll v l 243 _ (fun x => decide (0 ≤ x ∧ x ≤ n - 1)) _ (H.out.alloc _) HD.out).mono ?_
  rintro e w1 ⟨rfl, hb⟩
  rw [HQ.out]
  go_wp2_with fail
  go_ret
  exact ⟨rfl, (by (repeat (first | exact Below.refl _ _ | assumption | refine Below.drew ?_ | refine Below.alloc ?_ (by first | (simp; done) | (simp; omega)) _ | refine Below.setCell ?_ (by first | (simp; done) | (simp; omega)) _)) : Below w.heap.size w (w.alloc _)).trans (hb.mono (by simp))⟩
end Go.Proofs.Ytapfceghgkmgoaa
