/- The laws' comparisons of lists and proofs: walks (printed by gen_eqi.py). -/
import Derived.Test.YtboahnklilmdpaaDrTW
namespace Go.Proofs.Ytboahnklilmdpaa
open Go.RowKit
set_option linter.unusedSimpArgs false
set_option linter.unusedVariables false
set_option maxRecDepth 100000 in
set_option maxHeartbeats 1000000 in
theorem laws_qInts (v1 v2 : Value) (l : List Int) (w : World) (h1 : Ints w v1 l) (h2 : Ints w v2 l) :
    Calls Try.prog 66 #[v1, v2] w fun e w' => e = .returned (.bool true) ∧ Below w.heap.size w w' := by
  obtain ⟨a1, n, c1, rfl⟩ := h1.shape
  obtain ⟨a2, n2, c2, rfl⟩ := h2.shape
  have e1 := h1.len
  have e2 := h2.len
  obtain ⟨k1, k2⟩ := h1.capMax
  unfold maxLen at k2
  obtain rfl : n = n2 := by omega
  have HE := Lib.hid e1
  clear e1 e2
  have H1 := Lib.hid h1
  have H2 := Lib.hid h2
  clear h1 h2
  have hnn : ((n : Int) == (n : Int)) = true := by simp
  go_enter Try.func66, Try.ntmps66
  go_wp2_with fail
  go_loopg [13] n (fun gh iv wr => ∃ k : Nat, k + gh = n ∧ iv = .int .i64 k ∧ Below w.heap.size w wr)
  case atStart => exact ⟨0, by omega, rfl, Below.refl _ _⟩
  case round =>
    obtain ⟨k, hkg, rfl, hb⟩ := hrel
    by_cases hlt : k < n
    · obtain ⟨b1, o1, rfl, hc1⟩ := H1.out.at_ (by omega)
      obtain ⟨b2, o2, rfl, hc2⟩ := H2.out.at_ (by omega)
      have y0 := box_at (hc1 k hlt) hb
      have y1 := box_at (hc2 k hlt) hb
      clear hc1 hc2
      generalize nth l k = x at y0 y1
      have hc : Below wr.heap.size wr wr := Below.refl _ _
      have HB := Lib.hid hb
      clear hb
      have b0 : (0 : Int) ≤ (k : Int) := by omega
      have bk1 : (k : Int) < (n : Int) := by omega
      have xa : (x == x) = true := by simp
      have hwk : IntKind.i64.wrap ((k : Int) + 1) = (k : Int) + 1 := IntWalk.i64_in _ (by omega)
      go_wp2_with fail
      try (go_wp2_with fail)
      refine wp_region_noPanic ?_
      refine wp_region_P (fun w' => w'.cell? ⟨b1, o1 + k, none⟩ = some (.int .i64 x) ∧ w'.cell? ⟨b2, o2 + k, none⟩ = some (.int .i64 x)) 11 [(0, []), (1, []), (2, [1, 0]), (3, [0]), (4, []), (5, []), (6, [1, 0]), (7, [0]), (8, [4, 0])] [] (by kernel_rfl) (by kernel_rfl) (by kernel_rfl) rfl (fun _ _ _ _ h => h) (fun w' h => ⟨box_at y0 h, box_at y1 h⟩) ?_
      simp only [pickP, pickN, List.getElem?_cons_zero, List.getElem?_cons_succ]
      iterate 9 (refine' chainP_read _ rfl rfl (fun w' hS' => ?_) ?_; rotate_left; · (simp only [lookP, allP, Act.put, List.getElem?_cons_zero, List.getElem?_cons_succ, List.setIfInBounds_toArray, List.set_cons_zero, List.set_cons_succ]; (try dsimp only at hS'); go_simp; (try with_reducible rfl)))
      refine chainP_nil (fun ua hS' => ?_)
      simp only [allP, Act.put, List.setIfInBounds_toArray, List.set_cons_zero, List.set_cons_succ]
      have hq1 := hS'.1
      clear hS'
      replace hc := Below.next hc hq1
      replace y0 := box_at y0 hq1
      replace y1 := box_at y1 hq1
      clear hq1
      clear y0 y1
      go_wp2_with fail
      refine NoPanic.normal ?_
      go_wp2_with fail
      go_roundg (n - (k + 1))
      case measure => omega
      case rel => exact ⟨k + 1, by omega, by go_num, HB.out.trans (hc.mono HB.out.size)⟩
    · obtain rfl : n = k := by omega
      have HB := Lib.hid hb
      clear hb
      go_wp2_with fail
      go_ret
      exact ⟨rfl, HB.out⟩
end Go.Proofs.Ytboahnklilmdpaa
