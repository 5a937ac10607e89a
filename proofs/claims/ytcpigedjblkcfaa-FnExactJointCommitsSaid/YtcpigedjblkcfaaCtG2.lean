/- The greatest code of a contest: the reference's marks, codes of lists. -/
import Derived.Test.YtcpigedjblkcfaaCtG
namespace Go.Proofs.Ytcpigedjblkcfaa
open Go.RowKit
set_option linter.unusedSimpArgs false
set_option linter.unusedVariables false

theorem zeros_own (w : World) (m : Nat) (h : m ≤ 1000000000) : OwnI (w.alloc (.cells (madeCells #[.int .i64 0] m) 3)) w.heap.size (.slice (some ⟨w.heap.size, 0, none⟩) m m) (List.replicate m 0) := by
  refine OwnI.lit w (Nat.le_refl _) ?_ ?_ ?_ m ?_
  · intro x hx; rw [List.eq_of_mem_replicate hx]; exact ⟨by decide, by decide⟩
  · rw [← Array.toList_inj, toList_madeCells_one]; simp
  · simp; unfold maxLen; omega
  · simp
set_option maxHeartbeats 1000000 in
theorem spec_vMarks (k : Int) (o : Nat) (l m p : Int) (v : Value) (L : List Int) (w : World) (ho : o ≤ 8) (h : Ints w v L) (hL : ∀ x ∈ L, 0 ≤ x ∧ x < o) :
    Calls Try.prog 268 #[.agg #[.int .i64 k, .int .i64 o, .int .i64 l, .int .i64 m, .int .i64 p], v] w fun e w' => ∃ v', e = .returned v' ∧ OwnI w' w.heap.size v' (markL o L) ∧ Below w.heap.size w w' := by
  obtain ⟨a, n, c, rfl⟩ := h.shape
  have HE : Hid (L.length = n) := h.len
  obtain ⟨k1, k2⟩ := h.capMax
  unfold maxLen at k2
  have hmk := fun u => run_make_row' (P := Try.prog) 38 3 (.int .i64 0) 8 Try.underlying38 info_int rfl .i64 .i64 o (by omega) (by omega) u
  have HL := Lib.hid hL; clear hL
  obtain ⟨W, hW⟩ : ∃ W, W = w.alloc (.cells #[.int .i64 k, .int .i64 o, .int .i64 l, .int .i64 m, .int .i64 p] 31) := ⟨_, rfl⟩
  have hsW : W.heap.size = w.heap.size + 1 := by rw [hW]; simp
  have HWB : Hid (Below w.heap.size w W) := by unfold Hid; rw [hW]; exact (Below.refl _ _).alloc (Nat.le_refl _) _
  have c1 : W.cell? ⟨w.heap.size, 1, none⟩ = some (.int .i64 o) := by rw [hW]; simp [go_sem]
  have H : Hid (Ints W (.slice a n c) L) := h.below HWB.out; clear h
  have H0 := Lib.hid (zeros_own W o (by omega))
  go_enter Try.func268, Try.ntmps268
  go_wp2
  rw [← hW]
  clear hW
  go_wp2
  rw [← hsW] at *
  go_loopg [13] n (fun g i wr => ∃ t : Nat, t + g = n ∧ i = .int .i64 t ∧ OwnI wr W.heap.size (.slice (some ⟨W.heap.size, 0, none⟩) o o) (markL o (L.take t)) ∧ Below W.heap.size W wr)
  case atStart => exact ⟨0, by omega, rfl, H0.out, by (repeat (first | exact Below.refl _ _ | assumption | refine Below.drew ?_ | refine Below.alloc ?_ (by first | (simp; done) | (simp; omega)) _ | refine Below.setCell ?_ (by first | (simp; done) | (simp; omega)) _))⟩
  case round =>
    obtain ⟨t, hkg, rfl, hO, hG⟩ := hrel
    clear hmk
    by_cases hlt : t < n
    · have HK : Hid (t < L.length) := by unfold Hid; rw [HE.out]; exact hlt
      obtain ⟨b, oo, rfl, hcx⟩ := (H.out.below hG).at_ (by omega)
      have hy := hcx t hlt
      have hx01 : 0 ≤ nth L t ∧ nth L t < o := by rw [nth_eq HK.out]; exact HL.out _ (List.getElem_mem _)
      obtain ⟨x, hx⟩ : ∃ x : Nat, nth L t = x := ⟨(nth L t).toNat, by omega⟩
      have HS : Hid (markL o (L.take (t + 1)) = (markL o (L.take t)).set x 1) := by unfold Hid; rw [markL_succ o HK.out, hx]; rfl
      rw [hx] at hy hx01
      have hxo : x < o := by omega
      clear hx01 hx hcx
      obtain ⟨g', hg', hgB, hml, hc⟩ := hO.at_ (by rw [markL_length]; omega)
      obtain ⟨hz, hf⟩ := hc x hxo
      cases hg'
      have hst := hO.stored hml x (x := 1) ⟨by decide, by decide⟩
      rw [← HS.out] at hst
      have HT := Lib.hid hst
      generalize nth (markL o (L.take t)) x = z at hz
      clear hc hst hml hO HS
      go_wp2
      go_roundg (n - (t + 1))
      case measure => omega
      case rel => exact ⟨t + 1, by omega, by go_num, HT.out.1, hG.setCell (Nat.le_refl _) _⟩
    · obtain rfl : n = t := by omega
      have HR : Hid (markL o (L.take n) = markL o L) := by unfold Hid; rw [List.take_of_length_le (by rw [HE.out]; exact Nat.le_refl _)]
      rw [HR.out] at hO
      go_wp2
      go_ret
      exact ⟨_, rfl, hO.mono HWB.out.size, Below.next HWB.out hG⟩
theorem markL_digs {o : Nat} (ho : o ≤ 8) (L : List Int) : Digs (markL o L) := by
  refine ⟨by rw [markL_length]; exact ho, ?_⟩
  unfold markL
  suffices h : ∀ l0 : List Int, (∀ x ∈ l0, 0 ≤ x ∧ x ≤ 26) → ∀ x ∈ (L.foldl (fun l k => l.set k.toNat 1) l0), 0 ≤ x ∧ x ≤ 26 by
    exact h _ (fun x hx => by rw [List.eq_of_mem_replicate hx]; decide)
  induction L with
  | nil => intro l0 h; exact h
  | cons a L ih =>
    intro l0 h
    rw [List.foldl_cons]
    refine ih _ (fun x hx => ?_)
    rcases List.mem_or_eq_of_mem_set hx with h1 | rfl
    · exact h x h1
    · decide
set_option maxHeartbeats 1000000 in
theorem spec_vCode1 (o : Nat) (l m p : Int) (v : Value) (L : List Int) (w : World) (ho : o ≤ 8) (h : Ints w v L) (hL : ∀ x ∈ L, 0 ≤ x ∧ x < o) :
    Calls Try.prog 251 #[.agg #[.int .i64 1, .int .i64 o, .int .i64 l, .int .i64 m, .int .i64 p], v] w fun e w' => e = .returned (.int .i64 (codeL 2 (markL o L))) ∧ Below w.heap.size w w' := by
  obtain ⟨a, n, c, rfl⟩ := h.shape
  have HL := Lib.hid hL; clear hL
  have H := Lib.hid h; clear h
  have HD := Lib.hid (markL_digs ho L)
  go_enter Try.func251, Try.ntmps251
  go_wp2_with fail
  refine (spec_vMarks 1 o l m p _ L _ ho (H.out.alloc _) HL.out).mono ?_
  rintro e w1 ⟨v', rfl, hO, hb1⟩
  obtain ⟨a1, c1, rfl⟩ := hO.shape
  have HO := Lib.hid hO; clear hO
  have HB1 := Lib.hid hb1; clear hb1
  go_wp2_with fail
  refine (spec_vNumber _ (markL o L) 2 0 _ HO.out.ints (by rw [addL_zero]; exact HD.out) (fun x hx => (HD.out.2 x hx).1) (by decide) (by decide) (by decide) (by decide)).mono ?_
  rintro e w2 ⟨rfl, rfl⟩
  rw [addL_zero]
  go_wp2_with fail
  go_ret
  exact ⟨rfl, Below.next ((Below.refl _ _).alloc (Nat.le_refl _) _) HB1.out⟩
set_option maxHeartbeats 1000000 in
theorem spec_vCode2 (o : Nat) (l m p : Int) (v : Value) (L : List Int) (w : World) (ho : o ≤ 8) (hp0 : 0 ≤ p) (hp : p ≤ 5) (h : Ints w v L) (h0 : ∀ x ∈ L, 0 ≤ x) (hd : Digs (addL 0 L)) :
    Calls Try.prog 251 #[.agg #[.int .i64 2, .int .i64 o, .int .i64 l, .int .i64 m, .int .i64 p], v] w fun e w' => e = .returned (.int .i64 (codeL (p + 1) (addL 0 L))) ∧ Below w.heap.size w w' := by
  obtain ⟨a, n, c, rfl⟩ := h.shape
  have e1 : IntKind.i64.wrap (p + 1) = p + 1 := IntWalk.i64_in _ (by omega)
  have e2 : IntKind.i64.wrap ((o : Int) + 1) = (o : Int) + 1 := IntWalk.i64_in _ (by omega)
  have H0 := Lib.hid h0; clear h0
  have HD := Lib.hid hd; clear hd
  obtain ⟨W, hW⟩ : ∃ W, W = w.alloc (.cells #[.int .i64 2, .int .i64 o, .int .i64 l, .int .i64 m, .int .i64 p] 31) := ⟨_, rfl⟩
  have HWB : Hid (Below w.heap.size w W) := by unfold Hid; rw [hW]; exact (Below.refl _ _).alloc (Nat.le_refl _) _
  have c0 : W.cell? ⟨w.heap.size, 0, none⟩ = some (.int .i64 2) := by rw [hW]; simp [go_sem]
  have c1 : W.cell? ⟨w.heap.size, 1, none⟩ = some (.int .i64 o) := by rw [hW]; simp [go_sem]
  have c4 : W.cell? ⟨w.heap.size, 4, none⟩ = some (.int .i64 p) := by rw [hW]; simp [go_sem]
  have H : Hid (Ints W (.slice a n c) L) := h.below HWB.out; clear h
  go_enter Try.func251, Try.ntmps251
  go_wp2_with fail
  rw [← hW]
  clear hW
  go_wp2_with fail
  refine (spec_vNumber _ L (p + 1) 0 _ H.out HD.out H0.out (by omega) (by omega) (by omega) (by omega)).mono ?_
  rintro e w2 ⟨rfl, rfl⟩
  go_wp2_with fail
  go_ret
  exact ⟨rfl, HWB.out⟩
set_option maxHeartbeats 1000000 in
theorem spec_vCode3 (o : Nat) (l m p : Int) (v : Value) (L : List Int) (w : World) (ho : o ≤ 8) (hp0 : 0 ≤ p) (hp : p ≤ 5) (h : Ints w v L) (h0 : ∀ x ∈ L, 0 ≤ x) (hd : Digs (addL 1 L)) :
    Calls Try.prog 251 #[.agg #[.int .i64 3, .int .i64 o, .int .i64 l, .int .i64 m, .int .i64 p], v] w fun e w' => e = .returned (.int .i64 (codeL ((o : Int) + 1) (addL 1 L))) ∧ Below w.heap.size w w' := by
  obtain ⟨a, n, c, rfl⟩ := h.shape
  have e1 : IntKind.i64.wrap (p + 1) = p + 1 := IntWalk.i64_in _ (by omega)
  have e2 : IntKind.i64.wrap ((o : Int) + 1) = (o : Int) + 1 := IntWalk.i64_in _ (by omega)
  have H0 := Lib.hid h0; clear h0
  have HD := Lib.hid hd; clear hd
  obtain ⟨W, hW⟩ : ∃ W, W = w.alloc (.cells #[.int .i64 3, .int .i64 o, .int .i64 l, .int .i64 m, .int .i64 p] 31) := ⟨_, rfl⟩
  have HWB : Hid (Below w.heap.size w W) := by unfold Hid; rw [hW]; exact (Below.refl _ _).alloc (Nat.le_refl _) _
  have c0 : W.cell? ⟨w.heap.size, 0, none⟩ = some (.int .i64 3) := by rw [hW]; simp [go_sem]
  have c1 : W.cell? ⟨w.heap.size, 1, none⟩ = some (.int .i64 o) := by rw [hW]; simp [go_sem]
  have c4 : W.cell? ⟨w.heap.size, 4, none⟩ = some (.int .i64 p) := by rw [hW]; simp [go_sem]
  have H : Hid (Ints W (.slice a n c) L) := h.below HWB.out; clear h
  go_enter Try.func251, Try.ntmps251
  go_wp2_with fail
  rw [← hW]
  clear hW
  go_wp2_with fail
  refine (spec_vNumber _ L ((o : Int) + 1) 1 _ H.out HD.out H0.out (by omega) (by omega) (by omega) (by omega)).mono ?_
  rintro e w2 ⟨rfl, rfl⟩
  go_wp2_with fail
  go_ret
  exact ⟨rfl, HWB.out⟩
set_option maxHeartbeats 1000000 in
theorem spec_vCode4 (o : Nat) (l m p : Int) (v : Value) (L : List Int) (w : World) (ho : o ≤ 8) (hp0 : 0 ≤ p) (hp : p ≤ 5) (h : Ints w v L) (h0 : ∀ x ∈ L, 0 ≤ x) (hd : Digs (addL 0 L)) :
    Calls Try.prog 251 #[.agg #[.int .i64 4, .int .i64 o, .int .i64 l, .int .i64 m, .int .i64 p], v] w fun e w' => e = .returned (.int .i64 (codeL 27 (addL 0 L))) ∧ Below w.heap.size w w' := by
  obtain ⟨a, n, c, rfl⟩ := h.shape
  have e1 : IntKind.i64.wrap (p + 1) = p + 1 := IntWalk.i64_in _ (by omega)
  have e2 : IntKind.i64.wrap ((o : Int) + 1) = (o : Int) + 1 := IntWalk.i64_in _ (by omega)
  have H0 := Lib.hid h0; clear h0
  have HD := Lib.hid hd; clear hd
  obtain ⟨W, hW⟩ : ∃ W, W = w.alloc (.cells #[.int .i64 4, .int .i64 o, .int .i64 l, .int .i64 m, .int .i64 p] 31) := ⟨_, rfl⟩
  have HWB : Hid (Below w.heap.size w W) := by unfold Hid; rw [hW]; exact (Below.refl _ _).alloc (Nat.le_refl _) _
  have c0 : W.cell? ⟨w.heap.size, 0, none⟩ = some (.int .i64 4) := by rw [hW]; simp [go_sem]
  have c1 : W.cell? ⟨w.heap.size, 1, none⟩ = some (.int .i64 o) := by rw [hW]; simp [go_sem]
  have c4 : W.cell? ⟨w.heap.size, 4, none⟩ = some (.int .i64 p) := by rw [hW]; simp [go_sem]
  have H : Hid (Ints W (.slice a n c) L) := h.below HWB.out; clear h
  go_enter Try.func251, Try.ntmps251
  go_wp2_with fail
  rw [← hW]
  clear hW
  go_wp2_with fail
  refine (spec_vNumber _ L 27 0 _ H.out HD.out H0.out (by omega) (by omega) (by omega) (by omega)).mono ?_
  rintro e w2 ⟨rfl, rfl⟩
  go_wp2_with fail
  go_ret
  exact ⟨rfl, HWB.out⟩
end Go.Proofs.Ytcpigedjblkcfaa
