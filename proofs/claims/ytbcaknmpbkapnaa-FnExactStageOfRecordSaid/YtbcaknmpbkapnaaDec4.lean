/- Walks: ciphertexts out of records, the reference's (printed by gen_dec4.py). -/
import Derived.Test.YtbcaknmpbkapnaaDec2
namespace Go.Proofs.Ytbcaknmpbkapnaa
open Go.RowKit
set_option linter.unusedSimpArgs false
set_option linter.unusedVariables false

theorem recB_all {l : List Int} (h : recB l = true) {i : Nat} (hi : i < l.length) : 0 ≤ nth l i ∧ nth l i ≤ 4611686018427387903 := by
  unfold recB at h
  simp only [Bool.and_eq_true, List.all_eq_true] at h
  have := h.2 (nth l i) (by rw [nth_eq hi]; exact List.getElem_mem _)
  unfold digestB at this
  simpa using this
theorem nth_drop1 {l : List Int} {i : Nat} : nth (l.drop 1) i = nth l (i + 1) := by
  unfold nth List.getD; rw [List.getElem?_drop, Nat.add_comm 1 i]
theorem dcD_off {l : List Int} (h : dcB l = false) : dcD l = [] := by unfold dcD; rw [if_neg (by rw [h]; simp)]
set_option maxRecDepth 100000 in
set_option maxHeartbeats 4000000 in
theorem spec_cReadCiphers (v : Value) (l : List Int) (w : World) (hl : l.length ≤ 1000000) (h : Ints w v l) :
    Calls Try.prog 42 #[v] w fun e w' => ∃ v', e = .returned (.tuple #[v', .bool (dcB l)]) ∧ (kR 75 rCipher).own w' w.heap.size w'.heap.size v' (dcD l) ∧ Below w.heap.size w w' := by
  obtain ⟨a, n, c, rfl⟩ := h.shape
  have e := h.len
  obtain ⟨k1, k2⟩ := h.capMax
  unfold maxLen at k2
  have HE := Lib.hid e
  rw [e] at hl
  clear e
  have H := Lib.hid h; clear h
  obtain ⟨q, hq⟩ : ∃ q, recB l = q := ⟨_, rfl⟩
  have HQ := Lib.hid hq; clear hq
  cases q with
  | false =>
    have HB : Hid (dcB l = false) := by unfold Hid dcB; rw [HQ.out]; rfl
    have HD := Lib.hid (dcD_off HB.out)
    go_enter Try.func42, Try.ntmps42
    go_wp2_with (first | (go_at_call 59; refine (spec_l4Record _ l _ H.out).mono ?_; rintro e w1 ⟨rfl, hb1⟩; rw [HQ.out]) | fail)
    go_ret2
    rw [HB.out, HD.out]
    exact ⟨_, rfl, (OwnQ.nil _ _).own, hb1⟩
  | true =>
  by_cases hn : n = 0
  · subst hn
    have HB : Hid (dcB l = false) := by unfold Hid dcB; rw [HE.out, HQ.out]; simp
    have HD := Lib.hid (dcD_off HB.out)
    go_enter Try.func42, Try.ntmps42
    go_wp2_with (first | (go_at_call 59; refine (spec_l4Record _ l _ H.out).mono ?_; rintro e w1 ⟨rfl, hb1⟩; rw [HQ.out]) | fail)
    go_ret2
    rw [HB.out, HD.out]
    exact ⟨_, rfl, (OwnQ.nil _ _).own, hb1⟩
  obtain ⟨b, o, rfl, hcx⟩ := H.out.at_ (by omega)
  have HCX : Hid (∀ i, i < n → w.cell? ⟨b, o + i, none⟩ = some (.int .i64 (nth l i))) := hcx
  have y0 := hcx 0 (by omega)
  rw [Nat.add_zero] at y0
  obtain ⟨hx0, hx9⟩ := recB_all HQ.out (i := 0) (by rw [HE.out]; omega)
  obtain ⟨K, hK⟩ : ∃ j : Nat, nth l 0 = j := ⟨_, (Int.toNat_of_nonneg hx0).symm⟩
  rw [hK] at y0 hx9
  have HK := Lib.hid hK
  have z0 : ¬ (n : Int) = 0 := by omega
  have z1 : (0 : Int) < (n : Int) := by omega
  have Y0 := Lib.hid y0
  have ew1 : IntKind.i64.wrap (2 * (K : Int)) = 2 * (K : Int) := IntWalk.i64_in _ (by omega)
  have ew2 : IntKind.i64.wrap (1 + 2 * (K : Int)) = 1 + 2 * (K : Int) := IntWalk.i64_in _ (by omega)
  have HX9 := Lib.hid hx9
  clear hcx hx0 hK y0 hx9
  by_cases hnK : n = 1 + 2 * K
  rotate_left
  · have HB : Hid (dcB l = false) := by unfold Hid dcB; rw [HE.out, HK.out, decide_eq_false (p := (n : Int) = 1 + 2 * (K : Int)) (by omega)]; simp
    have HD := Lib.hid (dcD_off HB.out)
    have z3 : ¬ (n : Int) = 1 + 2 * (K : Int) := by omega
    go_enter Try.func42, Try.ntmps42
    go_wp2_with (first | (go_at_call 59; refine (spec_l4Record _ l _ H.out).mono ?_; rintro e w1 ⟨rfl, hb1⟩; have y1 := box_at Y0.out hb1; rw [HQ.out]) | fail)
    go_ret2
    rw [HB.out, HD.out]
    exact ⟨_, rfl, (OwnQ.nil _ _).own, hb1⟩
  have HB : Hid (dcB l = true) := by unfold Hid dcB; rw [HE.out, HK.out, HQ.out, decide_eq_true (p := 0 < n) (by omega), decide_eq_true (p := (n : Int) = 1 + 2 * (K : Int)) (by omega)]; rfl
  have HD : Hid (dcD l = dcN (l.drop 1) K) := by unfold Hid dcD; rw [if_pos HB.out, HK.out, Int.toNat_natCast]
  have HNK := Lib.hid hnK
  clear hnK
  have z3 : ((n : Int) != 1 + 2 * (K : Int)) = false := by rw [bne_eq_false_iff_eq]; have := HNK.out; omega
  have z3d : decide ((n : Int) = 1 + 2 * (K : Int)) = true := decide_eq_true (by have := HNK.out; omega)
  go_enter Try.func42, Try.ntmps42
  go_wp2_with (first | (go_at_call 59; refine (spec_l4Record _ l _ H.out).mono ?_; rintro e w1 ⟨rfl, hb1⟩; have y1 := box_at Y0.out hb1; rw [HQ.out]) | fail)
  have HO0 : Hid (OwnQ w1 w.heap.size (.slice none 0 0) []) := OwnQ.nil _ _
  have HB1 := Lib.hid hb1
  clear y1 hb1 z3 z3d ew1 ew2
  go_loopg [4, 5] K (fun g v4 iv wr => ∃ k : Nat, k + g = K ∧ iv = .int .i64 (((2 * k + 1 : Nat)) : Int) ∧ Hid (OwnQ wr w.heap.size v4 (dcN (l.drop 1) k)) ∧ Hid (Below w.heap.size w wr))
  case atStart => exact ⟨0, by omega, by go_num, HO0, HB1⟩
  case round =>
    clear HO0 HB1
    obtain ⟨k, hkg, rfl, HO, HBr⟩ := hrel
    have hsr := HBr.out.size
    have HLN := Lib.hid (dcN_len (l.drop 1) k)
    obtain ⟨a4, c4, hv⟩ := HO.out.shape
    rw [HLN.out] at hv
    subst hv
    have hnK := HNK.out
    have hle1 : n ≤ 1 + 2 * K := by omega
    have hle2 : 1 + 2 * K ≤ n := by omega
    clear hnK
    obtain ⟨ik, hik⟩ : ∃ i, 2 * k + 1 = i := ⟨_, rfl⟩
    rw [hik]
    by_cases hlt : k < K
    · obtain ⟨jk, hjk⟩ : ∃ j, ik + 1 = j := ⟨_, rfl⟩
      have x1 := box_at (HCX.out ik (by omega)) HBr.out
      have x2 := box_at (HCX.out jk (by omega)) HBr.out
      have HX1 : Hid (I64 (nth l ik)) := by have := recB_all HQ.out (i := ik) (by rw [HE.out]; omega); exact ⟨by omega, by omega⟩
      have HX2 : Hid (I64 (nth l jk)) := by have := recB_all HQ.out (i := jk) (by rw [HE.out]; omega); exact ⟨by omega, by omega⟩
      have HNX : Hid (dcN (l.drop 1) (k + 1) = dcN (l.drop 1) k ++ [⟨nth l ik, nth l jk⟩]) := by
        unfold Hid; rw [dcN, nth_drop1, nth_drop1, hik, hjk]
      obtain ⟨X, hX⟩ : ∃ z, nth l ik = z := ⟨_, rfl⟩
      obtain ⟨Y, hY⟩ : ∃ z, nth l jk = z := ⟨_, rfl⟩
      rw [hX] at x1 HX1 HNX
      rw [hY] at x2 HX2 HNX
      have ewj : IntKind.i64.wrap ((ik : Int) + 1) = (jk : Int) := by rw [← hjk]; exact (IntWalk.i64_in _ (by omega)).trans (by omega)
      have ewi : IntKind.i64.wrap ((ik : Int) + 2) = ((2 * (k + 1) + 1 : Nat) : Int) := (IntWalk.i64_in _ (by omega)).trans (by omega)
      have b0 : (0 : Int) ≤ (ik : Int) := by omega
      have b1 : (ik : Int) < (n : Int) := by omega
      have b2 : (0 : Int) ≤ (jk : Int) := by omega
      have b3 : (jk : Int) < (n : Int) := by omega
      have b4 : decide (ik < n) = true := decide_eq_true (by omega)
      have b5 : decide (jk < n) = true := decide_eq_true (by omega)
      have HG : Hid (K - (k + 1) < gk) := by unfold Hid; omega
      have HG2 : Hid (k + 1 + (K - (k + 1)) = K) := by unfold Hid; omega
      clear hX hY hik hjk hkg
      have hc : Below wr.heap.size wr wr := Below.refl _ _
      go_wp2_with fail
      try (go_wp2_with fail)
      refine wp_region_noPanic ?_
      refine wp_region_P (fun w' => w'.cell? ⟨b, o + ik, none⟩ = some (.int .i64 X) ∧ w'.cell? ⟨b, o + jk, none⟩ = some (.int .i64 Y)) 16 [(0, []), (1, []), (2, []), (3, [1, 0]), (4, [0]), (5, []), (6, []), (7, [0]), (8, [2, 0]), (9, [0]), (10, [5, 0]), (11, [0])] [12, 13] (by kernel_rfl) (by kernel_rfl) (by kernel_rfl) rfl (fun _ _ _ _ h => h) (fun w' h => ⟨box_at x1 h, box_at x2 h⟩) ?_
      simp only [pickP, pickN, List.getElem?_cons_zero, List.getElem?_cons_succ]
      iterate 11 (refine' chainP_read _ rfl rfl (fun w' hS' => ?_) ?_; rotate_left; · (simp only [lookP, allP, Act.put, List.getElem?_cons_zero, List.getElem?_cons_succ, List.setIfInBounds_toArray, List.set_cons_zero, List.set_cons_succ]; (try dsimp only at hS'); go_simp; (try with_reducible rfl)))
      -- 11: buildSlice 23 1 #[(0, t40)]
      refine chainP_do (d := (some 41)) (fun v u => ∃ g, v = .slice (some ⟨g, 0, none⟩) 1 1 ∧ BoxN u g 75 [.int .i64 X, .int .i64 Y] ∧ wr.heap.size ≤ g) (fun v w1 w2 hw h => by obtain ⟨g, e, hb, hl⟩ := h; exact ⟨g, e, hb.below hw, hl⟩) rfl rfl (fun w' hS' => ?_) ?_
      · simp only [lookP, allP, Act.put, List.getElem?_cons_zero, List.getElem?_cons_succ, List.setIfInBounds_toArray, List.set_cons_zero, List.set_cons_succ]
        intro K hK
        go_simp
        refine hK.out _ _ ((Below.refl _ _).alloc (Nat.le_refl _) _) ?_
        exact ⟨w'.heap.size, rfl, BoxN.new w' [.int .i64 X, .int .i64 Y] _, hS'.1.size⟩
      refine chainP_nil (fun u1 hS' => ?_)
      simp only [allP, Act.put, List.setIfInBounds_toArray, List.set_cons_zero, List.set_cons_succ]
      intro x11 hx11
      have hq1 := hS'.1
      clear hS'
      replace hc := Below.next hc hq1
      replace x1 := box_at x1 hq1
      replace x2 := box_at x2 hq1
      clear hq1
      obtain ⟨gx, rfl, hxb, hxl⟩ := hx11
      have HXB := Lib.hid hxb
      have HU := Lib.hid (HBr.out.trans (hc.mono hsr))
      have HOU := Lib.hid (HO.out.below hc)
      have hsu := hc.size
      clear hxb x1 x2
      go_wp2_with (first | (at_builtin; refine wpList_append_Q rfl _ _ rfl (B := w.heap.size) (g := gx) (x := X) (y := Y) HOU.out rfl rfl HXB.out HX1.out HX2.out (by omega) (by rw [HLN.out]; omega) ?_; intro v5 w5 hO5 hb5) | fail)
      have HO5 := Lib.hid hO5
      have HB5 : Hid (Below w.heap.size w w5) := HU.out.trans hb5
      (try (refine NoPanic.normal ?_))
      (try (go_wp2_with fail))
      go_roundg (K - (k + 1))
      case measure => exact HG.out
      case rel => exact ⟨k + 1, HG2.out, by go_num, by unfold Hid; rw [HNX.out]; exact HO5.out, HB5⟩
    · obtain rfl : K = k := by omega
      have z4 : ¬ (ik : Int) < (n : Int) := by omega
      have z5 : ¬ ik < n := by omega
      go_wp2_with fail
      go_ret2
      rw [HB.out, HD.out]
      exact ⟨_, rfl, HO.out.own, HBr.out⟩
end Go.Proofs.Ytbcaknmpbkapnaa
