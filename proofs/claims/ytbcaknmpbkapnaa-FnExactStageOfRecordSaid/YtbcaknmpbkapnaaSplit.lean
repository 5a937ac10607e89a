/- Walks: spec.l4Take, spec.SplitRecords. -/
import Derived.Test.YtbcaknmpbkapnaaSplitP
import Derived.Test.YtbcaknmpbkapnaaBa
namespace Go.Proofs.Ytbcaknmpbkapnaa
open Go.RowKit
set_option linter.unusedSimpArgs false
set_option linter.unusedVariables false

set_option maxHeartbeats 1000000 in
theorem spec_l4Take_no (v : Value) (l : List Int) (w : World) (h : Ints w v l) (ht : tokB l = false) :
    Calls Try.prog 60 #[v] w fun e w' => e = .returned (.tuple #[.slice none 0 0, .slice none 0 0, .bool false]) ∧ w = w' := by
  obtain ⟨a, n, c, rfl⟩ := h.shape
  have e := h.len
  obtain ⟨k1, k2⟩ := h.capMax
  unfold maxLen at k2
  have H := Lib.hid h; clear h
  unfold tokB at ht
  rw [e] at ht
  by_cases hn : n = 0
  · subst hn
    clear ht e
    go_enter Try.func60, Try.ntmps60
    go_wp2_with fail
    go_ret3
    exact ⟨rfl, rfl⟩
  · obtain ⟨b, o, rfl, hcx⟩ := H.out.at_ (by omega)
    have y0 := hcx 0 (by omega)
    rw [Nat.add_zero] at y0
    clear hcx e
    obtain ⟨x, hx⟩ : ∃ x, nth l 0 = x := ⟨_, rfl⟩
    rw [hx] at ht y0
    clear hx
    have z0 : ¬ (n : Int) = 0 := by omega
    have z1 : (0 : Int) < (n : Int) := by omega
    by_cases hx0 : x < 0
    · clear ht
      go_enter Try.func60, Try.ntmps60
      go_wp2_with fail
      go_ret3
      exact ⟨rfl, rfl⟩
    · have hx1 : (n : Int) ≤ x := by
        simp at ht; omega
      clear ht
      go_enter Try.func60, Try.ntmps60
      go_wp2_with fail
      go_ret3
      exact ⟨rfl, rfl⟩
set_option maxHeartbeats 1000000 in
theorem spec_l4Take_yes (w0 : World) (v : Value) (l : List Int) (w : World) (h : Ints w0 v l) (hb0 : Below w0.heap.size w0 w) (hl : l.length ≤ 1000000000) (ht : tokB l = true) :
    Calls Try.prog 60 #[v] w fun e w' => ∃ v1 v2, e = .returned (.tuple #[v1, v2, .bool true]) ∧ OwnI w' w.heap.size v1 (takeX l) ∧ Ints w0 v2 (takeR l) ∧ Below w.heap.size w w' := by
  obtain ⟨a, n, c, rfl⟩ := h.shape
  have e := h.len
  obtain ⟨k1, k2⟩ := h.capMax
  unfold maxLen at k2
  have ht' := takeB_yes ht
  obtain ⟨hn, hx0, hx1⟩ := ht'
  obtain ⟨j, hj⟩ : ∃ j : Nat, nth l 0 = j := ⟨_, (Int.toNat_of_nonneg hx0).symm⟩
  have HX : Hid (takeX l = (l.drop 1).take j) := by unfold Hid takeX; rw [hj, Int.toNat_natCast]
  have HR : Hid (takeR l = l.drop (j + 1)) := by unfold Hid takeR; rw [hj, Int.toNat_natCast]
  rw [e] at hn hx1 hl
  obtain ⟨b, o, rfl, hcx⟩ := h.at_ (by omega)
  have y0 := box_at (hcx 0 (by omega)) hb0
  rw [Nat.add_zero, hj] at y0
  rw [hj] at hx1
  clear hcx hx0 hj ht e
  have hjn : j < n := by omega
  obtain ⟨a1, hs1, HI1⟩ := sl_mid h (x := 1) (y := (j : Int) + 1) (j := 1) (k := j + 1) rfl (by omega) (by omega) (by omega)
  obtain ⟨a2, hs2, HI2⟩ := sl_drop h (x := (j : Int) + 1) (k := j + 1) (by omega) (by omega)
  rw [Nat.add_sub_cancel] at hs1 HI1
  have HLX : Hid (((l.drop 1).take j).length ≤ 1000000000) := by unfold Hid; rw [List.length_take]; omega
  have z1 : (0 : Int) < (n : Int) := by omega
  have z0 : ¬ (n : Int) = 0 := by omega
  have z2 : ¬ (n : Int) ≤ (j : Int) := by omega
  have ew : IntKind.i64.wrap ((j : Int) + 1) = (j : Int) + 1 := IntWalk.i64_in _ (by omega)
  have H1 := Lib.hid HI1; have H2 := Lib.hid HI2
  clear HI1 HI2 h
  go_enter Try.func60, Try.ntmps60
  go_wp2_with fail
  go_region_held3 (fun w' => Below w.heap.size w w') (first | exact (Below.refl _ _).drew | exact keep_b (by assumption) (by assumption)) ((first | (go_at_call 71; refine (spec_l1Own _ _ _ ((H1.out.below hb0).below (‹Below w.heap.size w _›)) HLX.out).mono ?_; rintro e w1 ⟨v1, rfl, hX, hb1⟩) | fail))
  go_wp2_with fail
  go_ret3
  refine ⟨_, _, rfl, ?_, ?_, ‹Below w.heap.size w _›⟩
  · rw [HX.out]; exact hX.mono (by simp)
  · rw [HR.out]; exact H2.out
theorem splitR_none {l : List Int} (hc : recB l = true ∧ 0 < l.length ∧ nth l 0 ≤ l.length) (h : parse (nth l 0).toNat (l.drop 1) = none) : splitR l = none := by
  unfold splitR; rw [if_pos hc, h]
theorem splitR_some {l : List Int} {out : List (List Int)} {rest : List Int} (hc : recB l = true ∧ 0 < l.length ∧ nth l 0 ≤ l.length) (h : parse (nth l 0).toNat (l.drop 1) = some (out, rest)) : splitR l = if rest.length = 0 then some out else none := by
  unfold splitR; rw [if_pos hc, h]
  cases rest <;> simp
theorem parse_none {l : List Int} {k : Nat} (h : parse k l = none) : ∀ m, parse (k + m) l = none := by
  intro m
  induction m with
  | zero => exact h
  | succ m ih => rw [← Nat.add_assoc]; unfold parse; rw [ih]
theorem parse_succ {l : List Int} {k : Nat} {out : List (List Int)} {rest : List Int} (h : parse k l = some (out, rest)) : parse (k + 1) l = if tokB rest = true then some (out ++ [takeX rest], takeR rest) else none := by
  rw [parse, h]
theorem parse_rest {l : List Int} {k : Nat} {out : List (List Int)} {rest : List Int} (h : parse k l = some (out, rest)) : rest.length ≤ l.length := by
  rw [(parse_eq h).1, List.length_append]; omega
set_option maxHeartbeats 4000000 in
theorem spec_cSplit (v : Value) (l : List Int) (w : World) (hl : l.length ≤ 1000000000) (h : Ints w v l) :
    Calls Try.prog 41 #[v] w fun e w' => ∃ v', e = .returned (.tuple #[v', .bool (splitB l)]) ∧ (splitB l = true → OwnL 22 kInts w' w.heap.size w'.heap.size v' (splitL l)) ∧ Below w.heap.size w w' := by
  obtain ⟨a, n, c, rfl⟩ := h.shape
  have e := h.len
  obtain ⟨k1, k2⟩ := h.capMax
  unfold maxLen at k2
  have HE := Lib.hid e
  rw [e] at hl
  clear e
  obtain ⟨q, hq⟩ : ∃ q, recB l = q := ⟨_, rfl⟩
  have HQ := Lib.hid hq
  have H := Lib.hid h; clear h
  cases q with
  | false =>
    have HB : Hid (splitB l = false) := by unfold Hid splitB splitR; rw [if_neg (by rw [hq]; simp)]; rfl
    clear hq
    go_enter Try.func41, Try.ntmps41
    go_wp2_with (first | (go_at_call 59; refine (spec_l4Record _ l _ H.out).mono ?_; rintro e w1 ⟨rfl, hb1⟩; rw [HQ.out]) | fail)
    go_ret2
    rw [HB.out]
    exact ⟨_, rfl, (fun h => by cases h), hb1⟩
  | true =>
  by_cases hn : n = 0
  · subst hn
    have HB : Hid (splitB l = false) := by unfold Hid splitB splitR; rw [if_neg (by rw [HE.out]; omega)]; rfl
    clear hq
    go_enter Try.func41, Try.ntmps41
    go_wp2_with (first | (go_at_call 59; refine (spec_l4Record _ l _ H.out).mono ?_; rintro e w1 ⟨rfl, hb1⟩; rw [HQ.out]) | fail)
    go_ret2
    rw [HB.out]
    exact ⟨_, rfl, (fun h => by cases h), hb1⟩
  obtain ⟨b, o, rfl, hcx⟩ := H.out.at_ (by omega)
  have y0 := hcx 0 (by omega)
  rw [Nat.add_zero] at y0
  have hx0 := recB_nonneg hq (by rw [HE.out]; omega)
  obtain ⟨K, hK⟩ : ∃ j : Nat, nth l 0 = j := ⟨_, (Int.toNat_of_nonneg hx0).symm⟩
  rw [hK] at y0
  have HK := Lib.hid hK
  have z0 : ¬ (n : Int) = 0 := by omega
  have z1 : (0 : Int) < (n : Int) := by omega
  clear hcx hx0 hK hq
  by_cases hx1 : (n : Int) < (K : Int)
  · have HB : Hid (splitB l = false) := by unfold Hid splitB splitR; rw [if_neg (by rw [HE.out, HK.out]; omega)]; rfl
    have Y0 := Lib.hid y0; clear y0
    go_enter Try.func41, Try.ntmps41
    go_wp2_with (first | (go_at_call 59; refine (spec_l4Record _ l _ H.out).mono ?_; rintro e w1 ⟨rfl, hb1⟩; have y1 := box_at Y0.out hb1; rw [HQ.out]) | fail)
    go_ret2
    rw [HB.out]
    exact ⟨_, rfl, (fun h => by cases h), hb1⟩
  have hx2 : ¬ (n : Int) < (K : Int) := hx1
  have Y0 := Lib.hid y0; clear y0
  obtain ⟨a1, hs1, HI1⟩ := sl_drop H.out (x := 1) (k := 1) rfl (by omega)
  have HD := Lib.hid HI1; clear HI1
  have z4 : decide (n < K) = false := decide_eq_false (by omega)
  have HC : Hid (recB l = true ∧ 0 < l.length ∧ nth l 0 ≤ l.length) := ⟨HQ.out, by rw [HE.out]; omega, by rw [HE.out, HK.out]; omega⟩
  have HKN : Hid ((nth l 0).toNat = K) := by unfold Hid; rw [HK.out, Int.toNat_natCast]
  go_enter Try.func41, Try.ntmps41
  go_wp2_with (first | (go_at_call 59; refine (spec_l4Record _ l _ H.out).mono ?_; rintro e w1 ⟨rfl, hb1⟩; have y1 := box_at Y0.out hb1; rw [HQ.out]) | fail)
  go_loopg [4, 5, 6] K (fun g v4 v5 i wr => ∃ (k : Nat) (out : List (List Int)) (rest : List Int), k + g = K ∧ i = .int .i64 k ∧ Hid (parse k (l.drop 1) = some (out, rest)) ∧ OwnL 22 kInts wr w.heap.size wr.heap.size v4 out ∧ Ints w v5 rest ∧ Below w.heap.size w wr)
  case atStart => exact ⟨0, [], l.drop 1, by omega, rfl, rfl, OwnL.nil _ _ _ _ _, HD.out, hb1⟩
  case round =>
    obtain ⟨k, out, rest, hkg, rfl, HP, hO, hR, hb⟩ := hrel
    clear hb1 y1 hs1
    have y1 := box_at Y0.out hb
    have HN := Lib.hid (parse_succ HP.out)
    have hol : Hid (out.length = k) := (parse_eq HP.out).2
    have hrl : Hid (rest.length ≤ 1000000000) := by have := parse_rest HP.out; unfold Hid; rw [List.length_drop, HE.out] at this; omega
    obtain ⟨a5, n5, c5, rfl⟩ := hR.shape
    obtain ⟨a4, n4, c4, rfl⟩ := hO.rd.shape
    have HO := Lib.hid hO; have HR := Lib.hid hR
    clear hO hR
    by_cases hlt : k < K
    · obtain ⟨q2, hq2⟩ : ∃ q, tokB rest = q := ⟨_, rfl⟩
      have HT := Lib.hid hq2; clear hq2
      cases q2 with
      | false =>
        have HB : Hid (splitB l = false) := by
          have h1 := HN.out
          rw [HT.out, if_neg (by simp)] at h1
          have h2 := parse_none h1 (K - (k + 1))
          rw [show k + 1 + (K - (k + 1)) = K by omega] at h2
          unfold Hid splitB; rw [splitR_none HC.out (by rw [HKN.out]; exact h2)]; rfl
        go_wp2_with (first | (go_at_call 60; refine (spec_l4Take_no _ rest _ (HR.out.below hb) HT.out).mono ?_; rintro e w2 ⟨rfl, rfl⟩) | fail)
        go_ret2
        rw [HB.out]
        exact ⟨_, rfl, (fun h => by cases h), hb⟩
      | true =>
        go_wp2_with (first
          | (go_at_call 60; refine (spec_l4Take_yes w _ rest _ HR.out hb hrl.out HT.out).mono ?_; rintro e w2 ⟨v1, v2, rfl, hX, hX2, hb2⟩; obtain ⟨a6, n6, c6, hv1⟩ := hX.ints.shape; subst hv1; have HX := Lib.hid hX; have HX2 := Lib.hid hX2; clear hX hX2)
          | (at_builtin; refine wpList_append_rows rfl _ _ rfl w.heap.size wr.heap.size wr.heap.size w2.heap.size (.slice a4 n4 c4) (.slice a6 n6 c6) out (takeX rest) w2.heap.size 1 rfl rfl (Kind.next (K := kRows) (Kind.next (K := kRows) HO.out hb2) ((Below.refl _ _).alloc (Nat.le_refl _) _)) (Kind.next (K := kInts) (InI.of_own HX.out) ((Below.refl _ _).alloc (Nat.le_refl _) _)) (Nat.le_refl _) (by simp) (by have := hb2.size; simp; omega) hb.size (by simp [go_sem]) (by rw [hol.out]; omega) ?_; intro v' w3 hO3 hb3)
          | fail)
        go_roundg (K - (k + 1))
        case measure => omega
        case rel =>
          refine ⟨k + 1, out ++ [takeX rest], takeR rest, by omega, by go_num, ?_, hO3, ?_, ?_⟩
          · unfold Hid; rw [HN.out, HT.out, if_pos rfl]
          · exact HX2.out
          · exact ((hb.trans (hb2.mono hb.size)).alloc (by have := hb.size; have := hb2.size; omega) _).trans hb3
    · obtain rfl : K = k := by omega
      have HS : Hid (splitR l = if rest.length = 0 then some out else none) := splitR_some HC.out (by rw [HKN.out]; exact HP.out)
      have e5 := HR.out.len
      by_cases hr0 : n5 = 0
      · have HB : Hid (splitB l = true) := by unfold Hid splitB; rw [HS.out, if_pos (by omega)]; rfl
        have HL : Hid (splitL l = out) := by unfold Hid splitL; rw [HS.out, if_pos (by omega)]; rfl
        subst hr0
        clear e5
        go_wp2_with fail
        go_ret2
        rw [HB.out, HL.out]
        exact ⟨_, rfl, (fun _ => HO.out), hb⟩
      · have HB : Hid (splitB l = false) := by unfold Hid splitB; rw [HS.out, if_neg (by omega)]; rfl
        have hr1 : ¬ (n5 : Int) = 0 := by omega
        clear e5
        go_wp2_with fail
        go_ret2
        rw [HB.out]
        exact ⟨.slice a4 n4 c4, by simp [hr0], (fun h => by cases h), hb⟩
end Go.Proofs.Ytbcaknmpbkapnaa
