/- Walks: sorted lists as sets (spec.l1Has, spec.l1Put). -/
import Derived.Test.YtlkhkoemfmjloaaHash
namespace Go.Proofs.Ytlkhkoemfmjloaa
open Go.RowKit
set_option linter.unusedSimpArgs false
set_option linter.unusedVariables false

/-- where a number is put -/
def posF (l : List Int) (n : Int) : Nat := (l.takeWhile fun x => decide (x < n)).length
def putL (l : List Int) (n : Int) : List Int := if posF l n < l.length ∧ nth l (posF l n) = n then l else (l.take (posF l n) ++ [n]) ++ l.drop (posF l n)
theorem posF_le (l : List Int) (n : Int) : posF l n ≤ l.length := by unfold posF; exact (List.takeWhile_prefix _).length_le
theorem posF_lt {l : List Int} {n : Int} : ∀ {i : Nat}, i < posF l n → nth l i < n := by
  induction l with
  | nil => intro i h; simp [posF] at h
  | cons a l ih =>
    intro i h
    unfold posF at h ih
    rw [List.takeWhile_cons] at h
    by_cases ha : a < n
    · rw [if_pos (by simpa using ha)] at h
      cases i with
      | zero => exact ha
      | succ i => exact ih (by simpa using h)
    · rw [if_neg (by simpa using ha)] at h; simp at h
theorem posF_ge {l : List Int} {n : Int} (h : posF l n < l.length) : ¬ nth l (posF l n) < n := by
  induction l with
  | nil => simp at h
  | cons a l ih =>
    unfold posF at h ih ⊢
    rw [List.takeWhile_cons] at h ⊢
    by_cases ha : a < n
    · rw [if_pos (by simpa using ha)] at h ⊢
      exact ih (by simpa using h)
    · rw [if_neg (by simpa using ha)]; exact ha
theorem posF_eq {l : List Int} {n : Int} {k : Nat} (h1 : ∀ i, i < k → nth l i < n) (h2 : k ≤ l.length) (h3 : k < l.length → ¬ nth l k < n) : posF l n = k := by
  rcases Nat.lt_trichotomy (posF l n) k with h | h | h
  · exact absurd (h1 _ h) (posF_ge (by omega))
  · exact h
  · exact absurd (posF_lt h) (h3 (by have := posF_le l n; omega))
set_option maxHeartbeats 400000 in
theorem spec_l1Has (v : Value) (l : List Int) (n : Int) (w : World) (h : Ints w v l) :
    Calls Try.prog 53 #[v, .int .i64 n] w fun e w' => e = .returned (.bool (decide (n ∈ l))) ∧ w = w' := by
  obtain ⟨a, m, c, rfl⟩ := h.shape
  have e := h.len
  obtain ⟨k1, k2⟩ := h.capMax
  unfold maxLen at k2
  have HE := Lib.hid e; clear e
  have H := Lib.hid h; clear h
  go_enter Try.func53, Try.ntmps53
  go_wp2_with fail
  go_loopg [9] m (fun g i wr => ∃ k : Nat, k + g = m ∧ i = .int .i64 k ∧ Hid (∀ j, j < k → nth l j ≠ n) ∧ w = wr)
  case atStart => exact ⟨0, by omega, rfl, fun j hj => by omega, rfl⟩
  case round =>
    obtain ⟨k, hkg, rfl, HF, rfl⟩ := hrel
    by_cases hlt : k < m
    · obtain ⟨b, o, rfl, hcx⟩ := H.out.at_ (by omega)
      have hy := hcx k hlt
      clear hcx
      by_cases heq : nth l k = n
      · have HR : Hid (decide (n ∈ l) = true) := by
          refine decide_eq_true ?_
          rw [← heq, nth_eq (by rw [HE.out]; exact hlt)]; exact List.getElem_mem _
        have hb : (nth l k == n) = true := by rw [beq_iff_eq]; exact heq
        clear heq
        go_wp2_with fail
        go_ret
        exact ⟨ret_bool (by first | (rw [HR.out]; done) | (rw [HR.out]; rfl) | exact HR.out.symm), rfl⟩
      · have HX := Lib.hid heq
        have hb : (nth l k == n) = false := by rw [beq_eq_false_iff_ne]; exact heq
        go_wp2_with fail
        go_roundg (m - (k + 1))
        case measure => omega
        case rel =>
          refine ⟨k + 1, by omega, by go_num, fun j hj => ?_, rfl⟩
          rcases Nat.lt_or_ge j k with hjk | hjk
          · exact HF.out j hjk
          · obtain rfl : j = k := by omega
            exact HX.out
    · obtain rfl : m = k := by omega
      have HR : Hid (decide (n ∈ l) = false) := by
        refine decide_eq_false fun hm => ?_
        obtain ⟨j, hj, he⟩ := List.getElem_of_mem hm
        exact HF.out j (by rw [HE.out] at hj; exact hj) (by rw [nth_eq hj]; exact he)
      go_wp2_with fail
      go_ret
      exact ⟨ret_bool (by first | (rw [HR.out]; done) | (rw [HR.out]; rfl) | exact HR.out.symm), rfl⟩
set_option maxHeartbeats 2000000 in
theorem spec_l1Put (B : Nat) (v : Value) (l : List Int) (n : Int) (w : World) (h : OwnI w B v l) (hB : B ≤ w.heap.size) (hn : I64 n) (hl : l.length ≤ 1000000000) :
    Calls Try.prog 54 #[v, .int .i64 n] w fun e w' => ∃ v', e = .returned v' ∧ OwnI w' B v' (putL l n) ∧ Below w.heap.size w w' := by
  obtain ⟨a, m, c, rfl⟩ := h.ints.shape
  have e := h.ints.len
  obtain ⟨k1, k2⟩ := h.ints.capMax
  unfold maxLen at k2
  rw [e] at hl
  have HE := Lib.hid e; clear e
  have H := Lib.hid h; clear h
  have HN := Lib.hid hn; clear hn
  have hO : Hid (OwnI (w.alloc (.cells #[] 3)) w.heap.size (.slice (some ⟨w.heap.size, 0, none⟩) 0 0) []) := OwnI.lit w (Nat.le_refl _) AllI64.nil rfl (by simp) 0 rfl
  have HBA : Hid (Below w.heap.size w (w.alloc (.cells #[] 3))) := (Below.refl _ _).alloc (Nat.le_refl _) _
  go_enter Try.func54, Try.ntmps54
  go_wp2_with fail
  go_loopg [5] m (fun g i wr => ∃ k : Nat, k + g = m ∧ i = .int .i64 k ∧ Hid (∀ j, j < k → nth l j < n) ∧ w = wr)
  case atStart => exact ⟨0, by omega, rfl, fun j hj => by omega, rfl⟩
  case round =>
    obtain ⟨k, hkg, rfl, HF, rfl⟩ := hrel
    have LT : Hid (([] ++ l.take k).length = k) := by unfold Hid; rw [List.nil_append, List.length_take, HE.out]; omega
    have LT2 : Hid ((([] ++ l.take k) ++ [n]).length = k + 1) := by unfold Hid; rw [List.length_append, LT.out]; rfl
    have HDR := Lib.hid (H.out.ints.drop (k := k) (by omega))
    by_cases hlt : k < m
    · obtain ⟨b, o, rfl, hcx⟩ := H.out.ints.at_ (by omega)
      have hy := hcx k hlt
      clear hcx
      by_cases hx : nth l k < n
      · have HX := Lib.hid hx
        go_wp2_with fail
        go_roundg (m - (k + 1))
        case measure => omega
        case rel =>
          refine ⟨k + 1, by omega, by go_num, fun j hj => ?_, rfl⟩
          rcases Nat.lt_or_ge j k with hjk | hjk
          · exact HF.out j hjk
          · obtain rfl : j = k := by omega
            exact HX.out
      have hpos : posF l n = k := posF_eq HF.out (by rw [HE.out]; omega) (fun _ => hx)
      by_cases hq : nth l k = n
      · have HP : Hid (putL l n = l) := by unfold Hid putL; rw [hpos, if_pos ⟨by rw [HE.out]; exact hlt, hq⟩]
        have hb : (nth l k == n) = true := by rw [beq_iff_eq]; exact hq
        clear hq hpos
        go_wp2_with fail
        go_ret
        exact ⟨_, rfl, by rw [HP.out]; exact H.out, Below.refl _ _⟩
      have HP : Hid (putL l n = (([] ++ l.take k) ++ [n]) ++ l.drop k) := by unfold Hid putL; rw [hpos, if_neg (fun hh => hq hh.2)]; rfl
      have hb : (nth l k == n) = false := by rw [beq_eq_false_iff_ne]; exact hq
      have z4 : ¬ (c = k) := by omega
      have z1 : (0 : Int) ≤ (k : Int) := by omega
      have z2 : (k : Int) ≤ (c : Int) := by omega
      have z3 : (k : Int) ≤ (m : Int) := by omega
      have HD : Hid (Ints w (.slice (some ⟨b, o + k, none⟩) (m - k) (c - k)) (l.drop k)) := by
        have := HDR.out; rw [if_neg z4, Option.map_some, Addr.add_lit] at this; exact this
      clear hq hpos
      go_wp2_with (first
        | (at_builtin; refine wpList_append_ints rfl _ _ rfl w.heap.size (.slice (some ⟨w.heap.size, 0, none⟩) 0 0) (.slice (some ⟨b, o, none⟩) k c) [] (l.take k) rfl hO.out rfl ((H.out.ints.take (by omega)).alloc _) (by simp only [List.length_nil, List.length_take, HE.out]; omega) (by simp) ?_; intro v1 w1 hown1 hgr1; have hb1 := HBA.out.trans (hO.out.grown hgr1 (by simp)); clear hgr1; obtain ⟨a3, c3, hv1⟩ := hown1.shape; rw [LT.out] at hv1; subst hv1)
        | (at_builtin; refine wpList_append_ints rfl _ _ rfl w.heap.size (.slice a3 k c3) (.slice (some ⟨w1.heap.size, 0, none⟩) 1 1) ([] ++ l.take k) [n] rfl (hown1.alloc _) rfl (Ints.lit1 _ HN.out) (by simp only [LT.out, List.length_cons, List.length_nil]; omega) (by have := hb1.size; simp; omega) ?_; intro v2 w2 hown2 hgr2; have hb2 := (hb1.alloc hb1.size _).trans ((hown1.alloc _).grown hgr2 (by have := hb1.size; simp; omega)); clear hgr2; obtain ⟨a4, c4, hv2⟩ := hown2.shape; rw [LT2.out] at hv2; subst hv2)
        | (at_builtin; refine wpList_append_ints rfl _ _ rfl w.heap.size (.slice a4 (k + 1) c4) (.slice (some ⟨b, o + k, none⟩) (m - k) (c - k)) (([] ++ l.take k) ++ [n]) (l.drop k) rfl hown2 rfl (HD.out.below hb2) (by simp only [LT2.out, List.length_drop, HE.out]; omega) hb2.size ?_; intro v3 w3 hown3 hgr3; have hb3 := hb2.trans (hown2.grown hgr3 hb2.size); clear hgr3)
        | fail)
      go_ret
      exact ⟨_, rfl, by rw [HP.out]; exact hown3.mono hB, hb3⟩
    · obtain rfl : m = k := by omega
      have hpos : posF l n = m := posF_eq HF.out (by rw [HE.out]; omega) (fun hh => by rw [HE.out] at hh; omega)
      have HP : Hid (putL l n = (([] ++ l.take m) ++ [n]) ++ l.drop m) := by unfold Hid putL; rw [hpos, if_neg (fun hh => by have := hh.1; rw [HE.out] at this; omega)]; rfl
      have z1 : (0 : Int) ≤ (m : Int) := by omega
      have z2 : (m : Int) ≤ (c : Int) := by omega
      clear hpos
      by_cases z4 : c = m
      · have HD : Hid (Ints w (.slice a 0 0) (l.drop m)) := by
          have := HDR.out; rw [if_pos z4, z4, Nat.sub_self] at this; exact this
        subst z4
        go_wp2_with (first
          | (at_builtin; refine wpList_append_ints rfl _ _ rfl w.heap.size (.slice (some ⟨w.heap.size, 0, none⟩) 0 0) (.slice a c c) [] (l.take c) rfl hO.out rfl ((H.out.ints.take (by omega)).alloc _) (by simp only [List.length_nil, List.length_take, HE.out]; omega) (by simp) ?_; intro v1 w1 hown1 hgr1; have hb1 := HBA.out.trans (hO.out.grown hgr1 (by simp)); clear hgr1; obtain ⟨a3, c3, hv1⟩ := hown1.shape; rw [LT.out] at hv1; subst hv1)
          | (at_builtin; refine wpList_append_ints rfl _ _ rfl w.heap.size (.slice a3 c c3) (.slice (some ⟨w1.heap.size, 0, none⟩) 1 1) ([] ++ l.take c) [n] rfl (hown1.alloc _) rfl (Ints.lit1 _ HN.out) (by simp only [LT.out, List.length_cons, List.length_nil]; omega) (by have := hb1.size; simp; omega) ?_; intro v2 w2 hown2 hgr2; have hb2 := (hb1.alloc hb1.size _).trans ((hown1.alloc _).grown hgr2 (by have := hb1.size; simp; omega)); clear hgr2; obtain ⟨a4, c4, hv2⟩ := hown2.shape; rw [LT2.out] at hv2; subst hv2)
          | (at_builtin; refine wpList_append_ints rfl _ _ rfl w.heap.size (.slice a4 (c + 1) c4) (.slice a 0 0) (([] ++ l.take c) ++ [n]) (l.drop c) rfl hown2 rfl (HD.out.below hb2) (by simp only [LT2.out, List.length_drop, HE.out]; omega) hb2.size ?_; intro v3 w3 hown3 hgr3; have hb3 := hb2.trans (hown2.grown hgr3 hb2.size); clear hgr3)
          | fail)
        go_ret
        exact ⟨_, rfl, by rw [HP.out]; exact hown3.mono hB, hb3⟩
      · have HD : Hid (Ints w (.slice (a.map (fun x => x.add m)) 0 (c - m)) (l.drop m)) := by
          have := HDR.out; rw [if_neg z4, Nat.sub_self] at this; exact this
        go_wp2_with (first
          | (at_builtin; refine wpList_append_ints rfl _ _ rfl w.heap.size (.slice (some ⟨w.heap.size, 0, none⟩) 0 0) (.slice a m c) [] (l.take m) rfl hO.out rfl ((H.out.ints.take (by omega)).alloc _) (by simp only [List.length_nil, List.length_take, HE.out]; omega) (by simp) ?_; intro v1 w1 hown1 hgr1; have hb1 := HBA.out.trans (hO.out.grown hgr1 (by simp)); clear hgr1; obtain ⟨a3, c3, hv1⟩ := hown1.shape; rw [LT.out] at hv1; subst hv1)
          | (at_builtin; refine wpList_append_ints rfl _ _ rfl w.heap.size (.slice a3 m c3) (.slice (some ⟨w1.heap.size, 0, none⟩) 1 1) ([] ++ l.take m) [n] rfl (hown1.alloc _) rfl (Ints.lit1 _ HN.out) (by simp only [LT.out, List.length_cons, List.length_nil]; omega) (by have := hb1.size; simp; omega) ?_; intro v2 w2 hown2 hgr2; have hb2 := (hb1.alloc hb1.size _).trans ((hown1.alloc _).grown hgr2 (by have := hb1.size; simp; omega)); clear hgr2; obtain ⟨a4, c4, hv2⟩ := hown2.shape; rw [LT2.out] at hv2; subst hv2)
          | (at_builtin; refine wpList_append_ints rfl _ _ rfl w.heap.size (.slice a4 (m + 1) c4) (.slice (a.map (fun x => x.add m)) 0 (c - m)) (([] ++ l.take m) ++ [n]) (l.drop m) rfl hown2 rfl (HD.out.below hb2) (by simp only [LT2.out, List.length_drop, HE.out]; omega) hb2.size ?_; intro v3 w3 hown3 hgr3; have hb3 := hb2.trans (hown2.grown hgr3 hb2.size); clear hgr3)
          | fail)
        go_ret
        exact ⟨_, rfl, by rw [HP.out]; exact hown3.mono hB, hb3⟩
end Go.Proofs.Ytlkhkoemfmjloaa
