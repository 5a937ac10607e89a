/- Walks: records. -/
import Derived.Test.YtapfceghgkmgoaaKinds
import Derived.Test.YtapfceghgkmgoaaHash
namespace Go.Proofs.Ytapfceghgkmgoaa
open Go.RowKit
set_option linter.unusedSimpArgs false
set_option linter.unusedVariables false

def recB (l : List Int) : Bool := decide (l.length ≤ 400) && l.all digestB
/-- a list behind its length -/
def cnt (l : List Int) : List Int := (l.length : Int) :: l
theorem cnt_length (l : List Int) : (cnt l).length = l.length + 1 := by simp [cnt]
theorem I64_len {l : List Int} (h : l.length ≤ 1000000000000) : I64 (l.length : Int) := ⟨by omega, by omega⟩
def joinTo (ls : List (List Int)) (k : Nat) : List Int := (ls.length : Int) :: ((ls.take k).map cnt).flatten
def joinL (ls : List (List Int)) : List Int := (ls.length : Int) :: (ls.map cnt).flatten
theorem joinTo_all (ls : List (List Int)) : joinTo ls ls.length = joinL ls := by simp [joinTo, joinL]
theorem joinTo_zero (ls : List (List Int)) : joinTo ls 0 = [(ls.length : Int)] := by simp [joinTo]
theorem joinTo_succ {ls : List (List Int)} {k : Nat} (h : k < ls.length) : joinTo ls (k + 1) = joinTo ls k ++ cnt ls[k] := by
  unfold joinTo
  rw [List.take_succ_eq_append_getElem h, List.map_append, List.flatten_append]
  simp
theorem joinTo_length {ls : List (List Int)} {k : Nat} (h : k ≤ ls.length) : (joinTo ls k).length = 1 + total (ls.take k) + k := by
  induction k with
  | zero => rw [joinTo_zero]; simp [total]
  | succ k ih =>
    rw [joinTo_succ (by omega), List.length_append, ih (by omega), cnt_length, total_take_succ (by omega)]
    omega
theorem joinTo_le {ls : List (List Int)} {k j : Nat} (h : k ≤ j) (hj : j ≤ ls.length) : (joinTo ls k).length ≤ (joinTo ls j).length := by
  obtain ⟨d, rfl⟩ := Nat.exists_eq_add_of_le h
  clear h
  induction d with
  | zero => exact Nat.le_refl _
  | succ d ih =>
    have := ih (by omega)
    rw [show k + (d + 1) = (k + d) + 1 by omega, joinTo_succ (by omega), List.length_append]
    omega
def jrB (ls : List (List Int)) : Bool := recB (joinL ls)
def jrL (ls : List (List Int)) : List Int := if jrB ls = true then joinL ls else []
theorem recB_len {l : List Int} (h : recB l = true) : l.length ≤ 400 := by
  unfold recB at h; rw [Bool.and_eq_true, decide_eq_true_iff] at h; exact h.1
theorem jrL_length (ls : List (List Int)) : (jrL ls).length ≤ 400 := by
  unfold jrL; split
  · rename_i h; exact recB_len h
  · simp
set_option maxHeartbeats 400000 in
theorem impl_counted (v : Value) (l : List Int) (w : World) (h : Ints w v l) (hl : l.length ≤ 100000000000) :
    Calls Try.prog 198 #[v] w fun e w' => ∃ v', e = .returned v' ∧ OwnI w' w.heap.size v' (cnt l) ∧ Below w.heap.size w w' := by
  obtain ⟨a, n, c, rfl⟩ := h.shape
  have e := h.len
  obtain ⟨k1, k2⟩ := h.capMax
  unfold maxLen at k2
  have hO : Hid (OwnI (w.alloc (.cells #[.int .i64 (n : Int)] 3)) w.heap.size (.slice (some ⟨w.heap.size, 0, none⟩) 1 1) [(n : Int)]) := OwnI.lit1 w (Nat.le_refl _) ⟨by omega, by omega⟩
  have HR : Hid (cnt l = [(n : Int)] ++ l) := by unfold Hid cnt; rw [e]; rfl
  have HE := Lib.hid e
  clear e
  go_enter Try.func198, Try.ntmps198
  go_wp2_with (at_builtin; refine wpList_append_ints rfl _ _ rfl w.heap.size (.slice (some ⟨w.heap.size, 0, none⟩) 1 1) (.slice a n c) [(n : Int)] l rfl hO.out rfl (h.alloc _) (by simp only [List.length_cons, List.length_nil]; omega) (by simp) ?_; intro v' w1 hown1 hgr1)
  go_ret
  exact ⟨_, rfl, by rw [HR.out]; exact hown1, ((Below.refl _ _).alloc (Nat.le_refl _) _).trans (hO.out.grown hgr1 (by simp))⟩
set_option maxHeartbeats 400000 in
theorem impl_isRecord (v : Value) (l : List Int) (w : World) (h : Ints w v l) :
    Calls Try.prog 202 #[v] w fun e w' => e = .returned (.bool (recB l)) ∧ Below w.heap.size w w' := by
  obtain ⟨a, n, c, rfl⟩ := h.shape
  have e := h.len
  obtain ⟨k1, k2⟩ := h.capMax
  unfold maxLen at k2
  by_cases hn : n ≤ 400
  · have HR : Hid (recB l = l.all digestB) := by unfold Hid recB; rw [e]; simp [hn]
    clear e
    have H := Lib.hid h; clear h
    have hn' : decide ((n : Int) ≤ 400) = true := by simp; omega
    go_enter Try.func202, Try.ntmps202
    go_wp2_with fail
    refine (impl_areAll _ l 215 #[] digestB _ H.out (decides_isDigest _)).mono ?_; rintro e w1 ⟨rfl, hb⟩
    go_wp2_with fail
    go_ret
    exact ⟨ret_bool (by first | (rw [HR.out]; done) | (rw [HR.out]; rfl) | exact HR.out.symm), hb⟩
  · have HR : Hid (recB l = false) := by unfold Hid recB; rw [e]; simp [hn]
    clear e
    have H := Lib.hid h; clear h
    have hn' : decide ((n : Int) ≤ 400) = false := by simp; omega
    go_enter Try.func202, Try.ntmps202
    go_wp2_with fail
    go_ret
    exact ⟨ret_bool (by first | (rw [HR.out]; done) | (rw [HR.out]; rfl) | exact HR.out.symm), Below.refl _ _⟩
set_option maxHeartbeats 400000 in
theorem spec_l4Record (v : Value) (l : List Int) (w : World) (h : Ints w v l) :
    Calls Try.prog 191 #[v] w fun e w' => e = .returned (.bool (recB l)) ∧ Below w.heap.size w w' := by
  obtain ⟨a, n, c, rfl⟩ := h.shape
  have e := h.len
  obtain ⟨k1, k2⟩ := h.capMax
  unfold maxLen at k2
  by_cases hn : n ≤ 400
  · have HR : Hid (recB l = l.all digestB) := by unfold Hid recB; rw [e]; simp [hn]
    clear e
    have H := Lib.hid h; clear h
    have hn' : decide ((n : Int) ≤ 400) = true := by simp; omega
    go_enter Try.func191, Try.ntmps191
    go_wp2_with fail
    refine (spec_l1All _ l _ _ _ H.out).mono ?_; rintro e w1 ⟨rfl, rfl⟩
    rw [show (l.all fun x => decide (0 ≤ x ∧ x ≤ 4611686018427387903)) = recB l from HR.out.symm]
    go_wp2_with fail
    go_ret
    exact ⟨rfl, Below.refl _ _⟩
  · have HR : Hid (recB l = false) := by unfold Hid recB; rw [e]; simp [hn]
    clear e
    have H := Lib.hid h; clear h
    have hn' : decide ((n : Int) ≤ 400) = false := by simp; omega
    go_enter Try.func191, Try.ntmps191
    go_wp2_with fail
    go_ret
    exact ⟨ret_bool (by first | (rw [HR.out]; done) | (rw [HR.out]; rfl) | exact HR.out.symm), Below.refl _ _⟩
/-- the list and true, if it is a record -/
theorem impl_record (v : Value) (l : List Int) (w : World) (h : Ints w v l) :
    Calls Try.prog 195 #[v] w fun e w' => e = .returned (.tuple #[if recB l = true then v else .slice none 0 0, .bool (recB l)]) ∧ Below w.heap.size w w' := by
  cases hr : recB l with
  | false =>
    rw [if_neg (by simp)]
    have HR := Lib.hid hr; clear hr
    go_enter Try.func195, Try.ntmps195
    go_wp2_with fail
    refine (impl_isRecord _ l _ h).mono ?_; rintro e w1 ⟨rfl, hb⟩
    rw [HR.out]
    go_wp2_with fail
    go_ret2
    exact ⟨rfl, hb⟩
  | true =>
    rw [if_pos rfl]
    have HR := Lib.hid hr; clear hr
    go_enter Try.func195, Try.ntmps195
    go_wp2_with fail
    refine (impl_isRecord _ l _ h).mono ?_; rintro e w1 ⟨rfl, hb⟩
    rw [HR.out]
    go_wp2_with fail
    go_ret2
    exact ⟨rfl, hb⟩
theorem spec_l4If (v : Value) (l : List Int) (w : World) (h : Ints w v l) :
    Calls Try.prog 102 #[v] w fun e w' => e = .returned (.tuple #[if recB l = true then v else .slice none 0 0, .bool (recB l)]) ∧ Below w.heap.size w w' := by
  cases hr : recB l with
  | false =>
    rw [if_neg (by simp)]
    have HR := Lib.hid hr; clear hr
    go_enter Try.func102, Try.ntmps102
    go_wp2_with fail
    refine (spec_l4Record _ l _ h).mono ?_; rintro e w1 ⟨rfl, hb⟩
    rw [HR.out]
    go_wp2_with fail
    go_ret2
    exact ⟨rfl, hb⟩
  | true =>
    rw [if_pos rfl]
    have HR := Lib.hid hr; clear hr
    go_enter Try.func102, Try.ntmps102
    go_wp2_with fail
    refine (spec_l4Record _ l _ h).mono ?_; rintro e w1 ⟨rfl, hb⟩
    rw [HR.out]
    go_wp2_with fail
    go_ret2
    exact ⟨rfl, hb⟩
set_option maxHeartbeats 400000 in
theorem spec_l4Put (w0 : World) (vo v : Value) (lo l : List Int) (w : World) (ho : OwnI w w0.heap.size vo lo) (h : Ints w0 v l) (hb : Below w0.heap.size w0 w) (hl : lo.length + l.length ≤ 100000000000) :
    Calls Try.prog 251 #[vo, v] w fun e w' => ∃ v', e = .returned v' ∧ OwnI w' w0.heap.size v' (lo ++ cnt l) ∧ Below w0.heap.size w0 w' := by
  obtain ⟨a, n, c, rfl⟩ := h.shape
  have e := h.len
  obtain ⟨k1, k2⟩ := h.capMax
  unfold maxLen at k2
  have hi : I64 (n : Int) := ⟨by omega, by omega⟩
  have HR : Hid (lo ++ cnt l = (lo ++ [(n : Int)]) ++ l) := by unfold Hid cnt; rw [e, List.append_assoc]; rfl
  have hB := hb.size
  obtain ⟨a2, c2, rfl⟩ := ho.shape
  have HE : Hid (lo.length + l.length ≤ 100000000000) := hl
  clear e
  go_enter Try.func251, Try.ntmps251
  have hA : Hid (Below w0.heap.size w0 (w.alloc (.cells #[.int .i64 (n : Int)] 3))) := hb.alloc hB _
  go_wp2_with (first
    | (at_builtin; refine wpList_append_ints rfl _ _ rfl w0.heap.size (.slice a2 lo.length c2) (.slice (some ⟨w.heap.size, 0, none⟩) 1 1) lo [(n : Int)] rfl (ho.alloc _) rfl (Ints.lit1 _ hi) (by simp only [List.length_cons, List.length_nil]; omega) (by simp; omega) ?_; intro v1 w1 hown1 hgr1; have hb1 := hA.out.trans ((ho.alloc _).grown hgr1 (by simp; omega)); have hs1 := hb1.size; have HG1 := Lib.hid hgr1; clear hgr1; obtain ⟨a3, c3, hv1⟩ := hown1.shape; simp only [List.length_append, List.length_cons, List.length_nil, Nat.zero_add] at hv1; subst hv1)
    | (at_builtin; refine wpList_append_ints rfl _ _ rfl w0.heap.size (.slice a3 (lo.length + 1) c3) (.slice a n c) (lo ++ [(n : Int)]) l rfl hown1 rfl (h.below hb1) (by simp only [List.length_append, List.length_cons, List.length_nil]; omega) (by have := HG1.out.size; simp at this; omega) ?_; intro v2 w2 hown2 hgr2))
  go_ret
  exact ⟨_, rfl, by rw [HR.out]; exact hown2, hb1.trans (hown1.grown hgr2 (by have := HG1.out.size; simp at this; omega))⟩
set_option maxHeartbeats 1000000 in
theorem spec_cJoin (v : Value) (ls : List (List Int)) (w : World) (h : RdL kInts w v ls) (hl : (ls.length : Int) + total ls ≤ 1000000000) :
    Calls Try.prog 194 #[v] w fun e w' => ∃ v', e = .returned v' ∧ OwnI w' w.heap.size v' (joinL ls) ∧ Below w.heap.size w w' := by
  obtain ⟨a, n, c, rfl⟩ := h.shape
  have e := h.len
  have HE := Lib.hid e
  obtain ⟨k1, k2⟩ := h.capMax
  unfold maxLen at k2
  have HT : Hid ((ls.length : Int) + total ls ≤ 1000000000) := hl
  have hn : n ≤ 1000000000 := by omega
  have hO : Hid (OwnI (w.alloc (.cells #[.int .i64 (n : Int)] 3)) w.heap.size (.slice (some ⟨w.heap.size, 0, none⟩) 1 1) (joinTo ls 0)) := by
    unfold Hid; rw [joinTo_zero, e]; exact OwnI.lit1 w (Nat.le_refl _) ⟨by omega, by omega⟩
  have H := Lib.hid h; clear h e hl
  go_enter Try.func194, Try.ntmps194
  go_wp2_with fail
  go_loopg [3, 11] n (fun g ov i wr => ∃ k : Nat, k + g = n ∧ i = .int .i64 k ∧ OwnI wr w.heap.size ov (joinTo ls k) ∧ Below w.heap.size w wr)
  case atStart => exact ⟨0, by omega, rfl, hO.out, by (repeat (first | exact Below.refl _ _ | assumption | refine Below.drew ?_ | refine Below.alloc ?_ (by first | (simp; done) | (simp; omega)) _ | refine Below.setCell ?_ (by first | (simp; done) | (simp; omega)) _))⟩
  case round =>
    obtain ⟨k, hkg, rfl, hOwn, hb⟩ := hrel
    have HO := Lib.hid hOwn; clear hOwn
    by_cases hlt : k < n
    · have HK : Hid (k < ls.length) := by unfold Hid; rw [HE.out]; exact hlt
      obtain ⟨b, o, rfl, us, hcx⟩ := H.out.at_ (by omega)
      obtain ⟨hy, hr⟩ := hcx k HK.out
      have HR := Lib.hid hr; clear hr hcx
      rw [← hb.cell (p := ⟨b, o + k, none⟩) (World.block_lt_of_cell? w _ hy)] at hy
      have HS := Lib.hid (joinTo_succ HK.out)
      have HL : Hid ((joinTo ls k).length + (ls[k]'HK.out).length ≤ 100000000000) := by
        have h1 := joinTo_length (ls := ls) (k := k) (Nat.le_of_lt HK.out)
        have h2 := total_take_succ HK.out
        have h3 := total_take_le (ls := ls) (k := k + 1)
        have h4 := HT.out
        have h5 := HK.out
        unfold Hid; omega
      have HB := Lib.hid hb; clear hb
      go_wp2_with fail
      refine (spec_l4Put w _ _ (joinTo ls k) _ _ HO.out HR.out HB.out HL.out).mono ?_
      rintro e w1 ⟨v', rfl, hX, hb1⟩
      rw [← HS.out] at hX
      have HX := Lib.hid hX; clear hX
      go_wp2_with fail
      go_roundg (n - (k + 1))
      case measure => omega
      case rel => exact ⟨k + 1, by omega, by go_num, HX.out, hb1⟩
    · obtain rfl : n = k := by omega
      have HF : Hid (joinTo ls n = joinL ls) := by unfold Hid; rw [← HE.out]; exact joinTo_all ls
      have HB := Lib.hid hb; clear hb
      go_wp2_with fail
      go_ret
      exact ⟨_, rfl, by rw [← HF.out]; exact HO.out, HB.out⟩
set_option maxHeartbeats 1000000 in
theorem impl_JoinRecords (v : Value) (ls : List (List Int)) (w : World) (hl : (ls.length : Int) + total ls ≤ 1000000000) (h : RdL kInts w v ls) :
    Calls Try.prog 108 #[v] w fun e w' => ∃ v', e = .returned (.tuple #[v', .bool (jrB ls)]) ∧ InI w' w.heap.size w'.heap.size v' (jrL ls) ∧ Below w.heap.size w w' := by
  obtain ⟨a, n, c, rfl⟩ := h.shape
  have e := h.len
  have HE := Lib.hid e
  obtain ⟨k1, k2⟩ := h.capMax
  unfold maxLen at k2
  have HT : Hid ((ls.length : Int) + total ls ≤ 1000000000) := hl
  have hn : n ≤ 1000000000 := by omega
  have hO : Hid (OwnI (w.alloc (.cells #[.int .i64 (n : Int)] 3)) w.heap.size (.slice (some ⟨w.heap.size, 0, none⟩) 1 1) (joinTo ls 0)) := by
    unfold Hid; rw [joinTo_zero, e]; exact OwnI.lit1 w (Nat.le_refl _) ⟨by omega, by omega⟩
  have H := Lib.hid h; clear h e hl
  go_enter Try.func108, Try.ntmps108
  go_wp2_with fail
  go_loopg [4, 12] n (fun g ov i wr => ∃ k : Nat, k + g = n ∧ i = .int .i64 k ∧ OwnI wr w.heap.size ov (joinTo ls k) ∧ Below w.heap.size w wr)
  case atStart => exact ⟨0, by omega, rfl, hO.out, by (repeat (first | exact Below.refl _ _ | assumption | refine Below.drew ?_ | refine Below.alloc ?_ (by first | (simp; done) | (simp; omega)) _ | refine Below.setCell ?_ (by first | (simp; done) | (simp; omega)) _))⟩
  case round =>
    obtain ⟨k, hkg, rfl, hOwn, hb⟩ := hrel
    have HO := Lib.hid hOwn
    by_cases hlt : k < n
    · have HK : Hid (k < ls.length) := by unfold Hid; rw [HE.out]; exact hlt
      obtain ⟨b, o, rfl, us, hcx⟩ := H.out.at_ (by omega)
      obtain ⟨hy, hr⟩ := hcx k HK.out
      have HR := Lib.hid (Ints.below hr hb); clear hr hcx
      rw [← hb.cell (p := ⟨b, o + k, none⟩) (World.block_lt_of_cell? w _ hy)] at hy
      have HS := Lib.hid (joinTo_succ HK.out)
      have HL : Hid ((joinTo ls k).length + (cnt (ls[k]'HK.out)).length ≤ 100000000000) := by
        have h1 := joinTo_length (ls := ls) (k := k) (Nat.le_of_lt HK.out)
        have h2 := total_take_succ HK.out
        have h3 := total_take_le (ls := ls) (k := k + 1)
        have h4 := HT.out
        have h5 := HK.out
        unfold Hid; rw [cnt_length]; omega
      have hB := hb.size
      have HB := Lib.hid hb; clear hb
      obtain ⟨a3, c3, rfl⟩ := hOwn.shape
      clear hOwn
      go_wp2_with fail
      refine (impl_counted _ _ _ HR.out (by have := HL.out; rw [cnt_length] at this; omega)).mono ?_
      rintro e w1 ⟨v1, rfl, hX, hb1⟩
      have HX := Lib.hid hX
      obtain ⟨a4, c4, rfl⟩ := hX.shape
      clear hX
      have HB1 := Lib.hid hb1
      have hs1 := hb1.size
      clear hb1
      obtain ⟨q, hq⟩ : ∃ q, (joinTo ls (k + 1)).length = q := ⟨_, rfl⟩
      have HQ := Lib.hid hq
      have hqb : q ≤ 100000000000 := by rw [← hq, HS.out, List.length_append]; exact HL.out
      clear hq
      by_cases h400 : q ≤ 400
      · go_wp2_with (at_builtin; refine wpList_append_ints rfl _ _ rfl w.heap.size (.slice a3 _ c3) (.slice a4 _ c4) (joinTo ls k) (cnt (ls[k]'HK.out)) rfl (HO.out.below HB1.out) rfl HX.out.ints (by have := HL.out; omega) (by omega) ?_; intro v2 w2 hown2 hgr2; rw [← HS.out] at hown2; have HO2 := Lib.hid hown2; obtain ⟨a5, c5, hv2⟩ := hown2.shape; rw [HQ.out] at hv2; clear hown2; have HG2 := Lib.hid hgr2; clear hgr2; subst hv2)
        go_roundg (n - (k + 1))
        case measure => omega
        case rel => exact ⟨k + 1, by omega, by go_num, HO2.out, (keep_b HB1.out HB.out).trans ((HO.out.below HB1.out).grown HG2.out (by omega))⟩
      · have HJ : Hid (jrB ls = false) := by
          unfold Hid jrB recB
          have h1 := joinTo_le (ls := ls) (k := k + 1) (j := ls.length) HK.out (Nat.le_refl _)
          rw [joinTo_all, HQ.out] at h1
          rw [decide_eq_false (by omega), Bool.false_and]
        have HJL : Hid (jrL ls = []) := by unfold Hid jrL; rw [HJ.out, if_neg (by simp)]
        go_wp2_with (at_builtin; refine wpList_append_ints rfl _ _ rfl w.heap.size (.slice a3 _ c3) (.slice a4 _ c4) (joinTo ls k) (cnt (ls[k]'HK.out)) rfl (HO.out.below HB1.out) rfl HX.out.ints (by have := HL.out; omega) (by omega) ?_; intro v2 w2 hown2 hgr2; rw [← HS.out] at hown2; have HO2 := Lib.hid hown2; obtain ⟨a5, c5, hv2⟩ := hown2.shape; rw [HQ.out] at hv2; clear hown2; have HG2 := Lib.hid hgr2; clear hgr2; subst hv2)
        go_ret2
        exact ⟨.slice none 0 0, (by rw [HJ.out]; rfl), by rw [HJL.out]; exact InI.of_own (OwnI.nil _ _), (keep_b HB1.out HB.out).trans ((HO.out.below HB1.out).grown HG2.out (by omega))⟩
    · obtain rfl : n = k := by omega
      have HF : Hid (joinTo ls n = joinL ls) := by unfold Hid; rw [← HE.out]; exact joinTo_all ls
      clear hOwn
      have HB := Lib.hid hb; clear hb
      rw [HF.out] at HO
      go_wp2_with fail
      refine (impl_record _ _ _ HO.out.ints).mono ?_
      rintro e w2 ⟨rfl, hb2⟩
      cases hj : jrB ls with
      | false =>
        rw [if_neg (by rw [show recB (joinL ls) = false from hj]; simp), show recB (joinL ls) = false from hj]
        have HL : Hid (jrL ls = []) := by unfold Hid jrL; rw [hj, if_neg (by simp)]
        have HJ := Lib.hid hj; clear hj
        go_wp2_with fail
        go_ret2
        exact ⟨.slice none 0 0, (by rw [HJ.out]; rfl), by rw [HL.out]; exact InI.of_own (OwnI.nil _ _), keep_b hb2 HB.out⟩
      | true =>
        rw [if_pos (show recB (joinL ls) = true from hj), show recB (joinL ls) = true from hj]
        have HL : Hid (jrL ls = joinL ls) := by unfold Hid jrL; rw [hj, if_pos rfl]
        have HJ := Lib.hid hj; clear hj
        go_wp2_with fail
        go_ret2
        exact ⟨_, (by rw [HJ.out]; rfl), by rw [HL.out]; exact InI.of_own (HO.out.below hb2), keep_b hb2 HB.out⟩
end Go.Proofs.Ytapfceghgkmgoaa
