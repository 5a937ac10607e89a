/- Walks: Merkle trees. -/
import Derived.Test.YtlapmdcjfopbaaaMerkleP
import Derived.Test.YtlapmdcjfopbaaaBitsLen
namespace Go.Proofs.Ytlapmdcjfopbaaa
open Go.RowKit
set_option linter.unusedSimpArgs false
set_option linter.unusedVariables false

set_option maxHeartbeats 400000 in
theorem impl_half (n : Nat) (w : World) (h2 : 2 ≤ n) (h : n ≤ 65) :
    Calls Try.prog 229 #[.int .i64 n] w fun e w' => e = .returned (.int .i64 (splitN n : Nat)) ∧ w = w' := by
  have hb := bitLen_bd (n - 1) (by omega) (by omega)
  have HS : Hid (splitN n = 2 ^ (Lib.bitLen (n - 1) - 1)) := rfl
  have he : (((n : Int) - 1).toNat) = n - 1 := by omega
  go_enter Try.func229, Try.ntmps229
  go_wp2_with fail
  refine (bits_Len _ _ (by omega) (by omega)).mono ?_
  rintro e w' ⟨rfl, rfl⟩
  rw [he]
  generalize Lib.bitLen (n - 1) = b at *
  clear he
  have hb7 : b = 1 ∨ b = 2 ∨ b = 3 ∨ b = 4 ∨ b = 5 ∨ b = 6 ∨ b = 7 := by omega
  clear hb
  rcases hb7 with rfl | rfl | rfl | rfl | rfl | rfl | rfl
  all_goals
    go_wp2_with fail
    go_ret
    exact ⟨ret_int (by rw [HS.out]; rfl), rfl⟩
set_option maxHeartbeats 400000 in
theorem spec_kSplit (n : Nat) (w : World) (h2 : 1 ≤ n) (h : n ≤ 65) :
    Calls Try.prog 230 #[.int .i64 n] w fun e w' => e = .returned (.int .i64 (splitN n : Nat)) ∧ w = w' := by
  go_enter Try.func230, Try.ntmps230
  go_wp2_with fail
  go_loopg [3] 7 (fun g v wr => ∃ j : Nat, j + g = 7 ∧ v = .int .i64 (2 ^ j : Nat) ∧ Hid (j = 0 ∨ 2 ^ j < n) ∧ wr = w)
  case atStart => exact ⟨0, by omega, rfl, .inl rfl, rfl⟩
  case round =>
    obtain ⟨j, hj, rfl, H, rfl⟩ := hrel
    have hK : Hid (2 ^ (j + 1) = 2 * 2 ^ j) := by unfold Hid; rw [Nat.pow_succ, Nat.mul_comm]
    have hK64 : 2 ^ j ≤ 128 := Nat.le_trans (Nat.pow_le_pow_right (by decide) (show j ≤ 7 by omega)) (by decide)
    have hK0 : 1 ≤ 2 ^ j := Nat.one_le_two_pow
    have HJ : Hid (128 ≤ 2 ^ j ∨ j < 7) := by
      by_cases hj6 : j < 7
      · exact .inr hj6
      · refine .inl ?_
        have := Nat.pow_le_pow_right (n := 2) (by decide) (show 7 ≤ j by omega)
        omega
    by_cases hlt : 2 * 2 ^ j < n
    · have hj7 : j < 7 := by
        rcases HJ.out with h | h <;> omega
      generalize 2 ^ j = K at *
      go_wp2_with fail
      go_roundg (7 - (j + 1))
      case measure => omega
      case rel => exact ⟨j + 1, by omega, by rw [hK.out]; go_num, .inr (by rw [hK.out]; exact hlt), rfl⟩
    · have hj7 : j < 7 := by
        rcases H.out with rfl | h
        · omega
        · rcases HJ.out with h | h <;> omega
      have HS : Hid (splitN n = 2 ^ j) := splitN_of n (by omega) j hj7 H.out hlt
      generalize 2 ^ j = K at *
      go_wp2_with fail
      go_ret
      exact ⟨ret_int (by rw [HS.out]), rfl⟩
theorem node_ok {a b : Int} (ha : digestB a = true) (hb : digestB b = true) : labelledB sNode [a, b] = true ∧ labelledI sNode [a, b] = node a b := by
  have h : labelledB sNode [a, b] = true := by
    unfold labelledB hashable
    rw [List.all_append, List.length_append, lab_length, lab_all _ (by decide)]
    simp [ha, hb]; decide
  refine ⟨h, ?_⟩
  unfold labelledI
  rw [if_pos h]; rfl
set_option maxHeartbeats 400000 in
theorem impl_nodeOf (a b : Int) (w : World) (ha : digestB a = true) (hb : digestB b = true) :
    Calls Try.prog 172 #[.int .i64 a, .int .i64 b] w fun e w' => e = .returned (.int .i64 (node a b)) ∧ Below w.heap.size w w' := by
  obtain ⟨h1, h2⟩ := node_ok ha hb
  have H1 := Lib.hid h1; clear h1
  have H2 := Lib.hid h2; clear h2
  simp only [digestB, decide_eq_true_iff] at ha hb
  have hO : Hid (OwnI (w.alloc (.cells #[.int .i64 a, .int .i64 b] 3)) w.heap.size (.slice (some ⟨w.heap.size, 0, none⟩) 2 2) [a, b]) :=
    OwnI.lit w (Nat.le_refl _) (AllI64.cons ⟨by omega, by omega⟩ (AllI64.one ⟨by omega, by omega⟩)) rfl (by simp [maxLen]) 2 rfl
  clear ha hb
  go_enter Try.func172, Try.ntmps172
  go_wp2_with fail
  refine (impl_HashLabelled sNode _ [a, b] _ hO.out.ints (by decide) (by simp)).mono ?_
  rintro e w1 ⟨rfl, hb⟩
  rw [H1.out, H2.out]
  go_wp2_with fail
  go_ret
  exact ⟨rfl, (by (repeat (first | exact Below.refl _ _ | assumption | refine Below.drew ?_ | refine Below.alloc ?_ (by first | (simp; done) | (simp; omega)) _ | refine Below.setCell ?_ (by first | (simp; done) | (simp; omega)) _)) : Below w.heap.size w (w.alloc _)).trans (hb.mono (by simp))⟩
set_option maxHeartbeats 400000 in
theorem spec_kNode (a b : Int) (w : World) (ha : digestB a = true) (hb : digestB b = true) :
    Calls Try.prog 235 #[.int .i64 a, .int .i64 b] w fun e w' => e = .returned (.int .i64 (node a b)) ∧ Below w.heap.size w w' := by
  have hall : Hid (([a, b] : List Int).all digestB = true) := by unfold Hid; simp [ha, hb]
  simp only [digestB, decide_eq_true_iff] at ha hb
  have hO : Hid (OwnI (w.alloc (.cells #[.int .i64 a, .int .i64 b] 3)) w.heap.size (.slice (some ⟨w.heap.size, 0, none⟩) 2 2) [a, b]) :=
    OwnI.lit w (Nat.le_refl _) (AllI64.cons ⟨by omega, by omega⟩ (AllI64.one ⟨by omega, by omega⟩)) rfl (by simp [maxLen]) 2 rfl
  clear ha hb
  go_enter Try.func235, Try.ntmps235
  go_wp2_with fail
  refine (spec_hLabelled sNode _ [a, b] _ hO.out.ints (by decide) (by simp) hall.out).mono ?_
  rintro e w1 ⟨rfl, hb⟩
  go_wp2_with fail
  go_ret
  exact ⟨rfl, (by (repeat (first | exact Below.refl _ _ | assumption | refine Below.drew ?_ | refine Below.alloc ?_ (by first | (simp; done) | (simp; omega)) _ | refine Below.setCell ?_ (by first | (simp; done) | (simp; omega)) _)) : Below w.heap.size w (w.alloc _)).trans (hb.mono (by simp))⟩
theorem empty_ok : labelledB sEmpty [] = true ∧ labelledI sEmpty [] = emptyD := by
  have h : labelledB sEmpty [] = true := by decide +kernel
  exact ⟨h, by unfold labelledI; rw [if_pos h]; rfl⟩
set_option maxHeartbeats 1000000 in
theorem impl_rootOf (f : Nat) : ∀ (v : Value) (l : List Int) (w : World), Ints w v l → l.length < f → l.length ≤ 64 → l.all digestB = true →
    Calls Try.prog 153 #[v] w fun e w' => e = .returned (.int .i64 (rootN f l)) ∧ Below w.heap.size w w' := by
  induction f with
  | zero => intro v l w _ h; omega
  | succ f ih =>
    intro v l w h hf hl hd
    obtain ⟨a, n, c, rfl⟩ := h.shape
    have e := h.len
    obtain ⟨k1, k2⟩ := h.capMax
    unfold maxLen at k2
    rw [e] at hf hl
    have H := Lib.hid h
    have HD := Lib.hid hd; clear hd
    have HE := Lib.hid e
    have IH := Lib.hid ih; clear ih
    by_cases h0 : n = 0
    · have HR : Hid (rootN (f + 1) l = emptyD) := by unfold Hid; rw [rootN, if_pos (by omega)]
      subst h0
      clear h e
      go_enter Try.func153, Try.ntmps153
      go_wp2_with fail
      refine (impl_HashLabelled sEmpty _ [] _ (Ints.nil _) (by decide) (by simp)).mono ?_
      rintro e w1 ⟨rfl, hb1⟩
      rw [empty_ok.1, empty_ok.2]
      go_wp2_with fail
      go_ret
      exact ⟨ret_int (by first | (rw [HR.out]; done) | (rw [HR.out]; rfl) | exact HR.out.symm), hb1⟩
    · by_cases h1 : n = 1
      · have HR : Hid (rootN (f + 1) l = nth l 0) := by unfold Hid; rw [rootN, if_neg (by omega), if_pos (by omega)]
        subst h1
        obtain ⟨b, o, rfl, hcx⟩ := h.at_ (by omega)
        have hy := hcx 0 (by omega)
        rw [Nat.add_zero] at hy
        clear hcx h e h0
        go_enter Try.func153, Try.ntmps153
        go_wp2_with fail
        go_ret
        exact ⟨ret_int (by first | (rw [HR.out]; done) | (rw [HR.out]; rfl) | exact HR.out.symm), Below.refl _ _⟩
      · obtain ⟨s1, s2, s3⟩ := splitN_bd n (by omega) (by omega)
        have HR : Hid (rootN (f + 1) l = node (rootN f (l.take (splitN n))) (rootN f (l.drop (splitN n)))) := by unfold Hid; rw [rootN, if_neg (by omega), if_neg (by omega), e]
        have h2 : 2 ≤ n := by omega
        clear h0 h1 h e
        go_enter Try.func153, Try.ntmps153
        go_wp2_with fail
        refine (impl_half n _ h2 (by omega)).mono ?_
        rintro e w' ⟨rfl, rfl⟩
        generalize hsn : splitN n = sn at *
        have HSN := Lib.hid hsn; clear hsn
        go_wp2_with fail
        refine (IH.out _ (l.take sn) _ (H.out.take (by omega)) (by simp [HE.out]; omega) (by simp [HE.out]; omega) (all_take HD.out _)).mono ?_
        rintro e w1 ⟨rfl, hb1⟩
        go_wp2_with fail
        refine (impl_half n _ h2 (by omega)).mono ?_
        rintro e w' ⟨rfl, rfl⟩
        rw [HSN.out]
        go_wp2_with fail
        refine (IH.out _ (l.drop sn) _ ((H.out.drop' (by omega) (by omega)).below hb1) (by simp [HE.out]; omega) (by simp [HE.out]; omega) (all_drop HD.out _)).mono ?_
        rintro e w2 ⟨rfl, hb2⟩
        go_wp2_with fail
        refine (impl_nodeOf _ _ _ (rootN_digest (all_take HD.out _)) (rootN_digest (all_drop HD.out _))).mono ?_
        rintro e w3 ⟨rfl, hb3⟩
        go_wp2_with fail
        go_ret
        exact ⟨ret_int (by first | (rw [HR.out]; done) | (rw [HR.out]; rfl) | exact HR.out.symm), hb1.trans ((hb2.mono hb1.size).trans (hb3.mono (Nat.le_trans hb1.size hb2.size)))⟩
set_option maxHeartbeats 1000000 in
theorem spec_kRoot (f : Nat) : ∀ (v : Value) (l : List Int) (w : World), Ints w v l → l.length < f → l.length ≤ 64 → l.all digestB = true →
    Calls Try.prog 158 #[v] w fun e w' => e = .returned (.int .i64 (rootN f l)) ∧ Below w.heap.size w w' := by
  induction f with
  | zero => intro v l w _ h; omega
  | succ f ih =>
    intro v l w h hf hl hd
    obtain ⟨a, n, c, rfl⟩ := h.shape
    have e := h.len
    obtain ⟨k1, k2⟩ := h.capMax
    unfold maxLen at k2
    rw [e] at hf hl
    have H := Lib.hid h
    have HD := Lib.hid hd; clear hd
    have HE := Lib.hid e
    have IH := Lib.hid ih; clear ih
    by_cases h0 : n = 0
    · have HR : Hid (rootN (f + 1) l = emptyD) := by unfold Hid; rw [rootN, if_pos (by omega)]
      subst h0
      clear h e
      go_enter Try.func158, Try.ntmps158
      go_wp2_with fail
      refine (spec_hLabelled sEmpty _ [] _ (Ints.nil _) (by decide) (by simp) rfl).mono ?_
      rintro e w1 ⟨rfl, hb1⟩
      go_wp2_with fail
      go_ret
      exact ⟨ret_int (by first | (rw [HR.out]; done) | (rw [HR.out]; rfl) | exact HR.out.symm), hb1⟩
    · by_cases h1 : n = 1
      · have HR : Hid (rootN (f + 1) l = nth l 0) := by unfold Hid; rw [rootN, if_neg (by omega), if_pos (by omega)]
        subst h1
        obtain ⟨b, o, rfl, hcx⟩ := h.at_ (by omega)
        have hy := hcx 0 (by omega)
        rw [Nat.add_zero] at hy
        clear hcx h e h0
        go_enter Try.func158, Try.ntmps158
        go_wp2_with fail
        go_ret
        exact ⟨ret_int (by first | (rw [HR.out]; done) | (rw [HR.out]; rfl) | exact HR.out.symm), Below.refl _ _⟩
      · obtain ⟨s1, s2, s3⟩ := splitN_bd n (by omega) (by omega)
        have HR : Hid (rootN (f + 1) l = node (rootN f (l.take (splitN n))) (rootN f (l.drop (splitN n)))) := by unfold Hid; rw [rootN, if_neg (by omega), if_neg (by omega), e]
        have h2 : 2 ≤ n := by omega
        clear h0 h1 h e
        go_enter Try.func158, Try.ntmps158
        go_wp2_with fail
        refine (spec_kSplit n _ (by omega) (by omega)).mono ?_
        rintro e w' ⟨rfl, rfl⟩
        generalize hsn : splitN n = sn at *
        have HSN := Lib.hid hsn; clear hsn
        go_wp2_with fail
        have z1 : (0 : Int) ≤ (sn : Int) := by omega
        have z2 : (sn : Int) ≤ (c : Int) := by omega
        have z3 : (sn : Int) ≤ (n : Int) := by omega
        go_region_held3 (fun w' => Below w.heap.size w w') (first | exact (Below.refl _ _).drew | exact keep_b (by assumption) (by assumption)) ((first | (go_at_call 158; (with_reducible refine (IH.out (.slice a sn c) (l.take sn) _ ((H.out.take (by omega)).below (by assumption)) (by simp [HE.out]; omega) (by simp [HE.out]; omega) (all_take HD.out _)).mono ?_); rintro e w1 ⟨rfl, hb1⟩) | (go_at_call 158; (with_reducible refine (IH.out (.slice (a.map (fun x => x.add sn)) (n - sn) (c - sn)) (l.drop sn) _ ((H.out.drop' (by omega) (by omega)).below (by assumption)) (by simp [HE.out]; omega) (by simp [HE.out]; omega) (all_drop HD.out _)).mono ?_); rintro e w2 ⟨rfl, hb2⟩) | (go_at_call 235; refine (spec_kNode _ _ _ (rootN_digest (all_take HD.out _)) (rootN_digest (all_drop HD.out _))).mono ?_; rintro e w3 ⟨rfl, hb3⟩)))
        go_wp2_with fail
        go_ret
        exact ⟨ret_int (by first | (rw [HR.out]; done) | (rw [HR.out]; rfl) | exact HR.out.symm), by assumption⟩
set_option maxHeartbeats 1000000 in
theorem impl_RootOfFrontier (v : Value) (l : List Int) (w : World) (h : Ints w v l) :
    Calls Try.prog 69 #[v] w fun e w' => e = .returned (.tuple #[.int .i64 (frI l), .bool (frB l)]) ∧ Below w.heap.size w w' := by
  obtain ⟨a, n, c, rfl⟩ := h.shape
  have e := h.len
  obtain ⟨k1, k2⟩ := h.capMax
  unfold maxLen at k2
  have H := Lib.hid h; clear h
  have HE := Lib.hid e
  by_cases hn : n ≤ 7
  · have hn' : ¬ 7 < (n : Int) := by omega
    cases hd : l.all digestB with
    | false =>
      have HB : Hid (frB l = false) := by unfold Hid frB; rw [hd]; simp
      have HI : Hid (frI l = 0) := by unfold Hid frI; rw [HB.out]; simp
      have HD := Lib.hid hd; clear hd e
      go_enter Try.func69, Try.ntmps69
      go_wp2_with fail
      refine (impl_areAll _ l 154 #[] digestB _ H.out (decides_isDigest _)).mono ?_; rintro e w1 ⟨rfl, hb1⟩
      rw [HD.out]
      go_wp2_with fail
      go_ret2
      exact ⟨ret_int_bool (by first | (rw [HI.out]; done) | (rw [HI.out]; rfl) | exact HI.out.symm) (by first | (rw [HB.out]; done) | (rw [HB.out]; rfl) | exact HB.out.symm), hb1⟩
    | true =>
      have HB : Hid (frB l = true) := by unfold Hid frB; rw [hd, e]; simp [hn]
      have HD := Lib.hid hd; clear hd
      by_cases h0 : n = 0
      · have HI : Hid (frI l = emptyD) := by unfold Hid frI; rw [HB.out, if_pos rfl]; unfold frRoot; rw [if_pos (by omega)]
        subst h0
        clear e
        go_enter Try.func69, Try.ntmps69
        go_wp2_with fail
        refine (impl_areAll _ l 154 #[] digestB _ H.out (decides_isDigest _)).mono ?_; rintro e w1 ⟨rfl, hb1⟩
        rw [HD.out]
        go_wp2_with fail
        refine (impl_rootOf 65 _ [] _ (Ints.nil _) (by simp) (by simp) rfl).mono ?_
        rintro e w2 ⟨rfl, hb2⟩
        rw [show rootN 65 [] = emptyD from rfl]
        go_wp2_with fail
        go_ret2
        exact ⟨ret_int_bool (by first | (rw [HI.out]; done) | (rw [HI.out]; rfl) | exact HI.out.symm) (by first | (rw [HB.out]; done) | (rw [HB.out]; rfl) | exact HB.out.symm), hb1.trans (hb2.mono hb1.size)⟩
      · have HI : Hid (frI l = frTo l 0) := by unfold Hid frI; rw [HB.out, if_pos rfl]; unfold frRoot; rw [if_neg (by omega)]
        have HF : Hid (frTo l (n - 1) = nth l (n - 1)) := by unfold Hid; rw [← e]; exact frTo_last l
        have h1 : 1 ≤ n := by omega
        have hz : ((n : Int) == 0) = false := by rw [beq_eq_false_iff_ne]; omega
        obtain ⟨b, o, rfl, hcx⟩ := H.out.at_ (by omega)
        have hy := hcx (n - 1) (by omega)
        rw [← HF.out] at hy
        clear e h0 hcx
        go_enter Try.func69, Try.ntmps69
        go_wp2_with fail
        refine (impl_areAll _ l 154 #[] digestB _ H.out (decides_isDigest _)).mono ?_; rintro e w1 ⟨rfl, hb1⟩
        rw [HD.out]
        rw [← hb1.cell (p := ⟨b, o + (n - 1), none⟩) (World.block_lt_of_cell? w _ hy)] at hy
        go_wp2_with fail
        go_loopg [4, 5] (n - 1) (fun g d i wr => ∃ q : Int, q = (g : Int) - 1 ∧ g ≤ n - 1 ∧ i = .int .i64 q ∧ d = .int .i64 (frTo l g) ∧ Below w.heap.size w wr)
        case atStart => exact ⟨(n : Int) - 2, by omega, by omega, rfl, rfl, hb1⟩
        case round =>
          obtain ⟨q, rfl, hg, rfl, rfl, hb⟩ := hrel
          by_cases hlt : 1 ≤ gk
          · obtain ⟨j, rfl⟩ : ∃ j, gk = j + 1 := ⟨gk - 1, by omega⟩
            have HS : Hid (frTo l j = node (nth l j) (frTo l (j + 1))) := frTo_succ (by rw [HE.out]; omega)
            obtain ⟨b2, o2, hbo, hcx⟩ := (H.out.below hb).at_ (by omega)
            cases hbo
            have hyj := hcx j (by omega)
            clear hcx
            go_wp2_with fail
            refine (impl_nodeOf _ _ _ (nth_digest HD.out _) (frTo_digest HD.out (by rw [HE.out]; omega) _)).mono ?_
            rintro e w2 ⟨rfl, hb2⟩
            rw [← HS.out]
            go_wp2_with fail
            go_roundg j
            case measure => omega
            case rel => exact ⟨_, by omega, by omega, rfl, rfl, hb.trans (hb2.mono hb.size)⟩
          · obtain rfl : gk = 0 := by omega
            go_wp2_with fail
            go_ret2
            exact ⟨ret_int_bool (by first | (rw [HI.out]; done) | (rw [HI.out]; rfl) | exact HI.out.symm) (by first | (rw [HB.out]; done) | (rw [HB.out]; rfl) | exact HB.out.symm), hb⟩
  · have HB : Hid (frB l = false) := by unfold Hid frB; rw [e]; simp [hn]
    have HI : Hid (frI l = 0) := by unfold Hid frI; rw [HB.out]; simp
    have hn' : 7 < (n : Int) := by omega
    clear e hn
    go_enter Try.func69, Try.ntmps69
    go_wp2_with fail
    go_ret2
    exact ⟨ret_int_bool (by first | (rw [HI.out]; done) | (rw [HI.out]; rfl) | exact HI.out.symm) (by first | (rw [HB.out]; done) | (rw [HB.out]; rfl) | exact HB.out.symm), Below.refl _ _⟩
end Go.Proofs.Ytlapmdcjfopbaaa
