/- Draws of Merkle trees' arguments. -/
import Derived.Test.YtlapmdcjfopbaaaCurL
import Derived.Test.YtlapmdcjfopbaaaMerkle6
namespace Go.Proofs.Ytlapmdcjfopbaaa
open Go.RowKit
set_option linter.unusedSimpArgs false
set_option linter.unusedVariables false

theorem incB_parts {l : List Int} {i : Int} (h : incB l i = true) : goodL l = true ∧ l.all digestB = true ∧ 0 ≤ i ∧ i ≤ (l.length : Int) - 1 := by
  unfold incB at h; rw [Bool.and_eq_true, decide_eq_true_iff] at h
  exact ⟨h.1, (goodL_yes h.1).2, h.2.1, h.2.2⟩
theorem conB_parts {l : List Int} {i : Int} (h : conB l i = true) : goodL l = true ∧ l.all digestB = true ∧ 1 ≤ i ∧ i ≤ (l.length : Int) := by
  unfold conB at h; rw [Bool.and_eq_true, decide_eq_true_iff] at h
  exact ⟨h.1, (goodL_yes h.1).2, h.2.1, h.2.2⟩
set_option maxRecDepth 100000 in
theorem spec_DrawRootOf (v : Value) (w : World) (h : Bytes w v) :
    Calls Try.prog 167 #[v] w fun e w' => (∃ v', e = .returned v' ∧ ∃ l, Ints w' v' l ∧ l.length ≤ 100) ∧ Below w.heap.size w w' := by
  obtain ⟨a, m, c, rfl, hk1, hk2, hv⟩ := h
  have HY : Hid (Bytes w (.slice a m c)) := ⟨a, m, c, rfl, hk1, hk2, hv⟩
  clear hv
  unfold maxLen at hk2
  go_enter Try.func167, Try.ntmps167
  go_wp2_with fail
  obtain ⟨W, hW⟩ : ∃ W, W = w.alloc (.cells #[.slice a m c, .int .i64 0, .int .u64 0] 181) := ⟨_, rfl⟩
  rw [← hW]
  have HC : Hid (Cur w W w.heap.size 0) := by unfold Hid; rw [hW]; exact Cur.new w (HY.out)
  have hb : Below w.heap.size w W := by rw [hW]; exact (Below.refl _ _).alloc (Nat.le_refl _) _
  have hg0 : w.heap.size ≤ w.heap.size := Nat.le_refl _
  have HW := Lib.hid (Within.refl w.heap.size (w.heap.size + 1) W)
  have hsW : W.heap.size = w.heap.size + 1 := by rw [hW]; simp
  clear hW
  refine (spec_leaves w _ _ _ HC.out hb (by omega)).mono ?_
  rintro e w1 ⟨⟨v, rfl, l, hl, hlen⟩, hc, hw⟩
  have HL := Lib.hid hl.here; have HB := Lib.hid (hw.belowOf hb (Nat.le_refl _))
  clear hl hc hw
  go_wp2_with fail
  go_ret
  exact ⟨⟨_, rfl, l, HL.out, hlen⟩, HB.out⟩
theorem spec_DrawFrontierOf (v : Value) (w : World) (h : Bytes w v) :
    Calls Try.prog 65 #[v] w fun e w' => (∃ v', e = .returned v' ∧ ∃ l, Ints w' v' l ∧ l.length ≤ 100) ∧ Below w.heap.size w w' := by
  have H := Lib.hid h; clear h
  go_enter Try.func65, Try.ntmps65
  go_wp2_with fail
  refine (spec_DrawRootOf v _ H.out).mono ?_
  rintro e w1 ⟨⟨v, rfl, l, hl, hlen⟩, hb⟩
  have HL := Lib.hid hl; clear hl
  go_wp2_with fail
  go_ret
  exact ⟨⟨_, rfl, l, HL.out, hlen⟩, hb⟩
set_option maxRecDepth 100000 in
set_option maxHeartbeats 1000000 in
theorem spec_DrawInclusionPath (v : Value) (w : World) (h : Bytes w v) :
    Calls Try.prog 51 #[v] w fun e w' => (∃ v' x, e = .returned (.tuple #[v', .int .i64 x]) ∧ ∃ l, Ints w' v' l ∧ l.length ≤ 100 ∧ I64 x) ∧ Below w.heap.size w w' := by
  obtain ⟨a, m, c, rfl, hk1, hk2, hv⟩ := h
  have HY : Hid (Bytes w (.slice a m c)) := ⟨a, m, c, rfl, hk1, hk2, hv⟩
  clear hv
  unfold maxLen at hk2
  go_enter Try.func51, Try.ntmps51
  go_wp2_with fail
  obtain ⟨W, hW⟩ : ∃ W, W = w.alloc (.cells #[.slice a m c, .int .i64 0, .int .u64 0] 181) := ⟨_, rfl⟩
  rw [← hW]
  have HC : Hid (Cur w W w.heap.size 0) := by unfold Hid; rw [hW]; exact Cur.new w (HY.out)
  have hb : Below w.heap.size w W := by rw [hW]; exact (Below.refl _ _).alloc (Nat.le_refl _) _
  have hg0 : w.heap.size ≤ w.heap.size := Nat.le_refl _
  have HW := Lib.hid (Within.refl w.heap.size (w.heap.size + 1) W)
  have hsW : W.heap.size = w.heap.size + 1 := by rw [hW]; simp
  clear hW
  refine (spec_leaves w _ _ _ HC.out hb (by omega)).mono ?_
  rintro e w1 ⟨⟨v, rfl, l, hl, hlen⟩, hc, hw⟩
  have HL := Lib.hid hl
  (replace HC := Lib.hid hc; replace HW := Lib.hid (HW.out.trans hw); clear hc hw)
  obtain ⟨al, nl, cl, rfl⟩ := hl.here.shape
  have e1 := hl.here.len
  have hln : nl ≤ 100 := by omega
  clear hl e1
  go_wp2_with fail
  refine (spec_pick w w.heap.size _ ((nl : Int) + 1) _ HC.out (HW.out.belowOf hb hg0) (by omega)).mono ?_
  rintro e w2 ⟨⟨x, rfl, hx0, hx1, _, _⟩, hc, hw⟩
  replace HL := Lib.hid (HL.out.step hw)
  (replace HC := Lib.hid hc; replace HW := Lib.hid (HW.out.trans hw); clear hc hw)
  go_wp2_with fail
  refine (spec_pick w w.heap.size _ 16 _ HC.out (HW.out.belowOf hb hg0) (by omega)).mono ?_
  rintro e w3 ⟨⟨y, rfl, hy0, hy1, _, _⟩, hc, hw⟩
  replace HL := Lib.hid (HL.out.step hw)
  (replace HC := Lib.hid hc; replace HW := Lib.hid (HW.out.trans hw); clear hc hw)
  go_wp2_with fail
  go_ret2
  exact ⟨⟨_, _, rfl, l, HL.out.here, hlen, by unfold I64; omega⟩, HW.out.belowOf hb (Nat.le_refl _)⟩
set_option maxRecDepth 100000 in
set_option maxHeartbeats 1000000 in
theorem spec_DrawConsistencyPath (v : Value) (w : World) (h : Bytes w v) :
    Calls Try.prog 59 #[v] w fun e w' => (∃ v' x, e = .returned (.tuple #[v', .int .i64 x]) ∧ ∃ l, Ints w' v' l ∧ l.length ≤ 100 ∧ I64 x) ∧ Below w.heap.size w w' := by
  obtain ⟨a, m, c, rfl, hk1, hk2, hv⟩ := h
  have HY : Hid (Bytes w (.slice a m c)) := ⟨a, m, c, rfl, hk1, hk2, hv⟩
  clear hv
  unfold maxLen at hk2
  go_enter Try.func59, Try.ntmps59
  go_wp2_with fail
  obtain ⟨W, hW⟩ : ∃ W, W = w.alloc (.cells #[.slice a m c, .int .i64 0, .int .u64 0] 181) := ⟨_, rfl⟩
  rw [← hW]
  have HC : Hid (Cur w W w.heap.size 0) := by unfold Hid; rw [hW]; exact Cur.new w (HY.out)
  have hb : Below w.heap.size w W := by rw [hW]; exact (Below.refl _ _).alloc (Nat.le_refl _) _
  have hg0 : w.heap.size ≤ w.heap.size := Nat.le_refl _
  have HW := Lib.hid (Within.refl w.heap.size (w.heap.size + 1) W)
  have hsW : W.heap.size = w.heap.size + 1 := by rw [hW]; simp
  clear hW
  refine (spec_leaves w _ _ _ HC.out hb (by omega)).mono ?_
  rintro e w1 ⟨⟨v, rfl, l, hl, hlen⟩, hc, hw⟩
  have HL := Lib.hid hl
  (replace HC := Lib.hid hc; replace HW := Lib.hid (HW.out.trans hw); clear hc hw)
  obtain ⟨al, nl, cl, rfl⟩ := hl.here.shape
  have e1 := hl.here.len
  have hln : nl ≤ 100 := by omega
  clear hl e1
  go_wp2_with fail
  refine (spec_pick w w.heap.size _ ((nl : Int) + 2) _ HC.out (HW.out.belowOf hb hg0) (by omega)).mono ?_
  rintro e w2 ⟨⟨x, rfl, hx0, hx1, _, _⟩, hc, hw⟩
  replace HL := Lib.hid (HL.out.step hw)
  (replace HC := Lib.hid hc; replace HW := Lib.hid (HW.out.trans hw); clear hc hw)
  go_wp2_with fail
  go_ret2
  exact ⟨⟨_, _, rfl, l, HL.out.here, hlen, by unfold I64; omega⟩, HW.out.belowOf hb (Nat.le_refl _)⟩
set_option maxRecDepth 100000 in
set_option maxHeartbeats 1000000 in
theorem spec_DrawPushLeaf (v : Value) (w : World) (h : Bytes w v) :
    Calls Try.prog 70 #[v] w fun e w' => (∃ n v' x, e = .returned (.tuple #[.int .i64 n, v', .int .i64 x]) ∧ ∃ l, Ints w' v' l ∧ I64 x) ∧ Below w.heap.size w w' := by
  obtain ⟨a, m, c, rfl, hk1, hk2, hv⟩ := h
  have HY : Hid (Bytes w (.slice a m c)) := ⟨a, m, c, rfl, hk1, hk2, hv⟩
  clear hv
  unfold maxLen at hk2
  go_enter Try.func70, Try.ntmps70
  go_wp2_with fail
  obtain ⟨W, hW⟩ : ∃ W, W = w.alloc (.cells #[.slice a m c, .int .i64 0, .int .u64 0] 181) := ⟨_, rfl⟩
  rw [← hW]
  have HC : Hid (Cur w W w.heap.size 0) := by unfold Hid; rw [hW]; exact Cur.new w (HY.out)
  have hb : Below w.heap.size w W := by rw [hW]; exact (Below.refl _ _).alloc (Nat.le_refl _) _
  have hg0 : w.heap.size ≤ w.heap.size := Nat.le_refl _
  have HW := Lib.hid (Within.refl w.heap.size (w.heap.size + 1) W)
  have hsW : W.heap.size = w.heap.size + 1 := by rw [hW]; simp
  clear hW
  refine (spec_leaves w _ _ _ HC.out hb (by omega)).mono ?_
  rintro e w1 ⟨⟨v, rfl, l, hl, hlen⟩, hc, hw⟩
  have HL := Lib.hid hl
  (replace HC := Lib.hid hc; replace HW := Lib.hid (HW.out.trans hw); clear hc hw)
  obtain ⟨al, nl, cl, rfl⟩ := hl.here.shape
  clear hl
  have hs1 := HW.out.size
  go_wp2_with fail
  refine (spec_FrontierOf _ l _ HL.out.here).mono ?_
  rintro e w2 ⟨vf, rfl, hf, hb2⟩
  have HF : Hid (Apart w.heap.size w2 fun u => Ints u vf (foL l)) := Apart.of_ownI hf.1 (by omega)
  replace HC := Lib.hid (HC.out.keep hb2); replace HW := Lib.hid (HW.out.trans (Within.of_below hb2))
  clear hf hb2
  go_wp2_with fail
  refine (spec_one w w.heap.size _ 8 _ HC.out (HW.out.belowOf hb hg0) (by omega)).mono ?_
  rintro e w3 ⟨⟨q, rfl⟩, hc, hw⟩
  replace HF := Lib.hid (HF.out.step hw)
  (replace HC := Lib.hid hc; replace HW := Lib.hid (HW.out.trans hw); clear hc hw)
  cases q
  · go_wp2_with fail
    refine (spec_digest w _ _ _ HC.out (HW.out.belowOf hb hg0) (by omega)).mono ?_
    rintro e w4 ⟨⟨x, rfl, hx⟩, hc, hw⟩
    replace HF := Lib.hid (HF.out.step hw)
    have HX := Lib.hid hx; clear hx
    (replace HC := Lib.hid hc; replace HW := Lib.hid (HW.out.trans hw); clear hc hw)
    go_wp2_with fail
    go_ret3
    exact ⟨⟨_, _, _, rfl, _, HF.out.here, HX.out⟩, HW.out.belowOf hb (Nat.le_refl _)⟩
  · go_wp2_with fail
    refine (spec_digests w _ _ _ HC.out (HW.out.belowOf hb hg0) (by omega)).mono ?_
    rintro e w4 ⟨⟨v', rfl, l', hl', hlen'⟩, hc, hw⟩
    clear HF
    have HF := Lib.hid hl'; clear hl'
    (replace HC := Lib.hid hc; replace HW := Lib.hid (HW.out.trans hw); clear hc hw)
    go_wp2_with fail
    refine (spec_digest w _ _ _ HC.out (HW.out.belowOf hb hg0) (by omega)).mono ?_
    rintro e w5 ⟨⟨x, rfl, hx⟩, hc, hw⟩
    replace HF := Lib.hid (HF.out.step hw)
    have HX := Lib.hid hx; clear hx
    (replace HC := Lib.hid hc; replace HW := Lib.hid (HW.out.trans hw); clear hc hw)
    go_wp2_with fail
    go_ret3
    exact ⟨⟨_, _, _, rfl, _, HF.out.here, HX.out⟩, HW.out.belowOf hb (Nat.le_refl _)⟩
set_option maxRecDepth 100000 in
set_option maxHeartbeats 2000000 in
theorem spec_DrawVerifyInclusion (v : Value) (w : World) (h : Bytes w v) :
    Calls Try.prog 57 #[v] w fun e w' => (∃ x i n v' r, e = .returned (.tuple #[.int .i64 x, .int .i64 i, .int .i64 n, v', .int .i64 r]) ∧ ∃ l, Ints w' v' l ∧ I64 x ∧ I64 r) ∧ Below w.heap.size w w' := by
  obtain ⟨a, m, c, rfl, hk1, hk2, hv⟩ := h
  have HY : Hid (Bytes w (.slice a m c)) := ⟨a, m, c, rfl, hk1, hk2, hv⟩
  clear hv
  unfold maxLen at hk2
  go_enter Try.func57, Try.ntmps57
  go_wp2_with fail
  refine (spec_DrawInclusionPath _ _ HY.out).mono ?_
  rintro e w1 ⟨⟨v, i, rfl, l, hl, hlen, hi⟩, hb1⟩
  have HL0 := Lib.hid hl; have HI := Lib.hid hi; have HB1 := Lib.hid hb1
  obtain ⟨al, nl, cl, rfl⟩ := hl.shape
  have HE := Lib.hid hl.len
  have hln : nl ≤ 100 := by rw [← hl.len]; exact hlen
  clear hl hi hb1
  go_wp2_with fail
  obtain ⟨W, hW⟩ : ∃ W, W = w1.alloc (.cells #[.slice a m c, .int .i64 0, .int .u64 0] 181) := ⟨_, rfl⟩
  rw [← hW]
  have HC : Hid (Cur w1 W w1.heap.size 0) := by unfold Hid; rw [hW]; exact Cur.new w1 (Bytes.below HY.out HB1.out)
  have hb : Below w1.heap.size w1 W := by rw [hW]; exact (Below.refl _ _).alloc (Nat.le_refl _) _
  have hg0 : w1.heap.size ≤ w1.heap.size := Nat.le_refl _
  have HW := Lib.hid (Within.refl w1.heap.size (w1.heap.size + 1) W)
  have hsW : W.heap.size = w1.heap.size + 1 := by rw [hW]; simp
  clear hW
  have HL : Hid (Apart w1.heap.size W fun u => Ints u (.slice al nl cl) l) := Apart.of_old (w0 := w1) (fun h hb => Ints.below h hb) HL0.out hb (Nat.le_refl _)
  refine (spec_InclusionPath _ l i _ HL.out.here).mono ?_
  rintro e w2 ⟨vp, rfl, hp, hb2⟩
  have HP : Hid (Apart w1.heap.size w2 fun u => Ints u vp (incL l i)) := Apart.of_ownI hp.1 (by omega)
  replace HC := Lib.hid (HC.out.keep hb2); replace HW := Lib.hid (HW.out.trans (Within.of_below hb2))
  replace HL := Lib.hid (HL.out.step (Within.of_below hb2))
  clear hp hb2
  obtain ⟨q, hq⟩ : ∃ q, incB l i = q := ⟨_, rfl⟩
  have HQ := Lib.hid hq
  rw [hq]; clear hq
  cases q
  · go_wp2_with fail
    refine (spec_digest w1 _ _ _ HC.out (HW.out.belowOf hb hg0) (by omega)).mono ?_
    rintro e w3 ⟨⟨x, rfl, hx⟩, hc, hw⟩
    replace HP := Lib.hid (HP.out.step hw)
    have HX := Lib.hid hx; clear hx
    (replace HC := Lib.hid hc; replace HW := Lib.hid (HW.out.trans hw); clear hc hw)
    go_wp2_with fail
    refine (spec_pick w1 w1.heap.size _ 5 _ HC.out (HW.out.belowOf hb hg0) (by omega)).mono ?_
    rintro e w4 ⟨⟨y, rfl, hy0, hy1, _, _⟩, hc, hw⟩
    replace HP := Lib.hid (HP.out.step hw)
    (replace HC := Lib.hid hc; replace HW := Lib.hid (HW.out.trans hw); clear hc hw)
    go_wp2_with fail
    refine (spec_pick w1 w1.heap.size _ 66 _ HC.out (HW.out.belowOf hb hg0) (by omega)).mono ?_
    rintro e w5 ⟨⟨z, rfl, hz0, hz1, _, _⟩, hc, hw⟩
    replace HP := Lib.hid (HP.out.step hw)
    (replace HC := Lib.hid hc; replace HW := Lib.hid (HW.out.trans hw); clear hc hw)
    go_wp2_with fail
    refine (spec_digest w1 _ _ _ HC.out (HW.out.belowOf hb hg0) (by omega)).mono ?_
    rintro e w6 ⟨⟨r, rfl, hr⟩, hc, hw⟩
    replace HP := Lib.hid (HP.out.step hw)
    have HR := Lib.hid hr; clear hr
    (replace HC := Lib.hid hc; replace HW := Lib.hid (HW.out.trans hw); clear hc hw)
    go_wp2_with fail
    ((try simp only [Exit.inBlock, Exit.then]); refine bodyPost_ret (results_tmp5 rfl _ _ _) rfl ?_)
    exact ⟨⟨_, _, _, _, _, rfl, _, HP.out.here, HX.out, HR.out⟩, Below.next HB1.out (HW.out.belowOf hb (Nat.le_refl _))⟩
  · obtain ⟨hg64, hdg, hi0, hi1⟩ := incB_parts HQ.out
    obtain ⟨j, rfl⟩ := Int.eq_ofNat_of_zero_le hi0
    have hj : (j : Int) < (nl : Int) := by have := HE.out; omega
    have HD := Lib.hid hdg
    clear hdg hi0 hi1 hg64
    go_wp2_with fail
    refine (spec_kRoot 65 _ l _ HL.out.here (by have := (goodL_yes (incB_parts HQ.out).1).1; omega) (by have := (goodL_yes (incB_parts HQ.out).1).1; omega) HD.out).mono ?_
    rintro e w3 ⟨rfl, hb3⟩
    replace HC := Lib.hid (HC.out.keep hb3); replace HW := Lib.hid (HW.out.trans (Within.of_below hb3))
    replace HL := Lib.hid (HL.out.step (Within.of_below hb3)); replace HP := Lib.hid (HP.out.step (Within.of_below hb3))
    clear hb3
    have HRD := Lib.hid (digest_I64 (root_digest HD.out))
    go_wp2_with fail
    refine (spec_one w1 w1.heap.size _ 8 _ HC.out (HW.out.belowOf hb hg0) (by omega)).mono ?_
    rintro e w4 ⟨⟨q, rfl⟩, hc, hw⟩
    replace HL := Lib.hid (HL.out.step hw); replace HP := Lib.hid (HP.out.step hw)
    (replace HC := Lib.hid hc; replace HW := Lib.hid (HW.out.trans hw); clear hc hw)
    obtain ⟨b, o, rfl, hcx⟩ := HL.out.here.at_ (by omega)
    have y1 := hcx j (by omega)
    have HX := Lib.hid (HL.out.here.all.at_ j)
    have HK : Hid (∀ u, Within w1.heap.size (w1.heap.size + 1) w4 u → u.cell? ⟨b, o + j, none⟩ = some (.int .i64 (nth l j))) := fun u hu => by
      obtain ⟨b', o', e', h'⟩ := (HL.out u hu).at_ (by omega)
      cases e'; exact h' j (by omega)
    generalize nth l j = x at y1 HX HK
    clear hcx
    have k0 : (0 : Int) ≤ (j : Int) := by omega
    cases q
    · go_wp2_with fail
      go_region_with (first | (go_at_call 160; refine (spec_spoiltPath w1 _ _ _ _ _ (HC.out.keep (Below.refl _ _).drew) ((HW.out.belowOf hb hg0).drew) (by omega) (HP.out.step (Within.of_below (Below.refl _ _).drew)) (by have := incL_length l j; omega)).mono ?_; rintro e w5 ⟨⟨vq, rfl, lq, hlq, hlq2⟩, hc, hw⟩; (have hw5 := Lib.hid ((Within.of_below (Below.refl _ _).drew).trans hw)); (have y2 := HK.out _ hw5.out)) | fail)
      all_goals
        have HPQ := Lib.hid hlq.here
        have HB5 := Lib.hid ((HW.out.trans hw5.out).belowOf hb (Nat.le_refl _))
        clear hc hw hlq
        go_wp2_with fail
        ((try simp only [Exit.inBlock, Exit.then]); refine bodyPost_ret (results_tmp5 rfl _ _ _) rfl ?_)
        exact ⟨⟨_, _, _, _, _, rfl, _, HPQ.out, HX.out, HRD.out⟩, Below.next HB1.out HB5.out⟩
    · go_wp2_with fail
      refine (spec_digest w1 _ _ _ HC.out (HW.out.belowOf hb hg0) (by omega)).mono ?_
      rintro e w3 ⟨⟨r, rfl, hr⟩, hc, hw⟩
      replace HL := Lib.hid (HL.out.step hw); replace HP := Lib.hid (HP.out.step hw)
      replace HK : Hid (∀ u, Within w1.heap.size (w1.heap.size + 1) w3 u → u.cell? ⟨b, o + j, none⟩ = some (.int .i64 x)) := fun u hu => HK.out u (hw.trans hu)
      clear y1 HRD
      have y1 := HK.out _ (Within.refl _ _ _)
      have HRD := Lib.hid hr
      clear hr
      (replace HC := Lib.hid hc; replace HW := Lib.hid (HW.out.trans hw); clear hc hw)
      obtain ⟨w4, rfl⟩ : ∃ u, u = w3 := ⟨_, rfl⟩
      go_wp2_with fail
      go_region_with (first | (go_at_call 160; refine (spec_spoiltPath w1 _ _ _ _ _ (HC.out.keep (Below.refl _ _).drew) ((HW.out.belowOf hb hg0).drew) (by omega) (HP.out.step (Within.of_below (Below.refl _ _).drew)) (by have := incL_length l j; omega)).mono ?_; rintro e w5 ⟨⟨vq, rfl, lq, hlq, hlq2⟩, hc, hw⟩; (have hw5 := Lib.hid ((Within.of_below (Below.refl _ _).drew).trans hw)); (have y2 := HK.out _ hw5.out)) | fail)
      all_goals
        have HPQ := Lib.hid hlq.here
        have HB5 := Lib.hid ((HW.out.trans hw5.out).belowOf hb (Nat.le_refl _))
        clear hc hw hlq
        go_wp2_with fail
        ((try simp only [Exit.inBlock, Exit.then]); refine bodyPost_ret (results_tmp5 rfl _ _ _) rfl ?_)
        exact ⟨⟨_, _, _, _, _, rfl, _, HPQ.out, HX.out, HRD.out⟩, Below.next HB1.out HB5.out⟩
set_option maxRecDepth 100000 in
set_option maxHeartbeats 2000000 in
theorem spec_DrawVerifyConsistency (v : Value) (w : World) (h : Bytes w v) :
    Calls Try.prog 63 #[v] w fun e w' => (∃ x i n r v', e = .returned (.tuple #[.int .i64 x, .int .i64 i, .int .i64 n, .int .i64 r, v']) ∧ ∃ l, Ints w' v' l ∧ I64 n ∧ I64 r) ∧ Below w.heap.size w w' := by
  obtain ⟨a, m, c, rfl, hk1, hk2, hv⟩ := h
  have HY : Hid (Bytes w (.slice a m c)) := ⟨a, m, c, rfl, hk1, hk2, hv⟩
  clear hv
  unfold maxLen at hk2
  go_enter Try.func63, Try.ntmps63
  go_wp2_with fail
  refine (spec_DrawConsistencyPath _ _ HY.out).mono ?_
  rintro e w1 ⟨⟨v, i, rfl, l, hl, hlen, hi⟩, hb1⟩
  have HL0 := Lib.hid hl; have HI := Lib.hid hi; have HB1 := Lib.hid hb1
  obtain ⟨al, nl, cl, rfl⟩ := hl.shape
  have HE := Lib.hid hl.len
  have hln : nl ≤ 100 := by rw [← hl.len]; exact hlen
  clear hl hi hb1
  go_wp2_with fail
  obtain ⟨W, hW⟩ : ∃ W, W = w1.alloc (.cells #[.slice a m c, .int .i64 0, .int .u64 0] 181) := ⟨_, rfl⟩
  rw [← hW]
  have HC : Hid (Cur w1 W w1.heap.size 0) := by unfold Hid; rw [hW]; exact Cur.new w1 (Bytes.below HY.out HB1.out)
  have hb : Below w1.heap.size w1 W := by rw [hW]; exact (Below.refl _ _).alloc (Nat.le_refl _) _
  have hg0 : w1.heap.size ≤ w1.heap.size := Nat.le_refl _
  have HW := Lib.hid (Within.refl w1.heap.size (w1.heap.size + 1) W)
  have hsW : W.heap.size = w1.heap.size + 1 := by rw [hW]; simp
  clear hW
  have HL : Hid (Apart w1.heap.size W fun u => Ints u (.slice al nl cl) l) := Apart.of_old (w0 := w1) (fun h hb => Ints.below h hb) HL0.out hb (Nat.le_refl _)
  refine (spec_ConsistencyPath _ l i _ HL.out.here).mono ?_
  rintro e w2 ⟨vp, rfl, hp, hb2⟩
  have HP : Hid (Apart w1.heap.size w2 fun u => Ints u vp (conL l i)) := Apart.of_ownI hp.1 (by omega)
  replace HC := Lib.hid (HC.out.keep hb2); replace HW := Lib.hid (HW.out.trans (Within.of_below hb2))
  replace HL := Lib.hid (HL.out.step (Within.of_below hb2))
  clear hp hb2
  obtain ⟨q, hq⟩ : ∃ q, conB l i = q := ⟨_, rfl⟩
  have HQ := Lib.hid hq
  rw [hq]; clear hq
  cases q
  · go_wp2_with fail
    refine (spec_pick w1 w1.heap.size _ 67 _ HC.out (HW.out.belowOf hb hg0) (by omega)).mono ?_
    rintro e w4 ⟨⟨y, rfl, hy0, hy1, _, _⟩, hc, hw⟩
    replace HP := Lib.hid (HP.out.step hw)
    (replace HC := Lib.hid hc; replace HW := Lib.hid (HW.out.trans hw); clear hc hw)
    go_wp2_with fail
    refine (spec_digest w1 _ _ _ HC.out (HW.out.belowOf hb hg0) (by omega)).mono ?_
    rintro e w3 ⟨⟨x, rfl, hx⟩, hc, hw⟩
    replace HP := Lib.hid (HP.out.step hw)
    have HX := Lib.hid hx; clear hx
    (replace HC := Lib.hid hc; replace HW := Lib.hid (HW.out.trans hw); clear hc hw)
    go_wp2_with fail
    refine (spec_digest w1 _ _ _ HC.out (HW.out.belowOf hb hg0) (by omega)).mono ?_
    rintro e w6 ⟨⟨r, rfl, hr⟩, hc, hw⟩
    have HR := Lib.hid hr; clear hr
    (replace HC := Lib.hid hc; replace HW := Lib.hid (HW.out.trans hw); clear hc hw)
    go_wp2_with fail
    ((try simp only [Exit.inBlock, Exit.then]); refine bodyPost_ret (results_tmp5 rfl _ _ _) rfl ?_)
    exact ⟨⟨_, _, _, _, _, rfl, _, Ints.nil _, HX.out, HR.out⟩, Below.next HB1.out (HW.out.belowOf hb (Nat.le_refl _))⟩
  · obtain ⟨hg64, hdg, hi0, hi1⟩ := conB_parts HQ.out
    obtain ⟨j, rfl⟩ := Int.eq_ofNat_of_zero_le (show 0 ≤ i by omega)
    have hj : (j : Int) ≤ (nl : Int) := by have := HE.out; omega
    have HD := Lib.hid hdg
    have h64 : Hid (l.length ≤ 64) := (goodL_yes hg64).1
    have HTD := Lib.hid (all_take hdg j)
    have hs1 := (sl_take HL.out.here (x := (j : Int)) (k := j) rfl (by omega)).1
    clear hdg hi0 hi1 hg64
    go_wp2_with fail
    refine (spec_kRoot 65 _ (l.take j) _ (sl_take HL.out.here (x := (j : Int)) (k := j) rfl (by omega)).2 (by have := h64.out; rw [List.length_take]; omega) (by have := h64.out; rw [List.length_take]; omega) HTD.out).mono ?_
    rintro e w3 ⟨rfl, hb3⟩
    replace HC := Lib.hid (HC.out.keep hb3); replace HW := Lib.hid (HW.out.trans (Within.of_below hb3))
    replace HL := Lib.hid (HL.out.step (Within.of_below hb3)); replace HP := Lib.hid (HP.out.step (Within.of_below hb3))
    clear hb3 hs1
    have HR1 := Lib.hid (digest_I64 (root_digest HTD.out))
    go_wp2_with fail
    refine (spec_kRoot 65 _ l _ HL.out.here (by have := h64.out; omega) h64.out HD.out).mono ?_
    rintro e w4 ⟨rfl, hb3⟩
    replace HC := Lib.hid (HC.out.keep hb3); replace HW := Lib.hid (HW.out.trans (Within.of_below hb3))
    replace HP := Lib.hid (HP.out.step (Within.of_below hb3))
    clear hb3
    have HR2 := Lib.hid (digest_I64 (root_digest HD.out))
    go_wp2_with fail
    refine (spec_one w1 w1.heap.size _ 8 _ HC.out (HW.out.belowOf hb hg0) (by omega)).mono ?_
    rintro e w5 ⟨⟨q, rfl⟩, hc, hw⟩
    replace HP := Lib.hid (HP.out.step hw)
    (replace HC := Lib.hid hc; replace HW := Lib.hid (HW.out.trans hw); clear hc hw)
    cases q
    · go_wp2_with fail
      refine (spec_spoiltPath w1 _ _ _ _ _ HC.out (HW.out.belowOf hb hg0) (by omega) HP.out (by have := conL_length l j; omega)).mono ?_
      rintro e w6 ⟨⟨vq, rfl, lq, hlq, hlq2⟩, hc, hw⟩
      have HPQ := Lib.hid hlq.here
      clear hlq
      (replace HC := Lib.hid hc; replace HW := Lib.hid (HW.out.trans hw); clear hc hw)
      go_wp2_with fail
      ((try simp only [Exit.inBlock, Exit.then]); refine bodyPost_ret (results_tmp5 rfl _ _ _) rfl ?_)
      exact ⟨⟨_, _, _, _, _, rfl, _, HPQ.out, HR1.out, HR2.out⟩, Below.next HB1.out (HW.out.belowOf hb (Nat.le_refl _))⟩
    · go_wp2_with fail
      refine (spec_digest w1 _ _ _ HC.out (HW.out.belowOf hb hg0) (by omega)).mono ?_
      rintro e w3 ⟨⟨r, rfl, hr⟩, hc, hw⟩
      replace HP := Lib.hid (HP.out.step hw)
      have HRD := Lib.hid hr
      clear hr
      (replace HC := Lib.hid hc; replace HW := Lib.hid (HW.out.trans hw); clear hc hw)
      go_wp2_with fail
      refine (spec_spoiltPath w1 _ _ _ _ _ HC.out (HW.out.belowOf hb hg0) (by omega) HP.out (by have := conL_length l j; omega)).mono ?_
      rintro e w6 ⟨⟨vq, rfl, lq, hlq, hlq2⟩, hc, hw⟩
      have HPQ := Lib.hid hlq.here
      clear hlq
      (replace HC := Lib.hid hc; replace HW := Lib.hid (HW.out.trans hw); clear hc hw)
      go_wp2_with fail
      ((try simp only [Exit.inBlock, Exit.then]); refine bodyPost_ret (results_tmp5 rfl _ _ _) rfl ?_)
      exact ⟨⟨_, _, _, _, _, rfl, _, HPQ.out, HRD.out, HR2.out⟩, Below.next HB1.out (HW.out.belowOf hb (Nat.le_refl _))⟩
end Go.Proofs.Ytlapmdcjfopbaaa
