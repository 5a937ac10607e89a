/- Walks: proofs of linear statements are checked. -/
import Derived.Test.YteemlmmdngkghaaBgV
import Derived.Test.YteemlmmdngkghaaSpoilV
import Derived.Test.YteemlmmdngkghaaBaV
namespace Go.Proofs.Yteemlmmdngkghaa
open Go.RowKit
set_option linter.unusedSimpArgs false
set_option linter.unusedVariables false

def vlHead (gr : GroupD) (bs : List (List Int)) (d : ProofD) : Bool := decide (d.c.length = bs.length) && (decide (d.h.length = 1) && (decide (d.r.length = headLen bs) && (d.c.all (elB gr) && d.r.all (expB gr))))
def vlEq (gr : GroupD) (bs : List (List Int)) (ims : List Int) (d : ProofD) (e : Int) (i : Nat) : Bool := prodL gr (bs.getD i []) d.r == mulL gr [nth d.c i, powE gr (nth ims i) e]
def vlE (gr : GroupD) (s : ByteArray) (bs : List (List Int)) (ims : List Int) (d : ProofD) : Int := chV gr s (bs.flatten ++ ims ++ d.c)
/-- the check of the proof of a linear statement -/
def vlB (gr : GroupD) (s : ByteArray) (bs : List (List Int)) (ims : List Int) (d : ProofD) : Bool := vlHead gr bs d && ((nth d.h 0 == vlE gr s bs ims d) && (List.range bs.length).all (vlEq gr bs ims d (vlE gr s bs ims d)))
set_option maxRecDepth 100000 in
set_option maxHeartbeats 4000000 in
theorem impl_verifyLinear_no (gr : GroupD) (s : ByteArray) (vb : Value) (bs : List (List Int)) (vi : Value) (vp : Value) (d : ProofD) (w : World) (hg : OkG gr) (hb : RdL kInts w vb bs) (hp : (kS rProof).rd w vp d) (hb1 : 1 ≤ bs.length) (hno : vlHead gr bs d = false) :
    Calls Try.prog 140 #[.agg #[.int .i64 gr.p, .int .i64 gr.q, .int .i64 gr.g], .string s, vb, vi, vp] w fun e w' => e = .returned (.bool false) ∧ Below w.heap.size w w' := by
  have HG := Lib.hid hg; clear hg
  obtain ⟨p, q, g⟩ := gr
  obtain ⟨ac, nc, cc, ah, nh, ch, ar, nr, cr, rfl, kc, kh, kr⟩ := rdProof.1 hp
  obtain ⟨ab, nb, cb, rfl⟩ := hb.shape
  have ec := kc.len; have eh := kh.len; have er := kr.len; have eb := hb.len
  obtain ⟨b1, b2⟩ := kc.capMax
  obtain ⟨b3, b4⟩ := kh.capMax
  obtain ⟨b5, b6⟩ := kr.capMax
  obtain ⟨b7, b8⟩ := hb.capMax
  unfold maxLen at b2 b4 b6 b8
  have KC := Lib.hid kc; have KH := Lib.hid kh; have KR := Lib.hid kr; have HBS := Lib.hid hb
  clear kc kh kr hb hp
  have h0 : 0 < bs.length := by omega
  have hnb : 0 < nb := by omega
  obtain ⟨bb, oo, rfl, cs, hcx⟩ := HBS.out.at_ hnb
  obtain ⟨hy, hr0⟩ := hcx 0 h0
  rw [Nat.add_zero] at hy
  obtain ⟨a0, n0, c0', hs0⟩ := Ints.shape hr0
  rw [hs0] at hy hr0
  have e0 := Ints.len hr0
  obtain ⟨k5, k6⟩ := Ints.capMax hr0
  unfold maxLen at k6
  have e00 : headLen bs = n0 := by rw [headLen_eq h0]; exact e0
  have HHL := Lib.hid e00
  clear hcx hr0 hs0 e0
  (obtain ⟨q4, h_q⟩ : ∃ b_q, d.c.all (elB ⟨p, q, g⟩) = b_q := ⟨_, rfl⟩); have H4 := Lib.hid h_q; clear h_q
  (obtain ⟨q5, h_q⟩ : ∃ b_q, d.r.all (expB ⟨p, q, g⟩) = b_q := ⟨_, rfl⟩); have H5 := Lib.hid h_q; clear h_q
  obtain ⟨W, hW⟩ : ∃ W, W = (w.alloc (.cells #[.int .i64 p, .int .i64 q, .int .i64 g] 25)).alloc (.cells #[.slice ac nc cc, .slice ah nh ch, .slice ar nr cr] 63) := ⟨_, rfl⟩
  have HB : Hid (Below w.heap.size w W) := by unfold Hid; rw [hW]; (repeat (first | exact Below.refl _ _ | assumption | refine Below.drew ?_ | refine Below.alloc ?_ (by first | (simp; done) | (simp; omega)) _ | refine Below.setCell ?_ (by first | (simp; done) | (simp; omega)) _))
  have C0 : Hid (W.cell? ⟨w.heap.size, 0, none⟩ = some (.int .i64 p)) := by unfold Hid; rw [hW]; simp [go_sem]
  have C1 : Hid (W.cell? ⟨w.heap.size, 1, none⟩ = some (.int .i64 q)) := by unfold Hid; rw [hW]; simp [go_sem]
  have C2 : Hid (W.cell? ⟨w.heap.size, 2, none⟩ = some (.int .i64 g)) := by unfold Hid; rw [hW]; simp [go_sem]
  have D0 : Hid (W.cell? ⟨w.heap.size + 1, 0, none⟩ = some (.slice ac nc cc)) := by unfold Hid; rw [hW]; simp [go_sem]
  have D1 : Hid (W.cell? ⟨w.heap.size + 1, 1, none⟩ = some (.slice ah nh ch)) := by unfold Hid; rw [hW]; simp [go_sem]
  have D2 : Hid (W.cell? ⟨w.heap.size + 1, 2, none⟩ = some (.slice ar nr cr)) := by unfold Hid; rw [hW]; simp [go_sem]
  have HY := Lib.hid (box_at hy HB.out)
  clear hy
  have HWW := Lib.hid hW; clear hW
  have HC : Hid (nc ≠ nb ∨ (nc = nb ∧ nh ≠ 1) ∨ (nc = nb ∧ nh = 1 ∧ nr ≠ n0) ∨ (nc = nb ∧ nh = 1 ∧ nr = n0 ∧ q4 = false) ∨ (nc = nb ∧ nh = 1 ∧ nr = n0 ∧ q4 = true ∧ q5 = false)) := by
    unfold Hid
    unfold vlHead at hno
    rw [H4.out, H5.out, ec, eh, er, eb, e00] at hno
    by_cases x1 : nc = nb <;> by_cases x2 : nh = 1 <;> by_cases x3 : nr = n0 <;> cases q4 <;> cases q5 <;> simp [x1, x2, x3] at hno ⊢
  clear hno ec eh er eb e00
  rcases HC.out with x1 | ⟨x1, x2⟩ | ⟨x1, x2, x3⟩ | ⟨x1, x2, x3, rfl⟩ | ⟨x1, x2, x3, rfl, rfl⟩
  all_goals clear HC
  · have z1 : ((nc : Int) != (nb : Int)) = true := by rw [bne_iff_ne]; omega
    go_enter Try.func140, Try.ntmps140
    go_wp2_with fail
    rw [← HWW.out]
    clear HWW
    have g0 := fun u => grow_cell C0.out u
    have g1 := fun u => grow_cell C1.out u
    have g2 := fun u => grow_cell C2.out u
    have g3 := fun u => grow_cell D0.out u
    have g4 := fun u => grow_cell D1.out u
    have g5 := fun u => grow_cell D2.out u
    have g6 := fun u => grow_cell HY.out u
    (refine wp_region_grow (by kernel_rfl) (by kernel_rfl) ?_; (repeat (go_big_quiet_step ((first | (go_at_call 123; refine calls_grow (impl_hasAll ⟨p, q, g⟩ _ d.c _ HG.out ((KC.out.below HB.out).below (grow_below _ _))) (fun e w' h => ⟨by rw [h.1, H4.out], h.2⟩)) | (go_at_call 90; refine calls_grow (impl_areExps ⟨p, q, g⟩ _ d.r _ HG.out ((KR.out.below HB.out).below (grow_below _ _))) (fun e w' h => ⟨by rw [h.1, H5.out], h.2⟩)) | fail)))); refine wpQuiet_nil ?_; intro _ hw'; obtain ⟨uq, hw''⟩ := hw'; subst hw''; have hbq := grow_below W uq; generalize grow W uq = wq at hbq ⊢)
    go_wp2_with fail
    go_ret
    exact ⟨rfl, Below.next HB.out hbq⟩
  · subst x1
    have z1 : ((nc : Int) != (nc : Int)) = false := by simp
    have z2 : ((nh : Int) != 1) = true := by rw [bne_iff_ne]; omega
    go_enter Try.func140, Try.ntmps140
    go_wp2_with fail
    rw [← HWW.out]
    clear HWW
    have g0 := fun u => grow_cell C0.out u
    have g1 := fun u => grow_cell C1.out u
    have g2 := fun u => grow_cell C2.out u
    have g3 := fun u => grow_cell D0.out u
    have g4 := fun u => grow_cell D1.out u
    have g5 := fun u => grow_cell D2.out u
    have g6 := fun u => grow_cell HY.out u
    (refine wp_region_grow (by kernel_rfl) (by kernel_rfl) ?_; (repeat (go_big_quiet_step ((first | (go_at_call 123; refine calls_grow (impl_hasAll ⟨p, q, g⟩ _ d.c _ HG.out ((KC.out.below HB.out).below (grow_below _ _))) (fun e w' h => ⟨by rw [h.1, H4.out], h.2⟩)) | (go_at_call 90; refine calls_grow (impl_areExps ⟨p, q, g⟩ _ d.r _ HG.out ((KR.out.below HB.out).below (grow_below _ _))) (fun e w' h => ⟨by rw [h.1, H5.out], h.2⟩)) | fail)))); refine wpQuiet_nil ?_; intro _ hw'; obtain ⟨uq, hw''⟩ := hw'; subst hw''; have hbq := grow_below W uq; generalize grow W uq = wq at hbq ⊢)
    go_wp2_with fail
    go_ret
    exact ⟨rfl, Below.next HB.out hbq⟩
  · subst x1; subst x2
    have z1 : ((nc : Int) != (nc : Int)) = false := by simp
    have z3 : ((nr : Int) != (n0 : Int)) = true := by rw [bne_iff_ne]; omega
    go_enter Try.func140, Try.ntmps140
    go_wp2_with fail
    rw [← HWW.out]
    clear HWW
    have g0 := fun u => grow_cell C0.out u
    have g1 := fun u => grow_cell C1.out u
    have g2 := fun u => grow_cell C2.out u
    have g3 := fun u => grow_cell D0.out u
    have g4 := fun u => grow_cell D1.out u
    have g5 := fun u => grow_cell D2.out u
    have g6 := fun u => grow_cell HY.out u
    (refine wp_region_grow (by kernel_rfl) (by kernel_rfl) ?_; (repeat (go_big_quiet_step ((first | (go_at_call 123; refine calls_grow (impl_hasAll ⟨p, q, g⟩ _ d.c _ HG.out ((KC.out.below HB.out).below (grow_below _ _))) (fun e w' h => ⟨by rw [h.1, H4.out], h.2⟩)) | (go_at_call 90; refine calls_grow (impl_areExps ⟨p, q, g⟩ _ d.r _ HG.out ((KR.out.below HB.out).below (grow_below _ _))) (fun e w' h => ⟨by rw [h.1, H5.out], h.2⟩)) | fail)))); refine wpQuiet_nil ?_; intro _ hw'; obtain ⟨uq, hw''⟩ := hw'; subst hw''; have hbq := grow_below W uq; generalize grow W uq = wq at hbq ⊢)
    go_wp2_with fail
    go_ret
    exact ⟨rfl, Below.next HB.out hbq⟩
  · subst x1; subst x2; subst x3
    have z1 : ((nc : Int) != (nc : Int)) = false := by simp
    have z3 : ((nr : Int) != (nr : Int)) = false := by simp
    go_enter Try.func140, Try.ntmps140
    go_wp2_with fail
    rw [← HWW.out]
    clear HWW
    have g0 := fun u => grow_cell C0.out u
    have g1 := fun u => grow_cell C1.out u
    have g2 := fun u => grow_cell C2.out u
    have g3 := fun u => grow_cell D0.out u
    have g4 := fun u => grow_cell D1.out u
    have g5 := fun u => grow_cell D2.out u
    have g6 := fun u => grow_cell HY.out u
    (refine wp_region_grow (by kernel_rfl) (by kernel_rfl) ?_; (repeat (go_big_quiet_step ((first | (go_at_call 123; refine calls_grow (impl_hasAll ⟨p, q, g⟩ _ d.c _ HG.out ((KC.out.below HB.out).below (grow_below _ _))) (fun e w' h => ⟨by rw [h.1, H4.out], h.2⟩)) | (go_at_call 90; refine calls_grow (impl_areExps ⟨p, q, g⟩ _ d.r _ HG.out ((KR.out.below HB.out).below (grow_below _ _))) (fun e w' h => ⟨by rw [h.1, H5.out], h.2⟩)) | fail)))); refine wpQuiet_nil ?_; intro _ hw'; obtain ⟨uq, hw''⟩ := hw'; subst hw''; have hbq := grow_below W uq; generalize grow W uq = wq at hbq ⊢)
    go_wp2_with fail
    go_ret
    exact ⟨rfl, Below.next HB.out hbq⟩
  · subst x1; subst x2; subst x3
    have z1 : ((nc : Int) != (nc : Int)) = false := by simp
    have z3 : ((nr : Int) != (nr : Int)) = false := by simp
    go_enter Try.func140, Try.ntmps140
    go_wp2_with fail
    rw [← HWW.out]
    clear HWW
    have g0 := fun u => grow_cell C0.out u
    have g1 := fun u => grow_cell C1.out u
    have g2 := fun u => grow_cell C2.out u
    have g3 := fun u => grow_cell D0.out u
    have g4 := fun u => grow_cell D1.out u
    have g5 := fun u => grow_cell D2.out u
    have g6 := fun u => grow_cell HY.out u
    (refine wp_region_grow (by kernel_rfl) (by kernel_rfl) ?_; (repeat (go_big_quiet_step ((first | (go_at_call 123; refine calls_grow (impl_hasAll ⟨p, q, g⟩ _ d.c _ HG.out ((KC.out.below HB.out).below (grow_below _ _))) (fun e w' h => ⟨by rw [h.1, H4.out], h.2⟩)) | (go_at_call 90; refine calls_grow (impl_areExps ⟨p, q, g⟩ _ d.r _ HG.out ((KR.out.below HB.out).below (grow_below _ _))) (fun e w' h => ⟨by rw [h.1, H5.out], h.2⟩)) | fail)))); refine wpQuiet_nil ?_; intro _ hw'; obtain ⟨uq, hw''⟩ := hw'; subst hw''; have hbq := grow_below W uq; generalize grow W uq = wq at hbq ⊢)
    go_wp2_with fail
    go_ret
    exact ⟨rfl, Below.next HB.out hbq⟩
set_option maxRecDepth 100000 in
set_option maxHeartbeats 4000000 in
theorem spec_sVerify_no (gr : GroupD) (s : ByteArray) (vb : Value) (bs : List (List Int)) (vi : Value) (vp : Value) (d : ProofD) (w : World) (hg : OkG gr) (hb : RdL kInts w vb bs) (hp : (kS rProof).rd w vp d) (hb1 : 1 ≤ bs.length) (hno : vlHead gr bs d = false) :
    Calls Try.prog 141 #[.agg #[.int .i64 gr.p, .int .i64 gr.q, .int .i64 gr.g], .string s, vb, vi, vp] w fun e w' => e = .returned (.bool false) ∧ Below w.heap.size w w' := by
  have HG := Lib.hid hg; clear hg
  obtain ⟨p, q, g⟩ := gr
  obtain ⟨ac, nc, cc, ah, nh, ch, ar, nr, cr, rfl, kc, kh, kr⟩ := rdProof.1 hp
  obtain ⟨ab, nb, cb, rfl⟩ := hb.shape
  have ec := kc.len; have eh := kh.len; have er := kr.len; have eb := hb.len
  obtain ⟨b1, b2⟩ := kc.capMax
  obtain ⟨b3, b4⟩ := kh.capMax
  obtain ⟨b5, b6⟩ := kr.capMax
  obtain ⟨b7, b8⟩ := hb.capMax
  unfold maxLen at b2 b4 b6 b8
  have KC := Lib.hid kc; have KH := Lib.hid kh; have KR := Lib.hid kr; have HBS := Lib.hid hb
  clear kc kh kr hb hp
  have h0 : 0 < bs.length := by omega
  have hnb : 0 < nb := by omega
  obtain ⟨bb, oo, rfl, cs, hcx⟩ := HBS.out.at_ hnb
  obtain ⟨hy, hr0⟩ := hcx 0 h0
  rw [Nat.add_zero] at hy
  obtain ⟨a0, n0, c0', hs0⟩ := Ints.shape hr0
  rw [hs0] at hy hr0
  have e0 := Ints.len hr0
  obtain ⟨k5, k6⟩ := Ints.capMax hr0
  unfold maxLen at k6
  have e00 : headLen bs = n0 := by rw [headLen_eq h0]; exact e0
  have HHL := Lib.hid e00
  clear hcx hr0 hs0 e0
  (obtain ⟨q4, h_q⟩ : ∃ b_q, d.c.all (elB ⟨p, q, g⟩) = b_q := ⟨_, rfl⟩); have H4 := Lib.hid h_q; clear h_q
  (obtain ⟨q5, h_q⟩ : ∃ b_q, d.r.all (expB ⟨p, q, g⟩) = b_q := ⟨_, rfl⟩); have H5 := Lib.hid h_q; clear h_q
  obtain ⟨W, hW⟩ : ∃ W, W = (w.alloc (.cells #[.int .i64 p, .int .i64 q, .int .i64 g] 25)).alloc (.cells #[.slice ac nc cc, .slice ah nh ch, .slice ar nr cr] 63) := ⟨_, rfl⟩
  have HB : Hid (Below w.heap.size w W) := by unfold Hid; rw [hW]; (repeat (first | exact Below.refl _ _ | assumption | refine Below.drew ?_ | refine Below.alloc ?_ (by first | (simp; done) | (simp; omega)) _ | refine Below.setCell ?_ (by first | (simp; done) | (simp; omega)) _))
  have C0 : Hid (W.cell? ⟨w.heap.size, 0, none⟩ = some (.int .i64 p)) := by unfold Hid; rw [hW]; simp [go_sem]
  have C1 : Hid (W.cell? ⟨w.heap.size, 1, none⟩ = some (.int .i64 q)) := by unfold Hid; rw [hW]; simp [go_sem]
  have C2 : Hid (W.cell? ⟨w.heap.size, 2, none⟩ = some (.int .i64 g)) := by unfold Hid; rw [hW]; simp [go_sem]
  have D0 : Hid (W.cell? ⟨w.heap.size + 1, 0, none⟩ = some (.slice ac nc cc)) := by unfold Hid; rw [hW]; simp [go_sem]
  have D1 : Hid (W.cell? ⟨w.heap.size + 1, 1, none⟩ = some (.slice ah nh ch)) := by unfold Hid; rw [hW]; simp [go_sem]
  have D2 : Hid (W.cell? ⟨w.heap.size + 1, 2, none⟩ = some (.slice ar nr cr)) := by unfold Hid; rw [hW]; simp [go_sem]
  have HY := Lib.hid (box_at hy HB.out)
  clear hy
  have HWW := Lib.hid hW; clear hW
  have HC : Hid (nc ≠ nb ∨ (nc = nb ∧ nh ≠ 1) ∨ (nc = nb ∧ nh = 1 ∧ nr ≠ n0) ∨ (nc = nb ∧ nh = 1 ∧ nr = n0 ∧ q4 = false) ∨ (nc = nb ∧ nh = 1 ∧ nr = n0 ∧ q4 = true ∧ q5 = false)) := by
    unfold Hid
    unfold vlHead at hno
    rw [H4.out, H5.out, ec, eh, er, eb, e00] at hno
    by_cases x1 : nc = nb <;> by_cases x2 : nh = 1 <;> by_cases x3 : nr = n0 <;> cases q4 <;> cases q5 <;> simp [x1, x2, x3] at hno ⊢
  clear hno ec eh er eb e00
  rcases HC.out with x1 | ⟨x1, x2⟩ | ⟨x1, x2, x3⟩ | ⟨x1, x2, x3, rfl⟩ | ⟨x1, x2, x3, rfl, rfl⟩
  all_goals clear HC
  · have z1 : ((nc : Int) != (nb : Int)) = true := by rw [bne_iff_ne]; omega
    go_enter Try.func141, Try.ntmps141
    go_wp2_with fail
    rw [← HWW.out]
    clear HWW
    have g0 := fun u => grow_cell C0.out u
    have g1 := fun u => grow_cell C1.out u
    have g2 := fun u => grow_cell C2.out u
    have g3 := fun u => grow_cell D0.out u
    have g4 := fun u => grow_cell D1.out u
    have g5 := fun u => grow_cell D2.out u
    have g6 := fun u => grow_cell HY.out u
    (refine wp_region_grow (by kernel_rfl) (by kernel_rfl) ?_; (repeat (go_big_quiet_step ((first | (go_at_call 115; refine calls_grow (spec_gIs ⟨p, q, g⟩ _ d.c _ HG.out ((KC.out.below HB.out).below (grow_below _ _))) (fun e w' h => ⟨by rw [h.1, H4.out], h.2⟩)) | (go_at_call 95; refine calls_grow (spec_gExps ⟨p, q, g⟩ _ d.r _ HG.out ((KR.out.below HB.out).below (grow_below _ _))) (fun e w' h => ⟨by rw [h.1, H5.out], h.2⟩)) | fail)))); refine wpQuiet_nil ?_; intro _ hw'; obtain ⟨uq, hw''⟩ := hw'; subst hw''; have hbq := grow_below W uq; generalize grow W uq = wq at hbq ⊢)
    go_wp2_with fail
    go_ret
    exact ⟨rfl, Below.next HB.out hbq⟩
  · subst x1
    have z1 : ((nc : Int) != (nc : Int)) = false := by simp
    have z2 : ((nh : Int) != 1) = true := by rw [bne_iff_ne]; omega
    go_enter Try.func141, Try.ntmps141
    go_wp2_with fail
    rw [← HWW.out]
    clear HWW
    have g0 := fun u => grow_cell C0.out u
    have g1 := fun u => grow_cell C1.out u
    have g2 := fun u => grow_cell C2.out u
    have g3 := fun u => grow_cell D0.out u
    have g4 := fun u => grow_cell D1.out u
    have g5 := fun u => grow_cell D2.out u
    have g6 := fun u => grow_cell HY.out u
    (refine wp_region_grow (by kernel_rfl) (by kernel_rfl) ?_; (repeat (go_big_quiet_step ((first | (go_at_call 115; refine calls_grow (spec_gIs ⟨p, q, g⟩ _ d.c _ HG.out ((KC.out.below HB.out).below (grow_below _ _))) (fun e w' h => ⟨by rw [h.1, H4.out], h.2⟩)) | (go_at_call 95; refine calls_grow (spec_gExps ⟨p, q, g⟩ _ d.r _ HG.out ((KR.out.below HB.out).below (grow_below _ _))) (fun e w' h => ⟨by rw [h.1, H5.out], h.2⟩)) | fail)))); refine wpQuiet_nil ?_; intro _ hw'; obtain ⟨uq, hw''⟩ := hw'; subst hw''; have hbq := grow_below W uq; generalize grow W uq = wq at hbq ⊢)
    go_wp2_with fail
    go_ret
    exact ⟨rfl, Below.next HB.out hbq⟩
  · subst x1; subst x2
    have z1 : ((nc : Int) != (nc : Int)) = false := by simp
    have z3 : ((nr : Int) != (n0 : Int)) = true := by rw [bne_iff_ne]; omega
    go_enter Try.func141, Try.ntmps141
    go_wp2_with fail
    rw [← HWW.out]
    clear HWW
    have g0 := fun u => grow_cell C0.out u
    have g1 := fun u => grow_cell C1.out u
    have g2 := fun u => grow_cell C2.out u
    have g3 := fun u => grow_cell D0.out u
    have g4 := fun u => grow_cell D1.out u
    have g5 := fun u => grow_cell D2.out u
    have g6 := fun u => grow_cell HY.out u
    (refine wp_region_grow (by kernel_rfl) (by kernel_rfl) ?_; (repeat (go_big_quiet_step ((first | (go_at_call 115; refine calls_grow (spec_gIs ⟨p, q, g⟩ _ d.c _ HG.out ((KC.out.below HB.out).below (grow_below _ _))) (fun e w' h => ⟨by rw [h.1, H4.out], h.2⟩)) | (go_at_call 95; refine calls_grow (spec_gExps ⟨p, q, g⟩ _ d.r _ HG.out ((KR.out.below HB.out).below (grow_below _ _))) (fun e w' h => ⟨by rw [h.1, H5.out], h.2⟩)) | fail)))); refine wpQuiet_nil ?_; intro _ hw'; obtain ⟨uq, hw''⟩ := hw'; subst hw''; have hbq := grow_below W uq; generalize grow W uq = wq at hbq ⊢)
    go_wp2_with fail
    go_ret
    exact ⟨rfl, Below.next HB.out hbq⟩
  · subst x1; subst x2; subst x3
    have z1 : ((nc : Int) != (nc : Int)) = false := by simp
    have z3 : ((nr : Int) != (nr : Int)) = false := by simp
    go_enter Try.func141, Try.ntmps141
    go_wp2_with fail
    rw [← HWW.out]
    clear HWW
    have g0 := fun u => grow_cell C0.out u
    have g1 := fun u => grow_cell C1.out u
    have g2 := fun u => grow_cell C2.out u
    have g3 := fun u => grow_cell D0.out u
    have g4 := fun u => grow_cell D1.out u
    have g5 := fun u => grow_cell D2.out u
    have g6 := fun u => grow_cell HY.out u
    (refine wp_region_grow (by kernel_rfl) (by kernel_rfl) ?_; (repeat (go_big_quiet_step ((first | (go_at_call 115; refine calls_grow (spec_gIs ⟨p, q, g⟩ _ d.c _ HG.out ((KC.out.below HB.out).below (grow_below _ _))) (fun e w' h => ⟨by rw [h.1, H4.out], h.2⟩)) | (go_at_call 95; refine calls_grow (spec_gExps ⟨p, q, g⟩ _ d.r _ HG.out ((KR.out.below HB.out).below (grow_below _ _))) (fun e w' h => ⟨by rw [h.1, H5.out], h.2⟩)) | fail)))); refine wpQuiet_nil ?_; intro _ hw'; obtain ⟨uq, hw''⟩ := hw'; subst hw''; have hbq := grow_below W uq; generalize grow W uq = wq at hbq ⊢)
    go_wp2_with fail
    go_ret
    exact ⟨rfl, Below.next HB.out hbq⟩
  · subst x1; subst x2; subst x3
    have z1 : ((nc : Int) != (nc : Int)) = false := by simp
    have z3 : ((nr : Int) != (nr : Int)) = false := by simp
    go_enter Try.func141, Try.ntmps141
    go_wp2_with fail
    rw [← HWW.out]
    clear HWW
    have g0 := fun u => grow_cell C0.out u
    have g1 := fun u => grow_cell C1.out u
    have g2 := fun u => grow_cell C2.out u
    have g3 := fun u => grow_cell D0.out u
    have g4 := fun u => grow_cell D1.out u
    have g5 := fun u => grow_cell D2.out u
    have g6 := fun u => grow_cell HY.out u
    (refine wp_region_grow (by kernel_rfl) (by kernel_rfl) ?_; (repeat (go_big_quiet_step ((first | (go_at_call 115; refine calls_grow (spec_gIs ⟨p, q, g⟩ _ d.c _ HG.out ((KC.out.below HB.out).below (grow_below _ _))) (fun e w' h => ⟨by rw [h.1, H4.out], h.2⟩)) | (go_at_call 95; refine calls_grow (spec_gExps ⟨p, q, g⟩ _ d.r _ HG.out ((KR.out.below HB.out).below (grow_below _ _))) (fun e w' h => ⟨by rw [h.1, H5.out], h.2⟩)) | fail)))); refine wpQuiet_nil ?_; intro _ hw'; obtain ⟨uq, hw''⟩ := hw'; subst hw''; have hbq := grow_below W uq; generalize grow W uq = wq at hbq ⊢)
    go_wp2_with fail
    go_ret
    exact ⟨rfl, Below.next HB.out hbq⟩
/-- what a statement must be for its proof to be checked -/
structure StmtOk (gr : GroupD) (s : ByteArray) (bs : List (List Int)) (ims : List Int) : Prop where
  s40 : s.size ≤ 40
  b1 : 1 ≤ bs.length
  b8 : bs.length ≤ 8
  h8 : headLen bs ≤ 8
  rows : ∀ r ∈ bs, r.length = headLen bs ∧ AllSmall r
  len : ims.length = bs.length
  small : AllSmall ims
theorem sum_le_mul {l : List Nat} {n : Nat} (h : ∀ x ∈ l, x ≤ n) : l.sum ≤ l.length * n := by
  induction l with
  | nil => simp
  | cons a l ih =>
    have h1 := h a (by simp)
    have h2 := ih (fun x hx => h x (by simp [hx]))
    rw [List.sum_cons, List.length_cons, Nat.succ_mul]; omega
theorem StmtOk.total {gr : GroupD} {s : ByteArray} {bs : List (List Int)} {ims : List Int} (h : StmtOk gr s bs ims) : total bs ≤ 64 := by
  have h1 : (bs.map List.length).sum ≤ (bs.map List.length).length * 8 := sum_le_mul fun x hx => by
    obtain ⟨r, hr, rfl⟩ := List.mem_map.1 hx
    have := (h.rows r hr).1; have := h.h8; omega
  rw [List.length_map] at h1
  have := h.b8
  unfold Go.Proofs.Yteemlmmdngkghaa.total; omega
theorem AllSmall.append {a b : List Int} (h : AllSmall a) (h2 : AllSmall b) : AllSmall (a ++ b) := fun x hx => by
  rcases List.mem_append.1 hx with h1 | h1
  · exact h x h1
  · exact h2 x h1
theorem StmtOk.flat {gr : GroupD} {s : ByteArray} {bs : List (List Int)} {ims : List Int} (h : StmtOk gr s bs ims) : AllSmall bs.flatten := fun x hx => by
  obtain ⟨r, hr, hx⟩ := List.mem_flatten.1 hx
  exact (h.rows r hr).2 x hx
theorem vlHead_parts {gr : GroupD} {bs : List (List Int)} {d : ProofD} (h : vlHead gr bs d = true) : d.c.length = bs.length ∧ d.h.length = 1 ∧ d.r.length = headLen bs ∧ d.c.all (elB gr) = true ∧ d.r.all (expB gr) = true := by
  unfold vlHead at h; simpa only [Bool.and_eq_true, decide_eq_true_iff] using h
theorem stmt_digests {gr : GroupD} (hg : OkG gr) {s : ByteArray} {bs : List (List Int)} {ims : List Int} {d : ProofD} (h : StmtOk gr s bs ims) (hh : vlHead gr bs d = true) : (bs.flatten ++ ims ++ d.c).all digestB = true ∧ (bs.flatten ++ ims ++ d.c).length ≤ 80 := by
  obtain ⟨h1, h2, h3, h4, h5⟩ := vlHead_parts hh
  refine ⟨digests_small ((h.flat.append h.small).append (all_small hg h4)), ?_⟩
  have := h.total; have := h.len; have := h.b8
  rw [List.length_append, List.length_append, total_flatten]; omega
theorem vlB_no {gr : GroupD} {s : ByteArray} {bs : List (List Int)} {ims : List Int} {d : ProofD} (h : vlHead gr bs d = false) : vlB gr s bs ims d = false := by unfold vlB; rw [h]; rfl
theorem range_all_false {f : Nat → Bool} {n k : Nat} (hk : k < n) (h : f k = false) : (List.range n).all f = false := by
  rw [List.all_eq_false]; exact ⟨k, List.mem_range.2 hk, by rw [h]; simp⟩
theorem range_all_true {f : Nat → Bool} {n : Nat} (h : ∀ k, k < n → f k = true) : (List.range n).all f = true :=
  List.all_eq_true.2 fun k hk => h k (List.mem_range.1 hk)
end Go.Proofs.Yteemlmmdngkghaa
namespace Go.Proofs.Yteemlmmdngkghaa
open Go.RowKit
set_option linter.unusedSimpArgs false
set_option linter.unusedVariables false
theorem rd3a {W : World} {v1 v2 v3 : Value} {l1 l2 l3 : List Int} (h1 : Ints (W.alloc (.cells #[v1, v2, v3] 26)) v1 l1) (h2 : Ints (W.alloc (.cells #[v1, v2, v3] 26)) v2 l2) (h3 : Ints (W.alloc (.cells #[v1, v2, v3] 26)) v3 l3) :
    RdL kInts (W.alloc (.cells #[v1, v2, v3] 26)) (.slice (some ⟨W.heap.size, 0, none⟩) 3 3) [l1, l2, l3] := by
  refine ⟨some ⟨W.heap.size, 0, none⟩, 3, 3, rfl, rfl, Nat.le_refl _, by unfold maxLen; omega, .inr (.inr ⟨W.heap.size, 0, rfl, fun i => if i = 0 then v1 else if i = 1 then v2 else v3, fun i hi => ?_⟩)⟩
  simp only [List.length_cons, List.length_nil] at hi
  rcases (by omega : i = 0 ∨ i = 1 ∨ i = 2) with rfl | rfl | rfl
  · exact ⟨by simp [go_sem], h1⟩
  · exact ⟨by simp [go_sem], h2⟩
  · exact ⟨by simp [go_sem], h3⟩

set_option maxRecDepth 100000 in
set_option maxHeartbeats 4000000 in
theorem impl_verifyLinear_yes (gr : GroupD) (s : ByteArray) (vb : Value) (bs : List (List Int)) (vi : Value) (ims : List Int) (vp : Value) (d : ProofD) (w : World) (hg : OkG gr) (hb : RdL kInts w vb bs) (hi : Ints w vi ims) (hp : (kS rProof).rd w vp d) (hok : StmtOk gr s bs ims) (hyes : vlHead gr bs d = true) :
    Calls Try.prog 140 #[.agg #[.int .i64 gr.p, .int .i64 gr.q, .int .i64 gr.g], .string s, vb, vi, vp] w fun e w' => e = .returned (.bool (vlB gr s bs ims d)) ∧ Below w.heap.size w w' := by
  have HG := Lib.hid hg; clear hg
  have HOK := Lib.hid hok; clear hok
  have HYES := Lib.hid hyes; clear hyes
  have hb1 := HOK.out.b1
  obtain ⟨ai, ni, ci, rfl⟩ := hi.shape
  have ei := hi.len
  obtain ⟨i1, i2⟩ := hi.capMax
  unfold maxLen at i2
  have HIM := Lib.hid hi; clear hi
  obtain ⟨p, q, g⟩ := gr
  obtain ⟨ac, nc, cc, ah, nh, ch, ar, nr, cr, rfl, kc, kh, kr⟩ := rdProof.1 hp
  obtain ⟨ab, nb, cb, rfl⟩ := hb.shape
  have ec := kc.len; have eh := kh.len; have er := kr.len; have eb := hb.len
  obtain ⟨b1, b2⟩ := kc.capMax
  obtain ⟨b3, b4⟩ := kh.capMax
  obtain ⟨b5, b6⟩ := kr.capMax
  obtain ⟨b7, b8⟩ := hb.capMax
  unfold maxLen at b2 b4 b6 b8
  have KC := Lib.hid kc; have KH := Lib.hid kh; have KR := Lib.hid kr; have HBS := Lib.hid hb
  clear kc kh kr hb hp
  have h0 : 0 < bs.length := by omega
  have hnb : 0 < nb := by omega
  obtain ⟨bb, oo, rfl, cs, hcx⟩ := HBS.out.at_ hnb
  obtain ⟨hy, hr0⟩ := hcx 0 h0
  rw [Nat.add_zero] at hy
  obtain ⟨a0, n0, c0', hs0⟩ := Ints.shape hr0
  rw [hs0] at hy hr0
  have e0 := Ints.len hr0
  obtain ⟨k5, k6⟩ := Ints.capMax hr0
  unfold maxLen at k6
  have e00 : headLen bs = n0 := by rw [headLen_eq h0]; exact e0
  have HHL := Lib.hid e00
  clear hcx hr0 hs0 e0
  (obtain ⟨q4, h_q⟩ : ∃ b_q, d.c.all (elB ⟨p, q, g⟩) = b_q := ⟨_, rfl⟩); have H4 := Lib.hid h_q; clear h_q
  (obtain ⟨q5, h_q⟩ : ∃ b_q, d.r.all (expB ⟨p, q, g⟩) = b_q := ⟨_, rfl⟩); have H5 := Lib.hid h_q; clear h_q
  obtain ⟨W, hW⟩ : ∃ W, W = (w.alloc (.cells #[.int .i64 p, .int .i64 q, .int .i64 g] 25)).alloc (.cells #[.slice ac nc cc, .slice ah nh ch, .slice ar nr cr] 63) := ⟨_, rfl⟩
  have HB : Hid (Below w.heap.size w W) := by unfold Hid; rw [hW]; (repeat (first | exact Below.refl _ _ | assumption | refine Below.drew ?_ | refine Below.alloc ?_ (by first | (simp; done) | (simp; omega)) _ | refine Below.setCell ?_ (by first | (simp; done) | (simp; omega)) _))
  have C0 : Hid (W.cell? ⟨w.heap.size, 0, none⟩ = some (.int .i64 p)) := by unfold Hid; rw [hW]; simp [go_sem]
  have C1 : Hid (W.cell? ⟨w.heap.size, 1, none⟩ = some (.int .i64 q)) := by unfold Hid; rw [hW]; simp [go_sem]
  have C2 : Hid (W.cell? ⟨w.heap.size, 2, none⟩ = some (.int .i64 g)) := by unfold Hid; rw [hW]; simp [go_sem]
  have D0 : Hid (W.cell? ⟨w.heap.size + 1, 0, none⟩ = some (.slice ac nc cc)) := by unfold Hid; rw [hW]; simp [go_sem]
  have D1 : Hid (W.cell? ⟨w.heap.size + 1, 1, none⟩ = some (.slice ah nh ch)) := by unfold Hid; rw [hW]; simp [go_sem]
  have D2 : Hid (W.cell? ⟨w.heap.size + 1, 2, none⟩ = some (.slice ar nr cr)) := by unfold Hid; rw [hW]; simp [go_sem]
  have HY := Lib.hid (box_at hy HB.out)
  clear hy
  have HWW := Lib.hid hW; clear hW
  obtain ⟨x1, x2, x3, x4, x5⟩ := vlHead_parts HYES.out
  obtain ⟨sd, sl⟩ := stmt_digests HG.out HOK.out HYES.out
  have HSL := Lib.hid sl
  have HCH : Hid (chB ⟨p, q, g⟩ s (bs.flatten ++ ims ++ d.c) = true) := chB_yes HG.out sd HOK.out.s40 (by omega)
  have HCI := Lib.hid (chI_yes HCH.out)
  have hebnd := chV_bd HG.out s (bs.flatten ++ ims ++ d.c)
  obtain ⟨E, hE⟩ : ∃ E, chV ⟨p, q, g⟩ s (bs.flatten ++ ims ++ d.c) = E := ⟨_, rfl⟩
  have HE := Lib.hid hE
  rw [hE] at HCI hebnd
  obtain ⟨E0, E1⟩ := hebnd
  simp only [] at E1
  have hq2 := HG.out.q2; have hp2 := HG.out.p2
  simp only [] at hq2 hp2
  have HRES : Hid (vlB ⟨p, q, g⟩ s bs ims d = ((nth d.h 0 == E) && (List.range nb).all (vlEq ⟨p, q, g⟩ bs ims d E))) := by
    unfold Hid vlB vlE; rw [HYES.out, hE, eb]; rfl
  rw [HRES.out]
  obtain rfl : q4 = true := by rw [← H4.out]; exact x4
  obtain rfl : q5 = true := by rw [← H5.out]; exact x5
  obtain rfl : nc = nb := by omega
  obtain rfl : nh = 1 := by omega
  obtain rfl : nr = n0 := by omega
  have HIL : Hid (ims.length = nc) := by unfold Hid; rw [HOK.out.len]; exact eb
  obtain rfl : nc = ni := by have := HIL.out; omega
  have HCL := Lib.hid ec; have HRL := Lib.hid er; have HBL := Lib.hid eb
  have HHLn := Lib.hid eh
  have hn8 : nc ≤ 8 := by have := HOK.out.b8; omega
  clear x1 x2 x3 x4 x5 sd sl hE ec eh er eb e00 ei
  obtain ⟨hk, oh, hah, hcx⟩ := KH.out.at_ (by omega)
  subst hah
  have hyh := hcx 0 (by omega)
  rw [Nat.add_zero] at hyh
  have HYH := Lib.hid (box_at hyh HB.out)
  clear hcx hyh
  obtain ⟨x, hx⟩ : ∃ x, nth d.h 0 = x := ⟨_, rfl⟩
  rw [hx] at HYH ⊢
  clear hx HRES
  have z1 : ((nc : Int) != (nc : Int)) = false := by simp
  have z3 : ((nr : Int) != (nr : Int)) = false := by simp
  go_enter Try.func140, Try.ntmps140
  go_wp2_with fail
  rw [← HWW.out]
  clear HWW
  have g0 := fun u => grow_cell C0.out u
  have g1 := fun u => grow_cell C1.out u
  have g2 := fun u => grow_cell C2.out u
  have g3 := fun u => grow_cell D0.out u
  have g4 := fun u => grow_cell D1.out u
  have g5 := fun u => grow_cell D2.out u
  have g6 := fun u => grow_cell HY.out u
  (refine wp_region_grow (by kernel_rfl) (by kernel_rfl) ?_; (repeat (go_big_quiet_step ((first | (go_at_call 123; refine calls_grow (impl_hasAll ⟨p, q, g⟩ _ d.c _ HG.out ((KC.out.below HB.out).below (grow_below _ _))) (fun e w' h => ⟨by rw [h.1, H4.out], h.2⟩)) | (go_at_call 90; refine calls_grow (impl_areExps ⟨p, q, g⟩ _ d.r _ HG.out ((KR.out.below HB.out).below (grow_below _ _))) (fun e w' h => ⟨by rw [h.1, H5.out], h.2⟩)) | fail)))); refine wpQuiet_nil ?_; intro _ hw'; obtain ⟨uq, hw''⟩ := hw'; subst hw''; have hbq := grow_below W uq; generalize grow W uq = wq at hbq ⊢)
  have HBQ := Lib.hid hbq
  have HBW := Lib.hid (Below.next HB.out hbq)
  have d0 := box_at C0.out hbq
  have d1 := box_at C1.out hbq
  have d2 := box_at C2.out hbq
  have f0 := box_at D0.out hbq
  have f1 := box_at D1.out hbq
  have f2 := box_at D2.out hbq
  have yh := box_at HYH.out hbq
  clear hbq g0 g1 g2 g3 g4 g5 g6 z1 z3
  go_wp2_with fail
  have hsQ := HBW.out.size
  have HYF := Lib.hid (box_at HY.out HBQ.out)
  have HRB : Hid (RdL kInts wq (.slice (some ⟨bb, oo, none⟩) nc cb) bs) := kRows.rd_below HBS.out HBW.out
  have HRI : Hid (Ints wq (.slice ai nc ci) ims) := HIM.out.below HBW.out
  have HRC : Hid (Ints wq (.slice ac nc cc) d.c) := Ints.below KC.out HBW.out
  have HRR : Hid (Ints wq (.slice ar nr cr) d.r) := Ints.below KR.out HBW.out
  have HTB : Hid (total bs ≤ 64) := HOK.out.total
  have HT3 : Hid (total [bs.flatten, ims, d.c] ≤ 80) := by
    have := HSL.out
    rw [List.length_append, List.length_append] at this
    unfold Hid; rw [total3]; omega
  have HF3 : Hid ([bs.flatten, ims, d.c].flatten = bs.flatten ++ ims ++ d.c) := by unfold Hid; simp
  obtain ⟨F, hF⟩ : ∃ F, bs.flatten = F := ⟨_, rfl⟩
  have HFF := Lib.hid hF
  rw [hF] at HSL HCH HCI HE HT3 HF3
  clear hF
  clear h0 hb1 C0 C1 C2 D0 D1 D2 HY HYH
  go_region_held3 (fun w' => Below wq.heap.size wq w' ∧ w'.cell? ⟨w.heap.size, 0, none⟩ = some (.int .i64 p) ∧ w'.cell? ⟨w.heap.size, 1, none⟩ = some (.int .i64 q) ∧ w'.cell? ⟨w.heap.size, 2, none⟩ = some (.int .i64 g) ∧ w'.cell? ⟨w.heap.size + 1, 0, none⟩ = some (.slice ac nc cc)) (first | (have hbq : Below wq.heap.size wq _ := (Below.refl _ _).drew; exact ⟨hbq, box_at d0 hbq, box_at d1 hbq, box_at d2 hbq, box_at f0 hbq⟩) | (refine (fun (hbq : Below wq.heap.size wq _) => ⟨hbq, box_at d0 hbq, box_at d1 hbq, box_at d2 hbq, box_at f0 hbq⟩) ?_; exact keep_b (by with_reducible assumption) (And.left (by assumption))) | (refine (fun (hbq : Below wq.heap.size wq _) => ⟨hbq, box_at d0 hbq, box_at d1 hbq, box_at d2 hbq, box_at f0 hbq⟩) ?_; exact keep_al (And.left (by assumption)) _) | assumption | fail) ((first
    | (go_at_call_of 240 (Value.slice (some ⟨bb, oo, none⟩) nc cb); refine (slices_Concat _ bs _ (kRows.rd_below HRB.out (And.left (by assumption))) (by have := HTB.out; omega)).mono ?_; rintro e w1 ⟨v1, rfl, ho1, hb1⟩; rw [HFF.out] at ho1; (obtain ⟨a1, c1, rfl⟩ := ho1.shape); (have HO1 := Lib.hid ho1); clear ho1)
    | (go_at_call 240; refine (slices_Concat _ [F, ims, d.c] _ (rd3a (HO1.out.ints.alloc _) (HRI.out.below (And.left (by assumption))) (HRC.out.below (And.left (by assumption)))) (by have := HT3.out; omega)).mono ?_; rintro e w2 ⟨v2, rfl, ho2, hb2⟩; (have HO2 := Lib.hid ho2); clear ho2; rw [HF3.out] at HO2)
    | (go_at_call 189; refine (impl_challenge ⟨p, q, g⟩ s _ (F ++ ims ++ d.c) _ HG.out HO2.out.ints (by have := HOK.out.s40; omega) (by have := HSL.out; omega)).mono ?_; rintro e w3 ⟨rfl, hb3⟩; rw [HCI.out, HCH.out])
    | fail))
  have HBX := Lib.hid (‹Below wq.heap.size wq _ ∧ _›).1
  replace d0 := box_at d0 HBX.out
  replace d1 := box_at d1 HBX.out
  replace d2 := box_at d2 HBX.out
  replace f0 := box_at f0 HBX.out
  replace f1 := box_at f1 HBX.out
  replace f2 := box_at f2 HBX.out
  replace yh := box_at yh HBX.out
  have HBY := Lib.hid (Below.next HBW.out HBX.out)
  clear hsQ HO1 HO2
  have hx1 : (0 : Int) < 1 := by omega
  by_cases hxe : x = E
  rotate_left
  · have hxb : (x != E) = true := by rw [bne_iff_ne]; exact hxe
    have HX : Hid ((x == E) = false) := by unfold Hid; rw [beq_eq_false_iff_ne]; exact hxe
    clear hxe
    go_wp2_with fail
    go_ret
    exact ⟨ret_bool (by rw [HX.out]; rfl), HBY.out⟩
  · have hxb : (x != E) = false := by rw [hxe]; simp
    have HX : Hid ((x == E) = true) := by unfold Hid; rw [hxe]; simp
    clear hxe
    have HRW : Hid (∀ r ∈ bs, r.length ≤ d.r.length ∧ AllSmall r) := fun r hr => by
      have h1 := HOK.out.rows r hr
      have h2 := HRL.out; have h3 := HHL.out
      exact ⟨by omega, h1.2⟩
    go_wp2_with fail
    refine (impl_images ⟨p, q, g⟩ _ bs _ d.r _ HG.out (kRows.rd_below HRB.out HBX.out) (HRR.out.below HBX.out) HRW.out (by have := HBL.out; omega)).mono ?_
    rintro e w4 ⟨v4, rfl, ho4, hb4⟩
    have HM4 : Hid ((imagesL ⟨p, q, g⟩ bs d.r).length = nc) := by unfold Hid; rw [imagesL_length]; exact HBL.out
    obtain ⟨a4, c4, hv4⟩ := ho4.shape
    rw [HM4.out] at hv4
    subst hv4
    have HI4 := Lib.hid ho4.ints
    obtain ⟨j1, j2⟩ := ho4.ints.capMax
    unfold maxLen at j2
    replace d0 := box_at d0 hb4
    replace d1 := box_at d1 hb4
    replace d2 := box_at d2 hb4
    replace f0 := box_at f0 hb4
    have HB4 := Lib.hid (Below.next HBY.out hb4)
    clear ho4 hb4 f1 f2 yh
    go_wp2_with fail
    go_loopg [80] nc (fun gh iv wr => ∃ k : Nat, k + gh = nc ∧ iv = .int .i64 k ∧ Hid (∀ j, j < k → vlEq ⟨p, q, g⟩ bs ims d E j = true) ∧ Below w4.heap.size w4 wr)
    case atStart => exact ⟨0, by omega, rfl, fun j hj => by omega, Below.refl _ _⟩
    case round =>
      obtain ⟨k, hk', rfl, HF, hbw⟩ := hrel
      have HBR := Lib.hid (Below.next HB4.out hbw)
      by_cases hlt : k < nc
      · obtain ⟨bk, ok, rfl, hcx⟩ := (HI4.out.below hbw).at_ (by omega)
        have yk := hcx k hlt
        obtain ⟨bc, oc, rfl, hcc⟩ := (KC.out.below HBR.out).at_ (by omega)
        have yc := hcc k hlt
        obtain ⟨bi, oi, rfl, hci⟩ := (HIM.out.below HBR.out).at_ (by omega)
        have yi := hci k hlt
        have HSI := Lib.hid (HOK.out.small.at_ k)
        have HSC := Lib.hid ((all_small HG.out H4.out).at_ k)
        have HNK : Hid (nth (imagesL ⟨p, q, g⟩ bs d.r) k = prodL ⟨p, q, g⟩ (bs.getD k []) d.r) := by
          have h1 := HBL.out
          unfold Hid
          rw [nth_eq (by rw [HM4.out]; exact hlt)]
          simp [imagesL, List.getD, show k < bs.length by omega]
        rw [HNK.out] at yk
        have HVE : Hid (vlEq ⟨p, q, g⟩ bs ims d E k = (prodL ⟨p, q, g⟩ (bs.getD k []) d.r == mulL ⟨p, q, g⟩ [nth d.c k, powE ⟨p, q, g⟩ (nth ims k) E])) := rfl
        have hpb := prodL_bd HG.out (bs.getD k []) d.r
        have hwb := powE_bd HG.out (nth ims k) E
        simp only [] at hpb hwb
        clear hcx hcc hci HNK
        generalize prodL ⟨p, q, g⟩ (bs.getD k []) d.r = u at yk HVE hpb
        generalize nth ims k = y at yi HSI HVE hwb
        generalize nth d.c k = c at yc HSC HVE
        obtain ⟨z, hz⟩ : ∃ z, powE ⟨p, q, g⟩ y E = z := ⟨_, rfl⟩
        rw [hz] at HVE hwb
        have HZ := Lib.hid hz; clear hz
        obtain ⟨m, hm⟩ : ∃ m, mulL ⟨p, q, g⟩ [c, z] = m := ⟨_, rfl⟩
        rw [hm] at HVE
        have HM := Lib.hid hm; clear hm
        have HSM : Hid (AllSmall [c, z]) := fun t ht => by
          simp at ht
          rcases ht with rfl | rfl
          · exact HSC.out
          · exact ⟨by omega, by omega⟩
        obtain ⟨c1, c2⟩ := HSC.out
        replace d0 := box_at d0 hbw
        replace d1 := box_at d1 hbw
        replace d2 := box_at d2 hbw
        replace f0 := box_at f0 hbw
        have HBW2 := Lib.hid hbw
        clear hbw
        have k0 : (0 : Int) ≤ (k : Int) := by omega
        have k1' : (k : Int) < (nc : Int) := by omega
        by_cases hum : u = m
        · have hub : (u != m) = false := by rw [hum]; simp
          have HUM : Hid ((u == m) = true) := by unfold Hid; rw [hum]; simp
          clear hum
          go_wp2_with fail
          go_region_held3 (fun w' => Below wr.heap.size wr w' ∧ w'.cell? ⟨w.heap.size, 0, none⟩ = some (.int .i64 p) ∧ w'.cell? ⟨w.heap.size, 1, none⟩ = some (.int .i64 q) ∧ w'.cell? ⟨w.heap.size, 2, none⟩ = some (.int .i64 g) ∧ w'.cell? ⟨w.heap.size + 1, 0, none⟩ = some (.slice (some ⟨bc, oc, none⟩) nc cc) ∧ w'.cell? ⟨bc, oc + k, none⟩ = some (.int .i64 c) ∧ w'.cell? ⟨bi, oi + k, none⟩ = some (.int .i64 y)) (first | (have hbq : Below wr.heap.size wr _ := (Below.refl _ _).drew; exact ⟨hbq, box_at d0 hbq, box_at d1 hbq, box_at d2 hbq, box_at f0 hbq, box_at yc hbq, box_at yi hbq⟩) | (refine (fun (hbq : Below wr.heap.size wr _) => ⟨hbq, box_at d0 hbq, box_at d1 hbq, box_at d2 hbq, box_at f0 hbq, box_at yc hbq, box_at yi hbq⟩) ?_; exact keep_b (by with_reducible assumption) (And.left (by assumption))) | (refine (fun (hbq : Below wr.heap.size wr _) => ⟨hbq, box_at d0 hbq, box_at d1 hbq, box_at d2 hbq, box_at f0 hbq, box_at yc hbq, box_at yi hbq⟩) ?_; exact keep_al (And.left (by assumption)) _) | assumption | fail) ((first
            | (go_at_call 106; refine (impl_pow ⟨p, q, g⟩ y E _ HG.out HSI.out ⟨by omega, by omega⟩).mono ?_; rintro e w5 ⟨rfl, hb5⟩; rw [HZ.out])
            | (go_at_call 105; refine (impl_mul ⟨p, q, g⟩ _ [c, z] _ HG.out (Ints.lit2 _ ⟨by omega, by omega⟩ ⟨by omega, by omega⟩) HSM.out).mono ?_; rintro e w6 ⟨rfl, hb6⟩; rw [HM.out])
            | fail))
          have HBZ := (‹Below wr.heap.size wr _ ∧ _›).1
          go_wp2_with fail
          go_roundg (nc - (k + 1))
          case measure => omega
          case rel =>
            refine ⟨k + 1, by omega, by go_num, fun j hj => ?_, Below.next HBW2.out HBZ⟩
            rcases Nat.lt_succ_iff_lt_or_eq.1 hj with h | rfl
            · exact HF.out j h
            · rw [HVE.out, HUM.out]
        · have hub : (u != m) = true := by rw [bne_iff_ne]; exact hum
          have HNO : Hid (((x == E) && (List.range nc).all (vlEq ⟨p, q, g⟩ bs ims d E)) = false) := by
            unfold Hid
            rw [range_all_false hlt (by rw [HVE.out, beq_eq_false_iff_ne]; exact hum), Bool.and_false]
          clear hum
          go_wp2_with fail
          go_region_held3 (fun w' => Below wr.heap.size wr w' ∧ w'.cell? ⟨w.heap.size, 0, none⟩ = some (.int .i64 p) ∧ w'.cell? ⟨w.heap.size, 1, none⟩ = some (.int .i64 q) ∧ w'.cell? ⟨w.heap.size, 2, none⟩ = some (.int .i64 g) ∧ w'.cell? ⟨w.heap.size + 1, 0, none⟩ = some (.slice (some ⟨bc, oc, none⟩) nc cc) ∧ w'.cell? ⟨bc, oc + k, none⟩ = some (.int .i64 c) ∧ w'.cell? ⟨bi, oi + k, none⟩ = some (.int .i64 y)) (first | (have hbq : Below wr.heap.size wr _ := (Below.refl _ _).drew; exact ⟨hbq, box_at d0 hbq, box_at d1 hbq, box_at d2 hbq, box_at f0 hbq, box_at yc hbq, box_at yi hbq⟩) | (refine (fun (hbq : Below wr.heap.size wr _) => ⟨hbq, box_at d0 hbq, box_at d1 hbq, box_at d2 hbq, box_at f0 hbq, box_at yc hbq, box_at yi hbq⟩) ?_; exact keep_b (by with_reducible assumption) (And.left (by assumption))) | (refine (fun (hbq : Below wr.heap.size wr _) => ⟨hbq, box_at d0 hbq, box_at d1 hbq, box_at d2 hbq, box_at f0 hbq, box_at yc hbq, box_at yi hbq⟩) ?_; exact keep_al (And.left (by assumption)) _) | assumption | fail) ((first
            | (go_at_call 106; refine (impl_pow ⟨p, q, g⟩ y E _ HG.out HSI.out ⟨by omega, by omega⟩).mono ?_; rintro e w5 ⟨rfl, hb5⟩; rw [HZ.out])
            | (go_at_call 105; refine (impl_mul ⟨p, q, g⟩ _ [c, z] _ HG.out (Ints.lit2 _ ⟨by omega, by omega⟩ ⟨by omega, by omega⟩) HSM.out).mono ?_; rintro e w6 ⟨rfl, hb6⟩; rw [HM.out])
            | fail))
          have HBZ := (‹Below wr.heap.size wr _ ∧ _›).1
          go_wp2_with fail
          go_ret
          exact ⟨ret_bool (by first | (rw [HNO.out]; done) | (rw [HNO.out]; rfl) | exact HNO.out.symm), Below.next HBR.out HBZ⟩
      · obtain rfl : nc = k := by omega
        have HA : Hid (((x == E) && (List.range nc).all (vlEq ⟨p, q, g⟩ bs ims d E)) = true) := by
          unfold Hid
          rw [HX.out, range_all_true (fun j hj => HF.out j hj)]; rfl
        clear hbw
        go_wp2_with fail
        go_ret
        exact ⟨ret_bool (by first | (rw [HA.out]; done) | (rw [HA.out]; rfl) | exact HA.out.symm), HBR.out⟩
theorem impl_verifyLinear (gr : GroupD) (s : ByteArray) (vb : Value) (bs : List (List Int)) (vi : Value) (ims : List Int) (vp : Value) (d : ProofD) (w : World) (hg : OkG gr) (hb : RdL kInts w vb bs) (hi : Ints w vi ims) (hp : (kS rProof).rd w vp d) (hok : StmtOk gr s bs ims) :
    Calls Try.prog 140 #[.agg #[.int .i64 gr.p, .int .i64 gr.q, .int .i64 gr.g], .string s, vb, vi, vp] w fun e w' => e = .returned (.bool (vlB gr s bs ims d)) ∧ Below w.heap.size w w' := by
  cases hh : vlHead gr bs d with
  | true => exact impl_verifyLinear_yes gr s vb bs vi ims vp d w hg hb hi hp hok hh
  | false => rw [vlB_no hh]; exact impl_verifyLinear_no gr s vb bs vi vp d w hg hb hp hok.b1 hh
end Go.Proofs.Yteemlmmdngkghaa
