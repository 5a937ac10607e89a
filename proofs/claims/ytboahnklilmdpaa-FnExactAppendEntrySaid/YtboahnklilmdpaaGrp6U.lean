/- Walks: proofs of linear statements are checked. -/
import Derived.Test.YtboahnklilmdpaaBgU
import Derived.Test.YtboahnklilmdpaaBkU
import Derived.Test.YtboahnklilmdpaaBaU
namespace Go.Proofs.Ytboahnklilmdpaa
open Go.RowKit
set_option linter.unusedSimpArgs false
set_option linter.unusedVariables false

def vlHead (gr : GroupD) (bs : List (List Int)) (d : ProofD) : Bool := decide (d.c.length = bs.length) && (decide (d.h.length = 1) && (decide (d.r.length = headLen bs) && (d.c.all (elB gr) && d.r.all (expB gr))))
def vlEq (gr : GroupD) (bs : List (List Int)) (ims : List Int) (d : ProofD) (e : Int) (i : Nat) : Bool := prodL gr (bs.getD i []) d.r == mulL gr [nth d.c i, powE gr (nth ims i) e]
def vlE (gr : GroupD) (s : ByteArray) (bs : List (List Int)) (ims : List Int) (d : ProofD) : Int := chV gr s (bs.flatten ++ ims ++ d.c)
/-- the check of the proof of a linear statement -/
def vlB (gr : GroupD) (s : ByteArray) (bs : List (List Int)) (ims : List Int) (d : ProofD) : Bool := vlHead gr bs d && ((nth d.h 0 == vlE gr s bs ims d) && (List.range bs.length).all (vlEq gr bs ims d (vlE gr s bs ims d)))
set_option maxRecDepth 100000 in
set_option maxHeartbeats 4000000 in
theorem impl_verifyLinear_no (gr : GroupD) (s : ByteArray) (vb : Value) (bs : List (List Int)) (vi : Value) (vp : Value) (d : ProofD) (w : World) (hg : OkG gr) (hb : RdL kInts w vb bs) (hp : (kS rProof).rd w vp d) (hb1 : 1 ≤ bs.length) (hno : vlHead gr bs d = false) :
    Calls Try.prog 337 #[.agg #[.int .i64 gr.p, .int .i64 gr.q, .int .i64 gr.g], .string s, vb, vi, vp] w fun e w' => e = .returned (.bool false) ∧ Below w.heap.size w w' := by
  have HG := Lib.hid hg; clear hg
  obtain ⟨p, q, g⟩ := gr
  obtain ⟨ac, nc, cc, ah, nh, ch, ar, nr, cr, rfl, kc, kh, kr⟩ := rdProof.1 hp
  obtain ⟨ab, nb, cb, rfl⟩ := hb.shape
  have ec := kc.len; have eh := kh.len; have er := kr.len; have eb := hb.len
  obtain ⟨b1, b2⟩ := kc.capMax
  obtain ⟨b3, b4⟩ := kh.capMax
  obtain ⟨b5, b6⟩ := kr.capMax
  obtain ⟨b7, b8⟩ := hb.capMax
  unfold maxLen at b2 b4 b6 b8
  have KC := Lib.hid kc; have KH := Lib.hid kh; have KR := Lib.hid kr; have HBS := Lib.hid hb
  clear kc kh kr hb hp
  have h0 : 0 < bs.length := by omega
  have hnb : 0 < nb := by omega
  obtain ⟨bb, oo, rfl, cs, hcx⟩ := HBS.out.at_ hnb
  obtain ⟨hy, hr0⟩ := hcx 0 h0
  rw [Nat.add_zero] at hy
  obtain ⟨a0, n0, c0', hs0⟩ := Ints.shape hr0
  rw [hs0] at hy hr0
  have e0 := Ints.len hr0
  obtain ⟨k5, k6⟩ := Ints.capMax hr0
  unfold maxLen at k6
  have e00 : headLen bs = n0 := by rw [headLen_eq h0]; exact e0
  have HHL := Lib.hid e00
  clear hcx hr0 hs0 e0
  (obtain ⟨q4, h_q⟩ : ∃ b_q, d.c.all (elB ⟨p, q, g⟩) = b_q := ⟨_, rfl⟩); have H4 := Lib.hid h_q; clear h_q
  (obtain ⟨q5, h_q⟩ : ∃ b_q, d.r.all (expB ⟨p, q, g⟩) = b_q := ⟨_, rfl⟩); have H5 := Lib.hid h_q; clear h_q
  obtain ⟨W, hW⟩ : ∃ W, W = (w.alloc (.cells #[.int .i64 p, .int .i64 q, .int .i64 g] 39)).alloc (.cells #[.slice ac nc cc, .slice ah nh ch, .slice ar nr cr] 42) := ⟨_, rfl⟩
  have HB : Hid (Below w.heap.size w W) := by unfold Hid; rw [hW]; (repeat (first | exact Below.refl _ _ | assumption | refine Below.drew ?_ | refine Below.alloc ?_ (by first | (simp; done) | (simp; omega)) _ | refine Below.setCell ?_ (by first | (simp; done) | (simp; omega)) _))
  have C0 : Hid (W.cell? ⟨w.heap.size, 0, none⟩ = some (.int .i64 p)) := by unfold Hid; rw [hW]; simp [go_sem]
  have C1 : Hid (W.cell? ⟨w.heap.size, 1, none⟩ = some (.int .i64 q)) := by unfold Hid; rw [hW]; simp [go_sem]
  have C2 : Hid (W.cell? ⟨w.heap.size, 2, none⟩ = some (.int .i64 g)) := by unfold Hid; rw [hW]; simp [go_sem]
  have D0 : Hid (W.cell? ⟨w.heap.size + 1, 0, none⟩ = some (.slice ac nc cc)) := by unfold Hid; rw [hW]; simp [go_sem]
  have D1 : Hid (W.cell? ⟨w.heap.size + 1, 1, none⟩ = some (.slice ah nh ch)) := by unfold Hid; rw [hW]; simp [go_sem]
  have D2 : Hid (W.cell? ⟨w.heap.size + 1, 2, none⟩ = some (.slice ar nr cr)) := by unfold Hid; rw [hW]; simp [go_sem]
  have HY := Lib.hid (box_at hy HB.out)
  clear hy
  have HWW := Lib.hid hW; clear hW
  have HC : Hid (nc ≠ nb ∨ (nc = nb ∧ nh ≠ 1) ∨ (nc = nb ∧ nh = 1 ∧ nr ≠ n0) ∨ (nc = nb ∧ nh = 1 ∧ nr = n0 ∧ q4 = false) ∨ (nc = nb ∧ nh = 1 ∧ nr = n0 ∧ q4 = true ∧ q5 = false)) := by
    unfold Hid
    unfold vlHead at hno
    rw [H4.out, H5.out, ec, eh, er, eb, e00] at hno
    by_cases x1 : nc = nb <;> by_cases x2 : nh = 1 <;> by_cases x3 : nr = n0 <;> cases q4 <;> cases q5 <;> simp [x1, x2, x3] at hno ⊢
  clear hno ec eh er eb e00
  rcases HC.out with x1 | ⟨x1, x2⟩ | ⟨x1, x2, x3⟩ | ⟨x1, x2, x3, rfl⟩ | ⟨x1, x2, x3, rfl, rfl⟩
  all_goals clear HC
  · have z1 : ((nc : Int) != (nb : Int)) = true := by rw [bne_iff_ne]; omega
    go_enter Try.func337, Try.ntmps337
    go_wp2_with fail
    rw [← HWW.out]
    clear HWW
    have g0 := fun u => grow_cell C0.out u
    have g1 := fun u => grow_cell C1.out u
    have g2 := fun u => grow_cell C2.out u
    have g3 := fun u => grow_cell D0.out u
    have g4 := fun u => grow_cell D1.out u
    have g5 := fun u => grow_cell D2.out u
    have g6 := fun u => grow_cell HY.out u
    (refine wp_region_grow (by kernel_rfl) (by kernel_rfl) ?_; (repeat (go_big_quiet_step ((first | (go_at_call 166; refine calls_grow (impl_hasAll ⟨p, q, g⟩ _ d.c _ HG.out ((KC.out.below HB.out).below (grow_below _ _))) (fun e w' h => ⟨by rw [h.1, H4.out], h.2⟩)) | (go_at_call 140; refine calls_grow (impl_areExps ⟨p, q, g⟩ _ d.r _ HG.out ((KR.out.below HB.out).below (grow_below _ _))) (fun e w' h => ⟨by rw [h.1, H5.out], h.2⟩)) | fail)))); refine wpQuiet_nil ?_; intro _ hw'; obtain ⟨uq, hw''⟩ := hw'; subst hw''; have hbq := grow_below W uq; generalize grow W uq = wq at hbq ⊢)
    go_wp2_with fail
    go_ret
    exact ⟨rfl, Below.next HB.out hbq⟩
  · subst x1
    have z1 : ((nc : Int) != (nc : Int)) = false := by simp
    have z2 : ((nh : Int) != 1) = true := by rw [bne_iff_ne]; omega
    go_enter Try.func337, Try.ntmps337
    go_wp2_with fail
    rw [← HWW.out]
    clear HWW
    have g0 := fun u => grow_cell C0.out u
    have g1 := fun u => grow_cell C1.out u
    have g2 := fun u => grow_cell C2.out u
    have g3 := fun u => grow_cell D0.out u
    have g4 := fun u => grow_cell D1.out u
    have g5 := fun u => grow_cell D2.out u
    have g6 := fun u => grow_cell HY.out u
    (refine wp_region_grow (by kernel_rfl) (by kernel_rfl) ?_; (repeat (go_big_quiet_step ((first | (go_at_call 166; refine calls_grow (impl_hasAll ⟨p, q, g⟩ _ d.c _ HG.out ((KC.out.below HB.out).below (grow_below _ _))) (fun e w' h => ⟨by rw [h.1, H4.out], h.2⟩)) | (go_at_call 140; refine calls_grow (impl_areExps ⟨p, q, g⟩ _ d.r _ HG.out ((KR.out.below HB.out).below (grow_below _ _))) (fun e w' h => ⟨by rw [h.1, H5.out], h.2⟩)) | fail)))); refine wpQuiet_nil ?_; intro _ hw'; obtain ⟨uq, hw''⟩ := hw'; subst hw''; have hbq := grow_below W uq; generalize grow W uq = wq at hbq ⊢)
    go_wp2_with fail
    go_ret
    exact ⟨rfl, Below.next HB.out hbq⟩
  · subst x1; subst x2
    have z1 : ((nc : Int) != (nc : Int)) = false := by simp
    have z3 : ((nr : Int) != (n0 : Int)) = true := by rw [bne_iff_ne]; omega
    go_enter Try.func337, Try.ntmps337
    go_wp2_with fail
    rw [← HWW.out]
    clear HWW
    have g0 := fun u => grow_cell C0.out u
    have g1 := fun u => grow_cell C1.out u
    have g2 := fun u => grow_cell C2.out u
    have g3 := fun u => grow_cell D0.out u
    have g4 := fun u => grow_cell D1.out u
    have g5 := fun u => grow_cell D2.out u
    have g6 := fun u => grow_cell HY.out u
    (refine wp_region_grow (by kernel_rfl) (by kernel_rfl) ?_; (repeat (go_big_quiet_step ((first | (go_at_call 166; refine calls_grow (impl_hasAll ⟨p, q, g⟩ _ d.c _ HG.out ((KC.out.below HB.out).below (grow_below _ _))) (fun e w' h => ⟨by rw [h.1, H4.out], h.2⟩)) | (go_at_call 140; refine calls_grow (impl_areExps ⟨p, q, g⟩ _ d.r _ HG.out ((KR.out.below HB.out).below (grow_below _ _))) (fun e w' h => ⟨by rw [h.1, H5.out], h.2⟩)) | fail)))); refine wpQuiet_nil ?_; intro _ hw'; obtain ⟨uq, hw''⟩ := hw'; subst hw''; have hbq := grow_below W uq; generalize grow W uq = wq at hbq ⊢)
    go_wp2_with fail
    go_ret
    exact ⟨rfl, Below.next HB.out hbq⟩
  · subst x1; subst x2; subst x3
    have z1 : ((nc : Int) != (nc : Int)) = false := by simp
    have z3 : ((nr : Int) != (nr : Int)) = false := by simp
    go_enter Try.func337, Try.ntmps337
    go_wp2_with fail
    rw [← HWW.out]
    clear HWW
    have g0 := fun u => grow_cell C0.out u
    have g1 := fun u => grow_cell C1.out u
    have g2 := fun u => grow_cell C2.out u
    have g3 := fun u => grow_cell D0.out u
    have g4 := fun u => grow_cell D1.out u
    have g5 := fun u => grow_cell D2.out u
    have g6 := fun u => grow_cell HY.out u
    (refine wp_region_grow (by kernel_rfl) (by kernel_rfl) ?_; (repeat (go_big_quiet_step ((first | (go_at_call 166; refine calls_grow (impl_hasAll ⟨p, q, g⟩ _ d.c _ HG.out ((KC.out.below HB.out).below (grow_below _ _))) (fun e w' h => ⟨by rw [h.1, H4.out], h.2⟩)) | (go_at_call 140; refine calls_grow (impl_areExps ⟨p, q, g⟩ _ d.r _ HG.out ((KR.out.below HB.out).below (grow_below _ _))) (fun e w' h => ⟨by rw [h.1, H5.out], h.2⟩)) | fail)))); refine wpQuiet_nil ?_; intro _ hw'; obtain ⟨uq, hw''⟩ := hw'; subst hw''; have hbq := grow_below W uq; generalize grow W uq = wq at hbq ⊢)
    go_wp2_with fail
    go_ret
    exact ⟨rfl, Below.next HB.out hbq⟩
  · subst x1; subst x2; subst x3
    have z1 : ((nc : Int) != (nc : Int)) = false := by simp
    have z3 : ((nr : Int) != (nr : Int)) = false := by simp
    go_enter Try.func337, Try.ntmps337
    go_wp2_with fail
    rw [← HWW.out]
    clear HWW
    have g0 := fun u => grow_cell C0.out u
    have g1 := fun u => grow_cell C1.out u
    have g2 := fun u => grow_cell C2.out u
    have g3 := fun u => grow_cell D0.out u
    have g4 := fun u => grow_cell D1.out u
    have g5 := fun u => grow_cell D2.out u
    have g6 := fun u => grow_cell HY.out u
    (refine wp_region_grow (by kernel_rfl) (by kernel_rfl) ?_; (repeat (go_big_quiet_step ((first | (go_at_call 166; refine calls_grow (impl_hasAll ⟨p, q, g⟩ _ d.c _ HG.out ((KC.out.below HB.out).below (grow_below _ _))) (fun e w' h => ⟨by rw [h.1, H4.out], h.2⟩)) | (go_at_call 140; refine calls_grow (impl_areExps ⟨p, q, g⟩ _ d.r _ HG.out ((KR.out.below HB.out).below (grow_below _ _))) (fun e w' h => ⟨by rw [h.1, H5.out], h.2⟩)) | fail)))); refine wpQuiet_nil ?_; intro _ hw'; obtain ⟨uq, hw''⟩ := hw'; subst hw''; have hbq := grow_below W uq; generalize grow W uq = wq at hbq ⊢)
    go_wp2_with fail
    go_ret
    exact ⟨rfl, Below.next HB.out hbq⟩
set_option maxRecDepth 100000 in
set_option maxHeartbeats 4000000 in
theorem spec_sVerify_no (gr : GroupD) (s : ByteArray) (vb : Value) (bs : List (List Int)) (vi : Value) (vp : Value) (d : ProofD) (w : World) (hg : OkG gr) (hb : RdL kInts w vb bs) (hp : (kS rProof).rd w vp d) (hb1 : 1 ≤ bs.length) (hno : vlHead gr bs d = false) :
    Calls Try.prog 324 #[.agg #[.int .i64 gr.p, .int .i64 gr.q, .int .i64 gr.g], .string s, vb, vi, vp] w fun e w' => e = .returned (.bool false) ∧ Below w.heap.size w w' := by
  have HG := Lib.hid hg; clear hg
  obtain ⟨p, q, g⟩ := gr
  obtain ⟨ac, nc, cc, ah, nh, ch, ar, nr, cr, rfl, kc, kh, kr⟩ := rdProof.1 hp
  obtain ⟨ab, nb, cb, rfl⟩ := hb.shape
  have ec := kc.len; have eh := kh.len; have er := kr.len; have eb := hb.len
  obtain ⟨b1, b2⟩ := kc.capMax
  obtain ⟨b3, b4⟩ := kh.capMax
  obtain ⟨b5, b6⟩ := kr.capMax
  obtain ⟨b7, b8⟩ := hb.capMax
  unfold maxLen at b2 b4 b6 b8
  have KC := Lib.hid kc; have KH := Lib.hid kh; have KR := Lib.hid kr; have HBS := Lib.hid hb
  clear kc kh kr hb hp
  have h0 : 0 < bs.length := by omega
  have hnb : 0 < nb := by omega
  obtain ⟨bb, oo, rfl, cs, hcx⟩ := HBS.out.at_ hnb
  obtain ⟨hy, hr0⟩ := hcx 0 h0
  rw [Nat.add_zero] at hy
  obtain ⟨a0, n0, c0', hs0⟩ := Ints.shape hr0
  rw [hs0] at hy hr0
  have e0 := Ints.len hr0
  obtain ⟨k5, k6⟩ := Ints.capMax hr0
  unfold maxLen at k6
  have e00 : headLen bs = n0 := by rw [headLen_eq h0]; exact e0
  have HHL := Lib.hid e00
  clear hcx hr0 hs0 e0
  (obtain ⟨q4, h_q⟩ : ∃ b_q, d.c.all (elB ⟨p, q, g⟩) = b_q := ⟨_, rfl⟩); have H4 := Lib.hid h_q; clear h_q
  (obtain ⟨q5, h_q⟩ : ∃ b_q, d.r.all (expB ⟨p, q, g⟩) = b_q := ⟨_, rfl⟩); have H5 := Lib.hid h_q; clear h_q
  obtain ⟨W, hW⟩ : ∃ W, W = (w.alloc (.cells #[.int .i64 p, .int .i64 q, .int .i64 g] 39)).alloc (.cells #[.slice ac nc cc, .slice ah nh ch, .slice ar nr cr] 42) := ⟨_, rfl⟩
  have HB : Hid (Below w.heap.size w W) := by unfold Hid; rw [hW]; (repeat (first | exact Below.refl _ _ | assumption | refine Below.drew ?_ | refine Below.alloc ?_ (by first | (simp; done) | (simp; omega)) _ | refine Below.setCell ?_ (by first | (simp; done) | (simp; omega)) _))
  have C0 : Hid (W.cell? ⟨w.heap.size, 0, none⟩ = some (.int .i64 p)) := by unfold Hid; rw [hW]; simp [go_sem]
  have C1 : Hid (W.cell? ⟨w.heap.size, 1, none⟩ = some (.int .i64 q)) := by unfold Hid; rw [hW]; simp [go_sem]
  have C2 : Hid (W.cell? ⟨w.heap.size, 2, none⟩ = some (.int .i64 g)) := by unfold Hid; rw [hW]; simp [go_sem]
  have D0 : Hid (W.cell? ⟨w.heap.size + 1, 0, none⟩ = some (.slice ac nc cc)) := by unfold Hid; rw [hW]; simp [go_sem]
  have D1 : Hid (W.cell? ⟨w.heap.size + 1, 1, none⟩ = some (.slice ah nh ch)) := by unfold Hid; rw [hW]; simp [go_sem]
  have D2 : Hid (W.cell? ⟨w.heap.size + 1, 2, none⟩ = some (.slice ar nr cr)) := by unfold Hid; rw [hW]; simp [go_sem]
  have HY := Lib.hid (box_at hy HB.out)
  clear hy
  have HWW := Lib.hid hW; clear hW
  have HC : Hid (nc ≠ nb ∨ (nc = nb ∧ nh ≠ 1) ∨ (nc = nb ∧ nh = 1 ∧ nr ≠ n0) ∨ (nc = nb ∧ nh = 1 ∧ nr = n0 ∧ q4 = false) ∨ (nc = nb ∧ nh = 1 ∧ nr = n0 ∧ q4 = true ∧ q5 = false)) := by
    unfold Hid
    unfold vlHead at hno
    rw [H4.out, H5.out, ec, eh, er, eb, e00] at hno
    by_cases x1 : nc = nb <;> by_cases x2 : nh = 1 <;> by_cases x3 : nr = n0 <;> cases q4 <;> cases q5 <;> simp [x1, x2, x3] at hno ⊢
  clear hno ec eh er eb e00
  rcases HC.out with x1 | ⟨x1, x2⟩ | ⟨x1, x2, x3⟩ | ⟨x1, x2, x3, rfl⟩ | ⟨x1, x2, x3, rfl, rfl⟩
  all_goals clear HC
  · have z1 : ((nc : Int) != (nb : Int)) = true := by rw [bne_iff_ne]; omega
    go_enter Try.func324, Try.ntmps324
    go_wp2_with fail
    rw [← HWW.out]
    clear HWW
    have g0 := fun u => grow_cell C0.out u
    have g1 := fun u => grow_cell C1.out u
    have g2 := fun u => grow_cell C2.out u
    have g3 := fun u => grow_cell D0.out u
    have g4 := fun u => grow_cell D1.out u
    have g5 := fun u => grow_cell D2.out u
    have g6 := fun u => grow_cell HY.out u
    (refine wp_region_grow (by kernel_rfl) (by kernel_rfl) ?_; (repeat (go_big_quiet_step ((first | (go_at_call 202; refine calls_grow (spec_gIs ⟨p, q, g⟩ _ d.c _ HG.out ((KC.out.below HB.out).below (grow_below _ _))) (fun e w' h => ⟨by rw [h.1, H4.out], h.2⟩)) | (go_at_call 144; refine calls_grow (spec_gExps ⟨p, q, g⟩ _ d.r _ HG.out ((KR.out.below HB.out).below (grow_below _ _))) (fun e w' h => ⟨by rw [h.1, H5.out], h.2⟩)) | fail)))); refine wpQuiet_nil ?_; intro _ hw'; obtain ⟨uq, hw''⟩ := hw'; subst hw''; have hbq := grow_below W uq; generalize grow W uq = wq at hbq ⊢)
    go_wp2_with fail
    go_ret
    exact ⟨rfl, Below.next HB.out hbq⟩
  · subst x1
    have z1 : ((nc : Int) != (nc : Int)) = false := by simp
    have z2 : ((nh : Int) != 1) = true := by rw [bne_iff_ne]; omega
    go_enter Try.func324, Try.ntmps324
    go_wp2_with fail
    rw [← HWW.out]
    clear HWW
    have g0 := fun u => grow_cell C0.out u
    have g1 := fun u => grow_cell C1.out u
    have g2 := fun u => grow_cell C2.out u
    have g3 := fun u => grow_cell D0.out u
    have g4 := fun u => grow_cell D1.out u
    have g5 := fun u => grow_cell D2.out u
    have g6 := fun u => grow_cell HY.out u
    (refine wp_region_grow (by kernel_rfl) (by kernel_rfl) ?_; (repeat (go_big_quiet_step ((first | (go_at_call 202; refine calls_grow (spec_gIs ⟨p, q, g⟩ _ d.c _ HG.out ((KC.out.below HB.out).below (grow_below _ _))) (fun e w' h => ⟨by rw [h.1, H4.out], h.2⟩)) | (go_at_call 144; refine calls_grow (spec_gExps ⟨p, q, g⟩ _ d.r _ HG.out ((KR.out.below HB.out).below (grow_below _ _))) (fun e w' h => ⟨by rw [h.1, H5.out], h.2⟩)) | fail)))); refine wpQuiet_nil ?_; intro _ hw'; obtain ⟨uq, hw''⟩ := hw'; subst hw''; have hbq := grow_below W uq; generalize grow W uq = wq at hbq ⊢)
    go_wp2_with fail
    go_ret
    exact ⟨rfl, Below.next HB.out hbq⟩
  · subst x1; subst x2
    have z1 : ((nc : Int) != (nc : Int)) = false := by simp
    have z3 : ((nr : Int) != (n0 : Int)) = true := by rw [bne_iff_ne]; omega
    go_enter Try.func324, Try.ntmps324
    go_wp2_with fail
    rw [← HWW.out]
    clear HWW
    have g0 := fun u => grow_cell C0.out u
    have g1 := fun u => grow_cell C1.out u
    have g2 := fun u => grow_cell C2.out u
    have g3 := fun u => grow_cell D0.out u
    have g4 := fun u => grow_cell D1.out u
    have g5 := fun u => grow_cell D2.out u
    have g6 := fun u => grow_cell HY.out u
    (refine wp_region_grow (by kernel_rfl) (by kernel_rfl) ?_; (repeat (go_big_quiet_step ((first | (go_at_call 202; refine calls_grow (spec_gIs ⟨p, q, g⟩ _ d.c _ HG.out ((KC.out.below HB.out).below (grow_below _ _))) (fun e w' h => ⟨by rw [h.1, H4.out], h.2⟩)) | (go_at_call 144; refine calls_grow (spec_gExps ⟨p, q, g⟩ _ d.r _ HG.out ((KR.out.below HB.out).below (grow_below _ _))) (fun e w' h => ⟨by rw [h.1, H5.out], h.2⟩)) | fail)))); refine wpQuiet_nil ?_; intro _ hw'; obtain ⟨uq, hw''⟩ := hw'; subst hw''; have hbq := grow_below W uq; generalize grow W uq = wq at hbq ⊢)
    go_wp2_with fail
    go_ret
    exact ⟨rfl, Below.next HB.out hbq⟩
  · subst x1; subst x2; subst x3
    have z1 : ((nc : Int) != (nc : Int)) = false := by simp
    have z3 : ((nr : Int) != (nr : Int)) = false := by simp
    go_enter Try.func324, Try.ntmps324
    go_wp2_with fail
    rw [← HWW.out]
    clear HWW
    have g0 := fun u => grow_cell C0.out u
    have g1 := fun u => grow_cell C1.out u
    have g2 := fun u => grow_cell C2.out u
    have g3 := fun u => grow_cell D0.out u
    have g4 := fun u => grow_cell D1.out u
    have g5 := fun u => grow_cell D2.out u
    have g6 := fun u => grow_cell HY.out u
    (refine wp_region_grow (by kernel_rfl) (by kernel_rfl) ?_; (repeat (go_big_quiet_step ((first | (go_at_call 202; refine calls_grow (spec_gIs ⟨p, q, g⟩ _ d.c _ HG.out ((KC.out.below HB.out).below (grow_below _ _))) (fun e w' h => ⟨by rw [h.1, H4.out], h.2⟩)) | (go_at_call 144; refine calls_grow (spec_gExps ⟨p, q, g⟩ _ d.r _ HG.out ((KR.out.below HB.out).below (grow_below _ _))) (fun e w' h => ⟨by rw [h.1, H5.out], h.2⟩)) | fail)))); refine wpQuiet_nil ?_; intro _ hw'; obtain ⟨uq, hw''⟩ := hw'; subst hw''; have hbq := grow_below W uq; generalize grow W uq = wq at hbq ⊢)
    go_wp2_with fail
    go_ret
    exact ⟨rfl, Below.next HB.out hbq⟩
  · subst x1; subst x2; subst x3
    have z1 : ((nc : Int) != (nc : Int)) = false := by simp
    have z3 : ((nr : Int) != (nr : Int)) = false := by simp
    go_enter Try.func324, Try.ntmps324
    go_wp2_with fail
    rw [← HWW.out]
    clear HWW
    have g0 := fun u => grow_cell C0.out u
    have g1 := fun u => grow_cell C1.out u
    have g2 := fun u => grow_cell C2.out u
    have g3 := fun u => grow_cell D0.out u
    have g4 := fun u => grow_cell D1.out u
    have g5 := fun u => grow_cell D2.out u
    have g6 := fun u => grow_cell HY.out u
    (refine wp_region_grow (by kernel_rfl) (by kernel_rfl) ?_; (repeat (go_big_quiet_step ((first | (go_at_call 202; refine calls_grow (spec_gIs ⟨p, q, g⟩ _ d.c _ HG.out ((KC.out.below HB.out).below (grow_below _ _))) (fun e w' h => ⟨by rw [h.1, H4.out], h.2⟩)) | (go_at_call 144; refine calls_grow (spec_gExps ⟨p, q, g⟩ _ d.r _ HG.out ((KR.out.below HB.out).below (grow_below _ _))) (fun e w' h => ⟨by rw [h.1, H5.out], h.2⟩)) | fail)))); refine wpQuiet_nil ?_; intro _ hw'; obtain ⟨uq, hw''⟩ := hw'; subst hw''; have hbq := grow_below W uq; generalize grow W uq = wq at hbq ⊢)
    go_wp2_with fail
    go_ret
    exact ⟨rfl, Below.next HB.out hbq⟩
/-- what a statement must be for its proof to be checked -/
structure StmtOk (gr : GroupD) (s : ByteArray) (bs : List (List Int)) (ims : List Int) : Prop where
  s40 : s.size ≤ 40
  b1 : 1 ≤ bs.length
  b8 : bs.length ≤ 8
  h8 : headLen bs ≤ 8
  rows : ∀ r ∈ bs, r.length = headLen bs ∧ AllSmall r
  len : ims.length = bs.length
  small : AllSmall ims
theorem sum_le_mul {l : List Nat} {n : Nat} (h : ∀ x ∈ l, x ≤ n) : l.sum ≤ l.length * n := by
  induction l with
  | nil => simp
  | cons a l ih =>
    have h1 := h a (by simp)
    have h2 := ih (fun x hx => h x (by simp [hx]))
    rw [List.sum_cons, List.length_cons, Nat.succ_mul]; omega
theorem StmtOk.total {gr : GroupD} {s : ByteArray} {bs : List (List Int)} {ims : List Int} (h : StmtOk gr s bs ims) : total bs ≤ 64 := by
  have h1 : (bs.map List.length).sum ≤ (bs.map List.length).length * 8 := sum_le_mul fun x hx => by
    obtain ⟨r, hr, rfl⟩ := List.mem_map.1 hx
    have := (h.rows r hr).1; have := h.h8; omega
  rw [List.length_map] at h1
  have := h.b8
  unfold Go.Proofs.Ytboahnklilmdpaa.total; omega
theorem AllSmall.append {a b : List Int} (h : AllSmall a) (h2 : AllSmall b) : AllSmall (a ++ b) := fun x hx => by
  rcases List.mem_append.1 hx with h1 | h1
  · exact h x h1
  · exact h2 x h1
theorem StmtOk.flat {gr : GroupD} {s : ByteArray} {bs : List (List Int)} {ims : List Int} (h : StmtOk gr s bs ims) : AllSmall bs.flatten := fun x hx => by
  obtain ⟨r, hr, hx⟩ := List.mem_flatten.1 hx
  exact (h.rows r hr).2 x hx
theorem vlHead_parts {gr : GroupD} {bs : List (List Int)} {d : ProofD} (h : vlHead gr bs d = true) : d.c.length = bs.length ∧ d.h.length = 1 ∧ d.r.length = headLen bs ∧ d.c.all (elB gr) = true ∧ d.r.all (expB gr) = true := by
  unfold vlHead at h; simpa only [Bool.and_eq_true, decide_eq_true_iff] using h
theorem stmt_digests {gr : GroupD} (hg : OkG gr) {s : ByteArray} {bs : List (List Int)} {ims : List Int} {d : ProofD} (h : StmtOk gr s bs ims) (hh : vlHead gr bs d = true) : (bs.flatten ++ ims ++ d.c).all digestB = true ∧ (bs.flatten ++ ims ++ d.c).length ≤ 80 := by
  obtain ⟨h1, h2, h3, h4, h5⟩ := vlHead_parts hh
  refine ⟨digests_small ((h.flat.append h.small).append (all_small hg h4)), ?_⟩
  have := h.total; have := h.len; have := h.b8
  rw [List.length_append, List.length_append, total_flatten]; omega
theorem vlB_no {gr : GroupD} {s : ByteArray} {bs : List (List Int)} {ims : List Int} {d : ProofD} (h : vlHead gr bs d = false) : vlB gr s bs ims d = false := by unfold vlB; rw [h]; rfl
theorem range_all_false {f : Nat → Bool} {n k : Nat} (hk : k < n) (h : f k = false) : (List.range n).all f = false := by
  rw [List.all_eq_false]; exact ⟨k, List.mem_range.2 hk, by rw [h]; simp⟩
theorem range_all_true {f : Nat → Bool} {n : Nat} (h : ∀ k, k < n → f k = true) : (List.range n).all f = true :=
  List.all_eq_true.2 fun k hk => h k (List.mem_range.1 hk)
end Go.Proofs.Ytboahnklilmdpaa
