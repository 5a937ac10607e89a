/- Walks: a head that is that of a board. -/
import Derived.Test.YtodennbdfloccaaGreatVLeaf2
import Derived.Test.YtodennbdfloccaaGreatBm
namespace Go.Proofs.YtodennbdfloccaaGreat
open Go.RowKit
set_option linter.unusedSimpArgs false
set_option linter.unusedVariables false

/-- a head is that of a board -/
def fitsB (gr : GroupD) (d : BoardD) (h : HeadD) : Bool := decide (0 ≤ h.author ∧ h.author ≤ (d.keys.length : Int) - 1) && (isHeadB gr (nth d.keys h.author.toNat) h && (decide (h.size ≤ (d.entries.length : Int)) && (h.root == root ((leavesL d.entries).take h.size.toNat))))
theorem isHeadB_size {gr : GroupD} {k : Int} {h : HeadD} (hh : isHeadB gr k h = true) : 0 ≤ h.size := by
  cases hq : headB h with
  | false => unfold isHeadB at hh; rw [hq] at hh; simp at hh
  | true =>
    unfold headB headI at hq
    simp only [Bool.and_eq_true, decide_eq_true_eq] at hq
    omega
theorem not_le_dec {x y : Int} {q : Bool} (h : decide (x ≤ y) = q) : decide (y < x) = !q := by
  cases q with
  | false => have := of_decide_eq_false h; exact decide_eq_true (by omega)
  | true => have := of_decide_eq_true h; exact decide_eq_false (by omega)
theorem le_dec {x y : Int} {q : Bool} (h : decide (x ≤ y) = q) : decide (x ≤ y) = q := h
set_option maxRecDepth 100000 in
set_option maxHeartbeats 8000000 in
theorem impl_fits (gr : GroupD) (v1 : Value) (d : BoardD) (v2 : Value) (h : HeadD) (w : World) (hg : OkG gr) (hB : boardB gr d = true) (h1 : (kS rBoard).rd w v1 d) (h2 : (kS rHead).rd w v2 h) :
    Calls Tryz.prog 47 #[.agg #[.int .i64 gr.p, .int .i64 gr.q, .int .i64 gr.g], v1, v2] w fun e w' => e = .returned (.bool (fitsB gr d h)) ∧ Below w.heap.size w w' := by
  have HG := Lib.hid hg; clear hg
  have HKK := Lib.hid (boardB_parts hB).1
  have HOK : Hid ((∀ i (hi : i < d.entries.length), LeafOk i (d.entries[i]'hi)) ∧ d.entries.length ≤ 64) := ⟨fun i hi => board_leaf HG.out hB hi, (boardB_parts hB).2.1⟩
  clear hB
  obtain ⟨ad_0, nd_0, cd_0, ad_1, nd_1, cd_1, rfl, kd_0, kd_1⟩ := rdBoard.1 h1
  obtain ⟨ah_3, nh_3, ch_3, ah_4, nh_4, ch_4, ah_5, nh_5, ch_5, rfl, jh_0, jh_1, jh_2, kh_3, kh_4, kh_5⟩ := rdHead.1 h2
  obtain ⟨W, hW⟩ : ∃ W, W = (((w.alloc (.cells #[.int .i64 gr.p, .int .i64 gr.q, .int .i64 gr.g] 36)).alloc (.cells #[.slice ad_0 nd_0 cd_0, .slice ad_1 nd_1 cd_1] 40)).alloc (.cells #[.int .i64 h.author, .int .i64 h.size, .int .i64 h.root, .slice ah_3 nh_3 ch_3, .slice ah_4 nh_4 ch_4, .slice ah_5 nh_5 ch_5] 44)) := ⟨_, rfl⟩
  have HWB : Hid (Below w.heap.size w W) := by unfold Hid; rw [hW]; (repeat (first | exact Below.refl _ _ | assumption | refine Below.drew ?_ | refine Below.alloc ?_ (by first | (simp; done) | (simp; omega)) _ | refine Below.setCell ?_ (by first | (simp; done) | (simp; omega)) _))
  have FX : Hid (∀ W', Below W.heap.size W W' → W'.cell? ⟨w.heap.size, 0, none⟩ = some (.int .i64 gr.p) ∧ W'.cell? ⟨w.heap.size, 1, none⟩ = some (.int .i64 gr.q) ∧ W'.cell? ⟨w.heap.size, 2, none⟩ = some (.int .i64 gr.g) ∧ W'.cell? ⟨w.heap.size + 1, 0, none⟩ = some (.slice ad_0 nd_0 cd_0) ∧ W'.cell? ⟨w.heap.size + 1, 1, none⟩ = some (.slice ad_1 nd_1 cd_1) ∧ W'.cell? ⟨w.heap.size + 1 + 1, 0, none⟩ = some (.int .i64 h.author) ∧ W'.cell? ⟨w.heap.size + 1 + 1, 1, none⟩ = some (.int .i64 h.size) ∧ W'.cell? ⟨w.heap.size + 1 + 1, 2, none⟩ = some (.int .i64 h.root) ∧ W'.cell? ⟨w.heap.size + 1 + 1, 3, none⟩ = some (.slice ah_3 nh_3 ch_3) ∧ W'.cell? ⟨w.heap.size + 1 + 1, 4, none⟩ = some (.slice ah_4 nh_4 ch_4) ∧ W'.cell? ⟨w.heap.size + 1 + 1, 5, none⟩ = some (.slice ah_5 nh_5 ch_5)) := fun W' hb => by
    exact ⟨box_at (by rw [hW]; simp [go_sem]) hb, box_at (by rw [hW]; simp [go_sem]) hb, box_at (by rw [hW]; simp [go_sem]) hb, box_at (by rw [hW]; simp [go_sem]) hb, box_at (by rw [hW]; simp [go_sem]) hb, box_at (by rw [hW]; simp [go_sem]) hb, box_at (by rw [hW]; simp [go_sem]) hb, box_at (by rw [hW]; simp [go_sem]) hb, box_at (by rw [hW]; simp [go_sem]) hb, box_at (by rw [hW]; simp [go_sem]) hb, box_at (by rw [hW]; simp [go_sem]) hb⟩
  have hsW : W.heap.size = w.heap.size + 3 := by rw [hW]; simp
  have Hd := Lib.hid ((kS rBoard).rd_below h1 HWB.out); clear h1
  have F_d_keys := Lib.hid (sInts.rd_below kd_0 HWB.out)
  have F_d_entries := Lib.hid ((kR 115 rEntry).rd_below kd_1 HWB.out)
  clear kd_0 kd_1
  have Hh := Lib.hid ((kS rHead).rd_below h2 HWB.out); clear h2
  have Jh_0 := Lib.hid jh_0; clear jh_0
  have Jh_1 := Lib.hid jh_1; clear jh_1
  have Jh_2 := Lib.hid jh_2; clear jh_2
  have F_h_sign := Lib.hid ((kS rProof).rd_below (w := w) (rdProof.2 ⟨_, _, _, _, _, _, _, _, _, rfl, kh_3, kh_4, kh_5⟩ : (kS rProof).rd w (.agg #[.slice ah_3 nh_3 ch_3, .slice ah_4 nh_4 ch_4, .slice ah_5 nh_5 ch_5]) h.sign) HWB.out)
  clear kh_3 kh_4 kh_5
  have HW := Lib.hid hW; clear hW
  have hkl := (F_d_keys.out : Ints _ _ _).len
  have hkm := (F_d_keys.out : Ints _ _ _).capMax
  have hel := (F_d_entries.out : RdR _ _ _ _).len
  unfold maxLen at hkm
  have HKL := Lib.hid hkl
  have HE := Lib.hid hel
  have hk40 : nd_0 ≤ 40 := by have := keysB_len HKK.out; omega
  have hn64 : nd_1 ≤ 64 := by have := HOK.out.2; omega
  have hwr : IntKind.i64.wrap ((nd_0 : Int) - 1) = (nd_0 : Int) - 1 := IntWalk.i64_in _ (by omega)
  clear hkl hel
  (obtain ⟨q1, h_q⟩ : ∃ b_q, decide (0 ≤ h.author ∧ h.author ≤ (nd_0 : Int) - 1) = b_q := ⟨_, rfl⟩); have H1 := Lib.hid h_q; clear h_q
  have HF0 : Hid (fitsB gr d h = (q1 && (isHeadB gr (nth d.keys h.author.toNat) h && (decide (h.size ≤ (nd_1 : Int)) && (h.root == root ((leavesL d.entries).take h.size.toNat)))))) := by
    unfold Hid fitsB; rw [HKL.out, HE.out, H1.out]
  cases q1 with
  | false =>
    rw [HF0.out, Bool.false_and]
    go_enter Tryz.func47, Tryz.ntmps47
    go_wp2_with fail
    rw [← HW.out]
    have hcum : Below W.heap.size W W := Below.refl _ _
    obtain ⟨p0_0, p0_1, p0_2, p1_0, p1_1, p2_0, p2_1, p2_2, p2_3, p2_4, p2_5⟩ := FX.out _ hcum
    have g0 := fun u => grow_cell p0_0 u
    have g1 := fun u => grow_cell p0_1 u
    have g2 := fun u => grow_cell p0_2 u
    have gb0 := fun u => grow_cell p1_0 u
    have gb1 := fun u => grow_cell p1_1 u
    have gh0 := fun u => grow_cell p2_0 u
    have gh1 := fun u => grow_cell p2_1 u
    have gh2 := fun u => grow_cell p2_2 u
    have gh3 := fun u => grow_cell p2_3 u
    have gh4 := fun u => grow_cell p2_4 u
    have gh5 := fun u => grow_cell p2_5 u
    (refine wp_region_grow (by kernel_rfl) (by kernel_rfl) ?_; (repeat (go_big_quiet_step ((first | (go_at_call 66; refine calls_grow (impl_within _ _ _ _) (fun e w' h => ⟨by rw [h.1, H1.out], h.2 ▸ Below.refl _ _⟩)) | fail)))); refine wpQuiet_nil ?_; intro _ hw'; obtain ⟨uq, hw''⟩ := hw'; subst hw''; have hbq := grow_below W uq; generalize grow W uq = wq at hbq ⊢)
    go_wp2_with fail
    go_ret
    exact ⟨rfl, Below.next HWB.out hbq⟩
  | true =>
    have z01 := of_decide_eq_true H1.out
    have z0 : 0 ≤ h.author := z01.1
    have z1 : h.author < (nd_0 : Int) := by omega
    obtain ⟨bk, ok, hak, hcx⟩ := (F_d_keys.out : Ints _ _ _).at_ (by omega)
    subst hak
    have hyW := hcx h.author.toNat (by omega)
    have HKY := Lib.hid (keysB_at HKK.out (k := h.author.toNat) (by have := HKL.out; omega))
    clear hcx z01
    generalize nth d.keys h.author.toNat = ky at hyW HKY HF0
    (obtain ⟨q2, h_q⟩ : ∃ b_q, isHeadB gr ky h = b_q := ⟨_, rfl⟩); have H2 := Lib.hid h_q; clear h_q
    (obtain ⟨q3, h_q⟩ : ∃ b_q, decide (h.size ≤ (nd_1 : Int)) = b_q := ⟨_, rfl⟩); have H3 := Lib.hid h_q; clear h_q
    replace hyW := box_at hyW (Below.refl W.heap.size W)
    cases q2 with
    | false =>
      rw [HF0.out, H2.out, Bool.false_and, Bool.and_false]
      go_enter Tryz.func47, Tryz.ntmps47
      go_wp2_with fail
      rw [← HW.out]
      have hcum : Below W.heap.size W W := Below.refl _ _
      obtain ⟨p0_0, p0_1, p0_2, p1_0, p1_1, p2_0, p2_1, p2_2, p2_3, p2_4, p2_5⟩ := FX.out _ hcum
      have g0 := fun u => grow_cell p0_0 u
      have g1 := fun u => grow_cell p0_1 u
      have g2 := fun u => grow_cell p0_2 u
      have gb0 := fun u => grow_cell p1_0 u
      have gb1 := fun u => grow_cell p1_1 u
      have gh0 := fun u => grow_cell p2_0 u
      have gh1 := fun u => grow_cell p2_1 u
      have gh2 := fun u => grow_cell p2_2 u
      have gh3 := fun u => grow_cell p2_3 u
      have gh4 := fun u => grow_cell p2_4 u
      have gh5 := fun u => grow_cell p2_5 u
      have gy := fun u => grow_cell hyW u
      (refine wp_region_grow (by kernel_rfl) (by kernel_rfl) ?_; (repeat (go_big_quiet_step ((first | (go_at_call 66; refine calls_grow (impl_within _ _ _ _) (fun e w' h => ⟨by rw [h.1, H1.out], h.2 ▸ Below.refl _ _⟩)) | (go_at_call 79; refine calls_grow (impl_isHead gr ky _ h _ HG.out HKY.out ((kS rHead).rd_below Hh.out (grow_below _ _))) (fun e w' h => ⟨by rw [h.1, H2.out], h.2⟩)) | fail)))); refine wpQuiet_nil ?_; intro _ hw'; obtain ⟨uq, hw''⟩ := hw'; subst hw''; have hbq := grow_below W uq; generalize grow W uq = wq at hbq ⊢)
      go_wp2_with fail
      go_ret
      exact ⟨rfl, Below.next HWB.out hbq⟩
    | true =>
      have hs0 := isHeadB_size H2.out
      have e3 := H3.out
      cases q3 with
      | false =>
        rw [HF0.out, H2.out, H3.out, Bool.false_and, Bool.and_false, Bool.and_false]
        go_enter Tryz.func47, Tryz.ntmps47
        go_wp2_with fail
        rw [← HW.out]
        have hcum : Below W.heap.size W W := Below.refl _ _
        obtain ⟨p0_0, p0_1, p0_2, p1_0, p1_1, p2_0, p2_1, p2_2, p2_3, p2_4, p2_5⟩ := FX.out _ hcum
        have g0 := fun u => grow_cell p0_0 u
        have g1 := fun u => grow_cell p0_1 u
        have g2 := fun u => grow_cell p0_2 u
        have gb0 := fun u => grow_cell p1_0 u
        have gb1 := fun u => grow_cell p1_1 u
        have gh0 := fun u => grow_cell p2_0 u
        have gh1 := fun u => grow_cell p2_1 u
        have gh2 := fun u => grow_cell p2_2 u
        have gh3 := fun u => grow_cell p2_3 u
        have gh4 := fun u => grow_cell p2_4 u
        have gh5 := fun u => grow_cell p2_5 u
        have gy := fun u => grow_cell hyW u
        (refine wp_region_grow (by kernel_rfl) (by kernel_rfl) ?_; (repeat (go_big_quiet_step ((first | (go_at_call 66; refine calls_grow (impl_within _ _ _ _) (fun e w' h => ⟨by rw [h.1, H1.out], h.2 ▸ Below.refl _ _⟩)) | (go_at_call 79; refine calls_grow (impl_isHead gr ky _ h _ HG.out HKY.out ((kS rHead).rd_below Hh.out (grow_below _ _))) (fun e w' h => ⟨by rw [h.1, H2.out], h.2⟩)) | fail)))); refine wpQuiet_nil ?_; intro _ hw'; obtain ⟨uq, hw''⟩ := hw'; subst hw''; have hbq := grow_below W uq; generalize grow W uq = wq at hbq ⊢)
        go_wp2_with fail
        go_ret
        exact ⟨rfl, Below.next HWB.out hbq⟩
      | true =>
        have hsz := of_decide_eq_true H3.out
        obtain ⟨m, hm⟩ : ∃ m : Nat, h.size = (m : Int) := ⟨h.size.toNat, by omega⟩
        have HM := Lib.hid hm
        have hmn : m ≤ nd_1 := by omega
        have HLD := Lib.hid (leavesL_digest d.entries)
        have HLL : Hid ((leavesL d.entries).length = nd_1) := by unfold Hid; rw [leavesL_length, HE.out]
        have HTK : Hid (h.size.toNat = m) := by unfold Hid; rw [HM.out]; rfl
        rw [HF0.out, H2.out, H3.out, HTK.out, Bool.true_and, Bool.true_and, Bool.true_and]
        obtain ⟨R, hR⟩ : ∃ R, root ((leavesL d.entries).take m) = R := ⟨_, rfl⟩
        have HR : Hid (rootN 65 ((leavesL d.entries).take m) = R) := hR
        rw [hR]
        clear hR hm hsz
        obtain ⟨LL, hLE⟩ : ∃ LL, leavesL d.entries = LL := ⟨_, rfl⟩
        rw [hLE] at HLD HLL HR
        have HLE := Lib.hid hLE; clear hLE
        go_enter Tryz.func47, Tryz.ntmps47
        go_wp2_with fail
        rw [← HW.out]
        have hcum : Below W.heap.size W W := Below.refl _ _
        obtain ⟨p0_0, p0_1, p0_2, p1_0, p1_1, p2_0, p2_1, p2_2, p2_3, p2_4, p2_5⟩ := FX.out _ hcum
        refine wp_region_noPanic ?_
        refine wp_region_U (fun w' => Below W.heap.size W w' ∧ w'.cell? ⟨w.heap.size, 0, none⟩ = some (.int .i64 gr.p) ∧ w'.cell? ⟨w.heap.size, 1, none⟩ = some (.int .i64 gr.q) ∧ w'.cell? ⟨w.heap.size, 2, none⟩ = some (.int .i64 gr.g) ∧ w'.cell? ⟨w.heap.size + 1, 0, none⟩ = some (.slice (some ⟨bk, ok, none⟩) nd_0 cd_0) ∧ w'.cell? ⟨w.heap.size + 1, 1, none⟩ = some (.slice ad_1 nd_1 cd_1) ∧ w'.cell? ⟨w.heap.size + 1 + 1, 0, none⟩ = some (.int .i64 h.author) ∧ w'.cell? ⟨w.heap.size + 1 + 1, 1, none⟩ = some (.int .i64 h.size) ∧ w'.cell? ⟨w.heap.size + 1 + 1, 2, none⟩ = some (.int .i64 h.root) ∧ w'.cell? ⟨w.heap.size + 1 + 1, 3, none⟩ = some (.slice ah_3 nh_3 ch_3) ∧ w'.cell? ⟨w.heap.size + 1 + 1, 4, none⟩ = some (.slice ah_4 nh_4 ch_4) ∧ w'.cell? ⟨w.heap.size + 1 + 1, 5, none⟩ = some (.slice ah_5 nh_5 ch_5) ∧ w'.cell? ⟨bk, ok + h.author.toNat, none⟩ = some (.int .i64 ky)) 14 [.rd 0, .rd 1, .rd 2, .rd 3, .rd 4, .rd 5, .one 6, .rd 7, .rd 8, .rd 9, .rd 10, .rd 11, .rd 12, .rd 13, .rd 14, .rd 15, .one 16, .rd 17, .rd 18, .rd 19, .rd 20, .rd 21, .rd 22, .rd 23, .rd 24, .rd 25, .rd 26, .rd 27, .rd 28, .rd 29, .rd 31, .rd 32, .one 30, .rd 33, .one 34, .rd 35, .rd 36] [37] (by kernel_rfl) (by kernel_rfl) rfl (fun _ _ _ _ _ h => h) ⟨(Below.refl _ _).drew, p0_0, p0_1, p0_2, p1_0, p1_1, p2_0, p2_1, p2_2, p2_3, p2_4, p2_5, hyW⟩ ?_
        simp only [pickU, pickN, List.getElem?_cons_zero, List.getElem?_cons_succ]
        have hbz : Below W.heap.size W W.drew := (Below.refl _ _).drew
        repeat (refine' wpU_read _ (by kernel_rfl) (fun w' hS' => ?_) ?_; rotate_left; · ((try dsimp only at hS'); go_simp; (try with_reducible rfl)); (try simp only [Act.put, List.setIfInBounds_toArray, List.set_cons_zero, List.set_cons_succ]))
        refine wpU_do (by kernel_rfl) (fun K hK => ?_)
        go_simp
        go_at_call 66
        refine (impl_within _ _ _ _).mono ?_
        rintro ee w2 ⟨rfl, e2⟩
        rw [H1.out]
        replace hbz : Below W.heap.size W w2 := e2 ▸ hbz
        clear e2
        refine hK.out _ _ ⟨hbz, box_at p0_0 hbz, box_at p0_1 hbz, box_at p0_2 hbz, box_at p1_0 hbz, box_at p1_1 hbz, box_at p2_0 hbz, box_at p2_1 hbz, box_at p2_2 hbz, box_at p2_3 hbz, box_at p2_4 hbz, box_at p2_5 hbz, box_at hyW hbz⟩ (fun _ => ?_)
        clear hK K
        try simp only [Act.put, List.setIfInBounds_toArray, List.set_cons_zero, List.set_cons_succ]
        repeat (refine' wpU_read _ (by kernel_rfl) (fun w' hS' => ?_) ?_; rotate_left; · ((try dsimp only at hS'); go_simp; (try with_reducible rfl)); (try simp only [Act.put, List.setIfInBounds_toArray, List.set_cons_zero, List.set_cons_succ]))
        refine wpU_do (by kernel_rfl) (fun K hK => ?_)
        go_simp
        go_at_call 79
        refine (impl_isHead gr ky _ h _ HG.out HKY.out ((kS rHead).rd_below Hh.out hbz)).mono ?_
        rintro ee w3 ⟨rfl, hb3⟩
        rw [H2.out]
        replace hbz : Below W.heap.size W w3 := keep_b hb3 hbz
        clear hb3
        refine hK.out _ _ ⟨hbz, box_at p0_0 hbz, box_at p0_1 hbz, box_at p0_2 hbz, box_at p1_0 hbz, box_at p1_1 hbz, box_at p2_0 hbz, box_at p2_1 hbz, box_at p2_2 hbz, box_at p2_3 hbz, box_at p2_4 hbz, box_at p2_5 hbz, box_at hyW hbz⟩ (fun _ => ?_)
        clear hK K
        try simp only [Act.put, List.setIfInBounds_toArray, List.set_cons_zero, List.set_cons_succ]
        repeat (refine' wpU_read _ (by kernel_rfl) (fun w' hS' => ?_) ?_; rotate_left; · ((try dsimp only at hS'); go_simp; (try with_reducible rfl)); (try simp only [Act.put, List.setIfInBounds_toArray, List.set_cons_zero, List.set_cons_succ]))
        refine wpU_do (by kernel_rfl) (fun K hK => ?_)
        go_simp
        go_at_call 81
        refine (impl_boardLeaves _ d _ ((kS rBoard).rd_below Hd.out hbz) HOK.out.1 HOK.out.2).mono ?_
        rw [HLE.out]
        rintro ee w4 ⟨v4, rfl, ho4, hb4⟩
        obtain ⟨a4, c4, hv4⟩ := ho4.shape
        rw [HLL.out] at hv4
        subst hv4
        obtain ⟨hsl, hI⟩ := sl_take (x := h.size) (k := m) ho4.ints HM.out hmn
        have HI := Lib.hid hI
        replace hbz : Below W.heap.size W w4 := keep_b hb4 hbz
        clear hb4 ho4 hI
        refine hK.out _ _ ⟨hbz, box_at p0_0 hbz, box_at p0_1 hbz, box_at p0_2 hbz, box_at p1_0 hbz, box_at p1_1 hbz, box_at p2_0 hbz, box_at p2_1 hbz, box_at p2_2 hbz, box_at p2_3 hbz, box_at p2_4 hbz, box_at p2_5 hbz, box_at hyW hbz⟩ (fun _ => ?_)
        clear hK K
        try simp only [Act.put, List.setIfInBounds_toArray, List.set_cons_zero, List.set_cons_succ]
        repeat (refine' wpU_read _ (by kernel_rfl) (fun w' hS' => ?_) ?_; rotate_left; · ((try dsimp only at hS'); go_simp; (try with_reducible rfl)); (try simp only [Act.put, List.setIfInBounds_toArray, List.set_cons_zero, List.set_cons_succ]))
        refine wpU_do (by kernel_rfl) (fun K hK => ?_)
        go_simp
        go_at_call 80
        refine (impl_rootOf 65 _ (LL.take m) _ HI.out (by rw [List.length_take]; omega) (by rw [List.length_take]; omega) (all_take HLD.out _)).mono ?_
        rintro ee w5 ⟨rfl, hb5⟩
        rw [HR.out]
        replace hbz : Below W.heap.size W w5 := keep_b hb5 hbz
        clear hb5 hsl
        refine hK.out _ _ ⟨hbz, box_at p0_0 hbz, box_at p0_1 hbz, box_at p0_2 hbz, box_at p1_0 hbz, box_at p1_1 hbz, box_at p2_0 hbz, box_at p2_1 hbz, box_at p2_2 hbz, box_at p2_3 hbz, box_at p2_4 hbz, box_at p2_5 hbz, box_at hyW hbz⟩ (fun _ => ?_)
        clear hK K
        try simp only [Act.put, List.setIfInBounds_toArray, List.set_cons_zero, List.set_cons_succ]
        repeat (refine' wpU_read _ (by kernel_rfl) (fun w' hS' => ?_) ?_; rotate_left; · ((try dsimp only at hS'); go_simp; (try with_reducible rfl)); (try simp only [Act.put, List.setIfInBounds_toArray, List.set_cons_zero, List.set_cons_succ]))
        refine wpU_nil ?_
        go_wp2_with fail
        refine NoPanic.normal ?_
        go_wp2_with fail
        go_ret
        exact ⟨rfl, Below.next HWB.out hbz⟩
set_option maxRecDepth 100000 in
set_option maxHeartbeats 8000000 in
theorem spec_oChecks (gr : GroupD) (v1 : Value) (d : BoardD) (v2 : Value) (h : HeadD) (w : World) (hg : OkG gr) (hB : boardB gr d = true) (h1 : (kS rBoard).rd w v1 d) (h2 : (kS rHead).rd w v2 h) :
    Calls Tryz.prog 43 #[.agg #[.int .i64 gr.p, .int .i64 gr.q, .int .i64 gr.g], v1, v2] w fun e w' => e = .returned (.bool (fitsB gr d h)) ∧ Below w.heap.size w w' := by
  have HG := Lib.hid hg; clear hg
  have HKK := Lib.hid (boardB_parts hB).1
  have HOK : Hid ((∀ i (hi : i < d.entries.length), LeafOk i (d.entries[i]'hi)) ∧ d.entries.length ≤ 64) := ⟨fun i hi => board_leaf HG.out hB hi, (boardB_parts hB).2.1⟩
  clear hB
  obtain ⟨ad_0, nd_0, cd_0, ad_1, nd_1, cd_1, rfl, kd_0, kd_1⟩ := rdBoard.1 h1
  obtain ⟨ah_3, nh_3, ch_3, ah_4, nh_4, ch_4, ah_5, nh_5, ch_5, rfl, jh_0, jh_1, jh_2, kh_3, kh_4, kh_5⟩ := rdHead.1 h2
  obtain ⟨W, hW⟩ : ∃ W, W = (((w.alloc (.cells #[.int .i64 gr.p, .int .i64 gr.q, .int .i64 gr.g] 36)).alloc (.cells #[.slice ad_0 nd_0 cd_0, .slice ad_1 nd_1 cd_1] 40)).alloc (.cells #[.int .i64 h.author, .int .i64 h.size, .int .i64 h.root, .slice ah_3 nh_3 ch_3, .slice ah_4 nh_4 ch_4, .slice ah_5 nh_5 ch_5] 44)) := ⟨_, rfl⟩
  have HWB : Hid (Below w.heap.size w W) := by unfold Hid; rw [hW]; (repeat (first | exact Below.refl _ _ | assumption | refine Below.drew ?_ | refine Below.alloc ?_ (by first | (simp; done) | (simp; omega)) _ | refine Below.setCell ?_ (by first | (simp; done) | (simp; omega)) _))
  have FX : Hid (∀ W', Below W.heap.size W W' → W'.cell? ⟨w.heap.size, 0, none⟩ = some (.int .i64 gr.p) ∧ W'.cell? ⟨w.heap.size, 1, none⟩ = some (.int .i64 gr.q) ∧ W'.cell? ⟨w.heap.size, 2, none⟩ = some (.int .i64 gr.g) ∧ W'.cell? ⟨w.heap.size + 1, 0, none⟩ = some (.slice ad_0 nd_0 cd_0) ∧ W'.cell? ⟨w.heap.size + 1, 1, none⟩ = some (.slice ad_1 nd_1 cd_1) ∧ W'.cell? ⟨w.heap.size + 1 + 1, 0, none⟩ = some (.int .i64 h.author) ∧ W'.cell? ⟨w.heap.size + 1 + 1, 1, none⟩ = some (.int .i64 h.size) ∧ W'.cell? ⟨w.heap.size + 1 + 1, 2, none⟩ = some (.int .i64 h.root) ∧ W'.cell? ⟨w.heap.size + 1 + 1, 3, none⟩ = some (.slice ah_3 nh_3 ch_3) ∧ W'.cell? ⟨w.heap.size + 1 + 1, 4, none⟩ = some (.slice ah_4 nh_4 ch_4) ∧ W'.cell? ⟨w.heap.size + 1 + 1, 5, none⟩ = some (.slice ah_5 nh_5 ch_5)) := fun W' hb => by
    exact ⟨box_at (by rw [hW]; simp [go_sem]) hb, box_at (by rw [hW]; simp [go_sem]) hb, box_at (by rw [hW]; simp [go_sem]) hb, box_at (by rw [hW]; simp [go_sem]) hb, box_at (by rw [hW]; simp [go_sem]) hb, box_at (by rw [hW]; simp [go_sem]) hb, box_at (by rw [hW]; simp [go_sem]) hb, box_at (by rw [hW]; simp [go_sem]) hb, box_at (by rw [hW]; simp [go_sem]) hb, box_at (by rw [hW]; simp [go_sem]) hb, box_at (by rw [hW]; simp [go_sem]) hb⟩
  have hsW : W.heap.size = w.heap.size + 3 := by rw [hW]; simp
  have Hd := Lib.hid ((kS rBoard).rd_below h1 HWB.out); clear h1
  have F_d_keys := Lib.hid (sInts.rd_below kd_0 HWB.out)
  have F_d_entries := Lib.hid ((kR 115 rEntry).rd_below kd_1 HWB.out)
  clear kd_0 kd_1
  have Hh := Lib.hid ((kS rHead).rd_below h2 HWB.out); clear h2
  have Jh_0 := Lib.hid jh_0; clear jh_0
  have Jh_1 := Lib.hid jh_1; clear jh_1
  have Jh_2 := Lib.hid jh_2; clear jh_2
  have F_h_sign := Lib.hid ((kS rProof).rd_below (w := w) (rdProof.2 ⟨_, _, _, _, _, _, _, _, _, rfl, kh_3, kh_4, kh_5⟩ : (kS rProof).rd w (.agg #[.slice ah_3 nh_3 ch_3, .slice ah_4 nh_4 ch_4, .slice ah_5 nh_5 ch_5]) h.sign) HWB.out)
  clear kh_3 kh_4 kh_5
  have HW := Lib.hid hW; clear hW
  have hkl := (F_d_keys.out : Ints _ _ _).len
  have hkm := (F_d_keys.out : Ints _ _ _).capMax
  have hel := (F_d_entries.out : RdR _ _ _ _).len
  unfold maxLen at hkm
  have HKL := Lib.hid hkl
  have HE := Lib.hid hel
  have hk40 : nd_0 ≤ 40 := by have := keysB_len HKK.out; omega
  have hn64 : nd_1 ≤ 64 := by have := HOK.out.2; omega
  have hwr : IntKind.i64.wrap ((nd_0 : Int) - 1) = (nd_0 : Int) - 1 := IntWalk.i64_in _ (by omega)
  clear hkl hel
  (obtain ⟨q1, h_q⟩ : ∃ b_q, decide (0 ≤ h.author ∧ h.author ≤ (nd_0 : Int) - 1) = b_q := ⟨_, rfl⟩); have H1 := Lib.hid h_q; clear h_q
  have HF0 : Hid (fitsB gr d h = (q1 && (isHeadB gr (nth d.keys h.author.toNat) h && (decide (h.size ≤ (nd_1 : Int)) && (h.root == root ((leavesL d.entries).take h.size.toNat)))))) := by
    unfold Hid fitsB; rw [HKL.out, HE.out, H1.out]
  cases q1 with
  | false =>
    rw [HF0.out, Bool.false_and]
    go_enter Tryz.func43, Tryz.ntmps43
    go_wp2_with fail
    rw [← HW.out]
    have hcum : Below W.heap.size W W := Below.refl _ _
    obtain ⟨p0_0, p0_1, p0_2, p1_0, p1_1, p2_0, p2_1, p2_2, p2_3, p2_4, p2_5⟩ := FX.out _ hcum
    have g0 := fun u => grow_cell p0_0 u
    have g1 := fun u => grow_cell p0_1 u
    have g2 := fun u => grow_cell p0_2 u
    have gb0 := fun u => grow_cell p1_0 u
    have gb1 := fun u => grow_cell p1_1 u
    have gh0 := fun u => grow_cell p2_0 u
    have gh1 := fun u => grow_cell p2_1 u
    have gh2 := fun u => grow_cell p2_2 u
    have gh3 := fun u => grow_cell p2_3 u
    have gh4 := fun u => grow_cell p2_4 u
    have gh5 := fun u => grow_cell p2_5 u
    (refine wp_region_grow (by kernel_rfl) (by kernel_rfl) ?_; (repeat (go_big_quiet_step ((first | (go_at_call 61; refine calls_grow (spec_l1In _ _ _ _) (fun e w' h => ⟨by rw [h.1, H1.out], h.2 ▸ Below.refl _ _⟩)) | fail)))); refine wpQuiet_nil ?_; intro _ hw'; obtain ⟨uq, hw''⟩ := hw'; subst hw''; have hbq := grow_below W uq; generalize grow W uq = wq at hbq ⊢)
    go_wp2_with fail
    go_ret
    exact ⟨rfl, Below.next HWB.out hbq⟩
  | true =>
    have z01 := of_decide_eq_true H1.out
    have z0 : 0 ≤ h.author := z01.1
    have z1 : h.author < (nd_0 : Int) := by omega
    obtain ⟨bk, ok, hak, hcx⟩ := (F_d_keys.out : Ints _ _ _).at_ (by omega)
    subst hak
    have hyW := hcx h.author.toNat (by omega)
    have HKY := Lib.hid (keysB_at HKK.out (k := h.author.toNat) (by have := HKL.out; omega))
    clear hcx z01
    generalize nth d.keys h.author.toNat = ky at hyW HKY HF0
    (obtain ⟨q2, h_q⟩ : ∃ b_q, isHeadB gr ky h = b_q := ⟨_, rfl⟩); have H2 := Lib.hid h_q; clear h_q
    (obtain ⟨q3, h_q⟩ : ∃ b_q, decide (h.size ≤ (nd_1 : Int)) = b_q := ⟨_, rfl⟩); have H3 := Lib.hid h_q; clear h_q
    replace hyW := box_at hyW (Below.refl W.heap.size W)
    cases q2 with
    | false =>
      rw [HF0.out, H2.out, Bool.false_and, Bool.and_false]
      go_enter Tryz.func43, Tryz.ntmps43
      go_wp2_with fail
      rw [← HW.out]
      have hcum : Below W.heap.size W W := Below.refl _ _
      obtain ⟨p0_0, p0_1, p0_2, p1_0, p1_1, p2_0, p2_1, p2_2, p2_3, p2_4, p2_5⟩ := FX.out _ hcum
      have g0 := fun u => grow_cell p0_0 u
      have g1 := fun u => grow_cell p0_1 u
      have g2 := fun u => grow_cell p0_2 u
      have gb0 := fun u => grow_cell p1_0 u
      have gb1 := fun u => grow_cell p1_1 u
      have gh0 := fun u => grow_cell p2_0 u
      have gh1 := fun u => grow_cell p2_1 u
      have gh2 := fun u => grow_cell p2_2 u
      have gh3 := fun u => grow_cell p2_3 u
      have gh4 := fun u => grow_cell p2_4 u
      have gh5 := fun u => grow_cell p2_5 u
      have gy := fun u => grow_cell hyW u
      (refine wp_region_grow (by kernel_rfl) (by kernel_rfl) ?_; (repeat (go_big_quiet_step ((first | (go_at_call 61; refine calls_grow (spec_l1In _ _ _ _) (fun e w' h => ⟨by rw [h.1, H1.out], h.2 ▸ Below.refl _ _⟩)) | (go_at_call 74; refine calls_grow (spec_oHeadBy gr ky _ h _ HG.out HKY.out ((kS rHead).rd_below Hh.out (grow_below _ _))) (fun e w' h => ⟨by rw [h.1, H2.out], h.2⟩)) | fail)))); refine wpQuiet_nil ?_; intro _ hw'; obtain ⟨uq, hw''⟩ := hw'; subst hw''; have hbq := grow_below W uq; generalize grow W uq = wq at hbq ⊢)
      go_wp2_with fail
      go_ret
      exact ⟨rfl, Below.next HWB.out hbq⟩
    | true =>
      have hs0 := isHeadB_size H2.out
      have e3 := not_le_dec H3.out
      cases q3 with
      | false =>
        rw [HF0.out, H2.out, H3.out, Bool.false_and, Bool.and_false, Bool.and_false]
        rw [Bool.not_false] at e3
        go_enter Tryz.func43, Tryz.ntmps43
        go_wp2_with fail
        rw [← HW.out]
        have hcum : Below W.heap.size W W := Below.refl _ _
        obtain ⟨p0_0, p0_1, p0_2, p1_0, p1_1, p2_0, p2_1, p2_2, p2_3, p2_4, p2_5⟩ := FX.out _ hcum
        have g0 := fun u => grow_cell p0_0 u
        have g1 := fun u => grow_cell p0_1 u
        have g2 := fun u => grow_cell p0_2 u
        have gb0 := fun u => grow_cell p1_0 u
        have gb1 := fun u => grow_cell p1_1 u
        have gh0 := fun u => grow_cell p2_0 u
        have gh1 := fun u => grow_cell p2_1 u
        have gh2 := fun u => grow_cell p2_2 u
        have gh3 := fun u => grow_cell p2_3 u
        have gh4 := fun u => grow_cell p2_4 u
        have gh5 := fun u => grow_cell p2_5 u
        have gy := fun u => grow_cell hyW u
        (refine wp_region_grow (by kernel_rfl) (by kernel_rfl) ?_; (repeat (go_big_quiet_step ((first | (go_at_call 61; refine calls_grow (spec_l1In _ _ _ _) (fun e w' h => ⟨by rw [h.1, H1.out], h.2 ▸ Below.refl _ _⟩)) | (go_at_call 74; refine calls_grow (spec_oHeadBy gr ky _ h _ HG.out HKY.out ((kS rHead).rd_below Hh.out (grow_below _ _))) (fun e w' h => ⟨by rw [h.1, H2.out], h.2⟩)) | fail)))); refine wpQuiet_nil ?_; intro _ hw'; obtain ⟨uq, hw''⟩ := hw'; subst hw''; have hbq := grow_below W uq; generalize grow W uq = wq at hbq ⊢)
        go_wp2_with fail
        go_ret
        exact ⟨rfl, Below.next HWB.out hbq⟩
      | true =>
        rw [Bool.not_true] at e3
        have hsz := of_decide_eq_true H3.out
        obtain ⟨m, hm⟩ : ∃ m : Nat, h.size = (m : Int) := ⟨h.size.toNat, by omega⟩
        have HM := Lib.hid hm
        have hmn : m ≤ nd_1 := by omega
        have HLD := Lib.hid (leavesL_digest d.entries)
        have HLL : Hid ((leavesL d.entries).length = nd_1) := by unfold Hid; rw [leavesL_length, HE.out]
        have HTK : Hid (h.size.toNat = m) := by unfold Hid; rw [HM.out]; rfl
        rw [HF0.out, H2.out, H3.out, HTK.out, Bool.true_and, Bool.true_and, Bool.true_and]
        obtain ⟨R, hR⟩ : ∃ R, root ((leavesL d.entries).take m) = R := ⟨_, rfl⟩
        have HR : Hid (rootN 65 ((leavesL d.entries).take m) = R) := hR
        have HBC : Hid ((h.root == R) = (R == h.root)) := by unfold Hid; rw [Bool.eq_iff_iff]; simp only [beq_iff_eq]; exact eq_comm
        rw [hR, HBC.out]
        clear hR hm hsz
        obtain ⟨LL, hLE⟩ : ∃ LL, leavesL d.entries = LL := ⟨_, rfl⟩
        rw [hLE] at HLD HLL HR
        have HLE := Lib.hid hLE; clear hLE
        go_enter Tryz.func43, Tryz.ntmps43
        go_wp2_with fail
        rw [← HW.out]
        have hcum : Below W.heap.size W W := Below.refl _ _
        obtain ⟨p0_0, p0_1, p0_2, p1_0, p1_1, p2_0, p2_1, p2_2, p2_3, p2_4, p2_5⟩ := FX.out _ hcum
        have g0 := fun u => grow_cell p0_0 u
        have g1 := fun u => grow_cell p0_1 u
        have g2 := fun u => grow_cell p0_2 u
        have gb0 := fun u => grow_cell p1_0 u
        have gb1 := fun u => grow_cell p1_1 u
        have gh0 := fun u => grow_cell p2_0 u
        have gh1 := fun u => grow_cell p2_1 u
        have gh2 := fun u => grow_cell p2_2 u
        have gh3 := fun u => grow_cell p2_3 u
        have gh4 := fun u => grow_cell p2_4 u
        have gh5 := fun u => grow_cell p2_5 u
        have gy := fun u => grow_cell hyW u
        (refine wp_region_grow (by kernel_rfl) (by kernel_rfl) ?_; (repeat (go_big_quiet_step ((first | (go_at_call 61; refine calls_grow (spec_l1In _ _ _ _) (fun e w' h => ⟨by rw [h.1, H1.out], h.2 ▸ Below.refl _ _⟩)) | (go_at_call 74; refine calls_grow (spec_oHeadBy gr ky _ h _ HG.out HKY.out ((kS rHead).rd_below Hh.out (grow_below _ _))) (fun e w' h => ⟨by rw [h.1, H2.out], h.2⟩)) | fail)))); refine wpQuiet_nil ?_; intro _ hw'; obtain ⟨uq, hw''⟩ := hw'; subst hw''; have hbq := grow_below W uq; generalize grow W uq = wq at hbq ⊢)
        clear g0 g1 g2 gb0 gb1 gh0 gh1 gh2 gh3 gh4 gh5 gy hyW p0_0 p0_1 p0_2 p1_0 p1_1 p2_0 p2_1 p2_2 p2_3 p2_4 p2_5 hcum
        obtain ⟨p0_0, p0_1, p0_2, p1_0, p1_1, p2_0, p2_1, p2_2, p2_3, p2_4, p2_5⟩ := FX.out _ hbq
        have HBQ := Lib.hid hbq
        clear hbq
        go_wp2_with fail
        refine wp_region_noPanic ?_
        refine wp_region_U (fun w' => Below wq.heap.size wq w' ∧ w'.cell? ⟨w.heap.size + 1, 0, none⟩ = some (.slice (some ⟨bk, ok, none⟩) nd_0 cd_0) ∧ w'.cell? ⟨w.heap.size + 1, 1, none⟩ = some (.slice ad_1 nd_1 cd_1) ∧ w'.cell? ⟨w.heap.size + 1 + 1, 1, none⟩ = some (.int .i64 h.size) ∧ w'.cell? ⟨w.heap.size + 1 + 1, 2, none⟩ = some (.int .i64 h.root)) 14 [.rd 0, .rd 2, .rd 3, .rd 6, .rd 7, .one 1, .rd 4, .one 5, .rd 8] [9] (by kernel_rfl) (by kernel_rfl) rfl (fun _ _ _ _ _ h => h) ⟨(Below.refl _ _).drew, p1_0, p1_1, p2_1, p2_2⟩ ?_
        simp only [pickU, pickN, List.getElem?_cons_zero, List.getElem?_cons_succ]
        have hbz : Below wq.heap.size wq wq.drew := (Below.refl _ _).drew
        repeat (refine' wpU_read _ (by kernel_rfl) (fun w' hS' => ?_) ?_; rotate_left; · ((try dsimp only at hS'); go_simp; (try with_reducible rfl)); (try simp only [Act.put, List.setIfInBounds_toArray, List.set_cons_zero, List.set_cons_succ]))
        refine wpU_do (by kernel_rfl) (fun K hK => ?_)
        go_simp
        go_at_call 76
        refine (spec_oLeaves _ d _ ((kS rBoard).rd_below Hd.out (keep_b hbz HBQ.out)) HOK.out.1 HOK.out.2).mono ?_
        rw [HLE.out]
        rintro ee w4 ⟨v4, rfl, ho4, hb4⟩
        obtain ⟨a4, c4, hv4⟩ := ho4.shape
        rw [HLL.out] at hv4
        subst hv4
        obtain ⟨hsl, hI⟩ := sl_take (x := h.size) (k := m) ho4.ints HM.out hmn
        have HI := Lib.hid hI
        replace hbz : Below wq.heap.size wq w4 := keep_b hb4 hbz
        clear hb4 ho4 hI
        refine hK.out _ _ ⟨hbz, box_at p1_0 hbz, box_at p1_1 hbz, box_at p2_1 hbz, box_at p2_2 hbz⟩ (fun _ => ?_)
        clear hK K
        try simp only [Act.put, List.setIfInBounds_toArray, List.set_cons_zero, List.set_cons_succ]
        repeat (refine' wpU_read _ (by kernel_rfl) (fun w' hS' => ?_) ?_; rotate_left; · ((try dsimp only at hS'); go_simp; (try with_reducible rfl)); (try simp only [Act.put, List.setIfInBounds_toArray, List.set_cons_zero, List.set_cons_succ]))
        refine wpU_do (by kernel_rfl) (fun K hK => ?_)
        go_simp
        go_at_call 75
        refine (spec_kRoot 65 _ (LL.take m) _ HI.out (by rw [List.length_take]; omega) (by rw [List.length_take]; omega) (all_take HLD.out _)).mono ?_
        rintro ee w5 ⟨rfl, hb5⟩
        rw [HR.out]
        replace hbz : Below wq.heap.size wq w5 := keep_b hb5 hbz
        clear hb5 hsl
        refine hK.out _ _ ⟨hbz, box_at p1_0 hbz, box_at p1_1 hbz, box_at p2_1 hbz, box_at p2_2 hbz⟩ (fun _ => ?_)
        clear hK K
        try simp only [Act.put, List.setIfInBounds_toArray, List.set_cons_zero, List.set_cons_succ]
        repeat (refine' wpU_read _ (by kernel_rfl) (fun w' hS' => ?_) ?_; rotate_left; · ((try dsimp only at hS'); go_simp; (try with_reducible rfl)); (try simp only [Act.put, List.setIfInBounds_toArray, List.set_cons_zero, List.set_cons_succ]))
        refine wpU_nil ?_
        go_wp2_with fail
        refine NoPanic.normal ?_
        go_wp2_with fail
        go_ret
        exact ⟨rfl, Below.next HWB.out (keep_b hbz HBQ.out)⟩
end Go.Proofs.YtodennbdfloccaaGreat
