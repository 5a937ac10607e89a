/- Walks: SignHead of the reference. -/
import Derived.Test.YtapfceghgkmgoaaSign1
namespace Go.Proofs.Ytapfceghgkmgoaa
open Go.RowKit
set_option linter.unusedSimpArgs false
set_option linter.unusedVariables false
theorem headB_mk (a s r : Int) (d : ProofD) : headB ⟨a, s, r, d⟩ = headI a s r := rfl
theorem rd_head0 (w : World) {a s r : Int} (ha : I64 a) (hs : I64 s) (hr : I64 r) : (kS rHead).rd w (.agg #[.int .i64 a, .int .i64 s, .int .i64 r, .slice none 0 0, .slice none 0 0, .slice none 0 0]) ⟨a, s, r, zProof⟩ :=
  rdHead.2 ⟨_, _, _, _, _, _, _, _, _, rfl, ha, hs, hr, Ints.nil w, Ints.nil w, Ints.nil w⟩
set_option maxRecDepth 100000 in
set_option maxHeartbeats 8000000 in
theorem spec_SignHead (gr : GroupD) (x a s r c : Int) (w : World) (hgr : I64 gr.g) (hx : I64 x) (ha : I64 a) (hs : I64 s) (hr : I64 r) (hc : I64 c) :
    Calls Try.prog 50 #[.agg #[.int .i64 gr.p, .int .i64 gr.q, .int .i64 gr.g], .int .i64 x, .int .i64 a, .int .i64 s, .int .i64 r, .int .i64 c] w fun e w' => ∃ v, e = .returned (.tuple #[v, .bool (shB gr x a s r c)]) ∧ (kS rHead).own w' w.heap.size w'.heap.size v (shD gr x a s r c) ∧ Below w.heap.size w w' := by
  clear hgr
  have JX := Lib.hid hx; have JC := Lib.hid hc; have JA := Lib.hid ha; have JS := Lib.hid hs; have JR := Lib.hid hr
  clear hx hc ha hs hr
  have HLS : Hid ((hdLabel a s r).size ≤ 40) := by unfold Hid; rw [hdLabel_size]; omega
  (obtain ⟨q1, h_q⟩ : ∃ b_q, headI a s r = b_q := ⟨_, rfl⟩); have H1 := Lib.hid h_q; clear h_q
  (obtain ⟨q2, h_q⟩ : ∃ b_q, goodG gr = b_q := ⟨_, rfl⟩); have H2 := Lib.hid h_q; clear h_q
  (obtain ⟨q3, h_q⟩ : ∃ b_q, (expB gr x && expB gr c) = b_q := ⟨_, rfl⟩); have H3 := Lib.hid h_q; clear h_q
  have HXC : Hid ([x, c].all (expB gr) = q3) := by unfold Hid; rw [← H3.out]; simp
  have HB : Hid (shB gr x a s r c = (q2 && (q3 && q1))) := by unfold Hid shB; rw [H1.out, H2.out, H3.out]; cases q1 <;> cases q2 <;> cases q3 <;> rfl
  have HD : Hid (shD gr x a s r c = if (q2 && (q3 && q1)) = true then ⟨a, s, r, pvD gr (hdLabel a s r) [[gr.g]] [x] [c]⟩ else ⟨0, 0, 0, zProof⟩) := by unfold Hid shD; rw [HB.out]
  rw [HB.out, HD.out]
  obtain ⟨p, q, g⟩ := gr
  obtain ⟨W, hW⟩ : ∃ W, W = ((w.alloc (.cells #[.int .i64 p, .int .i64 q, .int .i64 g] 88)).alloc (.cells #[.int .i64 0, .int .i64 0, .int .i64 0, .slice none 0 0, .slice none 0 0, .slice none 0 0] 85)).alloc (.cells #[.int .i64 a, .int .i64 s, .int .i64 r, .slice none 0 0, .slice none 0 0, .slice none 0 0] 85) := ⟨_, rfl⟩
  have HWB : Hid (Below w.heap.size w W) := by unfold Hid; rw [hW]; (repeat (first | exact Below.refl _ _ | assumption | refine Below.drew ?_ | refine Below.alloc ?_ (by first | (simp; done) | (simp; omega)) _ | refine Below.setCell ?_ (by first | (simp; done) | (simp; omega)) _))
  have hsW : W.heap.size = w.heap.size + 3 := by rw [hW]; simp
  have p0 : W.cell? ⟨w.heap.size, 0, none⟩ = some (.int .i64 p) := by rw [hW]; simp [go_sem]
  have p1 : W.cell? ⟨w.heap.size, 1, none⟩ = some (.int .i64 q) := by rw [hW]; simp [go_sem]
  have p2 : W.cell? ⟨w.heap.size, 2, none⟩ = some (.int .i64 g) := by rw [hW]; simp [go_sem]
  have hs1 : (w.alloc (.cells #[.int .i64 p, .int .i64 q, .int .i64 g] 88)).heap.size = w.heap.size + 1 := by simp
  have hs2 : ((w.alloc (.cells #[.int .i64 p, .int .i64 q, .int .i64 g] 88)).alloc (.cells #[.int .i64 0, .int .i64 0, .int .i64 0, .slice none 0 0, .slice none 0 0, .slice none 0 0] 85)).heap.size = w.heap.size + 1 + 1 := by simp
  have BR : Hid (BoxN W (w.heap.size + 1) 85 [.int .i64 0, .int .i64 0, .int .i64 0, .slice none 0 0, .slice none 0 0, .slice none 0 0]) := by unfold Hid; rw [hW, ← hs1]; exact (BoxN.new _ [.int .i64 0, .int .i64 0, .int .i64 0, .slice none 0 0, .slice none 0 0, .slice none 0 0] _).alloc _
  have BH : Hid (BoxN W (w.heap.size + 1 + 1) 85 [.int .i64 a, .int .i64 s, .int .i64 r, .slice none 0 0, .slice none 0 0, .slice none 0 0]) := by unfold Hid; rw [hW, ← hs2]; exact BoxN.new _ [.int .i64 a, .int .i64 s, .int .i64 r, .slice none 0 0, .slice none 0 0, .slice none 0 0] _
  have FX : Hid (∀ W', Below W.heap.size W W' → W'.cell? ⟨w.heap.size, 0, none⟩ = some (.int .i64 p) ∧ W'.cell? ⟨w.heap.size, 1, none⟩ = some (.int .i64 q) ∧ W'.cell? ⟨w.heap.size, 2, none⟩ = some (.int .i64 g)) := fun W' hb => ⟨box_at p0 hb, box_at p1 hb, box_at p2 hb⟩
  have hcum : Below W.heap.size W W := Below.refl _ _
  have HSW := Lib.hid hsW
  have HW := Lib.hid hW
  clear hs1 hs2 hW hsW
  go_enter Try.func50, Try.ntmps50
  go_wp2_with fail
  rw [← HW.out]
  refine (spec_l2Good ⟨p, q, g⟩ _).mono ?_
  rintro e w1 ⟨rfl, hb1⟩
  rw [H2.out]
  replace hcum := hcum.trans (hb1.mono hcum.size)
  clear hb1
  clear p0 p1 p2
  obtain ⟨p0, p1, p2⟩ := FX.out _ hcum
  cases q2 with
  | false =>
    have BU := Lib.hid (BR.out.below hcum)
    have r0 := BU.out.cell (i := 0) rfl
    have r1 := BU.out.cell (i := 1) rfl
    have r2 := BU.out.cell (i := 2) rfl
    have r3 := BU.out.cell (i := 3) rfl
    have r4 := BU.out.cell (i := 4) rfl
    have r5 := BU.out.cell (i := 5) rfl
    have fr := BU.out.frozen
    have hlw := hcum.size
    go_wp2_with fail
    try have hsW := HSW.out
    obtain ⟨Z, hZ⟩ : ∃ Z, Z = (((((w1.setCell ⟨w.heap.size + 1, 0, none⟩ (.int .i64 0)).setCell ⟨w.heap.size + 1, 1, none⟩ (.int .i64 0)).setCell ⟨w.heap.size + 1, 2, none⟩ (.int .i64 0)).setCell ⟨w.heap.size + 1, 3, none⟩ (.slice none 0 0)).setCell ⟨w.heap.size + 1, 4, none⟩ (.slice none 0 0)).setCell ⟨w.heap.size + 1, 5, none⟩ (.slice none 0 0) := ⟨_, rfl⟩
    rw [← hZ]
    have hwz : Within (w.heap.size + 1) (w.heap.size + 2) w1 Z := by rw [hZ]; exact (((((Within.refl _ _ _ |>.setCell (by omega) (by omega) _ _) |>.setCell (by omega) (by omega) _ _) |>.setCell (by omega) (by omega) _ _) |>.setCell (by omega) (by omega) _ _) |>.setCell (by omega) (by omega) _ _) |>.setCell (by omega) (by omega) _ _
    have hZs : Z.heap.size = w1.heap.size := by rw [hZ]; simp only [size_setC]
    have BZ : BoxN Z (w.heap.size + 1) 85 [(.int .i64 0), (.int .i64 0), (.int .i64 0), (.slice none 0 0), (.slice none 0 0), (.slice none 0 0)] := by rw [hZ]; exact (((((BU.out.set 0 _).set 1 _).set 2 _).set 3 _).set 4 _).set 5 _
    have HZB := Lib.hid ((Below.next HWB.out hcum).trans (hwz.below (B := w.heap.size) (by omega) (by omega)))
    clear hZ r0 r1 r2 r3 r4 r5 fr
    have r0 := BZ.cell (i := 0) rfl
    have r1 := BZ.cell (i := 1) rfl
    have r2 := BZ.cell (i := 2) rfl
    have r3 := BZ.cell (i := 3) rfl
    have r4 := BZ.cell (i := 4) rfl
    have r5 := BZ.cell (i := 5) rfl
    refine bodyPost_ret (v := .tuple #[.agg #[.int .i64 0, .int .i64 0, .int .i64 0, .slice none 0 0, .slice none 0 0, .slice none 0 0], .bool false]) (by simp [results, Try.results50, go_sem, r0, r1, r2, r3, r4, r5]) rfl ⟨_, rfl, own_head (vs := [.slice none 0 0, .slice none 0 0, .slice none 0 0]) (own_zProof _ _ _ (by omega)) ⟨by decide, by decide⟩ ⟨by decide, by decide⟩ ⟨by decide, by decide⟩, HZB.out⟩
  | true =>
    have HG := Lib.hid (goodG_ok H2.out)
    go_wp2_with fail
    refine (spec_gExps ⟨p, q, g⟩ _ [x, c] _ HG.out (Ints.lit2 _ JX.out JC.out)).mono ?_
    rintro e w2 ⟨rfl, hb2'⟩
    rw [HXC.out]
    have hb2 : Below w1.heap.size w1 w2 := (keep_al (Below.refl _ _) _).trans (hb2'.mono (by simp))
    clear hb2'
    replace hcum := hcum.trans (hb2.mono hcum.size)
    clear hb2
    clear p0 p1 p2
    obtain ⟨p0, p1, p2⟩ := FX.out _ hcum
    cases q3 with
    | false =>
      have BU := Lib.hid (BR.out.below hcum)
      have r0 := BU.out.cell (i := 0) rfl
      have r1 := BU.out.cell (i := 1) rfl
      have r2 := BU.out.cell (i := 2) rfl
      have r3 := BU.out.cell (i := 3) rfl
      have r4 := BU.out.cell (i := 4) rfl
      have r5 := BU.out.cell (i := 5) rfl
      have fr := BU.out.frozen
      have hlw := hcum.size
      go_wp2_with fail
      try have hsW := HSW.out
      obtain ⟨Z, hZ⟩ : ∃ Z, Z = (((((w2.setCell ⟨w.heap.size + 1, 0, none⟩ (.int .i64 0)).setCell ⟨w.heap.size + 1, 1, none⟩ (.int .i64 0)).setCell ⟨w.heap.size + 1, 2, none⟩ (.int .i64 0)).setCell ⟨w.heap.size + 1, 3, none⟩ (.slice none 0 0)).setCell ⟨w.heap.size + 1, 4, none⟩ (.slice none 0 0)).setCell ⟨w.heap.size + 1, 5, none⟩ (.slice none 0 0) := ⟨_, rfl⟩
      rw [← hZ]
      have hwz : Within (w.heap.size + 1) (w.heap.size + 2) w2 Z := by rw [hZ]; exact (((((Within.refl _ _ _ |>.setCell (by omega) (by omega) _ _) |>.setCell (by omega) (by omega) _ _) |>.setCell (by omega) (by omega) _ _) |>.setCell (by omega) (by omega) _ _) |>.setCell (by omega) (by omega) _ _) |>.setCell (by omega) (by omega) _ _
      have hZs : Z.heap.size = w2.heap.size := by rw [hZ]; simp only [size_setC]
      have BZ : BoxN Z (w.heap.size + 1) 85 [(.int .i64 0), (.int .i64 0), (.int .i64 0), (.slice none 0 0), (.slice none 0 0), (.slice none 0 0)] := by rw [hZ]; exact (((((BU.out.set 0 _).set 1 _).set 2 _).set 3 _).set 4 _).set 5 _
      have HZB := Lib.hid ((Below.next HWB.out hcum).trans (hwz.below (B := w.heap.size) (by omega) (by omega)))
      clear hZ r0 r1 r2 r3 r4 r5 fr
      have r0 := BZ.cell (i := 0) rfl
      have r1 := BZ.cell (i := 1) rfl
      have r2 := BZ.cell (i := 2) rfl
      have r3 := BZ.cell (i := 3) rfl
      have r4 := BZ.cell (i := 4) rfl
      have r5 := BZ.cell (i := 5) rfl
      refine bodyPost_ret (v := .tuple #[.agg #[.int .i64 0, .int .i64 0, .int .i64 0, .slice none 0 0, .slice none 0 0, .slice none 0 0], .bool false]) (by simp [results, Try.results50, go_sem, r0, r1, r2, r3, r4, r5]) rfl ⟨_, rfl, own_head (vs := [.slice none 0 0, .slice none 0 0, .slice none 0 0]) (own_zProof _ _ _ (by omega)) ⟨by decide, by decide⟩ ⟨by decide, by decide⟩ ⟨by decide, by decide⟩, HZB.out⟩
    | true =>
      have HXC2 : Hid (expB ⟨p, q, g⟩ x = true ∧ expB ⟨p, q, g⟩ c = true) := by have h := H3.out; rw [Bool.and_eq_true] at h; exact h
      have BHU := Lib.hid (BH.out.below hcum)
      have k0 := BHU.out.cell (i := 0) rfl
      have k1 := BHU.out.cell (i := 1) rfl
      have k2 := BHU.out.cell (i := 2) rfl
      have k3 := BHU.out.cell (i := 3) rfl
      have k4 := BHU.out.cell (i := 4) rfl
      have k5 := BHU.out.cell (i := 5) rfl
      go_wp2_with fail
      refine (spec_oHead _ ⟨a, s, r, zProof⟩ _ (rd_head0 _ JA.out JS.out JR.out)).mono ?_
      rintro e w3 ⟨rfl, hb3⟩
      rw [headB_mk, H1.out]
      replace k0 := box_at k0 hb3
      replace k1 := box_at k1 hb3
      replace k2 := box_at k2 hb3
      replace k3 := box_at k3 hb3
      replace k4 := box_at k4 hb3
      replace k5 := box_at k5 hb3
      have BHV := Lib.hid (BHU.out.below hb3)
      replace hcum := hcum.trans (hb3.mono hcum.size)
      clear hb3
      clear p0 p1 p2
      obtain ⟨p0, p1, p2⟩ := FX.out _ hcum
      cases q1 with
      | false =>
        have BU := Lib.hid (BR.out.below hcum)
        have r0 := BU.out.cell (i := 0) rfl
        have r1 := BU.out.cell (i := 1) rfl
        have r2 := BU.out.cell (i := 2) rfl
        have r3 := BU.out.cell (i := 3) rfl
        have r4 := BU.out.cell (i := 4) rfl
        have r5 := BU.out.cell (i := 5) rfl
        have fr := BU.out.frozen
        have hlw := hcum.size
        go_wp2_with fail
        try have hsW := HSW.out
        obtain ⟨Z, hZ⟩ : ∃ Z, Z = (((((w3.setCell ⟨w.heap.size + 1, 0, none⟩ (.int .i64 0)).setCell ⟨w.heap.size + 1, 1, none⟩ (.int .i64 0)).setCell ⟨w.heap.size + 1, 2, none⟩ (.int .i64 0)).setCell ⟨w.heap.size + 1, 3, none⟩ (.slice none 0 0)).setCell ⟨w.heap.size + 1, 4, none⟩ (.slice none 0 0)).setCell ⟨w.heap.size + 1, 5, none⟩ (.slice none 0 0) := ⟨_, rfl⟩
        rw [← hZ]
        have hwz : Within (w.heap.size + 1) (w.heap.size + 2) w3 Z := by rw [hZ]; exact (((((Within.refl _ _ _ |>.setCell (by omega) (by omega) _ _) |>.setCell (by omega) (by omega) _ _) |>.setCell (by omega) (by omega) _ _) |>.setCell (by omega) (by omega) _ _) |>.setCell (by omega) (by omega) _ _) |>.setCell (by omega) (by omega) _ _
        have hZs : Z.heap.size = w3.heap.size := by rw [hZ]; simp only [size_setC]
        have BZ : BoxN Z (w.heap.size + 1) 85 [(.int .i64 0), (.int .i64 0), (.int .i64 0), (.slice none 0 0), (.slice none 0 0), (.slice none 0 0)] := by rw [hZ]; exact (((((BU.out.set 0 _).set 1 _).set 2 _).set 3 _).set 4 _).set 5 _
        have HZB := Lib.hid ((Below.next HWB.out hcum).trans (hwz.below (B := w.heap.size) (by omega) (by omega)))
        clear hZ r0 r1 r2 r3 r4 r5 fr
        have r0 := BZ.cell (i := 0) rfl
        have r1 := BZ.cell (i := 1) rfl
        have r2 := BZ.cell (i := 2) rfl
        have r3 := BZ.cell (i := 3) rfl
        have r4 := BZ.cell (i := 4) rfl
        have r5 := BZ.cell (i := 5) rfl
        refine bodyPost_ret (v := .tuple #[.agg #[.int .i64 0, .int .i64 0, .int .i64 0, .slice none 0 0, .slice none 0 0, .slice none 0 0], .bool false]) (by simp [results, Try.results50, go_sem, r0, r1, r2, r3, r4, r5]) rfl ⟨_, rfl, own_head (vs := [.slice none 0 0, .slice none 0 0, .slice none 0 0]) (own_zProof _ _ _ (by omega)) ⟨by decide, by decide⟩ ⟨by decide, by decide⟩ ⟨by decide, by decide⟩, HZB.out⟩
      | true =>
        have HHB : Hid (headB ⟨a, s, r, zProof⟩ = true) := H1.out
        go_wp2_with fail
        refine wp_region_noPanic ?_
        refine wp_region_take (fun w' => Below w3.heap.size w3 w' ∧ w'.cell? ⟨w.heap.size, 0, none⟩ = some (.int .i64 p) ∧ w'.cell? ⟨w.heap.size, 1, none⟩ = some (.int .i64 q) ∧ w'.cell? ⟨w.heap.size, 2, none⟩ = some (.int .i64 g) ∧ w'.cell? ⟨w.heap.size + 1 + 1, 0, none⟩ = some (.int .i64 a) ∧ w'.cell? ⟨w.heap.size + 1 + 1, 1, none⟩ = some (.int .i64 s) ∧ w'.cell? ⟨w.heap.size + 1 + 1, 2, none⟩ = some (.int .i64 r) ∧ w'.cell? ⟨w.heap.size + 1 + 1, 3, none⟩ = some (.slice none 0 0) ∧ w'.cell? ⟨w.heap.size + 1 + 1, 4, none⟩ = some (.slice none 0 0) ∧ w'.cell? ⟨w.heap.size + 1 + 1, 5, none⟩ = some (.slice none 0 0)) 10 [(true, 0), (true, 1), (true, 3), (true, 4), (false, 2), (false, 5)] [6, 7] (by kernel_rfl) (by kernel_rfl) rfl (fun _ _ _ _ _ h => h) ⟨(Below.refl _ _).drew, p0, p1, p2, k0, k1, k2, k3, k4, k5⟩ ?_
        simp only [pickL, pickN, List.getElem?_cons_zero, List.getElem?_cons_succ]
        repeat (refine' wpTake_read _ (by rfl) (fun w' hS' => ?_) ?_; rotate_left; · ((try dsimp only at hS'); go_simp; (try with_reducible rfl)); (try simp only [Act.put, List.setIfInBounds_toArray, List.set_cons_zero, List.set_cons_succ]))
        refine wpTake_do (by rfl) (fun K hK => ?_)
        go_simp
        go_at_call 142
        refine (spec_oHeadLabel _ ⟨a, s, r, zProof⟩ _ (rd_head0 _ JA.out JS.out JR.out) HHB.out).mono ?_
        rintro e w4 ⟨rfl, hb4⟩
        have hbz : Below w3.heap.size w3 w4 := keep_b hb4 (Below.refl _ _).drew
        refine hK.out _ _ ⟨hbz, box_at p0 hbz, box_at p1 hbz, box_at p2 hbz, box_at k0 hbz, box_at k1 hbz, box_at k2 hbz, box_at k3 hbz, box_at k4 hbz, box_at k5 hbz⟩ (fun _ => ?_)
        clear hK K
        try simp only [Act.put, List.setIfInBounds_toArray, List.set_cons_zero, List.set_cons_succ]
        refine wpTake_do (by rfl) (fun K hK => ?_)
        go_simp
        go_at_call 141
        refine (spec_oSign ⟨p, q, g⟩ _ x c _ HG.out HLS.out HXC2.out.1 HXC2.out.2).mono ?_
        rintro e w5 ⟨v5, rfl, ho5, hb5⟩
        obtain ⟨a1, m1, c1, a2, m2, c2, a3, m3, c3, rfl, _, _, _⟩ := rdProof.1 ((kS rProof).own_rd ho5)
        have HO5 := Lib.hid ho5
        have hb45 := hbz.trans (hb5.mono hbz.size)
        refine hK.out _ _ ⟨hb45, box_at p0 hb45, box_at p1 hb45, box_at p2 hb45, box_at k0 hb45, box_at k1 hb45, box_at k2 hb45, box_at k3 hb45, box_at k4 hb45, box_at k5 hb45⟩ (fun _ => ?_)
        clear hK K
        try simp only [Act.put, List.setIfInBounds_toArray, List.set_cons_zero, List.set_cons_succ]
        refine wpTake_nil ?_
        have BH5 := Lib.hid (BHV.out.below hb45)
        have h3w := hcum.size
        have h4w := hbz.size
        have h5w := hb5.size
        replace hcum := hcum.trans (hb45.mono hcum.size)
        clear ho5 p0 p1 p2 k0 k1 k2 k3 k4 k5 hbz hb4 hb5 hb45
        have k0 := BH5.out.cell (i := 0) rfl
        have k1 := BH5.out.cell (i := 1) rfl
        have k2 := BH5.out.cell (i := 2) rfl
        have k3 := BH5.out.cell (i := 3) rfl
        have k4 := BH5.out.cell (i := 4) rfl
        have k5 := BH5.out.cell (i := 5) rfl
        have fk := BH5.out.frozen
        go_wp2_with fail
        refine NoPanic.normal ?_
        obtain ⟨U, hU⟩ : ∃ U, U = ((w5.setCell ⟨w.heap.size + 1 + 1, 3, none⟩ (.slice a1 m1 c1)).setCell ⟨w.heap.size + 1 + 1, 4, none⟩ (.slice a2 m2 c2)).setCell ⟨w.heap.size + 1 + 1, 5, none⟩ (.slice a3 m3 c3) := ⟨_, rfl⟩
        rw [← hU]
        have hsW := HSW.out
        have hwi : Within (w.heap.size + 1 + 1) (w.heap.size + 1 + 1 + 1) w5 U := by rw [hU]; exact ((Within.refl _ _ _ |>.setCell (by omega) (by omega) _ _) |>.setCell (by omega) (by omega) _ _) |>.setCell (by omega) (by omega) _ _
        have hsU : U.heap.size = w5.heap.size := by rw [hU]; simp only [size_setC]
        have BHZ : BoxN U (w.heap.size + 1 + 1) 85 [.int .i64 a, .int .i64 s, .int .i64 r, .slice a1 m1 c1, .slice a2 m2 c2, .slice a3 m3 c3] := by rw [hU]; exact ((BH5.out.set 3 _).set 4 _).set 5 _
        have BU := Lib.hid ((BR.out.below hcum).kept hwi (.inl (by omega)))
        have HOU := Lib.hid ((kS rProof).own_mono (lo' := W.heap.size) (hi' := U.heap.size) (Kind.kept (K := kS rProof) HO5.out hwi (.inr (by omega))) (by omega) (by omega))
        have HWU := Lib.hid ((Below.next HWB.out hcum).trans (hwi.below (B := w.heap.size) (by omega) (by omega)))
        clear hU k0 k1 k2 k3 k4 k5 fk hsW
        have k0 := BHZ.cell (i := 0) rfl
        have k1 := BHZ.cell (i := 1) rfl
        have k2 := BHZ.cell (i := 2) rfl
        have k3 := BHZ.cell (i := 3) rfl
        have k4 := BHZ.cell (i := 4) rfl
        have k5 := BHZ.cell (i := 5) rfl
        have r0 := BU.out.cell (i := 0) rfl
        have r1 := BU.out.cell (i := 1) rfl
        have r2 := BU.out.cell (i := 2) rfl
        have r3 := BU.out.cell (i := 3) rfl
        have r4 := BU.out.cell (i := 4) rfl
        have r5 := BU.out.cell (i := 5) rfl
        have fr := BU.out.frozen
        go_wp2_with fail
        have hsW := HSW.out
        obtain ⟨Z, hZ⟩ : ∃ Z, Z = (((((U.setCell ⟨w.heap.size + 1, 0, none⟩ (.int .i64 a)).setCell ⟨w.heap.size + 1, 1, none⟩ (.int .i64 s)).setCell ⟨w.heap.size + 1, 2, none⟩ (.int .i64 r)).setCell ⟨w.heap.size + 1, 3, none⟩ (.slice a1 m1 c1)).setCell ⟨w.heap.size + 1, 4, none⟩ (.slice a2 m2 c2)).setCell ⟨w.heap.size + 1, 5, none⟩ (.slice a3 m3 c3) := ⟨_, rfl⟩
        rw [← hZ]
        have hwz : Within (w.heap.size + 1) (w.heap.size + 2) U Z := by rw [hZ]; exact (((((Within.refl _ _ _ |>.setCell (by omega) (by omega) _ _) |>.setCell (by omega) (by omega) _ _) |>.setCell (by omega) (by omega) _ _) |>.setCell (by omega) (by omega) _ _) |>.setCell (by omega) (by omega) _ _) |>.setCell (by omega) (by omega) _ _
        have hZs : Z.heap.size = U.heap.size := by rw [hZ]; simp only [size_setC]
        have BZ : BoxN Z (w.heap.size + 1) 85 [.int .i64 a, .int .i64 s, .int .i64 r, .slice a1 m1 c1, .slice a2 m2 c2, .slice a3 m3 c3] := by rw [hZ]; exact (((((BU.out.set 0 _).set 1 _).set 2 _).set 3 _).set 4 _).set 5 _
        have HZB := Lib.hid (HWU.out.trans (hwz.below (B := w.heap.size) (by omega) (by omega)))
        clear hZ r0 r1 r2 r3 r4 r5 fr
        have r0 := BZ.cell (i := 0) rfl
        have r1 := BZ.cell (i := 1) rfl
        have r2 := BZ.cell (i := 2) rfl
        have r3 := BZ.cell (i := 3) rfl
        have r4 := BZ.cell (i := 4) rfl
        have r5 := BZ.cell (i := 5) rfl
        have HOZ := Lib.hid ((kS rProof).own_mono (lo' := w.heap.size) (hi' := Z.heap.size) (Kind.kept (K := kS rProof) HOU.out hwz (.inr (by omega))) (by omega) (by omega))
        refine bodyPost_ret (v := .tuple #[.agg #[.int .i64 a, .int .i64 s, .int .i64 r, .slice a1 m1 c1, .slice a2 m2 c2, .slice a3 m3 c3], .bool true]) (by simp [results, Try.results50, go_sem, r0, r1, r2, r3, r4, r5]) rfl ⟨_, rfl, own_head (vs := [.slice a1 m1 c1, .slice a2 m2 c2, .slice a3 m3 c3]) HOZ.out JA.out JS.out JR.out, HZB.out⟩
theorem sz_pvD (gr : GroupD) (s : ByteArray) (b x c : Int) : szProof (pvD gr s [[b]] [x] [c]) = 3 := by
  unfold szProof pvD; simp [imagesL, respN]
theorem cn_shD (gr : GroupD) (x a s r c : Int) : cnHead (shD gr x a s r c) ≤ 12 := by
  have h := cnHead_le (shD gr x a s r c)
  have : szHead (shD gr x a s r c) ≤ 3 := by
    unfold shD szHead
    split
    · rw [sz_pvD]; exact Nat.le_refl _
    · simp [szProof, zProof]
  omega
end Go.Proofs.Ytapfceghgkmgoaa
