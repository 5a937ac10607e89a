/- Walks: SignHead. -/
import Derived.Test.YtapfceghgkmgoaaProve4
import Derived.Test.YtapfceghgkmgoaaVKeys
namespace Go.Proofs.Ytapfceghgkmgoaa
open Go.RowKit
set_option linter.unusedSimpArgs false
set_option linter.unusedVariables false
theorem BoxN.newD (w : World) (cs : List Value) (t : TypeId) : BoxN ((w.alloc (.cells cs.toArray t)).drew) w.heap.size t cs := (BoxN.new w cs t).below (Below.refl _ _).drew
theorem SOf2 {p q : Prop} (f : p → q) (h : p) : p ∧ q := ⟨h, f h⟩
theorem rowsB_g {gr : GroupD} (hg : OkG gr) : rowsB gr [[gr.g]] = true := by
  have h1 := hg.g1; have h2 := hg.g2; have h3 := hg.one
  have e : elB gr gr.g = true := by
    unfold elB
    rw [decide_eq_true (show 1 ≤ gr.g ∧ gr.g ≤ gr.p - 1 by omega), h3]; rfl
  simp [rowsB, rowB, headLen, e]
theorem plB_1 {gr : GroupD} {s : ByteArray} {x c : Int} (hs : s.size ≤ 40) : plB gr s [[gr.g]] [x] [c] = (goodG gr && (expB gr x && expB gr c)) := by
  unfold plB
  cases h : goodG gr with
  | false => rfl
  | true =>
    rw [rowsB_g (goodG_ok h), decide_eq_true hs]
    simp [headLen]
/-- a head may be signed -/
noncomputable def shB (gr : GroupD) (x a s r c : Int) : Bool := headI a s r && (goodG gr && (expB gr x && expB gr c))
noncomputable def shD (gr : GroupD) (x a s r c : Int) : HeadD := if shB gr x a s r c = true then ⟨a, s, r, pvD gr (hdLabel a s r) [[gr.g]] [x] [c]⟩ else ⟨0, 0, 0, zProof⟩
theorem own_head {w : World} {lo hi : Nat} {a s r : Int} {vs : List Value} {d : ProofD} (h : (kS rProof).own w lo hi (.agg vs.toArray) d) (ha : I64 a) (hs : I64 s) (hr : I64 r) :
    (kS rHead).own w lo hi (.agg (.int .i64 a :: .int .i64 s :: .int .i64 r :: vs).toArray) ⟨a, s, r, d⟩ := by
  obtain ⟨vs', e, h⟩ := h
  obtain rfl : vs = vs' := by have h := Value.agg.inj e; simpa using congrArg Array.toList h
  exact ⟨_, rfl, ⟨_, rfl, ha, ⟨_, rfl, hs, ⟨_, rfl, hr, h⟩⟩⟩⟩
set_option maxRecDepth 100000 in
set_option maxHeartbeats 8000000 in
theorem impl_SignHead (gr : GroupD) (x a s r c : Int) (w : World) (hgr : I64 gr.g) (hx : I64 x) (ha : I64 a) (hs : I64 s) (hr : I64 r) (hc : I64 c) :
    Calls Try.prog 52 #[.agg #[.int .i64 gr.p, .int .i64 gr.q, .int .i64 gr.g], .int .i64 x, .int .i64 a, .int .i64 s, .int .i64 r, .int .i64 c] w fun e w' => ∃ v, e = .returned (.tuple #[v, .bool (shB gr x a s r c)]) ∧ (kS rHead).own w' w.heap.size w'.heap.size v (shD gr x a s r c) ∧ Below w.heap.size w w' := by
  have JX := Lib.hid hx; have JC := Lib.hid hc; have JA := Lib.hid ha; have JS := Lib.hid hs; have JR := Lib.hid hr
  clear hx hc ha hs hr
  have HLS : Hid ((hdLabel a s r).size ≤ 40) := by unfold Hid; rw [hdLabel_size]; omega
  have JG := Lib.hid hgr; clear hgr
  (obtain ⟨q1, h_q⟩ : ∃ b_q, headI a s r = b_q := ⟨_, rfl⟩); have H1 := Lib.hid h_q; clear h_q
  (obtain ⟨q2, h_q⟩ : ∃ b_q, (goodG gr && (expB gr x && expB gr c)) = b_q := ⟨_, rfl⟩); have H2 := Lib.hid h_q; clear h_q
  have HB : Hid (shB gr x a s r c = (q1 && q2)) := by unfold Hid shB; rw [H1.out, H2.out]
  have HD : Hid (shD gr x a s r c = if (q1 && q2) = true then ⟨a, s, r, pvD gr (hdLabel a s r) [[gr.g]] [x] [c]⟩ else ⟨0, 0, 0, zProof⟩) := by unfold Hid shD; rw [HB.out]
  have HPB : Hid (plB gr (hdLabel a s r) [[gr.g]] [x] [c] = q2) := by unfold Hid; rw [plB_1 HLS.out]; exact H2.out
  have HPD : Hid (plD gr (hdLabel a s r) [[gr.g]] [x] [c] = if q2 = true then pvD gr (hdLabel a s r) [[gr.g]] [x] [c] else zProof) := by unfold Hid plD; rw [HPB.out]
  rw [HB.out, HD.out]
  obtain ⟨p, q, g⟩ := gr
  obtain ⟨W, hW⟩ : ∃ W, W = (w.alloc (.cells #[.int .i64 p, .int .i64 q, .int .i64 g] 88)).alloc (.cells #[.int .i64 0, .int .i64 0, .int .i64 0, .slice none 0 0, .slice none 0 0, .slice none 0 0] 85) := ⟨_, rfl⟩
  have HWB : Hid (Below w.heap.size w W) := by unfold Hid; rw [hW]; (repeat (first | exact Below.refl _ _ | assumption | refine Below.drew ?_ | refine Below.alloc ?_ (by first | (simp; done) | (simp; omega)) _ | refine Below.setCell ?_ (by first | (simp; done) | (simp; omega)) _))
  have hsW : W.heap.size = w.heap.size + 2 := by rw [hW]; simp
  have p0 : W.cell? ⟨w.heap.size, 0, none⟩ = some (.int .i64 p) := by rw [hW]; simp [go_sem]
  have p1 : W.cell? ⟨w.heap.size, 1, none⟩ = some (.int .i64 q) := by rw [hW]; simp [go_sem]
  have p2 : W.cell? ⟨w.heap.size, 2, none⟩ = some (.int .i64 g) := by rw [hW]; simp [go_sem]
  have hs1 : (w.alloc (.cells #[.int .i64 p, .int .i64 q, .int .i64 g] 88)).heap.size = w.heap.size + 1 := by simp
  have BR : Hid (BoxN W (w.heap.size + 1) 85 [.int .i64 0, .int .i64 0, .int .i64 0, .slice none 0 0, .slice none 0 0, .slice none 0 0]) := by unfold Hid; rw [hW, ← hs1]; exact BoxN.new _ [.int .i64 0, .int .i64 0, .int .i64 0, .slice none 0 0, .slice none 0 0, .slice none 0 0] _
  have FX : Hid (∀ W', Below W.heap.size W W' → W'.cell? ⟨w.heap.size, 0, none⟩ = some (.int .i64 p) ∧ W'.cell? ⟨w.heap.size, 1, none⟩ = some (.int .i64 q) ∧ W'.cell? ⟨w.heap.size, 2, none⟩ = some (.int .i64 g)) := fun W' hb => ⟨box_at p0 hb, box_at p1 hb, box_at p2 hb⟩
  have hcum : Below W.heap.size W W := Below.refl _ _
  clear hs1
  have HW := Lib.hid hW
  clear hW
  cases q1 with
  | false =>
    go_enter Try.func52, Try.ntmps52
    have BU := Lib.hid (BR.out.below hcum)
    have r0 := BU.out.cell (i := 0) rfl
    have r1 := BU.out.cell (i := 1) rfl
    have r2 := BU.out.cell (i := 2) rfl
    have r3 := BU.out.cell (i := 3) rfl
    have r4 := BU.out.cell (i := 4) rfl
    have r5 := BU.out.cell (i := 5) rfl
    have fr := BU.out.frozen
    have hlw := hcum.size
    have HW' := HW.out
    go_wp2_with (first | (go_at_call 143; refine (impl_isPlainHead _ _ _ _).mono ?_; rintro e wz ⟨rfl, rfl⟩; rw [H1.out, ← HW']; clear HW') | fail)
    go_wp2_with fail
    try have hsW := HSW.out
    obtain ⟨Z, hZ⟩ : ∃ Z, Z = (((((W.setCell ⟨w.heap.size + 1, 0, none⟩ (.int .i64 0)).setCell ⟨w.heap.size + 1, 1, none⟩ (.int .i64 0)).setCell ⟨w.heap.size + 1, 2, none⟩ (.int .i64 0)).setCell ⟨w.heap.size + 1, 3, none⟩ (.slice none 0 0)).setCell ⟨w.heap.size + 1, 4, none⟩ (.slice none 0 0)).setCell ⟨w.heap.size + 1, 5, none⟩ (.slice none 0 0) := ⟨_, rfl⟩
    rw [← hZ]
    have hwz : Within (w.heap.size + 1) (w.heap.size + 2) W Z := by rw [hZ]; exact (((((Within.refl _ _ _ |>.setCell (by omega) (by omega) _ _) |>.setCell (by omega) (by omega) _ _) |>.setCell (by omega) (by omega) _ _) |>.setCell (by omega) (by omega) _ _) |>.setCell (by omega) (by omega) _ _) |>.setCell (by omega) (by omega) _ _
    have hZs : Z.heap.size = W.heap.size := by rw [hZ]; simp only [size_setC]
    have BZ : BoxN Z (w.heap.size + 1) 85 [(.int .i64 0), (.int .i64 0), (.int .i64 0), (.slice none 0 0), (.slice none 0 0), (.slice none 0 0)] := by rw [hZ]; exact (((((BU.out.set 0 _).set 1 _).set 2 _).set 3 _).set 4 _).set 5 _
    have HZB := Lib.hid ((Below.next HWB.out hcum).trans (hwz.below (B := w.heap.size) (by omega) (by omega)))
    clear hZ r0 r1 r2 r3 r4 r5 fr
    have r0 := BZ.cell (i := 0) rfl
    have r1 := BZ.cell (i := 1) rfl
    have r2 := BZ.cell (i := 2) rfl
    have r3 := BZ.cell (i := 3) rfl
    have r4 := BZ.cell (i := 4) rfl
    have r5 := BZ.cell (i := 5) rfl
    refine bodyPost_ret (v := .tuple #[.agg #[.int .i64 0, .int .i64 0, .int .i64 0, .slice none 0 0, .slice none 0 0, .slice none 0 0], .bool false]) (by simp [results, Try.results52, go_sem, r0, r1, r2, r3, r4, r5]) rfl ⟨_, rfl, own_head (vs := [.slice none 0 0, .slice none 0 0, .slice none 0 0]) (own_zProof _ _ _ (by omega)) ⟨by decide, by decide⟩ ⟨by decide, by decide⟩ ⟨by decide, by decide⟩, HZB.out⟩
  | true =>
    go_enter Try.func52, Try.ntmps52
    have HW' := HW.out
    go_wp2_with (first | (go_at_call 143; refine (impl_isPlainHead _ _ _ _).mono ?_; rintro e wz ⟨rfl, rfl⟩; rw [H1.out, ← HW']; clear HW') | fail)
    have HSW := Lib.hid hsW
    clear hsW
    go_region_held3 (fun w' => Below W.heap.size W w' ∧ w'.cell? ⟨w.heap.size, 0, none⟩ = some (.int .i64 p) ∧ w'.cell? ⟨w.heap.size, 1, none⟩ = some (.int .i64 q) ∧ w'.cell? ⟨w.heap.size, 2, none⟩ = some (.int .i64 g)) ((refine SOf2 (fun hbq => ⟨box_at p0 hbq, box_at p1 hbq, box_at p2 hbq⟩) ?_; first | exact (Below.refl _ _).drew | exact ((Below.refl _ _).alloc (Nat.le_refl _) _).drew | assumption | exact keep_al (by assumption) _ | exact Below.setCell (Below.setCell (Below.setCell (by assumption) (by first | exact Nat.le_refl _ | (dsimp only; omega)) _) (by first | exact Nat.le_refl _ | (dsimp only; omega)) _) (by first | exact Nat.le_refl _ | (dsimp only; omega)) _ | fail)) ((first
      | (go_at_call 145; refine (impl_headLabel _ _ _ _ H1.out).mono ?_; rintro e w1 ⟨rfl, hb1⟩; (have hbz : Below W.heap.size W w1 := keep_b hb1 (And.left (by assumption))); (have us := hbz.size); (first | (have BB := Lib.hid (BoxN.below (BoxN.newD _ [.slice none 0 0, .slice none 0 0, .slice none 0 0] 47) hb1)) | skip))
      | (go_at_call 144; refine (impl_ProveKnowledge ⟨p, q, g⟩ _ g x c _ (by have := HLS.out; omega) JG.out JX.out JC.out).mono ?_; rintro e w2 ⟨v2, rfl, ho2, hb2⟩; (have HO2 := Lib.hid ho2); (obtain ⟨a1, m1, c1, a2, m2, c2, a3, m3, c3, rfl, _, _, _⟩ := rdProof.1 ((kS rProof).own_rd ho2)); clear ho2; rw [HPB.out]; (have hbz2 : Below W.heap.size W w2 := keep_b hb2 (And.left (by assumption))); (have us2 := hbz2.size); (first | (have BB2 := Lib.hid (BB.out.below hb2); (have y0 := BB2.out.cell (i := 0) rfl); (have y1 := BB2.out.cell (i := 1) rfl); (have y2 := BB2.out.cell (i := 2) rfl); (have fy := BB2.out.frozen)) | (have BB2 := Lib.hid (BoxN.below (BoxN.new _ [.slice none 0 0, .slice none 0 0, .slice none 0 0] 47) hb2); (have y0 := BB2.out.cell (i := 0) rfl); (have y1 := BB2.out.cell (i := 1) rfl); (have y2 := BB2.out.cell (i := 2) rfl); (have fy := BB2.out.frozen)) | skip))
      | fail))
    · obtain ⟨U, hU⟩ : ∃ U, U = w2.alloc (.cells #[.slice a1 m1 c1, .slice a2 m2 c2, .slice a3 m3 c3] 47) := ⟨_, rfl⟩
      rw [← hU]
      have hcum : Below W.heap.size W U := by rw [hU]; exact keep_al hbz2 _
      have HOU := Lib.hid ((kS rProof).own_mono (Kind.next (K := kS rProof) HO2.out (show Below w2.heap.size w2 U by rw [hU]; exact keep_al (Below.refl _ _) _)) us (show w2.heap.size ≤ U.heap.size by rw [hU]; simp))
      have y0 : U.cell? ⟨w2.heap.size, 0, none⟩ = some (.slice a1 m1 c1) := by rw [hU]; simp [go_sem]
      have y1 : U.cell? ⟨w2.heap.size, 1, none⟩ = some (.slice a2 m2 c2) := by rw [hU]; simp [go_sem]
      have y2 : U.cell? ⟨w2.heap.size, 2, none⟩ = some (.slice a3 m3 c3) := by rw [hU]; simp [go_sem]
      clear hU
      have hszU := hcum.size
      clear p0 p1 p2
      cases q2 with
      | false =>
        have BU := Lib.hid (BR.out.below hcum)
        have r0 := BU.out.cell (i := 0) rfl
        have r1 := BU.out.cell (i := 1) rfl
        have r2 := BU.out.cell (i := 2) rfl
        have r3 := BU.out.cell (i := 3) rfl
        have r4 := BU.out.cell (i := 4) rfl
        have r5 := BU.out.cell (i := 5) rfl
        have fr := BU.out.frozen
        have hlw := hcum.size
        go_wp2_with fail
        try have hsW := HSW.out
        obtain ⟨Z, hZ⟩ : ∃ Z, Z = (((((U.setCell ⟨w.heap.size + 1, 0, none⟩ (.int .i64 0)).setCell ⟨w.heap.size + 1, 1, none⟩ (.int .i64 0)).setCell ⟨w.heap.size + 1, 2, none⟩ (.int .i64 0)).setCell ⟨w.heap.size + 1, 3, none⟩ (.slice none 0 0)).setCell ⟨w.heap.size + 1, 4, none⟩ (.slice none 0 0)).setCell ⟨w.heap.size + 1, 5, none⟩ (.slice none 0 0) := ⟨_, rfl⟩
        rw [← hZ]
        have hwz : Within (w.heap.size + 1) (w.heap.size + 2) U Z := by rw [hZ]; exact (((((Within.refl _ _ _ |>.setCell (by omega) (by omega) _ _) |>.setCell (by omega) (by omega) _ _) |>.setCell (by omega) (by omega) _ _) |>.setCell (by omega) (by omega) _ _) |>.setCell (by omega) (by omega) _ _) |>.setCell (by omega) (by omega) _ _
        have hZs : Z.heap.size = U.heap.size := by rw [hZ]; simp only [size_setC]
        have BZ : BoxN Z (w.heap.size + 1) 85 [(.int .i64 0), (.int .i64 0), (.int .i64 0), (.slice none 0 0), (.slice none 0 0), (.slice none 0 0)] := by rw [hZ]; exact (((((BU.out.set 0 _).set 1 _).set 2 _).set 3 _).set 4 _).set 5 _
        have HZB := Lib.hid ((Below.next HWB.out hcum).trans (hwz.below (B := w.heap.size) (by omega) (by omega)))
        clear hZ r0 r1 r2 r3 r4 r5 fr
        have r0 := BZ.cell (i := 0) rfl
        have r1 := BZ.cell (i := 1) rfl
        have r2 := BZ.cell (i := 2) rfl
        have r3 := BZ.cell (i := 3) rfl
        have r4 := BZ.cell (i := 4) rfl
        have r5 := BZ.cell (i := 5) rfl
        refine bodyPost_ret (v := .tuple #[.agg #[.int .i64 0, .int .i64 0, .int .i64 0, .slice none 0 0, .slice none 0 0, .slice none 0 0], .bool false]) (by simp [results, Try.results52, go_sem, r0, r1, r2, r3, r4, r5]) rfl ⟨_, rfl, own_head (vs := [.slice none 0 0, .slice none 0 0, .slice none 0 0]) (own_zProof _ _ _ (by omega)) ⟨by decide, by decide⟩ ⟨by decide, by decide⟩ ⟨by decide, by decide⟩, HZB.out⟩
      | true =>
        have BU := Lib.hid (BR.out.below hcum)
        have r0 := BU.out.cell (i := 0) rfl
        have r1 := BU.out.cell (i := 1) rfl
        have r2 := BU.out.cell (i := 2) rfl
        have r3 := BU.out.cell (i := 3) rfl
        have r4 := BU.out.cell (i := 4) rfl
        have r5 := BU.out.cell (i := 5) rfl
        have fr := BU.out.frozen
        have hlw := hcum.size
        go_wp2_with fail
        try have hsW := HSW.out
        obtain ⟨Z, hZ⟩ : ∃ Z, Z = (((((U.setCell ⟨w.heap.size + 1, 0, none⟩ (.int .i64 a)).setCell ⟨w.heap.size + 1, 1, none⟩ (.int .i64 s)).setCell ⟨w.heap.size + 1, 2, none⟩ (.int .i64 r)).setCell ⟨w.heap.size + 1, 3, none⟩ (.slice a1 m1 c1)).setCell ⟨w.heap.size + 1, 4, none⟩ (.slice a2 m2 c2)).setCell ⟨w.heap.size + 1, 5, none⟩ (.slice a3 m3 c3) := ⟨_, rfl⟩
        rw [← hZ]
        have hwz : Within (w.heap.size + 1) (w.heap.size + 2) U Z := by rw [hZ]; exact (((((Within.refl _ _ _ |>.setCell (by omega) (by omega) _ _) |>.setCell (by omega) (by omega) _ _) |>.setCell (by omega) (by omega) _ _) |>.setCell (by omega) (by omega) _ _) |>.setCell (by omega) (by omega) _ _) |>.setCell (by omega) (by omega) _ _
        have hZs : Z.heap.size = U.heap.size := by rw [hZ]; simp only [size_setC]
        have BZ : BoxN Z (w.heap.size + 1) 85 [(.int .i64 a), (.int .i64 s), (.int .i64 r), (.slice a1 m1 c1), (.slice a2 m2 c2), (.slice a3 m3 c3)] := by rw [hZ]; exact (((((BU.out.set 0 _).set 1 _).set 2 _).set 3 _).set 4 _).set 5 _
        have HZB := Lib.hid ((Below.next HWB.out hcum).trans (hwz.below (B := w.heap.size) (by omega) (by omega)))
        clear hZ r0 r1 r2 r3 r4 r5 fr
        have r0 := BZ.cell (i := 0) rfl
        have r1 := BZ.cell (i := 1) rfl
        have r2 := BZ.cell (i := 2) rfl
        have r3 := BZ.cell (i := 3) rfl
        have r4 := BZ.cell (i := 4) rfl
        have r5 := BZ.cell (i := 5) rfl
        have HOZ := Lib.hid ((kS rProof).own_mono (Kind.kept (K := kS rProof) HOU.out hwz (.inr (by omega))) (show w.heap.size ≤ _ by omega) (show _ ≤ Z.heap.size by omega))
        rw [HPD.out] at HOZ
        refine bodyPost_ret (v := .tuple #[.agg #[.int .i64 a, .int .i64 s, .int .i64 r, .slice a1 m1 c1, .slice a2 m2 c2, .slice a3 m3 c3], .bool true]) (by simp [results, Try.results52, go_sem, r0, r1, r2, r3, r4, r5]) rfl ⟨_, rfl, own_head (vs := [.slice a1 m1 c1, .slice a2 m2 c2, .slice a3 m3 c3]) HOZ.out JA.out JS.out JR.out, HZB.out⟩
    · obtain ⟨U, hU⟩ : ∃ U, U = ((w2.setCell ⟨w1.heap.size, 0, none⟩ (.slice a1 m1 c1)).setCell ⟨w1.heap.size, 1, none⟩ (.slice a2 m2 c2)).setCell ⟨w1.heap.size, 2, none⟩ (.slice a3 m3 c3) := ⟨_, rfl⟩
      rw [← hU]
      have BBU : BoxN U w1.heap.size 47 [.slice a1 m1 c1, .slice a2 m2 c2, .slice a3 m3 c3] := by rw [hU]; exact ((BB2.out.set 0 _).set 1 _).set 2 _
      have hwi : Within w1.heap.size (w1.heap.size + 1) w2 U := by rw [hU]; exact ((Within.refl _ _ _ |>.setCell (by omega) (by omega) _ _) |>.setCell (by omega) (by omega) _ _) |>.setCell (by omega) (by omega) _ _
      have hcum : Below W.heap.size W U := hbz2.trans (hwi.below (B := W.heap.size) (by omega) (by omega))
      have hsU : U.heap.size = w2.heap.size := by rw [hU]; simp only [size_setC]
      try have hlt1 := BB.out.lt
      have HOU := Lib.hid ((kS rProof).own_mono (lo' := W.heap.size) (hi' := U.heap.size) (Kind.kept (K := kS rProof) HO2.out hwi (.inr (by first | (simp; done) | (simp; omega) | omega))) (by first | omega | (simp; omega)) (show w2.heap.size ≤ U.heap.size by omega))
      clear y0 y1 y2 fy
      have y0 := BBU.cell (i := 0) rfl
      have y1 := BBU.cell (i := 1) rfl
      have y2 := BBU.cell (i := 2) rfl
      clear hU
      have hszU := hcum.size
      clear p0 p1 p2
      cases q2 with
      | false =>
        have BU := Lib.hid (BR.out.below hcum)
        have r0 := BU.out.cell (i := 0) rfl
        have r1 := BU.out.cell (i := 1) rfl
        have r2 := BU.out.cell (i := 2) rfl
        have r3 := BU.out.cell (i := 3) rfl
        have r4 := BU.out.cell (i := 4) rfl
        have r5 := BU.out.cell (i := 5) rfl
        have fr := BU.out.frozen
        have hlw := hcum.size
        go_wp2_with fail
        try have hsW := HSW.out
        obtain ⟨Z, hZ⟩ : ∃ Z, Z = (((((U.setCell ⟨w.heap.size + 1, 0, none⟩ (.int .i64 0)).setCell ⟨w.heap.size + 1, 1, none⟩ (.int .i64 0)).setCell ⟨w.heap.size + 1, 2, none⟩ (.int .i64 0)).setCell ⟨w.heap.size + 1, 3, none⟩ (.slice none 0 0)).setCell ⟨w.heap.size + 1, 4, none⟩ (.slice none 0 0)).setCell ⟨w.heap.size + 1, 5, none⟩ (.slice none 0 0) := ⟨_, rfl⟩
        rw [← hZ]
        have hwz : Within (w.heap.size + 1) (w.heap.size + 2) U Z := by rw [hZ]; exact (((((Within.refl _ _ _ |>.setCell (by omega) (by omega) _ _) |>.setCell (by omega) (by omega) _ _) |>.setCell (by omega) (by omega) _ _) |>.setCell (by omega) (by omega) _ _) |>.setCell (by omega) (by omega) _ _) |>.setCell (by omega) (by omega) _ _
        have hZs : Z.heap.size = U.heap.size := by rw [hZ]; simp only [size_setC]
        have BZ : BoxN Z (w.heap.size + 1) 85 [(.int .i64 0), (.int .i64 0), (.int .i64 0), (.slice none 0 0), (.slice none 0 0), (.slice none 0 0)] := by rw [hZ]; exact (((((BU.out.set 0 _).set 1 _).set 2 _).set 3 _).set 4 _).set 5 _
        have HZB := Lib.hid ((Below.next HWB.out hcum).trans (hwz.below (B := w.heap.size) (by omega) (by omega)))
        clear hZ r0 r1 r2 r3 r4 r5 fr
        have r0 := BZ.cell (i := 0) rfl
        have r1 := BZ.cell (i := 1) rfl
        have r2 := BZ.cell (i := 2) rfl
        have r3 := BZ.cell (i := 3) rfl
        have r4 := BZ.cell (i := 4) rfl
        have r5 := BZ.cell (i := 5) rfl
        refine bodyPost_ret (v := .tuple #[.agg #[.int .i64 0, .int .i64 0, .int .i64 0, .slice none 0 0, .slice none 0 0, .slice none 0 0], .bool false]) (by simp [results, Try.results52, go_sem, r0, r1, r2, r3, r4, r5]) rfl ⟨_, rfl, own_head (vs := [.slice none 0 0, .slice none 0 0, .slice none 0 0]) (own_zProof _ _ _ (by omega)) ⟨by decide, by decide⟩ ⟨by decide, by decide⟩ ⟨by decide, by decide⟩, HZB.out⟩
      | true =>
        have BU := Lib.hid (BR.out.below hcum)
        have r0 := BU.out.cell (i := 0) rfl
        have r1 := BU.out.cell (i := 1) rfl
        have r2 := BU.out.cell (i := 2) rfl
        have r3 := BU.out.cell (i := 3) rfl
        have r4 := BU.out.cell (i := 4) rfl
        have r5 := BU.out.cell (i := 5) rfl
        have fr := BU.out.frozen
        have hlw := hcum.size
        go_wp2_with fail
        try have hsW := HSW.out
        obtain ⟨Z, hZ⟩ : ∃ Z, Z = (((((U.setCell ⟨w.heap.size + 1, 0, none⟩ (.int .i64 a)).setCell ⟨w.heap.size + 1, 1, none⟩ (.int .i64 s)).setCell ⟨w.heap.size + 1, 2, none⟩ (.int .i64 r)).setCell ⟨w.heap.size + 1, 3, none⟩ (.slice a1 m1 c1)).setCell ⟨w.heap.size + 1, 4, none⟩ (.slice a2 m2 c2)).setCell ⟨w.heap.size + 1, 5, none⟩ (.slice a3 m3 c3) := ⟨_, rfl⟩
        rw [← hZ]
        have hwz : Within (w.heap.size + 1) (w.heap.size + 2) U Z := by rw [hZ]; exact (((((Within.refl _ _ _ |>.setCell (by omega) (by omega) _ _) |>.setCell (by omega) (by omega) _ _) |>.setCell (by omega) (by omega) _ _) |>.setCell (by omega) (by omega) _ _) |>.setCell (by omega) (by omega) _ _) |>.setCell (by omega) (by omega) _ _
        have hZs : Z.heap.size = U.heap.size := by rw [hZ]; simp only [size_setC]
        have BZ : BoxN Z (w.heap.size + 1) 85 [(.int .i64 a), (.int .i64 s), (.int .i64 r), (.slice a1 m1 c1), (.slice a2 m2 c2), (.slice a3 m3 c3)] := by rw [hZ]; exact (((((BU.out.set 0 _).set 1 _).set 2 _).set 3 _).set 4 _).set 5 _
        have HZB := Lib.hid ((Below.next HWB.out hcum).trans (hwz.below (B := w.heap.size) (by omega) (by omega)))
        clear hZ r0 r1 r2 r3 r4 r5 fr
        have r0 := BZ.cell (i := 0) rfl
        have r1 := BZ.cell (i := 1) rfl
        have r2 := BZ.cell (i := 2) rfl
        have r3 := BZ.cell (i := 3) rfl
        have r4 := BZ.cell (i := 4) rfl
        have r5 := BZ.cell (i := 5) rfl
        have HOZ := Lib.hid ((kS rProof).own_mono (Kind.kept (K := kS rProof) HOU.out hwz (.inr (by omega))) (show w.heap.size ≤ _ by omega) (show _ ≤ Z.heap.size by omega))
        rw [HPD.out] at HOZ
        refine bodyPost_ret (v := .tuple #[.agg #[.int .i64 a, .int .i64 s, .int .i64 r, .slice a1 m1 c1, .slice a2 m2 c2, .slice a3 m3 c3], .bool true]) (by simp [results, Try.results52, go_sem, r0, r1, r2, r3, r4, r5]) rfl ⟨_, rfl, own_head (vs := [.slice a1 m1 c1, .slice a2 m2 c2, .slice a3 m3 c3]) HOZ.out JA.out JS.out JR.out, HZB.out⟩
    · obtain ⟨U, hU⟩ : ∃ U, U = ((w2.setCell ⟨W.heap.size, 0, none⟩ (.slice a1 m1 c1)).setCell ⟨W.heap.size, 1, none⟩ (.slice a2 m2 c2)).setCell ⟨W.heap.size, 2, none⟩ (.slice a3 m3 c3) := ⟨_, rfl⟩
      rw [← hU]
      have BBU : BoxN U W.heap.size 47 [.slice a1 m1 c1, .slice a2 m2 c2, .slice a3 m3 c3] := by rw [hU]; exact ((BB2.out.set 0 _).set 1 _).set 2 _
      have hwi : Within W.heap.size (W.heap.size + 1) w2 U := by rw [hU]; exact ((Within.refl _ _ _ |>.setCell (by omega) (by omega) _ _) |>.setCell (by omega) (by omega) _ _) |>.setCell (by omega) (by omega) _ _
      have hcum : Below W.heap.size W U := hbz2.trans (hwi.below (B := W.heap.size) (by omega) (by omega))
      have hsU : U.heap.size = w2.heap.size := by rw [hU]; simp only [size_setC]
      try have hlt1 := BB.out.lt
      have HOU := Lib.hid ((kS rProof).own_mono (lo' := W.heap.size) (hi' := U.heap.size) (Kind.kept (K := kS rProof) HO2.out hwi (.inr (by first | (simp; done) | (simp; omega) | omega))) (by first | omega | (simp; omega)) (show w2.heap.size ≤ U.heap.size by omega))
      clear y0 y1 y2 fy
      have y0 := BBU.cell (i := 0) rfl
      have y1 := BBU.cell (i := 1) rfl
      have y2 := BBU.cell (i := 2) rfl
      clear hU
      have hszU := hcum.size
      clear p0 p1 p2
      cases q2 with
      | false =>
        have BU := Lib.hid (BR.out.below hcum)
        have r0 := BU.out.cell (i := 0) rfl
        have r1 := BU.out.cell (i := 1) rfl
        have r2 := BU.out.cell (i := 2) rfl
        have r3 := BU.out.cell (i := 3) rfl
        have r4 := BU.out.cell (i := 4) rfl
        have r5 := BU.out.cell (i := 5) rfl
        have fr := BU.out.frozen
        have hlw := hcum.size
        go_wp2_with fail
        try have hsW := HSW.out
        obtain ⟨Z, hZ⟩ : ∃ Z, Z = (((((U.setCell ⟨w.heap.size + 1, 0, none⟩ (.int .i64 0)).setCell ⟨w.heap.size + 1, 1, none⟩ (.int .i64 0)).setCell ⟨w.heap.size + 1, 2, none⟩ (.int .i64 0)).setCell ⟨w.heap.size + 1, 3, none⟩ (.slice none 0 0)).setCell ⟨w.heap.size + 1, 4, none⟩ (.slice none 0 0)).setCell ⟨w.heap.size + 1, 5, none⟩ (.slice none 0 0) := ⟨_, rfl⟩
        rw [← hZ]
        have hwz : Within (w.heap.size + 1) (w.heap.size + 2) U Z := by rw [hZ]; exact (((((Within.refl _ _ _ |>.setCell (by omega) (by omega) _ _) |>.setCell (by omega) (by omega) _ _) |>.setCell (by omega) (by omega) _ _) |>.setCell (by omega) (by omega) _ _) |>.setCell (by omega) (by omega) _ _) |>.setCell (by omega) (by omega) _ _
        have hZs : Z.heap.size = U.heap.size := by rw [hZ]; simp only [size_setC]
        have BZ : BoxN Z (w.heap.size + 1) 85 [(.int .i64 0), (.int .i64 0), (.int .i64 0), (.slice none 0 0), (.slice none 0 0), (.slice none 0 0)] := by rw [hZ]; exact (((((BU.out.set 0 _).set 1 _).set 2 _).set 3 _).set 4 _).set 5 _
        have HZB := Lib.hid ((Below.next HWB.out hcum).trans (hwz.below (B := w.heap.size) (by omega) (by omega)))
        clear hZ r0 r1 r2 r3 r4 r5 fr
        have r0 := BZ.cell (i := 0) rfl
        have r1 := BZ.cell (i := 1) rfl
        have r2 := BZ.cell (i := 2) rfl
        have r3 := BZ.cell (i := 3) rfl
        have r4 := BZ.cell (i := 4) rfl
        have r5 := BZ.cell (i := 5) rfl
        refine bodyPost_ret (v := .tuple #[.agg #[.int .i64 0, .int .i64 0, .int .i64 0, .slice none 0 0, .slice none 0 0, .slice none 0 0], .bool false]) (by simp [results, Try.results52, go_sem, r0, r1, r2, r3, r4, r5]) rfl ⟨_, rfl, own_head (vs := [.slice none 0 0, .slice none 0 0, .slice none 0 0]) (own_zProof _ _ _ (by omega)) ⟨by decide, by decide⟩ ⟨by decide, by decide⟩ ⟨by decide, by decide⟩, HZB.out⟩
      | true =>
        have BU := Lib.hid (BR.out.below hcum)
        have r0 := BU.out.cell (i := 0) rfl
        have r1 := BU.out.cell (i := 1) rfl
        have r2 := BU.out.cell (i := 2) rfl
        have r3 := BU.out.cell (i := 3) rfl
        have r4 := BU.out.cell (i := 4) rfl
        have r5 := BU.out.cell (i := 5) rfl
        have fr := BU.out.frozen
        have hlw := hcum.size
        go_wp2_with fail
        try have hsW := HSW.out
        obtain ⟨Z, hZ⟩ : ∃ Z, Z = (((((U.setCell ⟨w.heap.size + 1, 0, none⟩ (.int .i64 a)).setCell ⟨w.heap.size + 1, 1, none⟩ (.int .i64 s)).setCell ⟨w.heap.size + 1, 2, none⟩ (.int .i64 r)).setCell ⟨w.heap.size + 1, 3, none⟩ (.slice a1 m1 c1)).setCell ⟨w.heap.size + 1, 4, none⟩ (.slice a2 m2 c2)).setCell ⟨w.heap.size + 1, 5, none⟩ (.slice a3 m3 c3) := ⟨_, rfl⟩
        rw [← hZ]
        have hwz : Within (w.heap.size + 1) (w.heap.size + 2) U Z := by rw [hZ]; exact (((((Within.refl _ _ _ |>.setCell (by omega) (by omega) _ _) |>.setCell (by omega) (by omega) _ _) |>.setCell (by omega) (by omega) _ _) |>.setCell (by omega) (by omega) _ _) |>.setCell (by omega) (by omega) _ _) |>.setCell (by omega) (by omega) _ _
        have hZs : Z.heap.size = U.heap.size := by rw [hZ]; simp only [size_setC]
        have BZ : BoxN Z (w.heap.size + 1) 85 [(.int .i64 a), (.int .i64 s), (.int .i64 r), (.slice a1 m1 c1), (.slice a2 m2 c2), (.slice a3 m3 c3)] := by rw [hZ]; exact (((((BU.out.set 0 _).set 1 _).set 2 _).set 3 _).set 4 _).set 5 _
        have HZB := Lib.hid ((Below.next HWB.out hcum).trans (hwz.below (B := w.heap.size) (by omega) (by omega)))
        clear hZ r0 r1 r2 r3 r4 r5 fr
        have r0 := BZ.cell (i := 0) rfl
        have r1 := BZ.cell (i := 1) rfl
        have r2 := BZ.cell (i := 2) rfl
        have r3 := BZ.cell (i := 3) rfl
        have r4 := BZ.cell (i := 4) rfl
        have r5 := BZ.cell (i := 5) rfl
        have HOZ := Lib.hid ((kS rProof).own_mono (Kind.kept (K := kS rProof) HOU.out hwz (.inr (by omega))) (show w.heap.size ≤ _ by omega) (show _ ≤ Z.heap.size by omega))
        rw [HPD.out] at HOZ
        refine bodyPost_ret (v := .tuple #[.agg #[.int .i64 a, .int .i64 s, .int .i64 r, .slice a1 m1 c1, .slice a2 m2 c2, .slice a3 m3 c3], .bool true]) (by simp [results, Try.results52, go_sem, r0, r1, r2, r3, r4, r5]) rfl ⟨_, rfl, own_head (vs := [.slice a1 m1 c1, .slice a2 m2 c2, .slice a3 m3 c3]) HOZ.out JA.out JS.out JR.out, HZB.out⟩
end Go.Proofs.Ytapfceghgkmgoaa
