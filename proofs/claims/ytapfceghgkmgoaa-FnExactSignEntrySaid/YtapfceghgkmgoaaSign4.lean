/- Walks: SignEntry of the reference. -/
import Derived.Test.YtapfceghgkmgoaaSign3
namespace Go.Proofs.Ytapfceghgkmgoaa
open Go.RowKit
set_option linter.unusedSimpArgs false
set_option linter.unusedVariables false
theorem rd_entry0 {w : World} {k a : Int} {v : Value} {l : List Int} (hk : I64 k) (ha : I64 a) (h : Ints w v l) : (kS rEntry).rd w (.agg #[.int .i64 k, .int .i64 a, v, .slice none 0 0, .slice none 0 0, .slice none 0 0]) ⟨k, a, l, zProof⟩ := by
  obtain ⟨a2, n2, c2, rfl⟩ := h.shape
  exact rdEntry.2 ⟨_, _, _, _, _, _, _, _, _, _, _, _, rfl, hk, ha, h, Ints.nil w, Ints.nil w, Ints.nil w⟩
set_option maxRecDepth 100000 in
set_option maxHeartbeats 8000000 in
theorem spec_oEntry (gr : GroupD) (x k a t : Int) (vl : Value) (l : List Int) (c : Int) (w : World) (hg : OkG gr) (hl : Ints w vl l) (he : edB k a t l = true) (hx : expB gr x = true) (hc : expB gr c = true) :
    Calls Try.prog 147 #[.agg #[.int .i64 gr.p, .int .i64 gr.q, .int .i64 gr.g], .int .i64 x, .int .i64 k, .int .i64 a, .int .i64 t, vl, .int .i64 c] w fun e w' => ∃ v, e = .returned v ∧ (kS rEntry).own w' w.heap.size w'.heap.size v ⟨k, a, l, pvD gr (enLabel k a t l) [[gr.g]] [x] [c]⟩ ∧ Below w.heap.size w w' := by
  obtain ⟨⟨e1, e2⟩, ⟨e3, e4⟩, e5, e6, e7, e8⟩ := edB_parts he
  have JK : Hid (I64 k) := ⟨by omega, by omega⟩
  have JA : Hid (I64 a) := ⟨by omega, by omega⟩
  have HT : Hid (0 ≤ t ∧ t ≤ 63) := ⟨e7, e8⟩
  have HEN : Hid (entB k a l = true) := by unfold Hid; rw [← edB_at ⟨e7, e8⟩]; exact he
  have HLN := Lib.hid e5
  have HLI := Lib.hid hl
  have HLS : Hid ((enLabel k a t l).size ≤ 40) := by unfold Hid; rw [enLabel_size]; omega
  have HXC2 : Hid (expB gr x = true ∧ expB gr c = true) := ⟨hx, hc⟩
  have HG := Lib.hid hg
  clear e1 e2 e3 e4 e5 e6 e7 e8 hl hx hc hg he
  obtain ⟨p, q, g⟩ := gr
  obtain ⟨W, hW⟩ : ∃ W, W = (w.alloc (.cells #[.int .i64 p, .int .i64 q, .int .i64 g] 88)).alloc (.cells #[.int .i64 0, .int .i64 0, .slice none 0 0, .slice none 0 0, .slice none 0 0, .slice none 0 0] 94) := ⟨_, rfl⟩
  have HWB : Hid (Below w.heap.size w W) := by unfold Hid; rw [hW]; (repeat (first | exact Below.refl _ _ | assumption | refine Below.drew ?_ | refine Below.alloc ?_ (by first | (simp; done) | (simp; omega)) _ | refine Below.setCell ?_ (by first | (simp; done) | (simp; omega)) _))
  have hsW : W.heap.size = w.heap.size + 2 := by rw [hW]; simp
  have p0 : W.cell? ⟨w.heap.size, 0, none⟩ = some (.int .i64 p) := by rw [hW]; simp [go_sem]
  have p1 : W.cell? ⟨w.heap.size, 1, none⟩ = some (.int .i64 q) := by rw [hW]; simp [go_sem]
  have p2 : W.cell? ⟨w.heap.size, 2, none⟩ = some (.int .i64 g) := by rw [hW]; simp [go_sem]
  have hs1 : (w.alloc (.cells #[.int .i64 p, .int .i64 q, .int .i64 g] 88)).heap.size = w.heap.size + 1 := by simp
  have BR : Hid (BoxN W (w.heap.size + 1) 94 [.int .i64 0, .int .i64 0, .slice none 0 0, .slice none 0 0, .slice none 0 0, .slice none 0 0]) := by unfold Hid; rw [hW, ← hs1]; exact BoxN.new _ [.int .i64 0, .int .i64 0, .slice none 0 0, .slice none 0 0, .slice none 0 0, .slice none 0 0] _
  have FX : Hid (∀ W', Below W.heap.size W W' → W'.cell? ⟨w.heap.size, 0, none⟩ = some (.int .i64 p) ∧ W'.cell? ⟨w.heap.size, 1, none⟩ = some (.int .i64 q) ∧ W'.cell? ⟨w.heap.size, 2, none⟩ = some (.int .i64 g)) := fun W' hb => ⟨box_at p0 hb, box_at p1 hb, box_at p2 hb⟩
  have hcum : Below W.heap.size W W := Below.refl _ _
  clear hs1
  have HW := Lib.hid hW
  clear hW
  go_enter Try.func147, Try.ntmps147
  go_wp2_with fail
  rw [← HW.out]
  refine (spec_l1Own _ l _ (HLI.out.below HWB.out) (by have := HLN.out; omega)).mono ?_
  rintro e w1 ⟨v1, rfl, ho1, hb1⟩
  obtain ⟨ac, cc, rfl⟩ := ho1.shape
  have HO1 := Lib.hid (InI.of_own ho1)
  have HI1 := Lib.hid ho1.ints
  have hs1' := hb1.size
  clear ho1
  replace hcum := hcum.trans (hb1.mono hcum.size)
  clear hb1
  clear p0 p1 p2
  obtain ⟨p0, p1, p2⟩ := FX.out _ hcum
  have HSW := Lib.hid hsW
  clear hsW
  go_wp2_with fail
  obtain ⟨w3, hw3⟩ : ∃ u, u = w1.alloc (.cells #[.int .i64 k, .int .i64 a, .slice ac l.length cc, .slice none 0 0, .slice none 0 0, .slice none 0 0] 94) := ⟨_, rfl⟩
  rw [← hw3]
  have hb3 : Below w1.heap.size w1 w3 := by rw [hw3]; exact keep_al (Below.refl _ _) _
  have hs3 : w3.heap.size = w1.heap.size + 1 := by rw [hw3]; simp
  have BHV : Hid (BoxN w3 w1.heap.size 94 [.int .i64 k, .int .i64 a, .slice ac l.length cc, .slice none 0 0, .slice none 0 0, .slice none 0 0]) := by unfold Hid; rw [hw3]; exact BoxN.new _ [.int .i64 k, .int .i64 a, .slice ac l.length cc, .slice none 0 0, .slice none 0 0, .slice none 0 0] _
  have HI3 := Lib.hid (HI1.out.below hb3)
  have HO3 := Lib.hid (HO1.out.next hb3)
  have HS3 := Lib.hid hs3
  clear hw3 hs3
  replace hcum := hcum.trans (hb3.mono hcum.size)
  clear hb3
  clear p0 p1 p2
  obtain ⟨p0, p1, p2⟩ := FX.out _ hcum
  have k0 := BHV.out.cell (i := 0) rfl
  have k1 := BHV.out.cell (i := 1) rfl
  have k2 := BHV.out.cell (i := 2) rfl
  have k3 := BHV.out.cell (i := 3) rfl
  have k4 := BHV.out.cell (i := 4) rfl
  have k5 := BHV.out.cell (i := 5) rfl
  go_wp2_with fail
  refine wp_region_noPanic ?_
  refine wp_region_take (fun w' => Below w3.heap.size w3 w' ∧ w'.cell? ⟨w.heap.size, 0, none⟩ = some (.int .i64 p) ∧ w'.cell? ⟨w.heap.size, 1, none⟩ = some (.int .i64 q) ∧ w'.cell? ⟨w.heap.size, 2, none⟩ = some (.int .i64 g) ∧ w'.cell? ⟨w1.heap.size, 0, none⟩ = some (.int .i64 k) ∧ w'.cell? ⟨w1.heap.size, 1, none⟩ = some (.int .i64 a) ∧ w'.cell? ⟨w1.heap.size, 2, none⟩ = some (.slice ac l.length cc) ∧ w'.cell? ⟨w1.heap.size, 3, none⟩ = some (.slice none 0 0) ∧ w'.cell? ⟨w1.heap.size, 4, none⟩ = some (.slice none 0 0) ∧ w'.cell? ⟨w1.heap.size, 5, none⟩ = some (.slice none 0 0)) 10 [(true, 0), (true, 1), (true, 2), (true, 4), (true, 5), (false, 3), (false, 6)] [7, 8] (by kernel_rfl) (by kernel_rfl) rfl (fun _ _ _ _ _ h => h) ⟨(Below.refl _ _).drew, p0, p1, p2, k0, k1, k2, k3, k4, k5⟩ ?_
  simp only [pickL, pickN, List.getElem?_cons_zero, List.getElem?_cons_succ]
  repeat (refine' wpTake_read _ (by rfl) (fun w' hS' => ?_) ?_; rotate_left; · ((try dsimp only at hS'); go_simp; (try with_reducible rfl)); (try simp only [Act.put, List.setIfInBounds_toArray, List.set_cons_zero, List.set_cons_succ]))
  refine wpTake_do (by rfl) (fun K hK => ?_)
  go_simp
  go_at_call 220
  refine (spec_oLabel _ ⟨k, a, l, zProof⟩ t _ (rd_entry0 JK.out JA.out (HI3.out.below (Below.refl _ _).drew)) HT.out HEN.out).mono ?_
  rintro e w4 ⟨rfl, hb4⟩
  have hbz : Below w3.heap.size w3 w4 := keep_b hb4 (Below.refl _ _).drew
  refine hK.out _ _ ⟨hbz, box_at p0 hbz, box_at p1 hbz, box_at p2 hbz, box_at k0 hbz, box_at k1 hbz, box_at k2 hbz, box_at k3 hbz, box_at k4 hbz, box_at k5 hbz⟩ (fun _ => ?_)
  clear hK K
  try simp only [Act.put, List.setIfInBounds_toArray, List.set_cons_zero, List.set_cons_succ]
  refine wpTake_do (by rfl) (fun K hK => ?_)
  go_simp
  go_at_call 141
  refine (spec_oSign ⟨p, q, g⟩ _ x c _ HG.out HLS.out HXC2.out.1 HXC2.out.2).mono ?_
  rintro e w5 ⟨v5, rfl, ho5, hb5⟩
  obtain ⟨a1, m1, c1, a2, m2, c2, a3, m3, c3, rfl, _, _, _⟩ := rdProof.1 ((kS rProof).own_rd ho5)
  have HO5 := Lib.hid ho5
  have hb45 := hbz.trans (hb5.mono hbz.size)
  refine hK.out _ _ ⟨hb45, box_at p0 hb45, box_at p1 hb45, box_at p2 hb45, box_at k0 hb45, box_at k1 hb45, box_at k2 hb45, box_at k3 hb45, box_at k4 hb45, box_at k5 hb45⟩ (fun _ => ?_)
  clear hK K
  try simp only [Act.put, List.setIfInBounds_toArray, List.set_cons_zero, List.set_cons_succ]
  refine wpTake_nil ?_
  have BH5 := Lib.hid (BHV.out.below hb45)
  have HO35 := Lib.hid (HO3.out.next hb45)
  have h3w := hcum.size
  have h4w := hbz.size
  have h5w := hb5.size
  replace hcum := hcum.trans (hb45.mono hcum.size)
  clear ho5 p0 p1 p2 k0 k1 k2 k3 k4 k5 hbz hb4 hb5 hb45
  have k0 := BH5.out.cell (i := 0) rfl
  have k1 := BH5.out.cell (i := 1) rfl
  have k2 := BH5.out.cell (i := 2) rfl
  have k3 := BH5.out.cell (i := 3) rfl
  have k4 := BH5.out.cell (i := 4) rfl
  have k5 := BH5.out.cell (i := 5) rfl
  have fk := BH5.out.frozen
  go_wp2_with fail
  refine NoPanic.normal ?_
  obtain ⟨U, hU⟩ : ∃ U, U = ((w5.setCell ⟨w1.heap.size, 3, none⟩ (.slice a1 m1 c1)).setCell ⟨w1.heap.size, 4, none⟩ (.slice a2 m2 c2)).setCell ⟨w1.heap.size, 5, none⟩ (.slice a3 m3 c3) := ⟨_, rfl⟩
  rw [← hU]
  have hsW := HSW.out
  have hs3 := HS3.out
  have hwi : Within w1.heap.size (w1.heap.size + 1) w5 U := by rw [hU]; exact ((Within.refl _ _ _ |>.setCell (by omega) (by omega) _ _) |>.setCell (by omega) (by omega) _ _) |>.setCell (by omega) (by omega) _ _
  have hsU : U.heap.size = w5.heap.size := by rw [hU]; simp only [size_setC]
  have BHZ : BoxN U w1.heap.size 94 [.int .i64 k, .int .i64 a, .slice ac l.length cc, .slice a1 m1 c1, .slice a2 m2 c2, .slice a3 m3 c3] := by rw [hU]; exact ((BH5.out.set 3 _).set 4 _).set 5 _
  have BU := Lib.hid ((BR.out.below hcum).kept hwi (.inl (by omega)))
  have HOU := Lib.hid (Kind.kept (K := kS rProof) HO5.out hwi (.inr (by omega)))
  have HOV := Lib.hid (HO35.out.kept hwi (.inl (by omega)))
  have HWU := Lib.hid ((Below.next HWB.out hcum).trans (hwi.below (B := w.heap.size) (by omega) (by omega)))
  clear hU k0 k1 k2 k3 k4 k5 fk hsW hs3
  have k0 := BHZ.cell (i := 0) rfl
  have k1 := BHZ.cell (i := 1) rfl
  have k2 := BHZ.cell (i := 2) rfl
  have k3 := BHZ.cell (i := 3) rfl
  have k4 := BHZ.cell (i := 4) rfl
  have k5 := BHZ.cell (i := 5) rfl
  have r0 := BU.out.cell (i := 0) rfl
  have r1 := BU.out.cell (i := 1) rfl
  have r2 := BU.out.cell (i := 2) rfl
  have r3 := BU.out.cell (i := 3) rfl
  have r4 := BU.out.cell (i := 4) rfl
  have r5 := BU.out.cell (i := 5) rfl
  have fr := BU.out.frozen
  go_wp2_with fail
  have hsW := HSW.out
  have hs3 := HS3.out
  obtain ⟨Z, hZ⟩ : ∃ Z, Z = (((((U.setCell ⟨w.heap.size + 1, 0, none⟩ (.int .i64 k)).setCell ⟨w.heap.size + 1, 1, none⟩ (.int .i64 a)).setCell ⟨w.heap.size + 1, 2, none⟩ (.slice ac l.length cc)).setCell ⟨w.heap.size + 1, 3, none⟩ (.slice a1 m1 c1)).setCell ⟨w.heap.size + 1, 4, none⟩ (.slice a2 m2 c2)).setCell ⟨w.heap.size + 1, 5, none⟩ (.slice a3 m3 c3) := ⟨_, rfl⟩
  rw [← hZ]
  have hwz : Within (w.heap.size + 1) (w.heap.size + 2) U Z := by rw [hZ]; exact (((((Within.refl _ _ _ |>.setCell (by omega) (by omega) _ _) |>.setCell (by omega) (by omega) _ _) |>.setCell (by omega) (by omega) _ _) |>.setCell (by omega) (by omega) _ _) |>.setCell (by omega) (by omega) _ _) |>.setCell (by omega) (by omega) _ _
  have hZs : Z.heap.size = U.heap.size := by rw [hZ]; simp only [size_setC]
  have BZ : BoxN Z (w.heap.size + 1) 94 [.int .i64 k, .int .i64 a, .slice ac l.length cc, .slice a1 m1 c1, .slice a2 m2 c2, .slice a3 m3 c3] := by rw [hZ]; exact (((((BU.out.set 0 _).set 1 _).set 2 _).set 3 _).set 4 _).set 5 _
  have HZB := Lib.hid (HWU.out.trans (hwz.below (B := w.heap.size) (by omega) (by omega)))
  clear hZ r0 r1 r2 r3 r4 r5 fr
  have r0 := BZ.cell (i := 0) rfl
  have r1 := BZ.cell (i := 1) rfl
  have r2 := BZ.cell (i := 2) rfl
  have r3 := BZ.cell (i := 3) rfl
  have r4 := BZ.cell (i := 4) rfl
  have r5 := BZ.cell (i := 5) rfl
  have HOZ := Lib.hid (Kind.kept (K := kS rProof) HOU.out hwz (.inr (by omega)))
  have HOZ2 := Lib.hid (HOV.out.kept hwz (.inr (by omega)))
  refine bodyPost_ret (v := .agg #[.int .i64 k, .int .i64 a, .slice ac l.length cc, .slice a1 m1 c1, .slice a2 m2 c2, .slice a3 m3 c3]) (by simp [results, Try.results147, go_sem, r0, r1, r2, r3, r4, r5]) rfl ⟨_, rfl, own_entry (vs := [.slice a1 m1 c1, .slice a2 m2 c2, .slice a3 m3 c3]) HOZ2.out HOZ.out JK.out JA.out ⟨by omega, by omega⟩ ⟨by omega, by omega⟩ (.inl (by omega)), HZB.out⟩
set_option maxRecDepth 100000 in
set_option maxHeartbeats 8000000 in
theorem spec_SignEntry (gr : GroupD) (x k a t : Int) (vl : Value) (l : List Int) (c : Int) (w : World) (hgr : I64 gr.g) (hx : I64 x) (hk : I64 k) (ha : I64 a) (ht : I64 t) (hl : Ints w vl l) (hc : I64 c) :
    Calls Try.prog 56 #[.agg #[.int .i64 gr.p, .int .i64 gr.q, .int .i64 gr.g], .int .i64 x, .int .i64 k, .int .i64 a, .int .i64 t, vl, .int .i64 c] w fun e w' => ∃ v, e = .returned (.tuple #[v, .bool (seB gr x k a t l c)]) ∧ (kS rEntry).own w' w.heap.size w'.heap.size v (seD gr x k a t l c) ∧ Below w.heap.size w w' := by
  clear hgr hk ha ht
  have JX := Lib.hid hx; have JC := Lib.hid hc
  have HLI := Lib.hid hl
  clear hx hc hl
  (obtain ⟨q1, h_q⟩ : ∃ b_q, edB k a t l = b_q := ⟨_, rfl⟩); have H1 := Lib.hid h_q; clear h_q
  (obtain ⟨q2, h_q⟩ : ∃ b_q, goodG gr = b_q := ⟨_, rfl⟩); have H2 := Lib.hid h_q; clear h_q
  (obtain ⟨q3, h_q⟩ : ∃ b_q, (expB gr x && expB gr c) = b_q := ⟨_, rfl⟩); have H3 := Lib.hid h_q; clear h_q
  have HXC : Hid ([x, c].all (expB gr) = q3) := by unfold Hid; rw [← H3.out]; simp
  have HB : Hid (seB gr x k a t l c = (q1 && (q2 && q3))) := by unfold Hid seB; rw [H1.out, H2.out, H3.out]
  have HD : Hid (seD gr x k a t l c = if (q1 && (q2 && q3)) = true then ⟨k, a, l, pvD gr (enLabel k a t l) [[gr.g]] [x] [c]⟩ else ⟨0, 0, [], zProof⟩) := by unfold Hid seD; rw [HB.out]
  rw [HB.out, HD.out]
  obtain ⟨p, q, g⟩ := gr
  obtain ⟨W, hW⟩ : ∃ W, W = (w.alloc (.cells #[.int .i64 p, .int .i64 q, .int .i64 g] 88)).alloc (.cells #[.int .i64 0, .int .i64 0, .slice none 0 0, .slice none 0 0, .slice none 0 0, .slice none 0 0] 94) := ⟨_, rfl⟩
  have HWB : Hid (Below w.heap.size w W) := by unfold Hid; rw [hW]; (repeat (first | exact Below.refl _ _ | assumption | refine Below.drew ?_ | refine Below.alloc ?_ (by first | (simp; done) | (simp; omega)) _ | refine Below.setCell ?_ (by first | (simp; done) | (simp; omega)) _))
  have hsW : W.heap.size = w.heap.size + 2 := by rw [hW]; simp
  have p0 : W.cell? ⟨w.heap.size, 0, none⟩ = some (.int .i64 p) := by rw [hW]; simp [go_sem]
  have p1 : W.cell? ⟨w.heap.size, 1, none⟩ = some (.int .i64 q) := by rw [hW]; simp [go_sem]
  have p2 : W.cell? ⟨w.heap.size, 2, none⟩ = some (.int .i64 g) := by rw [hW]; simp [go_sem]
  have hs1 : (w.alloc (.cells #[.int .i64 p, .int .i64 q, .int .i64 g] 88)).heap.size = w.heap.size + 1 := by simp
  have BR : Hid (BoxN W (w.heap.size + 1) 94 [.int .i64 0, .int .i64 0, .slice none 0 0, .slice none 0 0, .slice none 0 0, .slice none 0 0]) := by unfold Hid; rw [hW, ← hs1]; exact BoxN.new _ [.int .i64 0, .int .i64 0, .slice none 0 0, .slice none 0 0, .slice none 0 0, .slice none 0 0] _
  have FX : Hid (∀ W', Below W.heap.size W W' → W'.cell? ⟨w.heap.size, 0, none⟩ = some (.int .i64 p) ∧ W'.cell? ⟨w.heap.size, 1, none⟩ = some (.int .i64 q) ∧ W'.cell? ⟨w.heap.size, 2, none⟩ = some (.int .i64 g)) := fun W' hb => ⟨box_at p0 hb, box_at p1 hb, box_at p2 hb⟩
  have hcum : Below W.heap.size W W := Below.refl _ _
  clear hs1
  have HW := Lib.hid hW
  clear hW
  go_enter Try.func56, Try.ntmps56
  go_wp2_with fail
  rw [← HW.out]
  have HSW := Lib.hid hsW
  clear hsW
  refine (spec_EntryDigest k a t _ l _ (HLI.out.below HWB.out)).mono ?_
  rintro e w1 ⟨rfl, hb1⟩
  rw [H1.out]
  replace hcum := hcum.trans (hb1.mono hcum.size)
  clear hb1
  clear p0 p1 p2
  obtain ⟨p0, p1, p2⟩ := FX.out _ hcum
  cases q1 with
  | false =>
    have BU := Lib.hid (BR.out.below hcum)
    have r0 := BU.out.cell (i := 0) rfl
    have r1 := BU.out.cell (i := 1) rfl
    have r2 := BU.out.cell (i := 2) rfl
    have r3 := BU.out.cell (i := 3) rfl
    have r4 := BU.out.cell (i := 4) rfl
    have r5 := BU.out.cell (i := 5) rfl
    have fr := BU.out.frozen
    have hlw := hcum.size
    go_wp2_with fail
    try have hsW := HSW.out
    obtain ⟨Z, hZ⟩ : ∃ Z, Z = (((((w1.setCell ⟨w.heap.size + 1, 0, none⟩ (.int .i64 0)).setCell ⟨w.heap.size + 1, 1, none⟩ (.int .i64 0)).setCell ⟨w.heap.size + 1, 2, none⟩ (.slice none 0 0)).setCell ⟨w.heap.size + 1, 3, none⟩ (.slice none 0 0)).setCell ⟨w.heap.size + 1, 4, none⟩ (.slice none 0 0)).setCell ⟨w.heap.size + 1, 5, none⟩ (.slice none 0 0) := ⟨_, rfl⟩
    rw [← hZ]
    have hwz : Within (w.heap.size + 1) (w.heap.size + 2) w1 Z := by rw [hZ]; exact (((((Within.refl _ _ _ |>.setCell (by omega) (by omega) _ _) |>.setCell (by omega) (by omega) _ _) |>.setCell (by omega) (by omega) _ _) |>.setCell (by omega) (by omega) _ _) |>.setCell (by omega) (by omega) _ _) |>.setCell (by omega) (by omega) _ _
    have hZs : Z.heap.size = w1.heap.size := by rw [hZ]; simp only [size_setC]
    have BZ : BoxN Z (w.heap.size + 1) 94 [(.int .i64 0), (.int .i64 0), (.slice none 0 0), (.slice none 0 0), (.slice none 0 0), (.slice none 0 0)] := by rw [hZ]; exact (((((BU.out.set 0 _).set 1 _).set 2 _).set 3 _).set 4 _).set 5 _
    have HZB := Lib.hid ((Below.next HWB.out hcum).trans (hwz.below (B := w.heap.size) (by omega) (by omega)))
    clear hZ r0 r1 r2 r3 r4 r5 fr
    have r0 := BZ.cell (i := 0) rfl
    have r1 := BZ.cell (i := 1) rfl
    have r2 := BZ.cell (i := 2) rfl
    have r3 := BZ.cell (i := 3) rfl
    have r4 := BZ.cell (i := 4) rfl
    have r5 := BZ.cell (i := 5) rfl
    refine bodyPost_ret (v := .tuple #[.agg #[.int .i64 0, .int .i64 0, .slice none 0 0, .slice none 0 0, .slice none 0 0, .slice none 0 0], .bool false]) (by simp [results, Try.results56, go_sem, r0, r1, r2, r3, r4, r5]) rfl ⟨_, rfl, own_entry0 _ _ _ (by omega), HZB.out⟩
  | true =>
    go_wp2_with fail
    refine (spec_l2Good ⟨p, q, g⟩ _).mono ?_
    rintro e w2 ⟨rfl, hb2⟩
    rw [H2.out]
    replace hcum := hcum.trans (hb2.mono hcum.size)
    clear hb2
    clear p0 p1 p2
    obtain ⟨p0, p1, p2⟩ := FX.out _ hcum
    cases q2 with
    | false =>
      have BU := Lib.hid (BR.out.below hcum)
      have r0 := BU.out.cell (i := 0) rfl
      have r1 := BU.out.cell (i := 1) rfl
      have r2 := BU.out.cell (i := 2) rfl
      have r3 := BU.out.cell (i := 3) rfl
      have r4 := BU.out.cell (i := 4) rfl
      have r5 := BU.out.cell (i := 5) rfl
      have fr := BU.out.frozen
      have hlw := hcum.size
      go_wp2_with fail
      try have hsW := HSW.out
      obtain ⟨Z, hZ⟩ : ∃ Z, Z = (((((w2.setCell ⟨w.heap.size + 1, 0, none⟩ (.int .i64 0)).setCell ⟨w.heap.size + 1, 1, none⟩ (.int .i64 0)).setCell ⟨w.heap.size + 1, 2, none⟩ (.slice none 0 0)).setCell ⟨w.heap.size + 1, 3, none⟩ (.slice none 0 0)).setCell ⟨w.heap.size + 1, 4, none⟩ (.slice none 0 0)).setCell ⟨w.heap.size + 1, 5, none⟩ (.slice none 0 0) := ⟨_, rfl⟩
      rw [← hZ]
      have hwz : Within (w.heap.size + 1) (w.heap.size + 2) w2 Z := by rw [hZ]; exact (((((Within.refl _ _ _ |>.setCell (by omega) (by omega) _ _) |>.setCell (by omega) (by omega) _ _) |>.setCell (by omega) (by omega) _ _) |>.setCell (by omega) (by omega) _ _) |>.setCell (by omega) (by omega) _ _) |>.setCell (by omega) (by omega) _ _
      have hZs : Z.heap.size = w2.heap.size := by rw [hZ]; simp only [size_setC]
      have BZ : BoxN Z (w.heap.size + 1) 94 [(.int .i64 0), (.int .i64 0), (.slice none 0 0), (.slice none 0 0), (.slice none 0 0), (.slice none 0 0)] := by rw [hZ]; exact (((((BU.out.set 0 _).set 1 _).set 2 _).set 3 _).set 4 _).set 5 _
      have HZB := Lib.hid ((Below.next HWB.out hcum).trans (hwz.below (B := w.heap.size) (by omega) (by omega)))
      clear hZ r0 r1 r2 r3 r4 r5 fr
      have r0 := BZ.cell (i := 0) rfl
      have r1 := BZ.cell (i := 1) rfl
      have r2 := BZ.cell (i := 2) rfl
      have r3 := BZ.cell (i := 3) rfl
      have r4 := BZ.cell (i := 4) rfl
      have r5 := BZ.cell (i := 5) rfl
      refine bodyPost_ret (v := .tuple #[.agg #[.int .i64 0, .int .i64 0, .slice none 0 0, .slice none 0 0, .slice none 0 0, .slice none 0 0], .bool false]) (by simp [results, Try.results56, go_sem, r0, r1, r2, r3, r4, r5]) rfl ⟨_, rfl, own_entry0 _ _ _ (by omega), HZB.out⟩
    | true =>
      have HG := Lib.hid (goodG_ok H2.out)
      go_wp2_with fail
      refine (spec_gExps ⟨p, q, g⟩ _ [x, c] _ HG.out (Ints.lit2 _ JX.out JC.out)).mono ?_
      rintro e w3 ⟨rfl, hb3'⟩
      rw [HXC.out]
      have hb3 : Below w2.heap.size w2 w3 := (keep_al (Below.refl _ _) _).trans (hb3'.mono (by simp))
      clear hb3'
      replace hcum := hcum.trans (hb3.mono hcum.size)
      clear hb3
      clear p0 p1 p2
      obtain ⟨p0, p1, p2⟩ := FX.out _ hcum
      cases q3 with
      | false =>
        have BU := Lib.hid (BR.out.below hcum)
        have r0 := BU.out.cell (i := 0) rfl
        have r1 := BU.out.cell (i := 1) rfl
        have r2 := BU.out.cell (i := 2) rfl
        have r3 := BU.out.cell (i := 3) rfl
        have r4 := BU.out.cell (i := 4) rfl
        have r5 := BU.out.cell (i := 5) rfl
        have fr := BU.out.frozen
        have hlw := hcum.size
        go_wp2_with fail
        try have hsW := HSW.out
        obtain ⟨Z, hZ⟩ : ∃ Z, Z = (((((w3.setCell ⟨w.heap.size + 1, 0, none⟩ (.int .i64 0)).setCell ⟨w.heap.size + 1, 1, none⟩ (.int .i64 0)).setCell ⟨w.heap.size + 1, 2, none⟩ (.slice none 0 0)).setCell ⟨w.heap.size + 1, 3, none⟩ (.slice none 0 0)).setCell ⟨w.heap.size + 1, 4, none⟩ (.slice none 0 0)).setCell ⟨w.heap.size + 1, 5, none⟩ (.slice none 0 0) := ⟨_, rfl⟩
        rw [← hZ]
        have hwz : Within (w.heap.size + 1) (w.heap.size + 2) w3 Z := by rw [hZ]; exact (((((Within.refl _ _ _ |>.setCell (by omega) (by omega) _ _) |>.setCell (by omega) (by omega) _ _) |>.setCell (by omega) (by omega) _ _) |>.setCell (by omega) (by omega) _ _) |>.setCell (by omega) (by omega) _ _) |>.setCell (by omega) (by omega) _ _
        have hZs : Z.heap.size = w3.heap.size := by rw [hZ]; simp only [size_setC]
        have BZ : BoxN Z (w.heap.size + 1) 94 [(.int .i64 0), (.int .i64 0), (.slice none 0 0), (.slice none 0 0), (.slice none 0 0), (.slice none 0 0)] := by rw [hZ]; exact (((((BU.out.set 0 _).set 1 _).set 2 _).set 3 _).set 4 _).set 5 _
        have HZB := Lib.hid ((Below.next HWB.out hcum).trans (hwz.below (B := w.heap.size) (by omega) (by omega)))
        clear hZ r0 r1 r2 r3 r4 r5 fr
        have r0 := BZ.cell (i := 0) rfl
        have r1 := BZ.cell (i := 1) rfl
        have r2 := BZ.cell (i := 2) rfl
        have r3 := BZ.cell (i := 3) rfl
        have r4 := BZ.cell (i := 4) rfl
        have r5 := BZ.cell (i := 5) rfl
        refine bodyPost_ret (v := .tuple #[.agg #[.int .i64 0, .int .i64 0, .slice none 0 0, .slice none 0 0, .slice none 0 0, .slice none 0 0], .bool false]) (by simp [results, Try.results56, go_sem, r0, r1, r2, r3, r4, r5]) rfl ⟨_, rfl, own_entry0 _ _ _ (by omega), HZB.out⟩
      | true =>
        have HXC2 : Hid (expB ⟨p, q, g⟩ x = true ∧ expB ⟨p, q, g⟩ c = true) := by have h := H3.out; rw [Bool.and_eq_true] at h; exact h
        have h3w := hcum.size
        go_wp2_with fail
        refine (spec_oEntry ⟨p, q, g⟩ x k a t _ l c _ HG.out (HLI.out.below (Below.next HWB.out hcum)) H1.out HXC2.out.1 HXC2.out.2).mono ?_
        rintro e w4 ⟨v4, rfl, ho4, hb4⟩
        obtain ⟨a0, m0, c0, a1, m1, c1, a2, m2, c2, a3, m3, c3, rfl, _, _, _, _, _, _⟩ := rdEntry.1 ((kS rEntry).own_rd ho4)
        have HO4 := Lib.hid ho4
        have h4w := hb4.size
        clear ho4
        replace hcum := hcum.trans (hb4.mono hcum.size)
        clear hb4
        clear p0 p1 p2
        obtain ⟨p0, p1, p2⟩ := FX.out _ hcum
        have BU := Lib.hid (BR.out.below hcum)
        have r0 := BU.out.cell (i := 0) rfl
        have r1 := BU.out.cell (i := 1) rfl
        have r2 := BU.out.cell (i := 2) rfl
        have r3 := BU.out.cell (i := 3) rfl
        have r4 := BU.out.cell (i := 4) rfl
        have r5 := BU.out.cell (i := 5) rfl
        have fr := BU.out.frozen
        have hlw := hcum.size
        go_wp2_with fail
        try have hsW := HSW.out
        obtain ⟨Z, hZ⟩ : ∃ Z, Z = (((((w4.setCell ⟨w.heap.size + 1, 0, none⟩ (.int .i64 k)).setCell ⟨w.heap.size + 1, 1, none⟩ (.int .i64 a)).setCell ⟨w.heap.size + 1, 2, none⟩ (.slice a0 m0 c0)).setCell ⟨w.heap.size + 1, 3, none⟩ (.slice a1 m1 c1)).setCell ⟨w.heap.size + 1, 4, none⟩ (.slice a2 m2 c2)).setCell ⟨w.heap.size + 1, 5, none⟩ (.slice a3 m3 c3) := ⟨_, rfl⟩
        rw [← hZ]
        have hwz : Within (w.heap.size + 1) (w.heap.size + 2) w4 Z := by rw [hZ]; exact (((((Within.refl _ _ _ |>.setCell (by omega) (by omega) _ _) |>.setCell (by omega) (by omega) _ _) |>.setCell (by omega) (by omega) _ _) |>.setCell (by omega) (by omega) _ _) |>.setCell (by omega) (by omega) _ _) |>.setCell (by omega) (by omega) _ _
        have hZs : Z.heap.size = w4.heap.size := by rw [hZ]; simp only [size_setC]
        have BZ : BoxN Z (w.heap.size + 1) 94 [(.int .i64 k), (.int .i64 a), (.slice a0 m0 c0), (.slice a1 m1 c1), (.slice a2 m2 c2), (.slice a3 m3 c3)] := by rw [hZ]; exact (((((BU.out.set 0 _).set 1 _).set 2 _).set 3 _).set 4 _).set 5 _
        have HZB := Lib.hid ((Below.next HWB.out hcum).trans (hwz.below (B := w.heap.size) (by omega) (by omega)))
        clear hZ r0 r1 r2 r3 r4 r5 fr
        have r0 := BZ.cell (i := 0) rfl
        have r1 := BZ.cell (i := 1) rfl
        have r2 := BZ.cell (i := 2) rfl
        have r3 := BZ.cell (i := 3) rfl
        have r4 := BZ.cell (i := 4) rfl
        have r5 := BZ.cell (i := 5) rfl
        have HOZ := Lib.hid ((kS rEntry).own_mono (lo' := w.heap.size) (hi' := Z.heap.size) (Kind.kept (K := kS rEntry) HO4.out hwz (.inr (by omega))) (by omega) (by omega))
        refine bodyPost_ret (v := .tuple #[.agg #[.int .i64 k, .int .i64 a, .slice a0 m0 c0, .slice a1 m1 c1, .slice a2 m2 c2, .slice a3 m3 c3], .bool true]) (by simp [results, Try.results56, go_sem, r0, r1, r2, r3, r4, r5]) rfl ⟨_, rfl, HOZ.out, HZB.out⟩
theorem cn_seD (gr : GroupD) (x k a t : Int) (l : List Int) (c : Int) : cnEntry (seD gr x k a t l c) ≤ 4000 := by
  have h := cnEntry_le (seD gr x k a t l c)
  have : szEntry (seD gr x k a t l c) ≤ 1000 := by
    unfold seD szEntry
    split
    · rename_i hs
      unfold seB at hs
      rw [Bool.and_eq_true] at hs
      have := (edB_parts hs.1).2.2.1
      simp only [sz_pvD]; omega
    · simp [szProof, zProof]
  omega
end Go.Proofs.Ytapfceghgkmgoaa
