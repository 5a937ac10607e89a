/- Walks: FindFork. -/
import Derived.Test.YtodennbdfloccaaGreatVFind
import Derived.Test.YtodennbdfloccaaGreatMerge7
namespace Go.Proofs.YtodennbdfloccaaGreat
open Go.RowKit
set_option linter.unusedSimpArgs false
set_option linter.unusedVariables false

noncomputable def ffkG (gr : GroupD) (keys : List Int) (hs : List HeadD) : Bool := fkB gr keys && headsB hs
noncomputable def ffkB (gr : GroupD) (keys : List Int) (hs : List HeadD) : Bool := ffkG gr keys hs && ffB gr keys hs
noncomputable def ffkE (gr : GroupD) (keys : List Int) (hs : List HeadD) : ForkEvidenceD := if ffkG gr keys hs = true then ffE gr keys hs else zForkD
theorem ffk_no {gr : GroupD} {keys : List Int} {hs : List HeadD} (h : ffkG gr keys hs = false) : ffkB gr keys hs = false ∧ ffkE gr keys hs = zForkD := by
  unfold ffkB ffkE; rw [h]; exact ⟨rfl, if_neg (by simp)⟩
theorem ffk_yes {gr : GroupD} {keys : List Int} {hs : List HeadD} (h : ffkG gr keys hs = true) : ffkB gr keys hs = ffB gr keys hs ∧ ffkE gr keys hs = ffE gr keys hs := by
  unfold ffkB ffkE; rw [h]; exact ⟨rfl, if_pos rfl⟩
theorem sz_hdAt {hs : List HeadD} {i : Nat} : szHead (hdAt hs i) ≤ szHeadS hs := by
  by_cases h : i < hs.length
  · rw [hdAt_eq h]
    have : szHead hs[i] ≤ (hs.map szHead).sum := le_sum_of_mem (List.mem_map.2 ⟨_, List.getElem_mem h, rfl⟩)
    unfold szHeadS; omega
  · have : hdAt hs i = zHeadD := by simp [hdAt, List.getD, Nat.le_of_not_lt h]
    rw [this]; exact Nat.zero_le _
theorem sz_ffkE {gr : GroupD} {keys : List Int} {hs : List HeadD} : szForkEvidence (ffkE gr keys hs) ≤ 2 * szHeadS hs := by
  unfold ffkE ffE
  split
  · split
    · unfold szForkEvidence
      have h1 := sz_hdAt (hs := hs) (i := ‹Nat›)
      rename_i i j _
      have h1 := sz_hdAt (hs := hs) (i := i); have h2 := sz_hdAt (hs := hs) (i := j)
      simp only []
      omega
    · exact Nat.zero_le _
  · exact Nat.zero_le _
set_option maxRecDepth 100000 in
set_option maxHeartbeats 4000000 in
theorem impl_FindFork (gr : GroupD) (vk : Value) (keys : List Int) (vh : Value) (hs : List HeadD) (w : World) (hk : Ints w vk keys) (hz : (szHeadS hs : Int) ≤ 1000000000) (hh : (kR 44 rHead).rd w vh hs) :
    Calls Tryz.prog 23 #[.agg #[.int .i64 gr.p, .int .i64 gr.q, .int .i64 gr.g], vk, vh] w fun e w' => ∃ v', e = .returned (.tuple #[v', .bool (ffkB gr keys hs)]) ∧ (kS rForkEvidence).own w' w.heap.size w'.heap.size v' (ffkE gr keys hs) ∧ Below w.heap.size w w' := by
  have _hk64 := trivial
  (obtain ⟨q1, h_q⟩ : ∃ b_q, goodG gr = b_q := ⟨_, rfl⟩); have H1 := Lib.hid h_q; clear h_q
  (obtain ⟨q2, h_q⟩ : ∃ b_q, keysB gr keys = b_q := ⟨_, rfl⟩); have H2 := Lib.hid h_q; clear h_q
  (obtain ⟨q3, h_q⟩ : ∃ b_q, headsB hs = b_q := ⟨_, rfl⟩); have H3 := Lib.hid h_q; clear h_q
  have HFK : Hid (ffkG gr keys hs = ((q1 && q2) && q3)) := by unfold Hid ffkG fkB; rw [H1.out, H2.out, H3.out]
  clear _hk64
  have HZ := Lib.hid hz
  obtain ⟨ak, nk, ck, rfl⟩ := hk.shape
  have HH : Hid (RdR rHead w vh hs) := hh
  obtain ⟨ah, n, c, rfl⟩ := HH.out.shape
  have HKI := Lib.hid hk
  clear hk hh hz
  obtain ⟨p, q, g⟩ := gr
  obtain ⟨W, hW⟩ : ∃ W, W = (w.alloc (.cells #[.int .i64 p, .int .i64 q, .int .i64 g] 36)).alloc (.cells #[.int .i64 0, .int .i64 0, .int .i64 0, .slice none 0 0, .slice none 0 0, .slice none 0 0, .int .i64 0, .int .i64 0, .int .i64 0, .slice none 0 0, .slice none 0 0, .slice none 0 0] 58) := ⟨_, rfl⟩
  have HWB : Hid (Below w.heap.size w W) := by unfold Hid; rw [hW]; (repeat (first | exact Below.refl _ _ | assumption | refine Below.drew ?_ | refine Below.alloc ?_ (by first | (simp; done) | (simp; omega)) _ | refine Below.setCell ?_ (by first | (simp; done) | (simp; omega)) _))
  have hsW : W.heap.size = w.heap.size + 2 := by rw [hW]; simp
  have p0 : W.cell? ⟨w.heap.size, 0, none⟩ = some (.int .i64 p) := by rw [hW]; simp [go_sem]
  have p1 : W.cell? ⟨w.heap.size, 1, none⟩ = some (.int .i64 q) := by rw [hW]; simp [go_sem]
  have p2 : W.cell? ⟨w.heap.size, 2, none⟩ = some (.int .i64 g) := by rw [hW]; simp [go_sem]
  have hs1 : (w.alloc (.cells #[.int .i64 p, .int .i64 q, .int .i64 g] 36)).heap.size = w.heap.size + 1 := by simp
  have BR : Hid (BoxN W (w.heap.size + 1) 58 [.int .i64 0, .int .i64 0, .int .i64 0, .slice none 0 0, .slice none 0 0, .slice none 0 0, .int .i64 0, .int .i64 0, .int .i64 0, .slice none 0 0, .slice none 0 0, .slice none 0 0]) := by unfold Hid; rw [hW, ← hs1]; exact BoxN.new _ [.int .i64 0, .int .i64 0, .int .i64 0, .slice none 0 0, .slice none 0 0, .slice none 0 0, .int .i64 0, .int .i64 0, .int .i64 0, .slice none 0 0, .slice none 0 0, .slice none 0 0] _
  have FX : Hid (∀ W', Below W.heap.size W W' → W'.cell? ⟨w.heap.size, 0, none⟩ = some (.int .i64 p) ∧ W'.cell? ⟨w.heap.size, 1, none⟩ = some (.int .i64 q) ∧ W'.cell? ⟨w.heap.size, 2, none⟩ = some (.int .i64 g)) := fun W' hb => ⟨box_at p0 hb, box_at p1 hb, box_at p2 hb⟩
  have HHW : Hid (RdR rHead W (.slice ah n c) hs) := HH.out.below HWB.out
  have HKW : Hid (Ints W (.slice ak nk ck) keys) := HKI.out.below HWB.out
  have hcum : Below W.heap.size W W := Below.refl _ _
  have HSW := Lib.hid hsW
  have HW := Lib.hid hW
  clear hs1 hW hsW
  go_enter Tryz.func23, Tryz.ntmps23
  go_wp2_with fail
  rw [← HW.out]
  refine (impl_IsValidGroup ⟨p, q, g⟩ _).mono ?_
  rintro e w1 ⟨rfl, hb1⟩
  rw [H1.out]
  replace hcum := hcum.trans (hb1.mono hcum.size)
  clear hb1
  clear p0 p1 p2
  obtain ⟨p0, p1, p2⟩ := FX.out _ hcum
  cases q1 with
  | false =>
    have HNO := Lib.hid (ffk_no HFK.out)
    have BU := Lib.hid (BR.out.below hcum)
    have hsw := hcum.size
    have hsW := HSW.out
    have r0 := BU.out.cell (i := 0) rfl
    have r1 := BU.out.cell (i := 1) rfl
    have r2 := BU.out.cell (i := 2) rfl
    have r3 := BU.out.cell (i := 3) rfl
    have r4 := BU.out.cell (i := 4) rfl
    have r5 := BU.out.cell (i := 5) rfl
    have r6 := BU.out.cell (i := 6) rfl
    have r7 := BU.out.cell (i := 7) rfl
    have r8 := BU.out.cell (i := 8) rfl
    have r9 := BU.out.cell (i := 9) rfl
    have r10 := BU.out.cell (i := 10) rfl
    have r11 := BU.out.cell (i := 11) rfl
    have fr := BU.out.frozen
    clear p0 p1 p2
    go_wp2_with fail
    obtain ⟨Z, hZ⟩ : ∃ Z, Z = ((((((((((((w1.setCell ⟨w.heap.size + 1, 0, none⟩ ((.int .i64 0))).setCell ⟨w.heap.size + 1, 1, none⟩ ((.int .i64 0))).setCell ⟨w.heap.size + 1, 2, none⟩ ((.int .i64 0))).setCell ⟨w.heap.size + 1, 3, none⟩ ((.slice none 0 0))).setCell ⟨w.heap.size + 1, 4, none⟩ ((.slice none 0 0))).setCell ⟨w.heap.size + 1, 5, none⟩ ((.slice none 0 0))).setCell ⟨w.heap.size + 1, 6, none⟩ ((.int .i64 0))).setCell ⟨w.heap.size + 1, 7, none⟩ ((.int .i64 0))).setCell ⟨w.heap.size + 1, 8, none⟩ ((.int .i64 0))).setCell ⟨w.heap.size + 1, 9, none⟩ ((.slice none 0 0))).setCell ⟨w.heap.size + 1, 10, none⟩ ((.slice none 0 0))).setCell ⟨w.heap.size + 1, 11, none⟩ ((.slice none 0 0))) := ⟨_, rfl⟩
    rw [← hZ]
    have hwz : Within (w.heap.size + 1) (w.heap.size + 1 + 1) w1 Z := by rw [hZ]; exact (((((((((((((Within.refl (w.heap.size + 1) (w.heap.size + 1 + 1) w1).setCell (Nat.le_refl _) (Nat.lt_succ_self _) _ _).setCell (Nat.le_refl _) (Nat.lt_succ_self _) _ _).setCell (Nat.le_refl _) (Nat.lt_succ_self _) _ _).setCell (Nat.le_refl _) (Nat.lt_succ_self _) _ _).setCell (Nat.le_refl _) (Nat.lt_succ_self _) _ _).setCell (Nat.le_refl _) (Nat.lt_succ_self _) _ _).setCell (Nat.le_refl _) (Nat.lt_succ_self _) _ _).setCell (Nat.le_refl _) (Nat.lt_succ_self _) _ _).setCell (Nat.le_refl _) (Nat.lt_succ_self _) _ _).setCell (Nat.le_refl _) (Nat.lt_succ_self _) _ _).setCell (Nat.le_refl _) (Nat.lt_succ_self _) _ _).setCell (Nat.le_refl _) (Nat.lt_succ_self _) _ _)
    have hZs : Z.heap.size = w1.heap.size := by rw [hZ]; simp only [size_setC]
    have BZ : BoxN Z (w.heap.size + 1) 58 [(.int .i64 0), (.int .i64 0), (.int .i64 0), (.slice none 0 0), (.slice none 0 0), (.slice none 0 0), (.int .i64 0), (.int .i64 0), (.int .i64 0), (.slice none 0 0), (.slice none 0 0), (.slice none 0 0)] := by rw [hZ]; exact ((((((((((((BU.out.set 0 _).set 1 _).set 2 _).set 3 _).set 4 _).set 5 _).set 6 _).set 7 _).set 8 _).set 9 _).set 10 _).set 11 _)
    clear hZ
    have z0 := BZ.cell (i := 0) rfl
    have z1 := BZ.cell (i := 1) rfl
    have z2 := BZ.cell (i := 2) rfl
    have z3 := BZ.cell (i := 3) rfl
    have z4 := BZ.cell (i := 4) rfl
    have z5 := BZ.cell (i := 5) rfl
    have z6 := BZ.cell (i := 6) rfl
    have z7 := BZ.cell (i := 7) rfl
    have z8 := BZ.cell (i := 8) rfl
    have z9 := BZ.cell (i := 9) rfl
    have z10 := BZ.cell (i := 10) rfl
    have z11 := BZ.cell (i := 11) rfl
    have HOZ := Lib.hid (own_zev Z w.heap.size Z.heap.size (by omega))
    have HZB : Hid (Below w.heap.size w Z) := (Below.next HWB.out hcum).trans (hwz.below (B := w.heap.size) (by omega) (by omega))
    clear r0 r1 r2 r3 r4 r5 r6 r7 r8 r9 r10 r11 fr BZ
    refine bodyPost_ret (v := .tuple #[.agg #[.int .i64 0, .int .i64 0, .int .i64 0, .slice none 0 0, .slice none 0 0, .slice none 0 0, .int .i64 0, .int .i64 0, .int .i64 0, .slice none 0 0, .slice none 0 0, .slice none 0 0], .bool false]) (by simp [results, Tryz.results23, go_sem, z0, z1, z2, z3, z4, z5, z6, z7, z8, z9, z10, z11]) rfl ⟨_, (by rw [HNO.out.1]), by rw [HNO.out.2]; exact HOZ.out, HZB.out⟩
  | true =>
    have HG := Lib.hid (goodG_ok H1.out)
    have HC1 := Lib.hid hcum
    go_wp2_with fail
    refine (impl_areKeys ⟨p, q, g⟩ _ keys _ HG.out (HKW.out.below HC1.out)).mono ?_
    rintro e w2 ⟨rfl, hb2⟩
    rw [H2.out]
    replace hcum := hcum.trans (hb2.mono hcum.size)
    clear hb2
    clear p0 p1 p2
    obtain ⟨p0, p1, p2⟩ := FX.out _ hcum
    cases q2 with
    | false =>
      have HNO := Lib.hid (ffk_no HFK.out)
      have BU := Lib.hid (BR.out.below hcum)
      have hsw := hcum.size
      have hsW := HSW.out
      have r0 := BU.out.cell (i := 0) rfl
      have r1 := BU.out.cell (i := 1) rfl
      have r2 := BU.out.cell (i := 2) rfl
      have r3 := BU.out.cell (i := 3) rfl
      have r4 := BU.out.cell (i := 4) rfl
      have r5 := BU.out.cell (i := 5) rfl
      have r6 := BU.out.cell (i := 6) rfl
      have r7 := BU.out.cell (i := 7) rfl
      have r8 := BU.out.cell (i := 8) rfl
      have r9 := BU.out.cell (i := 9) rfl
      have r10 := BU.out.cell (i := 10) rfl
      have r11 := BU.out.cell (i := 11) rfl
      have fr := BU.out.frozen
      clear p0 p1 p2
      go_wp2_with fail
      obtain ⟨Z, hZ⟩ : ∃ Z, Z = ((((((((((((w2.setCell ⟨w.heap.size + 1, 0, none⟩ ((.int .i64 0))).setCell ⟨w.heap.size + 1, 1, none⟩ ((.int .i64 0))).setCell ⟨w.heap.size + 1, 2, none⟩ ((.int .i64 0))).setCell ⟨w.heap.size + 1, 3, none⟩ ((.slice none 0 0))).setCell ⟨w.heap.size + 1, 4, none⟩ ((.slice none 0 0))).setCell ⟨w.heap.size + 1, 5, none⟩ ((.slice none 0 0))).setCell ⟨w.heap.size + 1, 6, none⟩ ((.int .i64 0))).setCell ⟨w.heap.size + 1, 7, none⟩ ((.int .i64 0))).setCell ⟨w.heap.size + 1, 8, none⟩ ((.int .i64 0))).setCell ⟨w.heap.size + 1, 9, none⟩ ((.slice none 0 0))).setCell ⟨w.heap.size + 1, 10, none⟩ ((.slice none 0 0))).setCell ⟨w.heap.size + 1, 11, none⟩ ((.slice none 0 0))) := ⟨_, rfl⟩
      rw [← hZ]
      have hwz : Within (w.heap.size + 1) (w.heap.size + 1 + 1) w2 Z := by rw [hZ]; exact (((((((((((((Within.refl (w.heap.size + 1) (w.heap.size + 1 + 1) w2).setCell (Nat.le_refl _) (Nat.lt_succ_self _) _ _).setCell (Nat.le_refl _) (Nat.lt_succ_self _) _ _).setCell (Nat.le_refl _) (Nat.lt_succ_self _) _ _).setCell (Nat.le_refl _) (Nat.lt_succ_self _) _ _).setCell (Nat.le_refl _) (Nat.lt_succ_self _) _ _).setCell (Nat.le_refl _) (Nat.lt_succ_self _) _ _).setCell (Nat.le_refl _) (Nat.lt_succ_self _) _ _).setCell (Nat.le_refl _) (Nat.lt_succ_self _) _ _).setCell (Nat.le_refl _) (Nat.lt_succ_self _) _ _).setCell (Nat.le_refl _) (Nat.lt_succ_self _) _ _).setCell (Nat.le_refl _) (Nat.lt_succ_self _) _ _).setCell (Nat.le_refl _) (Nat.lt_succ_self _) _ _)
      have hZs : Z.heap.size = w2.heap.size := by rw [hZ]; simp only [size_setC]
      have BZ : BoxN Z (w.heap.size + 1) 58 [(.int .i64 0), (.int .i64 0), (.int .i64 0), (.slice none 0 0), (.slice none 0 0), (.slice none 0 0), (.int .i64 0), (.int .i64 0), (.int .i64 0), (.slice none 0 0), (.slice none 0 0), (.slice none 0 0)] := by rw [hZ]; exact ((((((((((((BU.out.set 0 _).set 1 _).set 2 _).set 3 _).set 4 _).set 5 _).set 6 _).set 7 _).set 8 _).set 9 _).set 10 _).set 11 _)
      clear hZ
      have z0 := BZ.cell (i := 0) rfl
      have z1 := BZ.cell (i := 1) rfl
      have z2 := BZ.cell (i := 2) rfl
      have z3 := BZ.cell (i := 3) rfl
      have z4 := BZ.cell (i := 4) rfl
      have z5 := BZ.cell (i := 5) rfl
      have z6 := BZ.cell (i := 6) rfl
      have z7 := BZ.cell (i := 7) rfl
      have z8 := BZ.cell (i := 8) rfl
      have z9 := BZ.cell (i := 9) rfl
      have z10 := BZ.cell (i := 10) rfl
      have z11 := BZ.cell (i := 11) rfl
      have HOZ := Lib.hid (own_zev Z w.heap.size Z.heap.size (by omega))
      have HZB : Hid (Below w.heap.size w Z) := (Below.next HWB.out hcum).trans (hwz.below (B := w.heap.size) (by omega) (by omega))
      clear r0 r1 r2 r3 r4 r5 r6 r7 r8 r9 r10 r11 fr BZ
      refine bodyPost_ret (v := .tuple #[.agg #[.int .i64 0, .int .i64 0, .int .i64 0, .slice none 0 0, .slice none 0 0, .slice none 0 0, .int .i64 0, .int .i64 0, .int .i64 0, .slice none 0 0, .slice none 0 0, .slice none 0 0], .bool false]) (by simp [results, Tryz.results23, go_sem, z0, z1, z2, z3, z4, z5, z6, z7, z8, z9, z10, z11]) rfl ⟨_, (by rw [HNO.out.1]), by rw [HNO.out.2]; exact HOZ.out, HZB.out⟩
    | true =>
      have HKK := H2
      have HC2 := Lib.hid hcum
      go_wp2_with fail
      refine (impl_areHeads _ hs _ (HHW.out.below HC2.out)).mono ?_
      rintro e w3 ⟨rfl, hb3⟩
      rw [H3.out]
      replace hcum := hcum.trans (hb3.mono hcum.size)
      clear hb3
      clear p0 p1 p2
      obtain ⟨p0, p1, p2⟩ := FX.out _ hcum
      cases q3 with
      | false =>
        have HNO := Lib.hid (ffk_no HFK.out)
        have BU := Lib.hid (BR.out.below hcum)
        have hsw := hcum.size
        have hsW := HSW.out
        have r0 := BU.out.cell (i := 0) rfl
        have r1 := BU.out.cell (i := 1) rfl
        have r2 := BU.out.cell (i := 2) rfl
        have r3 := BU.out.cell (i := 3) rfl
        have r4 := BU.out.cell (i := 4) rfl
        have r5 := BU.out.cell (i := 5) rfl
        have r6 := BU.out.cell (i := 6) rfl
        have r7 := BU.out.cell (i := 7) rfl
        have r8 := BU.out.cell (i := 8) rfl
        have r9 := BU.out.cell (i := 9) rfl
        have r10 := BU.out.cell (i := 10) rfl
        have r11 := BU.out.cell (i := 11) rfl
        have fr := BU.out.frozen
        clear p0 p1 p2
        go_wp2_with fail
        obtain ⟨Z, hZ⟩ : ∃ Z, Z = ((((((((((((w3.setCell ⟨w.heap.size + 1, 0, none⟩ ((.int .i64 0))).setCell ⟨w.heap.size + 1, 1, none⟩ ((.int .i64 0))).setCell ⟨w.heap.size + 1, 2, none⟩ ((.int .i64 0))).setCell ⟨w.heap.size + 1, 3, none⟩ ((.slice none 0 0))).setCell ⟨w.heap.size + 1, 4, none⟩ ((.slice none 0 0))).setCell ⟨w.heap.size + 1, 5, none⟩ ((.slice none 0 0))).setCell ⟨w.heap.size + 1, 6, none⟩ ((.int .i64 0))).setCell ⟨w.heap.size + 1, 7, none⟩ ((.int .i64 0))).setCell ⟨w.heap.size + 1, 8, none⟩ ((.int .i64 0))).setCell ⟨w.heap.size + 1, 9, none⟩ ((.slice none 0 0))).setCell ⟨w.heap.size + 1, 10, none⟩ ((.slice none 0 0))).setCell ⟨w.heap.size + 1, 11, none⟩ ((.slice none 0 0))) := ⟨_, rfl⟩
        rw [← hZ]
        have hwz : Within (w.heap.size + 1) (w.heap.size + 1 + 1) w3 Z := by rw [hZ]; exact (((((((((((((Within.refl (w.heap.size + 1) (w.heap.size + 1 + 1) w3).setCell (Nat.le_refl _) (Nat.lt_succ_self _) _ _).setCell (Nat.le_refl _) (Nat.lt_succ_self _) _ _).setCell (Nat.le_refl _) (Nat.lt_succ_self _) _ _).setCell (Nat.le_refl _) (Nat.lt_succ_self _) _ _).setCell (Nat.le_refl _) (Nat.lt_succ_self _) _ _).setCell (Nat.le_refl _) (Nat.lt_succ_self _) _ _).setCell (Nat.le_refl _) (Nat.lt_succ_self _) _ _).setCell (Nat.le_refl _) (Nat.lt_succ_self _) _ _).setCell (Nat.le_refl _) (Nat.lt_succ_self _) _ _).setCell (Nat.le_refl _) (Nat.lt_succ_self _) _ _).setCell (Nat.le_refl _) (Nat.lt_succ_self _) _ _).setCell (Nat.le_refl _) (Nat.lt_succ_self _) _ _)
        have hZs : Z.heap.size = w3.heap.size := by rw [hZ]; simp only [size_setC]
        have BZ : BoxN Z (w.heap.size + 1) 58 [(.int .i64 0), (.int .i64 0), (.int .i64 0), (.slice none 0 0), (.slice none 0 0), (.slice none 0 0), (.int .i64 0), (.int .i64 0), (.int .i64 0), (.slice none 0 0), (.slice none 0 0), (.slice none 0 0)] := by rw [hZ]; exact ((((((((((((BU.out.set 0 _).set 1 _).set 2 _).set 3 _).set 4 _).set 5 _).set 6 _).set 7 _).set 8 _).set 9 _).set 10 _).set 11 _)
        clear hZ
        have z0 := BZ.cell (i := 0) rfl
        have z1 := BZ.cell (i := 1) rfl
        have z2 := BZ.cell (i := 2) rfl
        have z3 := BZ.cell (i := 3) rfl
        have z4 := BZ.cell (i := 4) rfl
        have z5 := BZ.cell (i := 5) rfl
        have z6 := BZ.cell (i := 6) rfl
        have z7 := BZ.cell (i := 7) rfl
        have z8 := BZ.cell (i := 8) rfl
        have z9 := BZ.cell (i := 9) rfl
        have z10 := BZ.cell (i := 10) rfl
        have z11 := BZ.cell (i := 11) rfl
        have HOZ := Lib.hid (own_zev Z w.heap.size Z.heap.size (by omega))
        have HZB : Hid (Below w.heap.size w Z) := (Below.next HWB.out hcum).trans (hwz.below (B := w.heap.size) (by omega) (by omega))
        clear r0 r1 r2 r3 r4 r5 r6 r7 r8 r9 r10 r11 fr BZ
        refine bodyPost_ret (v := .tuple #[.agg #[.int .i64 0, .int .i64 0, .int .i64 0, .slice none 0 0, .slice none 0 0, .slice none 0 0, .int .i64 0, .int .i64 0, .int .i64 0, .slice none 0 0, .slice none 0 0, .slice none 0 0], .bool false]) (by simp [results, Tryz.results23, go_sem, z0, z1, z2, z3, z4, z5, z6, z7, z8, z9, z10, z11]) rfl ⟨_, (by rw [HNO.out.1]), by rw [HNO.out.2]; exact HOZ.out, HZB.out⟩
      | true =>
        have HHB := Lib.hid (headsB_small HZ.out H3.out)
        have HYE := Lib.hid (ffk_yes HFK.out)
        have HC := Lib.hid hcum
        go_wp2_with fail
        refine (impl_findFork ⟨p, q, g⟩ keys _ hs _ _ HG.out HKK.out (HKW.out.below HC.out) HHB.out (HHW.out.below HC.out)).mono ?_
        rintro e w4 ⟨v4, rfl, ho4, hb4⟩
        obtain ⟨a3, n3, c3, a4, n4, c4, a5, n5, c5, a9, n9, c9, a10, n10, c10, a11, n11, c11, rfl, _⟩ := rdForkEvidence.1 ((kS rForkEvidence).own_rd ho4)
        obtain ⟨D, hD⟩ : ∃ D, ffE ⟨p, q, g⟩ keys hs = D := ⟨_, rfl⟩
        obtain ⟨qf, hqf⟩ : ∃ b, ffB ⟨p, q, g⟩ keys hs = b := ⟨_, rfl⟩
        rw [hD] at ho4 ⊢
        rw [hqf]
        have HDD := Lib.hid hD
        have HQF := Lib.hid hqf
        clear hD hqf
        have HO4 := Lib.hid ho4
        have hs4 := hb4.size
        have hs3 := HC.out.size
        replace hcum := hcum.trans (hb4.mono hcum.size)
        clear hb4
        clear p0 p1 p2
        obtain ⟨p0, p1, p2⟩ := FX.out _ hcum
        have BU := Lib.hid (BR.out.below hcum)
        have hsw := hcum.size
        have hsW := HSW.out
        have r0 := BU.out.cell (i := 0) rfl
        have r1 := BU.out.cell (i := 1) rfl
        have r2 := BU.out.cell (i := 2) rfl
        have r3 := BU.out.cell (i := 3) rfl
        have r4 := BU.out.cell (i := 4) rfl
        have r5 := BU.out.cell (i := 5) rfl
        have r6 := BU.out.cell (i := 6) rfl
        have r7 := BU.out.cell (i := 7) rfl
        have r8 := BU.out.cell (i := 8) rfl
        have r9 := BU.out.cell (i := 9) rfl
        have r10 := BU.out.cell (i := 10) rfl
        have r11 := BU.out.cell (i := 11) rfl
        have fr := BU.out.frozen
        clear p0 p1 p2 ho4
        go_wp2_with fail
        obtain ⟨Z, hZ⟩ : ∃ Z, Z = ((((((((((((w4.setCell ⟨w.heap.size + 1, 0, none⟩ ((.int .i64 D.first.author))).setCell ⟨w.heap.size + 1, 1, none⟩ ((.int .i64 D.first.size))).setCell ⟨w.heap.size + 1, 2, none⟩ ((.int .i64 D.first.root))).setCell ⟨w.heap.size + 1, 3, none⟩ ((.slice a3 n3 c3))).setCell ⟨w.heap.size + 1, 4, none⟩ ((.slice a4 n4 c4))).setCell ⟨w.heap.size + 1, 5, none⟩ ((.slice a5 n5 c5))).setCell ⟨w.heap.size + 1, 6, none⟩ ((.int .i64 D.second.author))).setCell ⟨w.heap.size + 1, 7, none⟩ ((.int .i64 D.second.size))).setCell ⟨w.heap.size + 1, 8, none⟩ ((.int .i64 D.second.root))).setCell ⟨w.heap.size + 1, 9, none⟩ ((.slice a9 n9 c9))).setCell ⟨w.heap.size + 1, 10, none⟩ ((.slice a10 n10 c10))).setCell ⟨w.heap.size + 1, 11, none⟩ ((.slice a11 n11 c11))) := ⟨_, rfl⟩
        rw [← hZ]
        have hwz : Within (w.heap.size + 1) (w.heap.size + 1 + 1) w4 Z := by rw [hZ]; exact (((((((((((((Within.refl (w.heap.size + 1) (w.heap.size + 1 + 1) w4).setCell (Nat.le_refl _) (Nat.lt_succ_self _) _ _).setCell (Nat.le_refl _) (Nat.lt_succ_self _) _ _).setCell (Nat.le_refl _) (Nat.lt_succ_self _) _ _).setCell (Nat.le_refl _) (Nat.lt_succ_self _) _ _).setCell (Nat.le_refl _) (Nat.lt_succ_self _) _ _).setCell (Nat.le_refl _) (Nat.lt_succ_self _) _ _).setCell (Nat.le_refl _) (Nat.lt_succ_self _) _ _).setCell (Nat.le_refl _) (Nat.lt_succ_self _) _ _).setCell (Nat.le_refl _) (Nat.lt_succ_self _) _ _).setCell (Nat.le_refl _) (Nat.lt_succ_self _) _ _).setCell (Nat.le_refl _) (Nat.lt_succ_self _) _ _).setCell (Nat.le_refl _) (Nat.lt_succ_self _) _ _)
        have hZs : Z.heap.size = w4.heap.size := by rw [hZ]; simp only [size_setC]
        have BZ : BoxN Z (w.heap.size + 1) 58 [(.int .i64 D.first.author), (.int .i64 D.first.size), (.int .i64 D.first.root), (.slice a3 n3 c3), (.slice a4 n4 c4), (.slice a5 n5 c5), (.int .i64 D.second.author), (.int .i64 D.second.size), (.int .i64 D.second.root), (.slice a9 n9 c9), (.slice a10 n10 c10), (.slice a11 n11 c11)] := by rw [hZ]; exact ((((((((((((BU.out.set 0 _).set 1 _).set 2 _).set 3 _).set 4 _).set 5 _).set 6 _).set 7 _).set 8 _).set 9 _).set 10 _).set 11 _)
        clear hZ
        have z0 := BZ.cell (i := 0) rfl
        have z1 := BZ.cell (i := 1) rfl
        have z2 := BZ.cell (i := 2) rfl
        have z3 := BZ.cell (i := 3) rfl
        have z4 := BZ.cell (i := 4) rfl
        have z5 := BZ.cell (i := 5) rfl
        have z6 := BZ.cell (i := 6) rfl
        have z7 := BZ.cell (i := 7) rfl
        have z8 := BZ.cell (i := 8) rfl
        have z9 := BZ.cell (i := 9) rfl
        have z10 := BZ.cell (i := 10) rfl
        have z11 := BZ.cell (i := 11) rfl
        have HOZ := Lib.hid ((kS rForkEvidence).own_mono (Kind.kept (K := kS rForkEvidence) HO4.out hwz (.inr (by omega))) (show w.heap.size ≤ _ by omega) (show _ ≤ Z.heap.size by omega))
        have HZB : Hid (Below w.heap.size w Z) := (Below.next HWB.out hcum).trans (hwz.below (B := w.heap.size) (by omega) (by omega))
        clear r0 r1 r2 r3 r4 r5 r6 r7 r8 r9 r10 r11 fr BZ
        refine bodyPost_ret (v := .tuple #[.agg #[.int .i64 D.first.author, .int .i64 D.first.size, .int .i64 D.first.root, .slice a3 n3 c3, .slice a4 n4 c4, .slice a5 n5 c5, .int .i64 D.second.author, .int .i64 D.second.size, .int .i64 D.second.root, .slice a9 n9 c9, .slice a10 n10 c10, .slice a11 n11 c11], .bool qf]) (by simp [results, Tryz.results23, go_sem, z0, z1, z2, z3, z4, z5, z6, z7, z8, z9, z10, z11]) rfl ⟨_, (by rw [HYE.out.1, HQF.out]), by rw [HYE.out.2, HDD.out]; exact HOZ.out, HZB.out⟩
set_option maxRecDepth 100000 in
set_option maxHeartbeats 4000000 in
theorem spec_FindFork (gr : GroupD) (vk : Value) (keys : List Int) (vh : Value) (hs : List HeadD) (w : World) (hk : Ints w vk keys) (hz : (szHeadS hs : Int) ≤ 1000000000) (hh : (kR 44 rHead).rd w vh hs) :
    Calls Tryz.prog 21 #[.agg #[.int .i64 gr.p, .int .i64 gr.q, .int .i64 gr.g], vk, vh] w fun e w' => ∃ v', e = .returned (.tuple #[v', .bool (ffkB gr keys hs)]) ∧ (kS rForkEvidence).own w' w.heap.size w'.heap.size v' (ffkE gr keys hs) ∧ Below w.heap.size w w' := by
  have _hk64 := trivial
  (obtain ⟨q1, h_q⟩ : ∃ b_q, fkB gr keys = b_q := ⟨_, rfl⟩); have H1 := Lib.hid h_q; clear h_q
  (obtain ⟨q3, h_q⟩ : ∃ b_q, headsB hs = b_q := ⟨_, rfl⟩); have H3 := Lib.hid h_q; clear h_q
  have HFK : Hid (ffkG gr keys hs = (q1 && q3)) := by unfold Hid ffkG; rw [H1.out, H3.out]
  clear _hk64
  have HZ := Lib.hid hz
  obtain ⟨ak, nk, ck, rfl⟩ := hk.shape
  have HH : Hid (RdR rHead w vh hs) := hh
  obtain ⟨ah, n, c, rfl⟩ := HH.out.shape
  have HKI := Lib.hid hk
  clear hk hh hz
  obtain ⟨p, q, g⟩ := gr
  obtain ⟨W, hW⟩ : ∃ W, W = (w.alloc (.cells #[.int .i64 p, .int .i64 q, .int .i64 g] 36)).alloc (.cells #[.int .i64 0, .int .i64 0, .int .i64 0, .slice none 0 0, .slice none 0 0, .slice none 0 0, .int .i64 0, .int .i64 0, .int .i64 0, .slice none 0 0, .slice none 0 0, .slice none 0 0] 58) := ⟨_, rfl⟩
  have HWB : Hid (Below w.heap.size w W) := by unfold Hid; rw [hW]; (repeat (first | exact Below.refl _ _ | assumption | refine Below.drew ?_ | refine Below.alloc ?_ (by first | (simp; done) | (simp; omega)) _ | refine Below.setCell ?_ (by first | (simp; done) | (simp; omega)) _))
  have hsW : W.heap.size = w.heap.size + 2 := by rw [hW]; simp
  have p0 : W.cell? ⟨w.heap.size, 0, none⟩ = some (.int .i64 p) := by rw [hW]; simp [go_sem]
  have p1 : W.cell? ⟨w.heap.size, 1, none⟩ = some (.int .i64 q) := by rw [hW]; simp [go_sem]
  have p2 : W.cell? ⟨w.heap.size, 2, none⟩ = some (.int .i64 g) := by rw [hW]; simp [go_sem]
  have hs1 : (w.alloc (.cells #[.int .i64 p, .int .i64 q, .int .i64 g] 36)).heap.size = w.heap.size + 1 := by simp
  have BR : Hid (BoxN W (w.heap.size + 1) 58 [.int .i64 0, .int .i64 0, .int .i64 0, .slice none 0 0, .slice none 0 0, .slice none 0 0, .int .i64 0, .int .i64 0, .int .i64 0, .slice none 0 0, .slice none 0 0, .slice none 0 0]) := by unfold Hid; rw [hW, ← hs1]; exact BoxN.new _ [.int .i64 0, .int .i64 0, .int .i64 0, .slice none 0 0, .slice none 0 0, .slice none 0 0, .int .i64 0, .int .i64 0, .int .i64 0, .slice none 0 0, .slice none 0 0, .slice none 0 0] _
  have FX : Hid (∀ W', Below W.heap.size W W' → W'.cell? ⟨w.heap.size, 0, none⟩ = some (.int .i64 p) ∧ W'.cell? ⟨w.heap.size, 1, none⟩ = some (.int .i64 q) ∧ W'.cell? ⟨w.heap.size, 2, none⟩ = some (.int .i64 g)) := fun W' hb => ⟨box_at p0 hb, box_at p1 hb, box_at p2 hb⟩
  have HHW : Hid (RdR rHead W (.slice ah n c) hs) := HH.out.below HWB.out
  have HKW : Hid (Ints W (.slice ak nk ck) keys) := HKI.out.below HWB.out
  have hcum : Below W.heap.size W W := Below.refl _ _
  have HSW := Lib.hid hsW
  have HW := Lib.hid hW
  clear hs1 hW hsW
  go_enter Tryz.func21, Tryz.ntmps21
  go_wp2_with fail
  rw [← HW.out]
  refine (spec_fKeys ⟨p, q, g⟩ _ keys _ HKW.out).mono ?_
  rintro e w1 ⟨rfl, hb1⟩
  rw [H1.out]
  replace hcum := hcum.trans (hb1.mono hcum.size)
  clear hb1
  clear p0 p1 p2
  obtain ⟨p0, p1, p2⟩ := FX.out _ hcum
  cases q1 with
  | false =>
    have HNO := Lib.hid (ffk_no HFK.out)
    have BU := Lib.hid (BR.out.below hcum)
    have hsw := hcum.size
    have hsW := HSW.out
    have r0 := BU.out.cell (i := 0) rfl
    have r1 := BU.out.cell (i := 1) rfl
    have r2 := BU.out.cell (i := 2) rfl
    have r3 := BU.out.cell (i := 3) rfl
    have r4 := BU.out.cell (i := 4) rfl
    have r5 := BU.out.cell (i := 5) rfl
    have r6 := BU.out.cell (i := 6) rfl
    have r7 := BU.out.cell (i := 7) rfl
    have r8 := BU.out.cell (i := 8) rfl
    have r9 := BU.out.cell (i := 9) rfl
    have r10 := BU.out.cell (i := 10) rfl
    have r11 := BU.out.cell (i := 11) rfl
    have fr := BU.out.frozen
    clear p0 p1 p2
    go_wp2_with fail
    obtain ⟨Z, hZ⟩ : ∃ Z, Z = ((((((((((((w1.setCell ⟨w.heap.size + 1, 0, none⟩ ((.int .i64 0))).setCell ⟨w.heap.size + 1, 1, none⟩ ((.int .i64 0))).setCell ⟨w.heap.size + 1, 2, none⟩ ((.int .i64 0))).setCell ⟨w.heap.size + 1, 3, none⟩ ((.slice none 0 0))).setCell ⟨w.heap.size + 1, 4, none⟩ ((.slice none 0 0))).setCell ⟨w.heap.size + 1, 5, none⟩ ((.slice none 0 0))).setCell ⟨w.heap.size + 1, 6, none⟩ ((.int .i64 0))).setCell ⟨w.heap.size + 1, 7, none⟩ ((.int .i64 0))).setCell ⟨w.heap.size + 1, 8, none⟩ ((.int .i64 0))).setCell ⟨w.heap.size + 1, 9, none⟩ ((.slice none 0 0))).setCell ⟨w.heap.size + 1, 10, none⟩ ((.slice none 0 0))).setCell ⟨w.heap.size + 1, 11, none⟩ ((.slice none 0 0))) := ⟨_, rfl⟩
    rw [← hZ]
    have hwz : Within (w.heap.size + 1) (w.heap.size + 1 + 1) w1 Z := by rw [hZ]; exact (((((((((((((Within.refl (w.heap.size + 1) (w.heap.size + 1 + 1) w1).setCell (Nat.le_refl _) (Nat.lt_succ_self _) _ _).setCell (Nat.le_refl _) (Nat.lt_succ_self _) _ _).setCell (Nat.le_refl _) (Nat.lt_succ_self _) _ _).setCell (Nat.le_refl _) (Nat.lt_succ_self _) _ _).setCell (Nat.le_refl _) (Nat.lt_succ_self _) _ _).setCell (Nat.le_refl _) (Nat.lt_succ_self _) _ _).setCell (Nat.le_refl _) (Nat.lt_succ_self _) _ _).setCell (Nat.le_refl _) (Nat.lt_succ_self _) _ _).setCell (Nat.le_refl _) (Nat.lt_succ_self _) _ _).setCell (Nat.le_refl _) (Nat.lt_succ_self _) _ _).setCell (Nat.le_refl _) (Nat.lt_succ_self _) _ _).setCell (Nat.le_refl _) (Nat.lt_succ_self _) _ _)
    have hZs : Z.heap.size = w1.heap.size := by rw [hZ]; simp only [size_setC]
    have BZ : BoxN Z (w.heap.size + 1) 58 [(.int .i64 0), (.int .i64 0), (.int .i64 0), (.slice none 0 0), (.slice none 0 0), (.slice none 0 0), (.int .i64 0), (.int .i64 0), (.int .i64 0), (.slice none 0 0), (.slice none 0 0), (.slice none 0 0)] := by rw [hZ]; exact ((((((((((((BU.out.set 0 _).set 1 _).set 2 _).set 3 _).set 4 _).set 5 _).set 6 _).set 7 _).set 8 _).set 9 _).set 10 _).set 11 _)
    clear hZ
    have z0 := BZ.cell (i := 0) rfl
    have z1 := BZ.cell (i := 1) rfl
    have z2 := BZ.cell (i := 2) rfl
    have z3 := BZ.cell (i := 3) rfl
    have z4 := BZ.cell (i := 4) rfl
    have z5 := BZ.cell (i := 5) rfl
    have z6 := BZ.cell (i := 6) rfl
    have z7 := BZ.cell (i := 7) rfl
    have z8 := BZ.cell (i := 8) rfl
    have z9 := BZ.cell (i := 9) rfl
    have z10 := BZ.cell (i := 10) rfl
    have z11 := BZ.cell (i := 11) rfl
    have HOZ := Lib.hid (own_zev Z w.heap.size Z.heap.size (by omega))
    have HZB : Hid (Below w.heap.size w Z) := (Below.next HWB.out hcum).trans (hwz.below (B := w.heap.size) (by omega) (by omega))
    clear r0 r1 r2 r3 r4 r5 r6 r7 r8 r9 r10 r11 fr BZ
    refine bodyPost_ret (v := .tuple #[.agg #[.int .i64 0, .int .i64 0, .int .i64 0, .slice none 0 0, .slice none 0 0, .slice none 0 0, .int .i64 0, .int .i64 0, .int .i64 0, .slice none 0 0, .slice none 0 0, .slice none 0 0], .bool false]) (by simp [results, Tryz.results21, go_sem, z0, z1, z2, z3, z4, z5, z6, z7, z8, z9, z10, z11]) rfl ⟨_, (by rw [HNO.out.1]), by rw [HNO.out.2]; exact HOZ.out, HZB.out⟩
  | true =>
    have h12 := H1.out
    unfold fkB at h12
    rw [Bool.and_eq_true] at h12
    have HG := Lib.hid (goodG_ok h12.1)
    have HKK := Lib.hid h12.2
    clear h12
    have HC1 := Lib.hid hcum
    go_wp2_with fail
    refine (spec_fHeads _ hs _ (HHW.out.below HC1.out)).mono ?_
    rintro e w3 ⟨rfl, hb3⟩
    rw [H3.out]
    replace hcum := hcum.trans (hb3.mono hcum.size)
    clear hb3
    clear p0 p1 p2
    obtain ⟨p0, p1, p2⟩ := FX.out _ hcum
    cases q3 with
    | false =>
      have HNO := Lib.hid (ffk_no HFK.out)
      have BU := Lib.hid (BR.out.below hcum)
      have hsw := hcum.size
      have hsW := HSW.out
      have r0 := BU.out.cell (i := 0) rfl
      have r1 := BU.out.cell (i := 1) rfl
      have r2 := BU.out.cell (i := 2) rfl
      have r3 := BU.out.cell (i := 3) rfl
      have r4 := BU.out.cell (i := 4) rfl
      have r5 := BU.out.cell (i := 5) rfl
      have r6 := BU.out.cell (i := 6) rfl
      have r7 := BU.out.cell (i := 7) rfl
      have r8 := BU.out.cell (i := 8) rfl
      have r9 := BU.out.cell (i := 9) rfl
      have r10 := BU.out.cell (i := 10) rfl
      have r11 := BU.out.cell (i := 11) rfl
      have fr := BU.out.frozen
      clear p0 p1 p2
      go_wp2_with fail
      obtain ⟨Z, hZ⟩ : ∃ Z, Z = ((((((((((((w3.setCell ⟨w.heap.size + 1, 0, none⟩ ((.int .i64 0))).setCell ⟨w.heap.size + 1, 1, none⟩ ((.int .i64 0))).setCell ⟨w.heap.size + 1, 2, none⟩ ((.int .i64 0))).setCell ⟨w.heap.size + 1, 3, none⟩ ((.slice none 0 0))).setCell ⟨w.heap.size + 1, 4, none⟩ ((.slice none 0 0))).setCell ⟨w.heap.size + 1, 5, none⟩ ((.slice none 0 0))).setCell ⟨w.heap.size + 1, 6, none⟩ ((.int .i64 0))).setCell ⟨w.heap.size + 1, 7, none⟩ ((.int .i64 0))).setCell ⟨w.heap.size + 1, 8, none⟩ ((.int .i64 0))).setCell ⟨w.heap.size + 1, 9, none⟩ ((.slice none 0 0))).setCell ⟨w.heap.size + 1, 10, none⟩ ((.slice none 0 0))).setCell ⟨w.heap.size + 1, 11, none⟩ ((.slice none 0 0))) := ⟨_, rfl⟩
      rw [← hZ]
      have hwz : Within (w.heap.size + 1) (w.heap.size + 1 + 1) w3 Z := by rw [hZ]; exact (((((((((((((Within.refl (w.heap.size + 1) (w.heap.size + 1 + 1) w3).setCell (Nat.le_refl _) (Nat.lt_succ_self _) _ _).setCell (Nat.le_refl _) (Nat.lt_succ_self _) _ _).setCell (Nat.le_refl _) (Nat.lt_succ_self _) _ _).setCell (Nat.le_refl _) (Nat.lt_succ_self _) _ _).setCell (Nat.le_refl _) (Nat.lt_succ_self _) _ _).setCell (Nat.le_refl _) (Nat.lt_succ_self _) _ _).setCell (Nat.le_refl _) (Nat.lt_succ_self _) _ _).setCell (Nat.le_refl _) (Nat.lt_succ_self _) _ _).setCell (Nat.le_refl _) (Nat.lt_succ_self _) _ _).setCell (Nat.le_refl _) (Nat.lt_succ_self _) _ _).setCell (Nat.le_refl _) (Nat.lt_succ_self _) _ _).setCell (Nat.le_refl _) (Nat.lt_succ_self _) _ _)
      have hZs : Z.heap.size = w3.heap.size := by rw [hZ]; simp only [size_setC]
      have BZ : BoxN Z (w.heap.size + 1) 58 [(.int .i64 0), (.int .i64 0), (.int .i64 0), (.slice none 0 0), (.slice none 0 0), (.slice none 0 0), (.int .i64 0), (.int .i64 0), (.int .i64 0), (.slice none 0 0), (.slice none 0 0), (.slice none 0 0)] := by rw [hZ]; exact ((((((((((((BU.out.set 0 _).set 1 _).set 2 _).set 3 _).set 4 _).set 5 _).set 6 _).set 7 _).set 8 _).set 9 _).set 10 _).set 11 _)
      clear hZ
      have z0 := BZ.cell (i := 0) rfl
      have z1 := BZ.cell (i := 1) rfl
      have z2 := BZ.cell (i := 2) rfl
      have z3 := BZ.cell (i := 3) rfl
      have z4 := BZ.cell (i := 4) rfl
      have z5 := BZ.cell (i := 5) rfl
      have z6 := BZ.cell (i := 6) rfl
      have z7 := BZ.cell (i := 7) rfl
      have z8 := BZ.cell (i := 8) rfl
      have z9 := BZ.cell (i := 9) rfl
      have z10 := BZ.cell (i := 10) rfl
      have z11 := BZ.cell (i := 11) rfl
      have HOZ := Lib.hid (own_zev Z w.heap.size Z.heap.size (by omega))
      have HZB : Hid (Below w.heap.size w Z) := (Below.next HWB.out hcum).trans (hwz.below (B := w.heap.size) (by omega) (by omega))
      clear r0 r1 r2 r3 r4 r5 r6 r7 r8 r9 r10 r11 fr BZ
      refine bodyPost_ret (v := .tuple #[.agg #[.int .i64 0, .int .i64 0, .int .i64 0, .slice none 0 0, .slice none 0 0, .slice none 0 0, .int .i64 0, .int .i64 0, .int .i64 0, .slice none 0 0, .slice none 0 0, .slice none 0 0], .bool false]) (by simp [results, Tryz.results21, go_sem, z0, z1, z2, z3, z4, z5, z6, z7, z8, z9, z10, z11]) rfl ⟨_, (by rw [HNO.out.1]), by rw [HNO.out.2]; exact HOZ.out, HZB.out⟩
    | true =>
      have HHB := Lib.hid (headsB_small HZ.out H3.out)
      have HYE := Lib.hid (ffk_yes HFK.out)
      have HC := Lib.hid hcum
      go_wp2_with fail
      refine (spec_fFind ⟨p, q, g⟩ keys _ hs _ _ HG.out HKK.out (HKW.out.below HC.out) HHB.out (HHW.out.below HC.out)).mono ?_
      rintro e w4 ⟨v4, rfl, ho4, hb4⟩
      obtain ⟨a3, n3, c3, a4, n4, c4, a5, n5, c5, a9, n9, c9, a10, n10, c10, a11, n11, c11, rfl, _⟩ := rdForkEvidence.1 ((kS rForkEvidence).own_rd ho4)
      obtain ⟨D, hD⟩ : ∃ D, ffE ⟨p, q, g⟩ keys hs = D := ⟨_, rfl⟩
      obtain ⟨qf, hqf⟩ : ∃ b, ffB ⟨p, q, g⟩ keys hs = b := ⟨_, rfl⟩
      rw [hD] at ho4 ⊢
      rw [hqf]
      have HDD := Lib.hid hD
      have HQF := Lib.hid hqf
      clear hD hqf
      have HO4 := Lib.hid ho4
      have hs4 := hb4.size
      have hs3 := HC.out.size
      replace hcum := hcum.trans (hb4.mono hcum.size)
      clear hb4
      clear p0 p1 p2
      obtain ⟨p0, p1, p2⟩ := FX.out _ hcum
      have BU := Lib.hid (BR.out.below hcum)
      have hsw := hcum.size
      have hsW := HSW.out
      have r0 := BU.out.cell (i := 0) rfl
      have r1 := BU.out.cell (i := 1) rfl
      have r2 := BU.out.cell (i := 2) rfl
      have r3 := BU.out.cell (i := 3) rfl
      have r4 := BU.out.cell (i := 4) rfl
      have r5 := BU.out.cell (i := 5) rfl
      have r6 := BU.out.cell (i := 6) rfl
      have r7 := BU.out.cell (i := 7) rfl
      have r8 := BU.out.cell (i := 8) rfl
      have r9 := BU.out.cell (i := 9) rfl
      have r10 := BU.out.cell (i := 10) rfl
      have r11 := BU.out.cell (i := 11) rfl
      have fr := BU.out.frozen
      clear p0 p1 p2 ho4
      go_wp2_with fail
      obtain ⟨Z, hZ⟩ : ∃ Z, Z = ((((((((((((w4.setCell ⟨w.heap.size + 1, 0, none⟩ ((.int .i64 D.first.author))).setCell ⟨w.heap.size + 1, 1, none⟩ ((.int .i64 D.first.size))).setCell ⟨w.heap.size + 1, 2, none⟩ ((.int .i64 D.first.root))).setCell ⟨w.heap.size + 1, 3, none⟩ ((.slice a3 n3 c3))).setCell ⟨w.heap.size + 1, 4, none⟩ ((.slice a4 n4 c4))).setCell ⟨w.heap.size + 1, 5, none⟩ ((.slice a5 n5 c5))).setCell ⟨w.heap.size + 1, 6, none⟩ ((.int .i64 D.second.author))).setCell ⟨w.heap.size + 1, 7, none⟩ ((.int .i64 D.second.size))).setCell ⟨w.heap.size + 1, 8, none⟩ ((.int .i64 D.second.root))).setCell ⟨w.heap.size + 1, 9, none⟩ ((.slice a9 n9 c9))).setCell ⟨w.heap.size + 1, 10, none⟩ ((.slice a10 n10 c10))).setCell ⟨w.heap.size + 1, 11, none⟩ ((.slice a11 n11 c11))) := ⟨_, rfl⟩
      rw [← hZ]
      have hwz : Within (w.heap.size + 1) (w.heap.size + 1 + 1) w4 Z := by rw [hZ]; exact (((((((((((((Within.refl (w.heap.size + 1) (w.heap.size + 1 + 1) w4).setCell (Nat.le_refl _) (Nat.lt_succ_self _) _ _).setCell (Nat.le_refl _) (Nat.lt_succ_self _) _ _).setCell (Nat.le_refl _) (Nat.lt_succ_self _) _ _).setCell (Nat.le_refl _) (Nat.lt_succ_self _) _ _).setCell (Nat.le_refl _) (Nat.lt_succ_self _) _ _).setCell (Nat.le_refl _) (Nat.lt_succ_self _) _ _).setCell (Nat.le_refl _) (Nat.lt_succ_self _) _ _).setCell (Nat.le_refl _) (Nat.lt_succ_self _) _ _).setCell (Nat.le_refl _) (Nat.lt_succ_self _) _ _).setCell (Nat.le_refl _) (Nat.lt_succ_self _) _ _).setCell (Nat.le_refl _) (Nat.lt_succ_self _) _ _).setCell (Nat.le_refl _) (Nat.lt_succ_self _) _ _)
      have hZs : Z.heap.size = w4.heap.size := by rw [hZ]; simp only [size_setC]
      have BZ : BoxN Z (w.heap.size + 1) 58 [(.int .i64 D.first.author), (.int .i64 D.first.size), (.int .i64 D.first.root), (.slice a3 n3 c3), (.slice a4 n4 c4), (.slice a5 n5 c5), (.int .i64 D.second.author), (.int .i64 D.second.size), (.int .i64 D.second.root), (.slice a9 n9 c9), (.slice a10 n10 c10), (.slice a11 n11 c11)] := by rw [hZ]; exact ((((((((((((BU.out.set 0 _).set 1 _).set 2 _).set 3 _).set 4 _).set 5 _).set 6 _).set 7 _).set 8 _).set 9 _).set 10 _).set 11 _)
      clear hZ
      have z0 := BZ.cell (i := 0) rfl
      have z1 := BZ.cell (i := 1) rfl
      have z2 := BZ.cell (i := 2) rfl
      have z3 := BZ.cell (i := 3) rfl
      have z4 := BZ.cell (i := 4) rfl
      have z5 := BZ.cell (i := 5) rfl
      have z6 := BZ.cell (i := 6) rfl
      have z7 := BZ.cell (i := 7) rfl
      have z8 := BZ.cell (i := 8) rfl
      have z9 := BZ.cell (i := 9) rfl
      have z10 := BZ.cell (i := 10) rfl
      have z11 := BZ.cell (i := 11) rfl
      have HOZ := Lib.hid ((kS rForkEvidence).own_mono (Kind.kept (K := kS rForkEvidence) HO4.out hwz (.inr (by omega))) (show w.heap.size ≤ _ by omega) (show _ ≤ Z.heap.size by omega))
      have HZB : Hid (Below w.heap.size w Z) := (Below.next HWB.out hcum).trans (hwz.below (B := w.heap.size) (by omega) (by omega))
      clear r0 r1 r2 r3 r4 r5 r6 r7 r8 r9 r10 r11 fr BZ
      refine bodyPost_ret (v := .tuple #[.agg #[.int .i64 D.first.author, .int .i64 D.first.size, .int .i64 D.first.root, .slice a3 n3 c3, .slice a4 n4 c4, .slice a5 n5 c5, .int .i64 D.second.author, .int .i64 D.second.size, .int .i64 D.second.root, .slice a9 n9 c9, .slice a10 n10 c10, .slice a11 n11 c11], .bool qf]) (by simp [results, Tryz.results21, go_sem, z0, z1, z2, z3, z4, z5, z6, z7, z8, z9, z10, z11]) rfl ⟨_, (by rw [HYE.out.1, HQF.out]), by rw [HYE.out.2, HDD.out]; exact HOZ.out, HZB.out⟩
end Go.Proofs.YtodennbdfloccaaGreat
