/- Draws: linear statements and their proofs (printed by gen_drl2.py). -/
import Derived.Test.YteemlmmdngkghaaGrpAV
import Derived.Test.YteemlmmdngkghaaSpoilV
import Derived.Test.YteemlmmdngkghaaBentV
import Derived.Test.YteemlmmdngkghaaLin1V
namespace Go.Proofs.Yteemlmmdngkghaa
open Go.RowKit
set_option linter.unusedSimpArgs false
set_option linter.unusedVariables false

theorem headLen_le {ls : List (List Int)} {m : Nat} (h : ∀ r ∈ ls, r.length ≤ m) : headLen ls ≤ m := by
  unfold headLen
  cases ls with
  | nil => simp
  | cons r ls => exact h r (by simp)
theorem plD_len (gr : GroupD) (s : ByteArray) (bs : List (List Int)) (xs ws : List Int) : (plD gr s bs xs ws).c.length ≤ 30 ∧ (plD gr s bs xs ws).h.length ≤ 30 ∧ (plD gr s bs xs ws).r.length ≤ 30 := by
  unfold plD
  split
  · rename_i h
    unfold plB at h
    simp only [Bool.and_eq_true, decide_eq_true_iff] at h
    obtain ⟨_, _, h3, h4, h5, _⟩ := h
    obtain ⟨⟨_, q1⟩, _, q2⟩ := rowsB_len h3
    exact ⟨by show (imagesL gr bs ws).length ≤ 30; rw [imagesL_length]; omega, by show (1 : Nat) ≤ 30; omega, by show (respN gr _ ws xs ws.length).length ≤ 30; rw [respN_length]; omega⟩
  · exact ⟨by simp [zProof], by simp [zProof], by simp [zProof]⟩
theorem ilR_pos {gr : GroupD} {s : ByteArray} {bs : List (List Int)} {xs ws : List Int} (h : plB gr s bs xs ws = true) : 0 < (ilR gr bs xs).length := by
  unfold plB at h
  simp only [Bool.and_eq_true] at h
  obtain ⟨h1, _, h3, h4, _, h6, _⟩ := h
  have hi : ilB gr bs xs = true := by unfold ilB; rw [h1, h3, h4, h6]; rfl
  unfold ilR
  rw [if_pos hi, imagesL_length]
  exact (rowsB_len h3).1.1
theorem ilR_len (gr : GroupD) (bs : List (List Int)) (xs : List Int) : (ilR gr bs xs).length ≤ 8 := by
  unfold ilR
  split
  · rename_i h
    unfold ilB at h
    simp only [Bool.and_eq_true] at h
    obtain ⟨⟨_, q1⟩, _⟩ := rowsB_len h.2.1
    rw [imagesL_length]; exact q1
  · simp
set_option maxRecDepth 100000 in
set_option maxHeartbeats 4000000 in
theorem spec_DrawImagesOfS (v : Value) (w : World) (h : Bytes w v) :
    Calls Try.prog 130 #[v] w fun e w' => (∃ (P : Int) (Q : Int) (G : Int) (vr1 : Value) (lr1 : List (List Int)) (vr2 : Value) (lr2 : List Int), e = .returned (.tuple #[.agg #[.int .i64 P, .int .i64 Q, .int .i64 G], vr1, vr2]) ∧ GrB ⟨P, Q, G⟩ ∧ (Since w.heap.size w' (fun z => RdL kInts z vr1 lr1) ∧ lr1.length ≤ 9 ∧ ∀ r ∈ lr1, r.length ≤ 3) ∧ (Since w.heap.size w' (fun z => Ints z vr2 lr2) ∧ lr2.length ≤ 4)) ∧ Below w.heap.size w w' := by
  obtain ⟨a, m, c, rfl, hk1, hk2, hv⟩ := h
  have HY : Hid (Bytes w (.slice a m c)) := ⟨a, m, c, rfl, hk1, hk2, hv⟩
  clear hv
  unfold maxLen at hk2
  obtain ⟨U, hU⟩ : ∃ U, U = w.alloc (.cells #[.int .i64 0, .int .i64 0, .int .i64 0] 25) := ⟨_, rfl⟩
  have hbU : Below w.heap.size w U := by rw [hU]; (repeat (first | exact Below.refl _ _ | assumption | refine Below.drew ?_ | refine Below.alloc ?_ (by first | (simp; done) | (simp; omega)) _ | refine Below.setCell ?_ (by first | (simp; done) | (simp; omega)) _))
  have HX0 : Hid (BoxN U w.heap.size 25 [.int .i64 0, .int .i64 0, .int .i64 0]) := by unfold Hid; rw [hU]; have h := (BoxN.new w [.int .i64 0, .int .i64 0, .int .i64 0] 25); simpa using h
  have hsU : U.heap.size = w.heap.size + 1 := by rw [hU]; simp
  obtain ⟨W, hW⟩ : ∃ W, W = U.alloc (.cells #[.slice a m c, .int .i64 0, .int .u64 0] 127) := ⟨_, rfl⟩
  have HC : Hid (Cur U W U.heap.size 0) := by unfold Hid; rw [hW]; exact Cur.new U (HY.out.below hbU)
  have hbW : Below U.heap.size U W := by rw [hW]; exact (Below.refl _ _).alloc (Nat.le_refl _) _
  have HBW := Lib.hid (Below.next hbU hbW)
  have HUB := Lib.hid hbW
  replace HX0 := Lib.hid (HX0.out.below hbW)
  obtain ⟨g, hg⟩ : ∃ g, g = U.heap.size := ⟨_, rfl⟩
  have HSU : Hid (w.heap.size + 1 = g) := by unfold Hid; rw [hg, hsU]
  have HWS : Hid (W.heap.size = g + 1) := by unfold Hid; rw [hW, hg]; simp
  go_enter Try.func130, Try.ntmps130
  go_wp2_with fail
  rw [← hU, ← hW]
  rw [HSU.out]
  rw [← hg] at HC HUB
  have HUS : Hid (U.heap.size = g) := hg.symm
  have hwg : w.heap.size + 1 = g := HSU.out
  have hsW := HWS.out
  have HW := Lib.hid (Within.refl g (g + 1) W)
  have HUC : Hid (Below U.heap.size U W) := by unfold Hid; rw [HUS.out]; exact HUB.out
  clear hU hW hbU hbW hsU hg
  have z_0_0 := HX0.out.cell (i := 0) rfl
  have z_0_1 := HX0.out.cell (i := 1) rfl
  have z_0_2 := HX0.out.cell (i := 2) rfl
  try (go_wp2_with fail)
  clear z_0_0 z_0_1 z_0_2
  refine (spec_anyGroup U g _ _ HC.out (HW.out.belowOf HUC.out (Nat.le_of_eq HUS.out)) (by omega)).mono ?_
  rintro e u1 ⟨⟨P, Q, G, rfl, P1, Q1, G1⟩, hc, hw⟩
  have HGR : Hid (GrB ⟨P, Q, G⟩) := ⟨P1, Q1, G1⟩
  clear P1 Q1 G1
  have hsz1 := hw.size
  replace HX0 := Lib.hid (HX0.out.kept hw (.inl (by omega)))
  replace HW := Lib.hid (HW.out.trans hw)
  replace HC := Lib.hid hc
  clear hc hw
  have z_0_0 := HX0.out.cell (i := 0) rfl
  have z_0_1 := HX0.out.cell (i := 1) rfl
  have z_0_2 := HX0.out.cell (i := 2) rfl
  have lt_HX0 := HX0.out.lt
  obtain ⟨V2, hV⟩ : ∃ V, V = u1.alloc (.cells #[.int .i64 P, .int .i64 Q, .int .i64 G] 25) := ⟨_, rfl⟩
  have hbV : Below u1.heap.size u1 V2 := by rw [hV]; (repeat (first | exact Below.refl _ _ | assumption | refine Below.drew ?_ | refine Below.alloc ?_ (by first | (simp; done) | (simp; omega)) _ | refine Below.setCell ?_ (by first | (simp; done) | (simp; omega)) _))
  have HZ1 : Hid (BoxN V2 u1.heap.size 25 [.int .i64 P, .int .i64 Q, .int .i64 G]) := by unfold Hid; rw [hV]; have h := (BoxN.new u1 [.int .i64 P, .int .i64 Q, .int .i64 G] 25); simpa using h
  have hgc : g < u1.heap.size := HC.out.lt
  go_wp2_with fail
  rw [← hV]
  have hsV2 : V2.heap.size = u1.heap.size + 1 := by rw [hV]; simp
  clear hV hgc
  replace HX0 := Lib.hid (HX0.out.below hbV)
  replace HW := Lib.hid (HW.out.trans (Within.of_below hbV))
  replace HC := Lib.hid (HC.out.keep hbV)
  clear hbV
  clear z_0_0 z_0_1 z_0_2
  clear lt_HX0
  refine (spec_linear U g _ P Q G _ HC.out (HW.out.belowOf HUC.out (Nat.le_of_eq HUS.out)) (by omega) HGR.out).mono ?_
  rintro e u3 ⟨⟨v3, l3, rfl, hs3, hl3, hr3⟩, hc, hw⟩
  have HR3 := Lib.hid hr3
  clear hr3
  have HL3 := Lib.hid hs3
  obtain ⟨a3, n3, c3, rfl⟩ := hs3.here.shape
  have hn3 : n3 ≤ 9 := by have h1 := hs3.here.len; omega
  have HE3 := Lib.hid hs3.here.len
  clear hs3
  have hsz3 := hw.size
  replace HX0 := Lib.hid (HX0.out.kept hw (.inl (by omega)))
  replace HZ1 := Lib.hid (HZ1.out.kept hw (.inr (by omega)))
  replace HW := Lib.hid (HW.out.trans hw)
  replace HC := Lib.hid hc
  clear hc hw
  by_cases hlp : 0 < n3
  · have hdp : decide ((0 : Int) < (n3 : Int)) = true := decide_eq_true (by omega)
    obtain ⟨bb, bo, r0a, r0n, r0c, rfl, hf1, hf2, hf3⟩ := first_row HL3.out.here hlp
    have hr0 : r0n ≤ 3 := by rw [hf2]; exact headLen_le HR3.out
    clear hf2 hf3
    have z_0_0 := HX0.out.cell (i := 0) rfl
    have z_0_1 := HX0.out.cell (i := 1) rfl
    have z_0_2 := HX0.out.cell (i := 2) rfl
    have z_1_0 := HZ1.out.cell (i := 0) rfl
    have z_1_1 := HZ1.out.cell (i := 1) rfl
    have z_1_2 := HZ1.out.cell (i := 2) rfl
    try (go_wp2_with fail)
    clear z_0_0
    clear z_0_1
    clear z_0_2
    refine wp_region_noPanic ?_
    refine wp_region_V (fun w' => w'.cell? ⟨u1.heap.size, 0, none⟩ = some (.int .i64 P) ∧ w'.cell? ⟨u1.heap.size, 1, none⟩ = some (.int .i64 Q) ∧ w'.cell? ⟨u1.heap.size, 2, none⟩ = some (.int .i64 G)) 11 7 (.rd 0 (.rd 1 (.rd 2 (.rd 3 (.rd 4 (.alt 5 (.alt 6 .done .nil) .nil)))))) [7, 8] (by kernel_rfl) (by kernel_rfl) rfl (fun _ _ _ _ _ h => h) ⟨box_at z_1_0 (Below.refl _ _).drew, box_at z_1_1 (Below.refl _ _).drew, box_at z_1_2 (Below.refl _ _).drew⟩ ?_
    simp only [pickV, pickN, List.getElem?_cons_zero, List.getElem?_cons_succ]
    repeat (refine' wpV_read _ (by kernel_rfl) (fun w' hS' => ?_) ?_; rotate_left; · ((try dsimp only at hS'); go_simp; (try with_reducible rfl)); (try simp only [Act.put, List.setIfInBounds_toArray, List.set_cons_zero, List.set_cons_succ]))
    have hdr : Below u3.heap.size u3 u3.drew := (Below.refl _ _).drew
    have hszd := hdr.size
    replace HX0 := Lib.hid (HX0.out.below hdr)
    replace HZ1 := Lib.hid (HZ1.out.below hdr)
    replace HL3 := Lib.hid (HL3.out.below hdr)
    replace HW := Lib.hid (HW.out.trans (Within.of_below hdr))
    replace HC := Lib.hid (HC.out.keep hdr)
    clear hdr
    refine wpV_do (by kernel_rfl) (fun K hK => ?_)
    -- 5: call
    go_simp
    go_at_call 85
    refine (spec_anyCoins U g _ P Q G r0n _ HC.out (HW.out.belowOf HUC.out (Nat.le_of_eq HUS.out)) (by omega) HGR.out (by omega)).mono ?_
    rintro e ut1 ⟨⟨vt1, lt1, rfl, hst1, hlt1⟩, hc, hw⟩
    have HLt1 := Lib.hid hst1
    obtain ⟨at1, nt1, ct1, rfl⟩ := hst1.here.shape
    have hnt1 : nt1 ≤ 4 := by have h1 := hst1.here.len; omega
    have HEt1 := Lib.hid hst1.here.len
    clear hst1
    have hszt1 := hw.size
    replace HX0 := Lib.hid (HX0.out.kept hw (.inl (by omega)))
    replace HZ1 := Lib.hid (HZ1.out.kept hw (.inr (by omega)))
    replace HL3 := Lib.hid (HL3.out.within hw (by omega))
    replace HW := Lib.hid (HW.out.trans hw)
    replace HC := Lib.hid hc
    clear hc hw
    clear z_1_0 z_1_1 z_1_2
    have z_1_0 := HZ1.out.cell (i := 0) rfl
    have z_1_1 := HZ1.out.cell (i := 1) rfl
    have z_1_2 := HZ1.out.cell (i := 2) rfl
    refine hK.out _ _ ⟨z_1_0, z_1_1, z_1_2⟩ (fun _ => ?_)
    clear hK K
    (try simp only [Act.put, List.setIfInBounds_toArray, List.set_cons_zero, List.set_cons_succ])
    refine wpV_do (by kernel_rfl) (fun K hK => ?_)
    -- 6: store
    have r0 := HX0.out.cell (i := 0) rfl
    have r1 := HX0.out.cell (i := 1) rfl
    have r2 := HX0.out.cell (i := 2) rfl
    have fr := fun j => HX0.out.frozen j
    obtain ⟨Y2, hY⟩ : ∃ Y, Y = ((ut1.setCell ⟨w.heap.size, 0, none⟩ (.int .i64 P)).setCell ⟨w.heap.size, 1, none⟩ (.int .i64 Q)).setCell ⟨w.heap.size, 2, none⟩ (.int .i64 G) := ⟨_, rfl⟩
    have hYl : Within (w.heap.size) (w.heap.size + 1) ut1 Y2 := by rw [hY]; exact ((((Within.refl (w.heap.size) (w.heap.size + 1) ut1).setCell (b := w.heap.size) (by omega) (by omega) 0 (.int .i64 P)).setCell (b := w.heap.size) (by omega) (by omega) 1 (.int .i64 Q)).setCell (b := w.heap.size) (by omega) (by omega) 2 (.int .i64 G))
    have HYW : Hid (Within w.heap.size (w.heap.size + 1) ut1 Y2) := hYl.mono (by omega) (by omega)
    have HYB : Hid (Below w.heap.size w Y2) := hYl.belowU (HW.out.belowOf HBW.out (by omega)) (by omega)
    have HCS : Hid (∀ w', Within w.heap.size (w.heap.size + 1) ut1 w' → w'.cell? ⟨u1.heap.size, 0, none⟩ = some (.int .i64 P) ∧ w'.cell? ⟨u1.heap.size, 1, none⟩ = some (.int .i64 Q) ∧ w'.cell? ⟨u1.heap.size, 2, none⟩ = some (.int .i64 G)) := fun w' h => ⟨within_at h z_1_0 (by omega), within_at h z_1_1 (by omega), within_at h z_1_2 (by omega)⟩
    go_simp
    refine hK.out _ _ ?_ (fun _ => ?_)
    · rw [← hY]; exact HCS.out _ HYW.out
    rw [← hY]
    clear hK K fr r0 r1 r2
    replace HX0 : Hid (BoxN Y2 w.heap.size 25 [.int .i64 P, .int .i64 Q, .int .i64 G]) := by unfold Hid; rw [hY]; exact (((HX0.out.set 0 (.int .i64 P)).set 1 (.int .i64 Q)).set 2 (.int .i64 G))
    clear hY hYl
    (try simp only [Act.put, List.setIfInBounds_toArray, List.set_cons_zero, List.set_cons_succ])
    clear z_1_0 z_1_1 z_1_2
    obtain ⟨z_1_0, z_1_1, z_1_2⟩ := HCS.out _ HYW.out
    refine wpV_done ?_
    go_wp2_with fail
    refine NoPanic.normal ?_
    clear z_1_0 z_1_1 z_1_2
    have t_HX0_0 := HX0.out.cell (i := 0) rfl
    have t_HX0_1 := HX0.out.cell (i := 1) rfl
    have t_HX0_2 := HX0.out.cell (i := 2) rfl
    try (go_wp2_with fail)
    refine bodyPost_ret (v := .tuple #[.agg #[.int .i64 P, .int .i64 Q, .int .i64 G], .slice (some ⟨bb, bo, none⟩) n3 c3, .slice at1 nt1 ct1]) (by simp [results, Try.results130, go_sem, t_HX0_0, t_HX0_1, t_HX0_2]) rfl ⟨⟨_, _, _, _, _, _, _, rfl, HGR.out, ⟨(HL3.out.within HYW.out (by omega)).mono (by omega), by have := HE3.out; omega, HR3.out⟩, ⟨(HLt1.out.within HYW.out (by omega)).mono (by omega), by have := HEt1.out; omega⟩⟩, HYB.out⟩
  · have hdp : decide ((0 : Int) < (n3 : Int)) = false := decide_eq_false (by omega)
    have z_0_0 := HX0.out.cell (i := 0) rfl
    have z_0_1 := HX0.out.cell (i := 1) rfl
    have z_0_2 := HX0.out.cell (i := 2) rfl
    have z_1_0 := HZ1.out.cell (i := 0) rfl
    have z_1_1 := HZ1.out.cell (i := 1) rfl
    have z_1_2 := HZ1.out.cell (i := 2) rfl
    try (go_wp2_with fail)
    clear z_0_0
    clear z_0_1
    clear z_0_2
    refine wp_region_noPanic ?_
    refine wp_region_V (fun w' => w'.cell? ⟨u1.heap.size, 0, none⟩ = some (.int .i64 P) ∧ w'.cell? ⟨u1.heap.size, 1, none⟩ = some (.int .i64 Q) ∧ w'.cell? ⟨u1.heap.size, 2, none⟩ = some (.int .i64 G)) 11 7 (.rd 0 (.rd 1 (.rd 2 (.rd 3 (.rd 4 (.alt 5 (.alt 6 .done .nil) .nil)))))) [7, 8] (by kernel_rfl) (by kernel_rfl) rfl (fun _ _ _ _ _ h => h) ⟨box_at z_1_0 (Below.refl _ _).drew, box_at z_1_1 (Below.refl _ _).drew, box_at z_1_2 (Below.refl _ _).drew⟩ ?_
    simp only [pickV, pickN, List.getElem?_cons_zero, List.getElem?_cons_succ]
    repeat (refine' wpV_read _ (by kernel_rfl) (fun w' hS' => ?_) ?_; rotate_left; · ((try dsimp only at hS'); go_simp; (try with_reducible rfl)); (try simp only [Act.put, List.setIfInBounds_toArray, List.set_cons_zero, List.set_cons_succ]))
    have hdr : Below u3.heap.size u3 u3.drew := (Below.refl _ _).drew
    have hszd := hdr.size
    replace HX0 := Lib.hid (HX0.out.below hdr)
    replace HZ1 := Lib.hid (HZ1.out.below hdr)
    replace HL3 := Lib.hid (HL3.out.below hdr)
    replace HW := Lib.hid (HW.out.trans (Within.of_below hdr))
    replace HC := Lib.hid (HC.out.keep hdr)
    clear hdr
    refine wpV_do (by kernel_rfl) (fun K hK => ?_)
    -- 5: call
    go_simp
    go_at_call 85
    refine (spec_anyCoins U g _ P Q G 1 _ HC.out (HW.out.belowOf HUC.out (Nat.le_of_eq HUS.out)) (by omega) HGR.out (by omega)).mono ?_
    rintro e ut1 ⟨⟨vt1, lt1, rfl, hst1, hlt1⟩, hc, hw⟩
    have HLt1 := Lib.hid hst1
    obtain ⟨at1, nt1, ct1, rfl⟩ := hst1.here.shape
    have hnt1 : nt1 ≤ 4 := by have h1 := hst1.here.len; omega
    have HEt1 := Lib.hid hst1.here.len
    clear hst1
    have hszt1 := hw.size
    replace HX0 := Lib.hid (HX0.out.kept hw (.inl (by omega)))
    replace HZ1 := Lib.hid (HZ1.out.kept hw (.inr (by omega)))
    replace HL3 := Lib.hid (HL3.out.within hw (by omega))
    replace HW := Lib.hid (HW.out.trans hw)
    replace HC := Lib.hid hc
    clear hc hw
    clear z_1_0 z_1_1 z_1_2
    have z_1_0 := HZ1.out.cell (i := 0) rfl
    have z_1_1 := HZ1.out.cell (i := 1) rfl
    have z_1_2 := HZ1.out.cell (i := 2) rfl
    refine hK.out _ _ ⟨z_1_0, z_1_1, z_1_2⟩ (fun _ => ?_)
    clear hK K
    (try simp only [Act.put, List.setIfInBounds_toArray, List.set_cons_zero, List.set_cons_succ])
    refine wpV_do (by kernel_rfl) (fun K hK => ?_)
    -- 6: store
    have r0 := HX0.out.cell (i := 0) rfl
    have r1 := HX0.out.cell (i := 1) rfl
    have r2 := HX0.out.cell (i := 2) rfl
    have fr := fun j => HX0.out.frozen j
    obtain ⟨Y2, hY⟩ : ∃ Y, Y = ((ut1.setCell ⟨w.heap.size, 0, none⟩ (.int .i64 P)).setCell ⟨w.heap.size, 1, none⟩ (.int .i64 Q)).setCell ⟨w.heap.size, 2, none⟩ (.int .i64 G) := ⟨_, rfl⟩
    have hYl : Within (w.heap.size) (w.heap.size + 1) ut1 Y2 := by rw [hY]; exact ((((Within.refl (w.heap.size) (w.heap.size + 1) ut1).setCell (b := w.heap.size) (by omega) (by omega) 0 (.int .i64 P)).setCell (b := w.heap.size) (by omega) (by omega) 1 (.int .i64 Q)).setCell (b := w.heap.size) (by omega) (by omega) 2 (.int .i64 G))
    have HYW : Hid (Within w.heap.size (w.heap.size + 1) ut1 Y2) := hYl.mono (by omega) (by omega)
    have HYB : Hid (Below w.heap.size w Y2) := hYl.belowU (HW.out.belowOf HBW.out (by omega)) (by omega)
    have HCS : Hid (∀ w', Within w.heap.size (w.heap.size + 1) ut1 w' → w'.cell? ⟨u1.heap.size, 0, none⟩ = some (.int .i64 P) ∧ w'.cell? ⟨u1.heap.size, 1, none⟩ = some (.int .i64 Q) ∧ w'.cell? ⟨u1.heap.size, 2, none⟩ = some (.int .i64 G)) := fun w' h => ⟨within_at h z_1_0 (by omega), within_at h z_1_1 (by omega), within_at h z_1_2 (by omega)⟩
    go_simp
    refine hK.out _ _ ?_ (fun _ => ?_)
    · rw [← hY]; exact HCS.out _ HYW.out
    rw [← hY]
    clear hK K fr r0 r1 r2
    replace HX0 : Hid (BoxN Y2 w.heap.size 25 [.int .i64 P, .int .i64 Q, .int .i64 G]) := by unfold Hid; rw [hY]; exact (((HX0.out.set 0 (.int .i64 P)).set 1 (.int .i64 Q)).set 2 (.int .i64 G))
    clear hY hYl
    (try simp only [Act.put, List.setIfInBounds_toArray, List.set_cons_zero, List.set_cons_succ])
    clear z_1_0 z_1_1 z_1_2
    obtain ⟨z_1_0, z_1_1, z_1_2⟩ := HCS.out _ HYW.out
    refine wpV_done ?_
    go_wp2_with fail
    refine NoPanic.normal ?_
    clear z_1_0 z_1_1 z_1_2
    have t_HX0_0 := HX0.out.cell (i := 0) rfl
    have t_HX0_1 := HX0.out.cell (i := 1) rfl
    have t_HX0_2 := HX0.out.cell (i := 2) rfl
    try (go_wp2_with fail)
    refine bodyPost_ret (v := .tuple #[.agg #[.int .i64 P, .int .i64 Q, .int .i64 G], .slice a3 n3 c3, .slice at1 nt1 ct1]) (by simp [results, Try.results130, go_sem, t_HX0_0, t_HX0_1, t_HX0_2]) rfl ⟨⟨_, _, _, _, _, _, _, rfl, HGR.out, ⟨(HL3.out.within HYW.out (by omega)).mono (by omega), by have := HE3.out; omega, HR3.out⟩, ⟨(HLt1.out.within HYW.out (by omega)).mono (by omega), by have := HEt1.out; omega⟩⟩, HYB.out⟩
set_option maxRecDepth 100000 in
set_option maxHeartbeats 4000000 in
theorem spec_DrawProveLinearS (v : Value) (w : World) (h : Bytes w v) :
    Calls Try.prog 31 #[v] w fun e w' => (∃ (P : Int) (Q : Int) (G : Int) (sr1 : ByteArray) (vr2 : Value) (lr2 : List (List Int)) (vr3 : Value) (lr3 : List Int) (vr4 : Value) (lr4 : List Int), e = .returned (.tuple #[.agg #[.int .i64 P, .int .i64 Q, .int .i64 G], .string sr1, vr2, vr3, vr4]) ∧ GrB ⟨P, Q, G⟩ ∧ (sr1.size ≤ 100) ∧ (Since w.heap.size w' (fun z => RdL kInts z vr2 lr2) ∧ lr2.length ≤ 9 ∧ ∀ r ∈ lr2, r.length ≤ 3) ∧ (Since w.heap.size w' (fun z => Ints z vr3 lr3) ∧ lr3.length ≤ 4) ∧ (Since w.heap.size w' (fun z => Ints z vr4 lr4) ∧ lr4.length ≤ 5)) ∧ Below w.heap.size w w' := by
  obtain ⟨a, m, c, rfl, hk1, hk2, hv⟩ := h
  have HY : Hid (Bytes w (.slice a m c)) := ⟨a, m, c, rfl, hk1, hk2, hv⟩
  clear hv
  unfold maxLen at hk2
  obtain ⟨U, hU⟩ : ∃ U, U = w.alloc (.cells #[.int .i64 0, .int .i64 0, .int .i64 0] 25) := ⟨_, rfl⟩
  have hbU : Below w.heap.size w U := by rw [hU]; (repeat (first | exact Below.refl _ _ | assumption | refine Below.drew ?_ | refine Below.alloc ?_ (by first | (simp; done) | (simp; omega)) _ | refine Below.setCell ?_ (by first | (simp; done) | (simp; omega)) _))
  have HX0 : Hid (BoxN U w.heap.size 25 [.int .i64 0, .int .i64 0, .int .i64 0]) := by unfold Hid; rw [hU]; have h := (BoxN.new w [.int .i64 0, .int .i64 0, .int .i64 0] 25); simpa using h
  have hsU : U.heap.size = w.heap.size + 1 := by rw [hU]; simp
  obtain ⟨W, hW⟩ : ∃ W, W = U.alloc (.cells #[.slice a m c, .int .i64 0, .int .u64 0] 127) := ⟨_, rfl⟩
  have HC : Hid (Cur U W U.heap.size 0) := by unfold Hid; rw [hW]; exact Cur.new U (HY.out.below hbU)
  have hbW : Below U.heap.size U W := by rw [hW]; exact (Below.refl _ _).alloc (Nat.le_refl _) _
  have HBW := Lib.hid (Below.next hbU hbW)
  have HUB := Lib.hid hbW
  replace HX0 := Lib.hid (HX0.out.below hbW)
  obtain ⟨g, hg⟩ : ∃ g, g = U.heap.size := ⟨_, rfl⟩
  have HSU : Hid (w.heap.size + 1 = g) := by unfold Hid; rw [hg, hsU]
  have HWS : Hid (W.heap.size = g + 1) := by unfold Hid; rw [hW, hg]; simp
  go_enter Try.func31, Try.ntmps31
  go_wp2_with fail
  rw [← hU, ← hW]
  rw [HSU.out]
  rw [← hg] at HC HUB
  have HUS : Hid (U.heap.size = g) := hg.symm
  have hwg : w.heap.size + 1 = g := HSU.out
  have hsW := HWS.out
  have HW := Lib.hid (Within.refl g (g + 1) W)
  have HUC : Hid (Below U.heap.size U W) := by unfold Hid; rw [HUS.out]; exact HUB.out
  clear hU hW hbU hbW hsU hg
  have z_0_0 := HX0.out.cell (i := 0) rfl
  have z_0_1 := HX0.out.cell (i := 1) rfl
  have z_0_2 := HX0.out.cell (i := 2) rfl
  try (go_wp2_with fail)
  clear z_0_0 z_0_1 z_0_2
  refine (spec_DrawImagesOfS _ _ (HY.out.below (HW.out.belowOf HBW.out (by omega)))).mono ?_
  rintro e u1 ⟨⟨P, Q, G, v1b, l1b, v1c, l1c, rfl, hgr, ⟨hs1b, hl1b, hr1b⟩, ⟨hs1c, hl1c⟩⟩, hb⟩
  have HGR := Lib.hid hgr
  clear hgr
  have HR1b := Lib.hid hr1b
  clear hr1b
  have HL1b := Lib.hid hs1b
  obtain ⟨a1b, n1b, c1b, rfl⟩ := hs1b.here.shape
  have hn1b : n1b ≤ 9 := by have h1 := hs1b.here.len; omega
  have HE1b := Lib.hid hs1b.here.len
  clear hs1b
  have HL1c := Lib.hid hs1c
  obtain ⟨a1c, n1c, c1c, rfl⟩ := hs1c.here.shape
  have hn1c : n1c ≤ 4 := by have h1 := hs1c.here.len; omega
  have HE1c := Lib.hid hs1c.here.len
  clear hs1c
  have hsz1 := hb.size
  replace HX0 := Lib.hid (HX0.out.below hb)
  replace HW := Lib.hid (HW.out.trans (Within.of_below hb))
  replace HC := Lib.hid (HC.out.keep hb)
  clear hb
  have z_0_0 := HX0.out.cell (i := 0) rfl
  have z_0_1 := HX0.out.cell (i := 1) rfl
  have z_0_2 := HX0.out.cell (i := 2) rfl
  have lt_HX0 := HX0.out.lt
  obtain ⟨V2, hV⟩ : ∃ V, V = u1.alloc (.cells #[.int .i64 P, .int .i64 Q, .int .i64 G] 25) := ⟨_, rfl⟩
  have hbV : Below u1.heap.size u1 V2 := by rw [hV]; (repeat (first | exact Below.refl _ _ | assumption | refine Below.drew ?_ | refine Below.alloc ?_ (by first | (simp; done) | (simp; omega)) _ | refine Below.setCell ?_ (by first | (simp; done) | (simp; omega)) _))
  have HZ1 : Hid (BoxN V2 u1.heap.size 25 [.int .i64 P, .int .i64 Q, .int .i64 G]) := by unfold Hid; rw [hV]; have h := (BoxN.new u1 [.int .i64 P, .int .i64 Q, .int .i64 G] 25); simpa using h
  have hgc : g < u1.heap.size := HC.out.lt
  go_wp2_with fail
  rw [← hV]
  have hsV2 : V2.heap.size = u1.heap.size + 1 := by rw [hV]; simp
  clear hV hgc
  replace HX0 := Lib.hid (HX0.out.below hbV)
  replace HL1b := Lib.hid (HL1b.out.below hbV)
  replace HL1c := Lib.hid (HL1c.out.below hbV)
  replace HW := Lib.hid (HW.out.trans (Within.of_below hbV))
  replace HC := Lib.hid (HC.out.keep hbV)
  clear hbV
  clear z_0_0 z_0_1 z_0_2
  clear lt_HX0
  have z_0_0 := HX0.out.cell (i := 0) rfl
  have z_0_1 := HX0.out.cell (i := 1) rfl
  have z_0_2 := HX0.out.cell (i := 2) rfl
  have z_1_0 := HZ1.out.cell (i := 0) rfl
  have z_1_1 := HZ1.out.cell (i := 1) rfl
  have z_1_2 := HZ1.out.cell (i := 2) rfl
  clear z_0_0
  clear z_0_1
  clear z_0_2
  refine wp_region_noPanic ?_
  refine wp_region_V (fun w' => w'.cell? ⟨u1.heap.size, 0, none⟩ = some (.int .i64 P) ∧ w'.cell? ⟨u1.heap.size, 1, none⟩ = some (.int .i64 Q) ∧ w'.cell? ⟨u1.heap.size, 2, none⟩ = some (.int .i64 G)) 17 13 (.rd 0 (.rd 1 (.rd 3 (.rd 4 (.rd 5 (.rd 6 (.rd 7 (.rd 8 (.alt 2 (.alt 9 (.alt 10 (.alt 11 (.alt 12 .done .nil) .nil) .nil) .nil) .nil))))))))) [13, 14] (by kernel_rfl) (by kernel_rfl) rfl (fun _ _ _ _ _ h => h) ⟨box_at z_1_0 (Below.refl _ _).drew, box_at z_1_1 (Below.refl _ _).drew, box_at z_1_2 (Below.refl _ _).drew⟩ ?_
  simp only [pickV, pickN, List.getElem?_cons_zero, List.getElem?_cons_succ]
  repeat (refine' wpV_read _ (by kernel_rfl) (fun w' hS' => ?_) ?_; rotate_left; · ((try dsimp only at hS'); go_simp; (try with_reducible rfl)); (try simp only [Act.put, List.setIfInBounds_toArray, List.set_cons_zero, List.set_cons_succ]))
  have hdr : Below V2.heap.size V2 V2.drew := (Below.refl _ _).drew
  have hszd := hdr.size
  replace HX0 := Lib.hid (HX0.out.below hdr)
  replace HZ1 := Lib.hid (HZ1.out.below hdr)
  replace HL1b := Lib.hid (HL1b.out.below hdr)
  replace HL1c := Lib.hid (HL1c.out.below hdr)
  replace HW := Lib.hid (HW.out.trans (Within.of_below hdr))
  replace HC := Lib.hid (HC.out.keep hdr)
  clear hdr
  refine wpV_do (by kernel_rfl) (fun K hK => ?_)
  -- 2: call
  go_simp
  go_at_call 131
  refine (spec_label U g _ _ HC.out (HW.out.belowOf HUC.out (Nat.le_of_eq HUS.out)) (by omega)).mono ?_
  rintro e ut1 ⟨⟨st1, rfl, hzt1⟩, hc, hw⟩
  have hszt1 := hw.size
  replace HX0 := Lib.hid (HX0.out.kept hw (.inl (by omega)))
  replace HZ1 := Lib.hid (HZ1.out.kept hw (.inr (by omega)))
  replace HL1b := Lib.hid (HL1b.out.within hw (by omega))
  replace HL1c := Lib.hid (HL1c.out.within hw (by omega))
  replace HW := Lib.hid (HW.out.trans hw)
  replace HC := Lib.hid hc
  clear hc hw
  clear z_1_0 z_1_1 z_1_2
  have z_1_0 := HZ1.out.cell (i := 0) rfl
  have z_1_1 := HZ1.out.cell (i := 1) rfl
  have z_1_2 := HZ1.out.cell (i := 2) rfl
  refine hK.out _ _ ⟨z_1_0, z_1_1, z_1_2⟩ (fun _ => ?_)
  clear hK K
  (try simp only [Act.put, List.setIfInBounds_toArray, List.set_cons_zero, List.set_cons_succ])
  refine wpV_do (by kernel_rfl) (fun K hK => ?_)
  -- 9: call
  go_simp
  go_at_call 85
  refine (spec_anyCoins U g _ P Q G n1c _ HC.out (HW.out.belowOf HUC.out (Nat.le_of_eq HUS.out)) (by omega) HGR.out (by omega)).mono ?_
  rintro e ut2 ⟨⟨vt2, lt2, rfl, hst2, hlt2⟩, hc, hw⟩
  have HLt2 := Lib.hid hst2
  obtain ⟨at2, nt2, ct2, rfl⟩ := hst2.here.shape
  have hnt2 : nt2 ≤ 5 := by have h1 := hst2.here.len; omega
  have HEt2 := Lib.hid hst2.here.len
  clear hst2
  have hszt2 := hw.size
  replace HX0 := Lib.hid (HX0.out.kept hw (.inl (by omega)))
  replace HZ1 := Lib.hid (HZ1.out.kept hw (.inr (by omega)))
  replace HL1b := Lib.hid (HL1b.out.within hw (by omega))
  replace HL1c := Lib.hid (HL1c.out.within hw (by omega))
  replace HW := Lib.hid (HW.out.trans hw)
  replace HC := Lib.hid hc
  clear hc hw
  clear z_1_0 z_1_1 z_1_2
  have z_1_0 := HZ1.out.cell (i := 0) rfl
  have z_1_1 := HZ1.out.cell (i := 1) rfl
  have z_1_2 := HZ1.out.cell (i := 2) rfl
  refine hK.out _ _ ⟨z_1_0, z_1_1, z_1_2⟩ (fun _ => ?_)
  clear hK K
  (try simp only [Act.put, List.setIfInBounds_toArray, List.set_cons_zero, List.set_cons_succ])
  refine wpV_do (by kernel_rfl) (fun K hK => ?_)
  -- 10: store
  have r0 := HX0.out.cell (i := 0) rfl
  have r1 := HX0.out.cell (i := 1) rfl
  have r2 := HX0.out.cell (i := 2) rfl
  have fr := fun j => HX0.out.frozen j
  obtain ⟨Y3, hY⟩ : ∃ Y, Y = ((ut2.setCell ⟨w.heap.size, 0, none⟩ (.int .i64 P)).setCell ⟨w.heap.size, 1, none⟩ (.int .i64 Q)).setCell ⟨w.heap.size, 2, none⟩ (.int .i64 G) := ⟨_, rfl⟩
  have hYl : Within (w.heap.size) (w.heap.size + 1) ut2 Y3 := by rw [hY]; exact ((((Within.refl (w.heap.size) (w.heap.size + 1) ut2).setCell (b := w.heap.size) (by omega) (by omega) 0 (.int .i64 P)).setCell (b := w.heap.size) (by omega) (by omega) 1 (.int .i64 Q)).setCell (b := w.heap.size) (by omega) (by omega) 2 (.int .i64 G))
  have HYW : Hid (Within w.heap.size (w.heap.size + 1) ut2 Y3) := hYl.mono (by omega) (by omega)
  have HYB : Hid (Below w.heap.size w Y3) := hYl.belowU (HW.out.belowOf HBW.out (by omega)) (by omega)
  have HCS : Hid (∀ w', Within w.heap.size (w.heap.size + 1) ut2 w' → w'.cell? ⟨u1.heap.size, 0, none⟩ = some (.int .i64 P) ∧ w'.cell? ⟨u1.heap.size, 1, none⟩ = some (.int .i64 Q) ∧ w'.cell? ⟨u1.heap.size, 2, none⟩ = some (.int .i64 G)) := fun w' h => ⟨within_at h z_1_0 (by omega), within_at h z_1_1 (by omega), within_at h z_1_2 (by omega)⟩
  go_simp
  refine hK.out _ _ ?_ (fun _ => ?_)
  · rw [← hY]; exact HCS.out _ HYW.out
  rw [← hY]
  clear hK K fr r0 r1 r2
  replace HX0 : Hid (BoxN Y3 w.heap.size 25 [.int .i64 P, .int .i64 Q, .int .i64 G]) := by unfold Hid; rw [hY]; exact (((HX0.out.set 0 (.int .i64 P)).set 1 (.int .i64 Q)).set 2 (.int .i64 G))
  clear hY hYl
  (try simp only [Act.put, List.setIfInBounds_toArray, List.set_cons_zero, List.set_cons_succ])
  clear z_1_0 z_1_1 z_1_2
  obtain ⟨z_1_0, z_1_1, z_1_2⟩ := HCS.out _ HYW.out
  refine wpV_do (by kernel_rfl) (fun K hK => ?_)
  -- 11: load
  go_simp
  refine hK.out _ _ ⟨z_1_0, z_1_1, z_1_2⟩ (fun _ => ?_)
  clear hK K
  (try simp only [Act.put, List.setIfInBounds_toArray, List.set_cons_zero, List.set_cons_succ])
  refine wpV_do (by kernel_rfl) (fun K hK => ?_)
  -- 12: load
  go_simp
  refine hK.out _ _ ⟨z_1_0, z_1_1, z_1_2⟩ (fun _ => ?_)
  clear hK K
  (try simp only [Act.put, List.setIfInBounds_toArray, List.set_cons_zero, List.set_cons_succ])
  refine wpV_done ?_
  go_wp2_with fail
  refine NoPanic.normal ?_
  clear z_1_0 z_1_1 z_1_2
  have t_HX0_0 := HX0.out.cell (i := 0) rfl
  have t_HX0_1 := HX0.out.cell (i := 1) rfl
  have t_HX0_2 := HX0.out.cell (i := 2) rfl
  try (go_wp2_with fail)
  refine bodyPost_ret (v := .tuple #[.agg #[.int .i64 P, .int .i64 Q, .int .i64 G], .string st1, .slice a1b n1b c1b, .slice a1c n1c c1c, .slice at2 nt2 ct2]) (by simp [results, Try.results31, go_sem, t_HX0_0, t_HX0_1, t_HX0_2]) rfl ⟨⟨_, _, _, _, _, _, _, _, _, _, rfl, HGR.out, hzt1, ⟨(HL1b.out.within HYW.out (by omega)).mono (by omega), by have := HE1b.out; omega, HR1b.out⟩, ⟨(HL1c.out.within HYW.out (by omega)).mono (by omega), by have := HE1c.out; omega⟩, ⟨(HLt2.out.within HYW.out (by omega)).mono (by omega), by have := HEt2.out; omega⟩⟩, HYB.out⟩
set_option maxRecDepth 100000 in
set_option maxHeartbeats 4000000 in
theorem spec_DrawVerifyLinear (v : Value) (w : World) (h : Bytes w v) :
    Calls Try.prog 34 #[v] w fun e w' => (∃ (P : Int) (Q : Int) (G : Int) (sr1 : ByteArray) (vr2 : Value) (lr2 : List (List Int)) (vr3 : Value) (lr3 : List Int) (vr4a : Value) (vr4b : Value) (vr4c : Value) (lr4a : List Int) (lr4b : List Int) (lr4c : List Int), e = .returned (.tuple #[.agg #[.int .i64 P, .int .i64 Q, .int .i64 G], .string sr1, vr2, vr3, .agg #[vr4a, vr4b, vr4c]]) ∧ GrB ⟨P, Q, G⟩ ∧ (sr1.size ≤ 100) ∧ (RdL kInts w' vr2 lr2 ∧ lr2.length ≤ 9 ∧ ∀ r ∈ lr2, r.length ≤ 3) ∧ (Ints w' vr3 lr3 ∧ lr3.length ≤ 8) ∧ (Ints w' vr4a lr4a ∧ lr4a.length ≤ 31) ∧ (Ints w' vr4b lr4b ∧ lr4b.length ≤ 31) ∧ (Ints w' vr4c lr4c ∧ lr4c.length ≤ 31)) ∧ Below w.heap.size w w' := by
  obtain ⟨a, m, c, rfl, hk1, hk2, hv⟩ := h
  have HY : Hid (Bytes w (.slice a m c)) := ⟨a, m, c, rfl, hk1, hk2, hv⟩
  clear hv
  unfold maxLen at hk2
  obtain ⟨U, hU⟩ : ∃ U, U = (w.alloc (.cells #[.int .i64 0, .int .i64 0, .int .i64 0] 25)).alloc (.cells #[(.slice none 0 0), (.slice none 0 0), (.slice none 0 0)] 63) := ⟨_, rfl⟩
  have hbU : Below w.heap.size w U := by rw [hU]; (repeat (first | exact Below.refl _ _ | assumption | refine Below.drew ?_ | refine Below.alloc ?_ (by first | (simp; done) | (simp; omega)) _ | refine Below.setCell ?_ (by first | (simp; done) | (simp; omega)) _))
  have HX0 : Hid (BoxN U w.heap.size 25 [.int .i64 0, .int .i64 0, .int .i64 0]) := by unfold Hid; rw [hU]; have h := ((BoxN.new w [.int .i64 0, .int .i64 0, .int .i64 0] 25).alloc (.cells #[(.slice none 0 0), (.slice none 0 0), (.slice none 0 0)] 63)); simpa using h
  have HX1 : Hid (BoxN U (w.heap.size + 1) 63 [(.slice none 0 0), (.slice none 0 0), (.slice none 0 0)]) := by unfold Hid; rw [hU]; have h := (BoxN.new (w.alloc (.cells #[.int .i64 0, .int .i64 0, .int .i64 0] 25)) [(.slice none 0 0), (.slice none 0 0), (.slice none 0 0)] 63); simpa using h
  have hsU : U.heap.size = w.heap.size + 1 + 1 := by rw [hU]; simp
  obtain ⟨W, hW⟩ : ∃ W, W = U.alloc (.cells #[.slice a m c, .int .i64 0, .int .u64 0] 127) := ⟨_, rfl⟩
  have HC : Hid (Cur U W U.heap.size 0) := by unfold Hid; rw [hW]; exact Cur.new U (HY.out.below hbU)
  have hbW : Below U.heap.size U W := by rw [hW]; exact (Below.refl _ _).alloc (Nat.le_refl _) _
  have HBW := Lib.hid (Below.next hbU hbW)
  have HUB := Lib.hid hbW
  replace HX0 := Lib.hid (HX0.out.below hbW)
  replace HX1 := Lib.hid (HX1.out.below hbW)
  obtain ⟨g, hg⟩ : ∃ g, g = U.heap.size := ⟨_, rfl⟩
  have HSU : Hid (w.heap.size + 1 + 1 = g) := by unfold Hid; rw [hg, hsU]
  have HWS : Hid (W.heap.size = g + 1) := by unfold Hid; rw [hW, hg]; simp
  go_enter Try.func34, Try.ntmps34
  go_wp2_with fail
  rw [← hU, ← hW]
  rw [HSU.out]
  rw [← hg] at HC HUB
  have HUS : Hid (U.heap.size = g) := hg.symm
  have hwg : w.heap.size + 2 = g := HSU.out
  have hsW := HWS.out
  have HW := Lib.hid (Within.refl g (g + 1) W)
  have HUC : Hid (Below U.heap.size U W) := by unfold Hid; rw [HUS.out]; exact HUB.out
  clear hU hW hbU hbW hsU hg
  have z_0_0 := HX0.out.cell (i := 0) rfl
  have z_0_1 := HX0.out.cell (i := 1) rfl
  have z_0_2 := HX0.out.cell (i := 2) rfl
  have z_1_0 := HX1.out.cell (i := 0) rfl
  have z_1_1 := HX1.out.cell (i := 1) rfl
  have z_1_2 := HX1.out.cell (i := 2) rfl
  try (go_wp2_with fail)
  clear z_0_0 z_0_1 z_0_2 z_1_0 z_1_1 z_1_2
  refine (spec_DrawProveLinearS _ _ (HY.out.below (HW.out.belowOf HBW.out (by omega)))).mono ?_
  rintro e u1 ⟨⟨P, Q, G, s1b, v1c, l1c, v1d, l1d, v1e, l1e, rfl, hgr, hz1b, ⟨hs1c, hl1c, hr1c⟩, ⟨hs1d, hl1d⟩, ⟨hs1e, hl1e⟩⟩, hb⟩
  have HGR := Lib.hid hgr
  clear hgr
  have HR1c := Lib.hid hr1c
  clear hr1c
  have HL1c := Lib.hid hs1c
  obtain ⟨a1c, n1c, c1c, rfl⟩ := hs1c.here.shape
  have hn1c : n1c ≤ 9 := by have h1 := hs1c.here.len; omega
  have HE1c := Lib.hid hs1c.here.len
  clear hs1c
  have HL1d := Lib.hid hs1d
  obtain ⟨a1d, n1d, c1d, rfl⟩ := hs1d.here.shape
  have hn1d : n1d ≤ 4 := by have h1 := hs1d.here.len; omega
  have HE1d := Lib.hid hs1d.here.len
  clear hs1d
  have HL1e := Lib.hid hs1e
  obtain ⟨a1e, n1e, c1e, rfl⟩ := hs1e.here.shape
  have hn1e : n1e ≤ 5 := by have h1 := hs1e.here.len; omega
  have HE1e := Lib.hid hs1e.here.len
  clear hs1e
  have hsz1 := hb.size
  replace HX0 := Lib.hid (HX0.out.below hb)
  replace HX1 := Lib.hid (HX1.out.below hb)
  replace HW := Lib.hid (HW.out.trans (Within.of_below hb))
  replace HC := Lib.hid (HC.out.keep hb)
  clear hb
  have z_0_0 := HX0.out.cell (i := 0) rfl
  have z_0_1 := HX0.out.cell (i := 1) rfl
  have z_0_2 := HX0.out.cell (i := 2) rfl
  have z_1_0 := HX1.out.cell (i := 0) rfl
  have z_1_1 := HX1.out.cell (i := 1) rfl
  have z_1_2 := HX1.out.cell (i := 2) rfl
  have lt_HX0 := HX0.out.lt
  have lt_HX1 := HX1.out.lt
  obtain ⟨V2, hV⟩ : ∃ V, V = u1.alloc (.cells #[.int .i64 P, .int .i64 Q, .int .i64 G] 25) := ⟨_, rfl⟩
  have hbV : Below u1.heap.size u1 V2 := by rw [hV]; (repeat (first | exact Below.refl _ _ | assumption | refine Below.drew ?_ | refine Below.alloc ?_ (by first | (simp; done) | (simp; omega)) _ | refine Below.setCell ?_ (by first | (simp; done) | (simp; omega)) _))
  have HZ1 : Hid (BoxN V2 u1.heap.size 25 [.int .i64 P, .int .i64 Q, .int .i64 G]) := by unfold Hid; rw [hV]; have h := (BoxN.new u1 [.int .i64 P, .int .i64 Q, .int .i64 G] 25); simpa using h
  have hgc : g < u1.heap.size := HC.out.lt
  go_wp2_with fail
  rw [← hV]
  have hsV2 : V2.heap.size = u1.heap.size + 1 := by rw [hV]; simp
  clear hV hgc
  replace HX0 := Lib.hid (HX0.out.below hbV)
  replace HX1 := Lib.hid (HX1.out.below hbV)
  replace HL1c := Lib.hid (HL1c.out.below hbV)
  replace HL1d := Lib.hid (HL1d.out.below hbV)
  replace HL1e := Lib.hid (HL1e.out.below hbV)
  replace HW := Lib.hid (HW.out.trans (Within.of_below hbV))
  replace HC := Lib.hid (HC.out.keep hbV)
  clear hbV
  clear z_0_0 z_0_1 z_0_2 z_1_0 z_1_1 z_1_2
  clear lt_HX0
  clear lt_HX1
  refine (spec_ProveLinear ⟨P, Q, G⟩ s1b _ l1c _ l1d _ l1e _ (by omega) HL1c.out.here HL1d.out.here HL1e.out.here).mono ?_
  rintro e u3 ⟨⟨v3a, v3b, v3c, rfl, o3a, o3b, o3c⟩, hb⟩
  obtain ⟨n3a, n3b, n3c⟩ := plD_len ⟨P, Q, G⟩ s1b l1c l1d l1e
  obtain ⟨q3q, hq3q⟩ : ∃ r, plB ⟨P, Q, G⟩ s1b l1c l1d l1e = r := ⟨_, rfl⟩
  have Hq3q := Lib.hid hq3q
  rw [hq3q]
  clear hq3q
  obtain ⟨l3a, hl3a⟩ : ∃ l, (plD ⟨P, Q, G⟩ s1b l1c l1d l1e).c = l := ⟨_, rfl⟩
  rw [hl3a] at o3a n3a
  clear hl3a
  obtain ⟨a3a, n3a_, c3a, rfl⟩ := o3a.ints.shape
  have HE3a := Lib.hid o3a.ints.len
  have HL3a : Hid (Since V2.heap.size u3 (fun z => Ints z (.slice a3a n3a_ c3a) l3a)) := Since.of_ownI o3a (Nat.le_refl _)
  clear o3a
  obtain ⟨l3b, hl3b⟩ : ∃ l, (plD ⟨P, Q, G⟩ s1b l1c l1d l1e).h = l := ⟨_, rfl⟩
  rw [hl3b] at o3b n3b
  clear hl3b
  obtain ⟨a3b, n3b_, c3b, rfl⟩ := o3b.ints.shape
  have HE3b := Lib.hid o3b.ints.len
  have HL3b : Hid (Since V2.heap.size u3 (fun z => Ints z (.slice a3b n3b_ c3b) l3b)) := Since.of_ownI o3b (Nat.le_refl _)
  clear o3b
  obtain ⟨l3c, hl3c⟩ : ∃ l, (plD ⟨P, Q, G⟩ s1b l1c l1d l1e).r = l := ⟨_, rfl⟩
  rw [hl3c] at o3c n3c
  clear hl3c
  obtain ⟨a3c, n3c_, c3c, rfl⟩ := o3c.ints.shape
  have HE3c := Lib.hid o3c.ints.len
  have HL3c : Hid (Since V2.heap.size u3 (fun z => Ints z (.slice a3c n3c_ c3c) l3c)) := Since.of_ownI o3c (Nat.le_refl _)
  clear o3c
  have hsz3 := hb.size
  replace HX0 := Lib.hid (HX0.out.below hb)
  replace HX1 := Lib.hid (HX1.out.below hb)
  replace HZ1 := Lib.hid (HZ1.out.below hb)
  replace HL1c := Lib.hid (HL1c.out.below hb)
  replace HL1d := Lib.hid (HL1d.out.below hb)
  replace HL1e := Lib.hid (HL1e.out.below hb)
  replace HW := Lib.hid (HW.out.trans (Within.of_below hb))
  replace HC := Lib.hid (HC.out.keep hb)
  clear hb
  have z_0_0 := HX0.out.cell (i := 0) rfl
  have z_0_1 := HX0.out.cell (i := 1) rfl
  have z_0_2 := HX0.out.cell (i := 2) rfl
  have z_1_0 := HX1.out.cell (i := 0) rfl
  have z_1_1 := HX1.out.cell (i := 1) rfl
  have z_1_2 := HX1.out.cell (i := 2) rfl
  have z_2_0 := HZ1.out.cell (i := 0) rfl
  have z_2_1 := HZ1.out.cell (i := 1) rfl
  have z_2_2 := HZ1.out.cell (i := 2) rfl
  have lt_HX0 := HX0.out.lt
  have lt_HX1 := HX1.out.lt
  have lt_HZ1 := HZ1.out.lt
  obtain ⟨V4, hV⟩ : ∃ V, V = u3.alloc (.cells #[.slice a3a n3a_ c3a, .slice a3b n3b_ c3b, .slice a3c n3c_ c3c] 63) := ⟨_, rfl⟩
  have hbV : Below u3.heap.size u3 V4 := by rw [hV]; (repeat (first | exact Below.refl _ _ | assumption | refine Below.drew ?_ | refine Below.alloc ?_ (by first | (simp; done) | (simp; omega)) _ | refine Below.setCell ?_ (by first | (simp; done) | (simp; omega)) _))
  have HZ2 : Hid (BoxN V4 u3.heap.size 63 [.slice a3a n3a_ c3a, .slice a3b n3b_ c3b, .slice a3c n3c_ c3c]) := by unfold Hid; rw [hV]; have h := (BoxN.new u3 [.slice a3a n3a_ c3a, .slice a3b n3b_ c3b, .slice a3c n3c_ c3c] 63); simpa using h
  have hgc : g < u3.heap.size := HC.out.lt
  go_wp2_with fail
  rw [← hV]
  have hsV4 : V4.heap.size = u3.heap.size + 1 := by rw [hV]; simp
  clear hV hgc
  replace HX0 := Lib.hid (HX0.out.below hbV)
  replace HX1 := Lib.hid (HX1.out.below hbV)
  replace HZ1 := Lib.hid (HZ1.out.below hbV)
  replace HL1c := Lib.hid (HL1c.out.below hbV)
  replace HL1d := Lib.hid (HL1d.out.below hbV)
  replace HL1e := Lib.hid (HL1e.out.below hbV)
  replace HL3a := Lib.hid (HL3a.out.below hbV)
  replace HL3b := Lib.hid (HL3b.out.below hbV)
  replace HL3c := Lib.hid (HL3c.out.below hbV)
  replace HW := Lib.hid (HW.out.trans (Within.of_below hbV))
  replace HC := Lib.hid (HC.out.keep hbV)
  clear hbV
  clear z_0_0 z_0_1 z_0_2 z_1_0 z_1_1 z_1_2 z_2_0 z_2_1 z_2_2
  clear lt_HX0
  clear lt_HX1
  clear lt_HZ1
  refine (spec_ImagesOf ⟨P, Q, G⟩ _ l1c _ l1d _ HL1c.out.here HL1d.out.here).mono ?_
  rintro e u5 ⟨⟨v5, rfl, o5⟩, hb⟩
  have hn5x := ilR_len ⟨P, Q, G⟩ l1c l1d
  obtain ⟨q5q, hq5q⟩ : ∃ r, ilB ⟨P, Q, G⟩ l1c l1d = r := ⟨_, rfl⟩
  have Hq5q := Lib.hid hq5q
  rw [hq5q]
  clear hq5q
  obtain ⟨l5, hl5⟩ : ∃ l, ilR ⟨P, Q, G⟩ l1c l1d = l := ⟨_, rfl⟩
  rw [hl5] at o5 hn5x
  have HI5 := Lib.hid hl5
  clear hl5
  obtain ⟨a5, n5, c5, rfl⟩ := o5.ints.shape
  have HE5 := Lib.hid o5.ints.len
  have hn5 : n5 ≤ 8 := by have := HE5.out; omega
  have HL5o := Lib.hid o5
  clear o5
  replace HL1c : Hid (SinceT _ V4.heap.size u5 _) := SinceT.of HL1c.out hb ⟨Nat.le_refl _, hb.size⟩
  replace HL1d : Hid (SinceT _ V4.heap.size u5 _) := SinceT.of HL1d.out hb ⟨Nat.le_refl _, hb.size⟩
  replace HL1e : Hid (SinceT _ V4.heap.size u5 _) := SinceT.of HL1e.out hb ⟨Nat.le_refl _, hb.size⟩
  replace HL3a : Hid (SinceT _ V4.heap.size u5 _) := SinceT.of HL3a.out hb ⟨Nat.le_refl _, hb.size⟩
  replace HL3b : Hid (SinceT _ V4.heap.size u5 _) := SinceT.of HL3b.out hb ⟨Nat.le_refl _, hb.size⟩
  replace HL3c : Hid (SinceT _ V4.heap.size u5 _) := SinceT.of HL3c.out hb ⟨Nat.le_refl _, hb.size⟩
  have hsz5 := hb.size
  replace HX0 := Lib.hid (HX0.out.below hb)
  replace HX1 := Lib.hid (HX1.out.below hb)
  replace HZ1 := Lib.hid (HZ1.out.below hb)
  replace HZ2 := Lib.hid (HZ2.out.below hb)
  replace HW := Lib.hid (HW.out.trans (Within.of_below hb))
  replace HC := Lib.hid (HC.out.keep hb)
  clear hb
  cases q3q with
  | false =>
    have HL5 := Lib.hid (Since.of_ownI HL5o.out (Nat.le_refl _))
    clear HL5o
    have z_0_0 := HX0.out.cell (i := 0) rfl
    have z_0_1 := HX0.out.cell (i := 1) rfl
    have z_0_2 := HX0.out.cell (i := 2) rfl
    have z_1_0 := HX1.out.cell (i := 0) rfl
    have z_1_1 := HX1.out.cell (i := 1) rfl
    have z_1_2 := HX1.out.cell (i := 2) rfl
    have z_2_0 := HZ1.out.cell (i := 0) rfl
    have z_2_1 := HZ1.out.cell (i := 1) rfl
    have z_2_2 := HZ1.out.cell (i := 2) rfl
    have z_3_0 := HZ2.out.cell (i := 0) rfl
    have z_3_1 := HZ2.out.cell (i := 1) rfl
    have z_3_2 := HZ2.out.cell (i := 2) rfl
    try (go_wp2_with fail)
    clear z_0_0
    clear z_0_1
    clear z_0_2
    clear z_1_0
    clear z_1_1
    clear z_1_2
    refine wp_region_noPanic ?_
    refine wp_region_V (fun w' => w'.cell? ⟨u1.heap.size, 0, none⟩ = some (.int .i64 P) ∧ w'.cell? ⟨u1.heap.size, 1, none⟩ = some (.int .i64 Q) ∧ w'.cell? ⟨u1.heap.size, 2, none⟩ = some (.int .i64 G) ∧ w'.cell? ⟨u3.heap.size, 0, none⟩ = some (.slice a3a n3a_ c3a) ∧ w'.cell? ⟨u3.heap.size, 1, none⟩ = some (.slice a3b n3b_ c3b) ∧ w'.cell? ⟨u3.heap.size, 2, none⟩ = some (.slice a3c n3c_ c3c)) 15 13 (.rd 0 (.rd 1 (.rd 2 (.rd 3 (.rd 4 (.rd 5 (.rd 6 (.alt 7 (.alt 8 (.alt 9 (.alt 10 (.alt 11 (.alt 12 .done .nil) .nil) .nil) .nil) .nil) .nil)))))))) [] (by kernel_rfl) (by kernel_rfl) rfl (fun _ _ _ _ _ h => h) ⟨box_at z_2_0 (Below.refl _ _).drew, box_at z_2_1 (Below.refl _ _).drew, box_at z_2_2 (Below.refl _ _).drew, box_at z_3_0 (Below.refl _ _).drew, box_at z_3_1 (Below.refl _ _).drew, box_at z_3_2 (Below.refl _ _).drew⟩ ?_
    simp only [pickV, pickN, List.getElem?_cons_zero, List.getElem?_cons_succ]
    repeat (refine' wpV_read _ (by kernel_rfl) (fun w' hS' => ?_) ?_; rotate_left; · ((try dsimp only at hS'); go_simp; (try with_reducible rfl)); (try simp only [Act.put, List.setIfInBounds_toArray, List.set_cons_zero, List.set_cons_succ]))
    have hdr : Below u5.heap.size u5 u5.drew := (Below.refl _ _).drew
    have hszd := hdr.size
    replace HX0 := Lib.hid (HX0.out.below hdr)
    replace HX1 := Lib.hid (HX1.out.below hdr)
    replace HZ1 := Lib.hid (HZ1.out.below hdr)
    replace HZ2 := Lib.hid (HZ2.out.below hdr)
    replace HL1c := Lib.hid (HL1c.out.below hdr)
    replace HL1d := Lib.hid (HL1d.out.below hdr)
    replace HL1e := Lib.hid (HL1e.out.below hdr)
    replace HL3a := Lib.hid (HL3a.out.below hdr)
    replace HL3b := Lib.hid (HL3b.out.below hdr)
    replace HL3c := Lib.hid (HL3c.out.below hdr)
    replace HL5 := Lib.hid (HL5.out.below hdr)
    replace HW := Lib.hid (HW.out.trans (Within.of_below hdr))
    replace HC := Lib.hid (HC.out.keep hdr)
    clear hdr
    refine wpV_do (by kernel_rfl) (fun K hK => ?_)
    -- 7: call
    go_simp
    go_at_call 139
    refine (spec_bent U g _ P Q G _ _ _ l3a l3b l3c _ HC.out (HW.out.belowOf HUC.out (Nat.le_of_eq HUS.out)) (by omega) HGR.out HL3a.out.here HL3b.out.here HL3c.out.here (by have := HE3a.out; omega) (by have := HE3b.out; omega) (by have := HE3c.out; omega)).mono ?_
    rintro e ut1 ⟨⟨vt1a, vt1b, vt1c, lt1a, lt1b, lt1c, rfl, ⟨hst1a, hlt1a⟩, ⟨hst1b, hlt1b⟩, ⟨hst1c, hlt1c⟩⟩, hc, hw⟩
    have HLt1a := Lib.hid hst1a
    obtain ⟨at1a, nt1a, ct1a, rfl⟩ := hst1a.here.shape
    have hnt1a : nt1a ≤ 31 := by have h1 := hst1a.here.len; omega
    have HEt1a := Lib.hid hst1a.here.len
    clear hst1a
    have HLt1b := Lib.hid hst1b
    obtain ⟨at1b, nt1b, ct1b, rfl⟩ := hst1b.here.shape
    have hnt1b : nt1b ≤ 31 := by have h1 := hst1b.here.len; omega
    have HEt1b := Lib.hid hst1b.here.len
    clear hst1b
    have HLt1c := Lib.hid hst1c
    obtain ⟨at1c, nt1c, ct1c, rfl⟩ := hst1c.here.shape
    have hnt1c : nt1c ≤ 31 := by have h1 := hst1c.here.len; omega
    have HEt1c := Lib.hid hst1c.here.len
    clear hst1c
    have hszt1 := hw.size
    replace HX0 := Lib.hid (HX0.out.kept hw (.inl (by omega)))
    replace HX1 := Lib.hid (HX1.out.kept hw (.inl (by omega)))
    replace HZ1 := Lib.hid (HZ1.out.kept hw (.inr (by omega)))
    replace HZ2 := Lib.hid (HZ2.out.kept hw (.inr (by omega)))
    replace HL1c := Lib.hid (HL1c.out.within hw (by omega))
    replace HL1d := Lib.hid (HL1d.out.within hw (by omega))
    replace HL1e := Lib.hid (HL1e.out.within hw (by omega))
    replace HL3a := Lib.hid (HL3a.out.within hw (by omega))
    replace HL3b := Lib.hid (HL3b.out.within hw (by omega))
    replace HL3c := Lib.hid (HL3c.out.within hw (by omega))
    replace HL5 := Lib.hid (HL5.out.within hw (by omega))
    replace HW := Lib.hid (HW.out.trans hw)
    replace HC := Lib.hid hc
    clear hc hw
    clear z_2_0 z_2_1 z_2_2 z_3_0 z_3_1 z_3_2
    have z_2_0 := HZ1.out.cell (i := 0) rfl
    have z_2_1 := HZ1.out.cell (i := 1) rfl
    have z_2_2 := HZ1.out.cell (i := 2) rfl
    have z_3_0 := HZ2.out.cell (i := 0) rfl
    have z_3_1 := HZ2.out.cell (i := 1) rfl
    have z_3_2 := HZ2.out.cell (i := 2) rfl
    refine hK.out _ _ ⟨z_2_0, z_2_1, z_2_2, z_3_0, z_3_1, z_3_2⟩ (fun _ => ?_)
    clear hK K
    (try simp only [Act.put, List.setIfInBounds_toArray, List.set_cons_zero, List.set_cons_succ])
    refine wpV_do (by kernel_rfl) (fun K hK => ?_)
    -- 8: store
    have r0 := HX0.out.cell (i := 0) rfl
    have r1 := HX0.out.cell (i := 1) rfl
    have r2 := HX0.out.cell (i := 2) rfl
    have fr := fun j => HX0.out.frozen j
    obtain ⟨Y2, hY⟩ : ∃ Y, Y = ((ut1.setCell ⟨w.heap.size, 0, none⟩ (.int .i64 P)).setCell ⟨w.heap.size, 1, none⟩ (.int .i64 Q)).setCell ⟨w.heap.size, 2, none⟩ (.int .i64 G) := ⟨_, rfl⟩
    have hYl : Within (w.heap.size) (w.heap.size + 1) ut1 Y2 := by rw [hY]; exact ((((Within.refl (w.heap.size) (w.heap.size + 1) ut1).setCell (b := w.heap.size) (by omega) (by omega) 0 (.int .i64 P)).setCell (b := w.heap.size) (by omega) (by omega) 1 (.int .i64 Q)).setCell (b := w.heap.size) (by omega) (by omega) 2 (.int .i64 G))
    have HYW : Hid (Within w.heap.size (w.heap.size + 2) ut1 Y2) := hYl.mono (by omega) (by omega)
    have HYB : Hid (Below w.heap.size w Y2) := hYl.belowU (HW.out.belowOf HBW.out (by omega)) (by omega)
    have HCS : Hid (∀ w', Within w.heap.size (w.heap.size + 2) ut1 w' → w'.cell? ⟨u1.heap.size, 0, none⟩ = some (.int .i64 P) ∧ w'.cell? ⟨u1.heap.size, 1, none⟩ = some (.int .i64 Q) ∧ w'.cell? ⟨u1.heap.size, 2, none⟩ = some (.int .i64 G) ∧ w'.cell? ⟨u3.heap.size, 0, none⟩ = some (.slice a3a n3a_ c3a) ∧ w'.cell? ⟨u3.heap.size, 1, none⟩ = some (.slice a3b n3b_ c3b) ∧ w'.cell? ⟨u3.heap.size, 2, none⟩ = some (.slice a3c n3c_ c3c)) := fun w' h => ⟨within_at h z_2_0 (by omega), within_at h z_2_1 (by omega), within_at h z_2_2 (by omega), within_at h z_3_0 (by omega), within_at h z_3_1 (by omega), within_at h z_3_2 (by omega)⟩
    go_simp
    refine hK.out _ _ ?_ (fun _ => ?_)
    · rw [← hY]; exact HCS.out _ HYW.out
    rw [← hY]
    clear hK K fr r0 r1 r2
    replace HX0 : Hid (BoxN Y2 w.heap.size 25 [.int .i64 P, .int .i64 Q, .int .i64 G]) := by unfold Hid; rw [hY]; exact (((HX0.out.set 0 (.int .i64 P)).set 1 (.int .i64 Q)).set 2 (.int .i64 G))
    replace HX1 := Lib.hid (HX1.out.kept hYl (by omega))
    clear hY hYl
    (try simp only [Act.put, List.setIfInBounds_toArray, List.set_cons_zero, List.set_cons_succ])
    clear z_2_0 z_2_1 z_2_2 z_3_0 z_3_1 z_3_2
    obtain ⟨z_2_0, z_2_1, z_2_2, z_3_0, z_3_1, z_3_2⟩ := HCS.out _ HYW.out
    refine wpV_do (by kernel_rfl) (fun K hK => ?_)
    -- 9: load
    go_simp
    refine hK.out _ _ ⟨z_2_0, z_2_1, z_2_2, z_3_0, z_3_1, z_3_2⟩ (fun _ => ?_)
    clear hK K
    (try simp only [Act.put, List.setIfInBounds_toArray, List.set_cons_zero, List.set_cons_succ])
    refine wpV_do (by kernel_rfl) (fun K hK => ?_)
    -- 10: load
    go_simp
    refine hK.out _ _ ⟨z_2_0, z_2_1, z_2_2, z_3_0, z_3_1, z_3_2⟩ (fun _ => ?_)
    clear hK K
    (try simp only [Act.put, List.setIfInBounds_toArray, List.set_cons_zero, List.set_cons_succ])
    refine wpV_do (by kernel_rfl) (fun K hK => ?_)
    -- 11: load
    go_simp
    refine hK.out _ _ ⟨z_2_0, z_2_1, z_2_2, z_3_0, z_3_1, z_3_2⟩ (fun _ => ?_)
    clear hK K
    (try simp only [Act.put, List.setIfInBounds_toArray, List.set_cons_zero, List.set_cons_succ])
    refine wpV_do (by kernel_rfl) (fun K hK => ?_)
    -- 12: store
    have r0 := HX1.out.cell (i := 0) rfl
    have r1 := HX1.out.cell (i := 1) rfl
    have r2 := HX1.out.cell (i := 2) rfl
    have fr := fun j => HX1.out.frozen j
    obtain ⟨Y3, hY⟩ : ∃ Y, Y = ((Y2.setCell ⟨w.heap.size + 1, 0, none⟩ (.slice at1a nt1a ct1a)).setCell ⟨w.heap.size + 1, 1, none⟩ (.slice at1b nt1b ct1b)).setCell ⟨w.heap.size + 1, 2, none⟩ (.slice at1c nt1c ct1c) := ⟨_, rfl⟩
    have hYl : Within (w.heap.size + 1) (w.heap.size + 1 + 1) Y2 Y3 := by rw [hY]; exact ((((Within.refl (w.heap.size + 1) (w.heap.size + 1 + 1) Y2).setCell (b := w.heap.size + 1) (by omega) (by omega) 0 (.slice at1a nt1a ct1a)).setCell (b := w.heap.size + 1) (by omega) (by omega) 1 (.slice at1b nt1b ct1b)).setCell (b := w.heap.size + 1) (by omega) (by omega) 2 (.slice at1c nt1c ct1c))
    replace HYW := Lib.hid (HYW.out.trans (hYl.mono (by omega) (by omega)))
    replace HYB := Lib.hid (hYl.belowU HYB.out (by omega))
    go_simp
    refine hK.out _ _ ?_ (fun _ => ?_)
    · rw [← hY]; exact HCS.out _ HYW.out
    rw [← hY]
    clear hK K fr r0 r1 r2
    replace HX1 : Hid (BoxN Y3 (w.heap.size + 1) 63 [.slice at1a nt1a ct1a, .slice at1b nt1b ct1b, .slice at1c nt1c ct1c]) := by unfold Hid; rw [hY]; exact (((HX1.out.set 0 (.slice at1a nt1a ct1a)).set 1 (.slice at1b nt1b ct1b)).set 2 (.slice at1c nt1c ct1c))
    replace HX0 := Lib.hid (HX0.out.kept hYl (by omega))
    clear hY hYl
    (try simp only [Act.put, List.setIfInBounds_toArray, List.set_cons_zero, List.set_cons_succ])
    clear z_2_0 z_2_1 z_2_2 z_3_0 z_3_1 z_3_2
    obtain ⟨z_2_0, z_2_1, z_2_2, z_3_0, z_3_1, z_3_2⟩ := HCS.out _ HYW.out
    refine wpV_done ?_
    go_wp2_with fail
    refine NoPanic.normal ?_
    clear z_2_0 z_2_1 z_2_2 z_3_0 z_3_1 z_3_2
    have t_HX0_0 := HX0.out.cell (i := 0) rfl
    have t_HX0_1 := HX0.out.cell (i := 1) rfl
    have t_HX0_2 := HX0.out.cell (i := 2) rfl
    have t_HX1_0 := HX1.out.cell (i := 0) rfl
    have t_HX1_1 := HX1.out.cell (i := 1) rfl
    have t_HX1_2 := HX1.out.cell (i := 2) rfl
    try (go_wp2_with fail)
    refine bodyPost_ret (v := .tuple #[.agg #[.int .i64 P, .int .i64 Q, .int .i64 G], .string s1b, .slice a1c n1c c1c, .slice a5 n5 c5, .agg #[.slice at1a nt1a ct1a, .slice at1b nt1b ct1b, .slice at1c nt1c ct1c]]) (by simp [results, Try.results34, go_sem, t_HX0_0, t_HX0_1, t_HX0_2, t_HX1_0, t_HX1_1, t_HX1_2]) rfl ⟨⟨_, _, _, _, _, _, _, _, _, _, _, _, _, _, rfl, HGR.out, hz1b, ⟨(HL1c.out.within HYW.out (by omega)).here, by have := HE1c.out; omega, HR1c.out⟩, ⟨(HL5.out.within HYW.out (by omega)).here, by have := HE5.out; omega⟩, ⟨⟨(HLt1a.out.within HYW.out (by omega)).here, by have := HEt1a.out; omega⟩, ⟨(HLt1b.out.within HYW.out (by omega)).here, by have := HEt1b.out; omega⟩, ⟨(HLt1c.out.within HYW.out (by omega)).here, by have := HEt1c.out; omega⟩⟩⟩, HYB.out⟩
  | true =>
    have z_0_0 := HX0.out.cell (i := 0) rfl
    have z_0_1 := HX0.out.cell (i := 1) rfl
    have z_0_2 := HX0.out.cell (i := 2) rfl
    have z_1_0 := HX1.out.cell (i := 0) rfl
    have z_1_1 := HX1.out.cell (i := 1) rfl
    have z_1_2 := HX1.out.cell (i := 2) rfl
    have z_2_0 := HZ1.out.cell (i := 0) rfl
    have z_2_1 := HZ1.out.cell (i := 1) rfl
    have z_2_2 := HZ1.out.cell (i := 2) rfl
    have z_3_0 := HZ2.out.cell (i := 0) rfl
    have z_3_1 := HZ2.out.cell (i := 1) rfl
    have z_3_2 := HZ2.out.cell (i := 2) rfl
    try (go_wp2_with fail)
    clear z_0_0 z_0_1 z_0_2 z_1_0 z_1_1 z_1_2 z_2_0 z_2_1 z_2_2 z_3_0 z_3_1 z_3_2
    refine (spec_one U g _ 12 _ HC.out (HW.out.belowOf HUC.out (Nat.le_of_eq HUS.out)) (by omega) ).mono ?_
    rintro e u6 ⟨⟨b6, rfl⟩, hc, hw⟩
    have hsz6 := hw.size
    replace HX0 := Lib.hid (HX0.out.kept hw (.inl (by omega)))
    replace HX1 := Lib.hid (HX1.out.kept hw (.inl (by omega)))
    replace HZ1 := Lib.hid (HZ1.out.kept hw (.inr (by omega)))
    replace HZ2 := Lib.hid (HZ2.out.kept hw (.inr (by omega)))
    replace HL1c := Lib.hid (HL1c.out.within hw (by omega))
    replace HL1d := Lib.hid (HL1d.out.within hw (by omega))
    replace HL1e := Lib.hid (HL1e.out.within hw (by omega))
    replace HL3a := Lib.hid (HL3a.out.within hw (by omega))
    replace HL3b := Lib.hid (HL3b.out.within hw (by omega))
    replace HL3c := Lib.hid (HL3c.out.within hw (by omega))
    replace HL5o := Lib.hid (HL5o.out.within hw (by omega))
    replace HW := Lib.hid (HW.out.trans hw)
    replace HC := Lib.hid hc
    clear hc hw
    cases b6 with
    | false =>
      have HL5 := Lib.hid (Since.of_ownI HL5o.out (Nat.le_refl _))
      clear HL5o
      have z_0_0 := HX0.out.cell (i := 0) rfl
      have z_0_1 := HX0.out.cell (i := 1) rfl
      have z_0_2 := HX0.out.cell (i := 2) rfl
      have z_1_0 := HX1.out.cell (i := 0) rfl
      have z_1_1 := HX1.out.cell (i := 1) rfl
      have z_1_2 := HX1.out.cell (i := 2) rfl
      have z_2_0 := HZ1.out.cell (i := 0) rfl
      have z_2_1 := HZ1.out.cell (i := 1) rfl
      have z_2_2 := HZ1.out.cell (i := 2) rfl
      have z_3_0 := HZ2.out.cell (i := 0) rfl
      have z_3_1 := HZ2.out.cell (i := 1) rfl
      have z_3_2 := HZ2.out.cell (i := 2) rfl
      try (go_wp2_with fail)
      clear z_0_0
      clear z_0_1
      clear z_0_2
      clear z_1_0
      clear z_1_1
      clear z_1_2
      refine wp_region_noPanic ?_
      refine wp_region_V (fun w' => w'.cell? ⟨u1.heap.size, 0, none⟩ = some (.int .i64 P) ∧ w'.cell? ⟨u1.heap.size, 1, none⟩ = some (.int .i64 Q) ∧ w'.cell? ⟨u1.heap.size, 2, none⟩ = some (.int .i64 G) ∧ w'.cell? ⟨u3.heap.size, 0, none⟩ = some (.slice a3a n3a_ c3a) ∧ w'.cell? ⟨u3.heap.size, 1, none⟩ = some (.slice a3b n3b_ c3b) ∧ w'.cell? ⟨u3.heap.size, 2, none⟩ = some (.slice a3c n3c_ c3c)) 15 13 (.rd 0 (.rd 1 (.rd 2 (.rd 3 (.rd 4 (.rd 5 (.rd 6 (.alt 7 (.alt 8 (.alt 9 (.alt 10 (.alt 11 (.alt 12 .done .nil) .nil) .nil) .nil) .nil) .nil)))))))) [] (by kernel_rfl) (by kernel_rfl) rfl (fun _ _ _ _ _ h => h) ⟨box_at z_2_0 (Below.refl _ _).drew, box_at z_2_1 (Below.refl _ _).drew, box_at z_2_2 (Below.refl _ _).drew, box_at z_3_0 (Below.refl _ _).drew, box_at z_3_1 (Below.refl _ _).drew, box_at z_3_2 (Below.refl _ _).drew⟩ ?_
      simp only [pickV, pickN, List.getElem?_cons_zero, List.getElem?_cons_succ]
      repeat (refine' wpV_read _ (by kernel_rfl) (fun w' hS' => ?_) ?_; rotate_left; · ((try dsimp only at hS'); go_simp; (try with_reducible rfl)); (try simp only [Act.put, List.setIfInBounds_toArray, List.set_cons_zero, List.set_cons_succ]))
      have hdr : Below u6.heap.size u6 u6.drew := (Below.refl _ _).drew
      have hszd := hdr.size
      replace HX0 := Lib.hid (HX0.out.below hdr)
      replace HX1 := Lib.hid (HX1.out.below hdr)
      replace HZ1 := Lib.hid (HZ1.out.below hdr)
      replace HZ2 := Lib.hid (HZ2.out.below hdr)
      replace HL1c := Lib.hid (HL1c.out.below hdr)
      replace HL1d := Lib.hid (HL1d.out.below hdr)
      replace HL1e := Lib.hid (HL1e.out.below hdr)
      replace HL3a := Lib.hid (HL3a.out.below hdr)
      replace HL3b := Lib.hid (HL3b.out.below hdr)
      replace HL3c := Lib.hid (HL3c.out.below hdr)
      replace HL5 := Lib.hid (HL5.out.below hdr)
      replace HW := Lib.hid (HW.out.trans (Within.of_below hdr))
      replace HC := Lib.hid (HC.out.keep hdr)
      clear hdr
      refine wpV_do (by kernel_rfl) (fun K hK => ?_)
      -- 7: call
      go_simp
      go_at_call 139
      refine (spec_bent U g _ P Q G _ _ _ l3a l3b l3c _ HC.out (HW.out.belowOf HUC.out (Nat.le_of_eq HUS.out)) (by omega) HGR.out HL3a.out.here HL3b.out.here HL3c.out.here (by have := HE3a.out; omega) (by have := HE3b.out; omega) (by have := HE3c.out; omega)).mono ?_
      rintro e ut1 ⟨⟨vt1a, vt1b, vt1c, lt1a, lt1b, lt1c, rfl, ⟨hst1a, hlt1a⟩, ⟨hst1b, hlt1b⟩, ⟨hst1c, hlt1c⟩⟩, hc, hw⟩
      have HLt1a := Lib.hid hst1a
      obtain ⟨at1a, nt1a, ct1a, rfl⟩ := hst1a.here.shape
      have hnt1a : nt1a ≤ 31 := by have h1 := hst1a.here.len; omega
      have HEt1a := Lib.hid hst1a.here.len
      clear hst1a
      have HLt1b := Lib.hid hst1b
      obtain ⟨at1b, nt1b, ct1b, rfl⟩ := hst1b.here.shape
      have hnt1b : nt1b ≤ 31 := by have h1 := hst1b.here.len; omega
      have HEt1b := Lib.hid hst1b.here.len
      clear hst1b
      have HLt1c := Lib.hid hst1c
      obtain ⟨at1c, nt1c, ct1c, rfl⟩ := hst1c.here.shape
      have hnt1c : nt1c ≤ 31 := by have h1 := hst1c.here.len; omega
      have HEt1c := Lib.hid hst1c.here.len
      clear hst1c
      have hszt1 := hw.size
      replace HX0 := Lib.hid (HX0.out.kept hw (.inl (by omega)))
      replace HX1 := Lib.hid (HX1.out.kept hw (.inl (by omega)))
      replace HZ1 := Lib.hid (HZ1.out.kept hw (.inr (by omega)))
      replace HZ2 := Lib.hid (HZ2.out.kept hw (.inr (by omega)))
      replace HL1c := Lib.hid (HL1c.out.within hw (by omega))
      replace HL1d := Lib.hid (HL1d.out.within hw (by omega))
      replace HL1e := Lib.hid (HL1e.out.within hw (by omega))
      replace HL3a := Lib.hid (HL3a.out.within hw (by omega))
      replace HL3b := Lib.hid (HL3b.out.within hw (by omega))
      replace HL3c := Lib.hid (HL3c.out.within hw (by omega))
      replace HL5 := Lib.hid (HL5.out.within hw (by omega))
      replace HW := Lib.hid (HW.out.trans hw)
      replace HC := Lib.hid hc
      clear hc hw
      clear z_2_0 z_2_1 z_2_2 z_3_0 z_3_1 z_3_2
      have z_2_0 := HZ1.out.cell (i := 0) rfl
      have z_2_1 := HZ1.out.cell (i := 1) rfl
      have z_2_2 := HZ1.out.cell (i := 2) rfl
      have z_3_0 := HZ2.out.cell (i := 0) rfl
      have z_3_1 := HZ2.out.cell (i := 1) rfl
      have z_3_2 := HZ2.out.cell (i := 2) rfl
      refine hK.out _ _ ⟨z_2_0, z_2_1, z_2_2, z_3_0, z_3_1, z_3_2⟩ (fun _ => ?_)
      clear hK K
      (try simp only [Act.put, List.setIfInBounds_toArray, List.set_cons_zero, List.set_cons_succ])
      refine wpV_do (by kernel_rfl) (fun K hK => ?_)
      -- 8: store
      have r0 := HX0.out.cell (i := 0) rfl
      have r1 := HX0.out.cell (i := 1) rfl
      have r2 := HX0.out.cell (i := 2) rfl
      have fr := fun j => HX0.out.frozen j
      obtain ⟨Y2, hY⟩ : ∃ Y, Y = ((ut1.setCell ⟨w.heap.size, 0, none⟩ (.int .i64 P)).setCell ⟨w.heap.size, 1, none⟩ (.int .i64 Q)).setCell ⟨w.heap.size, 2, none⟩ (.int .i64 G) := ⟨_, rfl⟩
      have hYl : Within (w.heap.size) (w.heap.size + 1) ut1 Y2 := by rw [hY]; exact ((((Within.refl (w.heap.size) (w.heap.size + 1) ut1).setCell (b := w.heap.size) (by omega) (by omega) 0 (.int .i64 P)).setCell (b := w.heap.size) (by omega) (by omega) 1 (.int .i64 Q)).setCell (b := w.heap.size) (by omega) (by omega) 2 (.int .i64 G))
      have HYW : Hid (Within w.heap.size (w.heap.size + 2) ut1 Y2) := hYl.mono (by omega) (by omega)
      have HYB : Hid (Below w.heap.size w Y2) := hYl.belowU (HW.out.belowOf HBW.out (by omega)) (by omega)
      have HCS : Hid (∀ w', Within w.heap.size (w.heap.size + 2) ut1 w' → w'.cell? ⟨u1.heap.size, 0, none⟩ = some (.int .i64 P) ∧ w'.cell? ⟨u1.heap.size, 1, none⟩ = some (.int .i64 Q) ∧ w'.cell? ⟨u1.heap.size, 2, none⟩ = some (.int .i64 G) ∧ w'.cell? ⟨u3.heap.size, 0, none⟩ = some (.slice a3a n3a_ c3a) ∧ w'.cell? ⟨u3.heap.size, 1, none⟩ = some (.slice a3b n3b_ c3b) ∧ w'.cell? ⟨u3.heap.size, 2, none⟩ = some (.slice a3c n3c_ c3c)) := fun w' h => ⟨within_at h z_2_0 (by omega), within_at h z_2_1 (by omega), within_at h z_2_2 (by omega), within_at h z_3_0 (by omega), within_at h z_3_1 (by omega), within_at h z_3_2 (by omega)⟩
      go_simp
      refine hK.out _ _ ?_ (fun _ => ?_)
      · rw [← hY]; exact HCS.out _ HYW.out
      rw [← hY]
      clear hK K fr r0 r1 r2
      replace HX0 : Hid (BoxN Y2 w.heap.size 25 [.int .i64 P, .int .i64 Q, .int .i64 G]) := by unfold Hid; rw [hY]; exact (((HX0.out.set 0 (.int .i64 P)).set 1 (.int .i64 Q)).set 2 (.int .i64 G))
      replace HX1 := Lib.hid (HX1.out.kept hYl (by omega))
      clear hY hYl
      (try simp only [Act.put, List.setIfInBounds_toArray, List.set_cons_zero, List.set_cons_succ])
      clear z_2_0 z_2_1 z_2_2 z_3_0 z_3_1 z_3_2
      obtain ⟨z_2_0, z_2_1, z_2_2, z_3_0, z_3_1, z_3_2⟩ := HCS.out _ HYW.out
      refine wpV_do (by kernel_rfl) (fun K hK => ?_)
      -- 9: load
      go_simp
      refine hK.out _ _ ⟨z_2_0, z_2_1, z_2_2, z_3_0, z_3_1, z_3_2⟩ (fun _ => ?_)
      clear hK K
      (try simp only [Act.put, List.setIfInBounds_toArray, List.set_cons_zero, List.set_cons_succ])
      refine wpV_do (by kernel_rfl) (fun K hK => ?_)
      -- 10: load
      go_simp
      refine hK.out _ _ ⟨z_2_0, z_2_1, z_2_2, z_3_0, z_3_1, z_3_2⟩ (fun _ => ?_)
      clear hK K
      (try simp only [Act.put, List.setIfInBounds_toArray, List.set_cons_zero, List.set_cons_succ])
      refine wpV_do (by kernel_rfl) (fun K hK => ?_)
      -- 11: load
      go_simp
      refine hK.out _ _ ⟨z_2_0, z_2_1, z_2_2, z_3_0, z_3_1, z_3_2⟩ (fun _ => ?_)
      clear hK K
      (try simp only [Act.put, List.setIfInBounds_toArray, List.set_cons_zero, List.set_cons_succ])
      refine wpV_do (by kernel_rfl) (fun K hK => ?_)
      -- 12: store
      have r0 := HX1.out.cell (i := 0) rfl
      have r1 := HX1.out.cell (i := 1) rfl
      have r2 := HX1.out.cell (i := 2) rfl
      have fr := fun j => HX1.out.frozen j
      obtain ⟨Y3, hY⟩ : ∃ Y, Y = ((Y2.setCell ⟨w.heap.size + 1, 0, none⟩ (.slice at1a nt1a ct1a)).setCell ⟨w.heap.size + 1, 1, none⟩ (.slice at1b nt1b ct1b)).setCell ⟨w.heap.size + 1, 2, none⟩ (.slice at1c nt1c ct1c) := ⟨_, rfl⟩
      have hYl : Within (w.heap.size + 1) (w.heap.size + 1 + 1) Y2 Y3 := by rw [hY]; exact ((((Within.refl (w.heap.size + 1) (w.heap.size + 1 + 1) Y2).setCell (b := w.heap.size + 1) (by omega) (by omega) 0 (.slice at1a nt1a ct1a)).setCell (b := w.heap.size + 1) (by omega) (by omega) 1 (.slice at1b nt1b ct1b)).setCell (b := w.heap.size + 1) (by omega) (by omega) 2 (.slice at1c nt1c ct1c))
      replace HYW := Lib.hid (HYW.out.trans (hYl.mono (by omega) (by omega)))
      replace HYB := Lib.hid (hYl.belowU HYB.out (by omega))
      go_simp
      refine hK.out _ _ ?_ (fun _ => ?_)
      · rw [← hY]; exact HCS.out _ HYW.out
      rw [← hY]
      clear hK K fr r0 r1 r2
      replace HX1 : Hid (BoxN Y3 (w.heap.size + 1) 63 [.slice at1a nt1a ct1a, .slice at1b nt1b ct1b, .slice at1c nt1c ct1c]) := by unfold Hid; rw [hY]; exact (((HX1.out.set 0 (.slice at1a nt1a ct1a)).set 1 (.slice at1b nt1b ct1b)).set 2 (.slice at1c nt1c ct1c))
      replace HX0 := Lib.hid (HX0.out.kept hYl (by omega))
      clear hY hYl
      (try simp only [Act.put, List.setIfInBounds_toArray, List.set_cons_zero, List.set_cons_succ])
      clear z_2_0 z_2_1 z_2_2 z_3_0 z_3_1 z_3_2
      obtain ⟨z_2_0, z_2_1, z_2_2, z_3_0, z_3_1, z_3_2⟩ := HCS.out _ HYW.out
      refine wpV_done ?_
      go_wp2_with fail
      refine NoPanic.normal ?_
      clear z_2_0 z_2_1 z_2_2 z_3_0 z_3_1 z_3_2
      have t_HX0_0 := HX0.out.cell (i := 0) rfl
      have t_HX0_1 := HX0.out.cell (i := 1) rfl
      have t_HX0_2 := HX0.out.cell (i := 2) rfl
      have t_HX1_0 := HX1.out.cell (i := 0) rfl
      have t_HX1_1 := HX1.out.cell (i := 1) rfl
      have t_HX1_2 := HX1.out.cell (i := 2) rfl
      try (go_wp2_with fail)
      refine bodyPost_ret (v := .tuple #[.agg #[.int .i64 P, .int .i64 Q, .int .i64 G], .string s1b, .slice a1c n1c c1c, .slice a5 n5 c5, .agg #[.slice at1a nt1a ct1a, .slice at1b nt1b ct1b, .slice at1c nt1c ct1c]]) (by simp [results, Try.results34, go_sem, t_HX0_0, t_HX0_1, t_HX0_2, t_HX1_0, t_HX1_1, t_HX1_2]) rfl ⟨⟨_, _, _, _, _, _, _, _, _, _, _, _, _, _, rfl, HGR.out, hz1b, ⟨(HL1c.out.within HYW.out (by omega)).here, by have := HE1c.out; omega, HR1c.out⟩, ⟨(HL5.out.within HYW.out (by omega)).here, by have := HE5.out; omega⟩, ⟨⟨(HLt1a.out.within HYW.out (by omega)).here, by have := HEt1a.out; omega⟩, ⟨(HLt1b.out.within HYW.out (by omega)).here, by have := HEt1b.out; omega⟩, ⟨(HLt1c.out.within HYW.out (by omega)).here, by have := HEt1c.out; omega⟩⟩⟩, HYB.out⟩
    | true =>
      have hpos : 0 < n5 := by have h := ilR_pos Hq3q.out; rw [HI5.out] at h; have := HE5.out; omega
      obtain ⟨rr, e, hrr, hlr, hrx⟩ := HL5o.out.at_ (by have := HE5.out; omega)
      cases e
      have z_0_0 := HX0.out.cell (i := 0) rfl
      have z_0_1 := HX0.out.cell (i := 1) rfl
      have z_0_2 := HX0.out.cell (i := 2) rfl
      have z_1_0 := HX1.out.cell (i := 0) rfl
      have z_1_1 := HX1.out.cell (i := 1) rfl
      have z_1_2 := HX1.out.cell (i := 2) rfl
      have z_2_0 := HZ1.out.cell (i := 0) rfl
      have z_2_1 := HZ1.out.cell (i := 1) rfl
      have z_2_2 := HZ1.out.cell (i := 2) rfl
      have z_3_0 := HZ2.out.cell (i := 0) rfl
      have z_3_1 := HZ2.out.cell (i := 1) rfl
      have z_3_2 := HZ2.out.cell (i := 2) rfl
      try (go_wp2_with fail)
      refine wp_region_noPanic ?_
      refine wp_region_Q (Within g (g + 1)) (DrawS U u6 g _ 1000000000 (fun w' => w'.cell? ⟨u1.heap.size, 0, none⟩ = some (.int .i64 P) ∧ w'.cell? ⟨u1.heap.size, 1, none⟩ = some (.int .i64 Q) ∧ w'.cell? ⟨u1.heap.size, 2, none⟩ = some (.int .i64 G) ∧ w'.cell? ⟨u3.heap.size, 0, none⟩ = some (.slice a3a n3a_ c3a) ∧ w'.cell? ⟨u3.heap.size, 1, none⟩ = some (.slice a3b n3b_ c3b) ∧ w'.cell? ⟨u3.heap.size, 2, none⟩ = some (.slice a3c n3c_ c3c))) 12 [(0, []), (1, []), (2, []), (3, [0]), (4, [2, 0]), (5, []), (6, []), (7, [1, 0]), (8, [7, 3])] [9] (by kernel_rfl) (by kernel_rfl) (by kernel_rfl) rfl (fun _ _ _ _ h => h) (DrawS.good _ _ _ _ _ _) ⟨(Within.refl _ _ _).drew, by simpa using HC.out.keep (Below.refl _ _).drew, ⟨box_at z_2_0 (Below.refl _ _).drew, box_at z_2_1 (Below.refl _ _).drew, box_at z_2_2 (Below.refl _ _).drew, box_at z_3_0 (Below.refl _ _).drew, box_at z_3_1 (Below.refl _ _).drew, box_at z_3_2 (Below.refl _ _).drew⟩⟩ ?_
      simp only [pickP, pickN, List.getElem?_cons_zero, List.getElem?_cons_succ]
      iterate 4 (refine' chainQ_read (DrawS.good _ _ _ _ _ _) _ rfl rfl (fun m w' hm' hS' => ?_) ?_; rotate_left; · (simp only [lookP, allP, Act.put, List.getElem?_cons_zero, List.getElem?_cons_succ, List.setIfInBounds_toArray, List.set_cons_zero, List.set_cons_succ]; (try dsimp only [DrawS] at hS'); go_simp; (try with_reducible rfl)))
      -- 4: call { callee := value (func 101), args := #[t50, t52], argTypes := #[124, 3] }
      refine chainQ_do (d := (some 53)) (fun v u => ∃ (jq4 : Nat), v = .int .i64 (jq4 : Int) ∧ (jq4 < n5)) (fun v w1 w2 hw h => h) rfl rfl (fun m w' hm' hS' => ?_) ?_
      · simp only [lookP, allP, Act.put, List.getElem?_cons_zero, List.getElem?_cons_succ, List.setIfInBounds_toArray, List.set_cons_zero, List.set_cons_succ]
        intro K hK
        replace hm' : m < 9 := hm'
        go_simp
        go_at_call 101
        refine (spec_pick _ g _ (n5 : Int) _ hS'.2.1 (hS'.1.belowOf (HW.out.belowOf HUC.out (Nat.le_of_eq HUS.out)) (by have := HUS.out; omega)) (by omega)).mono ?_
        rintro e u ⟨⟨x, rfl, x0, _, xm, _⟩, hc, hw⟩
        obtain ⟨j, rfl⟩ := Int.eq_ofNat_of_zero_le x0
        replace xm := xm (by omega)
        exact hK.out _ _ hw ⟨hS'.1.trans hw, hc.mono (by omega), ⟨within_at (hS'.1.trans hw) z_2_0 (.inr (by omega)), within_at (hS'.1.trans hw) z_2_1 (.inr (by omega)), within_at (hS'.1.trans hw) z_2_2 (.inr (by omega)), within_at (hS'.1.trans hw) z_3_0 (.inr (by omega)), within_at (hS'.1.trans hw) z_3_1 (.inr (by omega)), within_at (hS'.1.trans hw) z_3_2 (.inr (by omega))⟩⟩ ⟨j, rfl, by omega⟩
      iterate 2 (refine' chainQ_read (DrawS.good _ _ _ _ _ _) _ rfl rfl (fun m w' hm' hS' => ?_) ?_; rotate_left; · (simp only [lookP, allP, Act.put, List.getElem?_cons_zero, List.getElem?_cons_succ, List.setIfInBounds_toArray, List.set_cons_zero, List.set_cons_succ]; (try dsimp only [DrawS] at hS'); go_simp; (try with_reducible rfl)))
      -- 7: call { callee := value (func 109), args := #[t54, t55], argTypes := #[124, 25] }
      refine chainQ_do (d := (some 56)) (fun v u => ∃ (xq7 : Int), v = (.int .i64 xq7) ∧ (-10 ≤ xq7 ∧ xq7 ≤ 2000000010)) (fun v w1 w2 hw h => h) rfl rfl (fun m w' hm' hS' => ?_) ?_
      · simp only [lookP, allP, Act.put, List.getElem?_cons_zero, List.getElem?_cons_succ, List.setIfInBounds_toArray, List.set_cons_zero, List.set_cons_succ]
        intro K hK
        replace hm' : m < 9 := hm'
        go_simp
        go_at_call 109
        refine (spec_anyElement U g _ P Q G _ hS'.2.1 (hS'.1.belowOf (HW.out.belowOf HUC.out (Nat.le_of_eq HUS.out)) (by have := HUS.out; omega)) (by omega) HGR.out).mono ?_
        rintro e u ⟨⟨xq7, rfl, xq7l, xq7u⟩, hc, hw⟩
        exact hK.out _ _ hw ⟨hS'.1.trans hw, hc.mono (by omega), ⟨within_at (hS'.1.trans hw) z_2_0 (.inr (by omega)), within_at (hS'.1.trans hw) z_2_1 (.inr (by omega)), within_at (hS'.1.trans hw) z_2_2 (.inr (by omega)), within_at (hS'.1.trans hw) z_3_0 (.inr (by omega)), within_at (hS'.1.trans hw) z_3_1 (.inr (by omega)), within_at (hS'.1.trans hw) z_3_2 (.inr (by omega))⟩⟩ ⟨xq7, rfl, ⟨xq7l, xq7u⟩⟩
      -- 8: indexAddr 26 t49 t53
      refine chainQ_have (DrawS.good _ _ _ _ _ _) (d := (some 57)) (fun v u => ∃ y : Nat, v = .pointer (some ⟨rr, y, none⟩) ∧ y < n5) (fun v w1 w2 hw h => h) rfl rfl (fun m w' hm' hS' => ?_) ?_
      · simp only [lookP, allP, Act.put, List.getElem?_cons_zero, List.getElem?_cons_succ, List.setIfInBounds_toArray, List.set_cons_zero, List.set_cons_succ]
        intro x4 hx4
        obtain ⟨y, rfl, yl⟩ := hx4
        have yz : (0 : Int) ≤ (y : Int) := by omega
        have yn : (y : Int) < (n5 : Int) := by omega
        refine ⟨.pointer (some ⟨rr, y, none⟩), ?_, y, rfl, yl⟩
        go_simp
      refine chainQ_nil (fun u7 hS' => ?_)
      simp only [allP, Act.put, List.setIfInBounds_toArray, List.set_cons_zero, List.set_cons_succ]
      intro x8 hx8
      intro x7 hx7
      intro x4 hx4
      replace hS' : DrawS U u6 g _ 1000000000 _ 9 u7 := hS'
      obtain ⟨hw, hc, hC⟩ := hS'
      obtain ⟨xq7, rfl, xq7l, xq7u⟩ := hx7
      have hsz7 := hw.size
      replace HX0 := Lib.hid (HX0.out.kept hw (.inl (by omega)))
      replace HX1 := Lib.hid (HX1.out.kept hw (.inl (by omega)))
      replace HZ1 := Lib.hid (HZ1.out.kept hw (.inr (by omega)))
      replace HZ2 := Lib.hid (HZ2.out.kept hw (.inr (by omega)))
      replace HL1c := Lib.hid (HL1c.out.within hw (by omega))
      replace HL1d := Lib.hid (HL1d.out.within hw (by omega))
      replace HL1e := Lib.hid (HL1e.out.within hw (by omega))
      replace HL3a := Lib.hid (HL3a.out.within hw (by omega))
      replace HL3b := Lib.hid (HL3b.out.within hw (by omega))
      replace HL3c := Lib.hid (HL3c.out.within hw (by omega))
      replace HL5o := Lib.hid (HL5o.out.within hw (by omega))
      replace HW := Lib.hid (HW.out.trans hw)
      replace HC := Lib.hid hc
      clear hc hw hC
      clear z_0_0 z_0_1 z_0_2 z_1_0 z_1_1 z_1_2 z_2_0 z_2_1 z_2_2 z_3_0 z_3_1 z_3_2
      obtain ⟨jq8, rfl, jlt8⟩ := hx8
      clear hrx hlr
      obtain ⟨_, e, _, hlr, hrx⟩ := HL5o.out.at_ (by have := HE5.out; omega)
      cases e
      obtain ⟨r0, f0⟩ := hrx jq8 jlt8
      have hrE := (HL5o.out.lt rr rfl).2
      clear hrx
      go_wp2_with fail
      refine NoPanic.normal ?_
      obtain ⟨Y, hY⟩ : ∃ Y, Y = u7.setCell ⟨rr, jq8, none⟩ (.int .i64 xq7) := ⟨_, rfl⟩
      have hYl : Within rr (rr + 1) u7 Y := by rw [hY]; exact (Within.refl rr (rr + 1) u7).setCell (b := rr) (by omega) (by omega) jq8 (.int .i64 xq7)
      have hszY := hYl.size
      have NO : OwnI Y V4.heap.size (.slice (some ⟨rr, 0, none⟩) n5 c5) (l5.set jq8 xq7) := by rw [hY]; exact (HL5o.out.stored hlr jq8 ⟨by omega, by omega⟩).1
      have NC := Lib.hid (HC.out.setNew (b := rr) (by omega) jq8 (.int .i64 xq7))
      have NW := Lib.hid (HW.out.setNew (b := rr) (by omega) jq8 (.int .i64 xq7))
      rw [← hY] at NC NW ⊢
      clear hY r0 f0
      replace HX0 := Lib.hid (HX0.out.kept hYl (by omega))
      replace HX1 := Lib.hid (HX1.out.kept hYl (by omega))
      replace HZ1 := Lib.hid (HZ1.out.kept hYl (by omega))
      replace HZ2 := Lib.hid (HZ2.out.kept hYl (by omega))
      replace HL1c := Lib.hid (HL1c.out.within hYl (by omega))
      replace HL1d := Lib.hid (HL1d.out.within hYl (by omega))
      replace HL1e := Lib.hid (HL1e.out.within hYl (by omega))
      replace HL3a := Lib.hid (HL3a.out.within hYl (by omega))
      replace HL3b := Lib.hid (HL3b.out.within hYl (by omega))
      replace HL3c := Lib.hid (HL3c.out.within hYl (by omega))
      replace HL5o := Lib.hid NO
      replace HC := NC
      replace HW := NW
      clear NO NC NW hYl
      replace HE5 : Hid ((l5.set jq8 xq7).length = n5) := by unfold Hid; rw [List.length_set]; exact HE5.out
      have HL5 := Lib.hid (Since.of_ownI HL5o.out (Nat.le_refl _))
      clear HL5o
      have z_0_0 := HX0.out.cell (i := 0) rfl
      have z_0_1 := HX0.out.cell (i := 1) rfl
      have z_0_2 := HX0.out.cell (i := 2) rfl
      have z_1_0 := HX1.out.cell (i := 0) rfl
      have z_1_1 := HX1.out.cell (i := 1) rfl
      have z_1_2 := HX1.out.cell (i := 2) rfl
      have z_2_0 := HZ1.out.cell (i := 0) rfl
      have z_2_1 := HZ1.out.cell (i := 1) rfl
      have z_2_2 := HZ1.out.cell (i := 2) rfl
      have z_3_0 := HZ2.out.cell (i := 0) rfl
      have z_3_1 := HZ2.out.cell (i := 1) rfl
      have z_3_2 := HZ2.out.cell (i := 2) rfl
      try (go_wp2_with fail)
      clear z_0_0
      clear z_0_1
      clear z_0_2
      clear z_1_0
      clear z_1_1
      clear z_1_2
      refine wp_region_noPanic ?_
      refine wp_region_V (fun w' => w'.cell? ⟨u1.heap.size, 0, none⟩ = some (.int .i64 P) ∧ w'.cell? ⟨u1.heap.size, 1, none⟩ = some (.int .i64 Q) ∧ w'.cell? ⟨u1.heap.size, 2, none⟩ = some (.int .i64 G) ∧ w'.cell? ⟨u3.heap.size, 0, none⟩ = some (.slice a3a n3a_ c3a) ∧ w'.cell? ⟨u3.heap.size, 1, none⟩ = some (.slice a3b n3b_ c3b) ∧ w'.cell? ⟨u3.heap.size, 2, none⟩ = some (.slice a3c n3c_ c3c)) 15 13 (.rd 0 (.rd 1 (.rd 2 (.rd 3 (.rd 4 (.rd 5 (.rd 6 (.alt 7 (.alt 8 (.alt 9 (.alt 10 (.alt 11 (.alt 12 .done .nil) .nil) .nil) .nil) .nil) .nil)))))))) [] (by kernel_rfl) (by kernel_rfl) rfl (fun _ _ _ _ _ h => h) ⟨box_at z_2_0 (Below.refl _ _).drew, box_at z_2_1 (Below.refl _ _).drew, box_at z_2_2 (Below.refl _ _).drew, box_at z_3_0 (Below.refl _ _).drew, box_at z_3_1 (Below.refl _ _).drew, box_at z_3_2 (Below.refl _ _).drew⟩ ?_
      simp only [pickV, pickN, List.getElem?_cons_zero, List.getElem?_cons_succ]
      repeat (refine' wpV_read _ (by kernel_rfl) (fun w' hS' => ?_) ?_; rotate_left; · ((try dsimp only at hS'); go_simp; (try with_reducible rfl)); (try simp only [Act.put, List.setIfInBounds_toArray, List.set_cons_zero, List.set_cons_succ]))
      have hdr : Below Y.heap.size Y Y.drew := (Below.refl _ _).drew
      have hszd := hdr.size
      replace HX0 := Lib.hid (HX0.out.below hdr)
      replace HX1 := Lib.hid (HX1.out.below hdr)
      replace HZ1 := Lib.hid (HZ1.out.below hdr)
      replace HZ2 := Lib.hid (HZ2.out.below hdr)
      replace HL1c := Lib.hid (HL1c.out.below hdr)
      replace HL1d := Lib.hid (HL1d.out.below hdr)
      replace HL1e := Lib.hid (HL1e.out.below hdr)
      replace HL3a := Lib.hid (HL3a.out.below hdr)
      replace HL3b := Lib.hid (HL3b.out.below hdr)
      replace HL3c := Lib.hid (HL3c.out.below hdr)
      replace HL5 := Lib.hid (HL5.out.below hdr)
      replace HW := Lib.hid (HW.out.trans (Within.of_below hdr))
      replace HC := Lib.hid (HC.out.keep hdr)
      clear hdr
      refine wpV_do (by kernel_rfl) (fun K hK => ?_)
      -- 7: call
      go_simp
      go_at_call 139
      refine (spec_bent U g _ P Q G _ _ _ l3a l3b l3c _ HC.out (HW.out.belowOf HUC.out (Nat.le_of_eq HUS.out)) (by omega) HGR.out HL3a.out.here HL3b.out.here HL3c.out.here (by have := HE3a.out; omega) (by have := HE3b.out; omega) (by have := HE3c.out; omega)).mono ?_
      rintro e ut1 ⟨⟨vt1a, vt1b, vt1c, lt1a, lt1b, lt1c, rfl, ⟨hst1a, hlt1a⟩, ⟨hst1b, hlt1b⟩, ⟨hst1c, hlt1c⟩⟩, hc, hw⟩
      have HLt1a := Lib.hid hst1a
      obtain ⟨at1a, nt1a, ct1a, rfl⟩ := hst1a.here.shape
      have hnt1a : nt1a ≤ 31 := by have h1 := hst1a.here.len; omega
      have HEt1a := Lib.hid hst1a.here.len
      clear hst1a
      have HLt1b := Lib.hid hst1b
      obtain ⟨at1b, nt1b, ct1b, rfl⟩ := hst1b.here.shape
      have hnt1b : nt1b ≤ 31 := by have h1 := hst1b.here.len; omega
      have HEt1b := Lib.hid hst1b.here.len
      clear hst1b
      have HLt1c := Lib.hid hst1c
      obtain ⟨at1c, nt1c, ct1c, rfl⟩ := hst1c.here.shape
      have hnt1c : nt1c ≤ 31 := by have h1 := hst1c.here.len; omega
      have HEt1c := Lib.hid hst1c.here.len
      clear hst1c
      have hszt1 := hw.size
      replace HX0 := Lib.hid (HX0.out.kept hw (.inl (by omega)))
      replace HX1 := Lib.hid (HX1.out.kept hw (.inl (by omega)))
      replace HZ1 := Lib.hid (HZ1.out.kept hw (.inr (by omega)))
      replace HZ2 := Lib.hid (HZ2.out.kept hw (.inr (by omega)))
      replace HL1c := Lib.hid (HL1c.out.within hw (by omega))
      replace HL1d := Lib.hid (HL1d.out.within hw (by omega))
      replace HL1e := Lib.hid (HL1e.out.within hw (by omega))
      replace HL3a := Lib.hid (HL3a.out.within hw (by omega))
      replace HL3b := Lib.hid (HL3b.out.within hw (by omega))
      replace HL3c := Lib.hid (HL3c.out.within hw (by omega))
      replace HL5 := Lib.hid (HL5.out.within hw (by omega))
      replace HW := Lib.hid (HW.out.trans hw)
      replace HC := Lib.hid hc
      clear hc hw
      clear z_2_0 z_2_1 z_2_2 z_3_0 z_3_1 z_3_2
      have z_2_0 := HZ1.out.cell (i := 0) rfl
      have z_2_1 := HZ1.out.cell (i := 1) rfl
      have z_2_2 := HZ1.out.cell (i := 2) rfl
      have z_3_0 := HZ2.out.cell (i := 0) rfl
      have z_3_1 := HZ2.out.cell (i := 1) rfl
      have z_3_2 := HZ2.out.cell (i := 2) rfl
      refine hK.out _ _ ⟨z_2_0, z_2_1, z_2_2, z_3_0, z_3_1, z_3_2⟩ (fun _ => ?_)
      clear hK K
      (try simp only [Act.put, List.setIfInBounds_toArray, List.set_cons_zero, List.set_cons_succ])
      refine wpV_do (by kernel_rfl) (fun K hK => ?_)
      -- 8: store
      have r0 := HX0.out.cell (i := 0) rfl
      have r1 := HX0.out.cell (i := 1) rfl
      have r2 := HX0.out.cell (i := 2) rfl
      have fr := fun j => HX0.out.frozen j
      obtain ⟨Y2, hY⟩ : ∃ Y, Y = ((ut1.setCell ⟨w.heap.size, 0, none⟩ (.int .i64 P)).setCell ⟨w.heap.size, 1, none⟩ (.int .i64 Q)).setCell ⟨w.heap.size, 2, none⟩ (.int .i64 G) := ⟨_, rfl⟩
      have hYl : Within (w.heap.size) (w.heap.size + 1) ut1 Y2 := by rw [hY]; exact ((((Within.refl (w.heap.size) (w.heap.size + 1) ut1).setCell (b := w.heap.size) (by omega) (by omega) 0 (.int .i64 P)).setCell (b := w.heap.size) (by omega) (by omega) 1 (.int .i64 Q)).setCell (b := w.heap.size) (by omega) (by omega) 2 (.int .i64 G))
      have HYW : Hid (Within w.heap.size (w.heap.size + 2) ut1 Y2) := hYl.mono (by omega) (by omega)
      have HYB : Hid (Below w.heap.size w Y2) := hYl.belowU (HW.out.belowOf HBW.out (by omega)) (by omega)
      have HCS : Hid (∀ w', Within w.heap.size (w.heap.size + 2) ut1 w' → w'.cell? ⟨u1.heap.size, 0, none⟩ = some (.int .i64 P) ∧ w'.cell? ⟨u1.heap.size, 1, none⟩ = some (.int .i64 Q) ∧ w'.cell? ⟨u1.heap.size, 2, none⟩ = some (.int .i64 G) ∧ w'.cell? ⟨u3.heap.size, 0, none⟩ = some (.slice a3a n3a_ c3a) ∧ w'.cell? ⟨u3.heap.size, 1, none⟩ = some (.slice a3b n3b_ c3b) ∧ w'.cell? ⟨u3.heap.size, 2, none⟩ = some (.slice a3c n3c_ c3c)) := fun w' h => ⟨within_at h z_2_0 (by omega), within_at h z_2_1 (by omega), within_at h z_2_2 (by omega), within_at h z_3_0 (by omega), within_at h z_3_1 (by omega), within_at h z_3_2 (by omega)⟩
      go_simp
      refine hK.out _ _ ?_ (fun _ => ?_)
      · rw [← hY]; exact HCS.out _ HYW.out
      rw [← hY]
      clear hK K fr r0 r1 r2
      replace HX0 : Hid (BoxN Y2 w.heap.size 25 [.int .i64 P, .int .i64 Q, .int .i64 G]) := by unfold Hid; rw [hY]; exact (((HX0.out.set 0 (.int .i64 P)).set 1 (.int .i64 Q)).set 2 (.int .i64 G))
      replace HX1 := Lib.hid (HX1.out.kept hYl (by omega))
      clear hY hYl
      (try simp only [Act.put, List.setIfInBounds_toArray, List.set_cons_zero, List.set_cons_succ])
      clear z_2_0 z_2_1 z_2_2 z_3_0 z_3_1 z_3_2
      obtain ⟨z_2_0, z_2_1, z_2_2, z_3_0, z_3_1, z_3_2⟩ := HCS.out _ HYW.out
      refine wpV_do (by kernel_rfl) (fun K hK => ?_)
      -- 9: load
      go_simp
      refine hK.out _ _ ⟨z_2_0, z_2_1, z_2_2, z_3_0, z_3_1, z_3_2⟩ (fun _ => ?_)
      clear hK K
      (try simp only [Act.put, List.setIfInBounds_toArray, List.set_cons_zero, List.set_cons_succ])
      refine wpV_do (by kernel_rfl) (fun K hK => ?_)
      -- 10: load
      go_simp
      refine hK.out _ _ ⟨z_2_0, z_2_1, z_2_2, z_3_0, z_3_1, z_3_2⟩ (fun _ => ?_)
      clear hK K
      (try simp only [Act.put, List.setIfInBounds_toArray, List.set_cons_zero, List.set_cons_succ])
      refine wpV_do (by kernel_rfl) (fun K hK => ?_)
      -- 11: load
      go_simp
      refine hK.out _ _ ⟨z_2_0, z_2_1, z_2_2, z_3_0, z_3_1, z_3_2⟩ (fun _ => ?_)
      clear hK K
      (try simp only [Act.put, List.setIfInBounds_toArray, List.set_cons_zero, List.set_cons_succ])
      refine wpV_do (by kernel_rfl) (fun K hK => ?_)
      -- 12: store
      have r0 := HX1.out.cell (i := 0) rfl
      have r1 := HX1.out.cell (i := 1) rfl
      have r2 := HX1.out.cell (i := 2) rfl
      have fr := fun j => HX1.out.frozen j
      obtain ⟨Y3, hY⟩ : ∃ Y, Y = ((Y2.setCell ⟨w.heap.size + 1, 0, none⟩ (.slice at1a nt1a ct1a)).setCell ⟨w.heap.size + 1, 1, none⟩ (.slice at1b nt1b ct1b)).setCell ⟨w.heap.size + 1, 2, none⟩ (.slice at1c nt1c ct1c) := ⟨_, rfl⟩
      have hYl : Within (w.heap.size + 1) (w.heap.size + 1 + 1) Y2 Y3 := by rw [hY]; exact ((((Within.refl (w.heap.size + 1) (w.heap.size + 1 + 1) Y2).setCell (b := w.heap.size + 1) (by omega) (by omega) 0 (.slice at1a nt1a ct1a)).setCell (b := w.heap.size + 1) (by omega) (by omega) 1 (.slice at1b nt1b ct1b)).setCell (b := w.heap.size + 1) (by omega) (by omega) 2 (.slice at1c nt1c ct1c))
      replace HYW := Lib.hid (HYW.out.trans (hYl.mono (by omega) (by omega)))
      replace HYB := Lib.hid (hYl.belowU HYB.out (by omega))
      go_simp
      refine hK.out _ _ ?_ (fun _ => ?_)
      · rw [← hY]; exact HCS.out _ HYW.out
      rw [← hY]
      clear hK K fr r0 r1 r2
      replace HX1 : Hid (BoxN Y3 (w.heap.size + 1) 63 [.slice at1a nt1a ct1a, .slice at1b nt1b ct1b, .slice at1c nt1c ct1c]) := by unfold Hid; rw [hY]; exact (((HX1.out.set 0 (.slice at1a nt1a ct1a)).set 1 (.slice at1b nt1b ct1b)).set 2 (.slice at1c nt1c ct1c))
      replace HX0 := Lib.hid (HX0.out.kept hYl (by omega))
      clear hY hYl
      (try simp only [Act.put, List.setIfInBounds_toArray, List.set_cons_zero, List.set_cons_succ])
      clear z_2_0 z_2_1 z_2_2 z_3_0 z_3_1 z_3_2
      obtain ⟨z_2_0, z_2_1, z_2_2, z_3_0, z_3_1, z_3_2⟩ := HCS.out _ HYW.out
      refine wpV_done ?_
      go_wp2_with fail
      refine NoPanic.normal ?_
      clear z_2_0 z_2_1 z_2_2 z_3_0 z_3_1 z_3_2
      have t_HX0_0 := HX0.out.cell (i := 0) rfl
      have t_HX0_1 := HX0.out.cell (i := 1) rfl
      have t_HX0_2 := HX0.out.cell (i := 2) rfl
      have t_HX1_0 := HX1.out.cell (i := 0) rfl
      have t_HX1_1 := HX1.out.cell (i := 1) rfl
      have t_HX1_2 := HX1.out.cell (i := 2) rfl
      try (go_wp2_with fail)
      refine bodyPost_ret (v := .tuple #[.agg #[.int .i64 P, .int .i64 Q, .int .i64 G], .string s1b, .slice a1c n1c c1c, .slice (some ⟨rr, 0, none⟩) n5 c5, .agg #[.slice at1a nt1a ct1a, .slice at1b nt1b ct1b, .slice at1c nt1c ct1c]]) (by simp [results, Try.results34, go_sem, t_HX0_0, t_HX0_1, t_HX0_2, t_HX1_0, t_HX1_1, t_HX1_2]) rfl ⟨⟨_, _, _, _, _, _, _, _, _, _, _, _, _, _, rfl, HGR.out, hz1b, ⟨(HL1c.out.within HYW.out (by omega)).here, by have := HE1c.out; omega, HR1c.out⟩, ⟨(HL5.out.within HYW.out (by omega)).here, by have := HE5.out; omega⟩, ⟨⟨(HLt1a.out.within HYW.out (by omega)).here, by have := HEt1a.out; omega⟩, ⟨(HLt1b.out.within HYW.out (by omega)).here, by have := HEt1b.out; omega⟩, ⟨(HLt1c.out.within HYW.out (by omega)).here, by have := HEt1c.out; omega⟩⟩⟩, HYB.out⟩
end Go.Proofs.Yteemlmmdngkghaa
