/- Walks: StageRecord (cuts around its two drawn regions; printed by gen_stg5.py). -/
import Derived.Test.YtbcaknmpbkapnaaStg3
import Derived.Test.YtbcaknmpbkapnaaConL
import Derived.Test.YtbcaknmpbkapnaaRegV
import Derived.Deep.CutRange
namespace Go.Proofs.Ytbcaknmpbkapnaa
open Go.RowKit
set_option linter.unusedSimpArgs false
set_option linter.unusedVariables false

theorem stgB_no {d : StageD} {l : List Int} (hm : l ∈ stgParts d) (h : recB l = false) : stgB d = false := by
  unfold stgB
  cases hj : recB (joinL (stgParts d)) with
  | false => simp
  | true => rw [(recB_parts hj).2 l hm] at h; cases h
theorem stgB_e {d : StageD} (h : stgE d = false) : stgB d = false := by unfold stgB; rw [h]; rfl
theorem rdR1L (w : World) {v : Value} {l : List Int} (h : Ints w v l) : RdR rL (w.alloc (.cells #[v] 22)) (.slice (some ⟨w.heap.size, 0, none⟩) 1 1) [l] := by
  refine ⟨some ⟨w.heap.size, 0, none⟩, 1, 1, rfl, rfl, Nat.le_refl _, by unfold maxLen; omega, .inr (.inr ⟨w.heap.size, 0, rfl, fun i hi => ?_⟩)⟩
  simp only [List.length_cons, List.length_nil] at hi
  obtain rfl : i = 0 := by omega
  refine ⟨[v], fun k hk => ?_, rdL_mk (h.alloc _)⟩
  obtain rfl : k = 0 := by have : k < 1 := hk; omega
  show (w.alloc (.cells #[v] 22)).cell? ⟨w.heap.size, 0, none⟩ = some v
  simp [go_sem]
theorem rdR3LL (w : World) {v1 v2 v3 : Value} {l1 l2 l3 : List (List Int)} (h1 : RdR rL w v1 l1) (h2 : RdR rL w v2 l2) (h3 : RdR rL w v3 l3) : RdR rLL (w.alloc (.cells #[v1, v2, v3] 47)) (.slice (some ⟨w.heap.size, 0, none⟩) 3 3) [l1, l2, l3] := by
  have hb : Below w.heap.size w (w.alloc (.cells #[v1, v2, v3] 47)) := keep_a (Below.refl _ _) _
  refine ⟨some ⟨w.heap.size, 0, none⟩, 3, 3, rfl, rfl, Nat.le_refl _, by unfold maxLen; omega, .inr (.inr ⟨w.heap.size, 0, rfl, fun i hi => ?_⟩)⟩
  simp only [List.length_cons, List.length_nil] at hi
  rcases (by omega : i = 0 ∨ i = 1 ∨ i = 2) with rfl | rfl | rfl
  · refine ⟨[v1], fun k hk => ?_, rdLL_mk (h1.below hb)⟩
    obtain rfl : k = 0 := by have : k < 1 := hk; omega
    show (w.alloc (.cells #[v1, v2, v3] 47)).cell? ⟨w.heap.size, 0, none⟩ = some v1
    simp [go_sem]
  · refine ⟨[v2], fun k hk => ?_, rdLL_mk (h2.below hb)⟩
    obtain rfl : k = 0 := by have : k < 1 := hk; omega
    show (w.alloc (.cells #[v1, v2, v3] 47)).cell? ⟨w.heap.size, 1, none⟩ = some v2
    simp [go_sem]
  · refine ⟨[v3], fun k hk => ?_, rdLL_mk (h3.below hb)⟩
    obtain rfl : k = 0 := by have : k < 1 := hk; omega
    show (w.alloc (.cells #[v1, v2, v3] 47)).cell? ⟨w.heap.size, 2, none⟩ = some v3
    simp [go_sem]
theorem rd2X {w : World} {A : Nat} {v1 v2 : Value} {l1 l2 : List Int} (h : BoxN w A 22 [v1, v2]) (h1 : Ints w v1 l1) (h2 : Ints w v2 l2) : RdR rL w (.slice (some ⟨A, 0, none⟩) 2 2) [l1, l2] := by
  refine ⟨some ⟨A, 0, none⟩, 2, 2, rfl, rfl, Nat.le_refl _, by unfold maxLen; omega, .inr (.inr ⟨A, 0, rfl, fun i hi => ?_⟩)⟩
  simp only [List.length_cons, List.length_nil] at hi
  rcases (by omega : i = 0 ∨ i = 1) with rfl | rfl
  · refine ⟨[v1], fun k hk => ?_, rdL_mk h1⟩
    obtain rfl : k = 0 := by have : k < 1 := hk; omega
    exact h.cell (i := 0) rfl
  · refine ⟨[v2], fun k hk => ?_, rdL_mk h2⟩
    obtain rfl : k = 0 := by have : k < 1 := hk; omega
    exact h.cell (i := 1) rfl
theorem rd3X {w : World} {A : Nat} {v1 v2 v3 : Value} {l1 l2 l3 : List Int} (h : BoxN w A 22 [v1, v2, v3]) (h1 : Ints w v1 l1) (h2 : Ints w v2 l2) (h3 : Ints w v3 l3) : RdR rL w (.slice (some ⟨A, 0, none⟩) 3 3) [l1, l2, l3] := by
  refine ⟨some ⟨A, 0, none⟩, 3, 3, rfl, rfl, Nat.le_refl _, by unfold maxLen; omega, .inr (.inr ⟨A, 0, rfl, fun i hi => ?_⟩)⟩
  simp only [List.length_cons, List.length_nil] at hi
  rcases (by omega : i = 0 ∨ i = 1 ∨ i = 2) with rfl | rfl | rfl
  · refine ⟨[v1], fun k hk => ?_, rdL_mk h1⟩
    obtain rfl : k = 0 := by have : k < 1 := hk; omega
    exact h.cell (i := 0) rfl
  · refine ⟨[v2], fun k hk => ?_, rdL_mk h2⟩
    obtain rfl : k = 0 := by have : k < 1 := hk; omega
    exact h.cell (i := 1) rfl
  · refine ⟨[v3], fun k hk => ?_, rdL_mk h3⟩
    obtain rfl : k = 0 := by have : k < 1 := hk; omega
    exact h.cell (i := 2) rfl
theorem argB_1 {n : Int} (h : argB n = true) (h2 : ¬ n = 2) : n = 1 := by
  unfold argB at h
  rw [Bool.or_eq_true] at h
  rcases h with h | h
  · exact eq_of_beq h
  · exact absurd (eq_of_beq h) h2
theorem stgE_arg {d : StageD} (h : argB d.argument = false) : stgE d = false := by
  unfold argB at h
  rw [Bool.or_eq_false_iff] at h
  unfold stgE; rw [h.1, h.2]; rfl
set_option maxRecDepth 100000 in
set_option maxHeartbeats 8000000 in
theorem impl_StageRecord (v : Value) (d : StageD) (w : World) (hz : (szStage d : Int) ≤ 1048576) (h : (kS rStage).rd w v d) :
    Calls Try.prog 34 #[v] w fun e w' => ∃ v', e = .returned (.tuple #[v', .bool (stgB d)]) ∧ InI w' w.heap.size w'.heap.size v' (stgR d) ∧ Below w.heap.size w w' := by
  have HZ := Lib.hid (szT_parts hz)
  have HTT := Lib.hid (szT_total hz)
  clear hz
  (obtain ⟨q2, h_q⟩ : ∃ b_q, noPoly d.poly = b_q := ⟨_, rfl⟩); have H2 := Lib.hid h_q; clear h_q
  (obtain ⟨q4, h_q⟩ : ∃ b_q, noMat d.matrix = b_q := ⟨_, rfl⟩); have H4 := Lib.hid h_q; clear h_q
  (obtain ⟨q6, h_q⟩ : ∃ b_q, recB (cipL d.out) = b_q := ⟨_, rfl⟩); have H6 := Lib.hid h_q; clear h_q
  obtain ⟨ad_1, nd_1, cd_1, ad_2, nd_2, cd_2, ad_3, nd_3, cd_3, ad_4, nd_4, cd_4, ad_5, nd_5, cd_5, ad_6, nd_6, cd_6, ad_7, nd_7, cd_7, ad_8, nd_8, cd_8, ad_9, nd_9, cd_9, ad_10, nd_10, cd_10, ad_11, nd_11, cd_11, ad_12, nd_12, cd_12, rfl, jd_0, kd_1, kd_2, kd_3, kd_4, kd_5, kd_6, kd_7, kd_8, kd_9, kd_10, kd_11, kd_12⟩ := rdStage.1 h
  obtain ⟨W, hW⟩ : ∃ W, W = (w.alloc (.cells #[.int .i64 d.argument, .slice ad_1 nd_1 cd_1, .slice ad_2 nd_2 cd_2, .slice ad_3 nd_3 cd_3, .slice ad_4 nd_4 cd_4, .slice ad_5 nd_5 cd_5, .slice ad_6 nd_6 cd_6, .slice ad_7 nd_7 cd_7, .slice ad_8 nd_8 cd_8, .slice ad_9 nd_9 cd_9, .slice ad_10 nd_10 cd_10, .slice ad_11 nd_11 cd_11, .slice ad_12 nd_12 cd_12] 42)) := ⟨_, rfl⟩
  have HWB : Hid (Below w.heap.size w W) := by unfold Hid; rw [hW]; (repeat (first | exact Below.refl _ _ | assumption | refine Below.drew ?_ | refine Below.alloc ?_ (by first | (simp; done) | (simp; omega)) _ | refine Below.setCell ?_ (by first | (simp; done) | (simp; omega)) _))
  have FX : Hid (∀ W', Below W.heap.size W W' → W'.cell? ⟨w.heap.size, 0, none⟩ = some (.int .i64 d.argument) ∧ W'.cell? ⟨w.heap.size, 1, none⟩ = some (.slice ad_1 nd_1 cd_1) ∧ W'.cell? ⟨w.heap.size, 2, none⟩ = some (.slice ad_2 nd_2 cd_2) ∧ W'.cell? ⟨w.heap.size, 3, none⟩ = some (.slice ad_3 nd_3 cd_3) ∧ W'.cell? ⟨w.heap.size, 4, none⟩ = some (.slice ad_4 nd_4 cd_4) ∧ W'.cell? ⟨w.heap.size, 5, none⟩ = some (.slice ad_5 nd_5 cd_5) ∧ W'.cell? ⟨w.heap.size, 6, none⟩ = some (.slice ad_6 nd_6 cd_6) ∧ W'.cell? ⟨w.heap.size, 7, none⟩ = some (.slice ad_7 nd_7 cd_7) ∧ W'.cell? ⟨w.heap.size, 8, none⟩ = some (.slice ad_8 nd_8 cd_8) ∧ W'.cell? ⟨w.heap.size, 9, none⟩ = some (.slice ad_9 nd_9 cd_9) ∧ W'.cell? ⟨w.heap.size, 10, none⟩ = some (.slice ad_10 nd_10 cd_10) ∧ W'.cell? ⟨w.heap.size, 11, none⟩ = some (.slice ad_11 nd_11 cd_11) ∧ W'.cell? ⟨w.heap.size, 12, none⟩ = some (.slice ad_12 nd_12 cd_12)) := fun W' hb => by
    exact ⟨box_at (by rw [hW]; simp [go_sem]) hb, box_at (by rw [hW]; simp [go_sem]) hb, box_at (by rw [hW]; simp [go_sem]) hb, box_at (by rw [hW]; simp [go_sem]) hb, box_at (by rw [hW]; simp [go_sem]) hb, box_at (by rw [hW]; simp [go_sem]) hb, box_at (by rw [hW]; simp [go_sem]) hb, box_at (by rw [hW]; simp [go_sem]) hb, box_at (by rw [hW]; simp [go_sem]) hb, box_at (by rw [hW]; simp [go_sem]) hb, box_at (by rw [hW]; simp [go_sem]) hb, box_at (by rw [hW]; simp [go_sem]) hb, box_at (by rw [hW]; simp [go_sem]) hb⟩
  have hsW : W.heap.size = w.heap.size + 1 := by rw [hW]; simp
  have Hd := Lib.hid ((kS rStage).rd_below h HWB.out); clear h
  have Jd_0 := Lib.hid jd_0; clear jd_0
  have F_d_out := Lib.hid ((kR 75 rCipher).rd_below kd_1 HWB.out)
  have F_d_matrix := Lib.hid ((kS rMatrixProof).rd_below (w := w) (rdMatrixProof.2 ⟨_, _, _, _, _, _, _, _, _, _, _, _, _, _, _, rfl, kd_2, kd_3, kd_4, kd_5, kd_6⟩ : (kS rMatrixProof).rd w (.agg #[.slice ad_2 nd_2 cd_2, .slice ad_3 nd_3 cd_3, .slice ad_4 nd_4 cd_4, .slice ad_5 nd_5 cd_5, .slice ad_6 nd_6 cd_6]) d.matrix) HWB.out)
  have F_d_poly := Lib.hid ((kS rPolyProof).rd_below (w := w) (rdPolyProof.2 ⟨_, _, _, _, _, _, _, _, _, _, _, _, _, _, _, _, _, _, rfl, kd_7, kd_8, kd_9, kd_10, kd_11, kd_12⟩ : (kS rPolyProof).rd w (.agg #[.slice ad_7 nd_7 cd_7, .slice ad_8 nd_8 cd_8, .slice ad_9 nd_9 cd_9, .slice ad_10 nd_10 cd_10, .slice ad_11 nd_11 cd_11, .slice ad_12 nd_12 cd_12]) d.poly) HWB.out)
  clear kd_1 kd_2 kd_3 kd_4 kd_5 kd_6 kd_7 kd_8 kd_9 kd_10 kd_11 kd_12
  have HW := Lib.hid hW; clear hW
  clear hsW
  obtain ⟨xa2, xn2, xc2, xa3, xn3, xc3, xa4, xn4, xc4, xa5, xn5, xc5, xa6, xn6, xc6, em, fm0, fm1, fm2, fm3, fm4⟩ := rdMatrixProof.1 F_d_matrix.out
  obtain ⟨xa7, xn7, xc7, xa8, xn8, xc8, xa9, xn9, xc9, xa10, xn10, xc10, xa11, xn11, xc11, xa12, xn12, xc12, ep, fp0, fp1, fp2, fp3, fp4, fp5⟩ := rdPolyProof.1 F_d_poly.out
  cases em
  cases ep
  have F_d_matrix_columns := Lib.hid fm0
  have F_d_matrix_chain := Lib.hid fm1
  have F_pi_m : Hid ((kS rProof).rd W (.agg #[.slice ad_4 nd_4 cd_4, .slice ad_5 nd_5 cd_5, .slice ad_6 nd_6 cd_6]) d.matrix.pi) := rdProof.2 ⟨_, _, _, _, _, _, _, _, _, rfl, fm2, fm3, fm4⟩
  have F_d_poly_places := Lib.hid fp0
  have F_d_poly_powers := Lib.hid fp1
  have F_d_poly_chain := Lib.hid fp2
  have F_pi_p : Hid ((kS rProof).rd W (.agg #[.slice ad_10 nd_10 cd_10, .slice ad_11 nd_11 cd_11, .slice ad_12 nd_12 cd_12]) d.poly.pi) := rdProof.2 ⟨_, _, _, _, _, _, _, _, _, rfl, fp3, fp4, fp5⟩
  clear fm0 fm1 fm2 fm3 fm4 fp0 fp1 fp2 fp3 fp4 fp5
  go_enter Try.func34, Try.ntmps34
  go_wp2_with fail
  rw [← HW.out]
  have hcum : Below W.heap.size W W := Below.refl _ _
  obtain ⟨p0_0, p0_1, p0_2, p0_3, p0_4, p0_5, p0_6, p0_7, p0_8, p0_9, p0_10, p0_11, p0_12⟩ := FX.out _ hcum
  refine (impl_EncodeCiphers _ d.out _ F_d_out.out (by have := HZ.out.1; omega)).mono ?_
  rintro e U ⟨v1, rfl, ho1, hb1⟩
  rw [H6.out]
  obtain ⟨a1, n1, c1, rfl⟩ := ho1.reads.shape
  have HO1 := Lib.hid ho1.reads
  have HUB := Lib.hid hb1
  have hsU := hb1.size
  clear p0_0 p0_1 p0_2 p0_3 p0_4 p0_5 p0_6 p0_7 p0_8 p0_9 p0_10 p0_11 p0_12 hcum hb1 ho1
  obtain ⟨p0_0, p0_1, p0_2, p0_3, p0_4, p0_5, p0_6, p0_7, p0_8, p0_9, p0_10, p0_11, p0_12⟩ := FX.out _ HUB.out
  clear p0_0 p0_1
  go_upto_region 2 with fail
  go_cut [6, 7, 8] from 17 to 29 (fun v6 v7 v8 wx => ∃ aL aB : Nat, v6 = .slice (some ⟨aL, 0, none⟩) 2 2 ∧ v7 = .pointer (some ⟨aB, 0, none⟩) ∧ v8 = .bool q2 ∧ U.heap.size ≤ aB ∧ Hid (Below U.heap.size U wx) ∧ Hid (RdR rL wx (.slice (some ⟨aL, 0, none⟩) 2 2) [d.matrix.columns, d.matrix.chain]) ∧ Hid (BoxN wx aB 26 [.slice ad_4 nd_4 cd_4, .slice ad_5 nd_5 cd_5, .slice ad_6 nd_6 cd_6]))
  case first =>
    refine wp_region_noPanic ?_
    refine wp_region_V (fun w' => Below U.heap.size U w' ∧ w'.cell? ⟨w.heap.size, 2, none⟩ = some (.slice ad_2 nd_2 cd_2) ∧ w'.cell? ⟨w.heap.size, 3, none⟩ = some (.slice ad_3 nd_3 cd_3) ∧ w'.cell? ⟨w.heap.size, 4, none⟩ = some (.slice ad_4 nd_4 cd_4) ∧ w'.cell? ⟨w.heap.size, 5, none⟩ = some (.slice ad_5 nd_5 cd_5) ∧ w'.cell? ⟨w.heap.size, 6, none⟩ = some (.slice ad_6 nd_6 cd_6) ∧ w'.cell? ⟨w.heap.size, 7, none⟩ = some (.slice ad_7 nd_7 cd_7) ∧ w'.cell? ⟨w.heap.size, 8, none⟩ = some (.slice ad_8 nd_8 cd_8) ∧ w'.cell? ⟨w.heap.size, 9, none⟩ = some (.slice ad_9 nd_9 cd_9) ∧ w'.cell? ⟨w.heap.size, 10, none⟩ = some (.slice ad_10 nd_10 cd_10) ∧ w'.cell? ⟨w.heap.size, 11, none⟩ = some (.slice ad_11 nd_11 cd_11) ∧ w'.cell? ⟨w.heap.size, 12, none⟩ = some (.slice ad_12 nd_12 cd_12)) 20 17 (.rd 0 (.rd 1 (.rd 2 (.rd 3 (.rd 4 (.rd 5 (.rd 7 (.rd 8 (.rd 9 (.rd 10 (.rd 11 (.alt 6 (.alt 12 (.alt 13 (.rd 14 (.alt 15 (.rd 16 .done) .nil)) .nil) (.alt 13 (.alt 12 (.rd 14 (.alt 15 (.rd 16 .done) .nil)) .nil) .nil)) (.alt 12 (.alt 6 (.alt 13 (.rd 14 (.alt 15 (.rd 16 .done) .nil)) .nil) (.alt 13 (.alt 6 (.rd 14 (.alt 15 (.rd 16 .done) .nil)) .nil) .nil)) (.alt 13 (.alt 6 (.alt 12 (.rd 14 (.alt 15 (.rd 16 .done) .nil)) .nil) (.alt 12 (.alt 6 (.rd 14 (.alt 15 (.rd 16 .done) .nil)) .nil) .nil)) .nil)))))))))))))) [] (by kernel_rfl) (by kernel_rfl) rfl (fun _ _ _ _ _ h => h) ⟨(Below.refl _ _).drew, p0_2, p0_3, p0_4, p0_5, p0_6, p0_7, p0_8, p0_9, p0_10, p0_11, p0_12⟩ ?_
    simp only [pickV, pickN, List.getElem?_cons_zero, List.getElem?_cons_succ]
    have hb0 : Below U.heap.size U U.drew := (Below.refl _ _).drew
    repeat (refine' wpV_read _ (by kernel_rfl) (fun w' hS' => ?_) ?_; rotate_left; · ((try dsimp only at hS'); go_simp; (try with_reducible rfl)); (try simp only [Act.put, List.setIfInBounds_toArray, List.set_cons_zero, List.set_cons_succ]))
    refine wpV_or (by kernel_rfl) (fun K hK => ?_) ?_
    · skip
      go_simp
      obtain ⟨X1, hX1⟩ : ∃ x0, x0 = ((U.alloc (.cells #[.slice ad_2 nd_2 cd_2, .slice ad_3 nd_3 cd_3] 22)).drew) := ⟨_, rfl⟩
      have hb1 : Below U.heap.size U X1 := by rw [hX1]; exact hb0.alloc hb0.size (.cells #[.slice ad_2 nd_2 cd_2, .slice ad_3 nd_3 cd_3] 22)
      have HA1 : Hid (BoxN X1 U.heap.size 22 [.slice ad_2 nd_2 cd_2, .slice ad_3 nd_3 cd_3]) := by unfold Hid; rw [hX1]; exact BoxN.below (BoxN.new U [.slice ad_2 nd_2 cd_2, .slice ad_3 nd_3 cd_3] 22) (Below.refl _ _).drew
      have hlt1 : U.heap.size < X1.heap.size := HA1.out.lt
      have hge1 : U.heap.size ≤ U.heap.size := Nat.le_refl _
      rw [← hX1]
      clear hX1
      refine hK.out _ _ ⟨hb1, box_at p0_2 hb1, box_at p0_3 hb1, box_at p0_4 hb1, box_at p0_5 hb1, box_at p0_6 hb1, box_at p0_7 hb1, box_at p0_8 hb1, box_at p0_9 hb1, box_at p0_10 hb1, box_at p0_11 hb1, box_at p0_12 hb1⟩ (fun _ => ?_)
      clear hK K
      try simp only [Act.put, List.setIfInBounds_toArray, List.set_cons_zero, List.set_cons_succ]
      refine wpV_or (by kernel_rfl) (fun K hK => ?_) ?_
      · skip
        go_simp
        go_at_call 55
        refine (impl_isEmptyO _ d.poly _ ((kS rPolyProof).rd_below F_d_poly.out (HUB.out.trans (hb1.mono hsU)))).mono ?_
        rintro e X2 ⟨rfl, hq2⟩
        rw [H2.out]
        have hb2 := keep_b hq2 hb1
        have HA2 := Lib.hid (HA1.out.below hq2)
        have hsz2 : X1.heap.size ≤ X2.heap.size := hq2.size
        refine hK.out _ _ ⟨hb2, box_at p0_2 hb2, box_at p0_3 hb2, box_at p0_4 hb2, box_at p0_5 hb2, box_at p0_6 hb2, box_at p0_7 hb2, box_at p0_8 hb2, box_at p0_9 hb2, box_at p0_10 hb2, box_at p0_11 hb2, box_at p0_12 hb2⟩ (fun _ => ?_)
        clear hK K
        try simp only [Act.put, List.setIfInBounds_toArray, List.set_cons_zero, List.set_cons_succ]
        refine wpV_do (by kernel_rfl) (fun K hK => ?_)
        go_simp
        obtain ⟨X3, hX3⟩ : ∃ x0, x0 = (X2.alloc (.cells #[.slice none 0 0, .slice none 0 0, .slice none 0 0] 26)) := ⟨_, rfl⟩
        have hb3 : Below U.heap.size U X3 := by rw [hX3]; exact hb2.alloc hb2.size (.cells #[.slice none 0 0, .slice none 0 0, .slice none 0 0] 26)
        have HP3 : Hid (BoxN X3 X2.heap.size 26 [.slice none 0 0, .slice none 0 0, .slice none 0 0]) := by unfold Hid; rw [hX3]; exact BoxN.new X2 [.slice none 0 0, .slice none 0 0, .slice none 0 0] 26
        have HA3 : Hid (BoxN X3 U.heap.size 22 [.slice ad_2 nd_2 cd_2, .slice ad_3 nd_3 cd_3]) := by unfold Hid; rw [hX3]; exact HA2.out.alloc (.cells #[.slice none 0 0, .slice none 0 0, .slice none 0 0] 26)
        have hlt3 : X2.heap.size < X3.heap.size := HP3.out.lt
        have hge3 : U.heap.size ≤ X2.heap.size := hb2.size
        rw [← hX3]
        clear hX3
        refine hK.out _ _ ⟨hb3, box_at p0_2 hb3, box_at p0_3 hb3, box_at p0_4 hb3, box_at p0_5 hb3, box_at p0_6 hb3, box_at p0_7 hb3, box_at p0_8 hb3, box_at p0_9 hb3, box_at p0_10 hb3, box_at p0_11 hb3, box_at p0_12 hb3⟩ (fun _ => ?_)
        clear hK K
        try simp only [Act.put, List.setIfInBounds_toArray, List.set_cons_zero, List.set_cons_succ]
        repeat (refine' wpV_read _ (by kernel_rfl) (fun w' hS' => ?_) ?_; rotate_left; · ((try dsimp only at hS'); go_simp; (try with_reducible rfl)); (try simp only [Act.put, List.setIfInBounds_toArray, List.set_cons_zero, List.set_cons_succ]))
        refine wpV_do (by kernel_rfl) (fun K hK => ?_)
        have fr := fun j => HP3.out.frozen j
        have r2 := HP3.out.cell (i := 2) rfl
        have r1 := HP3.out.cell (i := 1) rfl
        have r0 := HP3.out.cell (i := 0) rfl
        go_simp
        obtain ⟨X4, hX4⟩ : ∃ x0, x0 = (((X3.setCell ⟨X2.heap.size, 0, none⟩ (.slice ad_4 nd_4 cd_4)).setCell ⟨X2.heap.size, 1, none⟩ (.slice ad_5 nd_5 cd_5)).setCell ⟨X2.heap.size, 2, none⟩ (.slice ad_6 nd_6 cd_6)) := ⟨_, rfl⟩
        have hb4 : Below U.heap.size U X4 := by rw [hX4]; exact (((hb3.setCell (by show U.heap.size ≤ X2.heap.size; omega) _).setCell (by show U.heap.size ≤ X2.heap.size; omega) _).setCell (by show U.heap.size ≤ X2.heap.size; omega) _)
        have HP4 : Hid (BoxN X4 X2.heap.size 26 [.slice ad_4 nd_4 cd_4, .slice ad_5 nd_5 cd_5, .slice ad_6 nd_6 cd_6]) := by unfold Hid; rw [hX4]; exact (((HP3.out.set 0 (.slice ad_4 nd_4 cd_4)).set 1 (.slice ad_5 nd_5 cd_5)).set 2 (.slice ad_6 nd_6 cd_6))
        have HA4 : Hid (BoxN X4 U.heap.size 22 [.slice ad_2 nd_2 cd_2, .slice ad_3 nd_3 cd_3]) := by unfold Hid; rw [hX4]; exact (((HA3.out.other (by omega) 0 (.slice ad_4 nd_4 cd_4)).other (by omega) 1 (.slice ad_5 nd_5 cd_5)).other (by omega) 2 (.slice ad_6 nd_6 cd_6))
        rw [← hX4]
        clear hX4 r0 r1 r2 fr
        refine hK.out _ _ ⟨hb4, box_at p0_2 hb4, box_at p0_3 hb4, box_at p0_4 hb4, box_at p0_5 hb4, box_at p0_6 hb4, box_at p0_7 hb4, box_at p0_8 hb4, box_at p0_9 hb4, box_at p0_10 hb4, box_at p0_11 hb4, box_at p0_12 hb4⟩ (fun _ => ?_)
        clear hK K
        try simp only [Act.put, List.setIfInBounds_toArray, List.set_cons_zero, List.set_cons_succ]
        repeat (refine' wpV_read _ (by kernel_rfl) (fun w' hS' => ?_) ?_; rotate_left; · ((try dsimp only at hS'); go_simp; (try with_reducible rfl)); (try simp only [Act.put, List.setIfInBounds_toArray, List.set_cons_zero, List.set_cons_succ]))
        refine wpV_done ?_
        go_wp2_with fail
        refine NoPanic.normal ?_
        go_wp2_with fail
        have HF := Lib.hid hb4
        have hW2 := HUB.out.trans (hb4.mono hsU)
        have HLL := Lib.hid (rd2X HA4.out (sInts.rd_below F_d_matrix_columns.out hW2) (sInts.rd_below F_d_matrix_chain.out hW2))
        go_meet
        exact ⟨U.heap.size, X2.heap.size, rfl, rfl, rfl, by omega, HF, HLL, HP4⟩
      · skip
        refine wpV_do (by kernel_rfl) (fun K hK => ?_)
        go_simp
        obtain ⟨X5, hX5⟩ : ∃ x0, x0 = (X1.alloc (.cells #[.slice none 0 0, .slice none 0 0, .slice none 0 0] 26)) := ⟨_, rfl⟩
        have hb5 : Below U.heap.size U X5 := by rw [hX5]; exact hb1.alloc hb1.size (.cells #[.slice none 0 0, .slice none 0 0, .slice none 0 0] 26)
        have HP5 : Hid (BoxN X5 X1.heap.size 26 [.slice none 0 0, .slice none 0 0, .slice none 0 0]) := by unfold Hid; rw [hX5]; exact BoxN.new X1 [.slice none 0 0, .slice none 0 0, .slice none 0 0] 26
        have HA5 : Hid (BoxN X5 U.heap.size 22 [.slice ad_2 nd_2 cd_2, .slice ad_3 nd_3 cd_3]) := by unfold Hid; rw [hX5]; exact HA1.out.alloc (.cells #[.slice none 0 0, .slice none 0 0, .slice none 0 0] 26)
        have hlt5 : X1.heap.size < X5.heap.size := HP5.out.lt
        have hge5 : U.heap.size ≤ X1.heap.size := hb1.size
        rw [← hX5]
        clear hX5
        refine hK.out _ _ ⟨hb5, box_at p0_2 hb5, box_at p0_3 hb5, box_at p0_4 hb5, box_at p0_5 hb5, box_at p0_6 hb5, box_at p0_7 hb5, box_at p0_8 hb5, box_at p0_9 hb5, box_at p0_10 hb5, box_at p0_11 hb5, box_at p0_12 hb5⟩ (fun _ => ?_)
        clear hK K
        try simp only [Act.put, List.setIfInBounds_toArray, List.set_cons_zero, List.set_cons_succ]
        refine wpV_do (by kernel_rfl) (fun K hK => ?_)
        go_simp
        go_at_call 55
        refine (impl_isEmptyO _ d.poly _ ((kS rPolyProof).rd_below F_d_poly.out (HUB.out.trans (hb5.mono hsU)))).mono ?_
        rintro e X6 ⟨rfl, hq6⟩
        rw [H2.out]
        have hb6 := keep_b hq6 hb5
        have HA6 := Lib.hid (HA5.out.below hq6)
        have HP6 := Lib.hid (HP5.out.below hq6)
        have hsz6 : X5.heap.size ≤ X6.heap.size := hq6.size
        refine hK.out _ _ ⟨hb6, box_at p0_2 hb6, box_at p0_3 hb6, box_at p0_4 hb6, box_at p0_5 hb6, box_at p0_6 hb6, box_at p0_7 hb6, box_at p0_8 hb6, box_at p0_9 hb6, box_at p0_10 hb6, box_at p0_11 hb6, box_at p0_12 hb6⟩ (fun _ => ?_)
        clear hK K
        try simp only [Act.put, List.setIfInBounds_toArray, List.set_cons_zero, List.set_cons_succ]
        repeat (refine' wpV_read _ (by kernel_rfl) (fun w' hS' => ?_) ?_; rotate_left; · ((try dsimp only at hS'); go_simp; (try with_reducible rfl)); (try simp only [Act.put, List.setIfInBounds_toArray, List.set_cons_zero, List.set_cons_succ]))
        refine wpV_do (by kernel_rfl) (fun K hK => ?_)
        have fr := fun j => HP6.out.frozen j
        have r2 := HP6.out.cell (i := 2) rfl
        have r1 := HP6.out.cell (i := 1) rfl
        have r0 := HP6.out.cell (i := 0) rfl
        go_simp
        obtain ⟨X7, hX7⟩ : ∃ x0, x0 = (((X6.setCell ⟨X1.heap.size, 0, none⟩ (.slice ad_4 nd_4 cd_4)).setCell ⟨X1.heap.size, 1, none⟩ (.slice ad_5 nd_5 cd_5)).setCell ⟨X1.heap.size, 2, none⟩ (.slice ad_6 nd_6 cd_6)) := ⟨_, rfl⟩
        have hb7 : Below U.heap.size U X7 := by rw [hX7]; exact (((hb6.setCell (by show U.heap.size ≤ X1.heap.size; omega) _).setCell (by show U.heap.size ≤ X1.heap.size; omega) _).setCell (by show U.heap.size ≤ X1.heap.size; omega) _)
        have HP7 : Hid (BoxN X7 X1.heap.size 26 [.slice ad_4 nd_4 cd_4, .slice ad_5 nd_5 cd_5, .slice ad_6 nd_6 cd_6]) := by unfold Hid; rw [hX7]; exact (((HP6.out.set 0 (.slice ad_4 nd_4 cd_4)).set 1 (.slice ad_5 nd_5 cd_5)).set 2 (.slice ad_6 nd_6 cd_6))
        have HA7 : Hid (BoxN X7 U.heap.size 22 [.slice ad_2 nd_2 cd_2, .slice ad_3 nd_3 cd_3]) := by unfold Hid; rw [hX7]; exact (((HA6.out.other (by omega) 0 (.slice ad_4 nd_4 cd_4)).other (by omega) 1 (.slice ad_5 nd_5 cd_5)).other (by omega) 2 (.slice ad_6 nd_6 cd_6))
        rw [← hX7]
        clear hX7 r0 r1 r2 fr
        refine hK.out _ _ ⟨hb7, box_at p0_2 hb7, box_at p0_3 hb7, box_at p0_4 hb7, box_at p0_5 hb7, box_at p0_6 hb7, box_at p0_7 hb7, box_at p0_8 hb7, box_at p0_9 hb7, box_at p0_10 hb7, box_at p0_11 hb7, box_at p0_12 hb7⟩ (fun _ => ?_)
        clear hK K
        try simp only [Act.put, List.setIfInBounds_toArray, List.set_cons_zero, List.set_cons_succ]
        repeat (refine' wpV_read _ (by kernel_rfl) (fun w' hS' => ?_) ?_; rotate_left; · ((try dsimp only at hS'); go_simp; (try with_reducible rfl)); (try simp only [Act.put, List.setIfInBounds_toArray, List.set_cons_zero, List.set_cons_succ]))
        refine wpV_done ?_
        go_wp2_with fail
        refine NoPanic.normal ?_
        go_wp2_with fail
        have HF := Lib.hid hb7
        have hW2 := HUB.out.trans (hb7.mono hsU)
        have HLL := Lib.hid (rd2X HA7.out (sInts.rd_below F_d_matrix_columns.out hW2) (sInts.rd_below F_d_matrix_chain.out hW2))
        go_meet
        exact ⟨U.heap.size, X1.heap.size, rfl, rfl, rfl, by omega, HF, HLL, HP7⟩
    · skip
      refine wpV_or (by kernel_rfl) (fun K hK => ?_) ?_
      · skip
        go_simp
        go_at_call 55
        refine (impl_isEmptyO _ d.poly _ ((kS rPolyProof).rd_below F_d_poly.out (HUB.out.trans (hb0.mono hsU)))).mono ?_
        rintro e X8 ⟨rfl, hq8⟩
        rw [H2.out]
        have hb8 := keep_b hq8 hb0
        have hsz8 : U.heap.size ≤ X8.heap.size := hq8.size
        refine hK.out _ _ ⟨hb8, box_at p0_2 hb8, box_at p0_3 hb8, box_at p0_4 hb8, box_at p0_5 hb8, box_at p0_6 hb8, box_at p0_7 hb8, box_at p0_8 hb8, box_at p0_9 hb8, box_at p0_10 hb8, box_at p0_11 hb8, box_at p0_12 hb8⟩ (fun _ => ?_)
        clear hK K
        try simp only [Act.put, List.setIfInBounds_toArray, List.set_cons_zero, List.set_cons_succ]
        refine wpV_or (by kernel_rfl) (fun K hK => ?_) ?_
        · skip
          go_simp
          obtain ⟨X9, hX9⟩ : ∃ x0, x0 = (X8.alloc (.cells #[.slice ad_2 nd_2 cd_2, .slice ad_3 nd_3 cd_3] 22)) := ⟨_, rfl⟩
          have hb9 : Below U.heap.size U X9 := by rw [hX9]; exact hb8.alloc hb8.size (.cells #[.slice ad_2 nd_2 cd_2, .slice ad_3 nd_3 cd_3] 22)
          have HA9 : Hid (BoxN X9 X8.heap.size 22 [.slice ad_2 nd_2 cd_2, .slice ad_3 nd_3 cd_3]) := by unfold Hid; rw [hX9]; exact BoxN.new X8 [.slice ad_2 nd_2 cd_2, .slice ad_3 nd_3 cd_3] 22
          have hlt9 : X8.heap.size < X9.heap.size := HA9.out.lt
          have hge9 : U.heap.size ≤ X8.heap.size := hb8.size
          rw [← hX9]
          clear hX9
          refine hK.out _ _ ⟨hb9, box_at p0_2 hb9, box_at p0_3 hb9, box_at p0_4 hb9, box_at p0_5 hb9, box_at p0_6 hb9, box_at p0_7 hb9, box_at p0_8 hb9, box_at p0_9 hb9, box_at p0_10 hb9, box_at p0_11 hb9, box_at p0_12 hb9⟩ (fun _ => ?_)
          clear hK K
          try simp only [Act.put, List.setIfInBounds_toArray, List.set_cons_zero, List.set_cons_succ]
          refine wpV_do (by kernel_rfl) (fun K hK => ?_)
          go_simp
          obtain ⟨X10, hX10⟩ : ∃ x0, x0 = (X9.alloc (.cells #[.slice none 0 0, .slice none 0 0, .slice none 0 0] 26)) := ⟨_, rfl⟩
          have hb10 : Below U.heap.size U X10 := by rw [hX10]; exact hb9.alloc hb9.size (.cells #[.slice none 0 0, .slice none 0 0, .slice none 0 0] 26)
          have HP10 : Hid (BoxN X10 X9.heap.size 26 [.slice none 0 0, .slice none 0 0, .slice none 0 0]) := by unfold Hid; rw [hX10]; exact BoxN.new X9 [.slice none 0 0, .slice none 0 0, .slice none 0 0] 26
          have HA10 : Hid (BoxN X10 X8.heap.size 22 [.slice ad_2 nd_2 cd_2, .slice ad_3 nd_3 cd_3]) := by unfold Hid; rw [hX10]; exact HA9.out.alloc (.cells #[.slice none 0 0, .slice none 0 0, .slice none 0 0] 26)
          have hlt10 : X9.heap.size < X10.heap.size := HP10.out.lt
          have hge10 : U.heap.size ≤ X9.heap.size := hb9.size
          rw [← hX10]
          clear hX10
          refine hK.out _ _ ⟨hb10, box_at p0_2 hb10, box_at p0_3 hb10, box_at p0_4 hb10, box_at p0_5 hb10, box_at p0_6 hb10, box_at p0_7 hb10, box_at p0_8 hb10, box_at p0_9 hb10, box_at p0_10 hb10, box_at p0_11 hb10, box_at p0_12 hb10⟩ (fun _ => ?_)
          clear hK K
          try simp only [Act.put, List.setIfInBounds_toArray, List.set_cons_zero, List.set_cons_succ]
          repeat (refine' wpV_read _ (by kernel_rfl) (fun w' hS' => ?_) ?_; rotate_left; · ((try dsimp only at hS'); go_simp; (try with_reducible rfl)); (try simp only [Act.put, List.setIfInBounds_toArray, List.set_cons_zero, List.set_cons_succ]))
          refine wpV_do (by kernel_rfl) (fun K hK => ?_)
          have fr := fun j => HP10.out.frozen j
          have r2 := HP10.out.cell (i := 2) rfl
          have r1 := HP10.out.cell (i := 1) rfl
          have r0 := HP10.out.cell (i := 0) rfl
          go_simp
          obtain ⟨X11, hX11⟩ : ∃ x0, x0 = (((X10.setCell ⟨X9.heap.size, 0, none⟩ (.slice ad_4 nd_4 cd_4)).setCell ⟨X9.heap.size, 1, none⟩ (.slice ad_5 nd_5 cd_5)).setCell ⟨X9.heap.size, 2, none⟩ (.slice ad_6 nd_6 cd_6)) := ⟨_, rfl⟩
          have hb11 : Below U.heap.size U X11 := by rw [hX11]; exact (((hb10.setCell (by show U.heap.size ≤ X9.heap.size; omega) _).setCell (by show U.heap.size ≤ X9.heap.size; omega) _).setCell (by show U.heap.size ≤ X9.heap.size; omega) _)
          have HP11 : Hid (BoxN X11 X9.heap.size 26 [.slice ad_4 nd_4 cd_4, .slice ad_5 nd_5 cd_5, .slice ad_6 nd_6 cd_6]) := by unfold Hid; rw [hX11]; exact (((HP10.out.set 0 (.slice ad_4 nd_4 cd_4)).set 1 (.slice ad_5 nd_5 cd_5)).set 2 (.slice ad_6 nd_6 cd_6))
          have HA11 : Hid (BoxN X11 X8.heap.size 22 [.slice ad_2 nd_2 cd_2, .slice ad_3 nd_3 cd_3]) := by unfold Hid; rw [hX11]; exact (((HA10.out.other (by omega) 0 (.slice ad_4 nd_4 cd_4)).other (by omega) 1 (.slice ad_5 nd_5 cd_5)).other (by omega) 2 (.slice ad_6 nd_6 cd_6))
          rw [← hX11]
          clear hX11 r0 r1 r2 fr
          refine hK.out _ _ ⟨hb11, box_at p0_2 hb11, box_at p0_3 hb11, box_at p0_4 hb11, box_at p0_5 hb11, box_at p0_6 hb11, box_at p0_7 hb11, box_at p0_8 hb11, box_at p0_9 hb11, box_at p0_10 hb11, box_at p0_11 hb11, box_at p0_12 hb11⟩ (fun _ => ?_)
          clear hK K
          try simp only [Act.put, List.setIfInBounds_toArray, List.set_cons_zero, List.set_cons_succ]
          repeat (refine' wpV_read _ (by kernel_rfl) (fun w' hS' => ?_) ?_; rotate_left; · ((try dsimp only at hS'); go_simp; (try with_reducible rfl)); (try simp only [Act.put, List.setIfInBounds_toArray, List.set_cons_zero, List.set_cons_succ]))
          refine wpV_done ?_
          go_wp2_with fail
          refine NoPanic.normal ?_
          go_wp2_with fail
          have HF := Lib.hid hb11
          have hW2 := HUB.out.trans (hb11.mono hsU)
          have HLL := Lib.hid (rd2X HA11.out (sInts.rd_below F_d_matrix_columns.out hW2) (sInts.rd_below F_d_matrix_chain.out hW2))
          go_meet
          exact ⟨X8.heap.size, X9.heap.size, rfl, rfl, rfl, by omega, HF, HLL, HP11⟩
        · skip
          refine wpV_do (by kernel_rfl) (fun K hK => ?_)
          go_simp
          obtain ⟨X12, hX12⟩ : ∃ x0, x0 = (X8.alloc (.cells #[.slice none 0 0, .slice none 0 0, .slice none 0 0] 26)) := ⟨_, rfl⟩
          have hb12 : Below U.heap.size U X12 := by rw [hX12]; exact hb8.alloc hb8.size (.cells #[.slice none 0 0, .slice none 0 0, .slice none 0 0] 26)
          have HP12 : Hid (BoxN X12 X8.heap.size 26 [.slice none 0 0, .slice none 0 0, .slice none 0 0]) := by unfold Hid; rw [hX12]; exact BoxN.new X8 [.slice none 0 0, .slice none 0 0, .slice none 0 0] 26
          have hlt12 : X8.heap.size < X12.heap.size := HP12.out.lt
          have hge12 : U.heap.size ≤ X8.heap.size := hb8.size
          rw [← hX12]
          clear hX12
          refine hK.out _ _ ⟨hb12, box_at p0_2 hb12, box_at p0_3 hb12, box_at p0_4 hb12, box_at p0_5 hb12, box_at p0_6 hb12, box_at p0_7 hb12, box_at p0_8 hb12, box_at p0_9 hb12, box_at p0_10 hb12, box_at p0_11 hb12, box_at p0_12 hb12⟩ (fun _ => ?_)
          clear hK K
          try simp only [Act.put, List.setIfInBounds_toArray, List.set_cons_zero, List.set_cons_succ]
          refine wpV_do (by kernel_rfl) (fun K hK => ?_)
          go_simp
          obtain ⟨X13, hX13⟩ : ∃ x0, x0 = (X12.alloc (.cells #[.slice ad_2 nd_2 cd_2, .slice ad_3 nd_3 cd_3] 22)) := ⟨_, rfl⟩
          have hb13 : Below U.heap.size U X13 := by rw [hX13]; exact hb12.alloc hb12.size (.cells #[.slice ad_2 nd_2 cd_2, .slice ad_3 nd_3 cd_3] 22)
          have HA13 : Hid (BoxN X13 X12.heap.size 22 [.slice ad_2 nd_2 cd_2, .slice ad_3 nd_3 cd_3]) := by unfold Hid; rw [hX13]; exact BoxN.new X12 [.slice ad_2 nd_2 cd_2, .slice ad_3 nd_3 cd_3] 22
          have HP13 : Hid (BoxN X13 X8.heap.size 26 [.slice none 0 0, .slice none 0 0, .slice none 0 0]) := by unfold Hid; rw [hX13]; exact HP12.out.alloc (.cells #[.slice ad_2 nd_2 cd_2, .slice ad_3 nd_3 cd_3] 22)
          have hlt13 : X12.heap.size < X13.heap.size := HA13.out.lt
          have hge13 : U.heap.size ≤ X12.heap.size := hb12.size
          rw [← hX13]
          clear hX13
          refine hK.out _ _ ⟨hb13, box_at p0_2 hb13, box_at p0_3 hb13, box_at p0_4 hb13, box_at p0_5 hb13, box_at p0_6 hb13, box_at p0_7 hb13, box_at p0_8 hb13, box_at p0_9 hb13, box_at p0_10 hb13, box_at p0_11 hb13, box_at p0_12 hb13⟩ (fun _ => ?_)
          clear hK K
          try simp only [Act.put, List.setIfInBounds_toArray, List.set_cons_zero, List.set_cons_succ]
          repeat (refine' wpV_read _ (by kernel_rfl) (fun w' hS' => ?_) ?_; rotate_left; · ((try dsimp only at hS'); go_simp; (try with_reducible rfl)); (try simp only [Act.put, List.setIfInBounds_toArray, List.set_cons_zero, List.set_cons_succ]))
          refine wpV_do (by kernel_rfl) (fun K hK => ?_)
          have fr := fun j => HP13.out.frozen j
          have r2 := HP13.out.cell (i := 2) rfl
          have r1 := HP13.out.cell (i := 1) rfl
          have r0 := HP13.out.cell (i := 0) rfl
          go_simp
          obtain ⟨X14, hX14⟩ : ∃ x0, x0 = (((X13.setCell ⟨X8.heap.size, 0, none⟩ (.slice ad_4 nd_4 cd_4)).setCell ⟨X8.heap.size, 1, none⟩ (.slice ad_5 nd_5 cd_5)).setCell ⟨X8.heap.size, 2, none⟩ (.slice ad_6 nd_6 cd_6)) := ⟨_, rfl⟩
          have hb14 : Below U.heap.size U X14 := by rw [hX14]; exact (((hb13.setCell (by show U.heap.size ≤ X8.heap.size; omega) _).setCell (by show U.heap.size ≤ X8.heap.size; omega) _).setCell (by show U.heap.size ≤ X8.heap.size; omega) _)
          have HP14 : Hid (BoxN X14 X8.heap.size 26 [.slice ad_4 nd_4 cd_4, .slice ad_5 nd_5 cd_5, .slice ad_6 nd_6 cd_6]) := by unfold Hid; rw [hX14]; exact (((HP13.out.set 0 (.slice ad_4 nd_4 cd_4)).set 1 (.slice ad_5 nd_5 cd_5)).set 2 (.slice ad_6 nd_6 cd_6))
          have HA14 : Hid (BoxN X14 X12.heap.size 22 [.slice ad_2 nd_2 cd_2, .slice ad_3 nd_3 cd_3]) := by unfold Hid; rw [hX14]; exact (((HA13.out.other (by omega) 0 (.slice ad_4 nd_4 cd_4)).other (by omega) 1 (.slice ad_5 nd_5 cd_5)).other (by omega) 2 (.slice ad_6 nd_6 cd_6))
          rw [← hX14]
          clear hX14 r0 r1 r2 fr
          refine hK.out _ _ ⟨hb14, box_at p0_2 hb14, box_at p0_3 hb14, box_at p0_4 hb14, box_at p0_5 hb14, box_at p0_6 hb14, box_at p0_7 hb14, box_at p0_8 hb14, box_at p0_9 hb14, box_at p0_10 hb14, box_at p0_11 hb14, box_at p0_12 hb14⟩ (fun _ => ?_)
          clear hK K
          try simp only [Act.put, List.setIfInBounds_toArray, List.set_cons_zero, List.set_cons_succ]
          repeat (refine' wpV_read _ (by kernel_rfl) (fun w' hS' => ?_) ?_; rotate_left; · ((try dsimp only at hS'); go_simp; (try with_reducible rfl)); (try simp only [Act.put, List.setIfInBounds_toArray, List.set_cons_zero, List.set_cons_succ]))
          refine wpV_done ?_
          go_wp2_with fail
          refine NoPanic.normal ?_
          go_wp2_with fail
          have HF := Lib.hid hb14
          have hW2 := HUB.out.trans (hb14.mono hsU)
          have HLL := Lib.hid (rd2X HA14.out (sInts.rd_below F_d_matrix_columns.out hW2) (sInts.rd_below F_d_matrix_chain.out hW2))
          go_meet
          exact ⟨X12.heap.size, X8.heap.size, rfl, rfl, rfl, by omega, HF, HLL, HP14⟩
      · skip
        refine wpV_do (by kernel_rfl) (fun K hK => ?_)
        go_simp
        obtain ⟨X15, hX15⟩ : ∃ x0, x0 = ((U.alloc (.cells #[.slice none 0 0, .slice none 0 0, .slice none 0 0] 26)).drew) := ⟨_, rfl⟩
        have hb15 : Below U.heap.size U X15 := by rw [hX15]; exact hb0.alloc hb0.size (.cells #[.slice none 0 0, .slice none 0 0, .slice none 0 0] 26)
        have HP15 : Hid (BoxN X15 U.heap.size 26 [.slice none 0 0, .slice none 0 0, .slice none 0 0]) := by unfold Hid; rw [hX15]; exact BoxN.below (BoxN.new U [.slice none 0 0, .slice none 0 0, .slice none 0 0] 26) (Below.refl _ _).drew
        have hlt15 : U.heap.size < X15.heap.size := HP15.out.lt
        have hge15 : U.heap.size ≤ U.heap.size := Nat.le_refl _
        rw [← hX15]
        clear hX15
        refine hK.out _ _ ⟨hb15, box_at p0_2 hb15, box_at p0_3 hb15, box_at p0_4 hb15, box_at p0_5 hb15, box_at p0_6 hb15, box_at p0_7 hb15, box_at p0_8 hb15, box_at p0_9 hb15, box_at p0_10 hb15, box_at p0_11 hb15, box_at p0_12 hb15⟩ (fun _ => ?_)
        clear hK K
        try simp only [Act.put, List.setIfInBounds_toArray, List.set_cons_zero, List.set_cons_succ]
        refine wpV_or (by kernel_rfl) (fun K hK => ?_) ?_
        · skip
          go_simp
          obtain ⟨X16, hX16⟩ : ∃ x0, x0 = (X15.alloc (.cells #[.slice ad_2 nd_2 cd_2, .slice ad_3 nd_3 cd_3] 22)) := ⟨_, rfl⟩
          have hb16 : Below U.heap.size U X16 := by rw [hX16]; exact hb15.alloc hb15.size (.cells #[.slice ad_2 nd_2 cd_2, .slice ad_3 nd_3 cd_3] 22)
          have HA16 : Hid (BoxN X16 X15.heap.size 22 [.slice ad_2 nd_2 cd_2, .slice ad_3 nd_3 cd_3]) := by unfold Hid; rw [hX16]; exact BoxN.new X15 [.slice ad_2 nd_2 cd_2, .slice ad_3 nd_3 cd_3] 22
          have HP16 : Hid (BoxN X16 U.heap.size 26 [.slice none 0 0, .slice none 0 0, .slice none 0 0]) := by unfold Hid; rw [hX16]; exact HP15.out.alloc (.cells #[.slice ad_2 nd_2 cd_2, .slice ad_3 nd_3 cd_3] 22)
          have hlt16 : X15.heap.size < X16.heap.size := HA16.out.lt
          have hge16 : U.heap.size ≤ X15.heap.size := hb15.size
          rw [← hX16]
          clear hX16
          refine hK.out _ _ ⟨hb16, box_at p0_2 hb16, box_at p0_3 hb16, box_at p0_4 hb16, box_at p0_5 hb16, box_at p0_6 hb16, box_at p0_7 hb16, box_at p0_8 hb16, box_at p0_9 hb16, box_at p0_10 hb16, box_at p0_11 hb16, box_at p0_12 hb16⟩ (fun _ => ?_)
          clear hK K
          try simp only [Act.put, List.setIfInBounds_toArray, List.set_cons_zero, List.set_cons_succ]
          refine wpV_do (by kernel_rfl) (fun K hK => ?_)
          go_simp
          go_at_call 55
          refine (impl_isEmptyO _ d.poly _ ((kS rPolyProof).rd_below F_d_poly.out (HUB.out.trans (hb16.mono hsU)))).mono ?_
          rintro e X17 ⟨rfl, hq17⟩
          rw [H2.out]
          have hb17 := keep_b hq17 hb16
          have HA17 := Lib.hid (HA16.out.below hq17)
          have HP17 := Lib.hid (HP16.out.below hq17)
          have hsz17 : X16.heap.size ≤ X17.heap.size := hq17.size
          refine hK.out _ _ ⟨hb17, box_at p0_2 hb17, box_at p0_3 hb17, box_at p0_4 hb17, box_at p0_5 hb17, box_at p0_6 hb17, box_at p0_7 hb17, box_at p0_8 hb17, box_at p0_9 hb17, box_at p0_10 hb17, box_at p0_11 hb17, box_at p0_12 hb17⟩ (fun _ => ?_)
          clear hK K
          try simp only [Act.put, List.setIfInBounds_toArray, List.set_cons_zero, List.set_cons_succ]
          repeat (refine' wpV_read _ (by kernel_rfl) (fun w' hS' => ?_) ?_; rotate_left; · ((try dsimp only at hS'); go_simp; (try with_reducible rfl)); (try simp only [Act.put, List.setIfInBounds_toArray, List.set_cons_zero, List.set_cons_succ]))
          refine wpV_do (by kernel_rfl) (fun K hK => ?_)
          have fr := fun j => HP17.out.frozen j
          have r2 := HP17.out.cell (i := 2) rfl
          have r1 := HP17.out.cell (i := 1) rfl
          have r0 := HP17.out.cell (i := 0) rfl
          go_simp
          obtain ⟨X18, hX18⟩ : ∃ x0, x0 = (((X17.setCell ⟨U.heap.size, 0, none⟩ (.slice ad_4 nd_4 cd_4)).setCell ⟨U.heap.size, 1, none⟩ (.slice ad_5 nd_5 cd_5)).setCell ⟨U.heap.size, 2, none⟩ (.slice ad_6 nd_6 cd_6)) := ⟨_, rfl⟩
          have hb18 : Below U.heap.size U X18 := by rw [hX18]; exact (((hb17.setCell (by show U.heap.size ≤ U.heap.size; omega) _).setCell (by show U.heap.size ≤ U.heap.size; omega) _).setCell (by show U.heap.size ≤ U.heap.size; omega) _)
          have HP18 : Hid (BoxN X18 U.heap.size 26 [.slice ad_4 nd_4 cd_4, .slice ad_5 nd_5 cd_5, .slice ad_6 nd_6 cd_6]) := by unfold Hid; rw [hX18]; exact (((HP17.out.set 0 (.slice ad_4 nd_4 cd_4)).set 1 (.slice ad_5 nd_5 cd_5)).set 2 (.slice ad_6 nd_6 cd_6))
          have HA18 : Hid (BoxN X18 X15.heap.size 22 [.slice ad_2 nd_2 cd_2, .slice ad_3 nd_3 cd_3]) := by unfold Hid; rw [hX18]; exact (((HA17.out.other (by omega) 0 (.slice ad_4 nd_4 cd_4)).other (by omega) 1 (.slice ad_5 nd_5 cd_5)).other (by omega) 2 (.slice ad_6 nd_6 cd_6))
          rw [← hX18]
          clear hX18 r0 r1 r2 fr
          refine hK.out _ _ ⟨hb18, box_at p0_2 hb18, box_at p0_3 hb18, box_at p0_4 hb18, box_at p0_5 hb18, box_at p0_6 hb18, box_at p0_7 hb18, box_at p0_8 hb18, box_at p0_9 hb18, box_at p0_10 hb18, box_at p0_11 hb18, box_at p0_12 hb18⟩ (fun _ => ?_)
          clear hK K
          try simp only [Act.put, List.setIfInBounds_toArray, List.set_cons_zero, List.set_cons_succ]
          repeat (refine' wpV_read _ (by kernel_rfl) (fun w' hS' => ?_) ?_; rotate_left; · ((try dsimp only at hS'); go_simp; (try with_reducible rfl)); (try simp only [Act.put, List.setIfInBounds_toArray, List.set_cons_zero, List.set_cons_succ]))
          refine wpV_done ?_
          go_wp2_with fail
          refine NoPanic.normal ?_
          go_wp2_with fail
          have HF := Lib.hid hb18
          have hW2 := HUB.out.trans (hb18.mono hsU)
          have HLL := Lib.hid (rd2X HA18.out (sInts.rd_below F_d_matrix_columns.out hW2) (sInts.rd_below F_d_matrix_chain.out hW2))
          go_meet
          exact ⟨X15.heap.size, U.heap.size, rfl, rfl, rfl, by omega, HF, HLL, HP18⟩
        · skip
          refine wpV_do (by kernel_rfl) (fun K hK => ?_)
          go_simp
          go_at_call 55
          refine (impl_isEmptyO _ d.poly _ ((kS rPolyProof).rd_below F_d_poly.out (HUB.out.trans (hb15.mono hsU)))).mono ?_
          rintro e X19 ⟨rfl, hq19⟩
          rw [H2.out]
          have hb19 := keep_b hq19 hb15
          have HP19 := Lib.hid (HP15.out.below hq19)
          have hsz19 : X15.heap.size ≤ X19.heap.size := hq19.size
          refine hK.out _ _ ⟨hb19, box_at p0_2 hb19, box_at p0_3 hb19, box_at p0_4 hb19, box_at p0_5 hb19, box_at p0_6 hb19, box_at p0_7 hb19, box_at p0_8 hb19, box_at p0_9 hb19, box_at p0_10 hb19, box_at p0_11 hb19, box_at p0_12 hb19⟩ (fun _ => ?_)
          clear hK K
          try simp only [Act.put, List.setIfInBounds_toArray, List.set_cons_zero, List.set_cons_succ]
          refine wpV_do (by kernel_rfl) (fun K hK => ?_)
          go_simp
          obtain ⟨X20, hX20⟩ : ∃ x0, x0 = (X19.alloc (.cells #[.slice ad_2 nd_2 cd_2, .slice ad_3 nd_3 cd_3] 22)) := ⟨_, rfl⟩
          have hb20 : Below U.heap.size U X20 := by rw [hX20]; exact hb19.alloc hb19.size (.cells #[.slice ad_2 nd_2 cd_2, .slice ad_3 nd_3 cd_3] 22)
          have HA20 : Hid (BoxN X20 X19.heap.size 22 [.slice ad_2 nd_2 cd_2, .slice ad_3 nd_3 cd_3]) := by unfold Hid; rw [hX20]; exact BoxN.new X19 [.slice ad_2 nd_2 cd_2, .slice ad_3 nd_3 cd_3] 22
          have HP20 : Hid (BoxN X20 U.heap.size 26 [.slice none 0 0, .slice none 0 0, .slice none 0 0]) := by unfold Hid; rw [hX20]; exact HP19.out.alloc (.cells #[.slice ad_2 nd_2 cd_2, .slice ad_3 nd_3 cd_3] 22)
          have hlt20 : X19.heap.size < X20.heap.size := HA20.out.lt
          have hge20 : U.heap.size ≤ X19.heap.size := hb19.size
          rw [← hX20]
          clear hX20
          refine hK.out _ _ ⟨hb20, box_at p0_2 hb20, box_at p0_3 hb20, box_at p0_4 hb20, box_at p0_5 hb20, box_at p0_6 hb20, box_at p0_7 hb20, box_at p0_8 hb20, box_at p0_9 hb20, box_at p0_10 hb20, box_at p0_11 hb20, box_at p0_12 hb20⟩ (fun _ => ?_)
          clear hK K
          try simp only [Act.put, List.setIfInBounds_toArray, List.set_cons_zero, List.set_cons_succ]
          repeat (refine' wpV_read _ (by kernel_rfl) (fun w' hS' => ?_) ?_; rotate_left; · ((try dsimp only at hS'); go_simp; (try with_reducible rfl)); (try simp only [Act.put, List.setIfInBounds_toArray, List.set_cons_zero, List.set_cons_succ]))
          refine wpV_do (by kernel_rfl) (fun K hK => ?_)
          have fr := fun j => HP20.out.frozen j
          have r2 := HP20.out.cell (i := 2) rfl
          have r1 := HP20.out.cell (i := 1) rfl
          have r0 := HP20.out.cell (i := 0) rfl
          go_simp
          obtain ⟨X21, hX21⟩ : ∃ x0, x0 = (((X20.setCell ⟨U.heap.size, 0, none⟩ (.slice ad_4 nd_4 cd_4)).setCell ⟨U.heap.size, 1, none⟩ (.slice ad_5 nd_5 cd_5)).setCell ⟨U.heap.size, 2, none⟩ (.slice ad_6 nd_6 cd_6)) := ⟨_, rfl⟩
          have hb21 : Below U.heap.size U X21 := by rw [hX21]; exact (((hb20.setCell (by show U.heap.size ≤ U.heap.size; omega) _).setCell (by show U.heap.size ≤ U.heap.size; omega) _).setCell (by show U.heap.size ≤ U.heap.size; omega) _)
          have HP21 : Hid (BoxN X21 U.heap.size 26 [.slice ad_4 nd_4 cd_4, .slice ad_5 nd_5 cd_5, .slice ad_6 nd_6 cd_6]) := by unfold Hid; rw [hX21]; exact (((HP20.out.set 0 (.slice ad_4 nd_4 cd_4)).set 1 (.slice ad_5 nd_5 cd_5)).set 2 (.slice ad_6 nd_6 cd_6))
          have HA21 : Hid (BoxN X21 X19.heap.size 22 [.slice ad_2 nd_2 cd_2, .slice ad_3 nd_3 cd_3]) := by unfold Hid; rw [hX21]; exact (((HA20.out.other (by omega) 0 (.slice ad_4 nd_4 cd_4)).other (by omega) 1 (.slice ad_5 nd_5 cd_5)).other (by omega) 2 (.slice ad_6 nd_6 cd_6))
          rw [← hX21]
          clear hX21 r0 r1 r2 fr
          refine hK.out _ _ ⟨hb21, box_at p0_2 hb21, box_at p0_3 hb21, box_at p0_4 hb21, box_at p0_5 hb21, box_at p0_6 hb21, box_at p0_7 hb21, box_at p0_8 hb21, box_at p0_9 hb21, box_at p0_10 hb21, box_at p0_11 hb21, box_at p0_12 hb21⟩ (fun _ => ?_)
          clear hK K
          try simp only [Act.put, List.setIfInBounds_toArray, List.set_cons_zero, List.set_cons_succ]
          repeat (refine' wpV_read _ (by kernel_rfl) (fun w' hS' => ?_) ?_; rotate_left; · ((try dsimp only at hS'); go_simp; (try with_reducible rfl)); (try simp only [Act.put, List.setIfInBounds_toArray, List.set_cons_zero, List.set_cons_succ]))
          refine wpV_done ?_
          go_wp2_with fail
          refine NoPanic.normal ?_
          go_wp2_with fail
          have HF := Lib.hid hb21
          have hW2 := HUB.out.trans (hb21.mono hsU)
          have HLL := Lib.hid (rd2X HA21.out (sInts.rd_below F_d_matrix_columns.out hW2) (sInts.rd_below F_d_matrix_chain.out hW2))
          go_meet
          exact ⟨X19.heap.size, U.heap.size, rfl, rfl, rfl, by omega, HF, HLL, HP21⟩
  case rest =>
    obtain ⟨aL, aB, rfl, rfl, rfl, hab, HUX, HL5, HP0⟩ := hcut
    obtain ⟨X, hX⟩ : ∃ X, X = wc := ⟨_, rfl⟩
    rw [← hX] at HUX HL5 HP0 ⊢
    clear hX
    have HWX := Lib.hid (HUB.out.trans (HUX.out.mono hsU))
    have haX : aB < X.heap.size := HP0.out.lt
    have hUX : U.heap.size ≤ X.heap.size := HUX.out.size
    have pU_2 := Lib.hid p0_2
    have pU_3 := Lib.hid p0_3
    have pU_4 := Lib.hid p0_4
    have pU_5 := Lib.hid p0_5
    have pU_6 := Lib.hid p0_6
    have pU_7 := Lib.hid p0_7
    have pU_8 := Lib.hid p0_8
    have pU_9 := Lib.hid p0_9
    have pU_10 := Lib.hid p0_10
    have pU_11 := Lib.hid p0_11
    have pU_12 := Lib.hid p0_12
    clear p0_2 p0_3 p0_4 p0_5 p0_6 p0_7 p0_8 p0_9 p0_10 p0_11 p0_12
    by_cases harg : d.argument = 2
    · have g3 : (d.argument == 2) = true := by rw [harg]; rfl
      have HARG := Lib.hid harg
      clear harg
      obtain ⟨p0_0, p0_1, p0_2, p0_3, p0_4, p0_5, p0_6, p0_7, p0_8, p0_9, p0_10, p0_11, p0_12⟩ := FX.out _ HWX.out
      clear p0_1
      go_upto_region 4 with fail
      go_cut [6, 8] from 30 to 48 (fun v6 v8 wx => ∃ aL : Nat, v6 = .slice (some ⟨aL, 0, none⟩) 3 3 ∧ v8 = .bool q4 ∧ Hid (Below U.heap.size U wx) ∧ Hid (RdR rL wx (.slice (some ⟨aL, 0, none⟩) 3 3) [d.poly.places, d.poly.powers, d.poly.chain]) ∧ Hid (BoxN wx aB 26 [.slice ad_10 nd_10 cd_10, .slice ad_11 nd_11 cd_11, .slice ad_12 nd_12 cd_12]))
      case first =>
        refine wp_region_noPanic ?_
        refine wp_region_V (fun w' => Below U.heap.size U w' ∧ w'.cell? ⟨w.heap.size, 2, none⟩ = some (.slice ad_2 nd_2 cd_2) ∧ w'.cell? ⟨w.heap.size, 3, none⟩ = some (.slice ad_3 nd_3 cd_3) ∧ w'.cell? ⟨w.heap.size, 4, none⟩ = some (.slice ad_4 nd_4 cd_4) ∧ w'.cell? ⟨w.heap.size, 5, none⟩ = some (.slice ad_5 nd_5 cd_5) ∧ w'.cell? ⟨w.heap.size, 6, none⟩ = some (.slice ad_6 nd_6 cd_6) ∧ w'.cell? ⟨w.heap.size, 7, none⟩ = some (.slice ad_7 nd_7 cd_7) ∧ w'.cell? ⟨w.heap.size, 8, none⟩ = some (.slice ad_8 nd_8 cd_8) ∧ w'.cell? ⟨w.heap.size, 9, none⟩ = some (.slice ad_9 nd_9 cd_9) ∧ w'.cell? ⟨w.heap.size, 10, none⟩ = some (.slice ad_10 nd_10 cd_10) ∧ w'.cell? ⟨w.heap.size, 11, none⟩ = some (.slice ad_11 nd_11 cd_11) ∧ w'.cell? ⟨w.heap.size, 12, none⟩ = some (.slice ad_12 nd_12 cd_12)) 22 19 (.rd 0 (.rd 1 (.rd 2 (.rd 3 (.rd 4 (.rd 5 (.rd 6 (.rd 7 (.rd 8 (.rd 10 (.rd 11 (.rd 12 (.rd 13 (.rd 14 (.alt 9 (.alt 15 (.rd 16 (.alt 17 (.rd 18 .done) .nil)) .nil) (.alt 15 (.alt 9 (.rd 16 (.alt 17 (.rd 18 .done) .nil)) .nil) .nil)))))))))))))))) [] (by kernel_rfl) (by kernel_rfl) rfl (fun _ _ _ _ _ h => h) ⟨HUX.out.drew, p0_2, p0_3, p0_4, p0_5, p0_6, p0_7, p0_8, p0_9, p0_10, p0_11, p0_12⟩ ?_
        simp only [pickV, pickN, List.getElem?_cons_zero, List.getElem?_cons_succ]
        have hb0 : Below U.heap.size U X.drew := HUX.out.drew
        repeat (refine' wpV_read _ (by kernel_rfl) (fun w' hS' => ?_) ?_; rotate_left; · ((try dsimp only at hS'); go_simp; (try with_reducible rfl)); (try simp only [Act.put, List.setIfInBounds_toArray, List.set_cons_zero, List.set_cons_succ]))
        refine wpV_or (by kernel_rfl) (fun K hK => ?_) ?_
        · skip
          go_simp
          obtain ⟨X1, hX1⟩ : ∃ x0, x0 = ((X.alloc (.cells #[.slice ad_7 nd_7 cd_7, .slice ad_8 nd_8 cd_8, .slice ad_9 nd_9 cd_9] 22)).drew) := ⟨_, rfl⟩
          have hb1 : Below U.heap.size U X1 := by rw [hX1]; exact hb0.alloc hb0.size (.cells #[.slice ad_7 nd_7 cd_7, .slice ad_8 nd_8 cd_8, .slice ad_9 nd_9 cd_9] 22)
          have HA1 : Hid (BoxN X1 X.heap.size 22 [.slice ad_7 nd_7 cd_7, .slice ad_8 nd_8 cd_8, .slice ad_9 nd_9 cd_9]) := by unfold Hid; rw [hX1]; exact BoxN.below (BoxN.new X [.slice ad_7 nd_7 cd_7, .slice ad_8 nd_8 cd_8, .slice ad_9 nd_9 cd_9] 22) (Below.refl _ _).drew
          have HP1 : Hid (BoxN X1 aB 26 [.slice ad_4 nd_4 cd_4, .slice ad_5 nd_5 cd_5, .slice ad_6 nd_6 cd_6]) := by unfold Hid; rw [hX1]; exact BoxN.below (HP0.out.alloc (.cells #[.slice ad_7 nd_7 cd_7, .slice ad_8 nd_8 cd_8, .slice ad_9 nd_9 cd_9] 22)) (Below.refl _ _).drew
          have hlt1 : X.heap.size < X1.heap.size := HA1.out.lt
          have hge1 : U.heap.size ≤ X.heap.size := hUX
          rw [← hX1]
          clear hX1
          refine hK.out _ _ ⟨hb1, box_at pU_2.out hb1, box_at pU_3.out hb1, box_at pU_4.out hb1, box_at pU_5.out hb1, box_at pU_6.out hb1, box_at pU_7.out hb1, box_at pU_8.out hb1, box_at pU_9.out hb1, box_at pU_10.out hb1, box_at pU_11.out hb1, box_at pU_12.out hb1⟩ (fun _ => ?_)
          clear hK K
          try simp only [Act.put, List.setIfInBounds_toArray, List.set_cons_zero, List.set_cons_succ]
          refine wpV_do (by kernel_rfl) (fun K hK => ?_)
          go_simp
          go_at_call 56
          refine (impl_isEmptyM _ d.matrix _ ((kS rMatrixProof).rd_below F_d_matrix.out (HUB.out.trans (hb1.mono hsU)))).mono ?_
          rintro e X2 ⟨rfl, hq2⟩
          rw [H4.out]
          have hb2 := keep_b hq2 hb1
          have HA2 := Lib.hid (HA1.out.below hq2)
          have HP2 := Lib.hid (HP1.out.below hq2)
          have hsz2 : X1.heap.size ≤ X2.heap.size := hq2.size
          refine hK.out _ _ ⟨hb2, box_at pU_2.out hb2, box_at pU_3.out hb2, box_at pU_4.out hb2, box_at pU_5.out hb2, box_at pU_6.out hb2, box_at pU_7.out hb2, box_at pU_8.out hb2, box_at pU_9.out hb2, box_at pU_10.out hb2, box_at pU_11.out hb2, box_at pU_12.out hb2⟩ (fun _ => ?_)
          clear hK K
          try simp only [Act.put, List.setIfInBounds_toArray, List.set_cons_zero, List.set_cons_succ]
          repeat (refine' wpV_read _ (by kernel_rfl) (fun w' hS' => ?_) ?_; rotate_left; · ((try dsimp only at hS'); go_simp; (try with_reducible rfl)); (try simp only [Act.put, List.setIfInBounds_toArray, List.set_cons_zero, List.set_cons_succ]))
          refine wpV_do (by kernel_rfl) (fun K hK => ?_)
          have fr := fun j => HP2.out.frozen j
          have r2 := HP2.out.cell (i := 2) rfl
          have r1 := HP2.out.cell (i := 1) rfl
          have r0 := HP2.out.cell (i := 0) rfl
          go_simp
          obtain ⟨X3, hX3⟩ : ∃ x0, x0 = (((X2.setCell ⟨aB, 0, none⟩ (.slice ad_10 nd_10 cd_10)).setCell ⟨aB, 1, none⟩ (.slice ad_11 nd_11 cd_11)).setCell ⟨aB, 2, none⟩ (.slice ad_12 nd_12 cd_12)) := ⟨_, rfl⟩
          have hb3 : Below U.heap.size U X3 := by rw [hX3]; exact (((hb2.setCell (by show U.heap.size ≤ aB; omega) _).setCell (by show U.heap.size ≤ aB; omega) _).setCell (by show U.heap.size ≤ aB; omega) _)
          have HP3 : Hid (BoxN X3 aB 26 [.slice ad_10 nd_10 cd_10, .slice ad_11 nd_11 cd_11, .slice ad_12 nd_12 cd_12]) := by unfold Hid; rw [hX3]; exact (((HP2.out.set 0 (.slice ad_10 nd_10 cd_10)).set 1 (.slice ad_11 nd_11 cd_11)).set 2 (.slice ad_12 nd_12 cd_12))
          have HA3 : Hid (BoxN X3 X.heap.size 22 [.slice ad_7 nd_7 cd_7, .slice ad_8 nd_8 cd_8, .slice ad_9 nd_9 cd_9]) := by unfold Hid; rw [hX3]; exact (((HA2.out.other (by omega) 0 (.slice ad_10 nd_10 cd_10)).other (by omega) 1 (.slice ad_11 nd_11 cd_11)).other (by omega) 2 (.slice ad_12 nd_12 cd_12))
          rw [← hX3]
          clear hX3 r0 r1 r2 fr
          refine hK.out _ _ ⟨hb3, box_at pU_2.out hb3, box_at pU_3.out hb3, box_at pU_4.out hb3, box_at pU_5.out hb3, box_at pU_6.out hb3, box_at pU_7.out hb3, box_at pU_8.out hb3, box_at pU_9.out hb3, box_at pU_10.out hb3, box_at pU_11.out hb3, box_at pU_12.out hb3⟩ (fun _ => ?_)
          clear hK K
          try simp only [Act.put, List.setIfInBounds_toArray, List.set_cons_zero, List.set_cons_succ]
          repeat (refine' wpV_read _ (by kernel_rfl) (fun w' hS' => ?_) ?_; rotate_left; · ((try dsimp only at hS'); go_simp; (try with_reducible rfl)); (try simp only [Act.put, List.setIfInBounds_toArray, List.set_cons_zero, List.set_cons_succ]))
          refine wpV_done ?_
          go_wp2_with fail
          refine NoPanic.normal ?_
          go_wp2_with fail
          have HF := Lib.hid hb3
          have hW2 := HUB.out.trans (hb3.mono hsU)
          have HLL := Lib.hid (rd3X HA3.out (sInts.rd_below F_d_poly_places.out hW2) (sInts.rd_below F_d_poly_powers.out hW2) (sInts.rd_below F_d_poly_chain.out hW2))
          go_meet
          exact ⟨X.heap.size, rfl, rfl, HF, HLL, HP3⟩
        · skip
          refine wpV_do (by kernel_rfl) (fun K hK => ?_)
          go_simp
          go_at_call 56
          refine (impl_isEmptyM _ d.matrix _ ((kS rMatrixProof).rd_below F_d_matrix.out (HUB.out.trans (hb0.mono hsU)))).mono ?_
          rintro e X4 ⟨rfl, hq4⟩
          rw [H4.out]
          have hb4 := keep_b hq4 hb0
          have HP4 := Lib.hid ((BoxN.below HP0.out (Below.refl _ _).drew).below hq4)
          have hsz4 : X.heap.size ≤ X4.heap.size := hq4.size
          refine hK.out _ _ ⟨hb4, box_at pU_2.out hb4, box_at pU_3.out hb4, box_at pU_4.out hb4, box_at pU_5.out hb4, box_at pU_6.out hb4, box_at pU_7.out hb4, box_at pU_8.out hb4, box_at pU_9.out hb4, box_at pU_10.out hb4, box_at pU_11.out hb4, box_at pU_12.out hb4⟩ (fun _ => ?_)
          clear hK K
          try simp only [Act.put, List.setIfInBounds_toArray, List.set_cons_zero, List.set_cons_succ]
          refine wpV_do (by kernel_rfl) (fun K hK => ?_)
          go_simp
          obtain ⟨X5, hX5⟩ : ∃ x0, x0 = (X4.alloc (.cells #[.slice ad_7 nd_7 cd_7, .slice ad_8 nd_8 cd_8, .slice ad_9 nd_9 cd_9] 22)) := ⟨_, rfl⟩
          have hb5 : Below U.heap.size U X5 := by rw [hX5]; exact hb4.alloc hb4.size (.cells #[.slice ad_7 nd_7 cd_7, .slice ad_8 nd_8 cd_8, .slice ad_9 nd_9 cd_9] 22)
          have HA5 : Hid (BoxN X5 X4.heap.size 22 [.slice ad_7 nd_7 cd_7, .slice ad_8 nd_8 cd_8, .slice ad_9 nd_9 cd_9]) := by unfold Hid; rw [hX5]; exact BoxN.new X4 [.slice ad_7 nd_7 cd_7, .slice ad_8 nd_8 cd_8, .slice ad_9 nd_9 cd_9] 22
          have HP5 : Hid (BoxN X5 aB 26 [.slice ad_4 nd_4 cd_4, .slice ad_5 nd_5 cd_5, .slice ad_6 nd_6 cd_6]) := by unfold Hid; rw [hX5]; exact HP4.out.alloc (.cells #[.slice ad_7 nd_7 cd_7, .slice ad_8 nd_8 cd_8, .slice ad_9 nd_9 cd_9] 22)
          have hlt5 : X4.heap.size < X5.heap.size := HA5.out.lt
          have hge5 : U.heap.size ≤ X4.heap.size := hb4.size
          rw [← hX5]
          clear hX5
          refine hK.out _ _ ⟨hb5, box_at pU_2.out hb5, box_at pU_3.out hb5, box_at pU_4.out hb5, box_at pU_5.out hb5, box_at pU_6.out hb5, box_at pU_7.out hb5, box_at pU_8.out hb5, box_at pU_9.out hb5, box_at pU_10.out hb5, box_at pU_11.out hb5, box_at pU_12.out hb5⟩ (fun _ => ?_)
          clear hK K
          try simp only [Act.put, List.setIfInBounds_toArray, List.set_cons_zero, List.set_cons_succ]
          repeat (refine' wpV_read _ (by kernel_rfl) (fun w' hS' => ?_) ?_; rotate_left; · ((try dsimp only at hS'); go_simp; (try with_reducible rfl)); (try simp only [Act.put, List.setIfInBounds_toArray, List.set_cons_zero, List.set_cons_succ]))
          refine wpV_do (by kernel_rfl) (fun K hK => ?_)
          have fr := fun j => HP5.out.frozen j
          have r2 := HP5.out.cell (i := 2) rfl
          have r1 := HP5.out.cell (i := 1) rfl
          have r0 := HP5.out.cell (i := 0) rfl
          go_simp
          obtain ⟨X6, hX6⟩ : ∃ x0, x0 = (((X5.setCell ⟨aB, 0, none⟩ (.slice ad_10 nd_10 cd_10)).setCell ⟨aB, 1, none⟩ (.slice ad_11 nd_11 cd_11)).setCell ⟨aB, 2, none⟩ (.slice ad_12 nd_12 cd_12)) := ⟨_, rfl⟩
          have hb6 : Below U.heap.size U X6 := by rw [hX6]; exact (((hb5.setCell (by show U.heap.size ≤ aB; omega) _).setCell (by show U.heap.size ≤ aB; omega) _).setCell (by show U.heap.size ≤ aB; omega) _)
          have HP6 : Hid (BoxN X6 aB 26 [.slice ad_10 nd_10 cd_10, .slice ad_11 nd_11 cd_11, .slice ad_12 nd_12 cd_12]) := by unfold Hid; rw [hX6]; exact (((HP5.out.set 0 (.slice ad_10 nd_10 cd_10)).set 1 (.slice ad_11 nd_11 cd_11)).set 2 (.slice ad_12 nd_12 cd_12))
          have HA6 : Hid (BoxN X6 X4.heap.size 22 [.slice ad_7 nd_7 cd_7, .slice ad_8 nd_8 cd_8, .slice ad_9 nd_9 cd_9]) := by unfold Hid; rw [hX6]; exact (((HA5.out.other (by omega) 0 (.slice ad_10 nd_10 cd_10)).other (by omega) 1 (.slice ad_11 nd_11 cd_11)).other (by omega) 2 (.slice ad_12 nd_12 cd_12))
          rw [← hX6]
          clear hX6 r0 r1 r2 fr
          refine hK.out _ _ ⟨hb6, box_at pU_2.out hb6, box_at pU_3.out hb6, box_at pU_4.out hb6, box_at pU_5.out hb6, box_at pU_6.out hb6, box_at pU_7.out hb6, box_at pU_8.out hb6, box_at pU_9.out hb6, box_at pU_10.out hb6, box_at pU_11.out hb6, box_at pU_12.out hb6⟩ (fun _ => ?_)
          clear hK K
          try simp only [Act.put, List.setIfInBounds_toArray, List.set_cons_zero, List.set_cons_succ]
          repeat (refine' wpV_read _ (by kernel_rfl) (fun w' hS' => ?_) ?_; rotate_left; · ((try dsimp only at hS'); go_simp; (try with_reducible rfl)); (try simp only [Act.put, List.setIfInBounds_toArray, List.set_cons_zero, List.set_cons_succ]))
          refine wpV_done ?_
          go_wp2_with fail
          refine NoPanic.normal ?_
          go_wp2_with fail
          have HF := Lib.hid hb6
          have hW2 := HUB.out.trans (hb6.mono hsU)
          have HLL := Lib.hid (rd3X HA6.out (sInts.rd_below F_d_poly_places.out hW2) (sInts.rd_below F_d_poly_powers.out hW2) (sInts.rd_below F_d_poly_chain.out hW2))
          go_meet
          exact ⟨X4.heap.size, rfl, rfl, HF, HLL, HP6⟩
      case rest =>
        obtain ⟨aL2, rfl, rfl, HUX2, HL6, HP1⟩ := hcut
        obtain ⟨X2, hX2⟩ : ∃ X, X = wc := ⟨_, rfl⟩
        rw [← hX2] at HUX2 HL6 HP1 ⊢
        clear hX2 p0_0 p0_2 p0_3 p0_4 p0_5 p0_6 p0_7 p0_8 p0_9 p0_10 p0_11 p0_12 HUX HWX HL5 HP0 hUX haX
        obtain ⟨X, hX⟩ : ∃ X, X = X2 := ⟨_, rfl⟩
        rw [← hX] at HUX2 HL6 HP1 ⊢
        clear hX
        have HUX := HUX2
        have HWX := Lib.hid (HUB.out.trans (HUX.out.mono hsU))
        have y0 := HP1.out.cell (i := 0) rfl
        have y1 := HP1.out.cell (i := 1) rfl
        have y2 := HP1.out.cell (i := 2) rfl
        obtain ⟨p0_0, p0_1, p0_2, p0_3, p0_4, p0_5, p0_6, p0_7, p0_8, p0_9, p0_10, p0_11, p0_12⟩ := FX.out _ HWX.out
        have HCN : Hid ((ProofD.cnt d.poly.pi : Int) ≤ 1000000000) := by
          have := HZ.out.2.2; unfold szPolyProof szProof at this
          unfold Hid ProofD.cnt; omega
        have HPP : Hid (argB d.argument = true → [[[d.argument], cipL d.out], [d.poly.places, d.poly.powers, d.poly.chain], [epL d.poly.pi]].flatten = stgParts d) := fun ha => by
          unfold stgParts stgTail; rw [if_neg (by rw [HARG.out]; decide)]; rfl
        have HEE : Hid (argB d.argument = true → stgE d = q4) := fun ha => by
          unfold stgE; rw [HARG.out, H4.out]; cases q4 <;> rfl
        go_wp2_with fail
        refine (impl_EncodeProof _ d.poly.pi _ HCN.out (rdP_of ((kS rProof).rd_below F_pi_p.out HWX.out))).mono ?_
        rintro e w6 ⟨v6, rfl, ho6, hb6⟩
        obtain ⟨q7, hq7⟩ : ∃ q, epB d.poly.pi = q := ⟨_, rfl⟩
        obtain ⟨q8, hq8⟩ : ∃ q, argB d.argument = q := ⟨_, rfl⟩
        rw [hq7]
        have H7 := Lib.hid hq7; clear hq7
        have H8 := Lib.hid hq8; clear hq8
        obtain ⟨a6, n6, c6, rfl⟩ := ho6.reads.shape
        have HO6 := Lib.hid ho6.reads
        have HX6 := Lib.hid hb6
        have HW6 := Lib.hid (Below.next HWX.out hb6)
        clear ho6 hb6 p0_0 p0_1 p0_2 p0_3 p0_4 p0_5 p0_6 p0_7 p0_8 p0_9 p0_10 p0_11 p0_12
        obtain ⟨p0_0, p0_1, p0_2, p0_3, p0_4, p0_5, p0_6, p0_7, p0_8, p0_9, p0_10, p0_11, p0_12⟩ := FX.out _ HW6.out
        clear p0_1 p0_2 p0_3 p0_4 p0_5 p0_6 p0_7 p0_8 p0_9 p0_10 p0_11 p0_12
        rcases cx4 q8 q6 q7 q4 with rfl | ⟨rfl, rfl⟩ | ⟨rfl, rfl, rfl⟩ | ⟨rfl, rfl, rfl, rfl⟩ | ⟨rfl, rfl, rfl, rfl⟩
        · have HNO := Lib.hid (stgB_e (stgE_arg H8.out))
          have HR := Lib.hid (stgR_no HNO.out)
          go_wp2_with (first | (go_at_call 57; refine (impl_isArgument _ _).mono ?_; rintro e wz ⟨rfl, rfl⟩; rw [H8.out]) | fail)
          go_ret2
          exact ⟨_, (by rw [HNO.out]; rfl), by rw [HR.out]; exact InI.of_own (OwnI.nil _ _), Below.next HWB.out HW6.out⟩
        · have HNO : Hid (stgB d = false) := stgB_no (l := cipL d.out) (by unfold stgParts; simp) H6.out
          have HR := Lib.hid (stgR_no HNO.out)
          go_wp2_with (first | (go_at_call 57; refine (impl_isArgument _ _).mono ?_; rintro e wz ⟨rfl, rfl⟩; rw [H8.out]) | fail)
          go_ret2
          exact ⟨_, (by rw [HNO.out]; rfl), by rw [HR.out]; exact InI.of_own (OwnI.nil _ _), Below.next HWB.out HW6.out⟩
        · have HNO : Hid (stgB d = false) := stgB_no (l := epL d.poly.pi) (by rw [← HPP.out H8.out]; simp) H7.out
          have HR := Lib.hid (stgR_no HNO.out)
          go_wp2_with (first | (go_at_call 57; refine (impl_isArgument _ _).mono ?_; rintro e wz ⟨rfl, rfl⟩; rw [H8.out]) | fail)
          go_ret2
          exact ⟨_, (by rw [HNO.out]; rfl), by rw [HR.out]; exact InI.of_own (OwnI.nil _ _), Below.next HWB.out HW6.out⟩
        · have HNO : Hid (stgB d = false) := stgB_e (HEE.out H8.out)
          have HR := Lib.hid (stgR_no HNO.out)
          go_wp2_with (first | (go_at_call 57; refine (impl_isArgument _ _).mono ?_; rintro e wz ⟨rfl, rfl⟩; rw [H8.out]) | fail)
          go_ret2
          exact ⟨_, (by rw [HNO.out]; rfl), by rw [HR.out]; exact InI.of_own (OwnI.nil _ _), Below.next HWB.out HW6.out⟩
        · have HCR : Hid (cipR d.out = cipL d.out) := by unfold Hid cipR; rw [H6.out, if_pos rfl]
          have HER : Hid (epR d.poly.pi = epL d.poly.pi) := by unfold Hid epR; rw [H7.out, if_pos rfl]
          have HPQ := Lib.hid (HPP.out H8.out)
          have HEQ := Lib.hid (HEE.out H8.out)
          rw [HCR.out] at HO1
          rw [HER.out] at HO6
          go_wp2_with (first | (go_at_call 57; refine (impl_isArgument _ _).mono ?_; rintro e wz ⟨rfl, rfl⟩; rw [H8.out]) | fail)
          obtain ⟨Y1, hY1⟩ : ∃ Y1, Y1 = w6.alloc (.cells #[.int .i64 d.argument] 3) := ⟨_, rfl⟩
          have s1 : Y1.heap.size = w6.heap.size + 1 := by rw [hY1]; simp
          have b1 : Below w6.heap.size w6 Y1 := by rw [hY1]; exact keep_a (Below.refl _ _) _
          have i1 : Ints Y1 (.slice (some ⟨w6.heap.size, 0, none⟩) 1 1) [d.argument] := by rw [hY1]; exact (one_intsT w6 Jd_0.out).reads
          have hU6 := Below.next HUX.out HX6.out
          have hU1 := Below.next hU6 b1
          have r12 := FrR.rd (FrR.two Y1 i1 (HO1.out.below hU1)) (Below.refl _ _)
          rw [s1] at r12
          rw [← hY1]
          obtain ⟨Y2, hY2⟩ : ∃ Y2, Y2 = Y1.alloc (.cells #[.slice (some ⟨w6.heap.size, 0, none⟩) 1 1, .slice a1 n1 c1] 22) := ⟨_, rfl⟩
          have s2 : Y2.heap.size = w6.heap.size + 2 := by rw [hY2]; simp [s1]
          have b2 : Below Y1.heap.size Y1 Y2 := by rw [hY2]; exact keep_a (Below.refl _ _) _
          have b62 := Below.next b1 b2
          rw [← hY2] at r12
          rw [← hY2]
          obtain ⟨Y3, hY3⟩ : ∃ Y3, Y3 = Y2.alloc (.cells #[.slice a6 n6 c6] 22) := ⟨_, rfl⟩
          have s3 : Y3.heap.size = w6.heap.size + 3 := by rw [hY3]; simp [s2]
          have b3 : Below Y2.heap.size Y2 Y3 := by rw [hY3]; exact keep_a (Below.refl _ _) _
          have r3 := rdR1L Y2 (HO6.out.below b62)
          rw [s2, ← hY3] at r3
          rw [← hY3]
          have b63 := Below.next b62 b3
          have r4 := rdR3LL Y3 (r12.below b3) (HL6.out.below (Below.next HX6.out b63)) r3
          rw [s3] at r4
          have b4 : Below Y3.heap.size Y3 (Y3.alloc (.cells #[.slice (some ⟨w6.heap.size + 1, 0, none⟩) 2 2, .slice (some ⟨aL2, 0, none⟩) 3 3, .slice (some ⟨w6.heap.size + 2, 0, none⟩) 1 1] 47)) := keep_a (Below.refl _ _) _
          have HB4 := Lib.hid (Below.next (Below.next HW6.out b63) b4)
          refine (slices_ConcatL _ [[[d.argument], cipL d.out], [d.poly.places, d.poly.powers, d.poly.chain], [epL d.poly.pi]] _ r4 (by intro l hl; simp at hl; rcases hl with rfl | rfl | rfl <;> simp) (by simp)).mono ?_
          rintro e w9 ⟨v9, rfl, hr9, hb9⟩
          rw [HPQ.out] at hr9
          have HR9 := Lib.hid hr9
          have HB9 := Lib.hid (Below.next HWB.out (Below.next HB4.out hb9))
          obtain ⟨a9, n9, c9, rfl⟩ := hr9.shape
          clear hr9 hb9 hY1 hY2 hY3 s1 s2 s3 r12 r3 r4 b1 b2 b3 b4 b62 b63 i1 hU6 hU1
          have HJB : Hid (jrB (stgParts d) = stgB d) := by unfold Hid stgB jrB; rw [HEQ.out, Bool.true_and]
          have HJR : Hid (jrL (stgParts d) = stgR d) := by unfold Hid jrL stgR; rw [HJB.out]
          have hsw := HB9.out.size
          go_wp2_with fail
          refine (impl_JoinRecords _ (stgParts d) _ HTT.out HR9.out).mono ?_
          rintro e w8 ⟨v8, rfl, ho8, hb8⟩
          have HO8 := Lib.hid ho8
          have HB8 := Lib.hid (Below.next HB9.out hb8)
          clear ho8 hb8
          go_wp2_with fail
          go_ret2
          exact ⟨_, (by rw [HJB.out]; rfl), by rw [← HJR.out]; exact kInts.own_mono HO8.out (by omega) (Nat.le_refl _), HB8.out⟩
    · have g3 : (d.argument == 2) = false := beq_eq_false_iff_ne.2 harg
      have HCN : Hid ((ProofD.cnt d.matrix.pi : Int) ≤ 1000000000) := by
        have := HZ.out.2.1; unfold szMatrixProof szProof at this
        unfold Hid ProofD.cnt; omega
      have HPP : Hid (argB d.argument = true → [[[d.argument], cipL d.out], [d.matrix.columns, d.matrix.chain], [epL d.matrix.pi]].flatten = stgParts d) := fun ha => by
        unfold stgParts stgTail; rw [if_pos (argB_1 ha harg)]; rfl
      have HEE : Hid (argB d.argument = true → stgE d = q2) := fun ha => by
        unfold stgE; rw [argB_1 ha harg, H2.out]; cases q2 <;> rfl
      have y0 := HP0.out.cell (i := 0) rfl
      have y1 := HP0.out.cell (i := 1) rfl
      have y2 := HP0.out.cell (i := 2) rfl
      obtain ⟨p0_0, p0_1, p0_2, p0_3, p0_4, p0_5, p0_6, p0_7, p0_8, p0_9, p0_10, p0_11, p0_12⟩ := FX.out _ HWX.out
      clear harg
      go_wp2_with fail
      refine (impl_EncodeProof _ d.matrix.pi _ HCN.out (rdP_of ((kS rProof).rd_below F_pi_m.out HWX.out))).mono ?_
      rintro e w6 ⟨v6, rfl, ho6, hb6⟩
      obtain ⟨q7, hq7⟩ : ∃ q, epB d.matrix.pi = q := ⟨_, rfl⟩
      obtain ⟨q8, hq8⟩ : ∃ q, argB d.argument = q := ⟨_, rfl⟩
      rw [hq7]
      have H7 := Lib.hid hq7; clear hq7
      have H8 := Lib.hid hq8; clear hq8
      obtain ⟨a6, n6, c6, rfl⟩ := ho6.reads.shape
      have HO6 := Lib.hid ho6.reads
      have HX6 := Lib.hid hb6
      have HW6 := Lib.hid (Below.next HWX.out hb6)
      clear ho6 hb6 p0_0 p0_1 p0_2 p0_3 p0_4 p0_5 p0_6 p0_7 p0_8 p0_9 p0_10 p0_11 p0_12
      obtain ⟨p0_0, p0_1, p0_2, p0_3, p0_4, p0_5, p0_6, p0_7, p0_8, p0_9, p0_10, p0_11, p0_12⟩ := FX.out _ HW6.out
      clear p0_1 p0_2 p0_3 p0_4 p0_5 p0_6 p0_7 p0_8 p0_9 p0_10 p0_11 p0_12
      rcases cx4 q8 q6 q7 q2 with rfl | ⟨rfl, rfl⟩ | ⟨rfl, rfl, rfl⟩ | ⟨rfl, rfl, rfl, rfl⟩ | ⟨rfl, rfl, rfl, rfl⟩
      · have HNO := Lib.hid (stgB_e (stgE_arg H8.out))
        have HR := Lib.hid (stgR_no HNO.out)
        go_wp2_with (first | (go_at_call 57; refine (impl_isArgument _ _).mono ?_; rintro e wz ⟨rfl, rfl⟩; rw [H8.out]) | fail)
        go_ret2
        exact ⟨_, (by rw [HNO.out]; rfl), by rw [HR.out]; exact InI.of_own (OwnI.nil _ _), Below.next HWB.out HW6.out⟩
      · have HNO : Hid (stgB d = false) := stgB_no (l := cipL d.out) (by unfold stgParts; simp) H6.out
        have HR := Lib.hid (stgR_no HNO.out)
        go_wp2_with (first | (go_at_call 57; refine (impl_isArgument _ _).mono ?_; rintro e wz ⟨rfl, rfl⟩; rw [H8.out]) | fail)
        go_ret2
        exact ⟨_, (by rw [HNO.out]; rfl), by rw [HR.out]; exact InI.of_own (OwnI.nil _ _), Below.next HWB.out HW6.out⟩
      · have HNO : Hid (stgB d = false) := stgB_no (l := epL d.matrix.pi) (by rw [← HPP.out H8.out]; simp) H7.out
        have HR := Lib.hid (stgR_no HNO.out)
        go_wp2_with (first | (go_at_call 57; refine (impl_isArgument _ _).mono ?_; rintro e wz ⟨rfl, rfl⟩; rw [H8.out]) | fail)
        go_ret2
        exact ⟨_, (by rw [HNO.out]; rfl), by rw [HR.out]; exact InI.of_own (OwnI.nil _ _), Below.next HWB.out HW6.out⟩
      · have HNO : Hid (stgB d = false) := stgB_e (HEE.out H8.out)
        have HR := Lib.hid (stgR_no HNO.out)
        go_wp2_with (first | (go_at_call 57; refine (impl_isArgument _ _).mono ?_; rintro e wz ⟨rfl, rfl⟩; rw [H8.out]) | fail)
        go_ret2
        exact ⟨_, (by rw [HNO.out]; rfl), by rw [HR.out]; exact InI.of_own (OwnI.nil _ _), Below.next HWB.out HW6.out⟩
      · have HCR : Hid (cipR d.out = cipL d.out) := by unfold Hid cipR; rw [H6.out, if_pos rfl]
        have HER : Hid (epR d.matrix.pi = epL d.matrix.pi) := by unfold Hid epR; rw [H7.out, if_pos rfl]
        have HPQ := Lib.hid (HPP.out H8.out)
        have HEQ := Lib.hid (HEE.out H8.out)
        rw [HCR.out] at HO1
        rw [HER.out] at HO6
        go_wp2_with (first | (go_at_call 57; refine (impl_isArgument _ _).mono ?_; rintro e wz ⟨rfl, rfl⟩; rw [H8.out]) | fail)
        obtain ⟨Y1, hY1⟩ : ∃ Y1, Y1 = w6.alloc (.cells #[.int .i64 d.argument] 3) := ⟨_, rfl⟩
        have s1 : Y1.heap.size = w6.heap.size + 1 := by rw [hY1]; simp
        have b1 : Below w6.heap.size w6 Y1 := by rw [hY1]; exact keep_a (Below.refl _ _) _
        have i1 : Ints Y1 (.slice (some ⟨w6.heap.size, 0, none⟩) 1 1) [d.argument] := by rw [hY1]; exact (one_intsT w6 Jd_0.out).reads
        have hU6 := Below.next HUX.out HX6.out
        have hU1 := Below.next hU6 b1
        have r12 := FrR.rd (FrR.two Y1 i1 (HO1.out.below hU1)) (Below.refl _ _)
        rw [s1] at r12
        rw [← hY1]
        obtain ⟨Y2, hY2⟩ : ∃ Y2, Y2 = Y1.alloc (.cells #[.slice (some ⟨w6.heap.size, 0, none⟩) 1 1, .slice a1 n1 c1] 22) := ⟨_, rfl⟩
        have s2 : Y2.heap.size = w6.heap.size + 2 := by rw [hY2]; simp [s1]
        have b2 : Below Y1.heap.size Y1 Y2 := by rw [hY2]; exact keep_a (Below.refl _ _) _
        have b62 := Below.next b1 b2
        rw [← hY2] at r12
        rw [← hY2]
        obtain ⟨Y3, hY3⟩ : ∃ Y3, Y3 = Y2.alloc (.cells #[.slice a6 n6 c6] 22) := ⟨_, rfl⟩
        have s3 : Y3.heap.size = w6.heap.size + 3 := by rw [hY3]; simp [s2]
        have b3 : Below Y2.heap.size Y2 Y3 := by rw [hY3]; exact keep_a (Below.refl _ _) _
        have r3 := rdR1L Y2 (HO6.out.below b62)
        rw [s2, ← hY3] at r3
        rw [← hY3]
        have b63 := Below.next b62 b3
        have r4 := rdR3LL Y3 (r12.below b3) (HL5.out.below (Below.next HX6.out b63)) r3
        rw [s3] at r4
        have b4 : Below Y3.heap.size Y3 (Y3.alloc (.cells #[.slice (some ⟨w6.heap.size + 1, 0, none⟩) 2 2, .slice (some ⟨aL, 0, none⟩) 2 2, .slice (some ⟨w6.heap.size + 2, 0, none⟩) 1 1] 47)) := keep_a (Below.refl _ _) _
        have HB4 := Lib.hid (Below.next (Below.next HW6.out b63) b4)
        refine (slices_ConcatL _ [[[d.argument], cipL d.out], [d.matrix.columns, d.matrix.chain], [epL d.matrix.pi]] _ r4 (by intro l hl; simp at hl; rcases hl with rfl | rfl | rfl <;> simp) (by simp)).mono ?_
        rintro e w9 ⟨v9, rfl, hr9, hb9⟩
        rw [HPQ.out] at hr9
        have HR9 := Lib.hid hr9
        have HB9 := Lib.hid (Below.next HWB.out (Below.next HB4.out hb9))
        obtain ⟨a9, n9, c9, rfl⟩ := hr9.shape
        clear hr9 hb9 hY1 hY2 hY3 s1 s2 s3 r12 r3 r4 b1 b2 b3 b4 b62 b63 i1 hU6 hU1
        have HJB : Hid (jrB (stgParts d) = stgB d) := by unfold Hid stgB jrB; rw [HEQ.out, Bool.true_and]
        have HJR : Hid (jrL (stgParts d) = stgR d) := by unfold Hid jrL stgR; rw [HJB.out]
        have hsw := HB9.out.size
        go_wp2_with fail
        refine (impl_JoinRecords _ (stgParts d) _ HTT.out HR9.out).mono ?_
        rintro e w8 ⟨v8, rfl, ho8, hb8⟩
        have HO8 := Lib.hid ho8
        have HB8 := Lib.hid (Below.next HB9.out hb8)
        clear ho8 hb8
        go_wp2_with fail
        go_ret2
        exact ⟨_, (by rw [HJB.out]; rfl), by rw [← HJR.out]; exact kInts.own_mono HO8.out (by omega) (Nat.le_refl _), HB8.out⟩
end Go.Proofs.Ytbcaknmpbkapnaa
