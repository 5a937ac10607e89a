/- Walks: stages as records, the reference's. -/
import Derived.Test.YtcpigedjblkcfaaStg1
import Derived.Test.YtcpigedjblkcfaaFrL
import Derived.Test.YtcpigedjblkcfaaSea2
namespace Go.Proofs.Ytcpigedjblkcfaa
open Go.RowKit
set_option linter.unusedSimpArgs false
set_option linter.unusedVariables false

def stgTail (d : StageD) : List (List Int) := if d.argument = 1 then [d.matrix.columns, d.matrix.chain, epL d.matrix.pi] else [d.poly.places, d.poly.powers, d.poly.chain, epL d.poly.pi]
def stgParts (d : StageD) : List (List Int) := [[d.argument], cipL d.out] ++ stgTail d
def stgE (d : StageD) : Bool := ((d.argument == 1) && noPoly d.poly) || ((d.argument == 2) && noMat d.matrix)
def stgB (d : StageD) : Bool := stgE d && recB (joinL (stgParts d))
def stgR (d : StageD) : List Int := if stgB d = true then joinL (stgParts d) else []
theorem stgR_no {d : StageD} (h : stgB d = false) : stgR d = [] := by unfold stgR; rw [h, if_neg (by simp)]
theorem stgR_yes {d : StageD} (h : stgB d = true) : stgR d = joinL (stgParts d) := by unfold stgR; rw [if_pos h]
theorem stgR_length (d : StageD) : (stgR d).length ≤ 400 := by
  unfold stgR; split
  · rename_i h
    unfold stgB at h
    rw [Bool.and_eq_true] at h
    exact recB_len h.2
  · simp
theorem szT_parts {d : StageD} (h : (szStage d : Int) ≤ 1048576) : d.out.length ≤ 1048576 ∧ (szMatrixProof d.matrix : Int) ≤ 1048576 ∧ (szPolyProof d.poly : Int) ≤ 1048576 := by
  unfold szStage szCipherS at h; omega
theorem szT_total {d : StageD} (h : (szStage d : Int) ≤ 1048576) : ((stgParts d).length : Int) + total (stgParts d) ≤ 1000000000 := by
  obtain ⟨h1, h2, h3⟩ := szT_parts h
  unfold szMatrixProof at h2
  unfold szPolyProof at h3
  unfold stgParts stgTail total
  split
  · simp [cipL_length, epL_length]; omega
  · simp [cipL_length, epL_length]; omega
theorem info_intsB : (Try.prog.info? 38).map (fun i => (i.zero, i.size, i.bytes)) = some (some (.slice none 0 0), 1, 24) := by kernel_rfl
theorem info_ints1 : ∃ i, Try.prog.info? 38 = some i ∧ i.zero = some (.slice none 0 0) ∧ i.size = 1 ∧ i.bytes ≤ 1000 := by
  obtain ⟨i, hi, hz, hsz, hby⟩ := info_parts info_intsB
  exact ⟨i, hi, hz, hsz, by omega⟩
theorem one_intsT (w : World) {x : Int} (h : I64 x) : InI (w.alloc (.cells #[.int .i64 x] 3)) w.heap.size (w.heap.size + 1) (.slice (some ⟨w.heap.size, 0, none⟩) 1 1) [x] := by
  have := InI.of_own (OwnI.lit1 (B := w.heap.size) w (Nat.le_refl _) h)
  simpa using this
set_option maxRecDepth 100000 in
set_option maxHeartbeats 8000000 in
theorem spec_xRecord (v : Value) (d : StageD) (w : World) (hz : (szStage d : Int) ≤ 1048576) (h : (kS rStage).rd w v d) :
    Calls Try.prog 95 #[v] w fun e w' => ∃ v', e = .returned v' ∧ OwnI w' w.heap.size v' (joinL (stgParts d)) ∧ Below w.heap.size w w' := by
  have HZ := Lib.hid (szT_parts hz)
  have HTT := Lib.hid (szT_total hz)
  clear hz
  obtain ⟨ad_1, nd_1, cd_1, ad_2, nd_2, cd_2, ad_3, nd_3, cd_3, ad_4, nd_4, cd_4, ad_5, nd_5, cd_5, ad_6, nd_6, cd_6, ad_7, nd_7, cd_7, ad_8, nd_8, cd_8, ad_9, nd_9, cd_9, ad_10, nd_10, cd_10, ad_11, nd_11, cd_11, ad_12, nd_12, cd_12, rfl, jd_0, kd_1, kd_2, kd_3, kd_4, kd_5, kd_6, kd_7, kd_8, kd_9, kd_10, kd_11, kd_12⟩ := rdStage.1 h
  obtain ⟨W, hW⟩ : ∃ W, W = (w.alloc (.cells #[.int .i64 d.argument, .slice ad_1 nd_1 cd_1, .slice ad_2 nd_2 cd_2, .slice ad_3 nd_3 cd_3, .slice ad_4 nd_4 cd_4, .slice ad_5 nd_5 cd_5, .slice ad_6 nd_6 cd_6, .slice ad_7 nd_7 cd_7, .slice ad_8 nd_8 cd_8, .slice ad_9 nd_9 cd_9, .slice ad_10 nd_10 cd_10, .slice ad_11 nd_11 cd_11, .slice ad_12 nd_12 cd_12] 63)) := ⟨_, rfl⟩
  have HWB : Hid (Below w.heap.size w W) := by unfold Hid; rw [hW]; (repeat (first | exact Below.refl _ _ | assumption | refine Below.drew ?_ | refine Below.alloc ?_ (by first | (simp; done) | (simp; omega)) _ | refine Below.setCell ?_ (by first | (simp; done) | (simp; omega)) _))
  have FX : Hid (∀ W', Below W.heap.size W W' → W'.cell? ⟨w.heap.size, 0, none⟩ = some (.int .i64 d.argument) ∧ W'.cell? ⟨w.heap.size, 1, none⟩ = some (.slice ad_1 nd_1 cd_1) ∧ W'.cell? ⟨w.heap.size, 2, none⟩ = some (.slice ad_2 nd_2 cd_2) ∧ W'.cell? ⟨w.heap.size, 3, none⟩ = some (.slice ad_3 nd_3 cd_3) ∧ W'.cell? ⟨w.heap.size, 4, none⟩ = some (.slice ad_4 nd_4 cd_4) ∧ W'.cell? ⟨w.heap.size, 5, none⟩ = some (.slice ad_5 nd_5 cd_5) ∧ W'.cell? ⟨w.heap.size, 6, none⟩ = some (.slice ad_6 nd_6 cd_6) ∧ W'.cell? ⟨w.heap.size, 7, none⟩ = some (.slice ad_7 nd_7 cd_7) ∧ W'.cell? ⟨w.heap.size, 8, none⟩ = some (.slice ad_8 nd_8 cd_8) ∧ W'.cell? ⟨w.heap.size, 9, none⟩ = some (.slice ad_9 nd_9 cd_9) ∧ W'.cell? ⟨w.heap.size, 10, none⟩ = some (.slice ad_10 nd_10 cd_10) ∧ W'.cell? ⟨w.heap.size, 11, none⟩ = some (.slice ad_11 nd_11 cd_11) ∧ W'.cell? ⟨w.heap.size, 12, none⟩ = some (.slice ad_12 nd_12 cd_12)) := fun W' hb => by
    exact ⟨box_at (by rw [hW]; simp [go_sem]) hb, box_at (by rw [hW]; simp [go_sem]) hb, box_at (by rw [hW]; simp [go_sem]) hb, box_at (by rw [hW]; simp [go_sem]) hb, box_at (by rw [hW]; simp [go_sem]) hb, box_at (by rw [hW]; simp [go_sem]) hb, box_at (by rw [hW]; simp [go_sem]) hb, box_at (by rw [hW]; simp [go_sem]) hb, box_at (by rw [hW]; simp [go_sem]) hb, box_at (by rw [hW]; simp [go_sem]) hb, box_at (by rw [hW]; simp [go_sem]) hb, box_at (by rw [hW]; simp [go_sem]) hb, box_at (by rw [hW]; simp [go_sem]) hb⟩
  have hsW : W.heap.size = w.heap.size + 1 := by rw [hW]; simp
  have Hd := Lib.hid ((kS rStage).rd_below h HWB.out); clear h
  have Jd_0 := Lib.hid jd_0; clear jd_0
  have F_d_out := Lib.hid ((kR 105 rCipher).rd_below kd_1 HWB.out)
  have F_d_matrix := Lib.hid ((kS rMatrixProof).rd_below (w := w) (rdMatrixProof.2 ⟨_, _, _, _, _, _, _, _, _, _, _, _, _, _, _, rfl, kd_2, kd_3, kd_4, kd_5, kd_6⟩ : (kS rMatrixProof).rd w (.agg #[.slice ad_2 nd_2 cd_2, .slice ad_3 nd_3 cd_3, .slice ad_4 nd_4 cd_4, .slice ad_5 nd_5 cd_5, .slice ad_6 nd_6 cd_6]) d.matrix) HWB.out)
  have F_d_poly := Lib.hid ((kS rPolyProof).rd_below (w := w) (rdPolyProof.2 ⟨_, _, _, _, _, _, _, _, _, _, _, _, _, _, _, _, _, _, rfl, kd_7, kd_8, kd_9, kd_10, kd_11, kd_12⟩ : (kS rPolyProof).rd w (.agg #[.slice ad_7 nd_7 cd_7, .slice ad_8 nd_8 cd_8, .slice ad_9 nd_9 cd_9, .slice ad_10 nd_10 cd_10, .slice ad_11 nd_11 cd_11, .slice ad_12 nd_12 cd_12]) d.poly) HWB.out)
  clear kd_1 kd_2 kd_3 kd_4 kd_5 kd_6 kd_7 kd_8 kd_9 kd_10 kd_11 kd_12
  have HW := Lib.hid hW; clear hW
  clear hsW
  obtain ⟨xa2, xn2, xc2, xa3, xn3, xc3, xa4, xn4, xc4, xa5, xn5, xc5, xa6, xn6, xc6, em, fm0, fm1, fm2, fm3, fm4⟩ := rdMatrixProof.1 F_d_matrix.out
  obtain ⟨xa7, xn7, xc7, xa8, xn8, xc8, xa9, xn9, xc9, xa10, xn10, xc10, xa11, xn11, xc11, xa12, xn12, xc12, ep, fp0, fp1, fp2, fp3, fp4, fp5⟩ := rdPolyProof.1 F_d_poly.out
  cases em
  cases ep
  have F_d_matrix_columns := Lib.hid fm0
  have F_d_matrix_chain := Lib.hid fm1
  have F_pi_m : Hid ((kS rProof).rd W (.agg #[.slice ad_4 nd_4 cd_4, .slice ad_5 nd_5 cd_5, .slice ad_6 nd_6 cd_6]) d.matrix.pi) := rdProof.2 ⟨_, _, _, _, _, _, _, _, _, rfl, fm2, fm3, fm4⟩
  have F_d_poly_places := Lib.hid fp0
  have F_d_poly_powers := Lib.hid fp1
  have F_d_poly_chain := Lib.hid fp2
  have F_pi_p : Hid ((kS rProof).rd W (.agg #[.slice ad_10 nd_10 cd_10, .slice ad_11 nd_11 cd_11, .slice ad_12 nd_12 cd_12]) d.poly.pi) := rdProof.2 ⟨_, _, _, _, _, _, _, _, _, rfl, fp3, fp4, fp5⟩
  clear fm0 fm1 fm2 fm3 fm4 fp0 fp1 fp2 fp3 fp4 fp5
  go_enter Try.func95, Try.ntmps95
  go_wp2_with fail
  rw [← HW.out]
  have hcum : Below W.heap.size W W := Below.refl _ _
  obtain ⟨p0_0, p0_1, p0_2, p0_3, p0_4, p0_5, p0_6, p0_7, p0_8, p0_9, p0_10, p0_11, p0_12⟩ := FX.out _ hcum
  go_region_held3 (fun w' => Below W.heap.size W w' ∧ w'.cell? ⟨w.heap.size, 0, none⟩ = some (.int .i64 d.argument) ∧ w'.cell? ⟨w.heap.size, 1, none⟩ = some (.slice ad_1 nd_1 cd_1)) ((refine (fun (hbq : Below W.heap.size W _) => ⟨hbq, box_at p0_0 hbq, box_at p0_1 hbq⟩) ?_; first | exact (Below.refl _ _).drew | exact ((Below.refl _ _).alloc (Nat.le_refl _) _).drew | assumption | exact keep_a (by assumption) _ | exact keep_a (keep_a (by assumption) _) _ | fail)) ((first
    | (go_at_call 185; refine (spec_cCiphers _ d.out _ ((kR 105 rCipher).rd_below F_d_out.out (And.left (by assumption))) (by have := HZ.out.1; omega)).mono ?_; rintro e w1 ⟨v1, rfl, ho1, hb1⟩; (have HO1 := Lib.hid ho1.ints); (obtain ⟨a1, n1, c1, rfl⟩ := ho1.ints.shape); clear ho1; (have hbz : Below W.heap.size W w1 := keep_b hb1 (And.left (by assumption))); (have HB1 := Lib.hid hb1))
    | fail))
  · have h1 : Ints w1 (.slice (some ⟨W.heap.size, 0, none⟩) 1 1) [d.argument] := ((one_intsT W Jd_0.out).reads.drew).below HB1.out
    obtain ⟨U, hU⟩ : ∃ U, U = w1.alloc (.cells #[.slice (some ⟨W.heap.size, 0, none⟩) 1 1, .slice a1 n1 c1] 38) := ⟨_, rfl⟩
    have hOU : FrR 38 rL U U w1.heap.size (.slice (some ⟨w1.heap.size, 0, none⟩) 2 2) [[d.argument], cipL d.out] := by rw [hU]; exact FrR.two w1 h1 HO1.out
    rw [← hU]
    have hUB : Below W.heap.size W U := by rw [hU]; exact keep_a hbz _
    have hwU : w1.heap.size ≤ U.heap.size := by rw [hU]; simp
    clear h1 hU p0_0 p0_1 p0_2 p0_3 p0_4 p0_5 p0_6 p0_7 p0_8 p0_9 p0_10 p0_11 p0_12 hcum
    have HUB := Lib.hid hUB
    have HOU := Lib.hid hOU
    clear hUB hOU
    have hsU := HUB.out.size
    obtain ⟨p0_0, p0_1, p0_2, p0_3, p0_4, p0_5, p0_6, p0_7, p0_8, p0_9, p0_10, p0_11, p0_12⟩ := FX.out _ HUB.out
    by_cases harg : d.argument = 1
    · have g1 : (d.argument == 1) = true := by rw [harg]; rfl
      have HPP : Hid ([[d.argument], cipL d.out] ++ [d.matrix.columns, d.matrix.chain, epL d.matrix.pi] = stgParts d) := by unfold Hid stgParts stgTail; rw [if_pos harg]
      have HCN : Hid ((ProofD.cnt d.matrix.pi : Int) ≤ 1000000000) := by
        have := HZ.out.2.1; unfold szMatrixProof szProof at this
        unfold Hid ProofD.cnt; omega
      clear harg
      go_wp2_with fail
      refine wp_region_noPanic ?_
      refine wp_region_take (fun w' => Below U.heap.size U w' ∧ w'.cell? ⟨w.heap.size, 2, none⟩ = some (.slice ad_2 nd_2 cd_2) ∧ w'.cell? ⟨w.heap.size, 3, none⟩ = some (.slice ad_3 nd_3 cd_3) ∧ w'.cell? ⟨w.heap.size, 4, none⟩ = some (.slice ad_4 nd_4 cd_4) ∧ w'.cell? ⟨w.heap.size, 5, none⟩ = some (.slice ad_5 nd_5 cd_5) ∧ w'.cell? ⟨w.heap.size, 6, none⟩ = some (.slice ad_6 nd_6 cd_6)) 12 [(true, 0), (true, 1), (true, 2), (true, 3), (true, 4), (true, 5), (true, 6), (true, 7), (true, 8), (true, 9), (false, 10), (false, 11)] [12, 13] (by kernel_rfl) (by kernel_rfl) rfl (fun _ _ _ _ _ h => h) ⟨(Below.refl _ _).drew, p0_2, p0_3, p0_4, p0_5, p0_6⟩ ?_
      simp only [pickL, pickN, List.getElem?_cons_zero, List.getElem?_cons_succ]
      repeat (refine' wpTake_read _ (by rfl) (fun w' hS' => ?_) ?_; rotate_left; · ((try dsimp only at hS'); go_simp; (try with_reducible rfl)); (try simp only [Act.put, List.setIfInBounds_toArray, List.set_cons_zero, List.set_cons_succ]))
      refine wpTake_do (by rfl) (fun K hK => ?_)
      go_simp
      go_at_call 186
      refine (spec_cProof _ d.matrix.pi _ (rdP_of ((kS rProof).rd_below F_pi_m.out (HUB.out.trans (((Below.refl _ _).drew).mono hsU)))) HCN.out).mono ?_
      rintro e w5 ⟨v5, rfl, ho5, hb5⟩
      obtain ⟨a5, n5, c5, rfl⟩ := ho5.ints.shape
      have HI5 := Lib.hid ho5.ints
      have hbz : Below U.heap.size U w5 := keep_b hb5 (Below.refl _ _).drew
      refine hK.out _ _ ⟨hbz, box_at p0_2 hbz, box_at p0_3 hbz, box_at p0_4 hbz, box_at p0_5 hbz, box_at p0_6 hbz⟩ (fun _ => ?_)
      clear hK K
      try simp only [Act.put, List.setIfInBounds_toArray, List.set_cons_zero, List.set_cons_succ]
      refine wpTake_do (by rfl) (fun K hK => ?_)
      go_simp
      have hba : Below U.heap.size U (w5.alloc (.cells #[.slice ad_2 nd_2 cd_2, .slice ad_3 nd_3 cd_3, .slice a5 n5 c5] 38)) := keep_a hbz _
      refine hK.out _ _ ⟨hba, box_at p0_2 hba, box_at p0_3 hba, box_at p0_4 hba, box_at p0_5 hba, box_at p0_6 hba⟩ (fun _ => ?_)
      clear hK K
      try simp only [Act.put, List.setIfInBounds_toArray, List.set_cons_zero, List.set_cons_succ]
      refine wpTake_nil ?_
      have HBA := Lib.hid hba
      have HWA := Lib.hid (HUB.out.trans (hba.mono hsU))
      have HFA := Lib.hid (FrR.below (FrR.up HOU.out hba) hba)
      have hsA := hba.size
      obtain ⟨ti, hti, htz, hts, htb⟩ := info_ints1
      have HI := Lib.hid (show _ ∧ _ ∧ _ ∧ _ from ⟨hti, htz, hts, htb⟩)
      clear hba hbz hb5 ho5 hti htz hts htb p0_0 p0_1 p0_2 p0_3 p0_4 p0_5 p0_6 p0_7 p0_8 p0_9 p0_10 p0_11 p0_12
      refine wpList_append_FrGrow (e := 38) (R := rL) (es := [d.matrix.columns, d.matrix.chain, epL d.matrix.pi]) 145 ti (.slice none 0 0) Try.underlying145 HI.out.1 HI.out.2.1 HI.out.2.2.1 HI.out.2.2.2 rfl (by decide) rfl _ _ rfl HFA.out rfl ⟨w5.heap.size, 0, none⟩ 3 3 [[.slice ad_2 nd_2 cd_2], [.slice ad_3 nd_3 cd_3], [.slice a5 n5 c5]] rfl rfl rfl rfl (news_flat (BoxN.new w5 [.slice ad_2 nd_2 cd_2, .slice ad_3 nd_3 cd_3, .slice a5 n5 c5] 38) rfl) (rd3L (sInts.rd_below F_d_matrix_columns.out HWA.out) (sInts.rd_below F_d_matrix_chain.out HWA.out) (HI5.out.alloc _)) (by omega) (by simp) (by omega) ?_
      intro v7 w7 hf7 hb7
      have HR7 := Lib.hid (RdL_of_R (FrR.rd hf7 hb7))
      have HB7 := Lib.hid (HWA.out.trans (hb7.mono HWA.out.size))
      obtain ⟨a7, n7, c7, e7⟩ := HR7.out.shape
      subst e7
      clear hf7 hb7
      rw [HPP.out] at HR7
      go_wp2_with fail
      refine NoPanic.normal ?_
      have hsw := HB7.out.size
      have hsw2 := HWB.out.size
      go_wp2_with fail
      refine (spec_cJoin _ (stgParts d) _ HR7.out HTT.out).mono ?_
      rintro e w8 ⟨v8, rfl, ho8, hb8⟩
      have HO8 := Lib.hid ho8
      have HB8 := Lib.hid (Below.next HWB.out (HB7.out.trans (hb8.mono hsw)))
      clear ho8 hb8
      go_wp2_with fail
      go_ret
      exact ⟨_, rfl, HO8.out.mono (by omega), HB8.out⟩
    · have g1 : (d.argument == 1) = false := beq_eq_false_iff_ne.2 harg
      have HPP : Hid ([[d.argument], cipL d.out] ++ [d.poly.places, d.poly.powers, d.poly.chain, epL d.poly.pi] = stgParts d) := by unfold Hid stgParts stgTail; rw [if_neg harg]
      have HCN : Hid ((ProofD.cnt d.poly.pi : Int) ≤ 1000000000) := by
        have := HZ.out.2.2; unfold szPolyProof szProof at this
        unfold Hid ProofD.cnt; omega
      clear harg
      go_wp2_with fail
      refine wp_region_noPanic ?_
      refine wp_region_take (fun w' => Below U.heap.size U w' ∧ w'.cell? ⟨w.heap.size, 7, none⟩ = some (.slice ad_7 nd_7 cd_7) ∧ w'.cell? ⟨w.heap.size, 8, none⟩ = some (.slice ad_8 nd_8 cd_8) ∧ w'.cell? ⟨w.heap.size, 9, none⟩ = some (.slice ad_9 nd_9 cd_9) ∧ w'.cell? ⟨w.heap.size, 10, none⟩ = some (.slice ad_10 nd_10 cd_10) ∧ w'.cell? ⟨w.heap.size, 11, none⟩ = some (.slice ad_11 nd_11 cd_11) ∧ w'.cell? ⟨w.heap.size, 12, none⟩ = some (.slice ad_12 nd_12 cd_12)) 12 [(true, 0), (true, 1), (true, 2), (true, 3), (true, 4), (true, 5), (true, 6), (true, 7), (true, 8), (true, 9), (true, 10), (true, 11), (true, 12), (false, 13), (false, 14)] [15, 16] (by kernel_rfl) (by kernel_rfl) rfl (fun _ _ _ _ _ h => h) ⟨(Below.refl _ _).drew, p0_7, p0_8, p0_9, p0_10, p0_11, p0_12⟩ ?_
      simp only [pickL, pickN, List.getElem?_cons_zero, List.getElem?_cons_succ]
      repeat (refine' wpTake_read _ (by rfl) (fun w' hS' => ?_) ?_; rotate_left; · ((try dsimp only at hS'); go_simp; (try with_reducible rfl)); (try simp only [Act.put, List.setIfInBounds_toArray, List.set_cons_zero, List.set_cons_succ]))
      refine wpTake_do (by rfl) (fun K hK => ?_)
      go_simp
      go_at_call 186
      refine (spec_cProof _ d.poly.pi _ (rdP_of ((kS rProof).rd_below F_pi_p.out (HUB.out.trans (((Below.refl _ _).drew).mono hsU)))) HCN.out).mono ?_
      rintro e w5 ⟨v5, rfl, ho5, hb5⟩
      obtain ⟨a5, n5, c5, rfl⟩ := ho5.ints.shape
      have HI5 := Lib.hid ho5.ints
      have hbz : Below U.heap.size U w5 := keep_b hb5 (Below.refl _ _).drew
      refine hK.out _ _ ⟨hbz, box_at p0_7 hbz, box_at p0_8 hbz, box_at p0_9 hbz, box_at p0_10 hbz, box_at p0_11 hbz, box_at p0_12 hbz⟩ (fun _ => ?_)
      clear hK K
      try simp only [Act.put, List.setIfInBounds_toArray, List.set_cons_zero, List.set_cons_succ]
      refine wpTake_do (by rfl) (fun K hK => ?_)
      go_simp
      have hba : Below U.heap.size U (w5.alloc (.cells #[.slice ad_7 nd_7 cd_7, .slice ad_8 nd_8 cd_8, .slice ad_9 nd_9 cd_9, .slice a5 n5 c5] 38)) := keep_a hbz _
      refine hK.out _ _ ⟨hba, box_at p0_7 hba, box_at p0_8 hba, box_at p0_9 hba, box_at p0_10 hba, box_at p0_11 hba, box_at p0_12 hba⟩ (fun _ => ?_)
      clear hK K
      try simp only [Act.put, List.setIfInBounds_toArray, List.set_cons_zero, List.set_cons_succ]
      refine wpTake_nil ?_
      have HBA := Lib.hid hba
      have HWA := Lib.hid (HUB.out.trans (hba.mono hsU))
      have HFA := Lib.hid (FrR.below (FrR.up HOU.out hba) hba)
      have hsA := hba.size
      obtain ⟨ti, hti, htz, hts, htb⟩ := info_ints1
      have HI := Lib.hid (show _ ∧ _ ∧ _ ∧ _ from ⟨hti, htz, hts, htb⟩)
      clear hba hbz hb5 ho5 hti htz hts htb p0_0 p0_1 p0_2 p0_3 p0_4 p0_5 p0_6 p0_7 p0_8 p0_9 p0_10 p0_11 p0_12
      refine wpList_append_FrGrow (e := 38) (R := rL) (es := [d.poly.places, d.poly.powers, d.poly.chain, epL d.poly.pi]) 145 ti (.slice none 0 0) Try.underlying145 HI.out.1 HI.out.2.1 HI.out.2.2.1 HI.out.2.2.2 rfl (by decide) rfl _ _ rfl HFA.out rfl ⟨w5.heap.size, 0, none⟩ 4 4 [[.slice ad_7 nd_7 cd_7], [.slice ad_8 nd_8 cd_8], [.slice ad_9 nd_9 cd_9], [.slice a5 n5 c5]] rfl rfl rfl rfl (news_flat (BoxN.new w5 [.slice ad_7 nd_7 cd_7, .slice ad_8 nd_8 cd_8, .slice ad_9 nd_9 cd_9, .slice a5 n5 c5] 38) rfl) (rd4L (sInts.rd_below F_d_poly_places.out HWA.out) (sInts.rd_below F_d_poly_powers.out HWA.out) (sInts.rd_below F_d_poly_chain.out HWA.out) (HI5.out.alloc _)) (by omega) (by simp) (by omega) ?_
      intro v7 w7 hf7 hb7
      have HR7 := Lib.hid (RdL_of_R (FrR.rd hf7 hb7))
      have HB7 := Lib.hid (HWA.out.trans (hb7.mono HWA.out.size))
      obtain ⟨a7, n7, c7, e7⟩ := HR7.out.shape
      subst e7
      clear hf7 hb7
      rw [HPP.out] at HR7
      go_wp2_with fail
      refine NoPanic.normal ?_
      have hsw := HB7.out.size
      have hsw2 := HWB.out.size
      go_wp2_with fail
      refine (spec_cJoin _ (stgParts d) _ HR7.out HTT.out).mono ?_
      rintro e w8 ⟨v8, rfl, ho8, hb8⟩
      have HO8 := Lib.hid ho8
      have HB8 := Lib.hid (Below.next HWB.out (HB7.out.trans (hb8.mono hsw)))
      clear ho8 hb8
      go_wp2_with fail
      go_ret
      exact ⟨_, rfl, HO8.out.mono (by omega), HB8.out⟩
  · have h2 : Ints (w1.alloc (.cells #[.int .i64 d.argument] 3)) (.slice (some ⟨w1.heap.size, 0, none⟩) 1 1) [d.argument] := (one_intsT w1 Jd_0.out).reads
    obtain ⟨U, hU⟩ : ∃ U, U = (w1.alloc (.cells #[.int .i64 d.argument] 3)).alloc (.cells #[.slice (some ⟨w1.heap.size, 0, none⟩) 1 1, .slice a1 n1 c1] 38) := ⟨_, rfl⟩
    have hOU : FrR 38 rL U U (w1.heap.size + 1) (.slice (some ⟨w1.heap.size + 1, 0, none⟩) 2 2) [[d.argument], cipL d.out] := by
      have h3 := FrR.two (w1.alloc (.cells #[.int .i64 d.argument] 3)) h2 (HO1.out.alloc _)
      have e1 : (w1.alloc (.cells #[.int .i64 d.argument] 3)).heap.size = w1.heap.size + 1 := by simp
      rw [e1] at h3
      rw [hU]; exact h3
    rw [← hU]
    have hUB : Below W.heap.size W U := by rw [hU]; exact keep_a (keep_a hbz _) _
    have hwU : w1.heap.size + 1 ≤ U.heap.size := by rw [hU]; simp
    clear h2 hU p0_0 p0_1 p0_2 p0_3 p0_4 p0_5 p0_6 p0_7 p0_8 p0_9 p0_10 p0_11 p0_12 hcum
    have HUB := Lib.hid hUB
    have HOU := Lib.hid hOU
    clear hUB hOU
    have hsU := HUB.out.size
    obtain ⟨p0_0, p0_1, p0_2, p0_3, p0_4, p0_5, p0_6, p0_7, p0_8, p0_9, p0_10, p0_11, p0_12⟩ := FX.out _ HUB.out
    by_cases harg : d.argument = 1
    · have g1 : (d.argument == 1) = true := by rw [harg]; rfl
      have HPP : Hid ([[d.argument], cipL d.out] ++ [d.matrix.columns, d.matrix.chain, epL d.matrix.pi] = stgParts d) := by unfold Hid stgParts stgTail; rw [if_pos harg]
      have HCN : Hid ((ProofD.cnt d.matrix.pi : Int) ≤ 1000000000) := by
        have := HZ.out.2.1; unfold szMatrixProof szProof at this
        unfold Hid ProofD.cnt; omega
      clear harg
      go_wp2_with fail
      refine wp_region_noPanic ?_
      refine wp_region_take (fun w' => Below U.heap.size U w' ∧ w'.cell? ⟨w.heap.size, 2, none⟩ = some (.slice ad_2 nd_2 cd_2) ∧ w'.cell? ⟨w.heap.size, 3, none⟩ = some (.slice ad_3 nd_3 cd_3) ∧ w'.cell? ⟨w.heap.size, 4, none⟩ = some (.slice ad_4 nd_4 cd_4) ∧ w'.cell? ⟨w.heap.size, 5, none⟩ = some (.slice ad_5 nd_5 cd_5) ∧ w'.cell? ⟨w.heap.size, 6, none⟩ = some (.slice ad_6 nd_6 cd_6)) 12 [(true, 0), (true, 1), (true, 2), (true, 3), (true, 4), (true, 5), (true, 6), (true, 7), (true, 8), (true, 9), (false, 10), (false, 11)] [12, 13] (by kernel_rfl) (by kernel_rfl) rfl (fun _ _ _ _ _ h => h) ⟨(Below.refl _ _).drew, p0_2, p0_3, p0_4, p0_5, p0_6⟩ ?_
      simp only [pickL, pickN, List.getElem?_cons_zero, List.getElem?_cons_succ]
      repeat (refine' wpTake_read _ (by rfl) (fun w' hS' => ?_) ?_; rotate_left; · ((try dsimp only at hS'); go_simp; (try with_reducible rfl)); (try simp only [Act.put, List.setIfInBounds_toArray, List.set_cons_zero, List.set_cons_succ]))
      refine wpTake_do (by rfl) (fun K hK => ?_)
      go_simp
      go_at_call 186
      refine (spec_cProof _ d.matrix.pi _ (rdP_of ((kS rProof).rd_below F_pi_m.out (HUB.out.trans (((Below.refl _ _).drew).mono hsU)))) HCN.out).mono ?_
      rintro e w5 ⟨v5, rfl, ho5, hb5⟩
      obtain ⟨a5, n5, c5, rfl⟩ := ho5.ints.shape
      have HI5 := Lib.hid ho5.ints
      have hbz : Below U.heap.size U w5 := keep_b hb5 (Below.refl _ _).drew
      refine hK.out _ _ ⟨hbz, box_at p0_2 hbz, box_at p0_3 hbz, box_at p0_4 hbz, box_at p0_5 hbz, box_at p0_6 hbz⟩ (fun _ => ?_)
      clear hK K
      try simp only [Act.put, List.setIfInBounds_toArray, List.set_cons_zero, List.set_cons_succ]
      refine wpTake_do (by rfl) (fun K hK => ?_)
      go_simp
      have hba : Below U.heap.size U (w5.alloc (.cells #[.slice ad_2 nd_2 cd_2, .slice ad_3 nd_3 cd_3, .slice a5 n5 c5] 38)) := keep_a hbz _
      refine hK.out _ _ ⟨hba, box_at p0_2 hba, box_at p0_3 hba, box_at p0_4 hba, box_at p0_5 hba, box_at p0_6 hba⟩ (fun _ => ?_)
      clear hK K
      try simp only [Act.put, List.setIfInBounds_toArray, List.set_cons_zero, List.set_cons_succ]
      refine wpTake_nil ?_
      have HBA := Lib.hid hba
      have HWA := Lib.hid (HUB.out.trans (hba.mono hsU))
      have HFA := Lib.hid (FrR.below (FrR.up HOU.out hba) hba)
      have hsA := hba.size
      obtain ⟨ti, hti, htz, hts, htb⟩ := info_ints1
      have HI := Lib.hid (show _ ∧ _ ∧ _ ∧ _ from ⟨hti, htz, hts, htb⟩)
      clear hba hbz hb5 ho5 hti htz hts htb p0_0 p0_1 p0_2 p0_3 p0_4 p0_5 p0_6 p0_7 p0_8 p0_9 p0_10 p0_11 p0_12
      refine wpList_append_FrGrow (e := 38) (R := rL) (es := [d.matrix.columns, d.matrix.chain, epL d.matrix.pi]) 145 ti (.slice none 0 0) Try.underlying145 HI.out.1 HI.out.2.1 HI.out.2.2.1 HI.out.2.2.2 rfl (by decide) rfl _ _ rfl HFA.out rfl ⟨w5.heap.size, 0, none⟩ 3 3 [[.slice ad_2 nd_2 cd_2], [.slice ad_3 nd_3 cd_3], [.slice a5 n5 c5]] rfl rfl rfl rfl (news_flat (BoxN.new w5 [.slice ad_2 nd_2 cd_2, .slice ad_3 nd_3 cd_3, .slice a5 n5 c5] 38) rfl) (rd3L (sInts.rd_below F_d_matrix_columns.out HWA.out) (sInts.rd_below F_d_matrix_chain.out HWA.out) (HI5.out.alloc _)) (by omega) (by simp) (by omega) ?_
      intro v7 w7 hf7 hb7
      have HR7 := Lib.hid (RdL_of_R (FrR.rd hf7 hb7))
      have HB7 := Lib.hid (HWA.out.trans (hb7.mono HWA.out.size))
      obtain ⟨a7, n7, c7, e7⟩ := HR7.out.shape
      subst e7
      clear hf7 hb7
      rw [HPP.out] at HR7
      go_wp2_with fail
      refine NoPanic.normal ?_
      have hsw := HB7.out.size
      have hsw2 := HWB.out.size
      go_wp2_with fail
      refine (spec_cJoin _ (stgParts d) _ HR7.out HTT.out).mono ?_
      rintro e w8 ⟨v8, rfl, ho8, hb8⟩
      have HO8 := Lib.hid ho8
      have HB8 := Lib.hid (Below.next HWB.out (HB7.out.trans (hb8.mono hsw)))
      clear ho8 hb8
      go_wp2_with fail
      go_ret
      exact ⟨_, rfl, HO8.out.mono (by omega), HB8.out⟩
    · have g1 : (d.argument == 1) = false := beq_eq_false_iff_ne.2 harg
      have HPP : Hid ([[d.argument], cipL d.out] ++ [d.poly.places, d.poly.powers, d.poly.chain, epL d.poly.pi] = stgParts d) := by unfold Hid stgParts stgTail; rw [if_neg harg]
      have HCN : Hid ((ProofD.cnt d.poly.pi : Int) ≤ 1000000000) := by
        have := HZ.out.2.2; unfold szPolyProof szProof at this
        unfold Hid ProofD.cnt; omega
      clear harg
      go_wp2_with fail
      refine wp_region_noPanic ?_
      refine wp_region_take (fun w' => Below U.heap.size U w' ∧ w'.cell? ⟨w.heap.size, 7, none⟩ = some (.slice ad_7 nd_7 cd_7) ∧ w'.cell? ⟨w.heap.size, 8, none⟩ = some (.slice ad_8 nd_8 cd_8) ∧ w'.cell? ⟨w.heap.size, 9, none⟩ = some (.slice ad_9 nd_9 cd_9) ∧ w'.cell? ⟨w.heap.size, 10, none⟩ = some (.slice ad_10 nd_10 cd_10) ∧ w'.cell? ⟨w.heap.size, 11, none⟩ = some (.slice ad_11 nd_11 cd_11) ∧ w'.cell? ⟨w.heap.size, 12, none⟩ = some (.slice ad_12 nd_12 cd_12)) 12 [(true, 0), (true, 1), (true, 2), (true, 3), (true, 4), (true, 5), (true, 6), (true, 7), (true, 8), (true, 9), (true, 10), (true, 11), (true, 12), (false, 13), (false, 14)] [15, 16] (by kernel_rfl) (by kernel_rfl) rfl (fun _ _ _ _ _ h => h) ⟨(Below.refl _ _).drew, p0_7, p0_8, p0_9, p0_10, p0_11, p0_12⟩ ?_
      simp only [pickL, pickN, List.getElem?_cons_zero, List.getElem?_cons_succ]
      repeat (refine' wpTake_read _ (by rfl) (fun w' hS' => ?_) ?_; rotate_left; · ((try dsimp only at hS'); go_simp; (try with_reducible rfl)); (try simp only [Act.put, List.setIfInBounds_toArray, List.set_cons_zero, List.set_cons_succ]))
      refine wpTake_do (by rfl) (fun K hK => ?_)
      go_simp
      go_at_call 186
      refine (spec_cProof _ d.poly.pi _ (rdP_of ((kS rProof).rd_below F_pi_p.out (HUB.out.trans (((Below.refl _ _).drew).mono hsU)))) HCN.out).mono ?_
      rintro e w5 ⟨v5, rfl, ho5, hb5⟩
      obtain ⟨a5, n5, c5, rfl⟩ := ho5.ints.shape
      have HI5 := Lib.hid ho5.ints
      have hbz : Below U.heap.size U w5 := keep_b hb5 (Below.refl _ _).drew
      refine hK.out _ _ ⟨hbz, box_at p0_7 hbz, box_at p0_8 hbz, box_at p0_9 hbz, box_at p0_10 hbz, box_at p0_11 hbz, box_at p0_12 hbz⟩ (fun _ => ?_)
      clear hK K
      try simp only [Act.put, List.setIfInBounds_toArray, List.set_cons_zero, List.set_cons_succ]
      refine wpTake_do (by rfl) (fun K hK => ?_)
      go_simp
      have hba : Below U.heap.size U (w5.alloc (.cells #[.slice ad_7 nd_7 cd_7, .slice ad_8 nd_8 cd_8, .slice ad_9 nd_9 cd_9, .slice a5 n5 c5] 38)) := keep_a hbz _
      refine hK.out _ _ ⟨hba, box_at p0_7 hba, box_at p0_8 hba, box_at p0_9 hba, box_at p0_10 hba, box_at p0_11 hba, box_at p0_12 hba⟩ (fun _ => ?_)
      clear hK K
      try simp only [Act.put, List.setIfInBounds_toArray, List.set_cons_zero, List.set_cons_succ]
      refine wpTake_nil ?_
      have HBA := Lib.hid hba
      have HWA := Lib.hid (HUB.out.trans (hba.mono hsU))
      have HFA := Lib.hid (FrR.below (FrR.up HOU.out hba) hba)
      have hsA := hba.size
      obtain ⟨ti, hti, htz, hts, htb⟩ := info_ints1
      have HI := Lib.hid (show _ ∧ _ ∧ _ ∧ _ from ⟨hti, htz, hts, htb⟩)
      clear hba hbz hb5 ho5 hti htz hts htb p0_0 p0_1 p0_2 p0_3 p0_4 p0_5 p0_6 p0_7 p0_8 p0_9 p0_10 p0_11 p0_12
      refine wpList_append_FrGrow (e := 38) (R := rL) (es := [d.poly.places, d.poly.powers, d.poly.chain, epL d.poly.pi]) 145 ti (.slice none 0 0) Try.underlying145 HI.out.1 HI.out.2.1 HI.out.2.2.1 HI.out.2.2.2 rfl (by decide) rfl _ _ rfl HFA.out rfl ⟨w5.heap.size, 0, none⟩ 4 4 [[.slice ad_7 nd_7 cd_7], [.slice ad_8 nd_8 cd_8], [.slice ad_9 nd_9 cd_9], [.slice a5 n5 c5]] rfl rfl rfl rfl (news_flat (BoxN.new w5 [.slice ad_7 nd_7 cd_7, .slice ad_8 nd_8 cd_8, .slice ad_9 nd_9 cd_9, .slice a5 n5 c5] 38) rfl) (rd4L (sInts.rd_below F_d_poly_places.out HWA.out) (sInts.rd_below F_d_poly_powers.out HWA.out) (sInts.rd_below F_d_poly_chain.out HWA.out) (HI5.out.alloc _)) (by omega) (by simp) (by omega) ?_
      intro v7 w7 hf7 hb7
      have HR7 := Lib.hid (RdL_of_R (FrR.rd hf7 hb7))
      have HB7 := Lib.hid (HWA.out.trans (hb7.mono HWA.out.size))
      obtain ⟨a7, n7, c7, e7⟩ := HR7.out.shape
      subst e7
      clear hf7 hb7
      rw [HPP.out] at HR7
      go_wp2_with fail
      refine NoPanic.normal ?_
      have hsw := HB7.out.size
      have hsw2 := HWB.out.size
      go_wp2_with fail
      refine (spec_cJoin _ (stgParts d) _ HR7.out HTT.out).mono ?_
      rintro e w8 ⟨v8, rfl, ho8, hb8⟩
      have HO8 := Lib.hid ho8
      have HB8 := Lib.hid (Below.next HWB.out (HB7.out.trans (hb8.mono hsw)))
      clear ho8 hb8
      go_wp2_with fail
      go_ret
      exact ⟨_, rfl, HO8.out.mono (by omega), HB8.out⟩
end Go.Proofs.Ytcpigedjblkcfaa
