/- Proofs of one of several: the model's proof (printed by gen_one4.py). -/
import Derived.Test.YtegomgnlhcbmfaaOne2W
import Derived.Test.YtegomgnlhcbmfaaRowIW
namespace Go.Proofs.Ytegomgnlhcbmfaa
open Go.RowKit
set_option linter.unusedSimpArgs false
set_option linter.unusedVariables false

/-- how many coins are used before statement k -/
def ooN (kk k : Nat) : Nat := if k ≤ kk then 2 * k else 2 * (k - 1)
theorem ooN_own {kk k : Nat} (h : k = kk) : ooN kk (k + 1) = ooN kk k := by subst h; unfold ooN; rw [if_neg (by omega), if_pos (Nat.le_refl _)]; omega
theorem ooN_other {kk k : Nat} (h : k ≠ kk) : ooN kk (k + 1) = ooN kk k + 2 := by unfold ooN; split <;> split <;> omega
theorem ooN_P {kk k : Nat} (h : k ≠ kk) : ooP kk k = ooN kk k := by unfold ooN ooP; split <;> split <;> omega
theorem ooN_le {kk k n : Nat} (hk : k < n) (hkk : kk < n) (h : k ≠ kk) : ooN kk k + 2 ≤ 2 * n - 2 := by unfold ooN; split <;> omega
theorem ooC_own {gr : GroupD} {l : List EqualLogD} {kk k : Nat} {cs : List Int} (hk : k < l.length) (h : k = kk) : ooCs gr l kk cs (k + 1) = ooCs gr l kk cs k ++ [powE gr l[k].g1 (ooW l.length cs), powE gr l[k].g2 (ooW l.length cs)] ∧ ooHs kk cs (k + 1) = ooHs kk cs k ++ [0] ∧ ooRs kk cs (k + 1) = ooRs kk cs k ++ [0] := by
  rw [ooCs_succ, ooHs_succ, ooRs_succ]
  unfold ooC ooH ooR
  rw [if_pos h, if_pos h, if_pos h, eqAt_get hk]
  exact ⟨rfl, rfl, rfl⟩
theorem ooC_other {gr : GroupD} {l : List EqualLogD} {kk k : Nat} {cs : List Int} (hk : k < l.length) (h : k ≠ kk) : ooCs gr l kk cs (k + 1) = ooCs gr l kk cs k ++ [smX gr l[k].g1 l[k].y1 (nth cs (ooN kk k)) (nth cs (ooN kk k + 1)), smX gr l[k].g2 l[k].y2 (nth cs (ooN kk k)) (nth cs (ooN kk k + 1))] ∧ ooHs kk cs (k + 1) = ooHs kk cs k ++ [nth cs (ooN kk k)] ∧ ooRs kk cs (k + 1) = ooRs kk cs k ++ [nth cs (ooN kk k + 1)] := by
  rw [ooCs_succ, ooHs_succ, ooRs_succ]
  unfold ooC ooH ooR
  rw [if_neg h, if_neg h, if_neg h, eqAt_get hk, ooN_P h]
  exact ⟨rfl, rfl, rfl⟩
theorem sumM_snoc (q : Int) (l : List Int) (x : Int) : sumM q (l ++ [x]) = (sumM q l + x) % q := by unfold sumM; rw [List.foldl_append]; rfl
set_option maxRecDepth 100000 in
set_option maxHeartbeats 4000000 in
theorem spec_sOneOf (gr : GroupD) (s : ByteArray) (ev : Value) (l : List EqualLogD) (kk : Nat) (x : Int) (cv : Value) (cs : List Int) (w : World) (hg : OkG gr) (hs : s.size ≤ 40) (hl : stB gr l = true) (hkk : kk < l.length) (hx : expB gr x = true) (hn : cs.length + 1 = 2 * l.length) (hcs : cs.all (expB gr) = true) (hev : RdR rEqualLog w ev l) (hcv : Ints w cv cs) :
    Calls Try.prog 109 #[.agg #[.int .i64 gr.p, .int .i64 gr.q, .int .i64 gr.g], .string s, ev, .int .i64 (kk : Int), .int .i64 x, cv] w fun e w' => (∃ a b c, e = .returned (.agg #[a, b, c]) ∧ OwnI w' w.heap.size a (ooD gr s l kk x cs).c ∧ OwnI w' w.heap.size b (ooD gr s l kk x cs).h ∧ OwnI w' w.heap.size c (ooD gr s l kk x cs).r) ∧ Below w.heap.size w w' := by
  have HG := Lib.hid hg
  have HS := Lib.hid hs
  have HL := Lib.hid hl
  have HKK := Lib.hid hkk
  have HXE := Lib.hid hx
  have HLN := Lib.hid hn
  have HCA := Lib.hid hcs
  obtain ⟨eva, evn, evc, rfl⟩ := hev.shape
  have Eev := Lib.hid hev.len
  have Hev := Lib.hid hev
  obtain ⟨cva, cvn, cvc, rfl⟩ := hcv.shape
  have Ecv := Lib.hid hcv.len
  have Kcv := Lib.hid hcv.capMax
  have Hcv := Lib.hid hcv
  have HN9 : Hid (1 ≤ evn ∧ evn ≤ 8) := by have := stB_len hl; unfold Hid; have := Eev.out; omega
  have HCN : Hid (cvn + 1 = 2 * evn) := by unfold Hid; have := Eev.out; have := Ecv.out; omega
  clear hg hs hl hkk hx hn hcs hev hcv
  obtain ⟨bc, oc, rfl, hcx⟩ := Hcv.out.at_ (by have := HCN.out; have := HN9.out; omega)
  have Xc := Lib.hid hcx
  clear hcx
  obtain ⟨m9, hm9⟩ : ∃ m, m = cvn - 1 := ⟨_, rfl⟩
  have hwm9 : IntKind.i64.wrap ((cvn : Int) - 1) = (m9 : Int) := by have := HCN.out; have := HN9.out; rw [IntWalk.i64_in _ (by omega)]; omega
  have hbm9 : (0 : Int) ≤ (m9 : Int) := by omega
  have hbm8 : (m9 : Int) < (cvn : Int) := by have := HCN.out; have := HN9.out; omega
  have k9 := Xc.out m9 (by have := HCN.out; have := HN9.out; omega)
  have HOW0 : Hid (nth cs m9 = ooW l.length cs) := by unfold Hid ooW; congr 1; have := HCN.out; have := HN9.out; have := Eev.out; omega
  rw [HOW0.out] at k9
  have HOE : Hid (expB gr (ooW l.length cs) = true) := exp_nth HG.out HCA.out _
  obtain ⟨ow, how⟩ : ∃ z, ooW l.length cs = z := ⟨_, rfl⟩
  have HOW := Lib.hid how
  rw [how] at k9 HOE
  clear how HOW0 hm9
  have HOS := Lib.hid (expB_small HG.out HOE.out)
  have zq1 := HG.out.q1
  have zq2 := HG.out.q2
  have zp2 := HG.out.p2
  have zq0 : 0 < gr.q := by omega
  have zq3 : gr.q ≤ 2000000000 := by omega
  have zq4 : gr.q ≤ 4000000000 := by omega
  have hqz : ¬ gr.q = 0 := by omega
  have hqz2 : (gr.q == 0) = false := beq_eq_false_iff_ne.2 hqz
  obtain ⟨W, hW⟩ : ∃ W, W = ((w.alloc (.cells #[.int .i64 gr.p, .int .i64 gr.q, .int .i64 gr.g] 24)).alloc (.cells #[.slice none 0 0, .slice none 0 0, .slice none 0 0] 47)).alloc (.cells #[.slice none 0 0, .slice none 0 0, .slice none 0 0] 47) := ⟨_, rfl⟩
  have HB : Hid (Below w.heap.size w W) := by unfold Hid; rw [hW]; (repeat (first | exact Below.refl _ _ | assumption | refine Below.drew ?_ | refine Below.alloc ?_ (by first | (simp; done) | (simp; omega)) _ | refine Below.setCell ?_ (by first | (simp; done) | (simp; omega)) _))
  have HX0 : BoxN W w.heap.size 24 [.int .i64 gr.p, .int .i64 gr.q, .int .i64 gr.g] := by rw [hW]; have h := ((BoxN.new w [.int .i64 gr.p, .int .i64 gr.q, .int .i64 gr.g] 24).alloc (.cells #[.slice none 0 0, .slice none 0 0, .slice none 0 0] 47)).alloc (.cells #[.slice none 0 0, .slice none 0 0, .slice none 0 0] 47); simpa using h
  have HX1 : BoxN W (w.heap.size + 1) 47 [.slice none 0 0, .slice none 0 0, .slice none 0 0] := by rw [hW]; have h := (BoxN.new (w.alloc (.cells #[.int .i64 gr.p, .int .i64 gr.q, .int .i64 gr.g] 24)) [.slice none 0 0, .slice none 0 0, .slice none 0 0] 47).alloc (.cells #[.slice none 0 0, .slice none 0 0, .slice none 0 0] 47); simpa using h
  have HX2 : BoxN W (w.heap.size + 1 + 1) 47 [.slice none 0 0, .slice none 0 0, .slice none 0 0] := by rw [hW]; have h := BoxN.new ((w.alloc (.cells #[.int .i64 gr.p, .int .i64 gr.q, .int .i64 gr.g] 24)).alloc (.cells #[.slice none 0 0, .slice none 0 0, .slice none 0 0] 47)) [.slice none 0 0, .slice none 0 0, .slice none 0 0] 47; simpa using h
  have hsW : W.heap.size = w.heap.size + 3 := by rw [hW]; simp
  have HP0 : Hid (PSt w W w.heap.size (w.heap.size + 1) (w.heap.size + 1 + 1) W.heap.size gr (.slice none 0 0) (.slice none 0 0) (.slice none 0 0) [] [] []) := PSt.new HB.out HX0 HX1 HX2 (by omega) (by omega) HB.out.size (Nat.le_refl _)
  go_enter Try.func109, Try.ntmps109
  go_upto_region 2 with fail
  rw [← hW]
  clear hW
  have y9 := box_at k9 HB.out
  have hsW2 : w.heap.size + 3 ≤ W.heap.size := by omega
  clear HX0 HX1 HX2 hsW
  go_wp2_with fail
  clear y9 k9 hwm9 hbm9 hbm8
  go_loopg [5, 15, 29] evn (fun gk tv sv iv wr => ∃ (k o tn tc : Nat), k + gk = evn ∧ iv = .int .i64 (k : Int) ∧ tv = .slice (some ⟨bc, o, none⟩) tn tc ∧ o = oc + ooN kk k ∧ tn + ooN kk k = cvn ∧ tc + ooN kk k = cvc ∧ sv = .int .i64 (sumM gr.q (ooHs kk cs k)) ∧ ∃ c1 h1 r1, PSt w wr w.heap.size (w.heap.size + 1) (w.heap.size + 1 + 1) W.heap.size gr c1 h1 r1 (ooCs gr l kk cs k) (ooHs kk cs k) (ooRs kk cs k))
  case atStart => exact ⟨0, oc, cvn, cvc, by omega, rfl, rfl, by simp [ooN], by simp [ooN], by simp [ooN], rfl, _, _, _, HP0.out⟩
  case round =>
    obtain ⟨k, o, tn, tc, hkg, rfl, rfl, hoo, hon, hoc, rfl, c1, h1, r1, hP⟩ := hrel
    have HP := Lib.hid hP
    have HKG := Lib.hid hkg
    have HOO := Lib.hid hoo
    have HON := Lib.hid hon
    have HOC := Lib.hid hoc
    have hgl : k < evn → evn - (k + 1) < gk := by omega
    clear hP hkg hoo hon hoc
    have HLC : Hid ((ooCs gr l kk cs k).length = 2 * k) := ooCs_len ..
    have HLH : Hid ((ooHs kk cs k).length = k) := ooHs_len ..
    have HLR : Hid ((ooRs kk cs k).length = k) := ooRs_len ..
    have HSB := Lib.hid (sumM_bd (q := gr.q) (by have := HG.out.q1; omega) (ooHs kk cs k))
    have HKE : Hid (k ≤ evn) := by unfold Hid; have := HKG.out; omega
    by_cases hlt : k < evn
    · have HK : Hid (k < l.length) := by unfold Hid; have := Eev.out; omega
      have HZE : Hid (eqEl gr (l[k]'HK.out) = true) := List.all_eq_true.1 (stB_all HL.out) _ (List.getElem_mem HK.out)
      have HY1 := Lib.hid (fun h => ooC_own (gr := gr) (kk := kk) (cs := cs) HK.out h)
      have HY2 := Lib.hid (fun h => ooC_other (gr := gr) (kk := kk) (cs := cs) HK.out h)
      have hwk : IntKind.i64.wrap ((k : Int) + 1) = (k : Int) + 1 := IntWalk.i64_in _ (by have := HN9.out; omega)
      obtain ⟨LC, hLC⟩ : ∃ L, ooCs gr l kk cs k = L := ⟨_, rfl⟩
      obtain ⟨LH, hLH⟩ : ∃ L, ooHs kk cs k = L := ⟨_, rfl⟩
      obtain ⟨LR, hLR⟩ : ∃ L, ooRs kk cs k = L := ⟨_, rfl⟩
      obtain ⟨S, hS⟩ : ∃ S, sumM gr.q LH = S := ⟨_, rfl⟩
      rw [hLC, hLH, hLR] at HP
      rw [hLC] at HLC
      rw [hLH, hS] at HSB ⊢
      rw [hLH] at HLH
      rw [hLR] at HLR
      have HLCe := Lib.hid hLC
      have HLHe := Lib.hid hLH
      have HLRe := Lib.hid hLR
      have HSe := Lib.hid hS
      clear hLC hLH hLR hS
      have hb0 := HP.out.bel
      obtain ⟨b_z, o_z, rfl, hcx⟩ := Hev.out.at_ (by omega)
      obtain ⟨us, hcell, hrd⟩ := hcx k HK.out
      clear hcx
      generalize l[k]'HK.out = z at hrd HZE HY1 HY2
      obtain ⟨ers, jz_0, jz_1, jz_2, jz_3⟩ := rdEqualLog.1 ⟨us, rfl, hrd⟩
      obtain rfl : us = [.int .i64 z.g1, .int .i64 z.y1, .int .i64 z.g2, .int .i64 z.y2] := by have h := Value.agg.inj ers; simpa using congrArg Array.toList h
      clear ers hrd
      have y_z_0 : wr.cell? ⟨b_z, o_z + k * 4, none⟩ = some (.int .i64 z.g1) := box_at (hcell 0 (by decide)) hb0
      have y_z_1 : wr.cell? ⟨b_z, o_z + k * 4 + 1, none⟩ = some (.int .i64 z.y1) := box_at (hcell 1 (by decide)) hb0
      have y_z_2 : wr.cell? ⟨b_z, o_z + k * 4 + 2, none⟩ = some (.int .i64 z.g2) := box_at (hcell 2 (by decide)) hb0
      have y_z_3 : wr.cell? ⟨b_z, o_z + k * 4 + 3, none⟩ = some (.int .i64 z.y2) := box_at (hcell 3 (by decide)) hb0
      clear hcell
      have HR_z := Lib.hid ((kS rEqualLog).rd_below (rdEqualLog.2 ⟨rfl, jz_0, jz_1, jz_2, jz_3⟩ : (kS rEqualLog).rd w (.agg #[.int .i64 z.g1, .int .i64 z.y1, .int .i64 z.g2, .int .i64 z.y2]) z) hb0)
      have J_z_0 := Lib.hid jz_0
      have J_z_1 := Lib.hid jz_1
      have J_z_2 := Lib.hid jz_2
      have J_z_3 := Lib.hid jz_3
      clear jz_0 jz_1 jz_2 jz_3
      have HZS := Lib.hid (eqEl_small HG.out HZE.out)
      have hly := World.block_lt_of_cell? wr _ y_z_0
      clear hb0
      by_cases hkk : k = kk
      · have HY := Lib.hid (HY1.out hkk)
        clear HY1 HY2
        have hd : ((k : Int) == (kk : Int)) = true := by simp [hkk]
        have HKQ := Lib.hid hkk
        clear hkk
        go_wp2_with fail
        obtain ⟨V, hV⟩ : ∃ V, V = wr.alloc (.cells #[.int .i64 z.g1, .int .i64 z.y1, .int .i64 z.g2, .int .i64 z.y2] 31) := ⟨_, rfl⟩
        rw [← hV]
        have HV : Hid (Below wr.heap.size wr V) := by unfold Hid; rw [hV]; exact (Below.refl _ _).alloc (Nat.le_refl _) _
        have hsV : V.heap.size = wr.heap.size + 1 := by rw [hV]; simp
        have x_z_0 : V.cell? ⟨wr.heap.size, 0, none⟩ = some (.int .i64 z.g1) := by rw [hV]; simp [go_sem]
        have x_z_1 : V.cell? ⟨wr.heap.size, 1, none⟩ = some (.int .i64 z.y1) := by rw [hV]; simp [go_sem]
        have x_z_2 : V.cell? ⟨wr.heap.size, 2, none⟩ = some (.int .i64 z.g2) := by rw [hV]; simp [go_sem]
        have x_z_3 : V.cell? ⟨wr.heap.size, 3, none⟩ = some (.int .i64 z.y2) := by rw [hV]; simp [go_sem]
        have HRV_z := Lib.hid ((kS rEqualLog).rd_below HR_z.out HV.out)
        clear hV
        clear y_z_0 y_z_1 y_z_2 y_z_3
        have HPV := Lib.hid (HP.out.below HV.out)
        have c0_0 := HPV.out.grp.cell (i := 0) rfl
        have c0_1 := HPV.out.grp.cell (i := 1) rfl
        have c0_2 := HPV.out.grp.cell (i := 2) rfl
        have c1_0 := HPV.out.prf.cell (i := 0) rfl
        have c1_1 := HPV.out.prf.cell (i := 1) rfl
        have c1_2 := HPV.out.prf.cell (i := 2) rfl
        have hc : Below V.heap.size V V := Below.refl _ _
        try (go_wp2_with fail)
        refine wp_region_noPanic ?_
        refine wp_region_P (fun w' => w'.cell? ⟨w.heap.size, 0, none⟩ = some (.int .i64 gr.p) ∧ w'.cell? ⟨w.heap.size, 1, none⟩ = some (.int .i64 gr.q) ∧ w'.cell? ⟨w.heap.size, 2, none⟩ = some (.int .i64 gr.g) ∧ w'.cell? ⟨(w.heap.size + 1 + 1), 0, none⟩ = some (c1) ∧ w'.cell? ⟨(w.heap.size + 1 + 1), 1, none⟩ = some (h1) ∧ w'.cell? ⟨(w.heap.size + 1 + 1), 2, none⟩ = some (r1) ∧ w'.cell? ⟨wr.heap.size, 0, none⟩ = some (.int .i64 z.g1) ∧ w'.cell? ⟨wr.heap.size, 1, none⟩ = some (.int .i64 z.y1) ∧ w'.cell? ⟨wr.heap.size, 2, none⟩ = some (.int .i64 z.g2) ∧ w'.cell? ⟨wr.heap.size, 3, none⟩ = some (.int .i64 z.y2)) 18 [(0, []), (1, [0]), (2, []), (3, []), (4, [0]), (5, []), (6, [3, 1, 0]), (7, []), (8, []), (9, [0]), (10, []), (11, [3, 1, 0]), (12, [5, 0])] [13, 14, 15] (by kernel_rfl) (by kernel_rfl) (by kernel_rfl) rfl (fun _ _ _ _ h => h) (fun w' h => ⟨box_at c0_0 h, box_at c0_1 h, box_at c0_2 h, box_at c1_0 h, box_at c1_1 h, box_at c1_2 h, box_at x_z_0 h, box_at x_z_1 h, box_at x_z_2 h, box_at x_z_3 h⟩) ?_
        simp only [pickP, pickN, List.getElem?_cons_zero, List.getElem?_cons_succ]
        iterate 6 (refine' chainP_read _ rfl rfl (fun w' hS' => ?_) ?_; rotate_left; · (simp only [lookP, allP, Act.put, List.getElem?_cons_zero, List.getElem?_cons_succ, List.setIfInBounds_toArray, List.set_cons_zero, List.set_cons_succ]; (try dsimp only at hS'); go_simp; (try with_reducible rfl)))
        -- 6: call { callee := value (func 117), args := #[t39, t41, t42], argTypes := #[25, 3, 3] }
        refine chainP_call (d := (some 43)) (.int .i64 (powE gr z.g1 ow)) rfl rfl (fun w' hS' => ?_) ?_
        · simp only [lookP, allP, Act.put, List.getElem?_cons_zero, List.getElem?_cons_succ, List.setIfInBounds_toArray, List.set_cons_zero, List.set_cons_succ]
          intro K hK
          go_simp
          go_at_call 80
          refine (spec_gExp gr z.g1 ow _ HG.out HZS.out.1 (small_64 HOS.out)).mono ?_
          rintro e u ⟨rfl, hq⟩
          exact hK.out _ hq
        iterate 4 (refine' chainP_read _ rfl rfl (fun w' hS' => ?_) ?_; rotate_left; · (simp only [lookP, allP, Act.put, List.getElem?_cons_zero, List.getElem?_cons_succ, List.setIfInBounds_toArray, List.set_cons_zero, List.set_cons_succ]; (try dsimp only at hS'); go_simp; (try with_reducible rfl)))
        -- 11: call { callee := value (func 117), args := #[t44, t46, t47], argTypes := #[25, 3, 3] }
        refine chainP_call (d := (some 48)) (.int .i64 (powE gr z.g2 ow)) rfl rfl (fun w' hS' => ?_) ?_
        · simp only [lookP, allP, Act.put, List.getElem?_cons_zero, List.getElem?_cons_succ, List.setIfInBounds_toArray, List.set_cons_zero, List.set_cons_succ]
          intro K hK
          go_simp
          go_at_call 80
          refine (spec_gExp gr z.g2 ow _ HG.out HZS.out.2.2.1 (small_64 HOS.out)).mono ?_
          rintro e u ⟨rfl, hq⟩
          exact hK.out _ hq
        -- 12: buildSlice 26 2 #[(0, t43), (1, t48)]
        refine chainP_do (d := (some 49)) (fun v w => Ints w v [powE gr z.g1 ow, powE gr z.g2 ow]) (fun v w w' hb h => Ints.below h hb) rfl rfl (fun w' hS' => ?_) ?_
        · simp only [lookP, allP, Act.put, List.getElem?_cons_zero, List.getElem?_cons_succ, List.setIfInBounds_toArray, List.set_cons_zero, List.set_cons_succ]
          intro K hK
          go_simp
          refine hK.out _ _ ((Below.refl _ _).alloc (Nat.le_refl _) _) ?_
          exact (OwnI.lit (B := w'.heap.size) w' (Nat.le_refl _) (l := [powE gr z.g1 ow, powE gr z.g2 ow]) (AllI64.cons (small_64 (powE_small HG.out _ _)) (AllI64.cons (small_64 (powE_small HG.out _ _)) AllI64.nil)) rfl (by simp [maxLen]) 2 rfl).ints
        refine chainP_nil (fun ua hS' => ?_)
        simp only [allP, Act.put, List.setIfInBounds_toArray, List.set_cons_zero, List.set_cons_succ]
        intro x12 hx12
        have hq1 := hS'.1
        clear hS'
        replace hc := Below.next hc hq1
        replace c0_0 := box_at c0_0 hq1
        replace c0_1 := box_at c0_1 hq1
        replace c0_2 := box_at c0_2 hq1
        replace c1_0 := box_at c1_0 hq1
        replace c1_1 := box_at c1_1 hq1
        replace c1_2 := box_at c1_2 hq1
        replace x_z_0 := box_at x_z_0 hq1
        replace x_z_1 := box_at x_z_1 hq1
        replace x_z_2 := box_at x_z_2 hq1
        replace x_z_3 := box_at x_z_3 hq1
        clear hq1
        have HPA := Lib.hid (HPV.out.below hc)
        clear hc x_z_0 x_z_1 x_z_2 x_z_3
        go_wp2_with (at_builtin; refine RowsI.list_appN rfl _ _ rfl HPA.out.rows HPA.out.hi 0 rfl hx12 (by simp) (2 * k + 2) (by have := HLC.out; have := HKE.out; have := HN9.out; simp only [List.length_cons, List.length_nil]; omega) (by have := HKE.out; have := HN9.out; omega) rfl rfl ?_; intro a_1 c_1 w1 hr1 hx1 hb1; have r0 := (hx1 _ _ _ (by decide) HPA.out.prf).cell (i := 0) rfl; have fr := fun j => (hx1 _ _ _ (by decide) HPA.out.prf).frozen j)
        obtain ⟨Z1, hZ1⟩ : ∃ Z, Z = w1.setCell ⟨w.heap.size + 1 + 1, 0, none⟩ (.slice a_1 (2 * k + 2) c_1) := ⟨_, rfl⟩
        rw [← hZ1]
        have HP1 : Hid (PSt w Z1 w.heap.size (w.heap.size + 1) (w.heap.size + 1 + 1) W.heap.size gr (.slice a_1 (2 * k + 2) c_1) h1 r1 (LC ++ [powE gr z.g1 ow, powE gr z.g2 ow]) LH LR) := by unfold Hid; rw [hZ1]; exact HPA.out.set0 hr1 hx1 hb1
        clear hZ1 hr1 hx1 hb1 r0 fr
        clear c0_0 c0_1 c0_2 c1_0 c1_1 c1_2
        refine NoPanic.normal ?_
        obtain ⟨V2, hV2⟩ : ∃ V, V = Z1.alloc (.cells #[.int .i64 0] 3) := ⟨_, rfl⟩
        have hbV2 : Below Z1.heap.size Z1 V2 := by rw [hV2]; exact (Below.refl _ _).alloc (Nat.le_refl _) _
        have HQ2 := Lib.hid (HP1.out.below hbV2)
        have HLT2 : Ints V2 (.slice (some ⟨Z1.heap.size, 0, none⟩) 1 1) [0] := by
          rw [hV2]; exact (OwnI.lit (B := 0) Z1 (Nat.zero_le _) (l := [0]) (AllI64.cons ⟨by decide, by decide⟩ AllI64.nil) rfl (by simp [maxLen]) 1 rfl).ints
        have p0 := HP1.out.prf.cell (i := 1) rfl
        go_upto_region 10 with (at_builtin; (try rw [← hV2]); refine RowsI.list_appN rfl _ _ rfl HQ2.out.rows HQ2.out.hi 1 rfl HLT2 (by simp) (k + 1) (by have := HLH.out; have := HKE.out; have := HN9.out; simp only [List.length_cons, List.length_nil]; omega) (by have := HKE.out; have := HN9.out; omega) rfl rfl ?_; intro a_2 c_2 w2 hr2 hx2 hb2; have r0 := (hx2 _ _ _ (by decide) HQ2.out.prf).cell (i := 1) rfl; have fr := fun j => (hx2 _ _ _ (by decide) HQ2.out.prf).frozen j)
        obtain ⟨Z2, hZ2⟩ : ∃ Z, Z = w2.setCell ⟨w.heap.size + 1 + 1, 1, none⟩ (.slice a_2 (k + 1) c_2) := ⟨_, rfl⟩
        rw [← hZ2]
        have HP2 : Hid (PSt w Z2 w.heap.size (w.heap.size + 1) (w.heap.size + 1 + 1) W.heap.size gr (.slice a_1 (2 * k + 2) c_1) (.slice a_2 (k + 1) c_2) r1 (LC ++ [powE gr z.g1 ow, powE gr z.g2 ow]) (LH ++ [0]) LR) := by unfold Hid; rw [hZ2]; exact HQ2.out.set1 hr2 hx2 hb2
        clear hZ2 hr2 hx2 hb2 r0 fr
        clear hV2 hbV2 HQ2 HLT2 p0
        obtain ⟨V3, hV3⟩ : ∃ V, V = Z2.alloc (.cells #[.int .i64 0] 3) := ⟨_, rfl⟩
        have hbV3 : Below Z2.heap.size Z2 V3 := by rw [hV3]; exact (Below.refl _ _).alloc (Nat.le_refl _) _
        have HQ3 := Lib.hid (HP2.out.below hbV3)
        have HLT3 : Ints V3 (.slice (some ⟨Z2.heap.size, 0, none⟩) 1 1) [0] := by
          rw [hV3]; exact (OwnI.lit (B := 0) Z2 (Nat.zero_le _) (l := [0]) (AllI64.cons ⟨by decide, by decide⟩ AllI64.nil) rfl (by simp [maxLen]) 1 rfl).ints
        have p0 := HP2.out.prf.cell (i := 2) rfl
        go_upto_region 17 with (at_builtin; (try rw [← hV3]); refine RowsI.list_appN rfl _ _ rfl HQ3.out.rows HQ3.out.hi 2 rfl HLT3 (by simp) (k + 1) (by have := HLR.out; have := HKE.out; have := HN9.out; simp only [List.length_cons, List.length_nil]; omega) (by have := HKE.out; have := HN9.out; omega) rfl rfl ?_; intro a_3 c_3 w3 hr3 hx3 hb3; have r0 := (hx3 _ _ _ (by decide) HQ3.out.prf).cell (i := 2) rfl; have fr := fun j => (hx3 _ _ _ (by decide) HQ3.out.prf).frozen j)
        obtain ⟨Z3, hZ3⟩ : ∃ Z, Z = w3.setCell ⟨w.heap.size + 1 + 1, 2, none⟩ (.slice a_3 (k + 1) c_3) := ⟨_, rfl⟩
        rw [← hZ3]
        have HP3 : Hid (PSt w Z3 w.heap.size (w.heap.size + 1) (w.heap.size + 1 + 1) W.heap.size gr (.slice a_1 (2 * k + 2) c_1) (.slice a_2 (k + 1) c_2) (.slice a_3 (k + 1) c_3) (LC ++ [powE gr z.g1 ow, powE gr z.g2 ow]) (LH ++ [0]) (LR ++ [0])) := by unfold Hid; rw [hZ3]; exact HQ3.out.set2 hr3 hx3 hb3
        clear hZ3 hr3 hx3 hb3 r0 fr
        clear hV3 hbV3 HQ3 HLT3 p0
        go_wp2_with fail
        go_roundg (evn - (k + 1))
        case measure => exact hgl hlt
        case rel =>
          refine ⟨k + 1, o, tn, tc, by have := HKG.out; omega, by go_num, rfl, by rw [ooN_own HKQ.out]; exact HOO.out, by rw [ooN_own HKQ.out]; exact HON.out, by rw [ooN_own HKQ.out]; exact HOC.out, ?_, (.slice a_1 (2 * k + 2) c_1), (.slice a_2 (k + 1) c_2), (.slice a_3 (k + 1) c_3), ?_⟩
          · rw [HY.out.2.1, sumM_snoc, HLHe.out, HSe.out, Int.add_zero, Int.emod_eq_of_lt HSB.out.1 HSB.out.2]
          · rw [HY.out.1, HY.out.2.1, HY.out.2.2, HLCe.out, HLHe.out, HLRe.out, HOW.out]; exact HP3.out
      · have HY := Lib.hid (HY2.out hkk)
        clear HY1 HY2
        have hd : ((k : Int) == (kk : Int)) = false := by rw [beq_eq_false_iff_ne]; omega
        have HKQ := Lib.hid hkk
        clear hkk
        have HT2 : Hid (3 ≤ tn ∧ tn ≤ tc) := by unfold Hid; have := ooN_le HK.out HKK.out HKQ.out; have := HON.out; have := HOC.out; have := HCN.out; have := Eev.out; have := Kcv.out.1; omega
        have ya := Xc.out (ooN kk k) (by have := HT2.out; have := HON.out; omega)
        have yb := Xc.out (ooN kk k + 1) (by have := HT2.out; have := HON.out; omega)
        have HA : Hid (Small (nth cs (ooN kk k))) := expB_small HG.out (exp_nth HG.out HCA.out _)
        have HBB : Hid (Small (nth cs (ooN kk k + 1))) := expB_small HG.out (exp_nth HG.out HCA.out _)
        have HAB := Lib.hid (expB_bd (exp_nth HG.out HCA.out (ooN kk k)))
        rw [← HOO.out] at ya
        rw [← Nat.add_assoc, ← HOO.out] at yb
        generalize nth cs (ooN kk k) = a at ya HA HAB HY
        generalize nth cs (ooN kk k + 1) = b at yb HBB HY
        have ewn : IntKind.i64.wrap (-a) = -a := IntWalk.i64_in _ (by have := HAB.out; omega)
        have HIA : Hid (I64 (-a)) := ⟨by have := HAB.out; omega, by have := HAB.out; omega⟩
        obtain ⟨hs0, hs1⟩ := HSB.out
        have ew1 : IntKind.i64.wrap (S + a) = S + a := IntWalk.i64_in _ (by have := HAB.out; omega)
        have et : Int.tmod (S + a) gr.q = (S + a) % gr.q := Int.tmod_eq_emod_of_nonneg (by have := HAB.out; omega)
        have em0 : 0 ≤ (S + a) % gr.q := Int.emod_nonneg _ hqz
        have em1 : (S + a) % gr.q < gr.q := Int.emod_lt_of_pos _ zq0
        have ew2 : IntKind.i64.wrap ((S + a) % gr.q) = (S + a) % gr.q := IntWalk.i64_in _ (by omega)
        have bt0 : (0 : Int) < (tn : Int) := by have := HT2.out; omega
        have bt1 : (1 : Int) < (tn : Int) := by have := HT2.out; omega
        have bn0 : 0 < tn := by have := HT2.out; omega
        have bn1 : 1 < tn := by have := HT2.out; omega
        have bn2 : 2 ≤ tn := by have := HT2.out; omega
        have bn4 : ¬ tc = 2 := by have := HT2.out; omega
        have bn5 : ¬ tc - 2 = 0 := by have := HT2.out; omega
        have bn3 : tn ≤ tc := HT2.out.2
        have bt2 : (2 : Int) ≤ (tn : Int) := by have := HT2.out; omega
        have bt3 : (tn : Int) ≤ (tc : Int) := by have := HT2.out; omega
        clear em0 em1 hs0 hs1
        go_wp2_with fail
        obtain ⟨V, hV⟩ : ∃ V, V = wr.alloc (.cells #[.int .i64 z.g1, .int .i64 z.y1, .int .i64 z.g2, .int .i64 z.y2] 31) := ⟨_, rfl⟩
        rw [← hV]
        have HV : Hid (Below wr.heap.size wr V) := by unfold Hid; rw [hV]; exact (Below.refl _ _).alloc (Nat.le_refl _) _
        have hsV : V.heap.size = wr.heap.size + 1 := by rw [hV]; simp
        have x_z_0 : V.cell? ⟨wr.heap.size, 0, none⟩ = some (.int .i64 z.g1) := by rw [hV]; simp [go_sem]
        have x_z_1 : V.cell? ⟨wr.heap.size, 1, none⟩ = some (.int .i64 z.y1) := by rw [hV]; simp [go_sem]
        have x_z_2 : V.cell? ⟨wr.heap.size, 2, none⟩ = some (.int .i64 z.g2) := by rw [hV]; simp [go_sem]
        have x_z_3 : V.cell? ⟨wr.heap.size, 3, none⟩ = some (.int .i64 z.y2) := by rw [hV]; simp [go_sem]
        have HRV_z := Lib.hid ((kS rEqualLog).rd_below HR_z.out HV.out)
        clear hV
        clear y_z_0 y_z_1 y_z_2 y_z_3
        have HPV := Lib.hid (HP.out.below HV.out)
        have y_a := box_at ya HPV.out.bel
        have y_b := box_at yb HPV.out.bel
        have c0_0 := HPV.out.grp.cell (i := 0) rfl
        have c0_1 := HPV.out.grp.cell (i := 1) rfl
        have c0_2 := HPV.out.grp.cell (i := 2) rfl
        have c1_0 := HPV.out.prf.cell (i := 0) rfl
        have c1_1 := HPV.out.prf.cell (i := 1) rfl
        have c1_2 := HPV.out.prf.cell (i := 2) rfl
        have hc : Below V.heap.size V V := Below.refl _ _
        try (go_wp2_with fail)
        refine wp_region_noPanic ?_
        refine wp_region_P (fun w' => w'.cell? ⟨w.heap.size, 0, none⟩ = some (.int .i64 gr.p) ∧ w'.cell? ⟨w.heap.size, 1, none⟩ = some (.int .i64 gr.q) ∧ w'.cell? ⟨w.heap.size, 2, none⟩ = some (.int .i64 gr.g) ∧ w'.cell? ⟨(w.heap.size + 1 + 1), 0, none⟩ = some (c1) ∧ w'.cell? ⟨(w.heap.size + 1 + 1), 1, none⟩ = some (h1) ∧ w'.cell? ⟨(w.heap.size + 1 + 1), 2, none⟩ = some (r1) ∧ w'.cell? ⟨wr.heap.size, 0, none⟩ = some (.int .i64 z.g1) ∧ w'.cell? ⟨wr.heap.size, 1, none⟩ = some (.int .i64 z.y1) ∧ w'.cell? ⟨wr.heap.size, 2, none⟩ = some (.int .i64 z.g2) ∧ w'.cell? ⟨wr.heap.size, 3, none⟩ = some (.int .i64 z.y2) ∧ w'.cell? ⟨bc, o, none⟩ = some (.int .i64 a) ∧ w'.cell? ⟨bc, o + 1, none⟩ = some (.int .i64 b)) 10 [(0, []), (1, [0]), (2, [0]), (3, []), (4, [0]), (5, [0]), (6, [3]), (7, [1])] [] (by kernel_rfl) (by kernel_rfl) (by kernel_rfl) rfl (fun _ _ _ _ h => h) (fun w' h => ⟨box_at c0_0 h, box_at c0_1 h, box_at c0_2 h, box_at c1_0 h, box_at c1_1 h, box_at c1_2 h, box_at x_z_0 h, box_at x_z_1 h, box_at x_z_2 h, box_at x_z_3 h, box_at y_a h, box_at y_b h⟩) ?_
        simp only [pickP, pickN, List.getElem?_cons_zero, List.getElem?_cons_succ]
        iterate 8 (refine' chainP_read _ rfl rfl (fun w' hS' => ?_) ?_; rotate_left; · (simp only [lookP, allP, Act.put, List.getElem?_cons_zero, List.getElem?_cons_succ, List.setIfInBounds_toArray, List.set_cons_zero, List.set_cons_succ]; (try dsimp only at hS'); go_simp; (try with_reducible rfl)))
        refine chainP_nil (fun ua hS' => ?_)
        simp only [allP, Act.put, List.setIfInBounds_toArray, List.set_cons_zero, List.set_cons_succ]
        have hq1 := hS'.1
        clear hS'
        replace hc := Below.next hc hq1
        replace c0_0 := box_at c0_0 hq1
        replace c0_1 := box_at c0_1 hq1
        replace c0_2 := box_at c0_2 hq1
        replace c1_0 := box_at c1_0 hq1
        replace c1_1 := box_at c1_1 hq1
        replace c1_2 := box_at c1_2 hq1
        replace x_z_0 := box_at x_z_0 hq1
        replace x_z_1 := box_at x_z_1 hq1
        replace x_z_2 := box_at x_z_2 hq1
        replace x_z_3 := box_at x_z_3 hq1
        replace y_a := box_at y_a hq1
        replace y_b := box_at y_b hq1
        clear hq1
        go_wp2_with fail
        refine NoPanic.normal ?_
        go_upto_region 13 with fail
        obtain ⟨ub, hub⟩ : ∃ u, u = ua := ⟨_, rfl⟩
        rw [← hub] at hc c0_0 c0_1 c0_2 c1_0 c1_1 c1_2 x_z_0 x_z_1 x_z_2 x_z_3 y_a y_b ⊢
        clear hub
        have HPB := Lib.hid (HPV.out.below hc)
        clear hc
        have hc : Below ub.heap.size ub ub := Below.refl _ _
        try (go_wp2_with fail)
        refine wp_region_noPanic ?_
        refine wp_region_P (fun w' => w'.cell? ⟨w.heap.size, 0, none⟩ = some (.int .i64 gr.p) ∧ w'.cell? ⟨w.heap.size, 1, none⟩ = some (.int .i64 gr.q) ∧ w'.cell? ⟨w.heap.size, 2, none⟩ = some (.int .i64 gr.g) ∧ w'.cell? ⟨(w.heap.size + 1 + 1), 0, none⟩ = some (c1) ∧ w'.cell? ⟨(w.heap.size + 1 + 1), 1, none⟩ = some (h1) ∧ w'.cell? ⟨(w.heap.size + 1 + 1), 2, none⟩ = some (r1) ∧ w'.cell? ⟨wr.heap.size, 0, none⟩ = some (.int .i64 z.g1) ∧ w'.cell? ⟨wr.heap.size, 1, none⟩ = some (.int .i64 z.y1) ∧ w'.cell? ⟨wr.heap.size, 2, none⟩ = some (.int .i64 z.g2) ∧ w'.cell? ⟨wr.heap.size, 3, none⟩ = some (.int .i64 z.y2) ∧ w'.cell? ⟨bc, o, none⟩ = some (.int .i64 a) ∧ w'.cell? ⟨bc, o + 1, none⟩ = some (.int .i64 b)) 36 [(0, []), (1, [0]), (2, []), (3, []), (4, []), (5, [0]), (6, []), (7, [3, 1, 0]), (8, []), (9, []), (10, [0]), (11, []), (12, [0]), (13, [4, 2, 0]), (14, [6, 0]), (15, [12, 0]), (16, []), (17, []), (18, []), (19, [0]), (20, []), (21, [3, 1, 0]), (22, []), (23, []), (24, [0]), (25, []), (26, [0]), (27, [4, 2, 0]), (28, [6, 0]), (29, [12, 0]), (30, [14, 0])] [31, 32, 33] (by kernel_rfl) (by kernel_rfl) (by kernel_rfl) rfl (fun _ _ _ _ h => h) (fun w' h => ⟨box_at c0_0 h, box_at c0_1 h, box_at c0_2 h, box_at c1_0 h, box_at c1_1 h, box_at c1_2 h, box_at x_z_0 h, box_at x_z_1 h, box_at x_z_2 h, box_at x_z_3 h, box_at y_a h, box_at y_b h⟩) ?_
        simp only [pickP, pickN, List.getElem?_cons_zero, List.getElem?_cons_succ]
        iterate 7 (refine' chainP_read _ rfl rfl (fun w' hS' => ?_) ?_; rotate_left; · (simp only [lookP, allP, Act.put, List.getElem?_cons_zero, List.getElem?_cons_succ, List.setIfInBounds_toArray, List.set_cons_zero, List.set_cons_succ]; (try dsimp only at hS'); go_simp; (try with_reducible rfl)))
        -- 7: call { callee := value (func 117), args := #[t73, t75, t76], argTypes := #[25, 3, 3] }
        refine chainP_call (d := (some 77)) (.int .i64 (powE gr z.g1 b)) rfl rfl (fun w' hS' => ?_) ?_
        · simp only [lookP, allP, Act.put, List.getElem?_cons_zero, List.getElem?_cons_succ, List.setIfInBounds_toArray, List.set_cons_zero, List.set_cons_succ]
          intro K hK
          go_simp
          go_at_call 80
          refine (spec_gExp gr z.g1 b _ HG.out HZS.out.1 (small_64 HBB.out)).mono ?_
          rintro e u ⟨rfl, hq⟩
          exact hK.out _ hq
        iterate 5 (refine' chainP_read _ rfl rfl (fun w' hS' => ?_) ?_; rotate_left; · (simp only [lookP, allP, Act.put, List.getElem?_cons_zero, List.getElem?_cons_succ, List.setIfInBounds_toArray, List.set_cons_zero, List.set_cons_succ]; (try dsimp only at hS'); go_simp; (try with_reducible rfl)))
        -- 13: call { callee := value (func 117), args := #[t78, t80, t82], argTypes := #[25, 3, 3] }
        refine chainP_call (d := (some 83)) (.int .i64 (powE gr z.y1 (-a))) rfl rfl (fun w' hS' => ?_) ?_
        · simp only [lookP, allP, Act.put, List.getElem?_cons_zero, List.getElem?_cons_succ, List.setIfInBounds_toArray, List.set_cons_zero, List.set_cons_succ]
          intro K hK
          go_simp
          go_at_call 80
          refine (spec_gExp gr z.y1 (-a) _ HG.out HZS.out.2.1 HIA.out).mono ?_
          rintro e u ⟨rfl, hq⟩
          exact hK.out _ hq
        -- 14: buildSlice 26 2 #[(0, t77), (1, t83)]
        refine chainP_do (d := (some 84)) (fun v w => Ints w v [powE gr z.g1 b, powE gr z.y1 (-a)]) (fun v w w' hb h => Ints.below h hb) rfl rfl (fun w' hS' => ?_) ?_
        · simp only [lookP, allP, Act.put, List.getElem?_cons_zero, List.getElem?_cons_succ, List.setIfInBounds_toArray, List.set_cons_zero, List.set_cons_succ]
          intro K hK
          go_simp
          refine hK.out _ _ ((Below.refl _ _).alloc (Nat.le_refl _) _) ?_
          exact (OwnI.lit (B := w'.heap.size) w' (Nat.le_refl _) (l := [powE gr z.g1 b, powE gr z.y1 (-a)]) (AllI64.cons (small_64 (powE_small HG.out _ _)) (AllI64.cons (small_64 (powE_small HG.out _ _)) AllI64.nil)) rfl (by simp [maxLen]) 2 rfl).ints
        -- 15: call { callee := value (func 125), args := #[t72, t84], argTypes := #[25, 26] }
        refine chainP_call (d := (some 85)) (.int .i64 (mulL gr [powE gr z.g1 b, powE gr z.y1 (-a)])) rfl rfl (fun w' hS' => ?_) ?_
        · simp only [lookP, allP, Act.put, List.getElem?_cons_zero, List.getElem?_cons_succ, List.setIfInBounds_toArray, List.set_cons_zero, List.set_cons_succ]
          intro x14 hx14
          intro K hK
          go_simp
          go_at_call 89
          refine (spec_gMul gr _ [powE gr z.g1 b, powE gr z.y1 (-a)] _ HG.out hx14 (AllSmall.cons (powE_small HG.out _ _) (AllSmall.cons (powE_small HG.out _ _) AllSmall.nil))).mono ?_
          rintro e u ⟨rfl, hq⟩
          exact hK.out _ hq
        iterate 5 (refine' chainP_read _ rfl rfl (fun w' hS' => ?_) ?_; rotate_left; · (simp only [lookP, allP, Act.put, List.getElem?_cons_zero, List.getElem?_cons_succ, List.setIfInBounds_toArray, List.set_cons_zero, List.set_cons_succ]; (try dsimp only at hS'); go_simp; (try with_reducible rfl)))
        -- 21: call { callee := value (func 117), args := #[t87, t89, t90], argTypes := #[25, 3, 3] }
        refine chainP_call (d := (some 91)) (.int .i64 (powE gr z.g2 b)) rfl rfl (fun w' hS' => ?_) ?_
        · simp only [lookP, allP, Act.put, List.getElem?_cons_zero, List.getElem?_cons_succ, List.setIfInBounds_toArray, List.set_cons_zero, List.set_cons_succ]
          intro K hK
          go_simp
          go_at_call 80
          refine (spec_gExp gr z.g2 b _ HG.out HZS.out.2.2.1 (small_64 HBB.out)).mono ?_
          rintro e u ⟨rfl, hq⟩
          exact hK.out _ hq
        iterate 5 (refine' chainP_read _ rfl rfl (fun w' hS' => ?_) ?_; rotate_left; · (simp only [lookP, allP, Act.put, List.getElem?_cons_zero, List.getElem?_cons_succ, List.setIfInBounds_toArray, List.set_cons_zero, List.set_cons_succ]; (try dsimp only at hS'); go_simp; (try with_reducible rfl)))
        -- 27: call { callee := value (func 117), args := #[t92, t94, t96], argTypes := #[25, 3, 3] }
        refine chainP_call (d := (some 97)) (.int .i64 (powE gr z.y2 (-a))) rfl rfl (fun w' hS' => ?_) ?_
        · simp only [lookP, allP, Act.put, List.getElem?_cons_zero, List.getElem?_cons_succ, List.setIfInBounds_toArray, List.set_cons_zero, List.set_cons_succ]
          intro K hK
          go_simp
          go_at_call 80
          refine (spec_gExp gr z.y2 (-a) _ HG.out HZS.out.2.2.2 HIA.out).mono ?_
          rintro e u ⟨rfl, hq⟩
          exact hK.out _ hq
        -- 28: buildSlice 26 2 #[(0, t91), (1, t97)]
        refine chainP_do (d := (some 98)) (fun v w => Ints w v [powE gr z.g2 b, powE gr z.y2 (-a)]) (fun v w w' hb h => Ints.below h hb) rfl rfl (fun w' hS' => ?_) ?_
        · simp only [lookP, allP, Act.put, List.getElem?_cons_zero, List.getElem?_cons_succ, List.setIfInBounds_toArray, List.set_cons_zero, List.set_cons_succ]
          intro K hK
          go_simp
          refine hK.out _ _ ((Below.refl _ _).alloc (Nat.le_refl _) _) ?_
          exact (OwnI.lit (B := w'.heap.size) w' (Nat.le_refl _) (l := [powE gr z.g2 b, powE gr z.y2 (-a)]) (AllI64.cons (small_64 (powE_small HG.out _ _)) (AllI64.cons (small_64 (powE_small HG.out _ _)) AllI64.nil)) rfl (by simp [maxLen]) 2 rfl).ints
        -- 29: call { callee := value (func 125), args := #[t86, t98], argTypes := #[25, 26] }
        refine chainP_call (d := (some 99)) (.int .i64 (mulL gr [powE gr z.g2 b, powE gr z.y2 (-a)])) rfl rfl (fun w' hS' => ?_) ?_
        · simp only [lookP, allP, Act.put, List.getElem?_cons_zero, List.getElem?_cons_succ, List.setIfInBounds_toArray, List.set_cons_zero, List.set_cons_succ]
          intro x28 hx28
          intro K hK
          go_simp
          go_at_call 89
          refine (spec_gMul gr _ [powE gr z.g2 b, powE gr z.y2 (-a)] _ HG.out hx28 (AllSmall.cons (powE_small HG.out _ _) (AllSmall.cons (powE_small HG.out _ _) AllSmall.nil))).mono ?_
          rintro e u ⟨rfl, hq⟩
          exact hK.out _ hq
        -- 30: buildSlice 26 2 #[(0, t85), (1, t99)]
        refine chainP_do (d := (some 100)) (fun v w => Ints w v [mulL gr [powE gr z.g1 b, powE gr z.y1 (-a)], mulL gr [powE gr z.g2 b, powE gr z.y2 (-a)]]) (fun v w w' hb h => Ints.below h hb) rfl rfl (fun w' hS' => ?_) ?_
        · simp only [lookP, allP, Act.put, List.getElem?_cons_zero, List.getElem?_cons_succ, List.setIfInBounds_toArray, List.set_cons_zero, List.set_cons_succ]
          intro K hK
          go_simp
          refine hK.out _ _ ((Below.refl _ _).alloc (Nat.le_refl _) _) ?_
          exact (OwnI.lit (B := w'.heap.size) w' (Nat.le_refl _) (l := [mulL gr [powE gr z.g1 b, powE gr z.y1 (-a)], mulL gr [powE gr z.g2 b, powE gr z.y2 (-a)]]) (AllI64.cons (small_64 (mulL_small HG.out _)) (AllI64.cons (small_64 (mulL_small HG.out _)) AllI64.nil)) rfl (by simp [maxLen]) 2 rfl).ints
        refine chainP_nil (fun uc hS' => ?_)
        simp only [allP, Act.put, List.setIfInBounds_toArray, List.set_cons_zero, List.set_cons_succ]
        intro x30 hx30
        intro x28 hx28
        intro x14 hx14
        have hq1 := hS'.1
        clear hS'
        replace hc := Below.next hc hq1
        replace c0_0 := box_at c0_0 hq1
        replace c0_1 := box_at c0_1 hq1
        replace c0_2 := box_at c0_2 hq1
        replace c1_0 := box_at c1_0 hq1
        replace c1_1 := box_at c1_1 hq1
        replace c1_2 := box_at c1_2 hq1
        replace x_z_0 := box_at x_z_0 hq1
        replace x_z_1 := box_at x_z_1 hq1
        replace x_z_2 := box_at x_z_2 hq1
        replace x_z_3 := box_at x_z_3 hq1
        replace y_a := box_at y_a hq1
        replace y_b := box_at y_b hq1
        clear hq1
        have HPA := Lib.hid (HPB.out.below hc)
        clear hc x_z_0 x_z_1 x_z_2 x_z_3 y_a y_b
        go_wp2_with (at_builtin; refine RowsI.list_appN rfl _ _ rfl HPA.out.rows HPA.out.hi 0 rfl hx30 (by simp) (2 * k + 2) (by have := HLC.out; have := HKE.out; have := HN9.out; simp only [List.length_cons, List.length_nil]; omega) (by have := HKE.out; have := HN9.out; omega) rfl rfl ?_; intro a_1 c_1 w1 hr1 hx1 hb1; have r0 := (hx1 _ _ _ (by decide) HPA.out.prf).cell (i := 0) rfl; have fr := fun j => (hx1 _ _ _ (by decide) HPA.out.prf).frozen j)
        obtain ⟨Z1, hZ1⟩ : ∃ Z, Z = w1.setCell ⟨w.heap.size + 1 + 1, 0, none⟩ (.slice a_1 (2 * k + 2) c_1) := ⟨_, rfl⟩
        rw [← hZ1]
        have HP1 : Hid (PSt w Z1 w.heap.size (w.heap.size + 1) (w.heap.size + 1 + 1) W.heap.size gr (.slice a_1 (2 * k + 2) c_1) h1 r1 (LC ++ [smX gr z.g1 z.y1 a b, smX gr z.g2 z.y2 a b]) LH LR) := by unfold Hid; rw [hZ1]; exact HPA.out.set0 hr1 hx1 hb1
        clear hZ1 hr1 hx1 hb1 r0 fr
        clear c0_0 c0_1 c0_2 c1_0 c1_1 c1_2
        refine NoPanic.normal ?_
        obtain ⟨V2, hV2⟩ : ∃ V, V = Z1.alloc (.cells #[.int .i64 a] 3) := ⟨_, rfl⟩
        have hbV2 : Below Z1.heap.size Z1 V2 := by rw [hV2]; exact (Below.refl _ _).alloc (Nat.le_refl _) _
        have HQ2 := Lib.hid (HP1.out.below hbV2)
        have HLT2 : Ints V2 (.slice (some ⟨Z1.heap.size, 0, none⟩) 1 1) [a] := by
          rw [hV2]; exact (OwnI.lit (B := 0) Z1 (Nat.zero_le _) (l := [a]) (AllI64.cons (small_64 HA.out) AllI64.nil) rfl (by simp [maxLen]) 1 rfl).ints
        have p0 := HP1.out.prf.cell (i := 1) rfl
        go_upto_region 15 with (at_builtin; (try rw [← hV2]); refine RowsI.list_appN rfl _ _ rfl HQ2.out.rows HQ2.out.hi 1 rfl HLT2 (by simp) (k + 1) (by have := HLH.out; have := HKE.out; have := HN9.out; simp only [List.length_cons, List.length_nil]; omega) (by have := HKE.out; have := HN9.out; omega) rfl rfl ?_; intro a_2 c_2 w2 hr2 hx2 hb2; have r0 := (hx2 _ _ _ (by decide) HQ2.out.prf).cell (i := 1) rfl; have fr := fun j => (hx2 _ _ _ (by decide) HQ2.out.prf).frozen j)
        obtain ⟨Z2, hZ2⟩ : ∃ Z, Z = w2.setCell ⟨w.heap.size + 1 + 1, 1, none⟩ (.slice a_2 (k + 1) c_2) := ⟨_, rfl⟩
        rw [← hZ2]
        have HP2 : Hid (PSt w Z2 w.heap.size (w.heap.size + 1) (w.heap.size + 1 + 1) W.heap.size gr (.slice a_1 (2 * k + 2) c_1) (.slice a_2 (k + 1) c_2) r1 (LC ++ [smX gr z.g1 z.y1 a b, smX gr z.g2 z.y2 a b]) (LH ++ [a]) LR) := by unfold Hid; rw [hZ2]; exact HQ2.out.set1 hr2 hx2 hb2
        clear hZ2 hr2 hx2 hb2 r0 fr
        clear hV2 hbV2 HQ2 HLT2 p0
        obtain ⟨V3, hV3⟩ : ∃ V, V = Z2.alloc (.cells #[.int .i64 b] 3) := ⟨_, rfl⟩
        have hbV3 : Below Z2.heap.size Z2 V3 := by rw [hV3]; exact (Below.refl _ _).alloc (Nat.le_refl _) _
        have HQ3 := Lib.hid (HP2.out.below hbV3)
        have HLT3 : Ints V3 (.slice (some ⟨Z2.heap.size, 0, none⟩) 1 1) [b] := by
          rw [hV3]; exact (OwnI.lit (B := 0) Z2 (Nat.zero_le _) (l := [b]) (AllI64.cons (small_64 HBB.out) AllI64.nil) rfl (by simp [maxLen]) 1 rfl).ints
        have p0 := HP2.out.prf.cell (i := 2) rfl
        go_upto_region 16 with (at_builtin; (try rw [← hV3]); refine RowsI.list_appN rfl _ _ rfl HQ3.out.rows HQ3.out.hi 2 rfl HLT3 (by simp) (k + 1) (by have := HLR.out; have := HKE.out; have := HN9.out; simp only [List.length_cons, List.length_nil]; omega) (by have := HKE.out; have := HN9.out; omega) rfl rfl ?_; intro a_3 c_3 w3 hr3 hx3 hb3; have r0 := (hx3 _ _ _ (by decide) HQ3.out.prf).cell (i := 2) rfl; have fr := fun j => (hx3 _ _ _ (by decide) HQ3.out.prf).frozen j)
        obtain ⟨Z3, hZ3⟩ : ∃ Z, Z = w3.setCell ⟨w.heap.size + 1 + 1, 2, none⟩ (.slice a_3 (k + 1) c_3) := ⟨_, rfl⟩
        rw [← hZ3]
        have HP3 : Hid (PSt w Z3 w.heap.size (w.heap.size + 1) (w.heap.size + 1 + 1) W.heap.size gr (.slice a_1 (2 * k + 2) c_1) (.slice a_2 (k + 1) c_2) (.slice a_3 (k + 1) c_3) (LC ++ [smX gr z.g1 z.y1 a b, smX gr z.g2 z.y2 a b]) (LH ++ [a]) (LR ++ [b])) := by unfold Hid; rw [hZ3]; exact HQ3.out.set2 hr3 hx3 hb3
        clear hZ3 hr3 hx3 hb3 r0 fr
        clear hV3 hbV3 HQ3 HLT3 p0
        have g1 := HP3.out.grp.cell (i := 1) rfl
        go_wp2_with fail
        go_roundg (evn - (k + 1))
        case measure => exact hgl hlt
        case rel =>
          refine ⟨k + 1, o + 2, tn - 2, tc - 2, by have := HKG.out; omega, by go_num, by first | rfl | (simp; done) | fail, by rw [ooN_other HKQ.out]; have := HOO.out; omega, by rw [ooN_other HKQ.out]; have := HON.out; have := HT2.out; omega, by rw [ooN_other HKQ.out]; have := HOC.out; have := HT2.out; omega, ?_, (.slice a_1 (2 * k + 2) c_1), (.slice a_2 (k + 1) c_2), (.slice a_3 (k + 1) c_3), ?_⟩
          · rw [HY.out.2.1, sumM_snoc, HLHe.out, HSe.out]
          · rw [HY.out.1, HY.out.2.1, HY.out.2.2, HLCe.out, HLHe.out, HLRe.out]; exact HP3.out
    · obtain rfl : k = evn := by have := HKE.out; omega
      have HNE : Hid (l.length = k) := Eev.out
      have HCSM : Hid (AllSmall (ooCs gr l kk cs k)) := by unfold Hid; rw [← HNE.out]; exact els_small HG.out (oo_els HG.out HL.out kk cs)
      have HLCe : Hid (ooCs gr l kk cs l.length = ooCs gr l kk cs k) := by unfold Hid; rw [HNE.out]
      have HEE0 : Hid (ooE gr s l (ooCs gr l kk cs k) = ooE gr s l (ooCs gr l kk cs l.length)) := by unfold Hid; rw [HNE.out]
      have HEB : Hid (expB gr (ooE gr s l (ooCs gr l kk cs k)) = true) := expV HG.out _ _
      have HOD : Hid (ooOwn gr s l kk cs = (ooE gr s l (ooCs gr l kk cs k) - sumM gr.q (ooHs kk cs k)) % gr.q) := by unfold Hid ooOwn; rw [HNE.out]
      have HDH0 : Hid ((ooHs kk cs l.length).set kk (ooOwn gr s l kk cs) = (ooHs kk cs k).set kk (ooOwn gr s l kk cs)) := by unfold Hid; rw [HNE.out]
      have HDR0 : Hid ((ooRs kk cs l.length).set kk ((ooW l.length cs + ooOwn gr s l kk cs * x) % gr.q) = (ooRs kk cs k).set kk ((ow + ooOwn gr s l kk cs * x) % gr.q)) := by unfold Hid; rw [HOW.out, HNE.out]
      obtain ⟨LC, hLC⟩ : ∃ L, ooCs gr l kk cs k = L := ⟨_, rfl⟩
      obtain ⟨LH, hLH⟩ : ∃ L, ooHs kk cs k = L := ⟨_, rfl⟩
      obtain ⟨LR, hLR⟩ : ∃ L, ooRs kk cs k = L := ⟨_, rfl⟩
      obtain ⟨S, hS⟩ : ∃ S, sumM gr.q LH = S := ⟨_, rfl⟩
      obtain ⟨E, hE⟩ : ∃ E, ooE gr s l LC = E := ⟨_, rfl⟩
      obtain ⟨OWN, hOWN⟩ : ∃ E', (E - S) % gr.q = E' := ⟨_, rfl⟩
      obtain ⟨RV, hRV⟩ : ∃ R, (ow + OWN * x) % gr.q = R := ⟨_, rfl⟩
      rw [hLC, hLH, hLR] at HP
      rw [hLC] at HLC HLCe HCSM
      rw [hLH, hS] at HSB ⊢
      rw [hLH] at HLH
      rw [hLR] at HLR
      rw [hLC, hE] at HEB
      rw [hLC, hLH, hS, hE, hOWN] at HOD
      rw [hLH, HOD.out] at HDH0
      rw [hLR, HOD.out, hRV] at HDR0
      have HDH : Hid ((ooHs kk cs l.length).set kk (ooOwn gr s l kk cs) = LH.set kk OWN) := by unfold Hid; rw [HOD.out]; exact HDH0.out
      have HDR : Hid ((ooRs kk cs l.length).set kk ((ooW l.length cs + ooOwn gr s l kk cs * x) % gr.q) = LR.set kk RV) := by unfold Hid; rw [HOD.out]; exact HDR0.out
      have HEE := Lib.hid hE
      have HOWN := Lib.hid hOWN
      obtain ⟨e1, e2⟩ := expB_bd HEB.out
      obtain ⟨x1, x2⟩ := expB_bd HXE.out
      obtain ⟨w1, w2⟩ := expB_bd HOE.out
      obtain ⟨hs0, hs1⟩ := HSB.out
      have o0 : 0 ≤ OWN := by rw [← hOWN]; exact Int.emod_nonneg _ hqz
      have o1 : OWN < gr.q := by rw [← hOWN]; exact Int.emod_lt_of_pos _ zq0
      have HOI : Hid (I64 OWN) := ⟨by omega, by omega⟩
      have HES : Hid (I64 (E - S)) := ⟨by omega, by omega⟩
      have ews : IntKind.i64.wrap (E - S) = E - S := IntWalk.i64_in _ (by omega)
      obtain ⟨m1, m2⟩ := mul_boundX o0 (show OWN ≤ 2000000000 by omega) (show 0 ≤ x by omega) (show x ≤ 2000000000 by omega)
      have ewm : IntKind.i64.wrap (OWN * x) = OWN * x := IntWalk.i64_in _ (by omega)
      have ewa : IntKind.i64.wrap (ow + OWN * x) = ow + OWN * x := IntWalk.i64_in _ (by omega)
      have etm : Int.tmod (ow + OWN * x) gr.q = (ow + OWN * x) % gr.q := Int.tmod_eq_emod_of_nonneg (by omega)
      have r0 : 0 ≤ RV := by rw [← hRV]; exact Int.emod_nonneg _ hqz
      have r1' : RV < gr.q := by rw [← hRV]; exact Int.emod_lt_of_pos _ zq0
      have HRI : Hid (I64 RV) := ⟨by omega, by omega⟩
      have ewr : IntKind.i64.wrap RV = RV := IntWalk.i64_in _ (by omega)
      rw [hRV] at etm
      clear hLC hLH hLR hS hE hOWN hRV e1 e2 x1 x2 w1 w2 hs0 hs1 o0 o1 m1 m2 r0 r1' HDH0 HDR0
      go_wp2_with fail
      have c0_0 := HP.out.grp.cell (i := 0) rfl
      have c0_1 := HP.out.grp.cell (i := 1) rfl
      have c0_2 := HP.out.grp.cell (i := 2) rfl
      have c1_0 := HP.out.prf.cell (i := 0) rfl
      have c1_1 := HP.out.prf.cell (i := 1) rfl
      have c1_2 := HP.out.prf.cell (i := 2) rfl
      have hc : Below wr.heap.size wr wr := Below.refl _ _
      try (go_wp2_with fail)
      refine wp_region_noPanic ?_
      refine wp_region_P (fun w' => w'.cell? ⟨w.heap.size, 0, none⟩ = some (.int .i64 gr.p) ∧ w'.cell? ⟨w.heap.size, 1, none⟩ = some (.int .i64 gr.q) ∧ w'.cell? ⟨w.heap.size, 2, none⟩ = some (.int .i64 gr.g) ∧ w'.cell? ⟨(w.heap.size + 1 + 1), 0, none⟩ = some (c1) ∧ w'.cell? ⟨(w.heap.size + 1 + 1), 1, none⟩ = some (h1) ∧ w'.cell? ⟨(w.heap.size + 1 + 1), 2, none⟩ = some (r1)) 14 [(0, []), (1, []), (2, []), (3, []), (4, [0]), (5, [4, 3, 2, 0]), (6, []), (7, [1, 0]), (8, []), (9, [0]), (10, [2, 0]), (11, [0])] [] (by kernel_rfl) (by kernel_rfl) (by kernel_rfl) rfl (fun _ _ _ _ h => h) (fun w' h => ⟨box_at c0_0 h, box_at c0_1 h, box_at c0_2 h, box_at c1_0 h, box_at c1_1 h, box_at c1_2 h⟩) ?_
      simp only [pickP, pickN, List.getElem?_cons_zero, List.getElem?_cons_succ]
      iterate 5 (refine' chainP_read _ rfl rfl (fun w' hS' => ?_) ?_; rotate_left; · (simp only [lookP, allP, Act.put, List.getElem?_cons_zero, List.getElem?_cons_succ, List.setIfInBounds_toArray, List.set_cons_zero, List.set_cons_succ]; (try dsimp only at hS'); go_simp; (try with_reducible rfl)))
      -- 5: call { callee := value (func 249), args := #[t122, t123, t124, t126], argTypes := #[25, 9, 72, 26] }
      refine chainP_call (d := (some 127)) (.int .i64 E) rfl rfl (fun w' hS' => ?_) ?_
      · simp only [lookP, allP, Act.put, List.getElem?_cons_zero, List.getElem?_cons_succ, List.setIfInBounds_toArray, List.set_cons_zero, List.set_cons_succ]
        intro K hK
        go_simp
        go_at_call 198
        refine (spec_sJoint gr s _ l _ LC _ HG.out HS.out ((Hev.out.below HP.out.bel).below hS'.1) (HP.out.ownC.ints.below hS'.1) (stB_len HL.out).2 (ooL_small HG.out (stB_all HL.out)) (by have := HLC.out; have := HN9.out; omega) HCSM.out).mono ?_
        rintro e u ⟨rfl, hq⟩
        rw [HEE.out]
        exact hK.out _ hq
      iterate 4 (refine' chainP_read _ rfl rfl (fun w' hS' => ?_) ?_; rotate_left; · (simp only [lookP, allP, Act.put, List.getElem?_cons_zero, List.getElem?_cons_succ, List.setIfInBounds_toArray, List.set_cons_zero, List.set_cons_succ]; (try dsimp only at hS'); go_simp; (try with_reducible rfl)))
      -- 10: call { callee := value (func 104), args := #[t129, t131], argTypes := #[3, 3] }
      refine chainP_call (d := (some 132)) (.int .i64 OWN) rfl rfl (fun w' hS' => ?_) ?_
      · simp only [lookP, allP, Act.put, List.getElem?_cons_zero, List.getElem?_cons_succ, List.setIfInBounds_toArray, List.set_cons_zero, List.set_cons_succ]
        intro K hK
        go_simp
        go_at_call 114
        refine (spec_nMod (E - S) gr.q _ HES.out zq0 zq4).mono ?_
        rintro e u ⟨rfl, rfl⟩
        rw [HOWN.out]
        exact hK.out _ (Below.refl _ _)
      -- 11: assign t132
      refine' chainP_read (d := (some 20)) _ rfl rfl (fun w' hS' => ?_) ?_; rotate_left
      · simp only [lookP, allP, Act.put, List.getElem?_cons_zero, List.getElem?_cons_succ, List.setIfInBounds_toArray, List.set_cons_zero, List.set_cons_succ]
        (try dsimp only at hS')
        go_simp
        (try with_reducible rfl)
      refine chainP_nil (fun ua hS' => ?_)
      simp only [allP, Act.put, List.setIfInBounds_toArray, List.set_cons_zero, List.set_cons_succ]
      have hq1 := hS'.1
      clear hS'
      replace hc := Below.next hc hq1
      replace c0_0 := box_at c0_0 hq1
      replace c0_1 := box_at c0_1 hq1
      replace c0_2 := box_at c0_2 hq1
      replace c1_0 := box_at c1_0 hq1
      replace c1_1 := box_at c1_1 hq1
      replace c1_2 := box_at c1_2 hq1
      clear hq1
      have HPE := Lib.hid (HP.out.below hc)
      clear hc c0_0 c0_1 c0_2 c1_0 c1_1 c1_2
      go_wp2_with fail
      refine NoPanic.normal ?_
      obtain ⟨ca_, cc_, rfl⟩ := HPE.out.ownC.shape
      obtain ⟨ha_, hc_, rfl⟩ := HPE.out.ownH.shape
      obtain ⟨ra_, rc, rfl⟩ := HPE.out.ownR.shape
      obtain ⟨hg_, rfl, hgB, hgn, hgc⟩ := HPE.out.ownH.at_ (by have := HLH.out; have := HKK.out; have := HNE.out; omega)
      obtain ⟨rg, rfl, rgB, rgn, rgc⟩ := HPE.out.ownR.at_ (by have := HLR.out; have := HKK.out; have := HNE.out; omega)
      obtain ⟨cn_, hcn⟩ : ∃ n, LC.length = n := ⟨_, rfl⟩
      rw [hcn] at HPE
      (try rw [hcn])
      obtain ⟨hn_, hhn⟩ : ∃ n, LH.length = n := ⟨_, rfl⟩
      obtain ⟨rn, hrn⟩ : ∃ n, LR.length = n := ⟨_, rfl⟩
      rw [hhn] at HPE hgc
      (try rw [hhn])
      rw [hrn] at HPE rgc
      (try rw [hrn])
      obtain ⟨s1, s2⟩ := hgc kk (by have := HLH.out; have := HKK.out; have := HNE.out; omega)
      have q1 := HPE.out.prf.cell (i := 1) rfl
      have bk0 : (0 : Int) ≤ (kk : Int) := by omega
      have bk1 : (kk : Int) < (hn_ : Int) := by have := HLH.out; have := HKK.out; have := HNE.out; omega
      have bk2 : (kk : Int) < (rn : Int) := by have := HLR.out; have := HKK.out; have := HNE.out; omega
      go_upto_region 20 with fail
      obtain ⟨Y1, hY1⟩ : ∃ Y, Y = ua.setCell ⟨hg_, kk, none⟩ (.int .i64 OWN) := ⟨_, rfl⟩
      (try rw [← hY1])
      have HPF : Hid (PSt w Y1 w.heap.size (w.heap.size + 1) (w.heap.size + 1 + 1) W.heap.size gr (.slice ca_ cn_ cc_) (.slice (some ⟨hg_, 0, none⟩) hn_ hc_) (.slice (some ⟨rg, 0, none⟩) rn rc) LC (LH.set kk OWN) LR) := by unfold Hid; rw [hY1]; exact HPE.out.store1 hhn kk HOI.out
      clear hY1 s1 s2 q1 hgc rgc
      have c0_0 := HPF.out.grp.cell (i := 0) rfl
      have c0_1 := HPF.out.grp.cell (i := 1) rfl
      have c0_2 := HPF.out.grp.cell (i := 2) rfl
      have c1_0 := HPF.out.prf.cell (i := 0) rfl
      have c1_1 := HPF.out.prf.cell (i := 1) rfl
      have c1_2 := HPF.out.prf.cell (i := 2) rfl
      have hc : Below Y1.heap.size Y1 Y1 := Below.refl _ _
      try (go_wp2_with fail)
      refine wp_region_noPanic ?_
      refine wp_region_P (fun w' => w'.cell? ⟨w.heap.size, 0, none⟩ = some (.int .i64 gr.p) ∧ w'.cell? ⟨w.heap.size, 1, none⟩ = some (.int .i64 gr.q) ∧ w'.cell? ⟨w.heap.size, 2, none⟩ = some (.int .i64 gr.g) ∧ w'.cell? ⟨(w.heap.size + 1 + 1), 0, none⟩ = some (.slice ca_ cn_ cc_) ∧ w'.cell? ⟨(w.heap.size + 1 + 1), 1, none⟩ = some (.slice (some ⟨hg_, 0, none⟩) hn_ hc_) ∧ w'.cell? ⟨(w.heap.size + 1 + 1), 2, none⟩ = some (.slice (some ⟨rg, 0, none⟩) rn rc)) 15 [(0, []), (1, [0]), (2, []), (3, []), (4, []), (5, []), (6, [1, 0]), (7, [3, 0]), (8, []), (9, [0]), (10, [2, 0]), (11, [9, 8])] [12] (by kernel_rfl) (by kernel_rfl) (by kernel_rfl) rfl (fun _ _ _ _ h => h) (fun w' h => ⟨box_at c0_0 h, box_at c0_1 h, box_at c0_2 h, box_at c1_0 h, box_at c1_1 h, box_at c1_2 h⟩) ?_
      simp only [pickP, pickN, List.getElem?_cons_zero, List.getElem?_cons_succ]
      iterate 12 (refine' chainP_read _ rfl rfl (fun w' hS' => ?_) ?_; rotate_left; · (simp only [lookP, allP, Act.put, List.getElem?_cons_zero, List.getElem?_cons_succ, List.setIfInBounds_toArray, List.set_cons_zero, List.set_cons_succ]; (try dsimp only at hS'); go_simp; (try with_reducible rfl)))
      refine chainP_nil (fun ud hS' => ?_)
      simp only [allP, Act.put, List.setIfInBounds_toArray, List.set_cons_zero, List.set_cons_succ]
      have hq1 := hS'.1
      clear hS'
      replace hc := Below.next hc hq1
      replace c0_0 := box_at c0_0 hq1
      replace c0_1 := box_at c0_1 hq1
      replace c0_2 := box_at c0_2 hq1
      replace c1_0 := box_at c1_0 hq1
      replace c1_1 := box_at c1_1 hq1
      replace c1_2 := box_at c1_2 hq1
      clear hq1
      have HPG := Lib.hid (HPF.out.below hc)
      clear hc c0_0 c0_1 c0_2 c1_0 c1_1 c1_2
      obtain ⟨ra2, h1', h2', h3', hgc⟩ := HPG.out.ownR.at_ (by have := HLR.out; have := HKK.out; have := HNE.out; omega)
      cases h1'
      obtain ⟨s1, s2⟩ := hgc kk (by have := HLR.out; have := HKK.out; have := HNE.out; omega)
      go_wp2_with fail
      refine NoPanic.normal ?_
      obtain ⟨Y2, hY2⟩ : ∃ Y, Y = ud.setCell ⟨rg, kk, none⟩ (.int .i64 RV) := ⟨_, rfl⟩
      (try rw [← hY2])
      have HPH : Hid (PSt w Y2 w.heap.size (w.heap.size + 1) (w.heap.size + 1 + 1) W.heap.size gr (.slice ca_ cn_ cc_) (.slice (some ⟨hg_, 0, none⟩) hn_ hc_) (.slice (some ⟨rg, 0, none⟩) rn rc) LC (LH.set kk OWN) (LR.set kk RV)) := by unfold Hid; rw [hY2]; exact HPG.out.store2 hrn kk HRI.out
      clear hY2 s1 s2 hgc
      have q0 := HPH.out.prf.cell (i := 0) rfl
      have q1 := HPH.out.prf.cell (i := 1) rfl
      have q2 := HPH.out.prf.cell (i := 2) rfl
      have r0 := HPH.out.res.cell (i := 0) rfl
      have r1_ := HPH.out.res.cell (i := 1) rfl
      have r2 := HPH.out.res.cell (i := 2) rfl
      have fr := fun j => HPH.out.res.frozen j
      go_wp2_with fail
      have HF := HPH.out.final
      have f0 := HF.cell (i := 0) rfl
      have f1 := HF.cell (i := 1) rfl
      have f2 := HF.cell (i := 2) rfl
      try (go_wp2_with fail)
      refine bodyPost_ret (v := .agg #[.slice ca_ cn_ cc_, .slice (some ⟨hg_, 0, none⟩) hn_ hc_, .slice (some ⟨rg, 0, none⟩) rn rc]) (by simp [results, Try.results109, go_sem, f0, f1, f2]) rfl ?_
      exact ⟨⟨_, _, _, rfl, by unfold ooD; rw [HLCe.out]; exact HPH.out.out HPH.out.ownC, by unfold ooD; simp only; rw [HDH.out]; exact HPH.out.out HPH.out.ownH, by unfold ooD; simp only; rw [HDR.out]; exact HPH.out.out HPH.out.ownR⟩, HPH.out.outB (by omega)⟩
end Go.Proofs.Ytegomgnlhcbmfaa
