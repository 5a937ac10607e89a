/- The laws over records: their walks, by program (genlaw2.py). -/
import Derived.Test.YtlkhkoemfmjloaaEncode
namespace Go.Proofs.Ytlkhkoemfmjloaa
open Go.RowKit
set_option linter.unusedSimpArgs false
set_option linter.unusedVariables false

set_option maxRecDepth 100000 in
set_option maxHeartbeats 2000000 in
theorem law_JoinRecords (v : Value) (lv : List (List Int)) (w : World) (hv : RdL kInts w v lv) :
    Calls Try.prog 5 #[v] w fun e w' => e = .returned (.bool true) ∧ Below w.heap.size w w' := by
  have Hv := Lib.hid hv; clear hv
  go_enter Try.func5, Try.ntmps5
  go_wp2_with fail
  refine (laws_szIntSS _ lv 1048576 _ (kRows.rd_below Hv.out (Below.refl _ _)) (by decide) (by decide)).mono ?_
  rintro e w' ⟨⟨r0, rfl, hr0, hsz0⟩, rfl⟩
  by_cases hneg0 : r0 < 0
  · go_wp2_with fail
    go_ret
    exact ⟨rfl, (Below.refl _ _)⟩
  · have HZv : Hid (((lv.length : Int) + total lv) ≤ 1000000000) := by have := (hsz0 (by omega)).1; unfold Hid; omega
    have hrb0 : r0 ≤ 1048576 := by have := (hsz0 (by omega)).2; omega
    clear hsz0
    go_wp2_with fail
    refine (laws_toIntSS _ lv _ (kRows.rd_below Hv.out (Below.refl _ _)) HZv.out).mono ?_
    rintro e w1 ⟨sv, rfl, hX, hb1⟩
    have Osv := Lib.hid (hX); clear hX
    have HB1 := Lib.hid (Below.next (Below.refl _ _) hb1)
    have hs1 := hb1.size
    have AJ1 := Lib.hid hb1; clear hb1
    go_wp2_with fail
    refine (spec_JoinRecords _ lv _ HZv.out (kRows.own_rd Osv.out)).mono ?_
    rintro e w2 ⟨want0, rfl, hXwant0, hb2⟩
    have Owant0 := Lib.hid hXwant0; clear hXwant0
    have HB2 := Lib.hid (Below.next HB1.out hb2)
    have hs2 := hb2.size
    have AJ2 := Lib.hid hb2; clear hb2
    go_wp2_with fail
    refine (laws_toIntSS _ lv _ (kRows.rd_below Hv.out HB2.out) HZv.out).mono ?_
    rintro e w3 ⟨xv, rfl, hX, hb3⟩
    have Oxv := Lib.hid (hX); clear hX
    have HB3 := Lib.hid (Below.next HB2.out hb3)
    have hs3 := hb3.size
    have AJ3 := Lib.hid hb3; clear hb3
    go_wp2_with fail
    refine (impl_JoinRecords _ lv _ HZv.out (kRows.own_rd Oxv.out)).mono ?_
    rintro e w4 ⟨got0, rfl, hXgot0, hb4⟩
    have Ogot0 := Lib.hid hXgot0; clear hXgot0
    have HB4 := Lib.hid (Below.next HB3.out hb4)
    have hs4 := hb4.size
    have AJ4 := Lib.hid hb4; clear hb4
    go_wp2_with fail
    refine (laws_eqIntS _ _ _ _ _ Ogot0.out.reads ((Owant0.out.next AJ3.out).next AJ4.out).reads).mono ?_
    rintro e w5 ⟨rfl, m5, hw5⟩
    have hb5 := Below.drewOf hw5; clear hw5
    rw [decide_eq_true rfl]
    have HB5 := Lib.hid (Below.next HB4.out hb5)
    have hs5 := hb5.size
    have AJ5 := Lib.hid hb5; clear hb5
    go_wp2_with fail
    refine (laws_toIntSS _ lv _ (kRows.rd_below Hv.out HB5.out) HZv.out).mono ?_
    rintro e w6 ⟨yv, rfl, hX, hb6⟩
    have Oyv := Lib.hid (hX); clear hX
    have HB6 := Lib.hid (Below.next HB5.out hb6)
    have hs6 := hb6.size
    have AJ6 := Lib.hid hb6; clear hb6
    go_wp2_with fail
    refine (laws_eqIntSS _ _ _ _ _ (kRows.own_rd (Kind.next (K := kRows) (Kind.next (K := kRows) (Kind.next (K := kRows) Oxv.out AJ4.out) AJ5.out) AJ6.out)) (kRows.own_rd Oyv.out)).mono ?_
    rintro e w7 ⟨rfl, hb7⟩
    rw [decide_eq_true rfl]
    have HB7 := Lib.hid (Below.next HB6.out hb7)
    have hs7 := hb7.size
    have AJ7 := Lib.hid hb7; clear hb7
    go_wp2_with fail
    refine (laws_markIntSS _ _ _ 1 _ _ (Kind.next (K := kRows) (Kind.next (K := kRows) (Kind.next (K := kRows) (Kind.next (K := kRows) Oxv.out AJ4.out) AJ5.out) AJ6.out) AJ7.out) (by have := HZv.out; omega)).mono ?_
    rintro e w8 ⟨rfl, hX, hG8⟩
    have Oxvm := Lib.hid hX; clear hX
    have hs8 := hG8.size
    have HB8 := Lib.hid (HB7.out.trans (hG8.below (B := w.heap.size) (by omega) (by omega)))
    have HG8 := Lib.hid hG8; clear hG8
    go_wp2_with fail
    refine (laws_eqIntS _ _ _ _ _ ((((Ogot0.out.next AJ5.out).next AJ6.out).next AJ7.out).kept HG8.out (.inr (by omega))).reads ((((((Owant0.out.next AJ3.out).next AJ4.out).next AJ5.out).next AJ6.out).next AJ7.out).kept HG8.out (.inl (by omega))).reads).mono ?_
    rintro e w9 ⟨rfl, m9, hw9⟩
    have hb9 := Below.drewOf hw9; clear hw9
    rw [decide_eq_true rfl]
    have HB9 := Lib.hid (Below.next HB8.out hb9)
    have hs9 := hb9.size
    have AJ9 := Lib.hid hb9; clear hb9
    have LG0 : Hid (1 + (jrL lv).length ≤ 9223372036854775806) := by have := jrL_length lv; unfold Hid; omega
    go_wp2_with fail
    refine (laws_markIntS_in _ _ _ 1 _ _ (((((Ogot0.out.next AJ5.out).next AJ6.out).next AJ7.out).kept HG8.out (.inr (by omega))).next AJ9.out) (by omega) (by exact LG0.out)).mono ?_
    rintro e w10 ⟨rfl, hX, hG10⟩
    have Ogot0m := Lib.hid hX; clear hX
    have hs10 := hG10.size
    have HB10 := Lib.hid (HB9.out.trans (hG10.below (B := w.heap.size) (by omega) (by omega)))
    have HG10 := Lib.hid hG10; clear hG10
    go_wp2_with fail
    refine (laws_heldIntS_yes _ 1 _ _ Ogot0m.out.reads (by simp only [marks_length]; exact LG0.out) (fun j hj => nth_marks (by simpa only [marks_length] using hj))).mono ?_
    rintro e w11 ⟨rfl, m11, hw11⟩
    have hb11 := Below.drewOf hw11; clear hw11
    rw [marks_length]
    have HB11 := Lib.hid (Below.next HB10.out hb11)
    have hs11 := hb11.size
    have AJ11 := Lib.hid hb11; clear hb11
    go_wp2_with fail
    refine (laws_toIntSS _ lv _ (kRows.rd_below Hv.out HB11.out) HZv.out).mono ?_
    rintro e w12 ⟨zv, rfl, hX, hb12⟩
    have Ozv := Lib.hid (hX); clear hX
    have HB12 := Lib.hid (Below.next HB11.out hb12)
    have hs12 := hb12.size
    have AJ12 := Lib.hid hb12; clear hb12
    go_wp2_with fail
    refine (impl_JoinRecords _ lv _ HZv.out (kRows.own_rd Ozv.out)).mono ?_
    rintro e w13 ⟨again0, rfl, hXagain0, hb13⟩
    have Oagain0 := Lib.hid hXagain0; clear hXagain0
    have HB13 := Lib.hid (Below.next HB12.out hb13)
    have hs13 := hb13.size
    have AJ13 := Lib.hid hb13; clear hb13
    go_wp2_with fail
    refine (laws_eqIntS _ _ _ _ _ Oagain0.out.reads (((((((((((Owant0.out.next AJ3.out).next AJ4.out).next AJ5.out).next AJ6.out).next AJ7.out).kept HG8.out (.inl (by omega))).next AJ9.out).kept HG10.out (.inl (by omega))).next AJ11.out).next AJ12.out).next AJ13.out).reads).mono ?_
    rintro e w14 ⟨rfl, m14, hw14⟩
    have hb14 := Below.drewOf hw14; clear hw14
    rw [decide_eq_true rfl]
    have HB14 := Lib.hid (Below.next HB13.out hb14)
    have hs14 := hb14.size
    have AJ14 := Lib.hid hb14; clear hb14
    go_wp2_with fail
    refine (laws_heldIntS_yes _ 1 _ _ ((((Ogot0m.out.next AJ11.out).next AJ12.out).next AJ13.out).next AJ14.out).reads (by simp only [marks_length]; exact LG0.out) (fun j hj => nth_marks (by simpa only [marks_length] using hj))).mono ?_
    rintro e w15 ⟨rfl, m15, hw15⟩
    have hb15 := Below.drewOf hw15; clear hw15
    rw [marks_length]
    have HB15 := Lib.hid (Below.next HB14.out hb15)
    have hs15 := hb15.size
    have AJ15 := Lib.hid hb15; clear hb15
    go_wp2_with fail
    go_ret
    exact ⟨rfl, HB15.out⟩
set_option maxRecDepth 100000 in
set_option maxHeartbeats 2000000 in
theorem law_EncodeProof (v : Value) (lv : ProofD) (w : World) (hv : RdP w v lv) :
    Calls Try.prog 6 #[v] w fun e w' => e = .returned (.bool true) ∧ Below w.heap.size w w' := by
  obtain ⟨av, bv, cv, rfl, hav, hbv, hcv⟩ := hv
  obtain ⟨a1v, a2v, a3v, rfl⟩ := Ints.shape hav
  obtain ⟨b1v, b2v, b3v, rfl⟩ := Ints.shape hbv
  obtain ⟨c1v, c2v, c3v, rfl⟩ := Ints.shape hcv
  have hv : RdP w (.agg #[.slice a1v a2v a3v, .slice b1v b2v b3v, .slice c1v c2v c3v]) lv := ⟨_, _, _, rfl, hav, hbv, hcv⟩
  clear hav hbv hcv
  obtain ⟨W, hW⟩ : ∃ W, W = w.alloc (.cells #[.slice a1v a2v a3v, .slice b1v b2v b3v, .slice c1v c2v c3v] 43) := ⟨_, rfl⟩
  have HWB : Hid (Below w.heap.size w W) := by unfold Hid; rw [hW]; (repeat (first | exact Below.refl _ _ | assumption | refine Below.drew ?_ | refine Below.alloc ?_ (by first | (simp; done) | (simp; omega)) _ | refine Below.setCell ?_ (by first | (simp; done) | (simp; omega)) _))
  have BXv0 : Hid (W.cell? ⟨w.heap.size, 0, none⟩ = some (.slice a1v a2v a3v)) := by unfold Hid; rw [hW]; simp [go_sem]
  have BXv1 : Hid (W.cell? ⟨w.heap.size, 1, none⟩ = some (.slice b1v b2v b3v)) := by unfold Hid; rw [hW]; simp [go_sem]
  have BXv2 : Hid (W.cell? ⟨w.heap.size, 2, none⟩ = some (.slice c1v c2v c3v)) := by unfold Hid; rw [hW]; simp [go_sem]
  replace hv := (kProof.rd_below hv HWB.out)
  have Hv := Lib.hid hv; clear hv
  go_enter Try.func6, Try.ntmps6
  go_wp2_with fail
  rw [← hW]
  clear hW
  have pxv0_0 := BXv0.out
  have pxv1_0 := BXv1.out
  have pxv2_0 := BXv2.out
  refine (laws_szProof _ lv 1048576 _ (kProof.rd_below Hv.out (Below.refl _ _)) (by decide) (by decide)).mono ?_
  rintro e w1 ⟨⟨r0, rfl, hr0, hsz0⟩, hb1⟩
  have HB1 := Lib.hid (Below.next (Below.refl _ _) hb1)
  have hs1 := hb1.size
  have AJ1 := Lib.hid hb1; clear hb1
  have pxv0_1 := box_at BXv0.out HB1.out
  clear pxv0_0
  have pxv1_1 := box_at BXv1.out HB1.out
  clear pxv1_0
  have pxv2_1 := box_at BXv2.out HB1.out
  clear pxv2_0
  by_cases hneg0 : r0 < 0
  · go_wp2_with fail
    go_ret
    exact ⟨rfl, HWB.out.trans (HB1.out.mono HWB.out.size)⟩
  · have HZv : Hid ((lv.cnt : Int) ≤ 1000000000) := by have := (hsz0 (by omega)).1; unfold Hid; omega
    have hrb0 : r0 ≤ 1048576 := by have := (hsz0 (by omega)).2; omega
    clear hsz0
    go_wp2_with fail
    refine (laws_toProof _ lv _ (kProof.rd_below Hv.out HB1.out) HZv.out).mono ?_
    rintro e w2 ⟨sv, rfl, hX, hb2⟩
    have Osv := Lib.hid (hX); clear hX
    obtain ⟨sva1, sva2, sva3, svb1, svb2, svb3, svc1, svc2, svc3, rfl⟩ := OwnP.shape Osv.out
    have HB2 := Lib.hid (Below.next HB1.out hb2)
    have hs2 := hb2.size
    have AJ2 := Lib.hid hb2; clear hb2
    have pxv0_2 := box_at BXv0.out HB2.out
    clear pxv0_1
    have pxv1_2 := box_at BXv1.out HB2.out
    clear pxv1_1
    have pxv2_2 := box_at BXv2.out HB2.out
    clear pxv2_1
    go_wp2_with fail
    refine (spec_EncodeProof _ lv _ HZv.out (kProof.own_rd Osv.out)).mono ?_
    rintro e w3 ⟨want0, rfl, hXwant0, hb3⟩
    have Owant0 := Lib.hid hXwant0; clear hXwant0
    have HB3 := Lib.hid (Below.next HB2.out hb3)
    have hs3 := hb3.size
    have AJ3 := Lib.hid hb3; clear hb3
    have pxv0_3 := box_at BXv0.out HB3.out
    clear pxv0_2
    have pxv1_3 := box_at BXv1.out HB3.out
    clear pxv1_2
    have pxv2_3 := box_at BXv2.out HB3.out
    clear pxv2_2
    go_wp2_with fail
    refine (laws_toProof _ lv _ (kProof.rd_below Hv.out HB3.out) HZv.out).mono ?_
    rintro e w4 ⟨xv, rfl, hX, hb4⟩
    have Oxv := Lib.hid (hX); clear hX
    obtain ⟨xva1, xva2, xva3, xvb1, xvb2, xvb3, xvc1, xvc2, xvc3, rfl⟩ := OwnP.shape Oxv.out
    have HB4 := Lib.hid (Below.next HB3.out hb4)
    have hs4 := hb4.size
    have AJ4 := Lib.hid hb4; clear hb4
    have pxv0_4 := box_at BXv0.out HB4.out
    clear pxv0_3
    have pxv1_4 := box_at BXv1.out HB4.out
    clear pxv1_3
    have pxv2_4 := box_at BXv2.out HB4.out
    clear pxv2_3
    go_wp2_with fail
    obtain ⟨w5, hw5⟩ : ∃ u, u = w4.alloc (.cells #[.slice xva1 xva2 xva3, .slice xvb1 xvb2 xvb3, .slice xvc1 xvc2 xvc3] 46) := ⟨_, rfl⟩
    rw [← hw5]
    have hb5 : Below w4.heap.size w4 w5 := by rw [hw5]; exact (Below.refl _ _).alloc (Nat.le_refl _) _
    have hlt5 : w4.heap.size < w5.heap.size := by rw [hw5]; simp
    have pxxv0_5 : w5.cell? ⟨w4.heap.size, 0, none⟩ = some (.slice xva1 xva2 xva3) := by rw [hw5]; simp [go_sem]
    have pxxv1_5 : w5.cell? ⟨w4.heap.size, 1, none⟩ = some (.slice xvb1 xvb2 xvb3) := by rw [hw5]; simp [go_sem]
    have pxxv2_5 : w5.cell? ⟨w4.heap.size, 2, none⟩ = some (.slice xvc1 xvc2 xvc3) := by rw [hw5]; simp [go_sem]
    clear hw5
    have HB5 := Lib.hid (Below.next HB4.out hb5)
    have hs5 := hb5.size
    have AJ5 := Lib.hid hb5; clear hb5
    have pxv0_5 := box_at BXv0.out HB5.out
    clear pxv0_4
    have pxv1_5 := box_at BXv1.out HB5.out
    clear pxv1_4
    have pxv2_5 := box_at BXv2.out HB5.out
    clear pxv2_4
    refine (impl_EncodeProof _ lv _ HZv.out (kProof.own_rd (Kind.next (K := kProof) Oxv.out AJ5.out))).mono ?_
    rintro e w6 ⟨got0, rfl, hXgot0, hb6⟩
    have Ogot0 := Lib.hid hXgot0; clear hXgot0
    have HB6 := Lib.hid (Below.next HB5.out hb6)
    have hs6 := hb6.size
    have AJ6 := Lib.hid hb6; clear hb6
    have pxv0_6 := box_at BXv0.out HB6.out
    clear pxv0_5
    have pxv1_6 := box_at BXv1.out HB6.out
    clear pxv1_5
    have pxv2_6 := box_at BXv2.out HB6.out
    clear pxv2_5
    have pxxv0_6 := box_at pxxv0_5 AJ6.out
    clear pxxv0_5
    have pxxv1_6 := box_at pxxv1_5 AJ6.out
    clear pxxv1_5
    have pxxv2_6 := box_at pxxv2_5 AJ6.out
    clear pxxv2_5
    go_wp2_with fail
    refine (laws_eqIntS _ _ _ _ _ Ogot0.out.reads (((Owant0.out.next AJ4.out).next AJ5.out).next AJ6.out).reads).mono ?_
    rintro e w7 ⟨rfl, m7, hw7⟩
    have hb7 := Below.drewOf hw7; clear hw7
    rw [decide_eq_true rfl]
    have HB7 := Lib.hid (Below.next HB6.out hb7)
    have hs7 := hb7.size
    have AJ7 := Lib.hid hb7; clear hb7
    have pxv0_7 := box_at BXv0.out HB7.out
    clear pxv0_6
    have pxv1_7 := box_at BXv1.out HB7.out
    clear pxv1_6
    have pxv2_7 := box_at BXv2.out HB7.out
    clear pxv2_6
    have pxxv0_7 := box_at pxxv0_6 AJ7.out
    clear pxxv0_6
    have pxxv1_7 := box_at pxxv1_6 AJ7.out
    clear pxxv1_6
    have pxxv2_7 := box_at pxxv2_6 AJ7.out
    clear pxxv2_6
    go_wp2_with fail
    go_region_held3 (fun w' => Below w7.heap.size w7 w' ∧ w'.cell? ⟨w.heap.size, 0, none⟩ = some (.slice a1v a2v a3v) ∧ w'.cell? ⟨w.heap.size, 1, none⟩ = some (.slice b1v b2v b3v) ∧ w'.cell? ⟨w.heap.size, 2, none⟩ = some (.slice c1v c2v c3v) ∧ w'.cell? ⟨w4.heap.size, 0, none⟩ = some (.slice xva1 xva2 xva3) ∧ w'.cell? ⟨w4.heap.size, 1, none⟩ = some (.slice xvb1 xvb2 xvb3) ∧ w'.cell? ⟨w4.heap.size, 2, none⟩ = some (.slice xvc1 xvc2 xvc3)) (first | (have hbq : Below w7.heap.size w7 _ := (Below.refl _ _).drew; exact ⟨hbq, box_at pxv0_7 hbq, box_at pxv1_7 hbq, box_at pxv2_7 hbq, box_at pxxv0_7 hbq, box_at pxxv1_7 hbq, box_at pxxv2_7 hbq⟩) | (have hbq := keep_b (by assumption) (‹Below w7.heap.size w7 _ ∧ _›).1; exact ⟨hbq, box_at pxv0_7 hbq, box_at pxv1_7 hbq, box_at pxv2_7 hbq, box_at pxxv0_7 hbq, box_at pxxv1_7 hbq, box_at pxxv2_7 hbq⟩) | fail) ((first
      | (go_at_call 26; refine (laws_toProof _ lv _ (kProof.rd_below Hv.out (HB7.out.trans ((‹Below w7.heap.size w7 _ ∧ _›).1.mono HB7.out.size))) HZv.out).mono ?_; rintro e wy ⟨yy, rfl, hX, hby⟩; obtain ⟨yya1, yya2, yya3, yyb1, yyb2, yyb3, yyc1, yyc2, yyc3, rfl⟩ := OwnP.shape hX)
      | (go_at_call 28; refine (laws_eqProof _ _ _ _ _ (kProof.rd_below (kProof.own_rd (Kind.next (K := kProof) (Kind.next (K := kProof) (Kind.next (K := kProof) Oxv.out AJ5.out) AJ6.out) AJ7.out)) (keep_b hby (Below.refl _ _).drew)) (kProof.own_rd hX)).mono ?_; rintro e w8 ⟨rfl, hb8⟩; rw [decide_eq_true rfl])
      | fail))
    replace hb8 : Below w7.heap.size w7 w8 := (‹Below w7.heap.size w7 _ ∧ _›).1
    clear hX
    have HB8 := Lib.hid (Below.next HB7.out hb8)
    have hs8 := hb8.size
    have AJ8 := Lib.hid hb8; clear hb8
    have pxv0_8 := box_at BXv0.out HB8.out
    clear pxv0_7
    have pxv1_8 := box_at BXv1.out HB8.out
    clear pxv1_7
    have pxv2_8 := box_at BXv2.out HB8.out
    clear pxv2_7
    have pxxv0_8 := box_at pxxv0_7 AJ8.out
    clear pxxv0_7
    have pxxv1_8 := box_at pxxv1_7 AJ8.out
    clear pxxv1_7
    have pxxv2_8 := box_at pxxv2_7 AJ8.out
    clear pxxv2_7
    go_wp2_with fail
    refine (laws_markProof _ _ _ 1 _ _ (Kind.next (K := kProof) (Kind.next (K := kProof) (Kind.next (K := kProof) (Kind.next (K := kProof) Oxv.out AJ5.out) AJ6.out) AJ7.out) AJ8.out) (by have := HZv.out; omega) (by omega)).mono ?_
    rintro e w9 ⟨rfl, hX, hG9⟩
    have Oxvm := Lib.hid hX; clear hX
    have hs9 := hG9.size
    have HB9 := Lib.hid (HB8.out.trans (hG9.below (B := W.heap.size) (by omega) (by omega)))
    have HG9 := Lib.hid hG9; clear hG9
    have pxv0_9 := box_at BXv0.out HB9.out
    clear pxv0_8
    have pxv1_9 := box_at BXv1.out HB9.out
    clear pxv1_8
    have pxv2_9 := box_at BXv2.out HB9.out
    clear pxv2_8
    have pxxv0_9 := within_at HG9.out pxxv0_8 (by omega)
    clear pxxv0_8
    have pxxv1_9 := within_at HG9.out pxxv1_8 (by omega)
    clear pxxv1_8
    have pxxv2_9 := within_at HG9.out pxxv2_8 (by omega)
    clear pxxv2_8
    go_wp2_with fail
    refine (laws_eqIntS _ _ _ _ _ (((Ogot0.out.next AJ7.out).next AJ8.out).kept HG9.out (.inr (by omega))).reads ((((((Owant0.out.next AJ4.out).next AJ5.out).next AJ6.out).next AJ7.out).next AJ8.out).kept HG9.out (.inl (by omega))).reads).mono ?_
    rintro e w10 ⟨rfl, m10, hw10⟩
    have hb10 := Below.drewOf hw10; clear hw10
    rw [decide_eq_true rfl]
    have HB10 := Lib.hid (Below.next HB9.out hb10)
    have hs10 := hb10.size
    have AJ10 := Lib.hid hb10; clear hb10
    have pxv0_10 := box_at BXv0.out HB10.out
    clear pxv0_9
    have pxv1_10 := box_at BXv1.out HB10.out
    clear pxv1_9
    have pxv2_10 := box_at BXv2.out HB10.out
    clear pxv2_9
    have pxxv0_10 := box_at pxxv0_9 AJ10.out
    clear pxxv0_9
    have pxxv1_10 := box_at pxxv1_9 AJ10.out
    clear pxxv1_9
    have pxxv2_10 := box_at pxxv2_9 AJ10.out
    clear pxxv2_9
    have LG0 : Hid (1 + (epR lv).length ≤ 9223372036854775806) := by have := epR_length lv; unfold Hid; omega
    go_wp2_with fail
    refine (laws_markIntS_in _ _ _ 1 _ _ ((((Ogot0.out.next AJ7.out).next AJ8.out).kept HG9.out (.inr (by omega))).next AJ10.out) (by omega) (by exact LG0.out)).mono ?_
    rintro e w11 ⟨rfl, hX, hG11⟩
    have Ogot0m := Lib.hid hX; clear hX
    have hs11 := hG11.size
    have HB11 := Lib.hid (HB10.out.trans (hG11.below (B := W.heap.size) (by omega) (by omega)))
    have HG11 := Lib.hid hG11; clear hG11
    have pxv0_11 := box_at BXv0.out HB11.out
    clear pxv0_10
    have pxv1_11 := box_at BXv1.out HB11.out
    clear pxv1_10
    have pxv2_11 := box_at BXv2.out HB11.out
    clear pxv2_10
    have pxxv0_11 := within_at HG11.out pxxv0_10 (by omega)
    clear pxxv0_10
    have pxxv1_11 := within_at HG11.out pxxv1_10 (by omega)
    clear pxxv1_10
    have pxxv2_11 := within_at HG11.out pxxv2_10 (by omega)
    clear pxxv2_10
    go_wp2_with fail
    refine (laws_heldIntS_yes _ 1 _ _ Ogot0m.out.reads (by simp only [marks_length]; exact LG0.out) (fun j hj => nth_marks (by simpa only [marks_length] using hj))).mono ?_
    rintro e w12 ⟨rfl, m12, hw12⟩
    have hb12 := Below.drewOf hw12; clear hw12
    rw [marks_length]
    have HB12 := Lib.hid (Below.next HB11.out hb12)
    have hs12 := hb12.size
    have AJ12 := Lib.hid hb12; clear hb12
    have pxv0_12 := box_at BXv0.out HB12.out
    clear pxv0_11
    have pxv1_12 := box_at BXv1.out HB12.out
    clear pxv1_11
    have pxv2_12 := box_at BXv2.out HB12.out
    clear pxv2_11
    have pxxv0_12 := box_at pxxv0_11 AJ12.out
    clear pxxv0_11
    have pxxv1_12 := box_at pxxv1_11 AJ12.out
    clear pxxv1_11
    have pxxv2_12 := box_at pxxv2_11 AJ12.out
    clear pxxv2_11
    go_wp2_with fail
    refine (laws_toProof _ lv _ (kProof.rd_below Hv.out HB12.out) HZv.out).mono ?_
    rintro e w13 ⟨zv, rfl, hX, hb13⟩
    have Ozv := Lib.hid (hX); clear hX
    obtain ⟨zva1, zva2, zva3, zvb1, zvb2, zvb3, zvc1, zvc2, zvc3, rfl⟩ := OwnP.shape Ozv.out
    have HB13 := Lib.hid (Below.next HB12.out hb13)
    have hs13 := hb13.size
    have AJ13 := Lib.hid hb13; clear hb13
    have pxv0_13 := box_at BXv0.out HB13.out
    clear pxv0_12
    have pxv1_13 := box_at BXv1.out HB13.out
    clear pxv1_12
    have pxv2_13 := box_at BXv2.out HB13.out
    clear pxv2_12
    have pxxv0_13 := box_at pxxv0_12 AJ13.out
    clear pxxv0_12
    have pxxv1_13 := box_at pxxv1_12 AJ13.out
    clear pxxv1_12
    have pxxv2_13 := box_at pxxv2_12 AJ13.out
    clear pxxv2_12
    go_wp2_with fail
    refine (impl_EncodeProof _ lv _ HZv.out (kProof.own_rd Ozv.out)).mono ?_
    rintro e w14 ⟨again0, rfl, hXagain0, hb14⟩
    have Oagain0 := Lib.hid hXagain0; clear hXagain0
    have HB14 := Lib.hid (Below.next HB13.out hb14)
    have hs14 := hb14.size
    have AJ14 := Lib.hid hb14; clear hb14
    have pxv0_14 := box_at BXv0.out HB14.out
    clear pxv0_13
    have pxv1_14 := box_at BXv1.out HB14.out
    clear pxv1_13
    have pxv2_14 := box_at BXv2.out HB14.out
    clear pxv2_13
    have pxxv0_14 := box_at pxxv0_13 AJ14.out
    clear pxxv0_13
    have pxxv1_14 := box_at pxxv1_13 AJ14.out
    clear pxxv1_13
    have pxxv2_14 := box_at pxxv2_13 AJ14.out
    clear pxxv2_13
    go_wp2_with fail
    refine (laws_eqIntS _ _ _ _ _ Oagain0.out.reads (((((((((((Owant0.out.next AJ4.out).next AJ5.out).next AJ6.out).next AJ7.out).next AJ8.out).kept HG9.out (.inl (by omega))).next AJ10.out).kept HG11.out (.inl (by omega))).next AJ12.out).next AJ13.out).next AJ14.out).reads).mono ?_
    rintro e w15 ⟨rfl, m15, hw15⟩
    have hb15 := Below.drewOf hw15; clear hw15
    rw [decide_eq_true rfl]
    have HB15 := Lib.hid (Below.next HB14.out hb15)
    have hs15 := hb15.size
    have AJ15 := Lib.hid hb15; clear hb15
    have pxv0_15 := box_at BXv0.out HB15.out
    clear pxv0_14
    have pxv1_15 := box_at BXv1.out HB15.out
    clear pxv1_14
    have pxv2_15 := box_at BXv2.out HB15.out
    clear pxv2_14
    have pxxv0_15 := box_at pxxv0_14 AJ15.out
    clear pxxv0_14
    have pxxv1_15 := box_at pxxv1_14 AJ15.out
    clear pxxv1_14
    have pxxv2_15 := box_at pxxv2_14 AJ15.out
    clear pxxv2_14
    go_wp2_with fail
    refine (laws_heldIntS_yes _ 1 _ _ ((((Ogot0m.out.next AJ12.out).next AJ13.out).next AJ14.out).next AJ15.out).reads (by simp only [marks_length]; exact LG0.out) (fun j hj => nth_marks (by simpa only [marks_length] using hj))).mono ?_
    rintro e w16 ⟨rfl, m16, hw16⟩
    have hb16 := Below.drewOf hw16; clear hw16
    rw [marks_length]
    have HB16 := Lib.hid (Below.next HB15.out hb16)
    have hs16 := hb16.size
    have AJ16 := Lib.hid hb16; clear hb16
    have pxv0_16 := box_at BXv0.out HB16.out
    clear pxv0_15
    have pxv1_16 := box_at BXv1.out HB16.out
    clear pxv1_15
    have pxv2_16 := box_at BXv2.out HB16.out
    clear pxv2_15
    have pxxv0_16 := box_at pxxv0_15 AJ16.out
    clear pxxv0_15
    have pxxv1_16 := box_at pxxv1_15 AJ16.out
    clear pxxv1_15
    have pxxv2_16 := box_at pxxv2_15 AJ16.out
    clear pxxv2_15
    go_wp2_with fail
    go_ret
    exact ⟨rfl, HWB.out.trans (HB16.out.mono HWB.out.size)⟩
end Go.Proofs.Ytlkhkoemfmjloaa
