/- Draws: shares to be reconstructed from (printed by gen_drde2.py). -/
import Derived.Test.YtacpnphfopmofaaGreatDrSh3S
import Derived.Test.YtacpnphfopmofaaGreatRc1S
namespace Go.Proofs.YtacpnphfopmofaaGreat
open Go.RowKit
set_option linter.unusedSimpArgs false
set_option linter.unusedVariables false
set_option maxRecDepth 100000 in
set_option maxHeartbeats 8000000 in
theorem spec_DrawReconstruct (v : Value) (w : World) (h : Bytes w v) :
    Calls Tryz.prog 66 #[v] w fun e w' => (∃ (P : Int) (Q : Int) (G : Int) (vr1 : Value) (lr1 : List Int) (vr2 : Value) (lr2 : List Int) (vr3 : Value) (lr3 : List Int), e = .returned (.tuple #[.agg #[.int .i64 P, .int .i64 Q, .int .i64 G], vr1, vr2, vr3]) ∧ GrB ⟨P, Q, G⟩ ∧ (Since w.heap.size w' (fun z => Ints z vr1 lr1) ∧ lr1.length ≤ 7) ∧ (Since w.heap.size w' (fun z => Ints z vr2 lr2) ∧ lr2.length ≤ 9) ∧ (Since w.heap.size w' (fun z => Ints z vr3 lr3) ∧ lr3.length ≤ 9)) ∧ Below w.heap.size w w' := by
  obtain ⟨a, m, c, rfl, hk1, hk2, hv⟩ := h
  have HY : Hid (Bytes w (.slice a m c)) := ⟨a, m, c, rfl, hk1, hk2, hv⟩
  clear hv
  unfold maxLen at hk2
  obtain ⟨U, hU⟩ : ∃ U, U = w.alloc (.cells #[.int .i64 0, .int .i64 0, .int .i64 0] 24) := ⟨_, rfl⟩
  have hbU : Below w.heap.size w U := by rw [hU]; (repeat (first | exact Below.refl _ _ | assumption | refine Below.drew ?_ | refine Below.alloc ?_ (by first | (simp; done) | (simp; omega)) _ | refine Below.setCell ?_ (by first | (simp; done) | (simp; omega)) _))
  have HX0 : Hid (BoxN U w.heap.size 24 [.int .i64 0, .int .i64 0, .int .i64 0]) := by unfold Hid; rw [hU]; have h := (BoxN.new w [.int .i64 0, .int .i64 0, .int .i64 0] 24); simpa using h
  have hsU : U.heap.size = w.heap.size + 1 := by rw [hU]; simp
  obtain ⟨W, hW⟩ : ∃ W, W = U.alloc (.cells #[.slice a m c, .int .i64 0, .int .u64 0] 53) := ⟨_, rfl⟩
  have HC : Hid (Cur U W U.heap.size 0) := by unfold Hid; rw [hW]; exact Cur.new U (HY.out.below hbU)
  have hbW : Below U.heap.size U W := by rw [hW]; exact (Below.refl _ _).alloc (Nat.le_refl _) _
  have HBW := Lib.hid (Below.next hbU hbW)
  have HUB := Lib.hid hbW
  replace HX0 := Lib.hid (HX0.out.below hbW)
  obtain ⟨g, hg⟩ : ∃ g, g = U.heap.size := ⟨_, rfl⟩
  have HSU : Hid (w.heap.size + 1 = g) := by unfold Hid; rw [hg, hsU]
  have HWS : Hid (W.heap.size = g + 1) := by unfold Hid; rw [hW, hg]; simp
  go_enter Tryz.func66, Tryz.ntmps66
  go_wp2_with fail
  rw [← hU, ← hW]
  rw [HSU.out]
  rw [← hg] at HC HUB
  have HUS : Hid (U.heap.size = g) := hg.symm
  have hwg : w.heap.size + 1 = g := HSU.out
  have hsW := HWS.out
  have HW := Lib.hid (Within.refl g (g + 1) W)
  have HUC : Hid (Below U.heap.size U W) := by unfold Hid; rw [HUS.out]; exact HUB.out
  clear hU hW hbU hbW hsU hg
  have z_0_0 := HX0.out.cell (i := 0) rfl
  have z_0_1 := HX0.out.cell (i := 1) rfl
  have z_0_2 := HX0.out.cell (i := 2) rfl
  try (go_wp2_with fail)
  clear z_0_0 z_0_1 z_0_2
  refine (spec_shared U g _ _ HC.out (HW.out.belowOf HUC.out (Nat.le_of_eq HUS.out)) (by omega)).mono ?_
  rintro e u1 ⟨⟨P, Q, G, rfl, P1, Q1, G1⟩, hc, hw⟩
  have HGR : Hid (GrB ⟨P, Q, G⟩) := ⟨P1, Q1, G1⟩
  clear P1 Q1 G1
  have hsz1 := hw.size
  replace HX0 := Lib.hid (HX0.out.kept hw (.inl (by omega)))
  replace HW := Lib.hid (HW.out.trans hw)
  replace HC := Lib.hid hc
  clear hc hw
  have z_0_0 := HX0.out.cell (i := 0) rfl
  have z_0_1 := HX0.out.cell (i := 1) rfl
  have z_0_2 := HX0.out.cell (i := 2) rfl
  have lt_HX0 := HX0.out.lt
  obtain ⟨V2, hV⟩ : ∃ V, V = u1.alloc (.cells #[.int .i64 P, .int .i64 Q, .int .i64 G] 24) := ⟨_, rfl⟩
  have hbV : Below u1.heap.size u1 V2 := by rw [hV]; (repeat (first | exact Below.refl _ _ | assumption | refine Below.drew ?_ | refine Below.alloc ?_ (by first | (simp; done) | (simp; omega)) _ | refine Below.setCell ?_ (by first | (simp; done) | (simp; omega)) _))
  have HZ1 : Hid (BoxN V2 u1.heap.size 24 [.int .i64 P, .int .i64 Q, .int .i64 G]) := by unfold Hid; rw [hV]; have h := (BoxN.new u1 [.int .i64 P, .int .i64 Q, .int .i64 G] 24); simpa using h
  have hgc : g < u1.heap.size := HC.out.lt
  go_wp2_with fail
  rw [← hV]
  have hsV2 : V2.heap.size = u1.heap.size + 1 := by rw [hV]; simp
  clear hV hgc
  replace HX0 := Lib.hid (HX0.out.below hbV)
  replace HW := Lib.hid (HW.out.trans (Within.of_below hbV))
  replace HC := Lib.hid (HC.out.keep hbV)
  clear hbV
  clear z_0_0 z_0_1 z_0_2
  clear lt_HX0
  refine (spec_anyDealing U g _ P Q G _ HC.out (HW.out.belowOf HUC.out (Nat.le_of_eq HUS.out)) (by omega) HGR.out).mono ?_
  rintro e u3 ⟨⟨v3a, v3b, l3a, l3b, rfl, ⟨ho3a, hl3a⟩, ⟨ho3b, hl3b⟩⟩, hc, hw⟩
  obtain ⟨a3a, n3a, c3a, rfl⟩ := ho3a.ints.shape
  have HE3a := Lib.hid ho3a.ints.len
  have HL3a := Lib.hid (Since.of_ownI ho3a (Nat.le_refl _))
  have hn3a : n3a ≤ 7 := by have := HE3a.out; omega
  clear ho3a
  obtain ⟨a3b, n3b, c3b, rfl⟩ := ho3b.ints.shape
  have HE3b := Lib.hid ho3b.ints.len
  have HL3b := Lib.hid (Since.of_ownI ho3b (Nat.le_refl _))
  have hn3b : n3b ≤ 7 := by have := HE3b.out; omega
  clear ho3b
  have hsz3 := hw.size
  replace HX0 := Lib.hid (HX0.out.kept hw (.inl (by omega)))
  replace HZ1 := Lib.hid (HZ1.out.kept hw (.inr (by omega)))
  replace HW := Lib.hid (HW.out.trans hw)
  replace HC := Lib.hid hc
  clear hc hw
  have z_0_0 := HX0.out.cell (i := 0) rfl
  have z_0_1 := HX0.out.cell (i := 1) rfl
  have z_0_2 := HX0.out.cell (i := 2) rfl
  have z_1_0 := HZ1.out.cell (i := 0) rfl
  have z_1_1 := HZ1.out.cell (i := 1) rfl
  have z_1_2 := HZ1.out.cell (i := 2) rfl
  have lt_HX0 := HX0.out.lt
  have lt_HZ1 := HZ1.out.lt
  obtain ⟨V4, hV⟩ : ∃ V, V = u3.alloc (.cells #[.slice a3a n3a c3a, .slice a3b n3b c3b] 61) := ⟨_, rfl⟩
  have hbV : Below u3.heap.size u3 V4 := by rw [hV]; (repeat (first | exact Below.refl _ _ | assumption | refine Below.drew ?_ | refine Below.alloc ?_ (by first | (simp; done) | (simp; omega)) _ | refine Below.setCell ?_ (by first | (simp; done) | (simp; omega)) _))
  have HZ2 : Hid (BoxN V4 u3.heap.size 61 [.slice a3a n3a c3a, .slice a3b n3b c3b]) := by unfold Hid; rw [hV]; have h := (BoxN.new u3 [.slice a3a n3a c3a, .slice a3b n3b c3b] 61); simpa using h
  have hgc : g < u3.heap.size := HC.out.lt
  go_wp2_with fail
  rw [← hV]
  have hsV4 : V4.heap.size = u3.heap.size + 1 := by rw [hV]; simp
  clear hV hgc
  replace HX0 := Lib.hid (HX0.out.below hbV)
  replace HZ1 := Lib.hid (HZ1.out.below hbV)
  replace HL3a := Lib.hid (HL3a.out.below hbV)
  replace HL3b := Lib.hid (HL3b.out.below hbV)
  replace HW := Lib.hid (HW.out.trans (Within.of_below hbV))
  replace HC := Lib.hid (HC.out.keep hbV)
  clear hbV
  clear z_0_0 z_0_1 z_0_2 z_1_0 z_1_1 z_1_2
  clear lt_HX0
  clear lt_HZ1
  have hgE : g < V4.heap.size := HC.out.lt
  have HC0 := Lib.hid (HC.out.mono (n' := 2000000) (by omega))
  clear HC
  go_loopg [9, 10, 24] n3b (fun gk xv yv iv wr => ∃ (k : Nat) (xv' yv' : Value) (lx ly : List Int), k + gk = n3b ∧ iv = .int .i64 (k : Int) ∧ Hid (xv = xv' ∧ yv = yv' ∧ lx.length = ly.length ∧ lx.length ≤ k) ∧ Hid (RowsI wr V4.heap.size [(xv', lx), (yv', ly)]) ∧ Hid (Cur U wr g (2000000 + 1000 * (k : Int))) ∧ Hid (Within g (g + 1) V4 wr))
  case atStart => exact ⟨0, _, _, [], [], by omega, rfl, Lib.hid ⟨rfl, rfl, rfl, Nat.le_refl _⟩, RowsI.mk2 (OwnI.nil _ _) (OwnI.nil _ _) (fun k h => by cases h), HC0.out.mono (by omega), Within.refl _ _ _⟩
  case round =>
    clear HC0
    obtain ⟨k, xv', yv', lx, ly, hkg, rfl, HEQ, HR, HC, HWz⟩ := hrel
    obtain ⟨rfl, rfl, hlxy, hlk⟩ := HEQ.out
    clear HEQ
    have hsr := HWz.out.size
    have HOX := Lib.hid (HR.out.own 0 _ _ rfl)
    have HOY := Lib.hid (HR.out.own 1 _ _ rfl)
    obtain ⟨xa, xc, rfl⟩ := HOX.out.shape
    obtain ⟨ya, yc, rfl⟩ := HOY.out.shape
    obtain ⟨xn, hxn⟩ : ∃ z, lx.length = z := ⟨_, rfl⟩
    have hyn : ly.length = xn := by omega
    rw [hxn, hyn] at HR
    rw [hxn, hyn]
    clear HOX HOY
    have HXN := Lib.hid hxn
    have HYN := Lib.hid hyn
    have hxk : xn ≤ k := by omega
    clear hxn hyn hlxy hlk
    have HSZ : Hid (V4.heap.size ≤ wr.heap.size) := hsr
    by_cases hlt : k < n3b
    · have hgk : n3b - (k + 1) < gk := by omega
      have HLr := Lib.hid (HL3b.out.within HWz.out (by omega))
      obtain ⟨b, o, e, hcx⟩ := HLr.out.here.at_ (by omega)
      cases e
      have y1 := hcx k hlt
      clear hcx
      have HYI : Hid (I64 (nth l3b k)) := nth_64 HLr.out.here k
      obtain ⟨y, hy⟩ : ∃ z, nth l3b k = z := ⟨_, rfl⟩
      rw [hy] at y1 HYI
      clear hy
      have b0 : (0 : Int) ≤ (k : Int) := by omega
      have bk1 : (k : Int) < (n3b : Int) := by omega
      have hwk : IntKind.i64.wrap ((k : Int) + 1) = (k : Int) + 1 := IntWalk.i64_in _ (by omega)
      have HXI : Hid (I64 ((k : Int) + 1)) := ⟨by omega, by omega⟩
      go_wp2_with fail
      clear y1
      refine (spec_one U g _ 4 _ HC.out ((HW.out.trans HWz.out).belowOf (HUC.out) (Nat.le_of_eq HUS.out)) (by omega)).mono ?_
      rintro e w5 ⟨⟨b5, rfl⟩, hc, hw⟩
      have hs5 := hw.size
      replace HR := Lib.hid (HR.out.keep fun v l q => q.within hw (by omega))
      replace HC := Lib.hid hc
      replace HWz := Lib.hid (HWz.out.trans hw)
      replace HSZ : Hid (V4.heap.size ≤ w5.heap.size) := Nat.le_trans HSZ.out hs5
      clear hc hw
      cases b5 with
      | true =>
        go_wp2_with fail
        go_roundg (n3b - (k + 1))
        case measure => exact hgk
        case rel => exact ⟨k + 1, _, _, lx, ly, by omega, by go_num, Lib.hid ⟨rfl, rfl, by have := HXN.out; have := HYN.out; omega, by have := HXN.out; omega⟩, HR, HC.out.mono (by omega), HWz⟩
      | false =>
        go_wp2_with (first | (at_builtin; refine RowsI.list_appN rfl _ _ rfl (HR.out.below ((Below.refl _ _).alloc (Nat.le_refl _) _)) (by have := HSZ.out; simp; omega) 0 rfl (Ints.lit1 _ HXI.out) (by simp) (xn + 1) (by have := HXN.out; simp only [List.length_append, List.length_cons, List.length_nil]; omega) (by omega) rfl rfl ?_; intro a3 c3 w3 h3 _ hb3; have HR6 := Lib.hid h3; have hsw3 := hb3.size; have HB6 : Hid (Below V4.heap.size w5 w3) := ((Below.refl _ _).alloc HSZ.out _).trans hb3; have HSY : Hid (V4.heap.size ≤ w3.heap.size) := Nat.le_trans HSZ.out HB6.out.size; clear h3 hb3) | (at_builtin; refine RowsI.list_appN rfl _ _ rfl (HR6.out.below ((Below.refl _ _).alloc (Nat.le_refl _) _)) (by have := HSY.out; simp; omega) 1 rfl (Ints.lit1 _ HYI.out) (by simp) (xn + 1) (by have := HYN.out; simp only [List.length_append, List.length_cons, List.length_nil]; omega) (by omega) rfl rfl ?_; intro a4 c4 w4 h4 _ hb4; have HR9 := Lib.hid h4; have hsw4 := hb4.size; have HB9 : Hid (Below V4.heap.size w3 w4) := ((Below.refl _ _).alloc HSY.out _).trans hb4; have HSX : Hid (V4.heap.size ≤ w4.heap.size) := Nat.le_trans HSY.out HB9.out.size; clear h4 hb4) | fail)
        go_roundg (n3b - (k + 1))
        case measure => exact hgk
        case rel => exact ⟨k + 1, _, _, lx ++ [(k : Int) + 1], ly ++ [y], by omega, by go_num, Lib.hid ⟨rfl, rfl, by have := HXN.out; have := HYN.out; simp only [List.length_append, List.length_cons, List.length_nil]; omega, by have := HXN.out; simp only [List.length_append, List.length_cons, List.length_nil]; omega⟩, HR9, (HC.out.belowB (HB6.out.trans HB9.out) (by omega)).mono (by omega), HWz.out.belowStep (HB6.out.trans HB9.out)⟩
    · obtain rfl : n3b = k := by omega
      go_wp2_with fail
      refine (spec_pick U g _ 16 _ HC.out ((HW.out.trans HWz.out).belowOf (HUC.out) (Nat.le_of_eq HUS.out)) (by omega)).mono ?_
      rintro e w6 ⟨⟨jx, rfl, jl, _, jm, _⟩, hc, hw⟩
      replace jm := jm (by omega)
      have hs6 := hw.size
      replace HR := Lib.hid (HR.out.keep fun v l q => q.within hw (by omega))
      replace HC := Lib.hid hc
      replace HWz := Lib.hid (HWz.out.trans hw)
      replace HSZ : Hid (V4.heap.size ≤ w6.heap.size) := Nat.le_trans HSZ.out hs6
      clear hc hw
      rcases (by omega : jx = 0 ∨ jx = 1 ∨ jx = 2 ∨ 3 ≤ jx) with hj | hj | hj | hj
      · subst hj
        go_wp2_with (first | (at_builtin; refine RowsI.list_appN rfl _ _ rfl (HR.out.below ((Below.refl _ _).alloc (Nat.le_refl _) _)) (by have := HSZ.out; simp; omega) 0 rfl (Ints.lit1 _ (lit_I64 (l := [1]) rfl 1 (by simp))) (by simp) (xn + 1) (by have := HXN.out; simp only [List.length_append, List.length_cons, List.length_nil]; omega) (by omega) rfl rfl ?_; intro a7 c7 w7 h7 _ hb7; have HR7 := Lib.hid h7; have hsw7 := hb7.size; have HB7 : Hid (Below V4.heap.size w6 w7) := ((Below.refl _ _).alloc HSZ.out _).trans hb7; have HS7 : Hid (V4.heap.size ≤ w7.heap.size) := Nat.le_trans HSZ.out HB7.out.size; clear h7 hb7) | (at_builtin; refine RowsI.list_appN rfl _ _ rfl (HR7.out.below ((Below.refl _ _).alloc (Nat.le_refl _) _)) (by have := HS7.out; simp; omega) 1 rfl (Ints.lit1 _ (lit_I64 (l := [0]) rfl 0 (by simp))) (by simp) (xn + 1) (by have := HYN.out; simp only [List.length_append, List.length_cons, List.length_nil]; omega) (by omega) rfl rfl ?_; intro a8 c8 w8 h8 _ hb8; have HR8 := Lib.hid h8; have hsw8 := hb8.size; have HB8 : Hid (Below V4.heap.size w7 w8) := ((Below.refl _ _).alloc HS7.out _).trans hb8; have HS8 : Hid (V4.heap.size ≤ w8.heap.size) := Nat.le_trans HS7.out HB8.out.size; clear h8 hb8) | fail)
        replace HC := Lib.hid (HC.out.belowB (HB7.out.trans HB8.out) (by omega))
        replace HWz := Lib.hid (HWz.out.belowStep (HB7.out.trans HB8.out))
        have hs8 := HS8.out
        have hgw : g < w8.heap.size := HC.out.lt
        replace HX0 := Lib.hid (HX0.out.kept HWz.out (.inl (by omega)))
        replace HZ1 := Lib.hid (HZ1.out.kept HWz.out (.inr (by omega)))
        replace HZ2 := Lib.hid (HZ2.out.kept HWz.out (.inr (by omega)))
        replace HL3a := Lib.hid (HL3a.out.within HWz.out (by omega))
        replace HL3b := Lib.hid (HL3b.out.within HWz.out (by omega))
        replace HW := Lib.hid (HW.out.trans HWz.out)
        replace HC := Lib.hid (HC.out.mono (n' := 10000000) (by omega))
        have HLx := Lib.hid (Since.of_ownI (B' := V4.heap.size) (HR8.out.own 0 _ _ rfl) (Nat.le_refl _))
        have HLy := Lib.hid (Since.of_ownI (B' := V4.heap.size) (HR8.out.own 1 _ _ rfl) (Nat.le_refl _))
        have HEx : Hid ((lx ++ [1]).length ≤ 9) := by unfold Hid; (try simp only [List.length_append, List.length_set, List.length_cons, List.length_nil]); have := HXN.out; omega
        have HEy : Hid ((ly ++ [0]).length ≤ 9) := by unfold Hid; (try simp only [List.length_append, List.length_set, List.length_cons, List.length_nil]); have := HYN.out; omega
        have z_0_0 := HX0.out.cell (i := 0) rfl
        have z_0_1 := HX0.out.cell (i := 1) rfl
        have z_0_2 := HX0.out.cell (i := 2) rfl
        have z_1_0 := HZ1.out.cell (i := 0) rfl
        have z_1_1 := HZ1.out.cell (i := 1) rfl
        have z_1_2 := HZ1.out.cell (i := 2) rfl
        have z_2_0 := HZ2.out.cell (i := 0) rfl
        have z_2_1 := HZ2.out.cell (i := 1) rfl
        have z_0_0 := HX0.out.cell (i := 0) rfl
        have z_0_1 := HX0.out.cell (i := 1) rfl
        have z_0_2 := HX0.out.cell (i := 2) rfl
        have z_1_0 := HZ1.out.cell (i := 0) rfl
        have z_1_1 := HZ1.out.cell (i := 1) rfl
        have z_1_2 := HZ1.out.cell (i := 2) rfl
        have z_2_0 := HZ2.out.cell (i := 0) rfl
        have z_2_1 := HZ2.out.cell (i := 1) rfl
        try (go_wp2_with fail)
        clear z_0_0
        clear z_0_1
        clear z_0_2
        refine wp_region_noPanic ?_
        refine wp_region_V (fun w' => w'.cell? ⟨u1.heap.size, 0, none⟩ = some (.int .i64 P) ∧ w'.cell? ⟨u1.heap.size, 1, none⟩ = some (.int .i64 Q) ∧ w'.cell? ⟨u1.heap.size, 2, none⟩ = some (.int .i64 G) ∧ w'.cell? ⟨u3.heap.size, 0, none⟩ = some (.slice a3a n3a c3a) ∧ w'.cell? ⟨u3.heap.size, 1, none⟩ = some (.slice a3b n3b c3b)) 11 8 (.rd 0 (.rd 1 (.rd 2 (.rd 3 (.rd 4 (.alt 5 (.alt 6 (.alt 7 .done .nil) .nil) .nil)))))) [8] (by kernel_rfl) (by kernel_rfl) rfl (fun _ _ _ _ _ h => h) ⟨box_at z_1_0 (Below.refl _ _).drew, box_at z_1_1 (Below.refl _ _).drew, box_at z_1_2 (Below.refl _ _).drew, box_at z_2_0 (Below.refl _ _).drew, box_at z_2_1 (Below.refl _ _).drew⟩ ?_
        simp only [pickV, pickN, List.getElem?_cons_zero, List.getElem?_cons_succ]
        repeat (refine' wpV_read _ (by kernel_rfl) (fun w' hS' => ?_) ?_; rotate_left; (focus ((try dsimp only at hS'); go_simp; (try with_reducible rfl))); (try simp only [Act.put, List.setIfInBounds_toArray, List.set_cons_zero, List.set_cons_succ]))
        have hdr : Below w8.heap.size w8 w8.drew := (Below.refl _ _).drew
        have hszd := hdr.size
        replace HX0 := Lib.hid (HX0.out.below hdr)
        replace HZ1 := Lib.hid (HZ1.out.below hdr)
        replace HZ2 := Lib.hid (HZ2.out.below hdr)
        replace HL3a := Lib.hid (HL3a.out.below hdr)
        replace HL3b := Lib.hid (HL3b.out.below hdr)
        replace HLx := Lib.hid (HLx.out.below hdr)
        replace HLy := Lib.hid (HLy.out.below hdr)
        replace HW := Lib.hid (HW.out.trans (Within.of_below hdr))
        replace HC := Lib.hid (HC.out.keep hdr)
        clear hdr
        refine wpV_do (by kernel_rfl) (fun K hK => ?_)
        -- 5: store
        have r0 := HX0.out.cell (i := 0) rfl
        have r1 := HX0.out.cell (i := 1) rfl
        have r2 := HX0.out.cell (i := 2) rfl
        have fr := fun j => HX0.out.frozen j
        have q0 : w8.cell? ⟨w.heap.size, 0, none⟩ = some (.int .i64 0) := r0
        have q1 : w8.cell? ⟨w.heap.size, 1, none⟩ = some (.int .i64 0) := r1
        have q2 : w8.cell? ⟨w.heap.size, 2, none⟩ = some (.int .i64 0) := r2
        have frd : ∀ j, w8.frozen? ⟨w.heap.size, j, none⟩ = false := fr
        obtain ⟨Y1, hY⟩ : ∃ Y, Y = (((w8.setCell ⟨w.heap.size, 0, none⟩ (.int .i64 P)).setCell ⟨w.heap.size, 1, none⟩ (.int .i64 Q)).setCell ⟨w.heap.size, 2, none⟩ (.int .i64 G)).drew := ⟨_, rfl⟩
        have hYG := hY
        replace hY : Y1 = ((w8.drew.setCell ⟨w.heap.size, 0, none⟩ (.int .i64 P)).setCell ⟨w.heap.size, 1, none⟩ (.int .i64 Q)).setCell ⟨w.heap.size, 2, none⟩ (.int .i64 G) := by rw [hY]; first | rfl | simp [go_sem]
        have hYl : Within (w.heap.size) (w.heap.size + 1) w8.drew Y1 := by rw [hY]; exact ((((Within.refl (w.heap.size) (w.heap.size + 1) w8.drew).setCell (b := w.heap.size) (by omega) (by omega) 0 (.int .i64 P)).setCell (b := w.heap.size) (by omega) (by omega) 1 (.int .i64 Q)).setCell (b := w.heap.size) (by omega) (by omega) 2 (.int .i64 G))
        have HYW : Hid (Within w.heap.size (w.heap.size + 1) w8.drew Y1) := hYl.mono (by omega) (by omega)
        have HYB : Hid (Below w.heap.size w Y1) := hYl.belowU (HW.out.belowOf HBW.out (by omega)) (by omega)
        have HCS : Hid (∀ w', Within w.heap.size (w.heap.size + 1) w8.drew w' → w'.cell? ⟨u1.heap.size, 0, none⟩ = some (.int .i64 P) ∧ w'.cell? ⟨u1.heap.size, 1, none⟩ = some (.int .i64 Q) ∧ w'.cell? ⟨u1.heap.size, 2, none⟩ = some (.int .i64 G) ∧ w'.cell? ⟨u3.heap.size, 0, none⟩ = some (.slice a3a n3a c3a) ∧ w'.cell? ⟨u3.heap.size, 1, none⟩ = some (.slice a3b n3b c3b)) := fun w' h => ⟨within_at h z_1_0 (by omega), within_at h z_1_1 (by omega), within_at h z_1_2 (by omega), within_at h z_2_0 (by omega), within_at h z_2_1 (by omega)⟩
        go_simp
        refine hK.out _ _ ?_ (fun _ => ?_)
        · rw [← hYG]; exact HCS.out _ HYW.out
        rw [← hYG]
        clear hK K fr r0 r1 r2
        replace HX0 : Hid (BoxN Y1 w.heap.size 24 [.int .i64 P, .int .i64 Q, .int .i64 G]) := by unfold Hid; rw [hY]; exact (((HX0.out.set 0 (.int .i64 P)).set 1 (.int .i64 Q)).set 2 (.int .i64 G))
        clear hYG frd q0 q1 q2
        clear hY hYl
        (try simp only [Act.put, List.setIfInBounds_toArray, List.set_cons_zero, List.set_cons_succ])
        clear z_1_0 z_1_1 z_1_2 z_2_0 z_2_1
        obtain ⟨z_1_0, z_1_1, z_1_2, z_2_0, z_2_1⟩ := HCS.out _ HYW.out
        refine wpV_do (by kernel_rfl) (fun K hK => ?_)
        -- 6: load
        go_simp
        refine hK.out _ _ ⟨z_1_0, z_1_1, z_1_2, z_2_0, z_2_1⟩ (fun _ => ?_)
        clear hK K
        (try simp only [Act.put, List.setIfInBounds_toArray, List.set_cons_zero, List.set_cons_succ])
        refine wpV_do (by kernel_rfl) (fun K hK => ?_)
        -- 7: load
        go_simp
        refine hK.out _ _ ⟨z_1_0, z_1_1, z_1_2, z_2_0, z_2_1⟩ (fun _ => ?_)
        clear hK K
        (try simp only [Act.put, List.setIfInBounds_toArray, List.set_cons_zero, List.set_cons_succ])
        refine wpV_done ?_
        go_wp2_with fail
        refine NoPanic.normal ?_
        clear z_1_0 z_1_1 z_1_2 z_2_0 z_2_1
        have t_HX0_0 := HX0.out.cell (i := 0) rfl
        have t_HX0_1 := HX0.out.cell (i := 1) rfl
        have t_HX0_2 := HX0.out.cell (i := 2) rfl
        try (go_wp2_with fail)
        refine bodyPost_ret (v := .tuple #[.agg #[.int .i64 P, .int .i64 Q, .int .i64 G], .slice a3a n3a c3a, .slice a7 (xn + 1) c7, .slice a8 (xn + 1) c8]) (by simp [results, Tryz.results66, go_sem, t_HX0_0, t_HX0_1, t_HX0_2]) rfl ⟨⟨_, _, _, _, _, _, _, _, _, rfl, HGR.out, ⟨(HL3a.out.within HYW.out (by omega)).mono (by omega), by have := HE3a.out; omega⟩, ⟨(HLx.out.within HYW.out (by omega)).mono (by omega), by have := HEx.out; omega⟩, ⟨(HLy.out.within HYW.out (by omega)).mono (by omega), by have := HEy.out; omega⟩⟩, HYB.out⟩
      · subst hj
        go_wp2_with (first | (at_builtin; refine RowsI.list_appN rfl _ _ rfl (HR.out.below ((Below.refl _ _).alloc (Nat.le_refl _) _)) (by have := HSZ.out; simp; omega) 1 rfl (Ints.lit1 _ (lit_I64 (l := [0]) rfl 0 (by simp))) (by simp) (xn + 1) (by have := HYN.out; simp only [List.length_append, List.length_cons, List.length_nil]; omega) (by omega) rfl rfl ?_; intro a8 c8 w8 h8 _ hb8; have HR8 := Lib.hid h8; have hsw8 := hb8.size; have HB8 : Hid (Below V4.heap.size w6 w8) := ((Below.refl _ _).alloc HSZ.out _).trans hb8; have HS8 : Hid (V4.heap.size ≤ w8.heap.size) := Nat.le_trans HSZ.out HB8.out.size; clear h8 hb8) | fail)
        replace HC := Lib.hid (HC.out.belowB HB8.out (by omega))
        replace HWz := Lib.hid (HWz.out.belowStep HB8.out)
        have hs8 := HS8.out
        have hgw : g < w8.heap.size := HC.out.lt
        replace HX0 := Lib.hid (HX0.out.kept HWz.out (.inl (by omega)))
        replace HZ1 := Lib.hid (HZ1.out.kept HWz.out (.inr (by omega)))
        replace HZ2 := Lib.hid (HZ2.out.kept HWz.out (.inr (by omega)))
        replace HL3a := Lib.hid (HL3a.out.within HWz.out (by omega))
        replace HL3b := Lib.hid (HL3b.out.within HWz.out (by omega))
        replace HW := Lib.hid (HW.out.trans HWz.out)
        replace HC := Lib.hid (HC.out.mono (n' := 10000000) (by omega))
        have HLx := Lib.hid (Since.of_ownI (B' := V4.heap.size) (HR8.out.own 0 _ _ rfl) (Nat.le_refl _))
        have HLy := Lib.hid (Since.of_ownI (B' := V4.heap.size) (HR8.out.own 1 _ _ rfl) (Nat.le_refl _))
        have HEx : Hid (lx.length ≤ 9) := by unfold Hid; (try simp only [List.length_append, List.length_set, List.length_cons, List.length_nil]); have := HXN.out; omega
        have HEy : Hid ((ly ++ [0]).length ≤ 9) := by unfold Hid; (try simp only [List.length_append, List.length_set, List.length_cons, List.length_nil]); have := HYN.out; omega
        have z_0_0 := HX0.out.cell (i := 0) rfl
        have z_0_1 := HX0.out.cell (i := 1) rfl
        have z_0_2 := HX0.out.cell (i := 2) rfl
        have z_1_0 := HZ1.out.cell (i := 0) rfl
        have z_1_1 := HZ1.out.cell (i := 1) rfl
        have z_1_2 := HZ1.out.cell (i := 2) rfl
        have z_2_0 := HZ2.out.cell (i := 0) rfl
        have z_2_1 := HZ2.out.cell (i := 1) rfl
        have z_0_0 := HX0.out.cell (i := 0) rfl
        have z_0_1 := HX0.out.cell (i := 1) rfl
        have z_0_2 := HX0.out.cell (i := 2) rfl
        have z_1_0 := HZ1.out.cell (i := 0) rfl
        have z_1_1 := HZ1.out.cell (i := 1) rfl
        have z_1_2 := HZ1.out.cell (i := 2) rfl
        have z_2_0 := HZ2.out.cell (i := 0) rfl
        have z_2_1 := HZ2.out.cell (i := 1) rfl
        try (go_wp2_with fail)
        clear z_0_0
        clear z_0_1
        clear z_0_2
        refine wp_region_noPanic ?_
        refine wp_region_V (fun w' => w'.cell? ⟨u1.heap.size, 0, none⟩ = some (.int .i64 P) ∧ w'.cell? ⟨u1.heap.size, 1, none⟩ = some (.int .i64 Q) ∧ w'.cell? ⟨u1.heap.size, 2, none⟩ = some (.int .i64 G) ∧ w'.cell? ⟨u3.heap.size, 0, none⟩ = some (.slice a3a n3a c3a) ∧ w'.cell? ⟨u3.heap.size, 1, none⟩ = some (.slice a3b n3b c3b)) 11 8 (.rd 0 (.rd 1 (.rd 2 (.rd 3 (.rd 4 (.alt 5 (.alt 6 (.alt 7 .done .nil) .nil) .nil)))))) [8] (by kernel_rfl) (by kernel_rfl) rfl (fun _ _ _ _ _ h => h) ⟨box_at z_1_0 (Below.refl _ _).drew, box_at z_1_1 (Below.refl _ _).drew, box_at z_1_2 (Below.refl _ _).drew, box_at z_2_0 (Below.refl _ _).drew, box_at z_2_1 (Below.refl _ _).drew⟩ ?_
        simp only [pickV, pickN, List.getElem?_cons_zero, List.getElem?_cons_succ]
        repeat (refine' wpV_read _ (by kernel_rfl) (fun w' hS' => ?_) ?_; rotate_left; (focus ((try dsimp only at hS'); go_simp; (try with_reducible rfl))); (try simp only [Act.put, List.setIfInBounds_toArray, List.set_cons_zero, List.set_cons_succ]))
        have hdr : Below w8.heap.size w8 w8.drew := (Below.refl _ _).drew
        have hszd := hdr.size
        replace HX0 := Lib.hid (HX0.out.below hdr)
        replace HZ1 := Lib.hid (HZ1.out.below hdr)
        replace HZ2 := Lib.hid (HZ2.out.below hdr)
        replace HL3a := Lib.hid (HL3a.out.below hdr)
        replace HL3b := Lib.hid (HL3b.out.below hdr)
        replace HLx := Lib.hid (HLx.out.below hdr)
        replace HLy := Lib.hid (HLy.out.below hdr)
        replace HW := Lib.hid (HW.out.trans (Within.of_below hdr))
        replace HC := Lib.hid (HC.out.keep hdr)
        clear hdr
        refine wpV_do (by kernel_rfl) (fun K hK => ?_)
        -- 5: store
        have r0 := HX0.out.cell (i := 0) rfl
        have r1 := HX0.out.cell (i := 1) rfl
        have r2 := HX0.out.cell (i := 2) rfl
        have fr := fun j => HX0.out.frozen j
        have q0 : w8.cell? ⟨w.heap.size, 0, none⟩ = some (.int .i64 0) := r0
        have q1 : w8.cell? ⟨w.heap.size, 1, none⟩ = some (.int .i64 0) := r1
        have q2 : w8.cell? ⟨w.heap.size, 2, none⟩ = some (.int .i64 0) := r2
        have frd : ∀ j, w8.frozen? ⟨w.heap.size, j, none⟩ = false := fr
        obtain ⟨Y1, hY⟩ : ∃ Y, Y = (((w8.setCell ⟨w.heap.size, 0, none⟩ (.int .i64 P)).setCell ⟨w.heap.size, 1, none⟩ (.int .i64 Q)).setCell ⟨w.heap.size, 2, none⟩ (.int .i64 G)).drew := ⟨_, rfl⟩
        have hYG := hY
        replace hY : Y1 = ((w8.drew.setCell ⟨w.heap.size, 0, none⟩ (.int .i64 P)).setCell ⟨w.heap.size, 1, none⟩ (.int .i64 Q)).setCell ⟨w.heap.size, 2, none⟩ (.int .i64 G) := by rw [hY]; first | rfl | simp [go_sem]
        have hYl : Within (w.heap.size) (w.heap.size + 1) w8.drew Y1 := by rw [hY]; exact ((((Within.refl (w.heap.size) (w.heap.size + 1) w8.drew).setCell (b := w.heap.size) (by omega) (by omega) 0 (.int .i64 P)).setCell (b := w.heap.size) (by omega) (by omega) 1 (.int .i64 Q)).setCell (b := w.heap.size) (by omega) (by omega) 2 (.int .i64 G))
        have HYW : Hid (Within w.heap.size (w.heap.size + 1) w8.drew Y1) := hYl.mono (by omega) (by omega)
        have HYB : Hid (Below w.heap.size w Y1) := hYl.belowU (HW.out.belowOf HBW.out (by omega)) (by omega)
        have HCS : Hid (∀ w', Within w.heap.size (w.heap.size + 1) w8.drew w' → w'.cell? ⟨u1.heap.size, 0, none⟩ = some (.int .i64 P) ∧ w'.cell? ⟨u1.heap.size, 1, none⟩ = some (.int .i64 Q) ∧ w'.cell? ⟨u1.heap.size, 2, none⟩ = some (.int .i64 G) ∧ w'.cell? ⟨u3.heap.size, 0, none⟩ = some (.slice a3a n3a c3a) ∧ w'.cell? ⟨u3.heap.size, 1, none⟩ = some (.slice a3b n3b c3b)) := fun w' h => ⟨within_at h z_1_0 (by omega), within_at h z_1_1 (by omega), within_at h z_1_2 (by omega), within_at h z_2_0 (by omega), within_at h z_2_1 (by omega)⟩
        go_simp
        refine hK.out _ _ ?_ (fun _ => ?_)
        · rw [← hYG]; exact HCS.out _ HYW.out
        rw [← hYG]
        clear hK K fr r0 r1 r2
        replace HX0 : Hid (BoxN Y1 w.heap.size 24 [.int .i64 P, .int .i64 Q, .int .i64 G]) := by unfold Hid; rw [hY]; exact (((HX0.out.set 0 (.int .i64 P)).set 1 (.int .i64 Q)).set 2 (.int .i64 G))
        clear hYG frd q0 q1 q2
        clear hY hYl
        (try simp only [Act.put, List.setIfInBounds_toArray, List.set_cons_zero, List.set_cons_succ])
        clear z_1_0 z_1_1 z_1_2 z_2_0 z_2_1
        obtain ⟨z_1_0, z_1_1, z_1_2, z_2_0, z_2_1⟩ := HCS.out _ HYW.out
        refine wpV_do (by kernel_rfl) (fun K hK => ?_)
        -- 6: load
        go_simp
        refine hK.out _ _ ⟨z_1_0, z_1_1, z_1_2, z_2_0, z_2_1⟩ (fun _ => ?_)
        clear hK K
        (try simp only [Act.put, List.setIfInBounds_toArray, List.set_cons_zero, List.set_cons_succ])
        refine wpV_do (by kernel_rfl) (fun K hK => ?_)
        -- 7: load
        go_simp
        refine hK.out _ _ ⟨z_1_0, z_1_1, z_1_2, z_2_0, z_2_1⟩ (fun _ => ?_)
        clear hK K
        (try simp only [Act.put, List.setIfInBounds_toArray, List.set_cons_zero, List.set_cons_succ])
        refine wpV_done ?_
        go_wp2_with fail
        refine NoPanic.normal ?_
        clear z_1_0 z_1_1 z_1_2 z_2_0 z_2_1
        have t_HX0_0 := HX0.out.cell (i := 0) rfl
        have t_HX0_1 := HX0.out.cell (i := 1) rfl
        have t_HX0_2 := HX0.out.cell (i := 2) rfl
        try (go_wp2_with fail)
        refine bodyPost_ret (v := .tuple #[.agg #[.int .i64 P, .int .i64 Q, .int .i64 G], .slice a3a n3a c3a, .slice xa xn xc, .slice a8 (xn + 1) c8]) (by simp [results, Tryz.results66, go_sem, t_HX0_0, t_HX0_1, t_HX0_2]) rfl ⟨⟨_, _, _, _, _, _, _, _, _, rfl, HGR.out, ⟨(HL3a.out.within HYW.out (by omega)).mono (by omega), by have := HE3a.out; omega⟩, ⟨(HLx.out.within HYW.out (by omega)).mono (by omega), by have := HEx.out; omega⟩, ⟨(HLy.out.within HYW.out (by omega)).mono (by omega), by have := HEy.out; omega⟩⟩, HYB.out⟩
      · subst hj
        by_cases hx0 : 0 < xn
        · have hd0 : decide ((0 : Int) < (xn : Int)) = true := decide_eq_true (by omega)
          obtain ⟨rr, e, hrr, hlr, hrx⟩ := (HR.out.own 0 _ _ rfl).at_ (by have := HXN.out; omega)
          cases e
          clear hrx hlr
          obtain ⟨V9, hV⟩ : ∃ V, V = w6.alloc (.cells #[.int .i64 0, .int .i64 8] 3) := ⟨_, rfl⟩
          have hbV : Below w6.heap.size w6 V9 := by rw [hV]; exact (Below.refl _ _).alloc (Nat.le_refl _) _
          have HLT : Hid (OwnI V9 w6.heap.size (.slice (some ⟨w6.heap.size, 0, none⟩) 2 2) [0, 8]) := by unfold Hid; rw [hV]; exact OwnI.lit (B := w6.heap.size) w6 (Nat.le_refl _) (l := [0, 8]) (lit_I64 rfl) rfl (by simp [maxLen]) 2 rfl
          have hsV : V9.heap.size = w6.heap.size + 1 := by rw [hV]; simp
          have hg6 : g < w6.heap.size := HC.out.lt
          go_wp2_with fail
          rw [← hV]
          clear hV
          replace HR := Lib.hid (HR.out.below hbV)
          replace HC := Lib.hid (HC.out.keep hbV)
          replace HWz := Lib.hid (HWz.out.trans (Within.of_below hbV))
          clear hbV
          refine (spec_among U g _ _ [0, 8] _ HC.out ((HW.out.trans HWz.out).belowOf (HUC.out) (Nat.le_of_eq HUS.out)) (by omega) (Apart.of_ownI HLT.out (by omega)) (by simp)).mono ?_
          rintro e u9 ⟨⟨x9, rfl, hm9⟩, hc, hw⟩
          have hs9 := hw.size
          have hx9 : 0 ≤ x9 ∧ x9 ≤ 8 := by simp at hm9; omega
          have hxI : I64 x9 := ⟨by omega, by omega⟩
          clear hm9 HLT
          replace HR := Lib.hid (HR.out.keep fun v l q => q.within hw (by omega))
          replace HC := Lib.hid hc
          replace HWz := Lib.hid (HWz.out.trans hw)
          clear hc hw
          obtain ⟨_, e, _, hlr, hrx⟩ := (HR.out.own 0 _ _ rfl).at_ (by have := HXN.out; omega)
          cases e
          obtain ⟨r0, f0⟩ := hrx 0 (by omega)
          have hr9 := ((HR.out.own 0 _ _ rfl).lt rr rfl).2
          clear hrx hlr
          go_upto_region 21 with fail
          clear r0 f0
          obtain ⟨uY, hY⟩ : ∃ Y, Y = u9.setCell ⟨rr, 0, none⟩ (.int .i64 x9) := ⟨_, rfl⟩
          have hszY : uY.heap.size = u9.heap.size := by rw [hY]; simp
          have HRY := Lib.hid (HR.out.store (i := 0) rfl HXN.out 0 hxI)
          have NC := Lib.hid (HC.out.setNew (b := rr) (by omega) 0 (.int .i64 x9))
          have NW := Lib.hid (HWz.out.setNew (b := rr) (by omega) 0 (.int .i64 x9))
          rw [← hY] at HRY NC NW ⊢
          replace HC := NC
          replace HWz := NW
          clear NC NW hY
          have hgw : g < uY.heap.size := HC.out.lt
          replace HX0 := Lib.hid (HX0.out.kept HWz.out (.inl (by omega)))
          replace HZ1 := Lib.hid (HZ1.out.kept HWz.out (.inr (by omega)))
          replace HZ2 := Lib.hid (HZ2.out.kept HWz.out (.inr (by omega)))
          replace HL3a := Lib.hid (HL3a.out.within HWz.out (by omega))
          replace HL3b := Lib.hid (HL3b.out.within HWz.out (by omega))
          replace HW := Lib.hid (HW.out.trans HWz.out)
          replace HC := Lib.hid (HC.out.mono (n' := 10000000) (by omega))
          have HLx := Lib.hid (Since.of_ownI (B' := V4.heap.size) (HRY.out.own 0 _ _ rfl) (Nat.le_refl _))
          have HLy := Lib.hid (Since.of_ownI (B' := V4.heap.size) (HRY.out.own 1 _ _ rfl) (Nat.le_refl _))
          have HEx : Hid ((lx.set 0 x9).length ≤ 9) := by unfold Hid; (try simp only [List.length_append, List.length_set, List.length_cons, List.length_nil]); have := HXN.out; omega
          have HEy : Hid (ly.length ≤ 9) := by unfold Hid; (try simp only [List.length_append, List.length_set, List.length_cons, List.length_nil]); have := HYN.out; omega
          have z_0_0 := HX0.out.cell (i := 0) rfl
          have z_0_1 := HX0.out.cell (i := 1) rfl
          have z_0_2 := HX0.out.cell (i := 2) rfl
          have z_1_0 := HZ1.out.cell (i := 0) rfl
          have z_1_1 := HZ1.out.cell (i := 1) rfl
          have z_1_2 := HZ1.out.cell (i := 2) rfl
          have z_2_0 := HZ2.out.cell (i := 0) rfl
          have z_2_1 := HZ2.out.cell (i := 1) rfl
          have z_0_0 := HX0.out.cell (i := 0) rfl
          have z_0_1 := HX0.out.cell (i := 1) rfl
          have z_0_2 := HX0.out.cell (i := 2) rfl
          have z_1_0 := HZ1.out.cell (i := 0) rfl
          have z_1_1 := HZ1.out.cell (i := 1) rfl
          have z_1_2 := HZ1.out.cell (i := 2) rfl
          have z_2_0 := HZ2.out.cell (i := 0) rfl
          have z_2_1 := HZ2.out.cell (i := 1) rfl
          try (go_wp2_with fail)
          clear z_0_0
          clear z_0_1
          clear z_0_2
          refine wp_region_noPanic ?_
          refine wp_region_V (fun w' => w'.cell? ⟨u1.heap.size, 0, none⟩ = some (.int .i64 P) ∧ w'.cell? ⟨u1.heap.size, 1, none⟩ = some (.int .i64 Q) ∧ w'.cell? ⟨u1.heap.size, 2, none⟩ = some (.int .i64 G) ∧ w'.cell? ⟨u3.heap.size, 0, none⟩ = some (.slice a3a n3a c3a) ∧ w'.cell? ⟨u3.heap.size, 1, none⟩ = some (.slice a3b n3b c3b)) 11 8 (.rd 0 (.rd 1 (.rd 2 (.rd 3 (.rd 4 (.alt 5 (.alt 6 (.alt 7 .done .nil) .nil) .nil)))))) [8] (by kernel_rfl) (by kernel_rfl) rfl (fun _ _ _ _ _ h => h) ⟨box_at z_1_0 (Below.refl _ _).drew, box_at z_1_1 (Below.refl _ _).drew, box_at z_1_2 (Below.refl _ _).drew, box_at z_2_0 (Below.refl _ _).drew, box_at z_2_1 (Below.refl _ _).drew⟩ ?_
          simp only [pickV, pickN, List.getElem?_cons_zero, List.getElem?_cons_succ]
          repeat (refine' wpV_read _ (by kernel_rfl) (fun w' hS' => ?_) ?_; rotate_left; (focus ((try dsimp only at hS'); go_simp; (try with_reducible rfl))); (try simp only [Act.put, List.setIfInBounds_toArray, List.set_cons_zero, List.set_cons_succ]))
          have hdr : Below uY.heap.size uY uY.drew := (Below.refl _ _).drew
          have hszd := hdr.size
          replace HX0 := Lib.hid (HX0.out.below hdr)
          replace HZ1 := Lib.hid (HZ1.out.below hdr)
          replace HZ2 := Lib.hid (HZ2.out.below hdr)
          replace HL3a := Lib.hid (HL3a.out.below hdr)
          replace HL3b := Lib.hid (HL3b.out.below hdr)
          replace HLx := Lib.hid (HLx.out.below hdr)
          replace HLy := Lib.hid (HLy.out.below hdr)
          replace HW := Lib.hid (HW.out.trans (Within.of_below hdr))
          replace HC := Lib.hid (HC.out.keep hdr)
          clear hdr
          refine wpV_do (by kernel_rfl) (fun K hK => ?_)
          -- 5: store
          have r0 := HX0.out.cell (i := 0) rfl
          have r1 := HX0.out.cell (i := 1) rfl
          have r2 := HX0.out.cell (i := 2) rfl
          have fr := fun j => HX0.out.frozen j
          have q0 : uY.cell? ⟨w.heap.size, 0, none⟩ = some (.int .i64 0) := r0
          have q1 : uY.cell? ⟨w.heap.size, 1, none⟩ = some (.int .i64 0) := r1
          have q2 : uY.cell? ⟨w.heap.size, 2, none⟩ = some (.int .i64 0) := r2
          have frd : ∀ j, uY.frozen? ⟨w.heap.size, j, none⟩ = false := fr
          obtain ⟨Y1, hY⟩ : ∃ Y, Y = (((uY.setCell ⟨w.heap.size, 0, none⟩ (.int .i64 P)).setCell ⟨w.heap.size, 1, none⟩ (.int .i64 Q)).setCell ⟨w.heap.size, 2, none⟩ (.int .i64 G)).drew := ⟨_, rfl⟩
          have hYG := hY
          replace hY : Y1 = ((uY.drew.setCell ⟨w.heap.size, 0, none⟩ (.int .i64 P)).setCell ⟨w.heap.size, 1, none⟩ (.int .i64 Q)).setCell ⟨w.heap.size, 2, none⟩ (.int .i64 G) := by rw [hY]; first | rfl | simp [go_sem]
          have hYl : Within (w.heap.size) (w.heap.size + 1) uY.drew Y1 := by rw [hY]; exact ((((Within.refl (w.heap.size) (w.heap.size + 1) uY.drew).setCell (b := w.heap.size) (by omega) (by omega) 0 (.int .i64 P)).setCell (b := w.heap.size) (by omega) (by omega) 1 (.int .i64 Q)).setCell (b := w.heap.size) (by omega) (by omega) 2 (.int .i64 G))
          have HYW : Hid (Within w.heap.size (w.heap.size + 1) uY.drew Y1) := hYl.mono (by omega) (by omega)
          have HYB : Hid (Below w.heap.size w Y1) := hYl.belowU (HW.out.belowOf HBW.out (by omega)) (by omega)
          have HCS : Hid (∀ w', Within w.heap.size (w.heap.size + 1) uY.drew w' → w'.cell? ⟨u1.heap.size, 0, none⟩ = some (.int .i64 P) ∧ w'.cell? ⟨u1.heap.size, 1, none⟩ = some (.int .i64 Q) ∧ w'.cell? ⟨u1.heap.size, 2, none⟩ = some (.int .i64 G) ∧ w'.cell? ⟨u3.heap.size, 0, none⟩ = some (.slice a3a n3a c3a) ∧ w'.cell? ⟨u3.heap.size, 1, none⟩ = some (.slice a3b n3b c3b)) := fun w' h => ⟨within_at h z_1_0 (by omega), within_at h z_1_1 (by omega), within_at h z_1_2 (by omega), within_at h z_2_0 (by omega), within_at h z_2_1 (by omega)⟩
          go_simp
          refine hK.out _ _ ?_ (fun _ => ?_)
          · rw [← hYG]; exact HCS.out _ HYW.out
          rw [← hYG]
          clear hK K fr r0 r1 r2
          replace HX0 : Hid (BoxN Y1 w.heap.size 24 [.int .i64 P, .int .i64 Q, .int .i64 G]) := by unfold Hid; rw [hY]; exact (((HX0.out.set 0 (.int .i64 P)).set 1 (.int .i64 Q)).set 2 (.int .i64 G))
          clear hYG frd q0 q1 q2
          clear hY hYl
          (try simp only [Act.put, List.setIfInBounds_toArray, List.set_cons_zero, List.set_cons_succ])
          clear z_1_0 z_1_1 z_1_2 z_2_0 z_2_1
          obtain ⟨z_1_0, z_1_1, z_1_2, z_2_0, z_2_1⟩ := HCS.out _ HYW.out
          refine wpV_do (by kernel_rfl) (fun K hK => ?_)
          -- 6: load
          go_simp
          refine hK.out _ _ ⟨z_1_0, z_1_1, z_1_2, z_2_0, z_2_1⟩ (fun _ => ?_)
          clear hK K
          (try simp only [Act.put, List.setIfInBounds_toArray, List.set_cons_zero, List.set_cons_succ])
          refine wpV_do (by kernel_rfl) (fun K hK => ?_)
          -- 7: load
          go_simp
          refine hK.out _ _ ⟨z_1_0, z_1_1, z_1_2, z_2_0, z_2_1⟩ (fun _ => ?_)
          clear hK K
          (try simp only [Act.put, List.setIfInBounds_toArray, List.set_cons_zero, List.set_cons_succ])
          refine wpV_done ?_
          go_wp2_with fail
          refine NoPanic.normal ?_
          clear z_1_0 z_1_1 z_1_2 z_2_0 z_2_1
          have t_HX0_0 := HX0.out.cell (i := 0) rfl
          have t_HX0_1 := HX0.out.cell (i := 1) rfl
          have t_HX0_2 := HX0.out.cell (i := 2) rfl
          try (go_wp2_with fail)
          refine bodyPost_ret (v := .tuple #[.agg #[.int .i64 P, .int .i64 Q, .int .i64 G], .slice a3a n3a c3a, .slice (some ⟨rr, 0, none⟩) xn xc, .slice ya xn yc]) (by simp [results, Tryz.results66, go_sem, t_HX0_0, t_HX0_1, t_HX0_2]) rfl ⟨⟨_, _, _, _, _, _, _, _, _, rfl, HGR.out, ⟨(HL3a.out.within HYW.out (by omega)).mono (by omega), by have := HE3a.out; omega⟩, ⟨(HLx.out.within HYW.out (by omega)).mono (by omega), by have := HEx.out; omega⟩, ⟨(HLy.out.within HYW.out (by omega)).mono (by omega), by have := HEy.out; omega⟩⟩, HYB.out⟩
        · obtain rfl : xn = 0 := by omega
          go_upto_region 21 with fail
          have hgw : g < w6.heap.size := HC.out.lt
          replace HX0 := Lib.hid (HX0.out.kept HWz.out (.inl (by omega)))
          replace HZ1 := Lib.hid (HZ1.out.kept HWz.out (.inr (by omega)))
          replace HZ2 := Lib.hid (HZ2.out.kept HWz.out (.inr (by omega)))
          replace HL3a := Lib.hid (HL3a.out.within HWz.out (by omega))
          replace HL3b := Lib.hid (HL3b.out.within HWz.out (by omega))
          replace HW := Lib.hid (HW.out.trans HWz.out)
          replace HC := Lib.hid (HC.out.mono (n' := 10000000) (by omega))
          have HLx := Lib.hid (Since.of_ownI (B' := V4.heap.size) (HR.out.own 0 _ _ rfl) (Nat.le_refl _))
          have HLy := Lib.hid (Since.of_ownI (B' := V4.heap.size) (HR.out.own 1 _ _ rfl) (Nat.le_refl _))
          have HEx : Hid (lx.length ≤ 9) := by unfold Hid; (try simp only [List.length_append, List.length_set, List.length_cons, List.length_nil]); have := HXN.out; omega
          have HEy : Hid (ly.length ≤ 9) := by unfold Hid; (try simp only [List.length_append, List.length_set, List.length_cons, List.length_nil]); have := HYN.out; omega
          have z_0_0 := HX0.out.cell (i := 0) rfl
          have z_0_1 := HX0.out.cell (i := 1) rfl
          have z_0_2 := HX0.out.cell (i := 2) rfl
          have z_1_0 := HZ1.out.cell (i := 0) rfl
          have z_1_1 := HZ1.out.cell (i := 1) rfl
          have z_1_2 := HZ1.out.cell (i := 2) rfl
          have z_2_0 := HZ2.out.cell (i := 0) rfl
          have z_2_1 := HZ2.out.cell (i := 1) rfl
          have z_0_0 := HX0.out.cell (i := 0) rfl
          have z_0_1 := HX0.out.cell (i := 1) rfl
          have z_0_2 := HX0.out.cell (i := 2) rfl
          have z_1_0 := HZ1.out.cell (i := 0) rfl
          have z_1_1 := HZ1.out.cell (i := 1) rfl
          have z_1_2 := HZ1.out.cell (i := 2) rfl
          have z_2_0 := HZ2.out.cell (i := 0) rfl
          have z_2_1 := HZ2.out.cell (i := 1) rfl
          try (go_wp2_with fail)
          clear z_0_0
          clear z_0_1
          clear z_0_2
          refine wp_region_noPanic ?_
          refine wp_region_V (fun w' => w'.cell? ⟨u1.heap.size, 0, none⟩ = some (.int .i64 P) ∧ w'.cell? ⟨u1.heap.size, 1, none⟩ = some (.int .i64 Q) ∧ w'.cell? ⟨u1.heap.size, 2, none⟩ = some (.int .i64 G) ∧ w'.cell? ⟨u3.heap.size, 0, none⟩ = some (.slice a3a n3a c3a) ∧ w'.cell? ⟨u3.heap.size, 1, none⟩ = some (.slice a3b n3b c3b)) 11 8 (.rd 0 (.rd 1 (.rd 2 (.rd 3 (.rd 4 (.alt 5 (.alt 6 (.alt 7 .done .nil) .nil) .nil)))))) [8] (by kernel_rfl) (by kernel_rfl) rfl (fun _ _ _ _ _ h => h) ⟨box_at z_1_0 (Below.refl _ _).drew, box_at z_1_1 (Below.refl _ _).drew, box_at z_1_2 (Below.refl _ _).drew, box_at z_2_0 (Below.refl _ _).drew, box_at z_2_1 (Below.refl _ _).drew⟩ ?_
          simp only [pickV, pickN, List.getElem?_cons_zero, List.getElem?_cons_succ]
          repeat (refine' wpV_read _ (by kernel_rfl) (fun w' hS' => ?_) ?_; rotate_left; (focus ((try dsimp only at hS'); go_simp; (try with_reducible rfl))); (try simp only [Act.put, List.setIfInBounds_toArray, List.set_cons_zero, List.set_cons_succ]))
          have hdr : Below w6.heap.size w6 w6.drew := (Below.refl _ _).drew
          have hszd := hdr.size
          replace HX0 := Lib.hid (HX0.out.below hdr)
          replace HZ1 := Lib.hid (HZ1.out.below hdr)
          replace HZ2 := Lib.hid (HZ2.out.below hdr)
          replace HL3a := Lib.hid (HL3a.out.below hdr)
          replace HL3b := Lib.hid (HL3b.out.below hdr)
          replace HLx := Lib.hid (HLx.out.below hdr)
          replace HLy := Lib.hid (HLy.out.below hdr)
          replace HW := Lib.hid (HW.out.trans (Within.of_below hdr))
          replace HC := Lib.hid (HC.out.keep hdr)
          clear hdr
          refine wpV_do (by kernel_rfl) (fun K hK => ?_)
          -- 5: store
          have r0 := HX0.out.cell (i := 0) rfl
          have r1 := HX0.out.cell (i := 1) rfl
          have r2 := HX0.out.cell (i := 2) rfl
          have fr := fun j => HX0.out.frozen j
          have q0 : w6.cell? ⟨w.heap.size, 0, none⟩ = some (.int .i64 0) := r0
          have q1 : w6.cell? ⟨w.heap.size, 1, none⟩ = some (.int .i64 0) := r1
          have q2 : w6.cell? ⟨w.heap.size, 2, none⟩ = some (.int .i64 0) := r2
          have frd : ∀ j, w6.frozen? ⟨w.heap.size, j, none⟩ = false := fr
          obtain ⟨Y1, hY⟩ : ∃ Y, Y = (((w6.setCell ⟨w.heap.size, 0, none⟩ (.int .i64 P)).setCell ⟨w.heap.size, 1, none⟩ (.int .i64 Q)).setCell ⟨w.heap.size, 2, none⟩ (.int .i64 G)).drew := ⟨_, rfl⟩
          have hYG := hY
          replace hY : Y1 = ((w6.drew.setCell ⟨w.heap.size, 0, none⟩ (.int .i64 P)).setCell ⟨w.heap.size, 1, none⟩ (.int .i64 Q)).setCell ⟨w.heap.size, 2, none⟩ (.int .i64 G) := by rw [hY]; first | rfl | simp [go_sem]
          have hYl : Within (w.heap.size) (w.heap.size + 1) w6.drew Y1 := by rw [hY]; exact ((((Within.refl (w.heap.size) (w.heap.size + 1) w6.drew).setCell (b := w.heap.size) (by omega) (by omega) 0 (.int .i64 P)).setCell (b := w.heap.size) (by omega) (by omega) 1 (.int .i64 Q)).setCell (b := w.heap.size) (by omega) (by omega) 2 (.int .i64 G))
          have HYW : Hid (Within w.heap.size (w.heap.size + 1) w6.drew Y1) := hYl.mono (by omega) (by omega)
          have HYB : Hid (Below w.heap.size w Y1) := hYl.belowU (HW.out.belowOf HBW.out (by omega)) (by omega)
          have HCS : Hid (∀ w', Within w.heap.size (w.heap.size + 1) w6.drew w' → w'.cell? ⟨u1.heap.size, 0, none⟩ = some (.int .i64 P) ∧ w'.cell? ⟨u1.heap.size, 1, none⟩ = some (.int .i64 Q) ∧ w'.cell? ⟨u1.heap.size, 2, none⟩ = some (.int .i64 G) ∧ w'.cell? ⟨u3.heap.size, 0, none⟩ = some (.slice a3a n3a c3a) ∧ w'.cell? ⟨u3.heap.size, 1, none⟩ = some (.slice a3b n3b c3b)) := fun w' h => ⟨within_at h z_1_0 (by omega), within_at h z_1_1 (by omega), within_at h z_1_2 (by omega), within_at h z_2_0 (by omega), within_at h z_2_1 (by omega)⟩
          go_simp
          refine hK.out _ _ ?_ (fun _ => ?_)
          · rw [← hYG]; exact HCS.out _ HYW.out
          rw [← hYG]
          clear hK K fr r0 r1 r2
          replace HX0 : Hid (BoxN Y1 w.heap.size 24 [.int .i64 P, .int .i64 Q, .int .i64 G]) := by unfold Hid; rw [hY]; exact (((HX0.out.set 0 (.int .i64 P)).set 1 (.int .i64 Q)).set 2 (.int .i64 G))
          clear hYG frd q0 q1 q2
          clear hY hYl
          (try simp only [Act.put, List.setIfInBounds_toArray, List.set_cons_zero, List.set_cons_succ])
          clear z_1_0 z_1_1 z_1_2 z_2_0 z_2_1
          obtain ⟨z_1_0, z_1_1, z_1_2, z_2_0, z_2_1⟩ := HCS.out _ HYW.out
          refine wpV_do (by kernel_rfl) (fun K hK => ?_)
          -- 6: load
          go_simp
          refine hK.out _ _ ⟨z_1_0, z_1_1, z_1_2, z_2_0, z_2_1⟩ (fun _ => ?_)
          clear hK K
          (try simp only [Act.put, List.setIfInBounds_toArray, List.set_cons_zero, List.set_cons_succ])
          refine wpV_do (by kernel_rfl) (fun K hK => ?_)
          -- 7: load
          go_simp
          refine hK.out _ _ ⟨z_1_0, z_1_1, z_1_2, z_2_0, z_2_1⟩ (fun _ => ?_)
          clear hK K
          (try simp only [Act.put, List.setIfInBounds_toArray, List.set_cons_zero, List.set_cons_succ])
          refine wpV_done ?_
          go_wp2_with fail
          refine NoPanic.normal ?_
          clear z_1_0 z_1_1 z_1_2 z_2_0 z_2_1
          have t_HX0_0 := HX0.out.cell (i := 0) rfl
          have t_HX0_1 := HX0.out.cell (i := 1) rfl
          have t_HX0_2 := HX0.out.cell (i := 2) rfl
          try (go_wp2_with fail)
          refine bodyPost_ret (v := .tuple #[.agg #[.int .i64 P, .int .i64 Q, .int .i64 G], .slice a3a n3a c3a, .slice xa 0 xc, .slice ya 0 yc]) (by simp [results, Tryz.results66, go_sem, t_HX0_0, t_HX0_1, t_HX0_2]) rfl ⟨⟨_, _, _, _, _, _, _, _, _, rfl, HGR.out, ⟨(HL3a.out.within HYW.out (by omega)).mono (by omega), by have := HE3a.out; omega⟩, ⟨(HLx.out.within HYW.out (by omega)).mono (by omega), by have := HEx.out; omega⟩, ⟨(HLy.out.within HYW.out (by omega)).mono (by omega), by have := HEy.out; omega⟩⟩, HYB.out⟩
      · have hb0 : (jx == 0) = false := by rw [beq_eq_false_iff_ne]; omega
        have hn0 : ¬ jx = 0 := by omega
        have hb1 : (jx == 1) = false := by rw [beq_eq_false_iff_ne]; omega
        have hn1 : ¬ jx = 1 := by omega
        have hb2 : (jx == 2) = false := by rw [beq_eq_false_iff_ne]; omega
        have hn2 : ¬ jx = 2 := by omega
        go_upto_region 21 with fail
        have hgw : g < w6.heap.size := HC.out.lt
        replace HX0 := Lib.hid (HX0.out.kept HWz.out (.inl (by omega)))
        replace HZ1 := Lib.hid (HZ1.out.kept HWz.out (.inr (by omega)))
        replace HZ2 := Lib.hid (HZ2.out.kept HWz.out (.inr (by omega)))
        replace HL3a := Lib.hid (HL3a.out.within HWz.out (by omega))
        replace HL3b := Lib.hid (HL3b.out.within HWz.out (by omega))
        replace HW := Lib.hid (HW.out.trans HWz.out)
        replace HC := Lib.hid (HC.out.mono (n' := 10000000) (by omega))
        have HLx := Lib.hid (Since.of_ownI (B' := V4.heap.size) (HR.out.own 0 _ _ rfl) (Nat.le_refl _))
        have HLy := Lib.hid (Since.of_ownI (B' := V4.heap.size) (HR.out.own 1 _ _ rfl) (Nat.le_refl _))
        have HEx : Hid (lx.length ≤ 9) := by unfold Hid; (try simp only [List.length_append, List.length_set, List.length_cons, List.length_nil]); have := HXN.out; omega
        have HEy : Hid (ly.length ≤ 9) := by unfold Hid; (try simp only [List.length_append, List.length_set, List.length_cons, List.length_nil]); have := HYN.out; omega
        have z_0_0 := HX0.out.cell (i := 0) rfl
        have z_0_1 := HX0.out.cell (i := 1) rfl
        have z_0_2 := HX0.out.cell (i := 2) rfl
        have z_1_0 := HZ1.out.cell (i := 0) rfl
        have z_1_1 := HZ1.out.cell (i := 1) rfl
        have z_1_2 := HZ1.out.cell (i := 2) rfl
        have z_2_0 := HZ2.out.cell (i := 0) rfl
        have z_2_1 := HZ2.out.cell (i := 1) rfl
        have z_0_0 := HX0.out.cell (i := 0) rfl
        have z_0_1 := HX0.out.cell (i := 1) rfl
        have z_0_2 := HX0.out.cell (i := 2) rfl
        have z_1_0 := HZ1.out.cell (i := 0) rfl
        have z_1_1 := HZ1.out.cell (i := 1) rfl
        have z_1_2 := HZ1.out.cell (i := 2) rfl
        have z_2_0 := HZ2.out.cell (i := 0) rfl
        have z_2_1 := HZ2.out.cell (i := 1) rfl
        try (go_wp2_with fail)
        clear z_0_0
        clear z_0_1
        clear z_0_2
        refine wp_region_noPanic ?_
        refine wp_region_V (fun w' => w'.cell? ⟨u1.heap.size, 0, none⟩ = some (.int .i64 P) ∧ w'.cell? ⟨u1.heap.size, 1, none⟩ = some (.int .i64 Q) ∧ w'.cell? ⟨u1.heap.size, 2, none⟩ = some (.int .i64 G) ∧ w'.cell? ⟨u3.heap.size, 0, none⟩ = some (.slice a3a n3a c3a) ∧ w'.cell? ⟨u3.heap.size, 1, none⟩ = some (.slice a3b n3b c3b)) 11 8 (.rd 0 (.rd 1 (.rd 2 (.rd 3 (.rd 4 (.alt 5 (.alt 6 (.alt 7 .done .nil) .nil) .nil)))))) [8] (by kernel_rfl) (by kernel_rfl) rfl (fun _ _ _ _ _ h => h) ⟨box_at z_1_0 (Below.refl _ _).drew, box_at z_1_1 (Below.refl _ _).drew, box_at z_1_2 (Below.refl _ _).drew, box_at z_2_0 (Below.refl _ _).drew, box_at z_2_1 (Below.refl _ _).drew⟩ ?_
        simp only [pickV, pickN, List.getElem?_cons_zero, List.getElem?_cons_succ]
        repeat (refine' wpV_read _ (by kernel_rfl) (fun w' hS' => ?_) ?_; rotate_left; (focus ((try dsimp only at hS'); go_simp; (try with_reducible rfl))); (try simp only [Act.put, List.setIfInBounds_toArray, List.set_cons_zero, List.set_cons_succ]))
        have hdr : Below w6.heap.size w6 w6.drew := (Below.refl _ _).drew
        have hszd := hdr.size
        replace HX0 := Lib.hid (HX0.out.below hdr)
        replace HZ1 := Lib.hid (HZ1.out.below hdr)
        replace HZ2 := Lib.hid (HZ2.out.below hdr)
        replace HL3a := Lib.hid (HL3a.out.below hdr)
        replace HL3b := Lib.hid (HL3b.out.below hdr)
        replace HLx := Lib.hid (HLx.out.below hdr)
        replace HLy := Lib.hid (HLy.out.below hdr)
        replace HW := Lib.hid (HW.out.trans (Within.of_below hdr))
        replace HC := Lib.hid (HC.out.keep hdr)
        clear hdr
        refine wpV_do (by kernel_rfl) (fun K hK => ?_)
        -- 5: store
        have r0 := HX0.out.cell (i := 0) rfl
        have r1 := HX0.out.cell (i := 1) rfl
        have r2 := HX0.out.cell (i := 2) rfl
        have fr := fun j => HX0.out.frozen j
        have q0 : w6.cell? ⟨w.heap.size, 0, none⟩ = some (.int .i64 0) := r0
        have q1 : w6.cell? ⟨w.heap.size, 1, none⟩ = some (.int .i64 0) := r1
        have q2 : w6.cell? ⟨w.heap.size, 2, none⟩ = some (.int .i64 0) := r2
        have frd : ∀ j, w6.frozen? ⟨w.heap.size, j, none⟩ = false := fr
        obtain ⟨Y1, hY⟩ : ∃ Y, Y = (((w6.setCell ⟨w.heap.size, 0, none⟩ (.int .i64 P)).setCell ⟨w.heap.size, 1, none⟩ (.int .i64 Q)).setCell ⟨w.heap.size, 2, none⟩ (.int .i64 G)).drew := ⟨_, rfl⟩
        have hYG := hY
        replace hY : Y1 = ((w6.drew.setCell ⟨w.heap.size, 0, none⟩ (.int .i64 P)).setCell ⟨w.heap.size, 1, none⟩ (.int .i64 Q)).setCell ⟨w.heap.size, 2, none⟩ (.int .i64 G) := by rw [hY]; first | rfl | simp [go_sem]
        have hYl : Within (w.heap.size) (w.heap.size + 1) w6.drew Y1 := by rw [hY]; exact ((((Within.refl (w.heap.size) (w.heap.size + 1) w6.drew).setCell (b := w.heap.size) (by omega) (by omega) 0 (.int .i64 P)).setCell (b := w.heap.size) (by omega) (by omega) 1 (.int .i64 Q)).setCell (b := w.heap.size) (by omega) (by omega) 2 (.int .i64 G))
        have HYW : Hid (Within w.heap.size (w.heap.size + 1) w6.drew Y1) := hYl.mono (by omega) (by omega)
        have HYB : Hid (Below w.heap.size w Y1) := hYl.belowU (HW.out.belowOf HBW.out (by omega)) (by omega)
        have HCS : Hid (∀ w', Within w.heap.size (w.heap.size + 1) w6.drew w' → w'.cell? ⟨u1.heap.size, 0, none⟩ = some (.int .i64 P) ∧ w'.cell? ⟨u1.heap.size, 1, none⟩ = some (.int .i64 Q) ∧ w'.cell? ⟨u1.heap.size, 2, none⟩ = some (.int .i64 G) ∧ w'.cell? ⟨u3.heap.size, 0, none⟩ = some (.slice a3a n3a c3a) ∧ w'.cell? ⟨u3.heap.size, 1, none⟩ = some (.slice a3b n3b c3b)) := fun w' h => ⟨within_at h z_1_0 (by omega), within_at h z_1_1 (by omega), within_at h z_1_2 (by omega), within_at h z_2_0 (by omega), within_at h z_2_1 (by omega)⟩
        go_simp
        refine hK.out _ _ ?_ (fun _ => ?_)
        · rw [← hYG]; exact HCS.out _ HYW.out
        rw [← hYG]
        clear hK K fr r0 r1 r2
        replace HX0 : Hid (BoxN Y1 w.heap.size 24 [.int .i64 P, .int .i64 Q, .int .i64 G]) := by unfold Hid; rw [hY]; exact (((HX0.out.set 0 (.int .i64 P)).set 1 (.int .i64 Q)).set 2 (.int .i64 G))
        clear hYG frd q0 q1 q2
        clear hY hYl
        (try simp only [Act.put, List.setIfInBounds_toArray, List.set_cons_zero, List.set_cons_succ])
        clear z_1_0 z_1_1 z_1_2 z_2_0 z_2_1
        obtain ⟨z_1_0, z_1_1, z_1_2, z_2_0, z_2_1⟩ := HCS.out _ HYW.out
        refine wpV_do (by kernel_rfl) (fun K hK => ?_)
        -- 6: load
        go_simp
        refine hK.out _ _ ⟨z_1_0, z_1_1, z_1_2, z_2_0, z_2_1⟩ (fun _ => ?_)
        clear hK K
        (try simp only [Act.put, List.setIfInBounds_toArray, List.set_cons_zero, List.set_cons_succ])
        refine wpV_do (by kernel_rfl) (fun K hK => ?_)
        -- 7: load
        go_simp
        refine hK.out _ _ ⟨z_1_0, z_1_1, z_1_2, z_2_0, z_2_1⟩ (fun _ => ?_)
        clear hK K
        (try simp only [Act.put, List.setIfInBounds_toArray, List.set_cons_zero, List.set_cons_succ])
        refine wpV_done ?_
        go_wp2_with fail
        refine NoPanic.normal ?_
        clear z_1_0 z_1_1 z_1_2 z_2_0 z_2_1
        have t_HX0_0 := HX0.out.cell (i := 0) rfl
        have t_HX0_1 := HX0.out.cell (i := 1) rfl
        have t_HX0_2 := HX0.out.cell (i := 2) rfl
        try (go_wp2_with fail)
        refine bodyPost_ret (v := .tuple #[.agg #[.int .i64 P, .int .i64 Q, .int .i64 G], .slice a3a n3a c3a, .slice xa xn xc, .slice ya xn yc]) (by simp [results, Tryz.results66, go_sem, t_HX0_0, t_HX0_1, t_HX0_2]) rfl ⟨⟨_, _, _, _, _, _, _, _, _, rfl, HGR.out, ⟨(HL3a.out.within HYW.out (by omega)).mono (by omega), by have := HE3a.out; omega⟩, ⟨(HLx.out.within HYW.out (by omega)).mono (by omega), by have := HEx.out; omega⟩, ⟨(HLy.out.within HYW.out (by omega)).mono (by omega), by have := HEy.out; omega⟩⟩, HYB.out⟩
end Go.Proofs.YtacpnphfopmofaaGreat
