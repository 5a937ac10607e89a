/- Recovering of shares: the reference's walks (printed by gen_rs1.py). -/
import Derived.Test.YtacpnphfopmofaaGreatRf6S
namespace Go.Proofs.YtacpnphfopmofaaGreat
open Go.RowKit
set_option linter.unusedSimpArgs false
set_option linter.unusedVariables false
set_option maxRecDepth 100000 in
set_option maxHeartbeats 8000000 in
theorem spec_rValue (gr : GroupD) (cv : Value) (cs : List Int) (iv : Value) (ix : List Int) (sv : Value) (ss : List Int) (x0 : Int) (w : World) (hcs : Ints w cv cs) (hix : Ints w iv ix) (hss : Ints w sv ss) (hG : shG gr = true) (hcm : cmsB gr cs = true) (htr : trL ix = true) (hl : ss.length = ix.length) (hel : ss.all (expB gr) = true) (hx : 0 ≤ x0 ∧ x0 ≤ 1000) :
    Calls Tryz.prog 70 #[.agg #[.int .i64 gr.p, .int .i64 gr.q, .int .i64 gr.g], cv, .int .i64 x0, iv, sv] w fun e w' => e = .returned (.tuple #[.int .i64 (vaR gr cs ix ss x0), .bool (vaB gr cs ix ss)]) ∧ Below w.heap.size w w' := by
  obtain ⟨cva, cvn, cvc, rfl⟩ := hcs.shape
  have Ecv := Lib.hid hcs.len
  have Kcv := Lib.hid hcs.capMax
  have Hcv := Lib.hid hcs
  clear hcs
  obtain ⟨iva, ivn, ivc, rfl⟩ := hix.shape
  have Eiv := Lib.hid hix.len
  have Kiv := Lib.hid hix.capMax
  have Hiv := Lib.hid hix
  clear hix
  obtain ⟨sva, svn, svc, rfl⟩ := hss.shape
  have Esv := Lib.hid hss.len
  have Ksv := Lib.hid hss.capMax
  have Hsv := Lib.hid hss
  clear hss
  obtain ⟨hpr, hq2, hq7⟩ := shG_prm hG
  have HPR := Lib.hid hpr
  have HQ7 := Lib.hid hq7
  have HG := Lib.hid (shG_ok hG)
  have HEL := Lib.hid (cmsB_small (shG_ok hG) hcm)
  have HCN : Hid (cs.length ≤ 1000) := cmsB_le hcm
  have HTR := Lib.hid (trL_parts htr)
  have HI7 := Lib.hid (tr_len htr)
  have HPF := Lib.hid (pk_f (cs := cs) hq7 htr hl hel)
  have HSL := Lib.hid hl
  have hq0 : 0 < gr.q := by omega
  clear hG hcm htr hl hel
  obtain ⟨W, hW⟩ : ∃ W, W = w.alloc (.cells #[.int .i64 gr.p, .int .i64 gr.q, .int .i64 gr.g] 24) := ⟨_, rfl⟩
  have HBW : Hid (Below w.heap.size w W) := by unfold Hid; rw [hW]; (repeat (first | exact Below.refl _ _ | assumption | refine Below.drew ?_ | refine Below.alloc ?_ (by first | (simp; done) | (simp; omega)) _ | refine Below.setCell ?_ (by first | (simp; done) | (simp; omega)) _))
  have HGX : Hid (BoxN W w.heap.size 24 [.int .i64 gr.p, .int .i64 gr.q, .int .i64 gr.g]) := by unfold Hid; rw [hW]; exact BoxN.new w _ _
  have C0 := Lib.hid (HGX.out.cell (i := 0) rfl)
  have C1 := Lib.hid (HGX.out.cell (i := 1) rfl)
  have C2 := Lib.hid (HGX.out.cell (i := 2) rfl)
  have HWZ : Hid (W.heap.size = w.heap.size + 1) := by unfold Hid; rw [hW]; simp
  have HR0 : Hid (RowsI W W.heap.size [(.slice none 0 0, []), (.slice none 0 0, [])]) := RowsI.mk2 (OwnI.nil _ _) (OwnI.nil _ _) (fun k h => by cases h)
  have HB0 : Hid (Below W.heap.size W W) := Below.refl _ _
  go_enter Tryz.func70, Tryz.ntmps70
  go_wp2_with fail
  rw [← hW]
  clear hW
  go_loopg [12, 13, 18] ivn (fun gk xv yv jv wr => ∃ (k : Nat) (xv' yv' : Value) (lx ly : List Int), k + gk = ivn ∧ jv = .int .i64 (k : Int) ∧ Hid (pk gr cs ix ss k = (lx, ly) ∧ xv = xv' ∧ yv = yv') ∧ Hid (RowsI wr W.heap.size [(xv', lx), (yv', ly)]) ∧ Hid (Below W.heap.size W wr))
  case atStart => exact ⟨0, _, _, [], [], by omega, rfl, Lib.hid ⟨rfl, rfl, rfl⟩, HR0, HB0⟩
  case round =>
    obtain ⟨k, xv', yv', lx, ly, hkg, rfl, HPK, HR, HB⟩ := hrel
    obtain ⟨HPE, rfl, rfl⟩ := HPK.out
    have HPE := Lib.hid HPE
    clear HPK
    have HOX := Lib.hid (HR.out.own 0 _ _ rfl)
    have HOY := Lib.hid (HR.out.own 1 _ _ rfl)
    obtain ⟨xa, xc, rfl⟩ := HOX.out.shape
    obtain ⟨ya, yc, rfl⟩ := HOY.out.shape
    have HPS : Hid (k ≤ ix.length → lx.length = ly.length ∧ lx.length ≤ k) := fun hk => by have h := pk_s gr cs ix ss HSL.out k hk; rw [HPE.out] at h; exact ⟨h.len, h.le⟩
    have hps := HPS.out (by have := Eiv.out; omega)
    obtain ⟨xn, hxn⟩ : ∃ z, lx.length = z := ⟨_, rfl⟩
    have hyn : ly.length = xn := by omega
    rw [hxn, hyn] at HR
    rw [hxn] at HOX
    rw [hyn] at HOY
    rw [hxn, hyn]
    have HXN := Lib.hid hxn
    have HYN := Lib.hid hyn
    have hxk : xn ≤ k := by omega
    have hi7 : ivn ≤ 7 := by have := HI7.out; have := Eiv.out; omega
    clear hxn hyn hps
    by_cases hlt : k < ivn
    · have hgk : ivn - (k + 1) < gk := by omega
      obtain ⟨b, o, hia, hcx⟩ := Hiv.out.at_ (by omega)
      have x1 := box_at (box_at (hcx k hlt) HBW.out) HB.out
      subst hia
      clear hcx
      obtain ⟨sb, so, hsa, hcy⟩ := Hsv.out.at_ (by have := Esv.out; have := HSL.out; have := Eiv.out; omega)
      have y1W := box_at (hcy k (by have := Esv.out; have := HSL.out; have := Eiv.out; omega)) HBW.out
      subst hsa
      clear hcy
      have hsn : (k : Int) < (svn : Int) := by have := Esv.out; have := HSL.out; have := Eiv.out; omega
      have hxb : 0 ≤ nth ix k ∧ nth ix k ≤ 1000 := by
        have := HTR.out.1 (nth ix k) (by rw [nthE (by rw [Eiv.out]; exact hlt)]; exact List.getElem_mem _)
        omega
      have HYI : Hid (I64 (nth ss k)) := nth_64 Hsv.out k
      have HPY : Hid (lx.length < cs.length → shrB gr cs (nth ix k) (nth ss k) = true → pk gr cs ix ss (k + 1) = (lx ++ [nth ix k], ly ++ [nth ss k])) := fun h1 h2 => pk_yes HPE.out h1 h2
      have HP1 : Hid (¬ lx.length < cs.length → pk gr cs ix ss (k + 1) = (lx, ly)) := fun h => pk_no1 HPE.out h
      have HP2 : Hid (shrB gr cs (nth ix k) (nth ss k) = false → pk gr cs ix ss (k + 1) = (lx, ly)) := fun h => pk_no2 HPE.out h
      obtain ⟨x, hx⟩ : ∃ z, nth ix k = z := ⟨_, rfl⟩
      obtain ⟨y, hy⟩ : ∃ z, nth ss k = z := ⟨_, rfl⟩
      rw [hx] at x1 hxb HPY HP2
      rw [hy] at y1W HYI HPY HP2
      clear hx hy
      have HXB := Lib.hid hxb
      have HXI : Hid (I64 x) := ⟨by omega, by omega⟩
      have b0 : (0 : Int) ≤ (k : Int) := by omega
      have bk1 : (k : Int) < (ivn : Int) := by omega
      have hwk : IntKind.i64.wrap ((k : Int) + 1) = (k : Int) + 1 := IntWalk.i64_in _ (by omega)
      have Hcvr : Hid (Ints wr (.slice cva cvn cvc) cs) := (Hcv.out.below HBW.out).below HB.out
      have c0 := box_at C0.out HB.out
      have c1 := box_at C1.out HB.out
      have c2 := box_at C2.out HB.out
      have y1 := box_at y1W HB.out
      go_wp2_with fail
      clear x1
      have hc : Below wr.heap.size wr wr := Below.refl _ _
      by_cases hcc : xn < cvn
      · have q1 : decide ((xn : Int) < (cvn : Int)) = true := decide_eq_true (by omega)
        have q1n : decide (xn < cvn) = true := decide_eq_true hcc
        have HCC : Hid (lx.length < cs.length) := by have := HXN.out; have := Ecv.out; unfold Hid; omega
        clear hcc
        obtain ⟨qs, hqs⟩ : ∃ z, shrB gr cs x y = z := ⟨_, rfl⟩
        have HQ := Lib.hid hqs
        clear hqs
        cases qs with
        | true =>
          have HNX : Hid (pk gr cs ix ss (k + 1) = (lx ++ [x], ly ++ [y])) := HPY.out HCC.out HQ.out
          try (go_wp2_with fail)
          refine wp_region_noPanic ?_
          refine wp_region_P (fun w' => w'.cell? ⟨w.heap.size, 0, none⟩ = some (.int .i64 gr.p) ∧ w'.cell? ⟨w.heap.size, 1, none⟩ = some (.int .i64 gr.q) ∧ w'.cell? ⟨w.heap.size, 2, none⟩ = some (.int .i64 gr.g) ∧ w'.cell? ⟨sb, so + k, none⟩ = some (.int .i64 y)) 17 [(0, []), (1, [0]), (2, []), (3, [0]), (4, [2, 0]), (5, [0]), (6, [0]), (7, [1]), (8, [2]), (9, [3]), (10, [4]), (11, [1, 0, 5]), (12, [0, 6]), (13, [6, 5, 4, 0, 7]), (14, [8, 0])] [] (by kernel_rfl) (by kernel_rfl) (by kernel_rfl) rfl (fun _ _ _ _ h => h) (fun w' h => ⟨box_at c0 h, box_at c1 h, box_at c2 h, box_at y1 h⟩) ?_
          simp only [pickP, pickN, List.getElem?_cons_zero, List.getElem?_cons_succ]
          iterate 6 (refine' chainP_read _ rfl rfl (fun w' hS' => ?_) ?_; rotate_left; · (simp only [lookP, allP, Act.put, List.getElem?_cons_zero, List.getElem?_cons_succ, List.setIfInBounds_toArray, List.set_cons_zero, List.set_cons_succ]; (try dsimp only at hS'); go_simp; (try with_reducible rfl)))
          -- 6: load 24 t5
          refine' chainP_readG (d := (some 29)) _ rfl (fun w' hS' => ?_) ?_; rotate_left
          · simp only [lookP, allP, Act.put, List.getElem?_cons_zero, List.getElem?_cons_succ, List.setIfInBounds_toArray, List.set_cons_zero, List.set_cons_succ]
            refine ⟨by kernel_rfl, ?_⟩
            (try dsimp only at hS')
            go_simp
            (try with_reducible rfl)
          -- 7: move t1
          refine' chainP_readG (d := (some 30)) _ rfl (fun w' hS' => ?_) ?_; rotate_left
          · simp only [lookP, allP, Act.put, List.getElem?_cons_zero, List.getElem?_cons_succ, List.setIfInBounds_toArray, List.set_cons_zero, List.set_cons_succ]
            refine ⟨by kernel_rfl, ?_⟩
            (try dsimp only at hS')
            go_simp
            (try with_reducible rfl)
          -- 8: move t15
          refine' chainP_readG (d := (some 31)) _ rfl (fun w' hS' => ?_) ?_; rotate_left
          · simp only [lookP, allP, Act.put, List.getElem?_cons_zero, List.getElem?_cons_succ, List.setIfInBounds_toArray, List.set_cons_zero, List.set_cons_succ]
            refine ⟨by kernel_rfl, ?_⟩
            (try dsimp only at hS')
            go_simp
            (try with_reducible rfl)
          -- 9: move t4
          refine' chainP_readG (d := (some 32)) _ rfl (fun w' hS' => ?_) ?_; rotate_left
          · simp only [lookP, allP, Act.put, List.getElem?_cons_zero, List.getElem?_cons_succ, List.setIfInBounds_toArray, List.set_cons_zero, List.set_cons_succ]
            refine ⟨by kernel_rfl, ?_⟩
            (try dsimp only at hS')
            go_simp
            (try with_reducible rfl)
          -- 10: move t14
          refine' chainP_readG (d := (some 33)) _ rfl (fun w' hS' => ?_) ?_; rotate_left
          · simp only [lookP, allP, Act.put, List.getElem?_cons_zero, List.getElem?_cons_succ, List.setIfInBounds_toArray, List.set_cons_zero, List.set_cons_succ]
            refine ⟨by kernel_rfl, ?_⟩
            (try dsimp only at hS')
            go_simp
            (try with_reducible rfl)
          -- 11: indexAddr 25 t32 t33
          refine' chainP_readG (d := (some 34)) _ rfl (fun w' hS' => ?_) ?_; rotate_left
          · simp only [lookP, allP, Act.put, List.getElem?_cons_zero, List.getElem?_cons_succ, List.setIfInBounds_toArray, List.set_cons_zero, List.set_cons_succ]
            refine ⟨by kernel_rfl, ?_⟩
            (try dsimp only at hS')
            go_simp
            (try with_reducible rfl)
          -- 12: load 3 t34
          refine' chainP_readG (d := (some 35)) _ rfl (fun w' hS' => ?_) ?_; rotate_left
          · simp only [lookP, allP, Act.put, List.getElem?_cons_zero, List.getElem?_cons_succ, List.setIfInBounds_toArray, List.set_cons_zero, List.set_cons_succ]
            refine ⟨by kernel_rfl, ?_⟩
            (try dsimp only at hS')
            go_simp
            (try with_reducible rfl)
          -- 13: call { callee := value (func 103), args := #[t29, t30, t31, t35], argTypes := #[24, 25, 3, 3] }
          refine chainP_callG (d := (some 36)) (.bool true) rfl (fun w' hS' => ?_) ?_
          · simp only [lookP, allP, Act.put, List.getElem?_cons_zero, List.getElem?_cons_succ, List.setIfInBounds_toArray, List.set_cons_zero, List.set_cons_succ]
            refine ⟨by kernel_rfl, ?_⟩
            intro K hK
            go_simp
            go_at_call 103
            refine (spec_sFits gr _ cs x y _ HG.out (Hcvr.out.below hS'.1) HEL.out HCN.out HXB.out HYI.out).mono ?_
            rintro e u ⟨rfl, hq⟩
            rw [HQ.out]
            exact hK.out _ hq
          -- 14: pick t28 t36 (const (bool false))
          refine' chainP_read (d := (some 37)) _ rfl rfl (fun w' hS' => ?_) ?_; rotate_left
          · simp only [lookP, allP, Act.put, List.getElem?_cons_zero, List.getElem?_cons_succ, List.setIfInBounds_toArray, List.set_cons_zero, List.set_cons_succ]
            (try dsimp only at hS')
            go_simp
            (try with_reducible rfl)
          refine chainP_nil (fun ua hS' => ?_)
          simp only [allP, Act.put, List.setIfInBounds_toArray, List.set_cons_zero, List.set_cons_succ]
          have hq1 := hS'.1
          clear hS'
          replace hc := Below.next hc hq1
          replace c0 := box_at c0 hq1
          replace c1 := box_at c1 hq1
          replace c2 := box_at c2 hq1
          replace y1 := box_at y1 hq1
          clear hq1
          have HR5 := Lib.hid (HR.out.below hc)
          have HB5 := Lib.hid (Below.next HB.out hc)
          have hsb : sb < W.heap.size := World.block_lt_of_cell? _ _ y1W
          have HYW := Lib.hid y1W
          have HSZ : Hid (W.heap.size ≤ ua.heap.size) := HB5.out.size
          clear hc c0 c1 c2 y1 y1W
          try (go_wp2_with fail)
          try (refine NoPanic.normal ?_)
          go_wp2_with (first | (at_builtin; refine RowsI.list_appN rfl _ _ rfl (HR5.out.below ((Below.refl _ _).alloc (Nat.le_refl _) _)) (by have := HSZ.out; simp; omega) 0 rfl (Ints.lit1 _ HXI.out) (by simp) (xn + 1) (by have := HXN.out; simp only [List.length_cons, List.length_nil]; omega) (by omega) rfl rfl ?_; intro a3 c3 w3 h3 _ hb3; have HR6 := Lib.hid h3; have HB6 : Hid (Below W.heap.size W w3) := (HB5.out.trans ((Below.refl _ _).alloc HSZ.out _)).trans hb3; have y1 := Below.cell' HB6.out hsb HYW.out; have HSY : Hid (W.heap.size ≤ w3.heap.size) := HB6.out.size; clear h3 hb3) | (at_builtin; refine RowsI.list_appN rfl _ _ rfl (HR6.out.below ((Below.refl _ _).alloc (Nat.le_refl _) _)) (by have := HSY.out; simp; omega) 1 rfl (Ints.lit1 _ HYI.out) (by simp) (xn + 1) (by have := HYN.out; simp only [List.length_cons, List.length_nil]; omega) (by omega) rfl rfl ?_; intro a4 c4 w4 h4 _ hb4; have HR9 := Lib.hid h4; have HB9 : Hid (Below W.heap.size W w4) := (HB6.out.trans ((Below.refl _ _).alloc HSY.out _)).trans hb4; clear h4 hb4) | fail)
          clear y1
          try (go_wp2_with fail)
          go_roundg (ivn - (k + 1))
          case measure => exact hgk
          case rel => exact ⟨k + 1, _, _, lx ++ [x], ly ++ [y], by omega, by go_num, Lib.hid ⟨HNX.out, rfl, rfl⟩, HR9, HB9⟩
        | false =>
          have HNX : Hid (pk gr cs ix ss (k + 1) = (lx, ly)) := HP2.out HQ.out
          try (go_wp2_with fail)
          refine wp_region_noPanic ?_
          refine wp_region_P (fun w' => w'.cell? ⟨w.heap.size, 0, none⟩ = some (.int .i64 gr.p) ∧ w'.cell? ⟨w.heap.size, 1, none⟩ = some (.int .i64 gr.q) ∧ w'.cell? ⟨w.heap.size, 2, none⟩ = some (.int .i64 gr.g) ∧ w'.cell? ⟨sb, so + k, none⟩ = some (.int .i64 y)) 17 [(0, []), (1, [0]), (2, []), (3, [0]), (4, [2, 0]), (5, [0]), (6, [0]), (7, [1]), (8, [2]), (9, [3]), (10, [4]), (11, [1, 0, 5]), (12, [0, 6]), (13, [6, 5, 4, 0, 7]), (14, [8, 0])] [] (by kernel_rfl) (by kernel_rfl) (by kernel_rfl) rfl (fun _ _ _ _ h => h) (fun w' h => ⟨box_at c0 h, box_at c1 h, box_at c2 h, box_at y1 h⟩) ?_
          simp only [pickP, pickN, List.getElem?_cons_zero, List.getElem?_cons_succ]
          iterate 6 (refine' chainP_read _ rfl rfl (fun w' hS' => ?_) ?_; rotate_left; · (simp only [lookP, allP, Act.put, List.getElem?_cons_zero, List.getElem?_cons_succ, List.setIfInBounds_toArray, List.set_cons_zero, List.set_cons_succ]; (try dsimp only at hS'); go_simp; (try with_reducible rfl)))
          -- 6: load 24 t5
          refine' chainP_readG (d := (some 29)) _ rfl (fun w' hS' => ?_) ?_; rotate_left
          · simp only [lookP, allP, Act.put, List.getElem?_cons_zero, List.getElem?_cons_succ, List.setIfInBounds_toArray, List.set_cons_zero, List.set_cons_succ]
            refine ⟨by kernel_rfl, ?_⟩
            (try dsimp only at hS')
            go_simp
            (try with_reducible rfl)
          -- 7: move t1
          refine' chainP_readG (d := (some 30)) _ rfl (fun w' hS' => ?_) ?_; rotate_left
          · simp only [lookP, allP, Act.put, List.getElem?_cons_zero, List.getElem?_cons_succ, List.setIfInBounds_toArray, List.set_cons_zero, List.set_cons_succ]
            refine ⟨by kernel_rfl, ?_⟩
            (try dsimp only at hS')
            go_simp
            (try with_reducible rfl)
          -- 8: move t15
          refine' chainP_readG (d := (some 31)) _ rfl (fun w' hS' => ?_) ?_; rotate_left
          · simp only [lookP, allP, Act.put, List.getElem?_cons_zero, List.getElem?_cons_succ, List.setIfInBounds_toArray, List.set_cons_zero, List.set_cons_succ]
            refine ⟨by kernel_rfl, ?_⟩
            (try dsimp only at hS')
            go_simp
            (try with_reducible rfl)
          -- 9: move t4
          refine' chainP_readG (d := (some 32)) _ rfl (fun w' hS' => ?_) ?_; rotate_left
          · simp only [lookP, allP, Act.put, List.getElem?_cons_zero, List.getElem?_cons_succ, List.setIfInBounds_toArray, List.set_cons_zero, List.set_cons_succ]
            refine ⟨by kernel_rfl, ?_⟩
            (try dsimp only at hS')
            go_simp
            (try with_reducible rfl)
          -- 10: move t14
          refine' chainP_readG (d := (some 33)) _ rfl (fun w' hS' => ?_) ?_; rotate_left
          · simp only [lookP, allP, Act.put, List.getElem?_cons_zero, List.getElem?_cons_succ, List.setIfInBounds_toArray, List.set_cons_zero, List.set_cons_succ]
            refine ⟨by kernel_rfl, ?_⟩
            (try dsimp only at hS')
            go_simp
            (try with_reducible rfl)
          -- 11: indexAddr 25 t32 t33
          refine' chainP_readG (d := (some 34)) _ rfl (fun w' hS' => ?_) ?_; rotate_left
          · simp only [lookP, allP, Act.put, List.getElem?_cons_zero, List.getElem?_cons_succ, List.setIfInBounds_toArray, List.set_cons_zero, List.set_cons_succ]
            refine ⟨by kernel_rfl, ?_⟩
            (try dsimp only at hS')
            go_simp
            (try with_reducible rfl)
          -- 12: load 3 t34
          refine' chainP_readG (d := (some 35)) _ rfl (fun w' hS' => ?_) ?_; rotate_left
          · simp only [lookP, allP, Act.put, List.getElem?_cons_zero, List.getElem?_cons_succ, List.setIfInBounds_toArray, List.set_cons_zero, List.set_cons_succ]
            refine ⟨by kernel_rfl, ?_⟩
            (try dsimp only at hS')
            go_simp
            (try with_reducible rfl)
          -- 13: call { callee := value (func 103), args := #[t29, t30, t31, t35], argTypes := #[24, 25, 3, 3] }
          refine chainP_callG (d := (some 36)) (.bool false) rfl (fun w' hS' => ?_) ?_
          · simp only [lookP, allP, Act.put, List.getElem?_cons_zero, List.getElem?_cons_succ, List.setIfInBounds_toArray, List.set_cons_zero, List.set_cons_succ]
            refine ⟨by kernel_rfl, ?_⟩
            intro K hK
            go_simp
            go_at_call 103
            refine (spec_sFits gr _ cs x y _ HG.out (Hcvr.out.below hS'.1) HEL.out HCN.out HXB.out HYI.out).mono ?_
            rintro e u ⟨rfl, hq⟩
            rw [HQ.out]
            exact hK.out _ hq
          -- 14: pick t28 t36 (const (bool false))
          refine' chainP_read (d := (some 37)) _ rfl rfl (fun w' hS' => ?_) ?_; rotate_left
          · simp only [lookP, allP, Act.put, List.getElem?_cons_zero, List.getElem?_cons_succ, List.setIfInBounds_toArray, List.set_cons_zero, List.set_cons_succ]
            (try dsimp only at hS')
            go_simp
            (try with_reducible rfl)
          refine chainP_nil (fun ua hS' => ?_)
          simp only [allP, Act.put, List.setIfInBounds_toArray, List.set_cons_zero, List.set_cons_succ]
          have hq1 := hS'.1
          clear hS'
          replace hc := Below.next hc hq1
          replace c0 := box_at c0 hq1
          replace c1 := box_at c1 hq1
          replace c2 := box_at c2 hq1
          replace y1 := box_at y1 hq1
          clear hq1
          clear c0 c1 c2 y1
          have HR2 := Lib.hid (HR.out.below hc)
          have HB2 := Lib.hid (Below.next HB.out hc)
          clear hc
          try (go_wp2_with fail)
          try (refine NoPanic.normal ?_)
          go_wp2_with fail
          go_roundg (ivn - (k + 1))
          case measure => exact hgk
          case rel => exact ⟨k + 1, _, _, lx, ly, by omega, by go_num, Lib.hid ⟨HNX.out, rfl, rfl⟩, HR2, HB2⟩
      · have q1 : decide ((xn : Int) < (cvn : Int)) = false := decide_eq_false (by omega)
        have q1n : decide (xn < cvn) = false := decide_eq_false hcc
        have HNX : Hid (pk gr cs ix ss (k + 1) = (lx, ly)) := HP1.out (by have := HXN.out; have := Ecv.out; omega)
        clear hcc
        try (go_wp2_with fail)
        refine wp_region_noPanic ?_
        refine wp_region_P (fun w' => w'.cell? ⟨w.heap.size, 0, none⟩ = some (.int .i64 gr.p) ∧ w'.cell? ⟨w.heap.size, 1, none⟩ = some (.int .i64 gr.q) ∧ w'.cell? ⟨w.heap.size, 2, none⟩ = some (.int .i64 gr.g) ∧ w'.cell? ⟨sb, so + k, none⟩ = some (.int .i64 y)) 17 [(0, []), (1, [0]), (2, []), (3, [0]), (4, [2, 0]), (5, [0]), (6, [0]), (7, [1]), (8, [2]), (9, [3]), (10, [4]), (11, [1, 0, 5]), (12, [0, 6]), (13, [6, 5, 4, 0, 7]), (14, [8, 0])] [] (by kernel_rfl) (by kernel_rfl) (by kernel_rfl) rfl (fun _ _ _ _ h => h) (fun w' h => ⟨box_at c0 h, box_at c1 h, box_at c2 h, box_at y1 h⟩) ?_
        simp only [pickP, pickN, List.getElem?_cons_zero, List.getElem?_cons_succ]
        iterate 6 (refine' chainP_read _ rfl rfl (fun w' hS' => ?_) ?_; rotate_left; · (simp only [lookP, allP, Act.put, List.getElem?_cons_zero, List.getElem?_cons_succ, List.setIfInBounds_toArray, List.set_cons_zero, List.set_cons_succ]; (try dsimp only at hS'); go_simp; (try with_reducible rfl)))
        -- 6: load 24 t5
        refine chainP_skip (d := (some 29)) rfl (fun w' hS' => ?_) ?_
        · simp only [lookP, allP, Act.put, List.getElem?_cons_zero, List.getElem?_cons_succ, List.setIfInBounds_toArray, List.set_cons_zero, List.set_cons_succ]
          kernel_rfl
        -- 7: move t1
        refine chainP_skip (d := (some 30)) rfl (fun w' hS' => ?_) ?_
        · simp only [lookP, allP, Act.put, List.getElem?_cons_zero, List.getElem?_cons_succ, List.setIfInBounds_toArray, List.set_cons_zero, List.set_cons_succ]
          kernel_rfl
        -- 8: move t15
        refine chainP_skip (d := (some 31)) rfl (fun w' hS' => ?_) ?_
        · simp only [lookP, allP, Act.put, List.getElem?_cons_zero, List.getElem?_cons_succ, List.setIfInBounds_toArray, List.set_cons_zero, List.set_cons_succ]
          kernel_rfl
        -- 9: move t4
        refine chainP_skip (d := (some 32)) rfl (fun w' hS' => ?_) ?_
        · simp only [lookP, allP, Act.put, List.getElem?_cons_zero, List.getElem?_cons_succ, List.setIfInBounds_toArray, List.set_cons_zero, List.set_cons_succ]
          kernel_rfl
        -- 10: move t14
        refine chainP_skip (d := (some 33)) rfl (fun w' hS' => ?_) ?_
        · simp only [lookP, allP, Act.put, List.getElem?_cons_zero, List.getElem?_cons_succ, List.setIfInBounds_toArray, List.set_cons_zero, List.set_cons_succ]
          kernel_rfl
        -- 11: indexAddr 25 t32 t33
        refine chainP_skip (d := (some 34)) rfl (fun w' hS' => ?_) ?_
        · simp only [lookP, allP, Act.put, List.getElem?_cons_zero, List.getElem?_cons_succ, List.setIfInBounds_toArray, List.set_cons_zero, List.set_cons_succ]
          kernel_rfl
        -- 12: load 3 t34
        refine chainP_skip (d := (some 35)) rfl (fun w' hS' => ?_) ?_
        · simp only [lookP, allP, Act.put, List.getElem?_cons_zero, List.getElem?_cons_succ, List.setIfInBounds_toArray, List.set_cons_zero, List.set_cons_succ]
          kernel_rfl
        -- 13: call { callee := value (func 103), args := #[t29, t30, t31, t35], argTypes := #[24, 25, 3, 3] }
        refine chainP_skip (d := (some 36)) rfl (fun w' hS' => ?_) ?_
        · simp only [lookP, allP, Act.put, List.getElem?_cons_zero, List.getElem?_cons_succ, List.setIfInBounds_toArray, List.set_cons_zero, List.set_cons_succ]
          kernel_rfl
        -- 14: pick t28 t36 (const (bool false))
        refine' chainP_read (d := (some 37)) _ rfl rfl (fun w' hS' => ?_) ?_; rotate_left
        · simp only [lookP, allP, Act.put, List.getElem?_cons_zero, List.getElem?_cons_succ, List.setIfInBounds_toArray, List.set_cons_zero, List.set_cons_succ]
          (try dsimp only at hS')
          go_simp
          (try with_reducible rfl)
        refine chainP_nil (fun ua hS' => ?_)
        simp only [allP, Act.put, List.setIfInBounds_toArray, List.set_cons_zero, List.set_cons_succ]
        have hq1 := hS'.1
        clear hS'
        replace hc := Below.next hc hq1
        replace c0 := box_at c0 hq1
        replace c1 := box_at c1 hq1
        replace c2 := box_at c2 hq1
        replace y1 := box_at y1 hq1
        clear hq1
        clear c0 c1 c2 y1
        have HR2 := Lib.hid (HR.out.below hc)
        have HB2 := Lib.hid (Below.next HB.out hc)
        clear hc
        try (go_wp2_with fail)
        try (refine NoPanic.normal ?_)
        go_wp2_with fail
        go_roundg (ivn - (k + 1))
        case measure => exact hgk
        case rel => exact ⟨k + 1, _, _, lx, ly, by omega, by go_num, Lib.hid ⟨HNX.out, rfl, rfl⟩, HR2, HB2⟩
    · obtain rfl : ivn = k := by omega
      have HPX : Hid (pkX gr cs ix ss = lx) := by unfold Hid pkX; rw [Eiv.out, HPE.out]
      have HPYL : Hid (pkY gr cs ix ss = ly) := by unfold Hid pkY; rw [Eiv.out, HPE.out]
      rw [HPX.out, HPYL.out] at HPF
      have HIX : Hid (Ints wr (.slice xa xn xc) lx) := HOX.out.ints
      have HIY : Hid (Ints wr (.slice ya xn yc) ly) := HOY.out.ints
      have HBZ := Lib.hid (HBW.out.trans (HB.out.mono HBW.out.size))
      by_cases hcc : xn < cvn
      · have q1 : decide ((xn : Int) < (cvn : Int)) = true := decide_eq_true (by omega)
        have q1n : decide (xn < cvn) = true := decide_eq_true hcc
        have HVF : Hid (vaB gr cs ix ss = false) := by unfold Hid vaB; rw [HPX.out, HXN.out, decide_eq_true (by have := Ecv.out; omega)]; rfl
        clear hcc
        go_wp2_with fail
        go_ret2
        exact ⟨by unfold vaR; rw [HVF.out]; rfl, HBZ.out⟩
      · have q1 : decide ((xn : Int) < (cvn : Int)) = false := decide_eq_false (by omega)
        have q1n : decide (xn < cvn) = false := decide_eq_false hcc
        have HVT : Hid (vaB gr cs ix ss = true) := by unfold Hid vaB; rw [HPX.out, HXN.out, decide_eq_false (by have := Ecv.out; omega)]; rfl
        have HVV : Hid (vaV gr cs ix ss x0 = dotM gr.q (lagL gr.q lx x0) ly (lagL gr.q lx x0).length) := by unfold Hid vaV; rw [HPX.out, HPYL.out]
        have HX0 : Hid ((0 : Int) ≤ x0 ∧ (x0 : Int) ≤ 1000) := hx
        clear hcc
        have c0 := box_at C0.out HB.out
        have c1 := box_at C1.out HB.out
        have c2 := box_at C2.out HB.out
        go_upto_region 11 with fail
        refine wp_region_noPanic ?_
        refine wp_region_V (fun w' => w'.cell? ⟨w.heap.size, 0, none⟩ = some (.int .i64 gr.p) ∧ w'.cell? ⟨w.heap.size, 1, none⟩ = some (.int .i64 gr.q) ∧ w'.cell? ⟨w.heap.size, 2, none⟩ = some (.int .i64 gr.g)) 13 9 (.rd 0 (.rd 1 (.rd 2 (.rd 3 (.rd 5 (.rd 6 (.rd 7 (.alt 4 (.alt 8 .done .nil) .nil)))))))) [9, 10] (by kernel_rfl) (by kernel_rfl) rfl (fun _ _ _ _ _ h => h) ⟨box_at c0 (Below.refl _ _).drew, box_at c1 (Below.refl _ _).drew, box_at c2 (Below.refl _ _).drew⟩ ?_
        simp only [pickV, pickN, List.getElem?_cons_zero, List.getElem?_cons_succ]
        repeat (refine' wpV_read _ (by kernel_rfl) (fun w' hS' => ?_) ?_; rotate_left; (focus ((try dsimp only at hS'); go_simp; (try with_reducible rfl))); (try simp only [Act.put, List.setIfInBounds_toArray, List.set_cons_zero, List.set_cons_succ]))
        have hb1 : Below wr.heap.size wr wr.drew := (Below.refl _ _).drew
        refine wpV_do (by kernel_rfl) (fun K hK => ?_)
        go_simp
        go_at_call 63
        refine (spec_yLagrange gr.q _ lx x0 _ HPR.out hq2 (HIX.out.below hb1) (by have := HPF.out.l7; omega) (fun y hy => by have := HPF.out.bx y hy; omega) HPF.out.df HX0.out).mono ?_
        rintro e u1 ⟨⟨v1, rfl, ho1⟩, hb2⟩
        obtain ⟨l1, hl1⟩ : ∃ z, lagL gr.q lx x0 = z := ⟨_, rfl⟩
        have HL1 : Hid (∀ y ∈ l1, 0 ≤ y ∧ y < gr.q) := by rw [← hl1]; exact lagL_bd hq0 _ _
        have HL2 : Hid (l1.length = lx.length) := by rw [← hl1]; exact lagL_len _ _ _
        rw [hl1] at ho1 HVV
        have HO1 := Lib.hid ho1.ints
        have HB3 : Hid (Below wr.heap.size wr u1) := Below.next hb1 hb2
        clear hb1 hb2 ho1 hl1
        refine hK.out _ _ ⟨box_at c0 HB3.out, box_at c1 HB3.out, box_at c2 HB3.out⟩ (fun _ => ?_)
        clear hK K
        (try simp only [Act.put, List.setIfInBounds_toArray, List.set_cons_zero, List.set_cons_succ])
        refine wpV_do (by kernel_rfl) (fun K hK => ?_)
        go_simp
        go_at_call 109
        refine (spec_nDot gr.q _ _ l1 ly _ ⟨by omega, hq2⟩ HO1.out (HIY.out.below HB3.out) HL1.out HPF.out.by_ (by have := HL2.out; have := HPF.out.len; omega)).mono ?_
        rintro e u2 ⟨rfl, hb4⟩
        have HB5 : Hid (Below wr.heap.size wr u2) := Below.next HB3.out hb4
        clear hb4
        refine hK.out _ _ ⟨box_at c0 HB5.out, box_at c1 HB5.out, box_at c2 HB5.out⟩ (fun _ => ?_)
        clear hK K c0 c1 c2
        (try simp only [Act.put, List.setIfInBounds_toArray, List.set_cons_zero, List.set_cons_succ])
        refine wpV_done ?_
        go_wp2_with fail
        refine NoPanic.normal ?_
        go_wp2_with fail
        go_ret2
        exact ⟨by unfold vaR; rw [if_pos HVT.out, HVT.out, HVV.out]; rfl, HBZ.out.trans (HB5.out.mono HBZ.out.size)⟩
set_option maxRecDepth 100000 in
set_option maxHeartbeats 2000000 in
theorem spec_RecoverShare (gr : GroupD) (cv : Value) (cs : List Int) (i : Int) (iv : Value) (ix : List Int) (sv : Value) (ss : List Int) (w : World) (hcs : Ints w cv cs) (hix : Ints w iv ix) (hss : Ints w sv ss) :
    Calls Tryz.prog 19 #[.agg #[.int .i64 gr.p, .int .i64 gr.q, .int .i64 gr.g], cv, .int .i64 i, iv, sv] w fun e w' => e = .returned (.tuple #[.int .i64 (rvR gr cs i ix ss), .bool (rvB gr cs i ix ss)]) ∧ Below w.heap.size w w' := by
  obtain ⟨cva, cvn, cvc, rfl⟩ := hcs.shape
  have Ecv := Lib.hid hcs.len
  have Kcv := Lib.hid hcs.capMax
  have Hcv := Lib.hid hcs
  clear hcs
  obtain ⟨iva, ivn, ivc, rfl⟩ := hix.shape
  have Eiv := Lib.hid hix.len
  have Kiv := Lib.hid hix.capMax
  have Hiv := Lib.hid hix
  clear hix
  obtain ⟨sva, svn, svc, rfl⟩ := hss.shape
  have Esv := Lib.hid hss.len
  have Ksv := Lib.hid hss.capMax
  have Hsv := Lib.hid hss
  clear hss
  obtain ⟨W, hW⟩ : ∃ W, W = w.alloc (.cells #[.int .i64 gr.p, .int .i64 gr.q, .int .i64 gr.g] 24) := ⟨_, rfl⟩
  have HB : Hid (Below w.heap.size w W) := by unfold Hid; rw [hW]; (repeat (first | exact Below.refl _ _ | assumption | refine Below.drew ?_ | refine Below.alloc ?_ (by first | (simp; done) | (simp; omega)) _ | refine Below.setCell ?_ (by first | (simp; done) | (simp; omega)) _))
  have c0_0 : W.cell? ⟨w.heap.size, 0, none⟩ = some (.int .i64 gr.p) := by rw [hW]; simp [go_sem]
  have c0_1 : W.cell? ⟨w.heap.size, 1, none⟩ = some (.int .i64 gr.q) := by rw [hW]; simp [go_sem]
  have c0_2 : W.cell? ⟨w.heap.size, 2, none⟩ = some (.int .i64 gr.g) := by rw [hW]; simp [go_sem]
  have HSW : Hid (W.heap.size = w.heap.size + 1) := by unfold Hid; rw [hW]; simp
  go_enter Tryz.func19, Tryz.ntmps19
  go_wp2_with fail
  rw [← hW]
  have hse : w.heap.size + 1 = W.heap.size := by have := HSW.out; omega
  (try rw [hse])
  clear hse
  clear hW
  have hc : Below W.heap.size W W := Below.refl _ _
  have HCC : Hid (∀ u, Below W.heap.size W u → u.cell? ⟨w.heap.size, 0, none⟩ = some (.int .i64 gr.p) ∧ u.cell? ⟨w.heap.size, 1, none⟩ = some (.int .i64 gr.q) ∧ u.cell? ⟨w.heap.size, 2, none⟩ = some (.int .i64 gr.g)) := fun u h => ⟨box_at c0_0 h, box_at c0_1 h, box_at c0_2 h⟩
  go_wp2_with fail
  refine (spec_sGroup gr _).mono ?_
  rintro e u1 ⟨rfl, hq1⟩
  replace hc := Below.next hc hq1
  clear hq1 c0_0 c0_1 c0_2
  obtain ⟨c0_0, c0_1, c0_2⟩ := HCC.out _ hc
  cases hc1 : shG gr with
  | false =>
    have Hhc1 := Lib.hid hc1
    clear hc1
    go_wp2_with fail
    have HV : Hid ((.tuple #[.int .i64 (rvR gr cs i ix ss), .bool (rvB gr cs i ix ss)] : Value) = .tuple #[.int .i64 0, .bool false]) := by unfold Hid; simp [rvR, rvB, vaR, asB, trL, Hhc1.out]
    go_ret2
    exact ⟨congrArg Ending.returned HV.out.symm, HB.out.trans (hc.mono HB.out.size)⟩
  | true =>
    have HG := Lib.hid (shG_ok hc1)
    have Hhc1 := Lib.hid hc1
    clear hc1
    go_wp2_with fail
    refine (spec_sCommits gr _ cs _ HG.out (Hcv.out.below (HB.out.trans (hc.mono HB.out.size)))).mono ?_
    rintro e u2 ⟨rfl, hq2⟩
    replace hc := Below.next hc hq2
    clear hq2 c0_0 c0_1 c0_2
    obtain ⟨c0_0, c0_1, c0_2⟩ := HCC.out _ hc
    cases hc2 : cmsB gr cs with
    | false =>
      have Hhc2 := Lib.hid hc2
      clear hc2
      go_wp2_with fail
      have HV : Hid ((.tuple #[.int .i64 (rvR gr cs i ix ss), .bool (rvB gr cs i ix ss)] : Value) = .tuple #[.int .i64 0, .bool false]) := by unfold Hid; simp [rvR, rvB, vaR, asB, trL, Hhc1.out, Hhc2.out]
      go_ret2
      exact ⟨congrArg Ending.returned HV.out.symm, HB.out.trans (hc.mono HB.out.size)⟩
    | true =>
      have Hhc2 := Lib.hid hc2
      clear hc2
      go_wp2_with fail
      refine (spec_l1In i 1 7 _).mono ?_
      rintro e u3 ⟨rfl, rfl⟩
      cases hc3 : decide (1 ≤ i ∧ i ≤ 7) with
      | false =>
        go_wp2_with fail
        have HV : Hid ((.tuple #[.int .i64 (rvR gr cs i ix ss), .bool (rvB gr cs i ix ss)] : Value) = .tuple #[.int .i64 0, .bool false]) := by unfold Hid; simp [rvR, rvB, vaR, asB, trL, Hhc1.out, Hhc2.out, hc3]
        go_ret2
        exact ⟨congrArg Ending.returned HV.out.symm, HB.out.trans (hc.mono HB.out.size)⟩
      | true =>
        have HI0 : Hid (0 ≤ i ∧ i ≤ 1000) := by have q := of_decide_eq_true hc3; exact ⟨by omega, by omega⟩
        cases hc4 : decide (7 < (ivn : Int)) with
        | false =>
          have HL7 : Hid True := trivial
          go_wp2_with fail
          refine (spec_l1All _ ix 1 7 _ (Hiv.out.below (HB.out.trans (hc.mono HB.out.size)))).mono ?_
          rintro e u4 ⟨rfl, rfl⟩
          cases hc5 : ix.all (fun x => decide (1 ≤ x ∧ x ≤ 7)) with
          | false =>
            have HT4 : Hid (trL ix = false) := by unfold Hid trL; rw [hc5]; rfl
            have Hhc5 := Lib.hid hc5
            clear hc5
            go_wp2_with fail
            have HV : Hid ((.tuple #[.int .i64 (rvR gr cs i ix ss), .bool (rvB gr cs i ix ss)] : Value) = .tuple #[.int .i64 0, .bool false]) := by unfold Hid; simp [rvR, rvB, vaR, asB, Hhc1.out, Hhc2.out, hc3, HL7.out, HT4.out]
            go_ret2
            exact ⟨congrArg Ending.returned HV.out.symm, HB.out.trans (hc.mono HB.out.size)⟩
          | true =>
            have HT4 : Hid True := trivial
            have Hhc5 := Lib.hid hc5
            clear hc5
            go_wp2_with fail
            refine (spec_yPoints _ ix _ (Hiv.out.below (HB.out.trans (hc.mono HB.out.size)))).mono ?_
            rintro e u5 ⟨rfl, rfl⟩
            cases hc6 : ptsB ix with
            | false =>
              have Hhc6 := Lib.hid hc6
              clear hc6
              go_wp2_with fail
              have HV : Hid ((.tuple #[.int .i64 (rvR gr cs i ix ss), .bool (rvB gr cs i ix ss)] : Value) = .tuple #[.int .i64 0, .bool false]) := by unfold Hid; simp [rvR, rvB, vaR, asB, trL, Hhc1.out, Hhc2.out, hc3, Hhc6.out, HL7.out, HT4.out]
              go_ret2
              exact ⟨congrArg Ending.returned HV.out.symm, HB.out.trans (hc.mono HB.out.size)⟩
            | true =>
              have Hhc6 := Lib.hid hc6
              clear hc6
              cases hc7 : ((svn : Int) != (ivn : Int)) with
              | false =>
                have HLT : Hid (decide (ss.length = ix.length) = true) := by have q := hc7; rw [bne_eq_false_iff_eq] at q; have := Eiv.out; have := Esv.out; unfold Hid; exact decide_eq_true (by omega)
                go_wp2_with fail
                refine (spec_gExps gr _ ss _ HG.out (Hsv.out.below (HB.out.trans (hc.mono HB.out.size)))).mono ?_
                rintro e u6 ⟨rfl, hq6⟩
                replace hc := Below.next hc hq6
                clear hq6 c0_0 c0_1 c0_2
                obtain ⟨c0_0, c0_1, c0_2⟩ := HCC.out _ hc
                cases hc8 : ss.all (expB gr) with
                | false =>
                  have Hhc8 := Lib.hid hc8
                  clear hc8
                  go_wp2_with fail
                  have HV : Hid ((.tuple #[.int .i64 (rvR gr cs i ix ss), .bool (rvB gr cs i ix ss)] : Value) = .tuple #[.int .i64 0, .bool false]) := by unfold Hid; simp [rvR, rvB, vaR, asB, trL, Hhc1.out, Hhc2.out, hc3, Hhc6.out, Hhc8.out, HL7.out, HT4.out, HLT.out]
                  go_ret2
                  exact ⟨congrArg Ending.returned HV.out.symm, HB.out.trans (hc.mono HB.out.size)⟩
                | true =>
                  have HAS := Lib.hid (asB_parts (show asB gr cs ix ss = true by unfold asB trL; rw [Hhc1.out, Hhc2.out, Hhc5.out, Hhc6.out, HLT.out, hc8]; rfl))
                  have Hhc8 := Lib.hid hc8
                  clear hc8
                  go_wp2_with fail
                  refine (spec_rValue gr _ cs _ ix _ ss i _ (Hcv.out.below (HB.out.trans (hc.mono HB.out.size))) (Hiv.out.below (HB.out.trans (hc.mono HB.out.size))) (Hsv.out.below (HB.out.trans (hc.mono HB.out.size))) HAS.out.1 HAS.out.2.1 HAS.out.2.2.1 HAS.out.2.2.2.1 HAS.out.2.2.2.2 HI0.out).mono ?_
                  rintro e u7 ⟨rfl, hq7⟩
                  replace hc := Below.next hc hq7
                  clear hq7 c0_0 c0_1 c0_2
                  obtain ⟨c0_0, c0_1, c0_2⟩ := HCC.out _ hc
                  cases hc9 : vaB gr cs ix ss with
                  | false =>
                    have Hhc9 := Lib.hid hc9
                    clear hc9
                    go_wp2_with fail
                    have HV : Hid ((.tuple #[.int .i64 (rvR gr cs i ix ss), .bool (rvB gr cs i ix ss)] : Value) = .tuple #[.int .i64 (vaR gr cs ix ss i), .bool false]) := by unfold Hid; simp [rvR, rvB, vaR, asB, HAS.out.2.2.1, Hhc1.out, Hhc2.out, hc3, Hhc6.out, Hhc8.out, Hhc9.out, HL7.out, HT4.out, HLT.out]
                    go_ret2
                    exact ⟨congrArg Ending.returned HV.out.symm, HB.out.trans (hc.mono HB.out.size)⟩
                  | true =>
                    have Hhc9 := Lib.hid hc9
                    clear hc9
                    go_wp2_with fail
                    have HV : Hid ((.tuple #[.int .i64 (rvR gr cs i ix ss), .bool (rvB gr cs i ix ss)] : Value) = .tuple #[.int .i64 (vaR gr cs ix ss i), .bool true]) := by unfold Hid; simp [rvR, rvB, vaR, asB, HAS.out.2.2.1, Hhc1.out, Hhc2.out, hc3, Hhc6.out, Hhc8.out, Hhc9.out, HL7.out, HT4.out, HLT.out]
                    go_ret2
                    exact ⟨congrArg Ending.returned HV.out.symm, HB.out.trans (hc.mono HB.out.size)⟩
              | true =>
                have HLT : Hid (decide (ss.length = ix.length) = false) := by have q := hc7; rw [bne_iff_ne] at q; have := Eiv.out; have := Esv.out; unfold Hid; exact decide_eq_false (by omega)
                go_wp2_with fail
                have HV : Hid ((.tuple #[.int .i64 (rvR gr cs i ix ss), .bool (rvB gr cs i ix ss)] : Value) = .tuple #[.int .i64 0, .bool false]) := by unfold Hid; simp [rvR, rvB, vaR, asB, trL, Hhc1.out, Hhc2.out, hc3, Hhc6.out, HL7.out, HT4.out, HLT.out]
                go_ret2
                exact ⟨congrArg Ending.returned HV.out.symm, HB.out.trans (hc.mono HB.out.size)⟩
        | true =>
          have HL7 : Hid (trL ix = false) := by have q := of_decide_eq_true hc4; have := Eiv.out; unfold Hid; cases e : trL ix with
            | false => rfl
            | true => exact absurd (tr_len e) (by omega)
          go_wp2_with fail
          have HV : Hid ((.tuple #[.int .i64 (rvR gr cs i ix ss), .bool (rvB gr cs i ix ss)] : Value) = .tuple #[.int .i64 0, .bool false]) := by unfold Hid; simp [rvR, rvB, vaR, asB, Hhc1.out, Hhc2.out, hc3, HL7.out]
          go_ret2
          exact ⟨congrArg Ending.returned HV.out.symm, HB.out.trans (hc.mono HB.out.size)⟩
end Go.Proofs.YtacpnphfopmofaaGreat
