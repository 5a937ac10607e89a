/- Recovering of shares: walks of the program (printed by gen_rf6.py). -/
import Derived.Test.YtacpnphfopmofaaGreatRowJR
import Derived.Test.YtacpnphfopmofaaGreatRc2R
namespace Go.Proofs.YtacpnphfopmofaaGreat
open Go.RowKit
set_option linter.unusedSimpArgs false
set_option linter.unusedVariables false

noncomputable def rvB (gr : GroupD) (cs : List Int) (i : Int) (ix ss : List Int) : Bool := asB gr cs ix ss && (decide (1 ≤ i ∧ i ≤ 7) && vaB gr cs ix ss)
noncomputable def rvR (gr : GroupD) (cs : List Int) (i : Int) (ix ss : List Int) : Int := if rvB gr cs i ix ss = true then vaV gr cs ix ss i else 0
set_option maxRecDepth 100000 in
set_option maxHeartbeats 2000000 in
theorem impl_RecoverShare (gr : GroupD) (cv : Value) (cs : List Int) (i : Int) (iv : Value) (ix : List Int) (sv : Value) (ss : List Int) (w : World) (hcs : Ints w cv cs) (hix : Ints w iv ix) (hss : Ints w sv ss) :
    Calls Tryz.prog 18 #[.agg #[.int .i64 gr.p, .int .i64 gr.q, .int .i64 gr.g], cv, .int .i64 i, iv, sv] w fun e w' => e = .returned (.tuple #[.int .i64 (rvR gr cs i ix ss), .bool (rvB gr cs i ix ss)]) ∧ Below w.heap.size w w' := by
  obtain ⟨cva, cvn, cvc, rfl⟩ := hcs.shape
  have Ecv := Lib.hid hcs.len
  have Kcv := Lib.hid hcs.capMax
  have Hcv := Lib.hid hcs
  clear hcs
  obtain ⟨iva, ivn, ivc, rfl⟩ := hix.shape
  have Eiv := Lib.hid hix.len
  have Kiv := Lib.hid hix.capMax
  have Hiv := Lib.hid hix
  clear hix
  obtain ⟨sva, svn, svc, rfl⟩ := hss.shape
  have Esv := Lib.hid hss.len
  have Ksv := Lib.hid hss.capMax
  have Hsv := Lib.hid hss
  clear hss
  obtain ⟨W, hW⟩ : ∃ W, W = w.alloc (.cells #[.int .i64 gr.p, .int .i64 gr.q, .int .i64 gr.g] 24) := ⟨_, rfl⟩
  have HB : Hid (Below w.heap.size w W) := by unfold Hid; rw [hW]; (repeat (first | exact Below.refl _ _ | assumption | refine Below.drew ?_ | refine Below.alloc ?_ (by first | (simp; done) | (simp; omega)) _ | refine Below.setCell ?_ (by first | (simp; done) | (simp; omega)) _))
  have c0_0 : W.cell? ⟨w.heap.size, 0, none⟩ = some (.int .i64 gr.p) := by rw [hW]; simp [go_sem]
  have c0_1 : W.cell? ⟨w.heap.size, 1, none⟩ = some (.int .i64 gr.q) := by rw [hW]; simp [go_sem]
  have c0_2 : W.cell? ⟨w.heap.size, 2, none⟩ = some (.int .i64 gr.g) := by rw [hW]; simp [go_sem]
  have HSW : Hid (W.heap.size = w.heap.size + 1) := by unfold Hid; rw [hW]; simp
  go_enter Tryz.func18, Tryz.ntmps18
  go_wp2_with fail
  rw [← hW]
  have hse : w.heap.size + 1 = W.heap.size := by have := HSW.out; omega
  (try rw [hse])
  clear hse
  clear hW
  have hc : Below W.heap.size W W := Below.refl _ _
  have HCC : Hid (∀ u, Below W.heap.size W u → u.cell? ⟨w.heap.size, 0, none⟩ = some (.int .i64 gr.p) ∧ u.cell? ⟨w.heap.size, 1, none⟩ = some (.int .i64 gr.q) ∧ u.cell? ⟨w.heap.size, 2, none⟩ = some (.int .i64 gr.g)) := fun u h => ⟨box_at c0_0 h, box_at c0_1 h, box_at c0_2 h⟩
  go_wp2_with fail
  refine (impl_areSharesOf gr _ cs _ ix _ ss _ (Hcv.out.below (HB.out.trans (hc.mono HB.out.size))) (Hiv.out.below (HB.out.trans (hc.mono HB.out.size))) (Hsv.out.below (HB.out.trans (hc.mono HB.out.size)))).mono ?_
  rintro e u1 ⟨rfl, hq1⟩
  replace hc := Below.next hc hq1
  clear hq1 c0_0 c0_1 c0_2
  obtain ⟨c0_0, c0_1, c0_2⟩ := HCC.out _ hc
  cases hc1 : asB gr cs ix ss with
  | false =>
    have Hhc1 := Lib.hid hc1
    clear hc1
    go_wp2_with fail
    have HV : Hid ((.tuple #[.int .i64 (rvR gr cs i ix ss), .bool (rvB gr cs i ix ss)] : Value) = .tuple #[.int .i64 0, .bool false]) := by unfold Hid; simp [rvR, rvB, vaR, Hhc1.out]
    go_ret2
    exact ⟨congrArg Ending.returned HV.out.symm, HB.out.trans (hc.mono HB.out.size)⟩
  | true =>
    have HAS := Lib.hid (asB_parts hc1)
    have Hhc1 := Lib.hid hc1
    clear hc1
    go_wp2_with fail
    refine (impl_isTrustee i _).mono ?_
    rintro e u2 ⟨rfl, hq2⟩
    replace hc := Below.next hc hq2
    clear hq2 c0_0 c0_1 c0_2
    obtain ⟨c0_0, c0_1, c0_2⟩ := HCC.out _ hc
    cases hc2 : decide (1 ≤ i ∧ i ≤ 7) with
    | false =>
      go_wp2_with fail
      have HV : Hid ((.tuple #[.int .i64 (rvR gr cs i ix ss), .bool (rvB gr cs i ix ss)] : Value) = .tuple #[.int .i64 0, .bool false]) := by unfold Hid; simp [rvR, rvB, vaR, Hhc1.out, hc2]
      go_ret2
      exact ⟨congrArg Ending.returned HV.out.symm, HB.out.trans (hc.mono HB.out.size)⟩
    | true =>
      have HIB : Hid (0 ≤ i ∧ i ≤ 1000) := by have := of_decide_eq_true hc2; unfold Hid; omega
      have hic := of_decide_eq_true hc2
      go_wp2_with fail
      refine (impl_valueAt gr _ cs _ ix _ ss i _ (Hcv.out.below (HB.out.trans (hc.mono HB.out.size))) (Hiv.out.below (HB.out.trans (hc.mono HB.out.size))) (Hsv.out.below (HB.out.trans (hc.mono HB.out.size))) HAS.out.1 HAS.out.2.1 HAS.out.2.2.1 HAS.out.2.2.2.1 HAS.out.2.2.2.2 HIB.out).mono ?_
      rintro e u3 ⟨rfl, hq3⟩
      replace hc := Below.next hc hq3
      clear hq3 c0_0 c0_1 c0_2
      obtain ⟨c0_0, c0_1, c0_2⟩ := HCC.out _ hc
      cases hc3 : vaB gr cs ix ss with
      | false =>
        have Hhc3 := Lib.hid hc3
        clear hc3
        go_wp2_with fail
        have HV : Hid ((.tuple #[.int .i64 (rvR gr cs i ix ss), .bool (rvB gr cs i ix ss)] : Value) = .tuple #[.int .i64 (vaR gr cs ix ss i), .bool false]) := by unfold Hid; simp [rvR, rvB, vaR, Hhc1.out, hc2, Hhc3.out]
        go_ret2
        exact ⟨congrArg Ending.returned HV.out.symm, HB.out.trans (hc.mono HB.out.size)⟩
      | true =>
        have Hhc3 := Lib.hid hc3
        clear hc3
        go_wp2_with fail
        have HV : Hid ((.tuple #[.int .i64 (rvR gr cs i ix ss), .bool (rvB gr cs i ix ss)] : Value) = .tuple #[.int .i64 (vaR gr cs ix ss i), .bool true]) := by unfold Hid; simp [rvR, rvB, vaR, Hhc1.out, hc2, Hhc3.out]
        go_ret2
        exact ⟨congrArg Ending.returned HV.out.symm, HB.out.trans (hc.mono HB.out.size)⟩
theorem rm_rv {gr : GroupD} {m : DealingD} {i lost : Int} (hv : vdB gr m = true) (hi : decide (1 ≤ i ∧ i ≤ 7) = true) (hl : decide (0 ≤ lost ∧ lost ≤ 7) = true) : rvB gr m.c i (otX i lost m.s.length) (otY m.s i lost m.s.length) = rmB gr m i lost ∧ rvR gr m.c i (otX i lost m.s.length) (otY m.s i lost m.s.length) = rmR gr m i lost := by
  obtain ⟨hG, hd⟩ := vdB_p hv
  obtain ⟨p1, p2, p3⟩ := deB_parts hd
  have hcm : cmsB gr m.c = true := by unfold deB at hd; rw [Bool.and_eq_true] at hd; exact hd.1
  have hye : (otY m.s i lost m.s.length).all (expB gr) = true := by
    rw [List.all_eq_true]
    exact otY_mem (P := fun x => expB gr x = true) (fun x hx => List.all_eq_true.1 p3 x hx) _ (Nat.le_refl _)
  have has : asB gr m.c (otX i lost m.s.length) (otY m.s i lost m.s.length) = true := by
    unfold asB; rw [hG, hcm, otX_tr p1.2.2, decide_eq_true (otX_len _ _ _ _).1.symm, hye]; rfl
  have e : rvB gr m.c i (otX i lost m.s.length) (otY m.s i lost m.s.length) = rmB gr m i lost := by
    unfold rvB rmB; rw [has, hv, hi, hl]; rfl
  refine ⟨e, ?_⟩
  unfold rvR rmR
  rw [e]
theorem ot_yes {s : List Int} {i lost : Int} {n : Nat} {lx ly : List Int} (h1 : otX i lost n = lx) (h2 : otY s i lost n = ly) (ha : (n : Int) + 1 ≠ i) (hb : (n : Int) + 1 ≠ lost) : otX i lost (n + 1) = lx ++ [(n : Int) + 1] ∧ otY s i lost (n + 1) = ly ++ [nth s n] := by
  have hc : (decide ((n : Int) + 1 ≠ i) && decide ((n : Int) + 1 ≠ lost)) = true := by rw [decide_eq_true ha, decide_eq_true hb]; rfl
  rw [← h1, ← h2]
  exact ⟨if_pos hc, if_pos hc⟩
theorem ot_no {s : List Int} {i lost : Int} {n : Nat} {lx ly : List Int} (h1 : otX i lost n = lx) (h2 : otY s i lost n = ly) (h : (n : Int) + 1 = i ∨ (n : Int) + 1 = lost) : otX i lost (n + 1) = lx ∧ otY s i lost (n + 1) = ly := by
  have hc : ¬ (decide ((n : Int) + 1 ≠ i) && decide ((n : Int) + 1 ≠ lost)) = true := by
    rw [Bool.and_eq_true, decide_eq_true_iff, decide_eq_true_iff]; omega
  rw [← h1, ← h2]
  exact ⟨if_neg hc, if_neg hc⟩
set_option maxRecDepth 100000 in
set_option maxHeartbeats 2000000 in
theorem impl_RecoverMasked (gr : GroupD) (pv : Value) (d : DealingD) (i lost : Int) (w : World) (hp : DlR w pv d) (hi : I64 i) :
    Calls Tryz.prog 13 #[.agg #[.int .i64 gr.p, .int .i64 gr.q, .int .i64 gr.g], pv, .int .i64 i, .int .i64 lost] w fun e w' => e = .returned (.tuple #[.int .i64 (rmR gr d i lost), .bool (rmB gr d i lost)]) ∧ Below w.heap.size w w' := by
  have HII := Lib.hid hi
  clear hi
  obtain ⟨xcv, xsv, rfl, hxc, hxs⟩ := hp
  obtain ⟨xca, xcn, xcc, rfl⟩ := hxc.shape
  have Exc := Lib.hid hxc.len
  have Kxc := Lib.hid hxc.capMax
  have Hxc := Lib.hid hxc
  clear hxc
  obtain ⟨xsa, xsn, xsc, rfl⟩ := hxs.shape
  have Exs := Lib.hid hxs.len
  have Kxs := Lib.hid hxs.capMax
  have Hxs := Lib.hid hxs
  clear hxs
  obtain ⟨W, hW⟩ : ∃ W, W = (w.alloc (.cells #[.int .i64 gr.p, .int .i64 gr.q, .int .i64 gr.g] 24)).alloc (.cells #[(.slice xca xcn xcc), (.slice xsa xsn xsc)] 27) := ⟨_, rfl⟩
  have HB : Hid (Below w.heap.size w W) := by unfold Hid; rw [hW]; (repeat (first | exact Below.refl _ _ | assumption | refine Below.drew ?_ | refine Below.alloc ?_ (by first | (simp; done) | (simp; omega)) _ | refine Below.setCell ?_ (by first | (simp; done) | (simp; omega)) _))
  have c0_0 : W.cell? ⟨w.heap.size, 0, none⟩ = some (.int .i64 gr.p) := by rw [hW]; simp [go_sem]
  have c0_1 : W.cell? ⟨w.heap.size, 1, none⟩ = some (.int .i64 gr.q) := by rw [hW]; simp [go_sem]
  have c0_2 : W.cell? ⟨w.heap.size, 2, none⟩ = some (.int .i64 gr.g) := by rw [hW]; simp [go_sem]
  have c1_0 : W.cell? ⟨w.heap.size + 1, 0, none⟩ = some ((.slice xca xcn xcc)) := by rw [hW]; simp [go_sem]
  have c1_1 : W.cell? ⟨w.heap.size + 1, 1, none⟩ = some ((.slice xsa xsn xsc)) := by rw [hW]; simp [go_sem]
  have HSW : Hid (W.heap.size = w.heap.size + 2) := by unfold Hid; rw [hW]; simp
  go_enter Tryz.func13, Tryz.ntmps13
  go_wp2_with fail
  rw [← hW]
  have hse : w.heap.size + 1 + 1 = W.heap.size := by have := HSW.out; omega
  (try rw [hse])
  clear hse
  clear hW
  have hc : Below W.heap.size W W := Below.refl _ _
  have HCC : Hid (∀ u, Below W.heap.size W u → u.cell? ⟨w.heap.size, 0, none⟩ = some (.int .i64 gr.p) ∧ u.cell? ⟨w.heap.size, 1, none⟩ = some (.int .i64 gr.q) ∧ u.cell? ⟨w.heap.size, 2, none⟩ = some (.int .i64 gr.g) ∧ u.cell? ⟨w.heap.size + 1, 0, none⟩ = some ((.slice xca xcn xcc)) ∧ u.cell? ⟨w.heap.size + 1, 1, none⟩ = some ((.slice xsa xsn xsc))) := fun u h => ⟨box_at c0_0 h, box_at c0_1 h, box_at c0_2 h, box_at c1_0 h, box_at c1_1 h⟩
  go_wp2_with fail
  refine (impl_hasKey gr _ d _ (DlR.mk (Hxc.out.below (HB.out.trans (hc.mono HB.out.size))) (Hxs.out.below (HB.out.trans (hc.mono HB.out.size))))).mono ?_
  rintro e u1 ⟨rfl, hq1⟩
  replace hc := Below.next hc hq1
  clear hq1 c0_0 c0_1 c0_2 c1_0 c1_1
  obtain ⟨c0_0, c0_1, c0_2, c1_0, c1_1⟩ := HCC.out _ hc
  cases hc1 : vdB gr d with
  | false =>
    have Hhc1 := Lib.hid hc1
    clear hc1
    go_wp2_with fail
    have HV : Hid ((.tuple #[.int .i64 (rmR gr d i lost), .bool (rmB gr d i lost)] : Value) = .tuple #[.int .i64 0, .bool false]) := by unfold Hid; simp [rmR, rmB, Hhc1.out]
    go_ret2
    exact ⟨congrArg Ending.returned HV.out.symm, HB.out.trans (hc.mono HB.out.size)⟩
  | true =>
    have HVD := Lib.hid hc1
    have HDP := Lib.hid (deB_parts (vdB_p hc1).2)
    have Hhc1 := Lib.hid hc1
    clear hc1
    go_wp2_with fail
    refine (impl_isTrustee i _).mono ?_
    rintro e u2 ⟨rfl, hq2⟩
    replace hc := Below.next hc hq2
    clear hq2 c0_0 c0_1 c0_2 c1_0 c1_1
    obtain ⟨c0_0, c0_1, c0_2, c1_0, c1_1⟩ := HCC.out _ hc
    cases hc2 : decide (1 ≤ i ∧ i ≤ 7) with
    | false =>
      go_wp2_with fail
      have HV : Hid ((.tuple #[.int .i64 (rmR gr d i lost), .bool (rmB gr d i lost)] : Value) = .tuple #[.int .i64 0, .bool false]) := by unfold Hid; simp [rmR, rmB, Hhc1.out, hc2]
      go_ret2
      exact ⟨congrArg Ending.returned HV.out.symm, HB.out.trans (hc.mono HB.out.size)⟩
    | true =>
      have HQI := Lib.hid hc2
      go_wp2_with fail
      refine (impl_within lost 0 7 _).mono ?_
      rintro e u3 ⟨rfl, rfl⟩
      cases hc3 : decide (0 ≤ lost ∧ lost ≤ 7) with
      | false =>
        go_wp2_with fail
        have HV : Hid ((.tuple #[.int .i64 (rmR gr d i lost), .bool (rmB gr d i lost)] : Value) = .tuple #[.int .i64 0, .bool false]) := by unfold Hid; simp [rmR, rmB, Hhc1.out, hc2, hc3]
        go_ret2
        exact ⟨congrArg Ending.returned HV.out.symm, HB.out.trans (hc.mono HB.out.size)⟩
      | true =>
        have HQL := Lib.hid hc3
        have HBS := Lib.hid (HB.out.trans (hc.mono HB.out.size))
        have HSS : Hid (Ints u2 (.slice xsa xsn xsc) d.s) := Hxs.out.below HBS.out
        have HWS := Lib.hid hc
        have hn7 : xsn ≤ 7 := by have := HDP.out.1; have := Exs.out; omega
        have hilo : 1 ≤ i ∧ i ≤ 7 := of_decide_eq_true HQI.out
        obtain ⟨V0, hV0⟩ : ∃ V, V = (u2.alloc (.cells #[] 3)).alloc (.cells #[] 3) := ⟨_, rfl⟩
        have HR0 : Hid (RowsI V0 u2.heap.size [(.slice (some ⟨u2.heap.size, 0, none⟩) 0 0, []), (.slice (some ⟨u2.heap.size + 1, 0, none⟩) 0 0, [])]) := by unfold Hid; rw [hV0]; exact RowsI.lits u2
        have HB0 : Hid (Below u2.heap.size u2 V0) := by unfold Hid; rw [hV0]; (repeat (first | exact Below.refl _ _ | assumption | refine Below.drew ?_ | refine Below.alloc ?_ (by first | (simp; done) | (simp; omega)) _ | refine Below.setCell ?_ (by first | (simp; done) | (simp; omega)) _))
        have lc0 := World.block_lt_of_cell? u2 _ c0_0
        have lc1 := World.block_lt_of_cell? u2 _ c1_0
        go_wp2_with fail
        rw [← hV0]
        clear hV0 lc0 lc1 hc c0_0 c0_1 c0_2 c1_0 c1_1
        obtain ⟨d0_0, d0_1, d0_2, d1_0, d1_1⟩ := HCC.out V0 (Below.next HWS.out HB0.out)
        (try (go_wp2_with fail))
        clear d0_0 d0_1 d0_2 d1_0 d1_1
        go_loopg [10, 11, 33] xsn (fun gk xv yv iv wr => ∃ (k : Nat) (xv' yv' : Value), k + gk = xsn ∧ iv = .int .i64 (k : Int) ∧ Hid (xv = xv' ∧ yv = yv') ∧ Hid (RowsI wr u2.heap.size [(xv', otX i lost k), (yv', otY d.s i lost k)]) ∧ Hid (Below u2.heap.size u2 wr))
        case atStart => exact ⟨0, _, _, by omega, rfl, Lib.hid ⟨rfl, rfl⟩, HR0, HB0⟩
        case round =>
          clear HR0 HB0
          obtain ⟨k, xv, yv, hkg, rfl, HEQ, HR, HBR⟩ := hrel
          obtain ⟨rfl, rfl⟩ := HEQ.out
          clear HEQ
          have HLL := Lib.hid (otX_len d.s i lost k)
          obtain ⟨lx, hlx⟩ : ∃ z, otX i lost k = z := ⟨_, rfl⟩
          obtain ⟨ly, hly⟩ : ∃ z, otY d.s i lost k = z := ⟨_, rfl⟩
          rw [hlx, hly] at HR HLL
          have HLX := Lib.hid hlx
          have HLY := Lib.hid hly
          clear hlx hly
          have HOX := Lib.hid (HR.out.own 0 _ _ rfl)
          have HOY := Lib.hid (HR.out.own 1 _ _ rfl)
          obtain ⟨xa, xc, rfl⟩ := HOX.out.shape
          obtain ⟨ya, yc, rfl⟩ := HOY.out.shape
          obtain ⟨xn, hxn⟩ : ∃ z, lx.length = z := ⟨_, rfl⟩
          have hyn : ly.length = xn := by have := HLL.out.1; omega
          rw [hxn, hyn] at HR
          rw [hxn, hyn]
          clear HOX HOY
          have HXN := Lib.hid hxn
          have HYN := Lib.hid hyn
          have hxk : xn ≤ k := by have := HLL.out.2; omega
          clear hxn hyn
          have HSZ : Hid (u2.heap.size ≤ wr.heap.size) := HBR.out.size
          have cc := HCC.out wr (Below.next HWS.out HBR.out)
          by_cases hlt : k < xsn
          · have hgk : xsn - (k + 1) < gk := by omega
            obtain ⟨sb, so, hsa, hcy⟩ := HSS.out.at_ (by have := Exs.out; omega)
            have y1 := box_at (hcy k hlt) HBR.out
            have hsa' := hsa
            subst hsa'
            clear hsa hcy
            have HYI : Hid (I64 (nth d.s k)) := nth_64 HSS.out k
            have HYES := fun h1 h2 => Lib.hid (ot_yes (n := k) HLX.out HLY.out h1 h2)
            obtain ⟨y, hy⟩ : ∃ z, nth d.s k = z := ⟨_, rfl⟩
            rw [hy] at y1 HYI HYES
            clear hy
            have b0 : (0 : Int) ≤ (k : Int) := by omega
            have bk1 : (k : Int) < (xsn : Int) := by omega
            have hwk : IntKind.i64.wrap ((k : Int) + 1) = (k : Int) + 1 := IntWalk.i64_in _ (by omega)
            have HXI : Hid (I64 ((k : Int) + 1)) := ⟨by omega, by omega⟩
            by_cases q1 : (k : Int) + 1 = i
            · have t1 : ((k : Int) + 1 != i) = false := by rw [bne_eq_false_iff_eq]; exact q1
              have t1n : ((k : Int) + 1 == i) = true := by rw [beq_iff_eq]; exact q1
              have HN := Lib.hid (ot_no (n := k) HLX.out HLY.out (.inl q1))
              clear q1
              go_wp2_with fail
              clear y1 t1 t1n
              go_roundg (xsn - (k + 1))
              case measure => exact hgk
              case rel => exact ⟨k + 1, _, _, by omega, by go_num, Lib.hid ⟨rfl, rfl⟩, by unfold Hid; rw [HN.out.1, HN.out.2]; exact HR.out, HBR⟩
            · have t1 : ((k : Int) + 1 != i) = true := by rw [bne_iff_ne]; exact q1
              have t1n : ((k : Int) + 1 == i) = false := by rw [beq_eq_false_iff_ne]; exact q1
              by_cases q2 : (k : Int) + 1 = lost
              · have t2 : ((k : Int) + 1 != lost) = false := by rw [bne_eq_false_iff_eq]; exact q2
                have t2n : ((k : Int) + 1 == lost) = true := by rw [beq_iff_eq]; exact q2
                have HN := Lib.hid (ot_no (n := k) HLX.out HLY.out (.inr q2))
                clear q2
                go_wp2_with fail
                clear y1 t1 t1n t2 t2n
                go_roundg (xsn - (k + 1))
                case measure => exact hgk
                case rel => exact ⟨k + 1, _, _, by omega, by go_num, Lib.hid ⟨rfl, rfl⟩, by unfold Hid; rw [HN.out.1, HN.out.2]; exact HR.out, HBR⟩
              · have t2 : ((k : Int) + 1 != lost) = true := by rw [bne_iff_ne]; exact q2
                have t2n : ((k : Int) + 1 == lost) = false := by rw [beq_eq_false_iff_ne]; exact q2
                have HN := HYES q1 q2
                clear HYES
                go_wp2_with (first | (at_builtin; refine RowsI.list_appN rfl _ _ rfl (HR.out.below ((Below.refl _ _).alloc (Nat.le_refl _) _)) (by have := HSZ.out; simp; omega) 0 rfl (Ints.lit1 _ HXI.out) (by simp) (xn + 1) (by have := HXN.out; simp only [List.length_append, List.length_cons, List.length_nil]; omega) (by omega) rfl rfl ?_; intro a3 c3 w3 h3 _ hb3; have HR6 := Lib.hid h3; have HB6 : Hid (Below u2.heap.size u2 w3) := (HBR.out.trans ((Below.refl _ _).alloc HSZ.out _)).trans hb3; have HSY : Hid (u2.heap.size ≤ w3.heap.size) := HB6.out.size; clear h3 hb3) | (at_builtin; refine RowsI.list_appN rfl _ _ rfl (HR6.out.below ((Below.refl _ _).alloc (Nat.le_refl _) _)) (by have := HSY.out; simp; omega) 1 rfl (Ints.lit1 _ HYI.out) (by simp) (xn + 1) (by have := HYN.out; simp only [List.length_append, List.length_cons, List.length_nil]; omega) (by omega) rfl rfl ?_; intro a4 c4 w4 h4 _ hb4; have HR9 := Lib.hid h4; have HB9 : Hid (Below u2.heap.size u2 w4) := (HB6.out.trans ((Below.refl _ _).alloc HSY.out _)).trans hb4; have HSX : Hid (u2.heap.size ≤ w4.heap.size) := HB9.out.size; clear h4 hb4) | fail)
                clear t1 t1n t2 t2n
                go_roundg (xsn - (k + 1))
                case measure => exact hgk
                case rel => exact ⟨k + 1, _, _, by omega, by go_num, Lib.hid ⟨rfl, rfl⟩, by unfold Hid; rw [HN.out.1, HN.out.2]; exact HR9.out, HB9⟩
          · obtain rfl : xsn = k := by omega
            obtain ⟨d0_0, d0_1, d0_2, d1_0, d1_1⟩ := cc
            have HIX : Hid (Ints wr (.slice xa xn xc) (otX i lost xsn)) := by unfold Hid; rw [HLX.out]; exact (HR.out.own 0 _ _ rfl).ints
            have HIY : Hid (Ints wr (.slice ya xn yc) (otY d.s i lost xsn)) := by unfold Hid; rw [HLY.out]; exact (HR.out.own 1 _ _ rfl).ints
            have HRV := Lib.hid (rm_rv (gr := gr) (m := d) HVD.out HQI.out HQL.out)
            rw [Exs.out] at HRV
            go_wp2_with fail
            clear d0_0 d0_1 d0_2 d1_0 d1_1
            refine (impl_RecoverShare gr _ d.c i _ (otX i lost xsn) _ (otY d.s i lost xsn) _ ((Hxc.out.below HBS.out).below HBR.out) HIX.out HIY.out).mono ?_
            rintro e u9 ⟨rfl, hb⟩
            rw [HRV.out.1, HRV.out.2]
            go_wp2_with fail
            go_ret2
            exact ⟨rfl, HBS.out.trans ((HBR.out.trans (hb.mono HBR.out.size)).mono HBS.out.size)⟩
end Go.Proofs.YtacpnphfopmofaaGreat
