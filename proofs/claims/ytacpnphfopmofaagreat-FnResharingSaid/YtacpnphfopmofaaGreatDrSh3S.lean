/- Draws: dealings that may be wrong, shares to be checked (printed by gen_drsh3.py). -/
import Derived.Test.YtacpnphfopmofaaGreatDrSh2S
namespace Go.Proofs.YtacpnphfopmofaaGreat
open Go.RowKit
set_option linter.unusedSimpArgs false
set_option linter.unusedVariables false

theorem OwnD.storeB {w : World} {B r n c : Nat} {x : Value} {la lb : List Int} (h : OwnD w B x (.slice (some ⟨r, 0, none⟩) n c) la lb) (hn : lb.length = n) (k : Nat) {z : Int} (hz : I64 z) : OwnD (w.setCell ⟨r, k, none⟩ (.int .i64 z)) B x (.slice (some ⟨r, 0, none⟩) n c) la (lb.set k z) :=
  ⟨h.oa.kept (grownBy_setCell _ r k _) (.inr (fun e => h.ne r e rfl)), (h.ob.stored hn k hz).1, h.ne⟩
theorem OwnD.storeA {w : World} {B r n c : Nat} {y : Value} {la lb : List Int} (h : OwnD w B (.slice (some ⟨r, 0, none⟩) n c) y la lb) (hn : la.length = n) (k : Nat) {z : Int} (hz : I64 z) : OwnD (w.setCell ⟨r, k, none⟩ (.int .i64 z)) B (.slice (some ⟨r, 0, none⟩) n c) y (la.set k z) lb :=
  ⟨(h.oa.stored hn k hz).1, h.ob.kept (grownBy_setCell _ r k _) (.inr (h.ne r rfl)), h.ne⟩
theorem OwnD.outside {w Y : World} {B b : Nat} {x y : Value} {la lb : List Int} {t : TypeId} {cs : List Value} (h : OwnD w B x y la lb) (hx : BoxN w b t cs) (ht : t ≠ 3) (hY : Within b (b + 1) w Y) : OwnD Y B x y la lb :=
  ⟨⟨h.oa.1, ownsRow_frame h.oa.2 fun k hk => hY.block k (h.oa.lt k hk).2 (by have := h.oa.apart hx ht k hk; omega)⟩, ⟨h.ob.1, ownsRow_frame h.ob.2 fun k hk => hY.block k (h.ob.lt k hk).2 (by have := h.ob.apart hx ht k hk; omega)⟩, h.ne⟩
theorem OwnI.takeS {w : World} {B n c k : Nat} {a : Option Addr} {l : List Int} (h : OwnI w B (.slice a n c) l) (hk : k ≤ n) (hn : l.length = n) : OwnI w B (.slice a k c) (l.take k) := by
  obtain ⟨h1, h2, h3⟩ := h
  refine ⟨h1.take k, ?_, ?_⟩
  · simp
  · rcases h3 with ⟨h3, h4⟩ | ⟨g, cap, cur, h3, hb, hg, hnc, hcm, hcs, ht⟩
    · cases h3
      obtain rfl : k = 0 := by omega
      exact .inl ⟨rfl, by simp⟩
    · cases h3
      refine .inr ⟨g, c, cur, ?_, hb, hg, by simp; omega, hcm, hcs, ?_⟩
      · rw [List.length_take, Nat.min_eq_left (by omega)]
      · rw [List.map_take, ← ht, List.take_take, List.length_take, Nat.mul_one, Nat.mul_one, Nat.min_eq_left (by omega)]
theorem Since.take {B : Nat} {w : World} {a : Option Addr} {n c k : Nat} {l : List Int} (h : Since B w (fun u => Ints u (.slice a n c) l)) (hk : k ≤ n) : Since B w (fun u => Ints u (.slice a k c) (l.take k)) := fun u hs hb => (h u hs hb).take hk
set_option maxRecDepth 100000 in
set_option maxHeartbeats 8000000 in
theorem spec_anyDealing (w0 : World) (g : Nat) (n P Q G : Int) (w : World) (h : Cur w0 w g n) (hb : Below w0.heap.size w0 w) (hn : n ≤ 500000000000000) (hgr : GrB ⟨P, Q, G⟩) :
    Calls Tryz.prog 48 #[.pointer (some ⟨g, 0, none⟩), .agg #[.int .i64 P, .int .i64 Q, .int .i64 G]] w fun e w' => (∃ (vr0a : Value) (vr0b : Value) (lr0a : List Int) (lr0b : List Int), e = .returned (.agg #[vr0a, vr0b]) ∧ (OwnI w' w.heap.size vr0a lr0a ∧ lr0a.length ≤ 7) ∧ (OwnI w' w.heap.size vr0b lr0b ∧ lr0b.length ≤ 7)) ∧ Cur w0 w' g (n + 600000) ∧ Within g (g + 1) w w' := by
  have HGR := Lib.hid hgr
  have HBB := Lib.hid hb
  have hge := h.ge
  have hgw := h.lt
  clear hgr hb
  obtain ⟨W, hW⟩ : ∃ W, W = (w.alloc (.cells #[.int .i64 P, .int .i64 Q, .int .i64 G] 24)).alloc (.cells #[(.slice none 0 0), (.slice none 0 0)] 61) := ⟨_, rfl⟩
  have hbW : Below w.heap.size w W := by rw [hW]; (repeat (first | exact Below.refl _ _ | assumption | refine Below.drew ?_ | refine Below.alloc ?_ (by first | (simp; done) | (simp; omega)) _ | refine Below.setCell ?_ (by first | (simp; done) | (simp; omega)) _))
  have HZg : Hid (BoxN W w.heap.size 24 [.int .i64 P, .int .i64 Q, .int .i64 G]) := by unfold Hid; rw [hW]; have h := ((BoxN.new w [.int .i64 P, .int .i64 Q, .int .i64 G] 24).alloc (.cells #[(.slice none 0 0), (.slice none 0 0)] 61)); simpa using h
  have HX0 : Hid (BoxN W (w.heap.size + 1) 61 [(.slice none 0 0), (.slice none 0 0)]) := by unfold Hid; rw [hW]; have h := (BoxN.new (w.alloc (.cells #[.int .i64 P, .int .i64 Q, .int .i64 G] 24)) [(.slice none 0 0), (.slice none 0 0)] 61); simpa using h
  have hsW : W.heap.size = w.heap.size + 2 := by rw [hW]; simp
  have HC := Lib.hid (h.keep hbW)
  have HWw := Lib.hid (Within.of_below hbW : Within g (g + 1) w W)
  have HBW : Hid (Below w0.heap.size w0 W) := HBB.out.trans (hbW.mono HBB.out.size)
  clear h
  go_enter Tryz.func48, Tryz.ntmps48
  go_wp2_with fail
  rw [← hW]
  have HW := Lib.hid (Within.refl g (g + 1) W)
  clear hW hbW
  have hQ1 : -7 ≤ Q := HGR.out.2.1.1
  have hQ2 : Q ≤ 2000000010 := HGR.out.2.1.2
  have z_0_0 := HZg.out.cell (i := 0) rfl
  have z_0_1 := HZg.out.cell (i := 1) rfl
  have z_0_2 := HZg.out.cell (i := 2) rfl
  have z_1_0 := HX0.out.cell (i := 0) rfl
  have z_1_1 := HX0.out.cell (i := 1) rfl
  try (go_wp2_with fail)
  clear z_0_0 z_0_1 z_0_2 z_1_0 z_1_1
  refine (spec_dealing w0 g _ P Q G _ HC.out (HW.out.belowOf HBW.out hge) (by omega) HGR.out).mono ?_
  rintro e u1 ⟨⟨xav, yav, la, lb, rfl, hod, ⟨⟨la1, la7⟩, ⟨lb1, lb7⟩⟩⟩, hc, hw⟩
  obtain ⟨xa, xc, rfl⟩ := hod.oa.shape
  obtain ⟨ya, yc, rfl⟩ := hod.ob.shape
  obtain ⟨xn, hxn⟩ : ∃ z, la.length = z := ⟨_, rfl⟩
  obtain ⟨yn, hyn⟩ : ∃ z, lb.length = z := ⟨_, rfl⟩
  rw [hxn, hyn] at hod
  rw [hxn] at la1 la7
  rw [hyn] at lb1 lb7
  rw [hxn, hyn]
  have HXN := Lib.hid hxn
  have HYN := Lib.hid hyn
  have HL1c := Lib.hid hod
  clear hod hxn hyn
  have hsz1 := hw.size
  replace HZg := Lib.hid (HZg.out.kept hw (.inr (by omega)))
  replace HX0 := Lib.hid (HX0.out.kept hw (.inr (by omega)))
  replace HW := Lib.hid (HW.out.trans hw)
  replace HC := Lib.hid hc
  clear hc hw
  have z_0_0 := HZg.out.cell (i := 0) rfl
  have z_0_1 := HZg.out.cell (i := 1) rfl
  have z_0_2 := HZg.out.cell (i := 2) rfl
  have z_1_0 := HX0.out.cell (i := 0) rfl
  have z_1_1 := HX0.out.cell (i := 1) rfl
  have lt_HZg := HZg.out.lt
  have lt_HX0 := HX0.out.lt
  obtain ⟨V2, hV⟩ : ∃ V, V = u1.alloc (.cells #[.slice xa xn xc, .slice ya yn yc] 61) := ⟨_, rfl⟩
  have hbV : Below u1.heap.size u1 V2 := by rw [hV]; (repeat (first | exact Below.refl _ _ | assumption | refine Below.drew ?_ | refine Below.alloc ?_ (by first | (simp; done) | (simp; omega)) _ | refine Below.setCell ?_ (by first | (simp; done) | (simp; omega)) _))
  have HZ1 : Hid (BoxN V2 u1.heap.size 61 [.slice xa xn xc, .slice ya yn yc]) := by unfold Hid; rw [hV]; have h := (BoxN.new u1 [.slice xa xn xc, .slice ya yn yc] 61); simpa using h
  have hgc : g < u1.heap.size := HC.out.lt
  go_wp2_with fail
  rw [← hV]
  have hsV2 : V2.heap.size = u1.heap.size + 1 := by rw [hV]; simp
  clear hV hgc
  replace HZg := Lib.hid (HZg.out.below hbV)
  replace HX0 := Lib.hid (HX0.out.below hbV)
  replace HL1c := Lib.hid (HL1c.out.below hbV)
  replace HW := Lib.hid (HW.out.trans (Within.of_below hbV))
  replace HC := Lib.hid (HC.out.keep hbV)
  clear hbV
  clear z_0_0 z_0_1 z_0_2 z_1_0 z_1_1
  clear lt_HZg
  clear lt_HX0
  refine (spec_pick w0 g _ 16 _ HC.out (HW.out.belowOf HBW.out hge) (by omega) ).mono ?_
  rintro e u3 ⟨⟨x3, rfl, x3l, x3u, x3m, _⟩, hc, hw⟩
  replace x3m := x3m (by omega)
  obtain ⟨j3, rfl⟩ := Int.eq_ofNat_of_zero_le x3l
  replace x3m : j3 < 16 := by omega
  clear x3l x3u
  have hsz3 := hw.size
  replace HZg := Lib.hid (HZg.out.kept hw (.inr (by omega)))
  replace HX0 := Lib.hid (HX0.out.kept hw (.inr (by omega)))
  replace HZ1 := Lib.hid (HZ1.out.kept hw (.inr (by omega)))
  replace HL1c := Lib.hid (HL1c.out.within hw (by omega))
  replace HW := Lib.hid (HW.out.trans hw)
  replace HC := Lib.hid hc
  clear hc hw
  rcases (by omega : j3 = 0 ∨ j3 = 1 ∨ j3 = 2 ∨ j3 = 3 ∨ j3 = 4 ∨ j3 = 5 ∨ 6 ≤ j3) with hj | hj | hj | hj | hj | hj | hj
  · subst hj
    have z_0_0 := HZg.out.cell (i := 0) rfl
    have z_0_1 := HZg.out.cell (i := 1) rfl
    have z_0_2 := HZg.out.cell (i := 2) rfl
    have z_1_0 := HX0.out.cell (i := 0) rfl
    have z_1_1 := HX0.out.cell (i := 1) rfl
    have z_2_0 := HZ1.out.cell (i := 0) rfl
    have z_2_1 := HZ1.out.cell (i := 1) rfl
    have frz := fun j => HZ1.out.frozen j
    go_upto_region 15 with fail
    clear frz
    clear z_0_0 z_0_1 z_0_2 z_1_0 z_1_1 z_2_0 z_2_1
    obtain ⟨Y, hY⟩ : ∃ Y, Y = u3.setCell ⟨u1.heap.size, 0, none⟩ (.slice none 0 0) := ⟨_, rfl⟩
    have hYl : Within (u1.heap.size) (u1.heap.size + 1) u3 Y := by rw [hY]; exact (Within.refl (u1.heap.size) (u1.heap.size + 1) u3).setCell (b := u1.heap.size) (by omega) (by omega) 0 (.slice none 0 0)
    have NZ : Hid (BoxN Y (u1.heap.size) 61 [.slice none 0 0, .slice ya yn yc]) := by unfold Hid; rw [hY]; exact HZ1.out.set 0 _
    have NC := Lib.hid (HC.out.setNew (b := u1.heap.size) (by omega) 0 (.slice none 0 0))
    have NW := Lib.hid (HW.out.setNew (b := u1.heap.size) (by omega) 0 (.slice none 0 0))
    have NO := Lib.hid (HL1c.out.outside HZ1.out (by decide) hYl)
    have NS := Lib.hid NO.out.ob
    rw [← hY] at NC NW ⊢
    have hszY := hYl.size
    replace HZg := Lib.hid (HZg.out.kept hYl (by omega))
    replace HX0 := Lib.hid (HX0.out.kept hYl (by omega))
    replace HZ1 := NZ
    replace HC := NC
    replace HW := NW
    clear NZ NC NW hY hYl
    have z_0_0 := HZg.out.cell (i := 0) rfl
    have z_0_1 := HZg.out.cell (i := 1) rfl
    have z_0_2 := HZg.out.cell (i := 2) rfl
    have z_2_0 := HZ1.out.cell (i := 0) rfl
    have z_2_1 := HZ1.out.cell (i := 1) rfl
    have r_HX0_0 := HX0.out.cell (i := 0) rfl
    have r_HX0_1 := HX0.out.cell (i := 1) rfl
    have fr_HX0 := fun j => HX0.out.frozen j
    go_wp2_with fail
    have HSA := Lib.hid (OwnI.nil Y W.heap.size)
    have HSB := NS
    have HLA : Hid (([] : List Int).length ≤ 7) := by unfold Hid; decide
    have HLB : Hid (lb.length ≤ 7) := by have := HYN.out; unfold Hid; omega
    have FHX0 := Lib.hid ((HX0.out.set 0 (.slice none 0 0)).set 1 (.slice ya yn yc))
    clear z_0_0 z_0_1 z_0_2 z_2_0 z_2_1 r_HX0_0 r_HX0_1 fr_HX0
    have t_HX0_0 := FHX0.out.cell (i := 0) rfl
    have t_HX0_1 := FHX0.out.cell (i := 1) rfl
    try (go_wp2_with fail)
    refine bodyPost_ret (v := .agg #[.slice none 0 0, .slice ya yn yc]) (by simp [results, Tryz.results48, go_sem, t_HX0_0, t_HX0_1]) rfl ⟨⟨_, _, _, _, rfl, ⟨((HSA.out.other (b := w.heap.size + 1) (by omega) 0 (.slice none 0 0)).other (b := w.heap.size + 1) (by omega) 1 (.slice ya yn yc)).mono (by omega), HLA.out⟩, ⟨((HSB.out.other (b := w.heap.size + 1) (by omega) 0 (.slice none 0 0)).other (b := w.heap.size + 1) (by omega) 1 (.slice ya yn yc)).mono (by omega), HLB.out⟩⟩, ((HC.out.setNew (b := w.heap.size + 1) (by omega) 0 (.slice none 0 0)).setNew (b := w.heap.size + 1) (by omega) 1 (.slice ya yn yc)).mono (by omega), (((HWw.out.trans HW.out).setNew (b := w.heap.size + 1) (by omega) 0 (.slice none 0 0)).setNew (b := w.heap.size + 1) (by omega) 1 (.slice ya yn yc))⟩
  · subst hj
    have z_0_0 := HZg.out.cell (i := 0) rfl
    have z_0_1 := HZg.out.cell (i := 1) rfl
    have z_0_2 := HZg.out.cell (i := 2) rfl
    have z_1_0 := HX0.out.cell (i := 0) rfl
    have z_1_1 := HX0.out.cell (i := 1) rfl
    have z_2_0 := HZ1.out.cell (i := 0) rfl
    have z_2_1 := HZ1.out.cell (i := 1) rfl
    have ewn : IntKind.i64.wrap ((yn : Int) - 1) = ((yn - 1 : Nat) : Int) := by rw [show (yn : Int) - 1 = ((yn - 1 : Nat) : Int) by omega]; exact IntWalk.i64_in _ (by omega)
    obtain ⟨hsl, _⟩ := sl_take HL1c.out.ob.ints (x := ((yn - 1 : Nat) : Int)) (k := yn - 1) rfl (by omega)
    have frz := fun j => HZ1.out.frozen j
    go_upto_region 15 with fail
    clear frz hsl ewn
    clear z_0_0 z_0_1 z_0_2 z_1_0 z_1_1 z_2_0 z_2_1
    obtain ⟨Y, hY⟩ : ∃ Y, Y = u3.setCell ⟨u1.heap.size, 1, none⟩ (.slice ya (yn - 1) yc) := ⟨_, rfl⟩
    have hYl : Within (u1.heap.size) (u1.heap.size + 1) u3 Y := by rw [hY]; exact (Within.refl (u1.heap.size) (u1.heap.size + 1) u3).setCell (b := u1.heap.size) (by omega) (by omega) 1 (.slice ya (yn - 1) yc)
    have NZ : Hid (BoxN Y (u1.heap.size) 61 [.slice xa xn xc, .slice ya (yn - 1) yc]) := by unfold Hid; rw [hY]; exact HZ1.out.set 1 _
    have NC := Lib.hid (HC.out.setNew (b := u1.heap.size) (by omega) 1 (.slice ya (yn - 1) yc))
    have NW := Lib.hid (HW.out.setNew (b := u1.heap.size) (by omega) 1 (.slice ya (yn - 1) yc))
    have NO := Lib.hid (HL1c.out.outside HZ1.out (by decide) hYl)
    have NA := Lib.hid NO.out.oa
    have NS := Lib.hid NO.out.ob
    rw [← hY] at NC NW ⊢
    have hszY := hYl.size
    replace HZg := Lib.hid (HZg.out.kept hYl (by omega))
    replace HX0 := Lib.hid (HX0.out.kept hYl (by omega))
    replace HZ1 := NZ
    replace HC := NC
    replace HW := NW
    clear NZ NC NW hY hYl
    have z_0_0 := HZg.out.cell (i := 0) rfl
    have z_0_1 := HZg.out.cell (i := 1) rfl
    have z_0_2 := HZg.out.cell (i := 2) rfl
    have z_2_0 := HZ1.out.cell (i := 0) rfl
    have z_2_1 := HZ1.out.cell (i := 1) rfl
    have r_HX0_0 := HX0.out.cell (i := 0) rfl
    have r_HX0_1 := HX0.out.cell (i := 1) rfl
    have fr_HX0 := fun j => HX0.out.frozen j
    go_wp2_with fail
    have HSA := NA
    have HSB := Lib.hid (NS.out.takeS (k := yn - 1) (by omega) HYN.out)
    have HLA : Hid (la.length ≤ 7) := by have := HXN.out; unfold Hid; omega
    have HLB : Hid ((lb.take (yn - 1)).length ≤ 7) := by unfold Hid; rw [List.length_take]; omega
    have FHX0 := Lib.hid ((HX0.out.set 0 (.slice xa xn xc)).set 1 (.slice ya (yn - 1) yc))
    clear z_0_0 z_0_1 z_0_2 z_2_0 z_2_1 r_HX0_0 r_HX0_1 fr_HX0
    have t_HX0_0 := FHX0.out.cell (i := 0) rfl
    have t_HX0_1 := FHX0.out.cell (i := 1) rfl
    try (go_wp2_with fail)
    refine bodyPost_ret (v := .agg #[.slice xa xn xc, .slice ya (yn - 1) yc]) (by simp [results, Tryz.results48, go_sem, t_HX0_0, t_HX0_1]) rfl ⟨⟨_, _, _, _, rfl, ⟨((HSA.out.other (b := w.heap.size + 1) (by omega) 0 (.slice xa xn xc)).other (b := w.heap.size + 1) (by omega) 1 (.slice ya (yn - 1) yc)).mono (by omega), HLA.out⟩, ⟨((HSB.out.other (b := w.heap.size + 1) (by omega) 0 (.slice xa xn xc)).other (b := w.heap.size + 1) (by omega) 1 (.slice ya (yn - 1) yc)).mono (by omega), HLB.out⟩⟩, ((HC.out.setNew (b := w.heap.size + 1) (by omega) 0 (.slice xa xn xc)).setNew (b := w.heap.size + 1) (by omega) 1 (.slice ya (yn - 1) yc)).mono (by omega), (((HWw.out.trans HW.out).setNew (b := w.heap.size + 1) (by omega) 0 (.slice xa xn xc)).setNew (b := w.heap.size + 1) (by omega) 1 (.slice ya (yn - 1) yc))⟩
  · subst hj
    obtain ⟨rr, e, hrr, hlr, hrx⟩ := HL1c.out.ob.at_ (by have := HYN.out; omega)
    cases e
    have hrlt := (HL1c.out.ob.lt rr rfl).2
    clear hrx hlr
    have hnp : 0 < yn := by omega
    have z_0_0 := HZg.out.cell (i := 0) rfl
    have z_0_1 := HZg.out.cell (i := 1) rfl
    have z_0_2 := HZg.out.cell (i := 2) rfl
    have z_1_0 := HX0.out.cell (i := 0) rfl
    have z_1_1 := HX0.out.cell (i := 1) rfl
    have z_2_0 := HZ1.out.cell (i := 0) rfl
    have z_2_1 := HZ1.out.cell (i := 1) rfl
    try (go_wp2_with fail)
    refine wp_region_noPanic ?_
    refine wp_region_Q (Within g (g + 1)) (DrawS w0 u3 g _ 10000 (fun w' => w'.cell? ⟨w.heap.size, 0, none⟩ = some (.int .i64 P) ∧ w'.cell? ⟨w.heap.size, 1, none⟩ = some (.int .i64 Q) ∧ w'.cell? ⟨w.heap.size, 2, none⟩ = some (.int .i64 G) ∧ w'.cell? ⟨u1.heap.size, 0, none⟩ = some (.slice xa xn xc) ∧ w'.cell? ⟨u1.heap.size, 1, none⟩ = some (.slice (some ⟨rr, 0, none⟩) yn yc))) 14 [(0, []), (1, [0]), (2, []), (3, []), (4, [1, 0]), (5, []), (6, []), (7, [0]), (8, [0]), (9, [3, 0]), (10, [8, 5])] [11] (by kernel_rfl) (by kernel_rfl) (by kernel_rfl) rfl (fun _ _ _ _ h => h) (DrawS.good _ _ _ _ _ _) ⟨(Within.refl _ _ _).drew, by simpa using HC.out.keep (Below.refl _ _).drew, ⟨box_at z_0_0 (Below.refl _ _).drew, box_at z_0_1 (Below.refl _ _).drew, box_at z_0_2 (Below.refl _ _).drew, box_at z_2_0 (Below.refl _ _).drew, box_at z_2_1 (Below.refl _ _).drew⟩⟩ ?_
    simp only [pickP, pickN, List.getElem?_cons_zero, List.getElem?_cons_succ]
    iterate 4 (refine' chainQ_read (DrawS.good _ _ _ _ _ _) _ rfl rfl (fun m w' hm' hS' => ?_) ?_; rotate_left; · (simp only [lookP, allP, Act.put, List.getElem?_cons_zero, List.getElem?_cons_succ, List.setIfInBounds_toArray, List.set_cons_zero, List.set_cons_succ]; (try dsimp only [DrawS] at hS'); go_simp; (try with_reducible rfl)))
    -- 4: call { callee := value (func 95), args := #[t30, t31], argTypes := #[104, 3] }
    refine chainQ_do (d := (some 32)) (fun v u => ∃ j : Nat, v = .int .i64 (j : Int) ∧ j < yn) (fun v w1 w2 hw h => h) rfl rfl (fun m w' hm' hS' => ?_) ?_
    · simp only [lookP, allP, Act.put, List.getElem?_cons_zero, List.getElem?_cons_succ, List.setIfInBounds_toArray, List.set_cons_zero, List.set_cons_succ]
      intro K hK
      replace hm' : m < 11 := hm'
      go_simp
      go_at_call 22
      refine (spec_pick w0 g _ (yn : Int) _ hS'.2.1 (hS'.1.belowOf (HW.out.belowOf HBW.out hge) hge) (by omega)).mono ?_
      rintro e u ⟨⟨x, rfl, x0, _, xm, _⟩, hc, hw⟩
      obtain ⟨j, rfl⟩ := Int.eq_ofNat_of_zero_le x0
      replace xm := xm (by omega)
      exact hK.out _ _ hw ⟨hS'.1.trans hw, hc.mono (by omega), ⟨within_at (hS'.1.trans hw) z_0_0 (.inr (by omega)), within_at (hS'.1.trans hw) z_0_1 (.inr (by omega)), within_at (hS'.1.trans hw) z_0_2 (.inr (by omega)), within_at (hS'.1.trans hw) z_2_0 (.inr (by omega)), within_at (hS'.1.trans hw) z_2_1 (.inr (by omega))⟩⟩ ⟨j, rfl, by omega⟩
    iterate 3 (refine' chainQ_read (DrawS.good _ _ _ _ _ _) _ rfl rfl (fun m w' hm' hS' => ?_) ?_; rotate_left; · (simp only [lookP, allP, Act.put, List.getElem?_cons_zero, List.getElem?_cons_succ, List.setIfInBounds_toArray, List.set_cons_zero, List.set_cons_succ]; (try dsimp only [DrawS] at hS'); go_simp; (try with_reducible rfl)))
    -- 8: buildSlice 43 3 #[(0, const (int i64 (-1))), (1, t35), (2, const (int i64 0))]
    refine chainQ_do (d := (some 36)) (fun v u => Since u3.heap.size u (fun z => Ints z v [(-1), Q, 0])) (fun v w1 w2 hw h => h.within hw (by omega)) rfl rfl (fun m w' hm' hS' => ?_) ?_
    · simp only [lookP, allP, Act.put, List.getElem?_cons_zero, List.getElem?_cons_succ, List.setIfInBounds_toArray, List.set_cons_zero, List.set_cons_succ]
      intro K hK
      replace hm' : m < 11 := hm'
      go_simp
      have hbn := (Below.refl w'.heap.size w').alloc (Nat.le_refl _) (.cells #[.int .i64 (-1), .int .i64 Q, .int .i64 0] 3)
      have hw := (Within.of_below hbn : Within g (g + 1) _ _)
      have hsz0 := hS'.1.size
      refine hK.out _ _ hw ⟨hS'.1.trans hw, (hS'.2.1.keep hbn).mono (by omega), ⟨within_at (hS'.1.trans hw) z_0_0 (.inr (by omega)), within_at (hS'.1.trans hw) z_0_1 (.inr (by omega)), within_at (hS'.1.trans hw) z_0_2 (.inr (by omega)), within_at (hS'.1.trans hw) z_2_0 (.inr (by omega)), within_at (hS'.1.trans hw) z_2_1 (.inr (by omega))⟩⟩ ?_
      exact Since.of_ownI (OwnI.lit (B := w'.heap.size) w' (Nat.le_refl _) (l := [(-1), Q, 0]) (AllI64.cons ⟨by decide, by decide⟩ (AllI64.cons (⟨by omega, by omega⟩ : I64 _) (AllI64.cons ⟨by decide, by decide⟩ AllI64.nil))) rfl (by simp [maxLen]) 3 rfl) (by omega)
    -- 9: call { callee := value (func 96), args := #[t33, t36], argTypes := #[104, 43] }
    refine chainQ_do (d := (some 37)) (fun v u => ∃ x : Int, v = .int .i64 x ∧ (-10 ≤ x ∧ x ≤ 2000000010)) (fun v w1 w2 hw h => h) rfl rfl (fun m w' hm' hS' => ?_) ?_
    · simp only [lookP, allP, Act.put, List.getElem?_cons_zero, List.getElem?_cons_succ, List.setIfInBounds_toArray, List.set_cons_zero, List.set_cons_succ]
      intro x8 hx8
      intro K hK
      replace hm' : m < 11 := hm'
      go_simp
      go_at_call 38
      refine (spec_among w0 g _ _ [-1, Q, 0] _ hS'.2.1 (hS'.1.belowOf (HW.out.belowOf HBW.out hge) hge) (by omega) (fun z hz => hx8 z hz.size (fun k h1 h2 => hz.block k h2 (by omega))) (by simp)).mono ?_
      rintro e u ⟨⟨x, rfl, hm⟩, hc, hw⟩
      exact hK.out _ _ hw ⟨hS'.1.trans hw, hc.mono (by omega), ⟨within_at (hS'.1.trans hw) z_0_0 (.inr (by omega)), within_at (hS'.1.trans hw) z_0_1 (.inr (by omega)), within_at (hS'.1.trans hw) z_0_2 (.inr (by omega)), within_at (hS'.1.trans hw) z_2_0 (.inr (by omega)), within_at (hS'.1.trans hw) z_2_1 (.inr (by omega))⟩⟩ ⟨x, rfl, by simp at hm; omega, by simp at hm; omega⟩
    -- 10: indexAddr 43 t29 t32
    refine chainQ_have (DrawS.good _ _ _ _ _ _) (d := (some 38)) (fun v u => ∃ y : Nat, v = .pointer (some ⟨rr, y, none⟩) ∧ y < yn) (fun v w1 w2 hw h => h) rfl rfl (fun m w' hm' hS' => ?_) ?_
    · simp only [lookP, allP, Act.put, List.getElem?_cons_zero, List.getElem?_cons_succ, List.setIfInBounds_toArray, List.set_cons_zero, List.set_cons_succ]
      intro x4 hx4
      obtain ⟨y, rfl, yl⟩ := hx4
      have yz : (0 : Int) ≤ (y : Int) := by omega
      have yn_ : (y : Int) < (yn : Int) := by omega
      refine ⟨.pointer (some ⟨rr, y, none⟩), ?_, y, rfl, yl⟩
      go_simp
    refine chainQ_nil (fun u4 hS' => ?_)
    simp only [allP, Act.put, List.setIfInBounds_toArray, List.set_cons_zero, List.set_cons_succ]
    intro x10 hx10
    intro x9 hx9
    intro x8 hx8
    intro x4 hx4
    replace hS' : DrawS w0 u3 g _ 10000 _ 11 u4 := hS'
    obtain ⟨hw, hc, hC⟩ := hS'
    have hsz4 := hw.size
    replace HZg := Lib.hid (HZg.out.kept hw (.inr (by omega)))
    replace HX0 := Lib.hid (HX0.out.kept hw (.inr (by omega)))
    replace HZ1 := Lib.hid (HZ1.out.kept hw (.inr (by omega)))
    replace HL1c := Lib.hid (HL1c.out.within hw (by omega))
    replace HW := Lib.hid (HW.out.trans hw)
    replace HC := Lib.hid hc
    clear hc hw hC
    clear z_0_0 z_0_1 z_0_2 z_1_0 z_1_1 z_2_0 z_2_1
    obtain ⟨jj, rfl, jlt⟩ := hx10
    obtain ⟨vx, rfl, vx1, vx2⟩ := hx9
    have hvi : I64 vx := ⟨by omega, by omega⟩
    clear hx4
    obtain ⟨_, e, _, hlr, hrx⟩ := HL1c.out.ob.at_ (by have := HYN.out; omega)
    cases e
    obtain ⟨r0, f0⟩ := hrx jj jlt
    have hrE := (HL1c.out.ob.lt rr rfl).2
    clear hrx hlr
    have ap_HZg := HL1c.out.ob.apart HZg.out (by decide) rr rfl
    have ap_HX0 := HL1c.out.ob.apart HX0.out (by decide) rr rfl
    have ap_HZ1 := HL1c.out.ob.apart HZ1.out (by decide) rr rfl
    go_wp2_with fail
    refine NoPanic.normal ?_
    obtain ⟨Y, hY⟩ : ∃ Y, Y = u4.setCell ⟨rr, jj, none⟩ (.int .i64 vx) := ⟨_, rfl⟩
    have hYl : Within rr (rr + 1) u4 Y := by rw [hY]; exact (Within.refl rr (rr + 1) u4).setCell (b := rr) (by omega) (by omega) jj (.int .i64 vx)
    have hszY := hYl.size
    have NO := Lib.hid (HL1c.out.storeB HYN.out jj hvi)
    have NC := Lib.hid (HC.out.setNew (b := rr) (by omega) jj (.int .i64 vx))
    have NW := Lib.hid (HW.out.setNew (b := rr) (by omega) jj (.int .i64 vx))
    rw [← hY] at NO NC NW ⊢
    clear hY r0 f0
    replace HZg := Lib.hid (HZg.out.kept hYl (by omega))
    replace HX0 := Lib.hid (HX0.out.kept hYl (by omega))
    replace HZ1 := Lib.hid (HZ1.out.kept hYl (by omega))
    replace HL1c := NO
    replace HC := NC
    replace HW := NW
    clear NO NC NW hYl
    replace HYN : Hid ((lb.set jj vx).length = yn) := by unfold Hid; rw [List.length_set]; exact HYN.out
    have z_0_0 := HZg.out.cell (i := 0) rfl
    have z_0_1 := HZg.out.cell (i := 1) rfl
    have z_0_2 := HZg.out.cell (i := 2) rfl
    have z_2_0 := HZ1.out.cell (i := 0) rfl
    have z_2_1 := HZ1.out.cell (i := 1) rfl
    have r_HX0_0 := HX0.out.cell (i := 0) rfl
    have r_HX0_1 := HX0.out.cell (i := 1) rfl
    have fr_HX0 := fun j => HX0.out.frozen j
    go_wp2_with fail
    have HSA := Lib.hid HL1c.out.oa
    have HSB := Lib.hid HL1c.out.ob
    have HLA : Hid (la.length ≤ 7) := by have := HXN.out; unfold Hid; omega
    have HLB : Hid ((lb.set jj vx).length ≤ 7) := by have := HYN.out; unfold Hid; omega
    have FHX0 := Lib.hid ((HX0.out.set 0 (.slice xa xn xc)).set 1 (.slice (some ⟨rr, 0, none⟩) yn yc))
    clear z_0_0 z_0_1 z_0_2 z_2_0 z_2_1 r_HX0_0 r_HX0_1 fr_HX0
    have t_HX0_0 := FHX0.out.cell (i := 0) rfl
    have t_HX0_1 := FHX0.out.cell (i := 1) rfl
    try (go_wp2_with fail)
    refine bodyPost_ret (v := .agg #[.slice xa xn xc, .slice (some ⟨rr, 0, none⟩) yn yc]) (by simp [results, Tryz.results48, go_sem, t_HX0_0, t_HX0_1]) rfl ⟨⟨_, _, _, _, rfl, ⟨((HSA.out.other (b := w.heap.size + 1) (by omega) 0 (.slice xa xn xc)).other (b := w.heap.size + 1) (by omega) 1 (.slice (some ⟨rr, 0, none⟩) yn yc)).mono (by omega), HLA.out⟩, ⟨((HSB.out.other (b := w.heap.size + 1) (by omega) 0 (.slice xa xn xc)).other (b := w.heap.size + 1) (by omega) 1 (.slice (some ⟨rr, 0, none⟩) yn yc)).mono (by omega), HLB.out⟩⟩, ((HC.out.setNew (b := w.heap.size + 1) (by omega) 0 (.slice xa xn xc)).setNew (b := w.heap.size + 1) (by omega) 1 (.slice (some ⟨rr, 0, none⟩) yn yc)).mono (by omega), (((HWw.out.trans HW.out).setNew (b := w.heap.size + 1) (by omega) 0 (.slice xa xn xc)).setNew (b := w.heap.size + 1) (by omega) 1 (.slice (some ⟨rr, 0, none⟩) yn yc))⟩
  · subst hj
    obtain ⟨rr, e, hrr, hlr, hrx⟩ := HL1c.out.ob.at_ (by have := HYN.out; omega)
    cases e
    have hrlt := (HL1c.out.ob.lt rr rfl).2
    clear hrx hlr
    have hnp : 0 < yn := by omega
    have z_0_0 := HZg.out.cell (i := 0) rfl
    have z_0_1 := HZg.out.cell (i := 1) rfl
    have z_0_2 := HZg.out.cell (i := 2) rfl
    have z_1_0 := HX0.out.cell (i := 0) rfl
    have z_1_1 := HX0.out.cell (i := 1) rfl
    have z_2_0 := HZ1.out.cell (i := 0) rfl
    have z_2_1 := HZ1.out.cell (i := 1) rfl
    try (go_wp2_with fail)
    refine wp_region_noPanic ?_
    refine wp_region_Q (Within g (g + 1)) (DrawS w0 u3 g _ 10000 (fun w' => w'.cell? ⟨w.heap.size, 0, none⟩ = some (.int .i64 P) ∧ w'.cell? ⟨w.heap.size, 1, none⟩ = some (.int .i64 Q) ∧ w'.cell? ⟨w.heap.size, 2, none⟩ = some (.int .i64 G) ∧ w'.cell? ⟨u1.heap.size, 0, none⟩ = some (.slice xa xn xc) ∧ w'.cell? ⟨u1.heap.size, 1, none⟩ = some (.slice (some ⟨rr, 0, none⟩) yn yc))) 12 [(0, []), (1, [0]), (2, []), (3, []), (4, [1, 0]), (5, []), (6, []), (7, [1, 0]), (8, [6, 3])] [9] (by kernel_rfl) (by kernel_rfl) (by kernel_rfl) rfl (fun _ _ _ _ h => h) (DrawS.good _ _ _ _ _ _) ⟨(Within.refl _ _ _).drew, by simpa using HC.out.keep (Below.refl _ _).drew, ⟨box_at z_0_0 (Below.refl _ _).drew, box_at z_0_1 (Below.refl _ _).drew, box_at z_0_2 (Below.refl _ _).drew, box_at z_2_0 (Below.refl _ _).drew, box_at z_2_1 (Below.refl _ _).drew⟩⟩ ?_
    simp only [pickP, pickN, List.getElem?_cons_zero, List.getElem?_cons_succ]
    iterate 4 (refine' chainQ_read (DrawS.good _ _ _ _ _ _) _ rfl rfl (fun m w' hm' hS' => ?_) ?_; rotate_left; · (simp only [lookP, allP, Act.put, List.getElem?_cons_zero, List.getElem?_cons_succ, List.setIfInBounds_toArray, List.set_cons_zero, List.set_cons_succ]; (try dsimp only [DrawS] at hS'); go_simp; (try with_reducible rfl)))
    -- 4: call { callee := value (func 95), args := #[t44, t45], argTypes := #[104, 3] }
    refine chainQ_do (d := (some 46)) (fun v u => ∃ j : Nat, v = .int .i64 (j : Int) ∧ j < yn) (fun v w1 w2 hw h => h) rfl rfl (fun m w' hm' hS' => ?_) ?_
    · simp only [lookP, allP, Act.put, List.getElem?_cons_zero, List.getElem?_cons_succ, List.setIfInBounds_toArray, List.set_cons_zero, List.set_cons_succ]
      intro K hK
      replace hm' : m < 9 := hm'
      go_simp
      go_at_call 22
      refine (spec_pick w0 g _ (yn : Int) _ hS'.2.1 (hS'.1.belowOf (HW.out.belowOf HBW.out hge) hge) (by omega)).mono ?_
      rintro e u ⟨⟨x, rfl, x0, _, xm, _⟩, hc, hw⟩
      obtain ⟨j, rfl⟩ := Int.eq_ofNat_of_zero_le x0
      replace xm := xm (by omega)
      exact hK.out _ _ hw ⟨hS'.1.trans hw, hc.mono (by omega), ⟨within_at (hS'.1.trans hw) z_0_0 (.inr (by omega)), within_at (hS'.1.trans hw) z_0_1 (.inr (by omega)), within_at (hS'.1.trans hw) z_0_2 (.inr (by omega)), within_at (hS'.1.trans hw) z_2_0 (.inr (by omega)), within_at (hS'.1.trans hw) z_2_1 (.inr (by omega))⟩⟩ ⟨j, rfl, by omega⟩
    iterate 2 (refine' chainQ_read (DrawS.good _ _ _ _ _ _) _ rfl rfl (fun m w' hm' hS' => ?_) ?_; rotate_left; · (simp only [lookP, allP, Act.put, List.getElem?_cons_zero, List.getElem?_cons_succ, List.setIfInBounds_toArray, List.set_cons_zero, List.set_cons_succ]; (try dsimp only [DrawS] at hS'); go_simp; (try with_reducible rfl)))
    -- 7: call { callee := value (func 85), args := #[t47, t48], argTypes := #[104, 24] }
    refine chainQ_do (d := (some 49)) (fun v u => ∃ (xq7 : Int), v = (.int .i64 xq7) ∧ (-10 ≤ xq7 ∧ xq7 ≤ 2000000010)) (fun v w1 w2 hw h => h) rfl rfl (fun m w' hm' hS' => ?_) ?_
    · simp only [lookP, allP, Act.put, List.getElem?_cons_zero, List.getElem?_cons_succ, List.setIfInBounds_toArray, List.set_cons_zero, List.set_cons_succ]
      intro K hK
      replace hm' : m < 9 := hm'
      go_simp
      go_at_call 77
      refine (spec_expo w0 g _ P Q G _ hS'.2.1 (hS'.1.belowOf (HW.out.belowOf HBW.out hge) hge) (by omega) HGR.out).mono ?_
      rintro e u ⟨⟨xq7, rfl, xq7l, xq7u⟩, hc, hw⟩
      exact hK.out _ _ hw ⟨hS'.1.trans hw, hc.mono (by omega), ⟨within_at (hS'.1.trans hw) z_0_0 (.inr (by omega)), within_at (hS'.1.trans hw) z_0_1 (.inr (by omega)), within_at (hS'.1.trans hw) z_0_2 (.inr (by omega)), within_at (hS'.1.trans hw) z_2_0 (.inr (by omega)), within_at (hS'.1.trans hw) z_2_1 (.inr (by omega))⟩⟩ ⟨xq7, rfl, ⟨by omega, xq7u⟩⟩
    -- 8: indexAddr 43 t43 t46
    refine chainQ_have (DrawS.good _ _ _ _ _ _) (d := (some 50)) (fun v u => ∃ y : Nat, v = .pointer (some ⟨rr, y, none⟩) ∧ y < yn) (fun v w1 w2 hw h => h) rfl rfl (fun m w' hm' hS' => ?_) ?_
    · simp only [lookP, allP, Act.put, List.getElem?_cons_zero, List.getElem?_cons_succ, List.setIfInBounds_toArray, List.set_cons_zero, List.set_cons_succ]
      intro x4 hx4
      obtain ⟨y, rfl, yl⟩ := hx4
      have yz : (0 : Int) ≤ (y : Int) := by omega
      have yn_ : (y : Int) < (yn : Int) := by omega
      refine ⟨.pointer (some ⟨rr, y, none⟩), ?_, y, rfl, yl⟩
      go_simp
    refine chainQ_nil (fun u4 hS' => ?_)
    simp only [allP, Act.put, List.setIfInBounds_toArray, List.set_cons_zero, List.set_cons_succ]
    intro x8 hx8
    intro x7 hx7
    intro x4 hx4
    replace hS' : DrawS w0 u3 g _ 10000 _ 9 u4 := hS'
    obtain ⟨hw, hc, hC⟩ := hS'
    obtain ⟨xq7, rfl, xq7l, xq7u⟩ := hx7
    have hsz4 := hw.size
    replace HZg := Lib.hid (HZg.out.kept hw (.inr (by omega)))
    replace HX0 := Lib.hid (HX0.out.kept hw (.inr (by omega)))
    replace HZ1 := Lib.hid (HZ1.out.kept hw (.inr (by omega)))
    replace HL1c := Lib.hid (HL1c.out.within hw (by omega))
    replace HW := Lib.hid (HW.out.trans hw)
    replace HC := Lib.hid hc
    clear hc hw hC
    clear z_0_0 z_0_1 z_0_2 z_1_0 z_1_1 z_2_0 z_2_1
    obtain ⟨jj, rfl, jlt⟩ := hx8
    have hvi : I64 xq7 := ⟨by omega, by omega⟩
    clear hx4
    obtain ⟨_, e, _, hlr, hrx⟩ := HL1c.out.ob.at_ (by have := HYN.out; omega)
    cases e
    obtain ⟨r0, f0⟩ := hrx jj jlt
    have hrE := (HL1c.out.ob.lt rr rfl).2
    clear hrx hlr
    have ap_HZg := HL1c.out.ob.apart HZg.out (by decide) rr rfl
    have ap_HX0 := HL1c.out.ob.apart HX0.out (by decide) rr rfl
    have ap_HZ1 := HL1c.out.ob.apart HZ1.out (by decide) rr rfl
    go_wp2_with fail
    refine NoPanic.normal ?_
    obtain ⟨Y, hY⟩ : ∃ Y, Y = u4.setCell ⟨rr, jj, none⟩ (.int .i64 xq7) := ⟨_, rfl⟩
    have hYl : Within rr (rr + 1) u4 Y := by rw [hY]; exact (Within.refl rr (rr + 1) u4).setCell (b := rr) (by omega) (by omega) jj (.int .i64 xq7)
    have hszY := hYl.size
    have NO := Lib.hid (HL1c.out.storeB HYN.out jj hvi)
    have NC := Lib.hid (HC.out.setNew (b := rr) (by omega) jj (.int .i64 xq7))
    have NW := Lib.hid (HW.out.setNew (b := rr) (by omega) jj (.int .i64 xq7))
    rw [← hY] at NO NC NW ⊢
    clear hY r0 f0
    replace HZg := Lib.hid (HZg.out.kept hYl (by omega))
    replace HX0 := Lib.hid (HX0.out.kept hYl (by omega))
    replace HZ1 := Lib.hid (HZ1.out.kept hYl (by omega))
    replace HL1c := NO
    replace HC := NC
    replace HW := NW
    clear NO NC NW hYl
    replace HYN : Hid ((lb.set jj xq7).length = yn) := by unfold Hid; rw [List.length_set]; exact HYN.out
    have z_0_0 := HZg.out.cell (i := 0) rfl
    have z_0_1 := HZg.out.cell (i := 1) rfl
    have z_0_2 := HZg.out.cell (i := 2) rfl
    have z_2_0 := HZ1.out.cell (i := 0) rfl
    have z_2_1 := HZ1.out.cell (i := 1) rfl
    have r_HX0_0 := HX0.out.cell (i := 0) rfl
    have r_HX0_1 := HX0.out.cell (i := 1) rfl
    have fr_HX0 := fun j => HX0.out.frozen j
    go_wp2_with fail
    have HSA := Lib.hid HL1c.out.oa
    have HSB := Lib.hid HL1c.out.ob
    have HLA : Hid (la.length ≤ 7) := by have := HXN.out; unfold Hid; omega
    have HLB : Hid ((lb.set jj xq7).length ≤ 7) := by have := HYN.out; unfold Hid; omega
    have FHX0 := Lib.hid ((HX0.out.set 0 (.slice xa xn xc)).set 1 (.slice (some ⟨rr, 0, none⟩) yn yc))
    clear z_0_0 z_0_1 z_0_2 z_2_0 z_2_1 r_HX0_0 r_HX0_1 fr_HX0
    have t_HX0_0 := FHX0.out.cell (i := 0) rfl
    have t_HX0_1 := FHX0.out.cell (i := 1) rfl
    try (go_wp2_with fail)
    refine bodyPost_ret (v := .agg #[.slice xa xn xc, .slice (some ⟨rr, 0, none⟩) yn yc]) (by simp [results, Tryz.results48, go_sem, t_HX0_0, t_HX0_1]) rfl ⟨⟨_, _, _, _, rfl, ⟨((HSA.out.other (b := w.heap.size + 1) (by omega) 0 (.slice xa xn xc)).other (b := w.heap.size + 1) (by omega) 1 (.slice (some ⟨rr, 0, none⟩) yn yc)).mono (by omega), HLA.out⟩, ⟨((HSB.out.other (b := w.heap.size + 1) (by omega) 0 (.slice xa xn xc)).other (b := w.heap.size + 1) (by omega) 1 (.slice (some ⟨rr, 0, none⟩) yn yc)).mono (by omega), HLB.out⟩⟩, ((HC.out.setNew (b := w.heap.size + 1) (by omega) 0 (.slice xa xn xc)).setNew (b := w.heap.size + 1) (by omega) 1 (.slice (some ⟨rr, 0, none⟩) yn yc)).mono (by omega), (((HWw.out.trans HW.out).setNew (b := w.heap.size + 1) (by omega) 0 (.slice xa xn xc)).setNew (b := w.heap.size + 1) (by omega) 1 (.slice (some ⟨rr, 0, none⟩) yn yc))⟩
  · subst hj
    obtain ⟨rr, e, hrr, hlr, hrx⟩ := HL1c.out.ob.at_ (by have := HYN.out; omega)
    cases e
    have hrlt := (HL1c.out.ob.lt rr rfl).2
    clear hrx hlr
    have hnp : 0 < yn := by omega
    have z_0_0 := HZg.out.cell (i := 0) rfl
    have z_0_1 := HZg.out.cell (i := 1) rfl
    have z_0_2 := HZg.out.cell (i := 2) rfl
    have z_1_0 := HX0.out.cell (i := 0) rfl
    have z_1_1 := HX0.out.cell (i := 1) rfl
    have z_2_0 := HZ1.out.cell (i := 0) rfl
    have z_2_1 := HZ1.out.cell (i := 1) rfl
    try (go_wp2_with fail)
    refine wp_region_noPanic ?_
    refine wp_region_Q (Within g (g + 1)) (DrawS w0 u3 g _ 10000 (fun w' => w'.cell? ⟨w.heap.size, 0, none⟩ = some (.int .i64 P) ∧ w'.cell? ⟨w.heap.size, 1, none⟩ = some (.int .i64 Q) ∧ w'.cell? ⟨w.heap.size, 2, none⟩ = some (.int .i64 G) ∧ w'.cell? ⟨u1.heap.size, 0, none⟩ = some (.slice xa xn xc) ∧ w'.cell? ⟨u1.heap.size, 1, none⟩ = some (.slice (some ⟨rr, 0, none⟩) yn yc))) 12 [(0, []), (1, [0]), (2, []), (3, []), (4, [1, 0]), (5, []), (6, []), (7, [1, 0]), (8, [6, 3])] [9] (by kernel_rfl) (by kernel_rfl) (by kernel_rfl) rfl (fun _ _ _ _ h => h) (DrawS.good _ _ _ _ _ _) ⟨(Within.refl _ _ _).drew, by simpa using HC.out.keep (Below.refl _ _).drew, ⟨box_at z_0_0 (Below.refl _ _).drew, box_at z_0_1 (Below.refl _ _).drew, box_at z_0_2 (Below.refl _ _).drew, box_at z_2_0 (Below.refl _ _).drew, box_at z_2_1 (Below.refl _ _).drew⟩⟩ ?_
    simp only [pickP, pickN, List.getElem?_cons_zero, List.getElem?_cons_succ]
    iterate 4 (refine' chainQ_read (DrawS.good _ _ _ _ _ _) _ rfl rfl (fun m w' hm' hS' => ?_) ?_; rotate_left; · (simp only [lookP, allP, Act.put, List.getElem?_cons_zero, List.getElem?_cons_succ, List.setIfInBounds_toArray, List.set_cons_zero, List.set_cons_succ]; (try dsimp only [DrawS] at hS'); go_simp; (try with_reducible rfl)))
    -- 4: call { callee := value (func 95), args := #[t44, t45], argTypes := #[104, 3] }
    refine chainQ_do (d := (some 46)) (fun v u => ∃ j : Nat, v = .int .i64 (j : Int) ∧ j < yn) (fun v w1 w2 hw h => h) rfl rfl (fun m w' hm' hS' => ?_) ?_
    · simp only [lookP, allP, Act.put, List.getElem?_cons_zero, List.getElem?_cons_succ, List.setIfInBounds_toArray, List.set_cons_zero, List.set_cons_succ]
      intro K hK
      replace hm' : m < 9 := hm'
      go_simp
      go_at_call 22
      refine (spec_pick w0 g _ (yn : Int) _ hS'.2.1 (hS'.1.belowOf (HW.out.belowOf HBW.out hge) hge) (by omega)).mono ?_
      rintro e u ⟨⟨x, rfl, x0, _, xm, _⟩, hc, hw⟩
      obtain ⟨j, rfl⟩ := Int.eq_ofNat_of_zero_le x0
      replace xm := xm (by omega)
      exact hK.out _ _ hw ⟨hS'.1.trans hw, hc.mono (by omega), ⟨within_at (hS'.1.trans hw) z_0_0 (.inr (by omega)), within_at (hS'.1.trans hw) z_0_1 (.inr (by omega)), within_at (hS'.1.trans hw) z_0_2 (.inr (by omega)), within_at (hS'.1.trans hw) z_2_0 (.inr (by omega)), within_at (hS'.1.trans hw) z_2_1 (.inr (by omega))⟩⟩ ⟨j, rfl, by omega⟩
    iterate 2 (refine' chainQ_read (DrawS.good _ _ _ _ _ _) _ rfl rfl (fun m w' hm' hS' => ?_) ?_; rotate_left; · (simp only [lookP, allP, Act.put, List.getElem?_cons_zero, List.getElem?_cons_succ, List.setIfInBounds_toArray, List.set_cons_zero, List.set_cons_succ]; (try dsimp only [DrawS] at hS'); go_simp; (try with_reducible rfl)))
    -- 7: call { callee := value (func 85), args := #[t47, t48], argTypes := #[104, 24] }
    refine chainQ_do (d := (some 49)) (fun v u => ∃ (xq7 : Int), v = (.int .i64 xq7) ∧ (-10 ≤ xq7 ∧ xq7 ≤ 2000000010)) (fun v w1 w2 hw h => h) rfl rfl (fun m w' hm' hS' => ?_) ?_
    · simp only [lookP, allP, Act.put, List.getElem?_cons_zero, List.getElem?_cons_succ, List.setIfInBounds_toArray, List.set_cons_zero, List.set_cons_succ]
      intro K hK
      replace hm' : m < 9 := hm'
      go_simp
      go_at_call 77
      refine (spec_expo w0 g _ P Q G _ hS'.2.1 (hS'.1.belowOf (HW.out.belowOf HBW.out hge) hge) (by omega) HGR.out).mono ?_
      rintro e u ⟨⟨xq7, rfl, xq7l, xq7u⟩, hc, hw⟩
      exact hK.out _ _ hw ⟨hS'.1.trans hw, hc.mono (by omega), ⟨within_at (hS'.1.trans hw) z_0_0 (.inr (by omega)), within_at (hS'.1.trans hw) z_0_1 (.inr (by omega)), within_at (hS'.1.trans hw) z_0_2 (.inr (by omega)), within_at (hS'.1.trans hw) z_2_0 (.inr (by omega)), within_at (hS'.1.trans hw) z_2_1 (.inr (by omega))⟩⟩ ⟨xq7, rfl, ⟨by omega, xq7u⟩⟩
    -- 8: indexAddr 43 t43 t46
    refine chainQ_have (DrawS.good _ _ _ _ _ _) (d := (some 50)) (fun v u => ∃ y : Nat, v = .pointer (some ⟨rr, y, none⟩) ∧ y < yn) (fun v w1 w2 hw h => h) rfl rfl (fun m w' hm' hS' => ?_) ?_
    · simp only [lookP, allP, Act.put, List.getElem?_cons_zero, List.getElem?_cons_succ, List.setIfInBounds_toArray, List.set_cons_zero, List.set_cons_succ]
      intro x4 hx4
      obtain ⟨y, rfl, yl⟩ := hx4
      have yz : (0 : Int) ≤ (y : Int) := by omega
      have yn_ : (y : Int) < (yn : Int) := by omega
      refine ⟨.pointer (some ⟨rr, y, none⟩), ?_, y, rfl, yl⟩
      go_simp
    refine chainQ_nil (fun u4 hS' => ?_)
    simp only [allP, Act.put, List.setIfInBounds_toArray, List.set_cons_zero, List.set_cons_succ]
    intro x8 hx8
    intro x7 hx7
    intro x4 hx4
    replace hS' : DrawS w0 u3 g _ 10000 _ 9 u4 := hS'
    obtain ⟨hw, hc, hC⟩ := hS'
    obtain ⟨xq7, rfl, xq7l, xq7u⟩ := hx7
    have hsz4 := hw.size
    replace HZg := Lib.hid (HZg.out.kept hw (.inr (by omega)))
    replace HX0 := Lib.hid (HX0.out.kept hw (.inr (by omega)))
    replace HZ1 := Lib.hid (HZ1.out.kept hw (.inr (by omega)))
    replace HL1c := Lib.hid (HL1c.out.within hw (by omega))
    replace HW := Lib.hid (HW.out.trans hw)
    replace HC := Lib.hid hc
    clear hc hw hC
    clear z_0_0 z_0_1 z_0_2 z_1_0 z_1_1 z_2_0 z_2_1
    obtain ⟨jj, rfl, jlt⟩ := hx8
    have hvi : I64 xq7 := ⟨by omega, by omega⟩
    clear hx4
    obtain ⟨_, e, _, hlr, hrx⟩ := HL1c.out.ob.at_ (by have := HYN.out; omega)
    cases e
    obtain ⟨r0, f0⟩ := hrx jj jlt
    have hrE := (HL1c.out.ob.lt rr rfl).2
    clear hrx hlr
    have ap_HZg := HL1c.out.ob.apart HZg.out (by decide) rr rfl
    have ap_HX0 := HL1c.out.ob.apart HX0.out (by decide) rr rfl
    have ap_HZ1 := HL1c.out.ob.apart HZ1.out (by decide) rr rfl
    go_wp2_with fail
    refine NoPanic.normal ?_
    obtain ⟨Y, hY⟩ : ∃ Y, Y = u4.setCell ⟨rr, jj, none⟩ (.int .i64 xq7) := ⟨_, rfl⟩
    have hYl : Within rr (rr + 1) u4 Y := by rw [hY]; exact (Within.refl rr (rr + 1) u4).setCell (b := rr) (by omega) (by omega) jj (.int .i64 xq7)
    have hszY := hYl.size
    have NO := Lib.hid (HL1c.out.storeB HYN.out jj hvi)
    have NC := Lib.hid (HC.out.setNew (b := rr) (by omega) jj (.int .i64 xq7))
    have NW := Lib.hid (HW.out.setNew (b := rr) (by omega) jj (.int .i64 xq7))
    rw [← hY] at NO NC NW ⊢
    clear hY r0 f0
    replace HZg := Lib.hid (HZg.out.kept hYl (by omega))
    replace HX0 := Lib.hid (HX0.out.kept hYl (by omega))
    replace HZ1 := Lib.hid (HZ1.out.kept hYl (by omega))
    replace HL1c := NO
    replace HC := NC
    replace HW := NW
    clear NO NC NW hYl
    replace HYN : Hid ((lb.set jj xq7).length = yn) := by unfold Hid; rw [List.length_set]; exact HYN.out
    have z_0_0 := HZg.out.cell (i := 0) rfl
    have z_0_1 := HZg.out.cell (i := 1) rfl
    have z_0_2 := HZg.out.cell (i := 2) rfl
    have z_2_0 := HZ1.out.cell (i := 0) rfl
    have z_2_1 := HZ1.out.cell (i := 1) rfl
    have r_HX0_0 := HX0.out.cell (i := 0) rfl
    have r_HX0_1 := HX0.out.cell (i := 1) rfl
    have fr_HX0 := fun j => HX0.out.frozen j
    go_wp2_with fail
    have HSA := Lib.hid HL1c.out.oa
    have HSB := Lib.hid HL1c.out.ob
    have HLA : Hid (la.length ≤ 7) := by have := HXN.out; unfold Hid; omega
    have HLB : Hid ((lb.set jj xq7).length ≤ 7) := by have := HYN.out; unfold Hid; omega
    have FHX0 := Lib.hid ((HX0.out.set 0 (.slice xa xn xc)).set 1 (.slice (some ⟨rr, 0, none⟩) yn yc))
    clear z_0_0 z_0_1 z_0_2 z_2_0 z_2_1 r_HX0_0 r_HX0_1 fr_HX0
    have t_HX0_0 := FHX0.out.cell (i := 0) rfl
    have t_HX0_1 := FHX0.out.cell (i := 1) rfl
    try (go_wp2_with fail)
    refine bodyPost_ret (v := .agg #[.slice xa xn xc, .slice (some ⟨rr, 0, none⟩) yn yc]) (by simp [results, Tryz.results48, go_sem, t_HX0_0, t_HX0_1]) rfl ⟨⟨_, _, _, _, rfl, ⟨((HSA.out.other (b := w.heap.size + 1) (by omega) 0 (.slice xa xn xc)).other (b := w.heap.size + 1) (by omega) 1 (.slice (some ⟨rr, 0, none⟩) yn yc)).mono (by omega), HLA.out⟩, ⟨((HSB.out.other (b := w.heap.size + 1) (by omega) 0 (.slice xa xn xc)).other (b := w.heap.size + 1) (by omega) 1 (.slice (some ⟨rr, 0, none⟩) yn yc)).mono (by omega), HLB.out⟩⟩, ((HC.out.setNew (b := w.heap.size + 1) (by omega) 0 (.slice xa xn xc)).setNew (b := w.heap.size + 1) (by omega) 1 (.slice (some ⟨rr, 0, none⟩) yn yc)).mono (by omega), (((HWw.out.trans HW.out).setNew (b := w.heap.size + 1) (by omega) 0 (.slice xa xn xc)).setNew (b := w.heap.size + 1) (by omega) 1 (.slice (some ⟨rr, 0, none⟩) yn yc))⟩
  · subst hj
    obtain ⟨rr, e, hrr, hlr, hrx⟩ := HL1c.out.oa.at_ (by have := HXN.out; omega)
    cases e
    have hrlt := (HL1c.out.oa.lt rr rfl).2
    clear hrx hlr
    have hnp : 0 < xn := by omega
    have z_0_0 := HZg.out.cell (i := 0) rfl
    have z_0_1 := HZg.out.cell (i := 1) rfl
    have z_0_2 := HZg.out.cell (i := 2) rfl
    have z_1_0 := HX0.out.cell (i := 0) rfl
    have z_1_1 := HX0.out.cell (i := 1) rfl
    have z_2_0 := HZ1.out.cell (i := 0) rfl
    have z_2_1 := HZ1.out.cell (i := 1) rfl
    try (go_wp2_with fail)
    refine wp_region_noPanic ?_
    refine wp_region_Q (Within g (g + 1)) (DrawS w0 u3 g _ 10000 (fun w' => w'.cell? ⟨w.heap.size, 0, none⟩ = some (.int .i64 P) ∧ w'.cell? ⟨w.heap.size, 1, none⟩ = some (.int .i64 Q) ∧ w'.cell? ⟨w.heap.size, 2, none⟩ = some (.int .i64 G) ∧ w'.cell? ⟨u1.heap.size, 0, none⟩ = some (.slice (some ⟨rr, 0, none⟩) xn xc) ∧ w'.cell? ⟨u1.heap.size, 1, none⟩ = some (.slice ya yn yc))) 14 [(0, []), (1, [0]), (2, []), (3, []), (4, [0]), (5, [0]), (6, [3, 0]), (7, []), (8, []), (9, [1, 0]), (10, [8, 3])] [11] (by kernel_rfl) (by kernel_rfl) (by kernel_rfl) rfl (fun _ _ _ _ h => h) (DrawS.good _ _ _ _ _ _) ⟨(Within.refl _ _ _).drew, by simpa using HC.out.keep (Below.refl _ _).drew, ⟨box_at z_0_0 (Below.refl _ _).drew, box_at z_0_1 (Below.refl _ _).drew, box_at z_0_2 (Below.refl _ _).drew, box_at z_2_0 (Below.refl _ _).drew, box_at z_2_1 (Below.refl _ _).drew⟩⟩ ?_
    simp only [pickP, pickN, List.getElem?_cons_zero, List.getElem?_cons_succ]
    iterate 6 (refine' chainQ_read (DrawS.good _ _ _ _ _ _) _ rfl rfl (fun m w' hm' hS' => ?_) ?_; rotate_left; · (simp only [lookP, allP, Act.put, List.getElem?_cons_zero, List.getElem?_cons_succ, List.setIfInBounds_toArray, List.set_cons_zero, List.set_cons_succ]; (try dsimp only [DrawS] at hS'); go_simp; (try with_reducible rfl)))
    -- 6: call { callee := value (func 95), args := #[t55, t58], argTypes := #[104, 3] }
    refine chainQ_do (d := (some 59)) (fun v u => ∃ j : Nat, v = .int .i64 (j : Int) ∧ j < xn) (fun v w1 w2 hw h => h) rfl rfl (fun m w' hm' hS' => ?_) ?_
    · simp only [lookP, allP, Act.put, List.getElem?_cons_zero, List.getElem?_cons_succ, List.setIfInBounds_toArray, List.set_cons_zero, List.set_cons_succ]
      intro K hK
      replace hm' : m < 11 := hm'
      go_simp
      go_at_call 22
      refine (spec_pick w0 g _ (xn : Int) _ hS'.2.1 (hS'.1.belowOf (HW.out.belowOf HBW.out hge) hge) (by omega)).mono ?_
      rintro e u ⟨⟨x, rfl, x0, _, xm, _⟩, hc, hw⟩
      obtain ⟨j, rfl⟩ := Int.eq_ofNat_of_zero_le x0
      replace xm := xm (by omega)
      exact hK.out _ _ hw ⟨hS'.1.trans hw, hc.mono (by omega), ⟨within_at (hS'.1.trans hw) z_0_0 (.inr (by omega)), within_at (hS'.1.trans hw) z_0_1 (.inr (by omega)), within_at (hS'.1.trans hw) z_0_2 (.inr (by omega)), within_at (hS'.1.trans hw) z_2_0 (.inr (by omega)), within_at (hS'.1.trans hw) z_2_1 (.inr (by omega))⟩⟩ ⟨j, rfl, by omega⟩
    iterate 2 (refine' chainQ_read (DrawS.good _ _ _ _ _ _) _ rfl rfl (fun m w' hm' hS' => ?_) ?_; rotate_left; · (simp only [lookP, allP, Act.put, List.getElem?_cons_zero, List.getElem?_cons_succ, List.setIfInBounds_toArray, List.set_cons_zero, List.set_cons_succ]; (try dsimp only [DrawS] at hS'); go_simp; (try with_reducible rfl)))
    -- 9: call { callee := value (func 67), args := #[t60, t61], argTypes := #[104, 24] }
    refine chainQ_do (d := (some 62)) (fun v u => ∃ (xq9 : Int), v = (.int .i64 xq9) ∧ (-10 ≤ xq9 ∧ xq9 ≤ 2000000010)) (fun v w1 w2 hw h => h) rfl rfl (fun m w' hm' hS' => ?_) ?_
    · simp only [lookP, allP, Act.put, List.getElem?_cons_zero, List.getElem?_cons_succ, List.setIfInBounds_toArray, List.set_cons_zero, List.set_cons_succ]
      intro K hK
      replace hm' : m < 11 := hm'
      go_simp
      go_at_call 90
      refine (spec_anyElement w0 g _ P Q G _ hS'.2.1 (hS'.1.belowOf (HW.out.belowOf HBW.out hge) hge) (by omega) HGR.out).mono ?_
      rintro e u ⟨⟨xq9, rfl, xq9l, xq9u⟩, hc, hw⟩
      exact hK.out _ _ hw ⟨hS'.1.trans hw, hc.mono (by omega), ⟨within_at (hS'.1.trans hw) z_0_0 (.inr (by omega)), within_at (hS'.1.trans hw) z_0_1 (.inr (by omega)), within_at (hS'.1.trans hw) z_0_2 (.inr (by omega)), within_at (hS'.1.trans hw) z_2_0 (.inr (by omega)), within_at (hS'.1.trans hw) z_2_1 (.inr (by omega))⟩⟩ ⟨xq9, rfl, ⟨xq9l, xq9u⟩⟩
    -- 10: indexAddr 43 t54 t59
    refine chainQ_have (DrawS.good _ _ _ _ _ _) (d := (some 63)) (fun v u => ∃ y : Nat, v = .pointer (some ⟨rr, y, none⟩) ∧ y < xn) (fun v w1 w2 hw h => h) rfl rfl (fun m w' hm' hS' => ?_) ?_
    · simp only [lookP, allP, Act.put, List.getElem?_cons_zero, List.getElem?_cons_succ, List.setIfInBounds_toArray, List.set_cons_zero, List.set_cons_succ]
      intro x6 hx6
      obtain ⟨y, rfl, yl⟩ := hx6
      have yz : (0 : Int) ≤ (y : Int) := by omega
      have yn_ : (y : Int) < (xn : Int) := by omega
      refine ⟨.pointer (some ⟨rr, y, none⟩), ?_, y, rfl, yl⟩
      go_simp
    refine chainQ_nil (fun u4 hS' => ?_)
    simp only [allP, Act.put, List.setIfInBounds_toArray, List.set_cons_zero, List.set_cons_succ]
    intro x10 hx10
    intro x9 hx9
    intro x6 hx6
    replace hS' : DrawS w0 u3 g _ 10000 _ 11 u4 := hS'
    obtain ⟨hw, hc, hC⟩ := hS'
    obtain ⟨xq9, rfl, xq9l, xq9u⟩ := hx9
    have hsz4 := hw.size
    replace HZg := Lib.hid (HZg.out.kept hw (.inr (by omega)))
    replace HX0 := Lib.hid (HX0.out.kept hw (.inr (by omega)))
    replace HZ1 := Lib.hid (HZ1.out.kept hw (.inr (by omega)))
    replace HL1c := Lib.hid (HL1c.out.within hw (by omega))
    replace HW := Lib.hid (HW.out.trans hw)
    replace HC := Lib.hid hc
    clear hc hw hC
    clear z_0_0 z_0_1 z_0_2 z_1_0 z_1_1 z_2_0 z_2_1
    obtain ⟨jj, rfl, jlt⟩ := hx10
    have hvi : I64 xq9 := ⟨by omega, by omega⟩
    clear hx6
    obtain ⟨_, e, _, hlr, hrx⟩ := HL1c.out.oa.at_ (by have := HXN.out; omega)
    cases e
    obtain ⟨r0, f0⟩ := hrx jj jlt
    have hrE := (HL1c.out.oa.lt rr rfl).2
    clear hrx hlr
    have ap_HZg := HL1c.out.oa.apart HZg.out (by decide) rr rfl
    have ap_HX0 := HL1c.out.oa.apart HX0.out (by decide) rr rfl
    have ap_HZ1 := HL1c.out.oa.apart HZ1.out (by decide) rr rfl
    go_wp2_with fail
    refine NoPanic.normal ?_
    obtain ⟨Y, hY⟩ : ∃ Y, Y = u4.setCell ⟨rr, jj, none⟩ (.int .i64 xq9) := ⟨_, rfl⟩
    have hYl : Within rr (rr + 1) u4 Y := by rw [hY]; exact (Within.refl rr (rr + 1) u4).setCell (b := rr) (by omega) (by omega) jj (.int .i64 xq9)
    have hszY := hYl.size
    have NO := Lib.hid (HL1c.out.storeA HXN.out jj hvi)
    have NC := Lib.hid (HC.out.setNew (b := rr) (by omega) jj (.int .i64 xq9))
    have NW := Lib.hid (HW.out.setNew (b := rr) (by omega) jj (.int .i64 xq9))
    rw [← hY] at NO NC NW ⊢
    clear hY r0 f0
    replace HZg := Lib.hid (HZg.out.kept hYl (by omega))
    replace HX0 := Lib.hid (HX0.out.kept hYl (by omega))
    replace HZ1 := Lib.hid (HZ1.out.kept hYl (by omega))
    replace HL1c := NO
    replace HC := NC
    replace HW := NW
    clear NO NC NW hYl
    replace HXN : Hid ((la.set jj xq9).length = xn) := by unfold Hid; rw [List.length_set]; exact HXN.out
    have z_0_0 := HZg.out.cell (i := 0) rfl
    have z_0_1 := HZg.out.cell (i := 1) rfl
    have z_0_2 := HZg.out.cell (i := 2) rfl
    have z_2_0 := HZ1.out.cell (i := 0) rfl
    have z_2_1 := HZ1.out.cell (i := 1) rfl
    have r_HX0_0 := HX0.out.cell (i := 0) rfl
    have r_HX0_1 := HX0.out.cell (i := 1) rfl
    have fr_HX0 := fun j => HX0.out.frozen j
    go_wp2_with fail
    have HSA := Lib.hid HL1c.out.oa
    have HSB := Lib.hid HL1c.out.ob
    have HLA : Hid ((la.set jj xq9).length ≤ 7) := by have := HXN.out; unfold Hid; omega
    have HLB : Hid (lb.length ≤ 7) := by have := HYN.out; unfold Hid; omega
    have FHX0 := Lib.hid ((HX0.out.set 0 (.slice (some ⟨rr, 0, none⟩) xn xc)).set 1 (.slice ya yn yc))
    clear z_0_0 z_0_1 z_0_2 z_2_0 z_2_1 r_HX0_0 r_HX0_1 fr_HX0
    have t_HX0_0 := FHX0.out.cell (i := 0) rfl
    have t_HX0_1 := FHX0.out.cell (i := 1) rfl
    try (go_wp2_with fail)
    refine bodyPost_ret (v := .agg #[.slice (some ⟨rr, 0, none⟩) xn xc, .slice ya yn yc]) (by simp [results, Tryz.results48, go_sem, t_HX0_0, t_HX0_1]) rfl ⟨⟨_, _, _, _, rfl, ⟨((HSA.out.other (b := w.heap.size + 1) (by omega) 0 (.slice (some ⟨rr, 0, none⟩) xn xc)).other (b := w.heap.size + 1) (by omega) 1 (.slice ya yn yc)).mono (by omega), HLA.out⟩, ⟨((HSB.out.other (b := w.heap.size + 1) (by omega) 0 (.slice (some ⟨rr, 0, none⟩) xn xc)).other (b := w.heap.size + 1) (by omega) 1 (.slice ya yn yc)).mono (by omega), HLB.out⟩⟩, ((HC.out.setNew (b := w.heap.size + 1) (by omega) 0 (.slice (some ⟨rr, 0, none⟩) xn xc)).setNew (b := w.heap.size + 1) (by omega) 1 (.slice ya yn yc)).mono (by omega), (((HWw.out.trans HW.out).setNew (b := w.heap.size + 1) (by omega) 0 (.slice (some ⟨rr, 0, none⟩) xn xc)).setNew (b := w.heap.size + 1) (by omega) 1 (.slice ya yn yc))⟩
  · have hb0 : ((j3 : Int) == 0) = false := by rw [beq_eq_false_iff_ne]; omega
    have hb1 : ((j3 : Int) == 1) = false := by rw [beq_eq_false_iff_ne]; omega
    have hb2 : ((j3 : Int) == 2) = false := by rw [beq_eq_false_iff_ne]; omega
    have hb3 : ((j3 : Int) == 3) = false := by rw [beq_eq_false_iff_ne]; omega
    have hb4 : ((j3 : Int) == 4) = false := by rw [beq_eq_false_iff_ne]; omega
    have hb5 : ((j3 : Int) == 5) = false := by rw [beq_eq_false_iff_ne]; omega
    have z_0_0 := HZg.out.cell (i := 0) rfl
    have z_0_1 := HZg.out.cell (i := 1) rfl
    have z_0_2 := HZg.out.cell (i := 2) rfl
    have z_2_0 := HZ1.out.cell (i := 0) rfl
    have z_2_1 := HZ1.out.cell (i := 1) rfl
    have r_HX0_0 := HX0.out.cell (i := 0) rfl
    have r_HX0_1 := HX0.out.cell (i := 1) rfl
    have fr_HX0 := fun j => HX0.out.frozen j
    go_wp2_with fail
    have HSA := Lib.hid HL1c.out.oa
    have HSB := Lib.hid HL1c.out.ob
    have HLA : Hid (la.length ≤ 7) := by have := HXN.out; unfold Hid; omega
    have HLB : Hid (lb.length ≤ 7) := by have := HYN.out; unfold Hid; omega
    have FHX0 := Lib.hid ((HX0.out.set 0 (.slice xa xn xc)).set 1 (.slice ya yn yc))
    clear z_0_0 z_0_1 z_0_2 z_2_0 z_2_1 r_HX0_0 r_HX0_1 fr_HX0
    have t_HX0_0 := FHX0.out.cell (i := 0) rfl
    have t_HX0_1 := FHX0.out.cell (i := 1) rfl
    try (go_wp2_with fail)
    refine bodyPost_ret (v := .agg #[.slice xa xn xc, .slice ya yn yc]) (by simp [results, Tryz.results48, go_sem, t_HX0_0, t_HX0_1]) rfl ⟨⟨_, _, _, _, rfl, ⟨((HSA.out.other (b := w.heap.size + 1) (by omega) 0 (.slice xa xn xc)).other (b := w.heap.size + 1) (by omega) 1 (.slice ya yn yc)).mono (by omega), HLA.out⟩, ⟨((HSB.out.other (b := w.heap.size + 1) (by omega) 0 (.slice xa xn xc)).other (b := w.heap.size + 1) (by omega) 1 (.slice ya yn yc)).mono (by omega), HLB.out⟩⟩, ((HC.out.setNew (b := w.heap.size + 1) (by omega) 0 (.slice xa xn xc)).setNew (b := w.heap.size + 1) (by omega) 1 (.slice ya yn yc)).mono (by omega), (((HWw.out.trans HW.out).setNew (b := w.heap.size + 1) (by omega) 0 (.slice xa xn xc)).setNew (b := w.heap.size + 1) (by omega) 1 (.slice ya yn yc))⟩
end Go.Proofs.YtacpnphfopmofaaGreat
