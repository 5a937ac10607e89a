/- Ballots: casts checked: walks (printed by gen_bal3.py). -/
import Derived.Test.YtboahnklilmdpaaBal2V
import Derived.Deep.Cut
namespace Go.Proofs.Ytboahnklilmdpaa
open Go.RowKit
set_option linter.unusedSimpArgs false
set_option linter.unusedVariables false
set_option maxRecDepth 100000 in
set_option maxHeartbeats 4000000 in
theorem impl_isCast (gr : GroupD) (pv : Value) (x : CastD) (w : World) (hg : OkG gr) (hp : CaR w pv x) (hs4 : (Small x.c.a ∧ Small x.c.b) ∧ (Small x.v.a ∧ Small x.v.b)) :
    Calls Try.prog 195 #[.agg #[.int .i64 gr.p, .int .i64 gr.q, .int .i64 gr.g], pv] w fun e w' => e = .returned (.bool (vcastV gr sCast x)) ∧ Below w.heap.size w w' := by
  have HG := Lib.hid hg
  clear hg
  obtain ⟨xcv, xhv, xrv, rfl, ⟨⟨ia, ib⟩, ⟨ic, id⟩⟩, hxc, hxh, hxr⟩ := hp
  obtain ⟨xca, xcn, xcc, rfl⟩ := hxc.shape
  have Exc := Lib.hid hxc.len
  have Kxc := Lib.hid hxc.capMax
  have Hxc := Lib.hid hxc
  clear hxc
  obtain ⟨xha, xhn, xhc, rfl⟩ := hxh.shape
  have Exh := Lib.hid hxh.len
  have Kxh := Lib.hid hxh.capMax
  have Hxh := Lib.hid hxh
  clear hxh
  obtain ⟨xra, xrn, xrc, rfl⟩ := hxr.shape
  have Exr := Lib.hid hxr.len
  have Kxr := Lib.hid hxr.capMax
  have Hxr := Lib.hid hxr
  clear hxr
  have HS4 := Lib.hid hs4
  clear hs4
  obtain ⟨W, hW⟩ : ∃ W, W = (w.alloc (.cells #[.int .i64 gr.p, .int .i64 gr.q, .int .i64 gr.g] 39)).alloc (.cells #[.int .i64 x.c.a, .int .i64 x.c.b, .int .i64 x.v.a, .int .i64 x.v.b, (.slice xca xcn xcc), (.slice xha xhn xhc), (.slice xra xrn xrc)] 104) := ⟨_, rfl⟩
  have HB : Hid (Below w.heap.size w W) := by unfold Hid; rw [hW]; (repeat (first | exact Below.refl _ _ | assumption | refine Below.drew ?_ | refine Below.alloc ?_ (by first | (simp; done) | (simp; omega)) _ | refine Below.setCell ?_ (by first | (simp; done) | (simp; omega)) _))
  have c0_0 : W.cell? ⟨w.heap.size, 0, none⟩ = some (.int .i64 gr.p) := by rw [hW]; simp [go_sem]
  have c0_1 : W.cell? ⟨w.heap.size, 1, none⟩ = some (.int .i64 gr.q) := by rw [hW]; simp [go_sem]
  have c0_2 : W.cell? ⟨w.heap.size, 2, none⟩ = some (.int .i64 gr.g) := by rw [hW]; simp [go_sem]
  have c1_0 : W.cell? ⟨w.heap.size + 1, 0, none⟩ = some (.int .i64 x.c.a) := by rw [hW]; simp [go_sem]
  have c1_1 : W.cell? ⟨w.heap.size + 1, 1, none⟩ = some (.int .i64 x.c.b) := by rw [hW]; simp [go_sem]
  have c1_2 : W.cell? ⟨w.heap.size + 1, 2, none⟩ = some (.int .i64 x.v.a) := by rw [hW]; simp [go_sem]
  have c1_3 : W.cell? ⟨w.heap.size + 1, 3, none⟩ = some (.int .i64 x.v.b) := by rw [hW]; simp [go_sem]
  have c1_4 : W.cell? ⟨w.heap.size + 1, 4, none⟩ = some ((.slice xca xcn xcc)) := by rw [hW]; simp [go_sem]
  have c1_5 : W.cell? ⟨w.heap.size + 1, 5, none⟩ = some ((.slice xha xhn xhc)) := by rw [hW]; simp [go_sem]
  have c1_6 : W.cell? ⟨w.heap.size + 1, 6, none⟩ = some ((.slice xra xrn xrc)) := by rw [hW]; simp [go_sem]
  have HSW : Hid (W.heap.size = w.heap.size + 2) := by unfold Hid; rw [hW]; simp
  go_enter Try.func195, Try.ntmps195
  go_upto_region 1 with fail
  rw [← hW]
  have hse : w.heap.size + 1 + 1 = W.heap.size := by have := HSW.out; omega
  (try rw [hse])
  clear hse
  clear hW
  have hc : Below W.heap.size W W := Below.refl _ _
  have HCC : Hid (∀ u, Below W.heap.size W u → u.cell? ⟨w.heap.size, 0, none⟩ = some (.int .i64 gr.p) ∧ u.cell? ⟨w.heap.size, 1, none⟩ = some (.int .i64 gr.q) ∧ u.cell? ⟨w.heap.size, 2, none⟩ = some (.int .i64 gr.g) ∧ u.cell? ⟨w.heap.size + 1, 0, none⟩ = some (.int .i64 x.c.a) ∧ u.cell? ⟨w.heap.size + 1, 1, none⟩ = some (.int .i64 x.c.b) ∧ u.cell? ⟨w.heap.size + 1, 2, none⟩ = some (.int .i64 x.v.a) ∧ u.cell? ⟨w.heap.size + 1, 3, none⟩ = some (.int .i64 x.v.b) ∧ u.cell? ⟨w.heap.size + 1, 4, none⟩ = some ((.slice xca xcn xcc)) ∧ u.cell? ⟨w.heap.size + 1, 5, none⟩ = some ((.slice xha xhn xhc)) ∧ u.cell? ⟨w.heap.size + 1, 6, none⟩ = some ((.slice xra xrn xrc))) := fun u h => ⟨box_at c0_0 h, box_at c0_1 h, box_at c0_2 h, box_at c1_0 h, box_at c1_1 h, box_at c1_2 h, box_at c1_3 h, box_at c1_4 h, box_at c1_5 h, box_at c1_6 h⟩
  go_upto_region 2 with fail
  obtain ⟨R0, hR0⟩ : ∃ r, r = W.heap.size := ⟨_, rfl⟩
  obtain ⟨V, hV⟩ : ∃ V, V = W.alloc (.cells #[(.slice xca xcn xcc), (.slice xha xhn xhc), (.slice xra xrn xrc)] 42) := ⟨_, rfl⟩
  have hbV : Below W.heap.size W V := by rw [hV]; exact (Below.refl _ _).alloc (Nat.le_refl _) _
  have HP0 : Hid (BoxN V R0 42 [(.slice xca xcn xcc), (.slice xha xhn xhc), (.slice xra xrn xrc)]) := by unfold Hid; rw [hV, hR0]; exact BoxN.new W [(.slice xca xcn xcc), (.slice xha xhn xhc), (.slice xra xrn xrc)] 42
  have HBV : Hid (Below w.heap.size w V) := HB.out.trans (hbV.mono HB.out.size)
  rw [← hV, ← hR0]
  replace HCC := HCC.out _ hbV
  clear hV hR0 hbV hc HB c0_0 c0_1 c0_2 c1_0 c1_1 c1_2 c1_3 c1_4 c1_5 c1_6
  obtain ⟨W, hW⟩ : ∃ W, W = V := ⟨_, rfl⟩
  rw [← hW] at HP0 HBV HCC ⊢
  clear hW
  have HB := HBV
  clear HBV
  have hc : Below W.heap.size W W := Below.refl _ _
  obtain ⟨c0_0, c0_1, c0_2, c1_0, c1_1, c1_2, c1_3, c1_4, c1_5, c1_6⟩ := HCC
  have p0_0 := HP0.out.cell (i := 0) rfl
  have p0_1 := HP0.out.cell (i := 1) rfl
  have p0_2 := HP0.out.cell (i := 2) rfl
  clear HP0
  have HCC : Hid (∀ u, Below W.heap.size W u → u.cell? ⟨w.heap.size, 0, none⟩ = some (.int .i64 gr.p) ∧ u.cell? ⟨w.heap.size, 1, none⟩ = some (.int .i64 gr.q) ∧ u.cell? ⟨w.heap.size, 2, none⟩ = some (.int .i64 gr.g) ∧ u.cell? ⟨w.heap.size + 1, 0, none⟩ = some (.int .i64 x.c.a) ∧ u.cell? ⟨w.heap.size + 1, 1, none⟩ = some (.int .i64 x.c.b) ∧ u.cell? ⟨w.heap.size + 1, 2, none⟩ = some (.int .i64 x.v.a) ∧ u.cell? ⟨w.heap.size + 1, 3, none⟩ = some (.int .i64 x.v.b) ∧ u.cell? ⟨w.heap.size + 1, 4, none⟩ = some ((.slice xca xcn xcc)) ∧ u.cell? ⟨w.heap.size + 1, 5, none⟩ = some ((.slice xha xhn xhc)) ∧ u.cell? ⟨w.heap.size + 1, 6, none⟩ = some ((.slice xra xrn xrc)) ∧ u.cell? ⟨R0, 0, none⟩ = some ((.slice xca xcn xcc)) ∧ u.cell? ⟨R0, 1, none⟩ = some ((.slice xha xhn xhc)) ∧ u.cell? ⟨R0, 2, none⟩ = some ((.slice xra xrn xrc))) := fun u h => ⟨box_at c0_0 h, box_at c0_1 h, box_at c0_2 h, box_at c1_0 h, box_at c1_1 h, box_at c1_2 h, box_at c1_3 h, box_at c1_4 h, box_at c1_5 h, box_at c1_6 h, box_at p0_0 h, box_at p0_1 h, box_at p0_2 h⟩
  cases hc1 : ((xcn : Int) != 2) with
  | false =>
    have HLxc : Hid (decide (x.p.c.length = 2) = true) := by have q := hc1; rw [bne_eq_false_iff_eq] at q; exact decide_eq_true (by have := Exc.out; omega)
    obtain rfl : xcn = 2 := by have q := hc1; rw [bne_eq_false_iff_eq] at q; omega
    obtain ⟨xcb, xco, rfl, hx⟩ := Hxc.out.at_ (by omega)
    have Kxc0 : Hid (w.cell? ⟨xcb, xco, none⟩ = some (.int .i64 (nth x.p.c 0))) := by unfold Hid; have h := hx 0 (by omega); simpa using h
    have Kxc1 : Hid (w.cell? ⟨xcb, xco + 1, none⟩ = some (.int .i64 (nth x.p.c 1))) := by unfold Hid; have h := hx 1 (by omega); simpa using h
    clear hx
    have yxc0 := box_at Kxc0.out (HB.out.trans (hc.mono HB.out.size))
    have yxc1 := box_at Kxc1.out (HB.out.trans (hc.mono HB.out.size))
    replace HCC : Hid (∀ u, Below W.heap.size W u → u.cell? ⟨w.heap.size, 0, none⟩ = some (.int .i64 gr.p) ∧ u.cell? ⟨w.heap.size, 1, none⟩ = some (.int .i64 gr.q) ∧ u.cell? ⟨w.heap.size, 2, none⟩ = some (.int .i64 gr.g) ∧ u.cell? ⟨w.heap.size + 1, 0, none⟩ = some (.int .i64 x.c.a) ∧ u.cell? ⟨w.heap.size + 1, 1, none⟩ = some (.int .i64 x.c.b) ∧ u.cell? ⟨w.heap.size + 1, 2, none⟩ = some (.int .i64 x.v.a) ∧ u.cell? ⟨w.heap.size + 1, 3, none⟩ = some (.int .i64 x.v.b) ∧ u.cell? ⟨w.heap.size + 1, 4, none⟩ = some ((.slice (some ⟨xcb, xco, none⟩) 2 xcc)) ∧ u.cell? ⟨w.heap.size + 1, 5, none⟩ = some ((.slice xha xhn xhc)) ∧ u.cell? ⟨w.heap.size + 1, 6, none⟩ = some ((.slice xra xrn xrc)) ∧ u.cell? ⟨R0, 0, none⟩ = some ((.slice (some ⟨xcb, xco, none⟩) 2 xcc)) ∧ u.cell? ⟨R0, 1, none⟩ = some ((.slice xha xhn xhc)) ∧ u.cell? ⟨R0, 2, none⟩ = some ((.slice xra xrn xrc)) ∧ u.cell? ⟨xcb, xco, none⟩ = some (.int .i64 (nth x.p.c 0)) ∧ u.cell? ⟨xcb, xco + 1, none⟩ = some (.int .i64 (nth x.p.c 1))) := fun u h => by obtain ⟨c0_0, c0_1, c0_2, c1_0, c1_1, c1_2, c1_3, c1_4, c1_5, c1_6, p0_0, p0_1, p0_2⟩ := HCC.out u h; exact ⟨c0_0, c0_1, c0_2, c1_0, c1_1, c1_2, c1_3, c1_4, c1_5, c1_6, p0_0, p0_1, p0_2, box_at Kxc0.out (HB.out.trans (h.mono HB.out.size)), box_at Kxc1.out (HB.out.trans (h.mono HB.out.size))⟩
    cases hc2 : ((xhn : Int) != 1) with
    | false =>
      have HLxh : Hid (decide (x.p.h.length = 1) = true) := by have q := hc2; rw [bne_eq_false_iff_eq] at q; exact decide_eq_true (by have := Exh.out; omega)
      obtain rfl : xhn = 1 := by have q := hc2; rw [bne_eq_false_iff_eq] at q; omega
      obtain ⟨xhb, xho, rfl, hx⟩ := Hxh.out.at_ (by omega)
      have Kxh0 : Hid (w.cell? ⟨xhb, xho, none⟩ = some (.int .i64 (nth x.p.h 0))) := by unfold Hid; have h := hx 0 (by omega); simpa using h
      clear hx
      have yxh0 := box_at Kxh0.out (HB.out.trans (hc.mono HB.out.size))
      replace HCC : Hid (∀ u, Below W.heap.size W u → u.cell? ⟨w.heap.size, 0, none⟩ = some (.int .i64 gr.p) ∧ u.cell? ⟨w.heap.size, 1, none⟩ = some (.int .i64 gr.q) ∧ u.cell? ⟨w.heap.size, 2, none⟩ = some (.int .i64 gr.g) ∧ u.cell? ⟨w.heap.size + 1, 0, none⟩ = some (.int .i64 x.c.a) ∧ u.cell? ⟨w.heap.size + 1, 1, none⟩ = some (.int .i64 x.c.b) ∧ u.cell? ⟨w.heap.size + 1, 2, none⟩ = some (.int .i64 x.v.a) ∧ u.cell? ⟨w.heap.size + 1, 3, none⟩ = some (.int .i64 x.v.b) ∧ u.cell? ⟨w.heap.size + 1, 4, none⟩ = some ((.slice (some ⟨xcb, xco, none⟩) 2 xcc)) ∧ u.cell? ⟨w.heap.size + 1, 5, none⟩ = some ((.slice (some ⟨xhb, xho, none⟩) 1 xhc)) ∧ u.cell? ⟨w.heap.size + 1, 6, none⟩ = some ((.slice xra xrn xrc)) ∧ u.cell? ⟨R0, 0, none⟩ = some ((.slice (some ⟨xcb, xco, none⟩) 2 xcc)) ∧ u.cell? ⟨R0, 1, none⟩ = some ((.slice (some ⟨xhb, xho, none⟩) 1 xhc)) ∧ u.cell? ⟨R0, 2, none⟩ = some ((.slice xra xrn xrc)) ∧ u.cell? ⟨xcb, xco, none⟩ = some (.int .i64 (nth x.p.c 0)) ∧ u.cell? ⟨xcb, xco + 1, none⟩ = some (.int .i64 (nth x.p.c 1)) ∧ u.cell? ⟨xhb, xho, none⟩ = some (.int .i64 (nth x.p.h 0))) := fun u h => by obtain ⟨c0_0, c0_1, c0_2, c1_0, c1_1, c1_2, c1_3, c1_4, c1_5, c1_6, p0_0, p0_1, p0_2, yxc0, yxc1⟩ := HCC.out u h; exact ⟨c0_0, c0_1, c0_2, c1_0, c1_1, c1_2, c1_3, c1_4, c1_5, c1_6, p0_0, p0_1, p0_2, yxc0, yxc1, box_at Kxh0.out (HB.out.trans (h.mono HB.out.size))⟩
      cases hc3 : ((xrn : Int) != 2) with
      | false =>
        have HLxr : Hid (decide (x.p.r.length = 2) = true) := by have q := hc3; rw [bne_eq_false_iff_eq] at q; exact decide_eq_true (by have := Exr.out; omega)
        obtain rfl : xrn = 2 := by have q := hc3; rw [bne_eq_false_iff_eq] at q; omega
        obtain ⟨xrb, xro, rfl, hx⟩ := Hxr.out.at_ (by omega)
        have Kxr0 : Hid (w.cell? ⟨xrb, xro, none⟩ = some (.int .i64 (nth x.p.r 0))) := by unfold Hid; have h := hx 0 (by omega); simpa using h
        have Kxr1 : Hid (w.cell? ⟨xrb, xro + 1, none⟩ = some (.int .i64 (nth x.p.r 1))) := by unfold Hid; have h := hx 1 (by omega); simpa using h
        clear hx
        have yxr0 := box_at Kxr0.out (HB.out.trans (hc.mono HB.out.size))
        have yxr1 := box_at Kxr1.out (HB.out.trans (hc.mono HB.out.size))
        replace HCC : Hid (∀ u, Below W.heap.size W u → u.cell? ⟨w.heap.size, 0, none⟩ = some (.int .i64 gr.p) ∧ u.cell? ⟨w.heap.size, 1, none⟩ = some (.int .i64 gr.q) ∧ u.cell? ⟨w.heap.size, 2, none⟩ = some (.int .i64 gr.g) ∧ u.cell? ⟨w.heap.size + 1, 0, none⟩ = some (.int .i64 x.c.a) ∧ u.cell? ⟨w.heap.size + 1, 1, none⟩ = some (.int .i64 x.c.b) ∧ u.cell? ⟨w.heap.size + 1, 2, none⟩ = some (.int .i64 x.v.a) ∧ u.cell? ⟨w.heap.size + 1, 3, none⟩ = some (.int .i64 x.v.b) ∧ u.cell? ⟨w.heap.size + 1, 4, none⟩ = some ((.slice (some ⟨xcb, xco, none⟩) 2 xcc)) ∧ u.cell? ⟨w.heap.size + 1, 5, none⟩ = some ((.slice (some ⟨xhb, xho, none⟩) 1 xhc)) ∧ u.cell? ⟨w.heap.size + 1, 6, none⟩ = some ((.slice (some ⟨xrb, xro, none⟩) 2 xrc)) ∧ u.cell? ⟨R0, 0, none⟩ = some ((.slice (some ⟨xcb, xco, none⟩) 2 xcc)) ∧ u.cell? ⟨R0, 1, none⟩ = some ((.slice (some ⟨xhb, xho, none⟩) 1 xhc)) ∧ u.cell? ⟨R0, 2, none⟩ = some ((.slice (some ⟨xrb, xro, none⟩) 2 xrc)) ∧ u.cell? ⟨xcb, xco, none⟩ = some (.int .i64 (nth x.p.c 0)) ∧ u.cell? ⟨xcb, xco + 1, none⟩ = some (.int .i64 (nth x.p.c 1)) ∧ u.cell? ⟨xhb, xho, none⟩ = some (.int .i64 (nth x.p.h 0)) ∧ u.cell? ⟨xrb, xro, none⟩ = some (.int .i64 (nth x.p.r 0)) ∧ u.cell? ⟨xrb, xro + 1, none⟩ = some (.int .i64 (nth x.p.r 1))) := fun u h => by obtain ⟨c0_0, c0_1, c0_2, c1_0, c1_1, c1_2, c1_3, c1_4, c1_5, c1_6, p0_0, p0_1, p0_2, yxc0, yxc1, yxh0⟩ := HCC.out u h; exact ⟨c0_0, c0_1, c0_2, c1_0, c1_1, c1_2, c1_3, c1_4, c1_5, c1_6, p0_0, p0_1, p0_2, yxc0, yxc1, yxh0, box_at Kxr0.out (HB.out.trans (h.mono HB.out.size)), box_at Kxr1.out (HB.out.trans (h.mono HB.out.size))⟩
        go_wp2_with fail
        refine (impl_hasAll gr _ x.p.c _ HG.out (Hxc.out.below (HB.out.trans (hc.mono HB.out.size)))).mono ?_
        rintro e u1 ⟨rfl, hq1⟩
        replace hc := Below.next hc hq1
        clear hq1 c0_0 c0_1 c0_2 c1_0 c1_1 c1_2 c1_3 c1_4 c1_5 c1_6 p0_0 p0_1 p0_2 yxc0 yxc1 yxh0 yxr0 yxr1
        obtain ⟨c0_0, c0_1, c0_2, c1_0, c1_1, c1_2, c1_3, c1_4, c1_5, c1_6, p0_0, p0_1, p0_2, yxc0, yxc1, yxh0, yxr0, yxr1⟩ := HCC.out _ hc
        cases hc4 : x.p.c.all (elB gr) with
        | false =>
          have Hhc4 := Lib.hid hc4
          clear hc4
          go_wp2_with fail
          have HV : Hid ((.bool (vcastV gr sCast x) : Value) = .bool false) := by unfold Hid; simp [vcastV, hc1, hc2, hc3, Hhc4.out, HLxc.out, HLxh.out, HLxr.out]
          go_ret
          exact ⟨congrArg Ending.returned HV.out.symm, HB.out.trans (hc.mono HB.out.size)⟩
        | true =>
          have HECC : Hid (x.p.c.all (elB gr) = true) := hc4
          have Hhc4 := Lib.hid hc4
          clear hc4
          go_wp2_with fail
          refine (impl_areExps gr _ x.p.r _ HG.out (Hxr.out.below (HB.out.trans (hc.mono HB.out.size)))).mono ?_
          rintro e u2 ⟨rfl, hq2⟩
          replace hc := Below.next hc hq2
          clear hq2 c0_0 c0_1 c0_2 c1_0 c1_1 c1_2 c1_3 c1_4 c1_5 c1_6 p0_0 p0_1 p0_2 yxc0 yxc1 yxh0 yxr0 yxr1
          obtain ⟨c0_0, c0_1, c0_2, c1_0, c1_1, c1_2, c1_3, c1_4, c1_5, c1_6, p0_0, p0_1, p0_2, yxc0, yxc1, yxh0, yxr0, yxr1⟩ := HCC.out _ hc
          cases hc5 : x.p.r.all (expB gr) with
          | false =>
            have HE : Hid True := trivial
            have HK0 : Hid True := trivial
            have HK1 : Hid True := trivial
            have Hhc5 := Lib.hid hc5
            clear hc5
            go_wp2_with fail
            have HV : Hid ((.bool (vcastV gr sCast x) : Value) = .bool false) := by unfold Hid; simp [vcastV, hc1, hc2, hc3, Hhc4.out, Hhc5.out, HLxc.out, HLxh.out, HLxr.out, HE.out, HK0.out, HK1.out]
            go_ret
            exact ⟨congrArg Ending.returned HV.out.symm, HB.out.trans (hc.mono HB.out.size)⟩
          | true =>
            have zq1 := HG.out.q1
            have zq2 := HG.out.q2
            have zp2 := HG.out.p2
            have zg1 := HG.out.g1
            have zg2 := HG.out.g2
            have sgg : Small gr.g := ⟨by omega, by omega⟩
            have HTC := Lib.hid (all_two Exc.out HECC.out)
            have HTR := Lib.hid (all_two Exr.out hc5)
            have sx0 : Small (nth x.p.c 0) := elB_small HG.out HTC.out.1
            have sx1 : Small (nth x.p.c 1) := elB_small HG.out HTC.out.2
            have HSA : Hid (AllSmall ([x.c.a, x.c.b, x.v.a, x.v.b] ++ x.p.c)) := by unfold Hid; rw [list_two Exc.out]; obtain ⟨⟨s1, s2⟩, ⟨s3, s4⟩⟩ := HS4.out; exact AllSmall.cons s1 (AllSmall.cons s2 (AllSmall.cons s3 (AllSmall.cons s4 (AllSmall.cons sx0 (AllSmall.cons sx1 AllSmall.nil)))))
            obtain ⟨⟨sca, _⟩, ⟨sva, _⟩⟩ := HS4.out
            obtain ⟨a0, a0x⟩ := expB_bd HTR.out.1
            obtain ⟨a1, a1x⟩ := expB_bd HTR.out.2
            have iz0 : I64 (nth x.p.r 0) := ⟨by omega, by omega⟩
            have iz1 : I64 (nth x.p.r 1) := ⟨by omega, by omega⟩
            have ih0 : I64 (nth x.p.h 0) := nth_64 Hxh.out 0
            obtain ⟨E, hE⟩ : ∃ z, caE gr sCast x.c x.v x.p.c = z := ⟨_, rfl⟩
            have HE := Lib.hid hE
            have iE : I64 E := by have he := chV_bd HG.out sCast ([x.c.a, x.c.b, x.v.a, x.v.b] ++ x.p.c); obtain ⟨e1, e2⟩ : 0 ≤ E ∧ E < gr.q := hE ▸ he; exact ⟨by omega, by omega⟩
            clear hE
            obtain ⟨P0, hP⟩ : ∃ z, powE gr gr.g (nth x.p.r 0) = z := ⟨_, rfl⟩
            have HP0 := Lib.hid hP
            have sP0 : Small P0 := hP ▸ powE_small HG.out gr.g (nth x.p.r 0)
            obtain ⟨B0, hB⟩ : ∃ z, powE gr x.c.a E = z := ⟨_, rfl⟩
            have HB0 := Lib.hid hB
            have sB0 : Small B0 := hB ▸ powE_small HG.out x.c.a E
            obtain ⟨M0, hM⟩ : ∃ z, mulL gr [nth x.p.c 0, B0] = z := ⟨_, rfl⟩
            have HM0 := Lib.hid hM
            have sM0 : Small M0 := hM ▸ mulL_small HG.out [nth x.p.c 0, B0]
            have HK0 : Hid (vcastK gr (nth x.p.c 0) x.c.a (nth x.p.r 0) E = (P0 == M0)) := by unfold Hid vcastK; rw [hP, hB, hM]
            clear hP hB hM
            obtain ⟨P1, hP⟩ : ∃ z, powE gr gr.g (nth x.p.r 1) = z := ⟨_, rfl⟩
            have HP1 := Lib.hid hP
            have sP1 : Small P1 := hP ▸ powE_small HG.out gr.g (nth x.p.r 1)
            obtain ⟨B1, hB⟩ : ∃ z, powE gr x.v.a E = z := ⟨_, rfl⟩
            have HB1 := Lib.hid hB
            have sB1 : Small B1 := hB ▸ powE_small HG.out x.v.a E
            obtain ⟨M1, hM⟩ : ∃ z, mulL gr [nth x.p.c 1, B1] = z := ⟨_, rfl⟩
            have HM1 := Lib.hid hM
            have sM1 : Small M1 := hM ▸ mulL_small HG.out [nth x.p.c 1, B1]
            have HK1 : Hid (vcastK gr (nth x.p.c 1) x.v.a (nth x.p.r 1) E = (P1 == M1)) := by unfold Hid vcastK; rw [hP, hB, hM]
            clear hP hB hM
            have Hhc5 := Lib.hid hc5
            clear hc5
            go_wp2_with fail
            refine (impl_castChallenge gr _ x _ x.p.c _ HG.out ⟨_, _, _, rfl, ⟨⟨ia, ib⟩, ⟨ic, id⟩⟩, (Hxc.out.below (HB.out.trans (hc.mono HB.out.size))), (Hxh.out.below (HB.out.trans (hc.mono HB.out.size))), (Hxr.out.below (HB.out.trans (hc.mono HB.out.size)))⟩ (Hxc.out.below (HB.out.trans (hc.mono HB.out.size))) (by have := Exc.out; omega) HSA.out).mono ?_
            rintro e u3 ⟨rfl, hq3⟩
            rw [HE.out]
            replace hc := Below.next hc hq3
            clear hq3 c0_0 c0_1 c0_2 c1_0 c1_1 c1_2 c1_3 c1_4 c1_5 c1_6 p0_0 p0_1 p0_2 yxc0 yxc1 yxh0 yxr0 yxr1
            obtain ⟨c0_0, c0_1, c0_2, c1_0, c1_1, c1_2, c1_3, c1_4, c1_5, c1_6, p0_0, p0_1, p0_2, yxc0, yxc1, yxh0, yxr0, yxr1⟩ := HCC.out _ hc
            cases hc6 : ((nth x.p.h 0) == E) with
            | false =>
              try (go_wp2_with fail)
              refine wp_region_noPanic ?_
              refine wp_region_P (fun w' => w'.cell? ⟨w.heap.size, 0, none⟩ = some (.int .i64 gr.p) ∧ w'.cell? ⟨w.heap.size, 1, none⟩ = some (.int .i64 gr.q) ∧ w'.cell? ⟨w.heap.size, 2, none⟩ = some (.int .i64 gr.g) ∧ w'.cell? ⟨w.heap.size + 1, 0, none⟩ = some (.int .i64 x.c.a) ∧ w'.cell? ⟨w.heap.size + 1, 1, none⟩ = some (.int .i64 x.c.b) ∧ w'.cell? ⟨w.heap.size + 1, 2, none⟩ = some (.int .i64 x.v.a) ∧ w'.cell? ⟨w.heap.size + 1, 3, none⟩ = some (.int .i64 x.v.b) ∧ w'.cell? ⟨w.heap.size + 1, 4, none⟩ = some ((.slice (some ⟨xcb, xco, none⟩) 2 xcc)) ∧ w'.cell? ⟨w.heap.size + 1, 5, none⟩ = some ((.slice (some ⟨xhb, xho, none⟩) 1 xhc)) ∧ w'.cell? ⟨w.heap.size + 1, 6, none⟩ = some ((.slice (some ⟨xrb, xro, none⟩) 2 xrc)) ∧ w'.cell? ⟨R0, 0, none⟩ = some ((.slice (some ⟨xcb, xco, none⟩) 2 xcc)) ∧ w'.cell? ⟨R0, 1, none⟩ = some ((.slice (some ⟨xhb, xho, none⟩) 1 xhc)) ∧ w'.cell? ⟨R0, 2, none⟩ = some ((.slice (some ⟨xrb, xro, none⟩) 2 xrc)) ∧ w'.cell? ⟨xcb, xco, none⟩ = some (.int .i64 (nth x.p.c 0)) ∧ w'.cell? ⟨xcb, xco + 1, none⟩ = some (.int .i64 (nth x.p.c 1)) ∧ w'.cell? ⟨xhb, xho, none⟩ = some (.int .i64 (nth x.p.h 0)) ∧ w'.cell? ⟨xrb, xro, none⟩ = some (.int .i64 (nth x.p.r 0)) ∧ w'.cell? ⟨xrb, xro + 1, none⟩ = some (.int .i64 (nth x.p.r 1))) 57 [(0, []), (1, [0]), (2, [0]), (3, [0]), (4, []), (5, [1, 0]), (6, [0]), (7, [0]), (8, [1]), (9, [0, 2]), (10, [3]), (11, [0, 4]), (12, [0, 5]), (13, [0, 6]), (14, [6, 4, 0, 7]), (15, [8]), (16, [9]), (17, [0, 10]), (18, [0, 11]), (19, [0, 12]), (20, [13]), (21, [14]), (22, [0, 15]), (23, [0, 16]), (24, [17]), (25, [4, 1, 0, 18]), (26, [6, 0, 19]), (27, [11, 0, 20]), (28, [13, 0, 21]), (29, [22, 0]), (30, [0]), (31, [0]), (32, [1]), (33, [0, 2]), (34, [3]), (35, [0, 4]), (36, [0, 5]), (37, [0, 6]), (38, [6, 4, 0, 7]), (39, [8]), (40, [9]), (41, [0, 10]), (42, [0, 11]), (43, [0, 12]), (44, [13]), (45, [14]), (46, [0, 15]), (47, [0, 16]), (48, [17]), (49, [4, 1, 0, 18]), (50, [6, 0, 19]), (51, [11, 0, 20]), (52, [13, 0, 21]), (53, [22, 0]), (54, [0])] [] (by kernel_rfl) (by kernel_rfl) (by kernel_rfl) rfl (fun _ _ _ _ h => h) (fun w' h => ⟨box_at c0_0 h, box_at c0_1 h, box_at c0_2 h, box_at c1_0 h, box_at c1_1 h, box_at c1_2 h, box_at c1_3 h, box_at c1_4 h, box_at c1_5 h, box_at c1_6 h, box_at p0_0 h, box_at p0_1 h, box_at p0_2 h, box_at yxc0 h, box_at yxc1 h, box_at yxh0 h, box_at yxr0 h, box_at yxr1 h⟩) ?_
              simp only [pickP, pickN, List.getElem?_cons_zero, List.getElem?_cons_succ]
              iterate 7 (refine' chainP_read _ rfl rfl (fun w' hS' => ?_) ?_; rotate_left; · (simp only [lookP, allP, Act.put, List.getElem?_cons_zero, List.getElem?_cons_succ, List.setIfInBounds_toArray, List.set_cons_zero, List.set_cons_succ]; (try dsimp only at hS'); go_simp; (try with_reducible rfl)))
              -- 7: load 39 t2
              refine chainP_skip (d := (some 51)) rfl (fun w' hS' => ?_) ?_
              · simp only [lookP, allP, Act.put, List.getElem?_cons_zero, List.getElem?_cons_succ, List.setIfInBounds_toArray, List.set_cons_zero, List.set_cons_succ]
                kernel_rfl
              -- 8: fieldAddr 39 t2 2
              refine chainP_skip (d := (some 52)) rfl (fun w' hS' => ?_) ?_
              · simp only [lookP, allP, Act.put, List.getElem?_cons_zero, List.getElem?_cons_succ, List.setIfInBounds_toArray, List.set_cons_zero, List.set_cons_succ]
                kernel_rfl
              -- 9: load 3 t52
              refine chainP_skip (d := (some 53)) rfl (fun w' hS' => ?_) ?_
              · simp only [lookP, allP, Act.put, List.getElem?_cons_zero, List.getElem?_cons_succ, List.setIfInBounds_toArray, List.set_cons_zero, List.set_cons_succ]
                kernel_rfl
              -- 10: fieldAddr 42 t5 2
              refine chainP_skip (d := (some 54)) rfl (fun w' hS' => ?_) ?_
              · simp only [lookP, allP, Act.put, List.getElem?_cons_zero, List.getElem?_cons_succ, List.setIfInBounds_toArray, List.set_cons_zero, List.set_cons_succ]
                kernel_rfl
              -- 11: load 24 t54
              refine chainP_skip (d := (some 55)) rfl (fun w' hS' => ?_) ?_
              · simp only [lookP, allP, Act.put, List.getElem?_cons_zero, List.getElem?_cons_succ, List.setIfInBounds_toArray, List.set_cons_zero, List.set_cons_succ]
                kernel_rfl
              -- 12: indexAddr 24 t55 (const (int i64 0))
              refine chainP_skip (d := (some 56)) rfl (fun w' hS' => ?_) ?_
              · simp only [lookP, allP, Act.put, List.getElem?_cons_zero, List.getElem?_cons_succ, List.setIfInBounds_toArray, List.set_cons_zero, List.set_cons_succ]
                kernel_rfl
              -- 13: load 3 t56
              refine chainP_skip (d := (some 57)) rfl (fun w' hS' => ?_) ?_
              · simp only [lookP, allP, Act.put, List.getElem?_cons_zero, List.getElem?_cons_succ, List.setIfInBounds_toArray, List.set_cons_zero, List.set_cons_succ]
                kernel_rfl
              -- 14: call { callee := value (func 165), args := #[t51, t53, t57], argTypes := #[39, 3, 3] }
              refine chainP_skip (d := (some 58)) rfl (fun w' hS' => ?_) ?_
              · simp only [lookP, allP, Act.put, List.getElem?_cons_zero, List.getElem?_cons_succ, List.setIfInBounds_toArray, List.set_cons_zero, List.set_cons_succ]
                kernel_rfl
              -- 15: load 39 t2
              refine chainP_skip (d := (some 59)) rfl (fun w' hS' => ?_) ?_
              · simp only [lookP, allP, Act.put, List.getElem?_cons_zero, List.getElem?_cons_succ, List.setIfInBounds_toArray, List.set_cons_zero, List.set_cons_succ]
                kernel_rfl
              -- 16: fieldAddr 42 t5 0
              refine chainP_skip (d := (some 60)) rfl (fun w' hS' => ?_) ?_
              · simp only [lookP, allP, Act.put, List.getElem?_cons_zero, List.getElem?_cons_succ, List.setIfInBounds_toArray, List.set_cons_zero, List.set_cons_succ]
                kernel_rfl
              -- 17: load 24 t60
              refine chainP_skip (d := (some 61)) rfl (fun w' hS' => ?_) ?_
              · simp only [lookP, allP, Act.put, List.getElem?_cons_zero, List.getElem?_cons_succ, List.setIfInBounds_toArray, List.set_cons_zero, List.set_cons_succ]
                kernel_rfl
              -- 18: indexAddr 24 t61 (const (int i64 0))
              refine chainP_skip (d := (some 62)) rfl (fun w' hS' => ?_) ?_
              · simp only [lookP, allP, Act.put, List.getElem?_cons_zero, List.getElem?_cons_succ, List.setIfInBounds_toArray, List.set_cons_zero, List.set_cons_succ]
                kernel_rfl
              -- 19: load 3 t62
              refine chainP_skip (d := (some 63)) rfl (fun w' hS' => ?_) ?_
              · simp only [lookP, allP, Act.put, List.getElem?_cons_zero, List.getElem?_cons_succ, List.setIfInBounds_toArray, List.set_cons_zero, List.set_cons_succ]
                kernel_rfl
              -- 20: load 39 t2
              refine chainP_skip (d := (some 64)) rfl (fun w' hS' => ?_) ?_
              · simp only [lookP, allP, Act.put, List.getElem?_cons_zero, List.getElem?_cons_succ, List.setIfInBounds_toArray, List.set_cons_zero, List.set_cons_succ]
                kernel_rfl
              -- 21: fieldAddr 104 t3 0
              refine chainP_skip (d := (some 65)) rfl (fun w' hS' => ?_) ?_
              · simp only [lookP, allP, Act.put, List.getElem?_cons_zero, List.getElem?_cons_succ, List.setIfInBounds_toArray, List.set_cons_zero, List.set_cons_succ]
                kernel_rfl
              -- 22: fieldAddr 58 t65 0
              refine chainP_skip (d := (some 66)) rfl (fun w' hS' => ?_) ?_
              · simp only [lookP, allP, Act.put, List.getElem?_cons_zero, List.getElem?_cons_succ, List.setIfInBounds_toArray, List.set_cons_zero, List.set_cons_succ]
                kernel_rfl
              -- 23: load 3 t66
              refine chainP_skip (d := (some 67)) rfl (fun w' hS' => ?_) ?_
              · simp only [lookP, allP, Act.put, List.getElem?_cons_zero, List.getElem?_cons_succ, List.setIfInBounds_toArray, List.set_cons_zero, List.set_cons_succ]
                kernel_rfl
              -- 24: move t6
              refine chainP_skip (d := (some 68)) rfl (fun w' hS' => ?_) ?_
              · simp only [lookP, allP, Act.put, List.getElem?_cons_zero, List.getElem?_cons_succ, List.setIfInBounds_toArray, List.set_cons_zero, List.set_cons_succ]
                kernel_rfl
              -- 25: call { callee := value (func 165), args := #[t64, t67, t68], argTypes := #[39, 3, 3] }
              refine chainP_skip (d := (some 69)) rfl (fun w' hS' => ?_) ?_
              · simp only [lookP, allP, Act.put, List.getElem?_cons_zero, List.getElem?_cons_succ, List.setIfInBounds_toArray, List.set_cons_zero, List.set_cons_succ]
                kernel_rfl
              -- 26: buildSlice 24 2 #[(0, t63), (1, t69)]
              refine chainP_skip (d := (some 70)) rfl (fun w' hS' => ?_) ?_
              · simp only [lookP, allP, Act.put, List.getElem?_cons_zero, List.getElem?_cons_succ, List.setIfInBounds_toArray, List.set_cons_zero, List.set_cons_succ]
                kernel_rfl
              -- 27: call { callee := value (func 197), args := #[t59, t70], argTypes := #[39, 24] }
              refine chainP_skip (d := (some 71)) rfl (fun w' hS' => ?_) ?_
              · simp only [lookP, allP, Act.put, List.getElem?_cons_zero, List.getElem?_cons_succ, List.setIfInBounds_toArray, List.set_cons_zero, List.set_cons_succ]
                kernel_rfl
              -- 28: binOp Bineql 3 t58 t71 3
              refine chainP_skip (d := (some 72)) rfl (fun w' hS' => ?_) ?_
              · simp only [lookP, allP, Act.put, List.getElem?_cons_zero, List.getElem?_cons_succ, List.setIfInBounds_toArray, List.set_cons_zero, List.set_cons_succ]
                kernel_rfl
              iterate 2 (refine' chainP_read _ rfl rfl (fun w' hS' => ?_) ?_; rotate_left; · (simp only [lookP, allP, Act.put, List.getElem?_cons_zero, List.getElem?_cons_succ, List.setIfInBounds_toArray, List.set_cons_zero, List.set_cons_succ]; (try dsimp only at hS'); go_simp; (try with_reducible rfl)))
              -- 31: load 39 t2
              refine chainP_skip (d := (some 75)) rfl (fun w' hS' => ?_) ?_
              · simp only [lookP, allP, Act.put, List.getElem?_cons_zero, List.getElem?_cons_succ, List.setIfInBounds_toArray, List.set_cons_zero, List.set_cons_succ]
                kernel_rfl
              -- 32: fieldAddr 39 t2 2
              refine chainP_skip (d := (some 76)) rfl (fun w' hS' => ?_) ?_
              · simp only [lookP, allP, Act.put, List.getElem?_cons_zero, List.getElem?_cons_succ, List.setIfInBounds_toArray, List.set_cons_zero, List.set_cons_succ]
                kernel_rfl
              -- 33: load 3 t76
              refine chainP_skip (d := (some 77)) rfl (fun w' hS' => ?_) ?_
              · simp only [lookP, allP, Act.put, List.getElem?_cons_zero, List.getElem?_cons_succ, List.setIfInBounds_toArray, List.set_cons_zero, List.set_cons_succ]
                kernel_rfl
              -- 34: fieldAddr 42 t5 2
              refine chainP_skip (d := (some 78)) rfl (fun w' hS' => ?_) ?_
              · simp only [lookP, allP, Act.put, List.getElem?_cons_zero, List.getElem?_cons_succ, List.setIfInBounds_toArray, List.set_cons_zero, List.set_cons_succ]
                kernel_rfl
              -- 35: load 24 t78
              refine chainP_skip (d := (some 79)) rfl (fun w' hS' => ?_) ?_
              · simp only [lookP, allP, Act.put, List.getElem?_cons_zero, List.getElem?_cons_succ, List.setIfInBounds_toArray, List.set_cons_zero, List.set_cons_succ]
                kernel_rfl
              -- 36: indexAddr 24 t79 (const (int i64 1))
              refine chainP_skip (d := (some 80)) rfl (fun w' hS' => ?_) ?_
              · simp only [lookP, allP, Act.put, List.getElem?_cons_zero, List.getElem?_cons_succ, List.setIfInBounds_toArray, List.set_cons_zero, List.set_cons_succ]
                kernel_rfl
              -- 37: load 3 t80
              refine chainP_skip (d := (some 81)) rfl (fun w' hS' => ?_) ?_
              · simp only [lookP, allP, Act.put, List.getElem?_cons_zero, List.getElem?_cons_succ, List.setIfInBounds_toArray, List.set_cons_zero, List.set_cons_succ]
                kernel_rfl
              -- 38: call { callee := value (func 165), args := #[t75, t77, t81], argTypes := #[39, 3, 3] }
              refine chainP_skip (d := (some 82)) rfl (fun w' hS' => ?_) ?_
              · simp only [lookP, allP, Act.put, List.getElem?_cons_zero, List.getElem?_cons_succ, List.setIfInBounds_toArray, List.set_cons_zero, List.set_cons_succ]
                kernel_rfl
              -- 39: load 39 t2
              refine chainP_skip (d := (some 83)) rfl (fun w' hS' => ?_) ?_
              · simp only [lookP, allP, Act.put, List.getElem?_cons_zero, List.getElem?_cons_succ, List.setIfInBounds_toArray, List.set_cons_zero, List.set_cons_succ]
                kernel_rfl
              -- 40: fieldAddr 42 t5 0
              refine chainP_skip (d := (some 84)) rfl (fun w' hS' => ?_) ?_
              · simp only [lookP, allP, Act.put, List.getElem?_cons_zero, List.getElem?_cons_succ, List.setIfInBounds_toArray, List.set_cons_zero, List.set_cons_succ]
                kernel_rfl
              -- 41: load 24 t84
              refine chainP_skip (d := (some 85)) rfl (fun w' hS' => ?_) ?_
              · simp only [lookP, allP, Act.put, List.getElem?_cons_zero, List.getElem?_cons_succ, List.setIfInBounds_toArray, List.set_cons_zero, List.set_cons_succ]
                kernel_rfl
              -- 42: indexAddr 24 t85 (const (int i64 1))
              refine chainP_skip (d := (some 86)) rfl (fun w' hS' => ?_) ?_
              · simp only [lookP, allP, Act.put, List.getElem?_cons_zero, List.getElem?_cons_succ, List.setIfInBounds_toArray, List.set_cons_zero, List.set_cons_succ]
                kernel_rfl
              -- 43: load 3 t86
              refine chainP_skip (d := (some 87)) rfl (fun w' hS' => ?_) ?_
              · simp only [lookP, allP, Act.put, List.getElem?_cons_zero, List.getElem?_cons_succ, List.setIfInBounds_toArray, List.set_cons_zero, List.set_cons_succ]
                kernel_rfl
              -- 44: load 39 t2
              refine chainP_skip (d := (some 88)) rfl (fun w' hS' => ?_) ?_
              · simp only [lookP, allP, Act.put, List.getElem?_cons_zero, List.getElem?_cons_succ, List.setIfInBounds_toArray, List.set_cons_zero, List.set_cons_succ]
                kernel_rfl
              -- 45: fieldAddr 104 t3 1
              refine chainP_skip (d := (some 89)) rfl (fun w' hS' => ?_) ?_
              · simp only [lookP, allP, Act.put, List.getElem?_cons_zero, List.getElem?_cons_succ, List.setIfInBounds_toArray, List.set_cons_zero, List.set_cons_succ]
                kernel_rfl
              -- 46: fieldAddr 58 t89 0
              refine chainP_skip (d := (some 90)) rfl (fun w' hS' => ?_) ?_
              · simp only [lookP, allP, Act.put, List.getElem?_cons_zero, List.getElem?_cons_succ, List.setIfInBounds_toArray, List.set_cons_zero, List.set_cons_succ]
                kernel_rfl
              -- 47: load 3 t90
              refine chainP_skip (d := (some 91)) rfl (fun w' hS' => ?_) ?_
              · simp only [lookP, allP, Act.put, List.getElem?_cons_zero, List.getElem?_cons_succ, List.setIfInBounds_toArray, List.set_cons_zero, List.set_cons_succ]
                kernel_rfl
              -- 48: move t6
              refine chainP_skip (d := (some 92)) rfl (fun w' hS' => ?_) ?_
              · simp only [lookP, allP, Act.put, List.getElem?_cons_zero, List.getElem?_cons_succ, List.setIfInBounds_toArray, List.set_cons_zero, List.set_cons_succ]
                kernel_rfl
              -- 49: call { callee := value (func 165), args := #[t88, t91, t92], argTypes := #[39, 3, 3] }
              refine chainP_skip (d := (some 93)) rfl (fun w' hS' => ?_) ?_
              · simp only [lookP, allP, Act.put, List.getElem?_cons_zero, List.getElem?_cons_succ, List.setIfInBounds_toArray, List.set_cons_zero, List.set_cons_succ]
                kernel_rfl
              -- 50: buildSlice 24 2 #[(0, t87), (1, t93)]
              refine chainP_skip (d := (some 94)) rfl (fun w' hS' => ?_) ?_
              · simp only [lookP, allP, Act.put, List.getElem?_cons_zero, List.getElem?_cons_succ, List.setIfInBounds_toArray, List.set_cons_zero, List.set_cons_succ]
                kernel_rfl
              -- 51: call { callee := value (func 197), args := #[t83, t94], argTypes := #[39, 24] }
              refine chainP_skip (d := (some 95)) rfl (fun w' hS' => ?_) ?_
              · simp only [lookP, allP, Act.put, List.getElem?_cons_zero, List.getElem?_cons_succ, List.setIfInBounds_toArray, List.set_cons_zero, List.set_cons_succ]
                kernel_rfl
              -- 52: binOp Bineql 3 t82 t95 3
              refine chainP_skip (d := (some 96)) rfl (fun w' hS' => ?_) ?_
              · simp only [lookP, allP, Act.put, List.getElem?_cons_zero, List.getElem?_cons_succ, List.setIfInBounds_toArray, List.set_cons_zero, List.set_cons_succ]
                kernel_rfl
              iterate 2 (refine' chainP_read _ rfl rfl (fun w' hS' => ?_) ?_; rotate_left; · (simp only [lookP, allP, Act.put, List.getElem?_cons_zero, List.getElem?_cons_succ, List.setIfInBounds_toArray, List.set_cons_zero, List.set_cons_succ]; (try dsimp only at hS'); go_simp; (try with_reducible rfl)))
              refine chainP_nil (fun u4 hS' => ?_)
              simp only [allP, Act.put, List.setIfInBounds_toArray, List.set_cons_zero, List.set_cons_succ]
              have hq4 := hS'.1
              clear hS'
              replace hc := Below.next hc hq4
              clear hq4 c0_0 c0_1 c0_2 c1_0 c1_1 c1_2 c1_3 c1_4 c1_5 c1_6 p0_0 p0_1 p0_2 yxc0 yxc1 yxh0 yxr0 yxr1
              obtain ⟨c0_0, c0_1, c0_2, c1_0, c1_1, c1_2, c1_3, c1_4, c1_5, c1_6, p0_0, p0_1, p0_2, yxc0, yxc1, yxh0, yxr0, yxr1⟩ := HCC.out _ hc
              go_wp2_with fail
              refine NoPanic.normal ?_
              go_wp2_with fail
              have HV : Hid ((.bool (vcastV gr sCast x) : Value) = .bool false) := by unfold Hid; simp [vcastV, hc1, hc2, hc3, Hhc4.out, Hhc5.out, hc6, HLxc.out, HLxh.out, HLxr.out, HE.out, HK0.out, HK1.out]
              go_ret
              exact ⟨congrArg Ending.returned HV.out.symm, HB.out.trans (hc.mono HB.out.size)⟩
            | true =>
              cases hc7 : (P0 == M0) with
              | false =>
                try (go_wp2_with fail)
                refine wp_region_noPanic ?_
                refine wp_region_P (fun w' => w'.cell? ⟨w.heap.size, 0, none⟩ = some (.int .i64 gr.p) ∧ w'.cell? ⟨w.heap.size, 1, none⟩ = some (.int .i64 gr.q) ∧ w'.cell? ⟨w.heap.size, 2, none⟩ = some (.int .i64 gr.g) ∧ w'.cell? ⟨w.heap.size + 1, 0, none⟩ = some (.int .i64 x.c.a) ∧ w'.cell? ⟨w.heap.size + 1, 1, none⟩ = some (.int .i64 x.c.b) ∧ w'.cell? ⟨w.heap.size + 1, 2, none⟩ = some (.int .i64 x.v.a) ∧ w'.cell? ⟨w.heap.size + 1, 3, none⟩ = some (.int .i64 x.v.b) ∧ w'.cell? ⟨w.heap.size + 1, 4, none⟩ = some ((.slice (some ⟨xcb, xco, none⟩) 2 xcc)) ∧ w'.cell? ⟨w.heap.size + 1, 5, none⟩ = some ((.slice (some ⟨xhb, xho, none⟩) 1 xhc)) ∧ w'.cell? ⟨w.heap.size + 1, 6, none⟩ = some ((.slice (some ⟨xrb, xro, none⟩) 2 xrc)) ∧ w'.cell? ⟨R0, 0, none⟩ = some ((.slice (some ⟨xcb, xco, none⟩) 2 xcc)) ∧ w'.cell? ⟨R0, 1, none⟩ = some ((.slice (some ⟨xhb, xho, none⟩) 1 xhc)) ∧ w'.cell? ⟨R0, 2, none⟩ = some ((.slice (some ⟨xrb, xro, none⟩) 2 xrc)) ∧ w'.cell? ⟨xcb, xco, none⟩ = some (.int .i64 (nth x.p.c 0)) ∧ w'.cell? ⟨xcb, xco + 1, none⟩ = some (.int .i64 (nth x.p.c 1)) ∧ w'.cell? ⟨xhb, xho, none⟩ = some (.int .i64 (nth x.p.h 0)) ∧ w'.cell? ⟨xrb, xro, none⟩ = some (.int .i64 (nth x.p.r 0)) ∧ w'.cell? ⟨xrb, xro + 1, none⟩ = some (.int .i64 (nth x.p.r 1))) 57 [(0, []), (1, [0]), (2, [0]), (3, [0]), (4, []), (5, [1, 0]), (6, [0]), (7, [0]), (8, [1]), (9, [0, 2]), (10, [3]), (11, [0, 4]), (12, [0, 5]), (13, [0, 6]), (14, [6, 4, 0, 7]), (15, [8]), (16, [9]), (17, [0, 10]), (18, [0, 11]), (19, [0, 12]), (20, [13]), (21, [14]), (22, [0, 15]), (23, [0, 16]), (24, [17]), (25, [4, 1, 0, 18]), (26, [6, 0, 19]), (27, [11, 0, 20]), (28, [13, 0, 21]), (29, [22, 0]), (30, [0]), (31, [0]), (32, [1]), (33, [0, 2]), (34, [3]), (35, [0, 4]), (36, [0, 5]), (37, [0, 6]), (38, [6, 4, 0, 7]), (39, [8]), (40, [9]), (41, [0, 10]), (42, [0, 11]), (43, [0, 12]), (44, [13]), (45, [14]), (46, [0, 15]), (47, [0, 16]), (48, [17]), (49, [4, 1, 0, 18]), (50, [6, 0, 19]), (51, [11, 0, 20]), (52, [13, 0, 21]), (53, [22, 0]), (54, [0])] [] (by kernel_rfl) (by kernel_rfl) (by kernel_rfl) rfl (fun _ _ _ _ h => h) (fun w' h => ⟨box_at c0_0 h, box_at c0_1 h, box_at c0_2 h, box_at c1_0 h, box_at c1_1 h, box_at c1_2 h, box_at c1_3 h, box_at c1_4 h, box_at c1_5 h, box_at c1_6 h, box_at p0_0 h, box_at p0_1 h, box_at p0_2 h, box_at yxc0 h, box_at yxc1 h, box_at yxh0 h, box_at yxr0 h, box_at yxr1 h⟩) ?_
                simp only [pickP, pickN, List.getElem?_cons_zero, List.getElem?_cons_succ]
                iterate 7 (refine' chainP_read _ rfl rfl (fun w' hS' => ?_) ?_; rotate_left; · (simp only [lookP, allP, Act.put, List.getElem?_cons_zero, List.getElem?_cons_succ, List.setIfInBounds_toArray, List.set_cons_zero, List.set_cons_succ]; (try dsimp only at hS'); go_simp; (try with_reducible rfl)))
                -- 7: load 39 t2
                refine' chainP_readG (d := (some 51)) _ rfl (fun w' hS' => ?_) ?_; rotate_left
                · simp only [lookP, allP, Act.put, List.getElem?_cons_zero, List.getElem?_cons_succ, List.setIfInBounds_toArray, List.set_cons_zero, List.set_cons_succ]
                  refine ⟨by kernel_rfl, ?_⟩
                  (try dsimp only at hS')
                  go_simp
                  (try with_reducible rfl)
                -- 8: fieldAddr 39 t2 2
                refine' chainP_readG (d := (some 52)) _ rfl (fun w' hS' => ?_) ?_; rotate_left
                · simp only [lookP, allP, Act.put, List.getElem?_cons_zero, List.getElem?_cons_succ, List.setIfInBounds_toArray, List.set_cons_zero, List.set_cons_succ]
                  refine ⟨by kernel_rfl, ?_⟩
                  (try dsimp only at hS')
                  go_simp
                  (try with_reducible rfl)
                -- 9: load 3 t52
                refine' chainP_readG (d := (some 53)) _ rfl (fun w' hS' => ?_) ?_; rotate_left
                · simp only [lookP, allP, Act.put, List.getElem?_cons_zero, List.getElem?_cons_succ, List.setIfInBounds_toArray, List.set_cons_zero, List.set_cons_succ]
                  refine ⟨by kernel_rfl, ?_⟩
                  (try dsimp only at hS')
                  go_simp
                  (try with_reducible rfl)
                -- 10: fieldAddr 42 t5 2
                refine' chainP_readG (d := (some 54)) _ rfl (fun w' hS' => ?_) ?_; rotate_left
                · simp only [lookP, allP, Act.put, List.getElem?_cons_zero, List.getElem?_cons_succ, List.setIfInBounds_toArray, List.set_cons_zero, List.set_cons_succ]
                  refine ⟨by kernel_rfl, ?_⟩
                  (try dsimp only at hS')
                  go_simp
                  (try with_reducible rfl)
                -- 11: load 24 t54
                refine' chainP_readG (d := (some 55)) _ rfl (fun w' hS' => ?_) ?_; rotate_left
                · simp only [lookP, allP, Act.put, List.getElem?_cons_zero, List.getElem?_cons_succ, List.setIfInBounds_toArray, List.set_cons_zero, List.set_cons_succ]
                  refine ⟨by kernel_rfl, ?_⟩
                  (try dsimp only at hS')
                  go_simp
                  (try with_reducible rfl)
                -- 12: indexAddr 24 t55 (const (int i64 0))
                refine' chainP_readG (d := (some 56)) _ rfl (fun w' hS' => ?_) ?_; rotate_left
                · simp only [lookP, allP, Act.put, List.getElem?_cons_zero, List.getElem?_cons_succ, List.setIfInBounds_toArray, List.set_cons_zero, List.set_cons_succ]
                  refine ⟨by kernel_rfl, ?_⟩
                  (try dsimp only at hS')
                  go_simp
                  (try with_reducible rfl)
                -- 13: load 3 t56
                refine' chainP_readG (d := (some 57)) _ rfl (fun w' hS' => ?_) ?_; rotate_left
                · simp only [lookP, allP, Act.put, List.getElem?_cons_zero, List.getElem?_cons_succ, List.setIfInBounds_toArray, List.set_cons_zero, List.set_cons_succ]
                  refine ⟨by kernel_rfl, ?_⟩
                  (try dsimp only at hS')
                  go_simp
                  (try with_reducible rfl)
                -- 14: call { callee := value (func 165), args := #[t51, t53, t57], argTypes := #[39, 3, 3] }
                refine chainP_callG (d := (some 58)) (.int .i64 P0) rfl (fun w' hS' => ?_) ?_
                · simp only [lookP, allP, Act.put, List.getElem?_cons_zero, List.getElem?_cons_succ, List.setIfInBounds_toArray, List.set_cons_zero, List.set_cons_succ]
                  refine ⟨by kernel_rfl, ?_⟩
                  intro K hK
                  go_simp
                  go_at_call 165
                  refine (impl_pow gr gr.g (nth x.p.r 0) _ HG.out sgg iz0).mono ?_
                  rintro e u ⟨rfl, hq⟩
                  rw [HP0.out]
                  exact hK.out _ hq
                -- 15: load 39 t2
                refine' chainP_readG (d := (some 59)) _ rfl (fun w' hS' => ?_) ?_; rotate_left
                · simp only [lookP, allP, Act.put, List.getElem?_cons_zero, List.getElem?_cons_succ, List.setIfInBounds_toArray, List.set_cons_zero, List.set_cons_succ]
                  refine ⟨by kernel_rfl, ?_⟩
                  (try dsimp only at hS')
                  go_simp
                  (try with_reducible rfl)
                -- 16: fieldAddr 42 t5 0
                refine' chainP_readG (d := (some 60)) _ rfl (fun w' hS' => ?_) ?_; rotate_left
                · simp only [lookP, allP, Act.put, List.getElem?_cons_zero, List.getElem?_cons_succ, List.setIfInBounds_toArray, List.set_cons_zero, List.set_cons_succ]
                  refine ⟨by kernel_rfl, ?_⟩
                  (try dsimp only at hS')
                  go_simp
                  (try with_reducible rfl)
                -- 17: load 24 t60
                refine' chainP_readG (d := (some 61)) _ rfl (fun w' hS' => ?_) ?_; rotate_left
                · simp only [lookP, allP, Act.put, List.getElem?_cons_zero, List.getElem?_cons_succ, List.setIfInBounds_toArray, List.set_cons_zero, List.set_cons_succ]
                  refine ⟨by kernel_rfl, ?_⟩
                  (try dsimp only at hS')
                  go_simp
                  (try with_reducible rfl)
                -- 18: indexAddr 24 t61 (const (int i64 0))
                refine' chainP_readG (d := (some 62)) _ rfl (fun w' hS' => ?_) ?_; rotate_left
                · simp only [lookP, allP, Act.put, List.getElem?_cons_zero, List.getElem?_cons_succ, List.setIfInBounds_toArray, List.set_cons_zero, List.set_cons_succ]
                  refine ⟨by kernel_rfl, ?_⟩
                  (try dsimp only at hS')
                  go_simp
                  (try with_reducible rfl)
                -- 19: load 3 t62
                refine' chainP_readG (d := (some 63)) _ rfl (fun w' hS' => ?_) ?_; rotate_left
                · simp only [lookP, allP, Act.put, List.getElem?_cons_zero, List.getElem?_cons_succ, List.setIfInBounds_toArray, List.set_cons_zero, List.set_cons_succ]
                  refine ⟨by kernel_rfl, ?_⟩
                  (try dsimp only at hS')
                  go_simp
                  (try with_reducible rfl)
                -- 20: load 39 t2
                refine' chainP_readG (d := (some 64)) _ rfl (fun w' hS' => ?_) ?_; rotate_left
                · simp only [lookP, allP, Act.put, List.getElem?_cons_zero, List.getElem?_cons_succ, List.setIfInBounds_toArray, List.set_cons_zero, List.set_cons_succ]
                  refine ⟨by kernel_rfl, ?_⟩
                  (try dsimp only at hS')
                  go_simp
                  (try with_reducible rfl)
                -- 21: fieldAddr 104 t3 0
                refine' chainP_readG (d := (some 65)) _ rfl (fun w' hS' => ?_) ?_; rotate_left
                · simp only [lookP, allP, Act.put, List.getElem?_cons_zero, List.getElem?_cons_succ, List.setIfInBounds_toArray, List.set_cons_zero, List.set_cons_succ]
                  refine ⟨by kernel_rfl, ?_⟩
                  (try dsimp only at hS')
                  go_simp
                  (try with_reducible rfl)
                -- 22: fieldAddr 58 t65 0
                refine' chainP_readG (d := (some 66)) _ rfl (fun w' hS' => ?_) ?_; rotate_left
                · simp only [lookP, allP, Act.put, List.getElem?_cons_zero, List.getElem?_cons_succ, List.setIfInBounds_toArray, List.set_cons_zero, List.set_cons_succ]
                  refine ⟨by kernel_rfl, ?_⟩
                  (try dsimp only at hS')
                  go_simp
                  (try with_reducible rfl)
                -- 23: load 3 t66
                refine' chainP_readG (d := (some 67)) _ rfl (fun w' hS' => ?_) ?_; rotate_left
                · simp only [lookP, allP, Act.put, List.getElem?_cons_zero, List.getElem?_cons_succ, List.setIfInBounds_toArray, List.set_cons_zero, List.set_cons_succ]
                  refine ⟨by kernel_rfl, ?_⟩
                  (try dsimp only at hS')
                  go_simp
                  (try with_reducible rfl)
                -- 24: move t6
                refine' chainP_readG (d := (some 68)) _ rfl (fun w' hS' => ?_) ?_; rotate_left
                · simp only [lookP, allP, Act.put, List.getElem?_cons_zero, List.getElem?_cons_succ, List.setIfInBounds_toArray, List.set_cons_zero, List.set_cons_succ]
                  refine ⟨by kernel_rfl, ?_⟩
                  (try dsimp only at hS')
                  go_simp
                  (try with_reducible rfl)
                -- 25: call { callee := value (func 165), args := #[t64, t67, t68], argTypes := #[39, 3, 3] }
                refine chainP_callG (d := (some 69)) (.int .i64 B0) rfl (fun w' hS' => ?_) ?_
                · simp only [lookP, allP, Act.put, List.getElem?_cons_zero, List.getElem?_cons_succ, List.setIfInBounds_toArray, List.set_cons_zero, List.set_cons_succ]
                  refine ⟨by kernel_rfl, ?_⟩
                  intro K hK
                  go_simp
                  go_at_call 165
                  refine (impl_pow gr x.c.a E _ HG.out sca iE).mono ?_
                  rintro e u ⟨rfl, hq⟩
                  rw [HB0.out]
                  exact hK.out _ hq
                -- 26: buildSlice 24 2 #[(0, t63), (1, t69)]
                refine chainP_doG (d := (some 70)) (fun v w => Ints w v [(nth x.p.c 0), B0]) (fun v w w' hb h => Ints.below h hb) rfl (fun w' hS' => ?_) ?_
                · simp only [lookP, allP, Act.put, List.getElem?_cons_zero, List.getElem?_cons_succ, List.setIfInBounds_toArray, List.set_cons_zero, List.set_cons_succ]
                  refine ⟨by kernel_rfl, ?_⟩
                  intro K hK
                  go_simp
                  refine hK.out _ _ ((Below.refl _ _).alloc (Nat.le_refl _) _) ?_
                  exact (OwnI.lit (B := w'.heap.size) w' (Nat.le_refl _) (l := [(nth x.p.c 0), B0]) (AllI64.cons (small_64 sx0) (AllI64.cons (small_64 sB0) AllI64.nil)) rfl (by simp [maxLen]) 2 rfl).ints
                -- 27: call { callee := value (func 197), args := #[t59, t70], argTypes := #[39, 24] }
                refine chainP_callG (d := (some 71)) (.int .i64 M0) rfl (fun w' hS' => ?_) ?_
                · simp only [lookP, allP, Act.put, List.getElem?_cons_zero, List.getElem?_cons_succ, List.setIfInBounds_toArray, List.set_cons_zero, List.set_cons_succ]
                  intro x26 hx26
                  refine ⟨by kernel_rfl, ?_⟩
                  intro K hK
                  go_simp
                  go_at_call 197
                  refine (impl_mul gr _ [nth x.p.c 0, B0] _ HG.out hx26 (AllSmall.cons sx0 (AllSmall.cons sB0 AllSmall.nil))).mono ?_
                  rintro e u ⟨rfl, hq⟩
                  rw [HM0.out]
                  exact hK.out _ hq
                -- 28: binOp Bineql 3 t58 t71 3
                refine' chainP_readG (d := (some 72)) _ rfl (fun w' hS' => ?_) ?_; rotate_left
                · simp only [lookP, allP, Act.put, List.getElem?_cons_zero, List.getElem?_cons_succ, List.setIfInBounds_toArray, List.set_cons_zero, List.set_cons_succ]
                  refine ⟨by kernel_rfl, ?_⟩
                  (try dsimp only at hS')
                  go_simp
                  (try with_reducible rfl)
                iterate 2 (refine' chainP_read _ rfl rfl (fun w' hS' => ?_) ?_; rotate_left; · (simp only [lookP, allP, Act.put, List.getElem?_cons_zero, List.getElem?_cons_succ, List.setIfInBounds_toArray, List.set_cons_zero, List.set_cons_succ]; (try dsimp only at hS'); go_simp; (try with_reducible rfl)))
                -- 31: load 39 t2
                refine chainP_skip (d := (some 75)) rfl (fun w' hS' => ?_) ?_
                · simp only [lookP, allP, Act.put, List.getElem?_cons_zero, List.getElem?_cons_succ, List.setIfInBounds_toArray, List.set_cons_zero, List.set_cons_succ]
                  kernel_rfl
                -- 32: fieldAddr 39 t2 2
                refine chainP_skip (d := (some 76)) rfl (fun w' hS' => ?_) ?_
                · simp only [lookP, allP, Act.put, List.getElem?_cons_zero, List.getElem?_cons_succ, List.setIfInBounds_toArray, List.set_cons_zero, List.set_cons_succ]
                  kernel_rfl
                -- 33: load 3 t76
                refine chainP_skip (d := (some 77)) rfl (fun w' hS' => ?_) ?_
                · simp only [lookP, allP, Act.put, List.getElem?_cons_zero, List.getElem?_cons_succ, List.setIfInBounds_toArray, List.set_cons_zero, List.set_cons_succ]
                  kernel_rfl
                -- 34: fieldAddr 42 t5 2
                refine chainP_skip (d := (some 78)) rfl (fun w' hS' => ?_) ?_
                · simp only [lookP, allP, Act.put, List.getElem?_cons_zero, List.getElem?_cons_succ, List.setIfInBounds_toArray, List.set_cons_zero, List.set_cons_succ]
                  kernel_rfl
                -- 35: load 24 t78
                refine chainP_skip (d := (some 79)) rfl (fun w' hS' => ?_) ?_
                · simp only [lookP, allP, Act.put, List.getElem?_cons_zero, List.getElem?_cons_succ, List.setIfInBounds_toArray, List.set_cons_zero, List.set_cons_succ]
                  kernel_rfl
                -- 36: indexAddr 24 t79 (const (int i64 1))
                refine chainP_skip (d := (some 80)) rfl (fun w' hS' => ?_) ?_
                · simp only [lookP, allP, Act.put, List.getElem?_cons_zero, List.getElem?_cons_succ, List.setIfInBounds_toArray, List.set_cons_zero, List.set_cons_succ]
                  kernel_rfl
                -- 37: load 3 t80
                refine chainP_skip (d := (some 81)) rfl (fun w' hS' => ?_) ?_
                · simp only [lookP, allP, Act.put, List.getElem?_cons_zero, List.getElem?_cons_succ, List.setIfInBounds_toArray, List.set_cons_zero, List.set_cons_succ]
                  kernel_rfl
                -- 38: call { callee := value (func 165), args := #[t75, t77, t81], argTypes := #[39, 3, 3] }
                refine chainP_skip (d := (some 82)) rfl (fun w' hS' => ?_) ?_
                · simp only [lookP, allP, Act.put, List.getElem?_cons_zero, List.getElem?_cons_succ, List.setIfInBounds_toArray, List.set_cons_zero, List.set_cons_succ]
                  kernel_rfl
                -- 39: load 39 t2
                refine chainP_skip (d := (some 83)) rfl (fun w' hS' => ?_) ?_
                · simp only [lookP, allP, Act.put, List.getElem?_cons_zero, List.getElem?_cons_succ, List.setIfInBounds_toArray, List.set_cons_zero, List.set_cons_succ]
                  kernel_rfl
                -- 40: fieldAddr 42 t5 0
                refine chainP_skip (d := (some 84)) rfl (fun w' hS' => ?_) ?_
                · simp only [lookP, allP, Act.put, List.getElem?_cons_zero, List.getElem?_cons_succ, List.setIfInBounds_toArray, List.set_cons_zero, List.set_cons_succ]
                  kernel_rfl
                -- 41: load 24 t84
                refine chainP_skip (d := (some 85)) rfl (fun w' hS' => ?_) ?_
                · simp only [lookP, allP, Act.put, List.getElem?_cons_zero, List.getElem?_cons_succ, List.setIfInBounds_toArray, List.set_cons_zero, List.set_cons_succ]
                  kernel_rfl
                -- 42: indexAddr 24 t85 (const (int i64 1))
                refine chainP_skip (d := (some 86)) rfl (fun w' hS' => ?_) ?_
                · simp only [lookP, allP, Act.put, List.getElem?_cons_zero, List.getElem?_cons_succ, List.setIfInBounds_toArray, List.set_cons_zero, List.set_cons_succ]
                  kernel_rfl
                -- 43: load 3 t86
                refine chainP_skip (d := (some 87)) rfl (fun w' hS' => ?_) ?_
                · simp only [lookP, allP, Act.put, List.getElem?_cons_zero, List.getElem?_cons_succ, List.setIfInBounds_toArray, List.set_cons_zero, List.set_cons_succ]
                  kernel_rfl
                -- 44: load 39 t2
                refine chainP_skip (d := (some 88)) rfl (fun w' hS' => ?_) ?_
                · simp only [lookP, allP, Act.put, List.getElem?_cons_zero, List.getElem?_cons_succ, List.setIfInBounds_toArray, List.set_cons_zero, List.set_cons_succ]
                  kernel_rfl
                -- 45: fieldAddr 104 t3 1
                refine chainP_skip (d := (some 89)) rfl (fun w' hS' => ?_) ?_
                · simp only [lookP, allP, Act.put, List.getElem?_cons_zero, List.getElem?_cons_succ, List.setIfInBounds_toArray, List.set_cons_zero, List.set_cons_succ]
                  kernel_rfl
                -- 46: fieldAddr 58 t89 0
                refine chainP_skip (d := (some 90)) rfl (fun w' hS' => ?_) ?_
                · simp only [lookP, allP, Act.put, List.getElem?_cons_zero, List.getElem?_cons_succ, List.setIfInBounds_toArray, List.set_cons_zero, List.set_cons_succ]
                  kernel_rfl
                -- 47: load 3 t90
                refine chainP_skip (d := (some 91)) rfl (fun w' hS' => ?_) ?_
                · simp only [lookP, allP, Act.put, List.getElem?_cons_zero, List.getElem?_cons_succ, List.setIfInBounds_toArray, List.set_cons_zero, List.set_cons_succ]
                  kernel_rfl
                -- 48: move t6
                refine chainP_skip (d := (some 92)) rfl (fun w' hS' => ?_) ?_
                · simp only [lookP, allP, Act.put, List.getElem?_cons_zero, List.getElem?_cons_succ, List.setIfInBounds_toArray, List.set_cons_zero, List.set_cons_succ]
                  kernel_rfl
                -- 49: call { callee := value (func 165), args := #[t88, t91, t92], argTypes := #[39, 3, 3] }
                refine chainP_skip (d := (some 93)) rfl (fun w' hS' => ?_) ?_
                · simp only [lookP, allP, Act.put, List.getElem?_cons_zero, List.getElem?_cons_succ, List.setIfInBounds_toArray, List.set_cons_zero, List.set_cons_succ]
                  kernel_rfl
                -- 50: buildSlice 24 2 #[(0, t87), (1, t93)]
                refine chainP_skip (d := (some 94)) rfl (fun w' hS' => ?_) ?_
                · simp only [lookP, allP, Act.put, List.getElem?_cons_zero, List.getElem?_cons_succ, List.setIfInBounds_toArray, List.set_cons_zero, List.set_cons_succ]
                  kernel_rfl
                -- 51: call { callee := value (func 197), args := #[t83, t94], argTypes := #[39, 24] }
                refine chainP_skip (d := (some 95)) rfl (fun w' hS' => ?_) ?_
                · simp only [lookP, allP, Act.put, List.getElem?_cons_zero, List.getElem?_cons_succ, List.setIfInBounds_toArray, List.set_cons_zero, List.set_cons_succ]
                  kernel_rfl
                -- 52: binOp Bineql 3 t82 t95 3
                refine chainP_skip (d := (some 96)) rfl (fun w' hS' => ?_) ?_
                · simp only [lookP, allP, Act.put, List.getElem?_cons_zero, List.getElem?_cons_succ, List.setIfInBounds_toArray, List.set_cons_zero, List.set_cons_succ]
                  kernel_rfl
                iterate 2 (refine' chainP_read _ rfl rfl (fun w' hS' => ?_) ?_; rotate_left; · (simp only [lookP, allP, Act.put, List.getElem?_cons_zero, List.getElem?_cons_succ, List.setIfInBounds_toArray, List.set_cons_zero, List.set_cons_succ]; (try dsimp only at hS'); go_simp; (try with_reducible rfl)))
                refine chainP_nil (fun u4 hS' => ?_)
                simp only [allP, Act.put, List.setIfInBounds_toArray, List.set_cons_zero, List.set_cons_succ]
                intro x26 hx26
                have hq4 := hS'.1
                clear hS'
                replace hc := Below.next hc hq4
                clear hq4 c0_0 c0_1 c0_2 c1_0 c1_1 c1_2 c1_3 c1_4 c1_5 c1_6 p0_0 p0_1 p0_2 yxc0 yxc1 yxh0 yxr0 yxr1
                obtain ⟨c0_0, c0_1, c0_2, c1_0, c1_1, c1_2, c1_3, c1_4, c1_5, c1_6, p0_0, p0_1, p0_2, yxc0, yxc1, yxh0, yxr0, yxr1⟩ := HCC.out _ hc
                go_wp2_with fail
                refine NoPanic.normal ?_
                go_wp2_with fail
                have HV : Hid ((.bool (vcastV gr sCast x) : Value) = .bool false) := by unfold Hid; simp [vcastV, hc1, hc2, hc3, Hhc4.out, Hhc5.out, hc6, hc7, HLxc.out, HLxh.out, HLxr.out, HE.out, HK0.out, HK1.out]
                go_ret
                exact ⟨congrArg Ending.returned HV.out.symm, HB.out.trans (hc.mono HB.out.size)⟩
              | true =>
                try (go_wp2_with fail)
                refine wp_region_noPanic ?_
                refine wp_region_P (fun w' => w'.cell? ⟨w.heap.size, 0, none⟩ = some (.int .i64 gr.p) ∧ w'.cell? ⟨w.heap.size, 1, none⟩ = some (.int .i64 gr.q) ∧ w'.cell? ⟨w.heap.size, 2, none⟩ = some (.int .i64 gr.g) ∧ w'.cell? ⟨w.heap.size + 1, 0, none⟩ = some (.int .i64 x.c.a) ∧ w'.cell? ⟨w.heap.size + 1, 1, none⟩ = some (.int .i64 x.c.b) ∧ w'.cell? ⟨w.heap.size + 1, 2, none⟩ = some (.int .i64 x.v.a) ∧ w'.cell? ⟨w.heap.size + 1, 3, none⟩ = some (.int .i64 x.v.b) ∧ w'.cell? ⟨w.heap.size + 1, 4, none⟩ = some ((.slice (some ⟨xcb, xco, none⟩) 2 xcc)) ∧ w'.cell? ⟨w.heap.size + 1, 5, none⟩ = some ((.slice (some ⟨xhb, xho, none⟩) 1 xhc)) ∧ w'.cell? ⟨w.heap.size + 1, 6, none⟩ = some ((.slice (some ⟨xrb, xro, none⟩) 2 xrc)) ∧ w'.cell? ⟨R0, 0, none⟩ = some ((.slice (some ⟨xcb, xco, none⟩) 2 xcc)) ∧ w'.cell? ⟨R0, 1, none⟩ = some ((.slice (some ⟨xhb, xho, none⟩) 1 xhc)) ∧ w'.cell? ⟨R0, 2, none⟩ = some ((.slice (some ⟨xrb, xro, none⟩) 2 xrc)) ∧ w'.cell? ⟨xcb, xco, none⟩ = some (.int .i64 (nth x.p.c 0)) ∧ w'.cell? ⟨xcb, xco + 1, none⟩ = some (.int .i64 (nth x.p.c 1)) ∧ w'.cell? ⟨xhb, xho, none⟩ = some (.int .i64 (nth x.p.h 0)) ∧ w'.cell? ⟨xrb, xro, none⟩ = some (.int .i64 (nth x.p.r 0)) ∧ w'.cell? ⟨xrb, xro + 1, none⟩ = some (.int .i64 (nth x.p.r 1))) 57 [(0, []), (1, [0]), (2, [0]), (3, [0]), (4, []), (5, [1, 0]), (6, [0]), (7, [0]), (8, [1]), (9, [0, 2]), (10, [3]), (11, [0, 4]), (12, [0, 5]), (13, [0, 6]), (14, [6, 4, 0, 7]), (15, [8]), (16, [9]), (17, [0, 10]), (18, [0, 11]), (19, [0, 12]), (20, [13]), (21, [14]), (22, [0, 15]), (23, [0, 16]), (24, [17]), (25, [4, 1, 0, 18]), (26, [6, 0, 19]), (27, [11, 0, 20]), (28, [13, 0, 21]), (29, [22, 0]), (30, [0]), (31, [0]), (32, [1]), (33, [0, 2]), (34, [3]), (35, [0, 4]), (36, [0, 5]), (37, [0, 6]), (38, [6, 4, 0, 7]), (39, [8]), (40, [9]), (41, [0, 10]), (42, [0, 11]), (43, [0, 12]), (44, [13]), (45, [14]), (46, [0, 15]), (47, [0, 16]), (48, [17]), (49, [4, 1, 0, 18]), (50, [6, 0, 19]), (51, [11, 0, 20]), (52, [13, 0, 21]), (53, [22, 0]), (54, [0])] [] (by kernel_rfl) (by kernel_rfl) (by kernel_rfl) rfl (fun _ _ _ _ h => h) (fun w' h => ⟨box_at c0_0 h, box_at c0_1 h, box_at c0_2 h, box_at c1_0 h, box_at c1_1 h, box_at c1_2 h, box_at c1_3 h, box_at c1_4 h, box_at c1_5 h, box_at c1_6 h, box_at p0_0 h, box_at p0_1 h, box_at p0_2 h, box_at yxc0 h, box_at yxc1 h, box_at yxh0 h, box_at yxr0 h, box_at yxr1 h⟩) ?_
                simp only [pickP, pickN, List.getElem?_cons_zero, List.getElem?_cons_succ]
                iterate 7 (refine' chainP_read _ rfl rfl (fun w' hS' => ?_) ?_; rotate_left; · (simp only [lookP, allP, Act.put, List.getElem?_cons_zero, List.getElem?_cons_succ, List.setIfInBounds_toArray, List.set_cons_zero, List.set_cons_succ]; (try dsimp only at hS'); go_simp; (try with_reducible rfl)))
                -- 7: load 39 t2
                refine' chainP_readG (d := (some 51)) _ rfl (fun w' hS' => ?_) ?_; rotate_left
                · simp only [lookP, allP, Act.put, List.getElem?_cons_zero, List.getElem?_cons_succ, List.setIfInBounds_toArray, List.set_cons_zero, List.set_cons_succ]
                  refine ⟨by kernel_rfl, ?_⟩
                  (try dsimp only at hS')
                  go_simp
                  (try with_reducible rfl)
                -- 8: fieldAddr 39 t2 2
                refine' chainP_readG (d := (some 52)) _ rfl (fun w' hS' => ?_) ?_; rotate_left
                · simp only [lookP, allP, Act.put, List.getElem?_cons_zero, List.getElem?_cons_succ, List.setIfInBounds_toArray, List.set_cons_zero, List.set_cons_succ]
                  refine ⟨by kernel_rfl, ?_⟩
                  (try dsimp only at hS')
                  go_simp
                  (try with_reducible rfl)
                -- 9: load 3 t52
                refine' chainP_readG (d := (some 53)) _ rfl (fun w' hS' => ?_) ?_; rotate_left
                · simp only [lookP, allP, Act.put, List.getElem?_cons_zero, List.getElem?_cons_succ, List.setIfInBounds_toArray, List.set_cons_zero, List.set_cons_succ]
                  refine ⟨by kernel_rfl, ?_⟩
                  (try dsimp only at hS')
                  go_simp
                  (try with_reducible rfl)
                -- 10: fieldAddr 42 t5 2
                refine' chainP_readG (d := (some 54)) _ rfl (fun w' hS' => ?_) ?_; rotate_left
                · simp only [lookP, allP, Act.put, List.getElem?_cons_zero, List.getElem?_cons_succ, List.setIfInBounds_toArray, List.set_cons_zero, List.set_cons_succ]
                  refine ⟨by kernel_rfl, ?_⟩
                  (try dsimp only at hS')
                  go_simp
                  (try with_reducible rfl)
                -- 11: load 24 t54
                refine' chainP_readG (d := (some 55)) _ rfl (fun w' hS' => ?_) ?_; rotate_left
                · simp only [lookP, allP, Act.put, List.getElem?_cons_zero, List.getElem?_cons_succ, List.setIfInBounds_toArray, List.set_cons_zero, List.set_cons_succ]
                  refine ⟨by kernel_rfl, ?_⟩
                  (try dsimp only at hS')
                  go_simp
                  (try with_reducible rfl)
                -- 12: indexAddr 24 t55 (const (int i64 0))
                refine' chainP_readG (d := (some 56)) _ rfl (fun w' hS' => ?_) ?_; rotate_left
                · simp only [lookP, allP, Act.put, List.getElem?_cons_zero, List.getElem?_cons_succ, List.setIfInBounds_toArray, List.set_cons_zero, List.set_cons_succ]
                  refine ⟨by kernel_rfl, ?_⟩
                  (try dsimp only at hS')
                  go_simp
                  (try with_reducible rfl)
                -- 13: load 3 t56
                refine' chainP_readG (d := (some 57)) _ rfl (fun w' hS' => ?_) ?_; rotate_left
                · simp only [lookP, allP, Act.put, List.getElem?_cons_zero, List.getElem?_cons_succ, List.setIfInBounds_toArray, List.set_cons_zero, List.set_cons_succ]
                  refine ⟨by kernel_rfl, ?_⟩
                  (try dsimp only at hS')
                  go_simp
                  (try with_reducible rfl)
                -- 14: call { callee := value (func 165), args := #[t51, t53, t57], argTypes := #[39, 3, 3] }
                refine chainP_callG (d := (some 58)) (.int .i64 P0) rfl (fun w' hS' => ?_) ?_
                · simp only [lookP, allP, Act.put, List.getElem?_cons_zero, List.getElem?_cons_succ, List.setIfInBounds_toArray, List.set_cons_zero, List.set_cons_succ]
                  refine ⟨by kernel_rfl, ?_⟩
                  intro K hK
                  go_simp
                  go_at_call 165
                  refine (impl_pow gr gr.g (nth x.p.r 0) _ HG.out sgg iz0).mono ?_
                  rintro e u ⟨rfl, hq⟩
                  rw [HP0.out]
                  exact hK.out _ hq
                -- 15: load 39 t2
                refine' chainP_readG (d := (some 59)) _ rfl (fun w' hS' => ?_) ?_; rotate_left
                · simp only [lookP, allP, Act.put, List.getElem?_cons_zero, List.getElem?_cons_succ, List.setIfInBounds_toArray, List.set_cons_zero, List.set_cons_succ]
                  refine ⟨by kernel_rfl, ?_⟩
                  (try dsimp only at hS')
                  go_simp
                  (try with_reducible rfl)
                -- 16: fieldAddr 42 t5 0
                refine' chainP_readG (d := (some 60)) _ rfl (fun w' hS' => ?_) ?_; rotate_left
                · simp only [lookP, allP, Act.put, List.getElem?_cons_zero, List.getElem?_cons_succ, List.setIfInBounds_toArray, List.set_cons_zero, List.set_cons_succ]
                  refine ⟨by kernel_rfl, ?_⟩
                  (try dsimp only at hS')
                  go_simp
                  (try with_reducible rfl)
                -- 17: load 24 t60
                refine' chainP_readG (d := (some 61)) _ rfl (fun w' hS' => ?_) ?_; rotate_left
                · simp only [lookP, allP, Act.put, List.getElem?_cons_zero, List.getElem?_cons_succ, List.setIfInBounds_toArray, List.set_cons_zero, List.set_cons_succ]
                  refine ⟨by kernel_rfl, ?_⟩
                  (try dsimp only at hS')
                  go_simp
                  (try with_reducible rfl)
                -- 18: indexAddr 24 t61 (const (int i64 0))
                refine' chainP_readG (d := (some 62)) _ rfl (fun w' hS' => ?_) ?_; rotate_left
                · simp only [lookP, allP, Act.put, List.getElem?_cons_zero, List.getElem?_cons_succ, List.setIfInBounds_toArray, List.set_cons_zero, List.set_cons_succ]
                  refine ⟨by kernel_rfl, ?_⟩
                  (try dsimp only at hS')
                  go_simp
                  (try with_reducible rfl)
                -- 19: load 3 t62
                refine' chainP_readG (d := (some 63)) _ rfl (fun w' hS' => ?_) ?_; rotate_left
                · simp only [lookP, allP, Act.put, List.getElem?_cons_zero, List.getElem?_cons_succ, List.setIfInBounds_toArray, List.set_cons_zero, List.set_cons_succ]
                  refine ⟨by kernel_rfl, ?_⟩
                  (try dsimp only at hS')
                  go_simp
                  (try with_reducible rfl)
                -- 20: load 39 t2
                refine' chainP_readG (d := (some 64)) _ rfl (fun w' hS' => ?_) ?_; rotate_left
                · simp only [lookP, allP, Act.put, List.getElem?_cons_zero, List.getElem?_cons_succ, List.setIfInBounds_toArray, List.set_cons_zero, List.set_cons_succ]
                  refine ⟨by kernel_rfl, ?_⟩
                  (try dsimp only at hS')
                  go_simp
                  (try with_reducible rfl)
                -- 21: fieldAddr 104 t3 0
                refine' chainP_readG (d := (some 65)) _ rfl (fun w' hS' => ?_) ?_; rotate_left
                · simp only [lookP, allP, Act.put, List.getElem?_cons_zero, List.getElem?_cons_succ, List.setIfInBounds_toArray, List.set_cons_zero, List.set_cons_succ]
                  refine ⟨by kernel_rfl, ?_⟩
                  (try dsimp only at hS')
                  go_simp
                  (try with_reducible rfl)
                -- 22: fieldAddr 58 t65 0
                refine' chainP_readG (d := (some 66)) _ rfl (fun w' hS' => ?_) ?_; rotate_left
                · simp only [lookP, allP, Act.put, List.getElem?_cons_zero, List.getElem?_cons_succ, List.setIfInBounds_toArray, List.set_cons_zero, List.set_cons_succ]
                  refine ⟨by kernel_rfl, ?_⟩
                  (try dsimp only at hS')
                  go_simp
                  (try with_reducible rfl)
                -- 23: load 3 t66
                refine' chainP_readG (d := (some 67)) _ rfl (fun w' hS' => ?_) ?_; rotate_left
                · simp only [lookP, allP, Act.put, List.getElem?_cons_zero, List.getElem?_cons_succ, List.setIfInBounds_toArray, List.set_cons_zero, List.set_cons_succ]
                  refine ⟨by kernel_rfl, ?_⟩
                  (try dsimp only at hS')
                  go_simp
                  (try with_reducible rfl)
                -- 24: move t6
                refine' chainP_readG (d := (some 68)) _ rfl (fun w' hS' => ?_) ?_; rotate_left
                · simp only [lookP, allP, Act.put, List.getElem?_cons_zero, List.getElem?_cons_succ, List.setIfInBounds_toArray, List.set_cons_zero, List.set_cons_succ]
                  refine ⟨by kernel_rfl, ?_⟩
                  (try dsimp only at hS')
                  go_simp
                  (try with_reducible rfl)
                -- 25: call { callee := value (func 165), args := #[t64, t67, t68], argTypes := #[39, 3, 3] }
                refine chainP_callG (d := (some 69)) (.int .i64 B0) rfl (fun w' hS' => ?_) ?_
                · simp only [lookP, allP, Act.put, List.getElem?_cons_zero, List.getElem?_cons_succ, List.setIfInBounds_toArray, List.set_cons_zero, List.set_cons_succ]
                  refine ⟨by kernel_rfl, ?_⟩
                  intro K hK
                  go_simp
                  go_at_call 165
                  refine (impl_pow gr x.c.a E _ HG.out sca iE).mono ?_
                  rintro e u ⟨rfl, hq⟩
                  rw [HB0.out]
                  exact hK.out _ hq
                -- 26: buildSlice 24 2 #[(0, t63), (1, t69)]
                refine chainP_doG (d := (some 70)) (fun v w => Ints w v [(nth x.p.c 0), B0]) (fun v w w' hb h => Ints.below h hb) rfl (fun w' hS' => ?_) ?_
                · simp only [lookP, allP, Act.put, List.getElem?_cons_zero, List.getElem?_cons_succ, List.setIfInBounds_toArray, List.set_cons_zero, List.set_cons_succ]
                  refine ⟨by kernel_rfl, ?_⟩
                  intro K hK
                  go_simp
                  refine hK.out _ _ ((Below.refl _ _).alloc (Nat.le_refl _) _) ?_
                  exact (OwnI.lit (B := w'.heap.size) w' (Nat.le_refl _) (l := [(nth x.p.c 0), B0]) (AllI64.cons (small_64 sx0) (AllI64.cons (small_64 sB0) AllI64.nil)) rfl (by simp [maxLen]) 2 rfl).ints
                -- 27: call { callee := value (func 197), args := #[t59, t70], argTypes := #[39, 24] }
                refine chainP_callG (d := (some 71)) (.int .i64 M0) rfl (fun w' hS' => ?_) ?_
                · simp only [lookP, allP, Act.put, List.getElem?_cons_zero, List.getElem?_cons_succ, List.setIfInBounds_toArray, List.set_cons_zero, List.set_cons_succ]
                  intro x26 hx26
                  refine ⟨by kernel_rfl, ?_⟩
                  intro K hK
                  go_simp
                  go_at_call 197
                  refine (impl_mul gr _ [nth x.p.c 0, B0] _ HG.out hx26 (AllSmall.cons sx0 (AllSmall.cons sB0 AllSmall.nil))).mono ?_
                  rintro e u ⟨rfl, hq⟩
                  rw [HM0.out]
                  exact hK.out _ hq
                -- 28: binOp Bineql 3 t58 t71 3
                refine' chainP_readG (d := (some 72)) _ rfl (fun w' hS' => ?_) ?_; rotate_left
                · simp only [lookP, allP, Act.put, List.getElem?_cons_zero, List.getElem?_cons_succ, List.setIfInBounds_toArray, List.set_cons_zero, List.set_cons_succ]
                  refine ⟨by kernel_rfl, ?_⟩
                  (try dsimp only at hS')
                  go_simp
                  (try with_reducible rfl)
                iterate 2 (refine' chainP_read _ rfl rfl (fun w' hS' => ?_) ?_; rotate_left; · (simp only [lookP, allP, Act.put, List.getElem?_cons_zero, List.getElem?_cons_succ, List.setIfInBounds_toArray, List.set_cons_zero, List.set_cons_succ]; (try dsimp only at hS'); go_simp; (try with_reducible rfl)))
                -- 31: load 39 t2
                refine' chainP_readG (d := (some 75)) _ rfl (fun w' hS' => ?_) ?_; rotate_left
                · simp only [lookP, allP, Act.put, List.getElem?_cons_zero, List.getElem?_cons_succ, List.setIfInBounds_toArray, List.set_cons_zero, List.set_cons_succ]
                  refine ⟨by kernel_rfl, ?_⟩
                  (try dsimp only at hS')
                  go_simp
                  (try with_reducible rfl)
                -- 32: fieldAddr 39 t2 2
                refine' chainP_readG (d := (some 76)) _ rfl (fun w' hS' => ?_) ?_; rotate_left
                · simp only [lookP, allP, Act.put, List.getElem?_cons_zero, List.getElem?_cons_succ, List.setIfInBounds_toArray, List.set_cons_zero, List.set_cons_succ]
                  refine ⟨by kernel_rfl, ?_⟩
                  (try dsimp only at hS')
                  go_simp
                  (try with_reducible rfl)
                -- 33: load 3 t76
                refine' chainP_readG (d := (some 77)) _ rfl (fun w' hS' => ?_) ?_; rotate_left
                · simp only [lookP, allP, Act.put, List.getElem?_cons_zero, List.getElem?_cons_succ, List.setIfInBounds_toArray, List.set_cons_zero, List.set_cons_succ]
                  refine ⟨by kernel_rfl, ?_⟩
                  (try dsimp only at hS')
                  go_simp
                  (try with_reducible rfl)
                -- 34: fieldAddr 42 t5 2
                refine' chainP_readG (d := (some 78)) _ rfl (fun w' hS' => ?_) ?_; rotate_left
                · simp only [lookP, allP, Act.put, List.getElem?_cons_zero, List.getElem?_cons_succ, List.setIfInBounds_toArray, List.set_cons_zero, List.set_cons_succ]
                  refine ⟨by kernel_rfl, ?_⟩
                  (try dsimp only at hS')
                  go_simp
                  (try with_reducible rfl)
                -- 35: load 24 t78
                refine' chainP_readG (d := (some 79)) _ rfl (fun w' hS' => ?_) ?_; rotate_left
                · simp only [lookP, allP, Act.put, List.getElem?_cons_zero, List.getElem?_cons_succ, List.setIfInBounds_toArray, List.set_cons_zero, List.set_cons_succ]
                  refine ⟨by kernel_rfl, ?_⟩
                  (try dsimp only at hS')
                  go_simp
                  (try with_reducible rfl)
                -- 36: indexAddr 24 t79 (const (int i64 1))
                refine' chainP_readG (d := (some 80)) _ rfl (fun w' hS' => ?_) ?_; rotate_left
                · simp only [lookP, allP, Act.put, List.getElem?_cons_zero, List.getElem?_cons_succ, List.setIfInBounds_toArray, List.set_cons_zero, List.set_cons_succ]
                  refine ⟨by kernel_rfl, ?_⟩
                  (try dsimp only at hS')
                  go_simp
                  (try with_reducible rfl)
                -- 37: load 3 t80
                refine' chainP_readG (d := (some 81)) _ rfl (fun w' hS' => ?_) ?_; rotate_left
                · simp only [lookP, allP, Act.put, List.getElem?_cons_zero, List.getElem?_cons_succ, List.setIfInBounds_toArray, List.set_cons_zero, List.set_cons_succ]
                  refine ⟨by kernel_rfl, ?_⟩
                  (try dsimp only at hS')
                  go_simp
                  (try with_reducible rfl)
                -- 38: call { callee := value (func 165), args := #[t75, t77, t81], argTypes := #[39, 3, 3] }
                refine chainP_callG (d := (some 82)) (.int .i64 P1) rfl (fun w' hS' => ?_) ?_
                · simp only [lookP, allP, Act.put, List.getElem?_cons_zero, List.getElem?_cons_succ, List.setIfInBounds_toArray, List.set_cons_zero, List.set_cons_succ]
                  refine ⟨by kernel_rfl, ?_⟩
                  intro K hK
                  go_simp
                  go_at_call 165
                  refine (impl_pow gr gr.g (nth x.p.r 1) _ HG.out sgg iz1).mono ?_
                  rintro e u ⟨rfl, hq⟩
                  rw [HP1.out]
                  exact hK.out _ hq
                -- 39: load 39 t2
                refine' chainP_readG (d := (some 83)) _ rfl (fun w' hS' => ?_) ?_; rotate_left
                · simp only [lookP, allP, Act.put, List.getElem?_cons_zero, List.getElem?_cons_succ, List.setIfInBounds_toArray, List.set_cons_zero, List.set_cons_succ]
                  refine ⟨by kernel_rfl, ?_⟩
                  (try dsimp only at hS')
                  go_simp
                  (try with_reducible rfl)
                -- 40: fieldAddr 42 t5 0
                refine' chainP_readG (d := (some 84)) _ rfl (fun w' hS' => ?_) ?_; rotate_left
                · simp only [lookP, allP, Act.put, List.getElem?_cons_zero, List.getElem?_cons_succ, List.setIfInBounds_toArray, List.set_cons_zero, List.set_cons_succ]
                  refine ⟨by kernel_rfl, ?_⟩
                  (try dsimp only at hS')
                  go_simp
                  (try with_reducible rfl)
                -- 41: load 24 t84
                refine' chainP_readG (d := (some 85)) _ rfl (fun w' hS' => ?_) ?_; rotate_left
                · simp only [lookP, allP, Act.put, List.getElem?_cons_zero, List.getElem?_cons_succ, List.setIfInBounds_toArray, List.set_cons_zero, List.set_cons_succ]
                  refine ⟨by kernel_rfl, ?_⟩
                  (try dsimp only at hS')
                  go_simp
                  (try with_reducible rfl)
                -- 42: indexAddr 24 t85 (const (int i64 1))
                refine' chainP_readG (d := (some 86)) _ rfl (fun w' hS' => ?_) ?_; rotate_left
                · simp only [lookP, allP, Act.put, List.getElem?_cons_zero, List.getElem?_cons_succ, List.setIfInBounds_toArray, List.set_cons_zero, List.set_cons_succ]
                  refine ⟨by kernel_rfl, ?_⟩
                  (try dsimp only at hS')
                  go_simp
                  (try with_reducible rfl)
                -- 43: load 3 t86
                refine' chainP_readG (d := (some 87)) _ rfl (fun w' hS' => ?_) ?_; rotate_left
                · simp only [lookP, allP, Act.put, List.getElem?_cons_zero, List.getElem?_cons_succ, List.setIfInBounds_toArray, List.set_cons_zero, List.set_cons_succ]
                  refine ⟨by kernel_rfl, ?_⟩
                  (try dsimp only at hS')
                  go_simp
                  (try with_reducible rfl)
                -- 44: load 39 t2
                refine' chainP_readG (d := (some 88)) _ rfl (fun w' hS' => ?_) ?_; rotate_left
                · simp only [lookP, allP, Act.put, List.getElem?_cons_zero, List.getElem?_cons_succ, List.setIfInBounds_toArray, List.set_cons_zero, List.set_cons_succ]
                  refine ⟨by kernel_rfl, ?_⟩
                  (try dsimp only at hS')
                  go_simp
                  (try with_reducible rfl)
                -- 45: fieldAddr 104 t3 1
                refine' chainP_readG (d := (some 89)) _ rfl (fun w' hS' => ?_) ?_; rotate_left
                · simp only [lookP, allP, Act.put, List.getElem?_cons_zero, List.getElem?_cons_succ, List.setIfInBounds_toArray, List.set_cons_zero, List.set_cons_succ]
                  refine ⟨by kernel_rfl, ?_⟩
                  (try dsimp only at hS')
                  go_simp
                  (try with_reducible rfl)
                -- 46: fieldAddr 58 t89 0
                refine' chainP_readG (d := (some 90)) _ rfl (fun w' hS' => ?_) ?_; rotate_left
                · simp only [lookP, allP, Act.put, List.getElem?_cons_zero, List.getElem?_cons_succ, List.setIfInBounds_toArray, List.set_cons_zero, List.set_cons_succ]
                  refine ⟨by kernel_rfl, ?_⟩
                  (try dsimp only at hS')
                  go_simp
                  (try with_reducible rfl)
                -- 47: load 3 t90
                refine' chainP_readG (d := (some 91)) _ rfl (fun w' hS' => ?_) ?_; rotate_left
                · simp only [lookP, allP, Act.put, List.getElem?_cons_zero, List.getElem?_cons_succ, List.setIfInBounds_toArray, List.set_cons_zero, List.set_cons_succ]
                  refine ⟨by kernel_rfl, ?_⟩
                  (try dsimp only at hS')
                  go_simp
                  (try with_reducible rfl)
                -- 48: move t6
                refine' chainP_readG (d := (some 92)) _ rfl (fun w' hS' => ?_) ?_; rotate_left
                · simp only [lookP, allP, Act.put, List.getElem?_cons_zero, List.getElem?_cons_succ, List.setIfInBounds_toArray, List.set_cons_zero, List.set_cons_succ]
                  refine ⟨by kernel_rfl, ?_⟩
                  (try dsimp only at hS')
                  go_simp
                  (try with_reducible rfl)
                -- 49: call { callee := value (func 165), args := #[t88, t91, t92], argTypes := #[39, 3, 3] }
                refine chainP_callG (d := (some 93)) (.int .i64 B1) rfl (fun w' hS' => ?_) ?_
                · simp only [lookP, allP, Act.put, List.getElem?_cons_zero, List.getElem?_cons_succ, List.setIfInBounds_toArray, List.set_cons_zero, List.set_cons_succ]
                  refine ⟨by kernel_rfl, ?_⟩
                  intro K hK
                  go_simp
                  go_at_call 165
                  refine (impl_pow gr x.v.a E _ HG.out sva iE).mono ?_
                  rintro e u ⟨rfl, hq⟩
                  rw [HB1.out]
                  exact hK.out _ hq
                -- 50: buildSlice 24 2 #[(0, t87), (1, t93)]
                refine chainP_doG (d := (some 94)) (fun v w => Ints w v [(nth x.p.c 1), B1]) (fun v w w' hb h => Ints.below h hb) rfl (fun w' hS' => ?_) ?_
                · simp only [lookP, allP, Act.put, List.getElem?_cons_zero, List.getElem?_cons_succ, List.setIfInBounds_toArray, List.set_cons_zero, List.set_cons_succ]
                  refine ⟨by kernel_rfl, ?_⟩
                  intro K hK
                  go_simp
                  refine hK.out _ _ ((Below.refl _ _).alloc (Nat.le_refl _) _) ?_
                  exact (OwnI.lit (B := w'.heap.size) w' (Nat.le_refl _) (l := [(nth x.p.c 1), B1]) (AllI64.cons (small_64 sx1) (AllI64.cons (small_64 sB1) AllI64.nil)) rfl (by simp [maxLen]) 2 rfl).ints
                -- 51: call { callee := value (func 197), args := #[t83, t94], argTypes := #[39, 24] }
                refine chainP_callG (d := (some 95)) (.int .i64 M1) rfl (fun w' hS' => ?_) ?_
                · simp only [lookP, allP, Act.put, List.getElem?_cons_zero, List.getElem?_cons_succ, List.setIfInBounds_toArray, List.set_cons_zero, List.set_cons_succ]
                  intro x50 hx50
                  refine ⟨by kernel_rfl, ?_⟩
                  intro K hK
                  go_simp
                  go_at_call 197
                  refine (impl_mul gr _ [nth x.p.c 1, B1] _ HG.out hx50 (AllSmall.cons sx1 (AllSmall.cons sB1 AllSmall.nil))).mono ?_
                  rintro e u ⟨rfl, hq⟩
                  rw [HM1.out]
                  exact hK.out _ hq
                -- 52: binOp Bineql 3 t82 t95 3
                refine' chainP_readG (d := (some 96)) _ rfl (fun w' hS' => ?_) ?_; rotate_left
                · simp only [lookP, allP, Act.put, List.getElem?_cons_zero, List.getElem?_cons_succ, List.setIfInBounds_toArray, List.set_cons_zero, List.set_cons_succ]
                  refine ⟨by kernel_rfl, ?_⟩
                  (try dsimp only at hS')
                  go_simp
                  (try with_reducible rfl)
                iterate 2 (refine' chainP_read _ rfl rfl (fun w' hS' => ?_) ?_; rotate_left; · (simp only [lookP, allP, Act.put, List.getElem?_cons_zero, List.getElem?_cons_succ, List.setIfInBounds_toArray, List.set_cons_zero, List.set_cons_succ]; (try dsimp only at hS'); go_simp; (try with_reducible rfl)))
                refine chainP_nil (fun u4 hS' => ?_)
                simp only [allP, Act.put, List.setIfInBounds_toArray, List.set_cons_zero, List.set_cons_succ]
                intro x50 hx50
                intro x26 hx26
                have hq4 := hS'.1
                clear hS'
                replace hc := Below.next hc hq4
                clear hq4 c0_0 c0_1 c0_2 c1_0 c1_1 c1_2 c1_3 c1_4 c1_5 c1_6 p0_0 p0_1 p0_2 yxc0 yxc1 yxh0 yxr0 yxr1
                obtain ⟨c0_0, c0_1, c0_2, c1_0, c1_1, c1_2, c1_3, c1_4, c1_5, c1_6, p0_0, p0_1, p0_2, yxc0, yxc1, yxh0, yxr0, yxr1⟩ := HCC.out _ hc
                go_wp2_with fail
                refine NoPanic.normal ?_
                cases hc8 : (P1 == M1) with
                | false =>
                  go_wp2_with fail
                  have HV : Hid ((.bool (vcastV gr sCast x) : Value) = .bool false) := by unfold Hid; simp [vcastV, hc1, hc2, hc3, Hhc4.out, Hhc5.out, hc6, hc7, hc8, HLxc.out, HLxh.out, HLxr.out, HE.out, HK0.out, HK1.out]
                  go_ret
                  exact ⟨congrArg Ending.returned HV.out.symm, HB.out.trans (hc.mono HB.out.size)⟩
                | true =>
                  go_wp2_with fail
                  have HV : Hid ((.bool (vcastV gr sCast x) : Value) = .bool true) := by unfold Hid; simp [vcastV, hc1, hc2, hc3, Hhc4.out, Hhc5.out, hc6, hc7, hc8, HLxc.out, HLxh.out, HLxr.out, HE.out, HK0.out, HK1.out]
                  go_ret
                  exact ⟨congrArg Ending.returned HV.out.symm, HB.out.trans (hc.mono HB.out.size)⟩
      | true =>
        have HLxr : Hid (decide (x.p.r.length = 2) = false) := by have q := hc3; rw [bne_iff_ne] at q; exact decide_eq_false (by have := Exr.out; omega)
        go_wp2_with fail
        have HV : Hid ((.bool (vcastV gr sCast x) : Value) = .bool false) := by unfold Hid; simp [vcastV, hc1, hc2, hc3, HLxc.out, HLxh.out, HLxr.out]
        go_ret
        exact ⟨congrArg Ending.returned HV.out.symm, HB.out.trans (hc.mono HB.out.size)⟩
    | true =>
      have HLxh : Hid (decide (x.p.h.length = 1) = false) := by have q := hc2; rw [bne_iff_ne] at q; exact decide_eq_false (by have := Exh.out; omega)
      go_wp2_with fail
      have HV : Hid ((.bool (vcastV gr sCast x) : Value) = .bool false) := by unfold Hid; simp [vcastV, hc1, hc2, HLxc.out, HLxh.out]
      go_ret
      exact ⟨congrArg Ending.returned HV.out.symm, HB.out.trans (hc.mono HB.out.size)⟩
  | true =>
    have HLxc : Hid (decide (x.p.c.length = 2) = false) := by have q := hc1; rw [bne_iff_ne] at q; exact decide_eq_false (by have := Exc.out; omega)
    go_wp2_with fail
    have HV : Hid ((.bool (vcastV gr sCast x) : Value) = .bool false) := by unfold Hid; simp [vcastV, hc1, HLxc.out]
    go_ret
    exact ⟨congrArg Ending.returned HV.out.symm, HB.out.trans (hc.mono HB.out.size)⟩
end Go.Proofs.Ytboahnklilmdpaa
