/- Ballots: casts checked: walks (printed by gen_bal4.py). -/
import Derived.Test.YtboahnklilmdpaaBal3V
import Derived.Deep.Cut
namespace Go.Proofs.Ytboahnklilmdpaa
open Go.RowKit
set_option linter.unusedSimpArgs false
set_option linter.unusedVariables false
set_option maxRecDepth 100000 in
set_option maxHeartbeats 4000000 in
theorem spec_dVerify (gr : GroupD) (pv : Value) (x : CastD) (w : World) (hg : OkG gr) (hp : CaR w pv x) (hs4 : (Small x.c.a ∧ Small x.c.b) ∧ (Small x.v.a ∧ Small x.v.b)) :
    Calls Try.prog 196 #[.agg #[.int .i64 gr.p, .int .i64 gr.q, .int .i64 gr.g], pv] w fun e w' => e = .returned (.bool (vcastV gr sCast x)) ∧ Below w.heap.size w w' := by
  have HG := Lib.hid hg
  clear hg
  obtain ⟨xcv, xhv, xrv, rfl, ⟨⟨ia, ib⟩, ⟨ic, id⟩⟩, hxc, hxh, hxr⟩ := hp
  obtain ⟨xca, xcn, xcc, rfl⟩ := hxc.shape
  have Exc := Lib.hid hxc.len
  have Kxc := Lib.hid hxc.capMax
  have Hxc := Lib.hid hxc
  clear hxc
  obtain ⟨xha, xhn, xhc, rfl⟩ := hxh.shape
  have Exh := Lib.hid hxh.len
  have Kxh := Lib.hid hxh.capMax
  have Hxh := Lib.hid hxh
  clear hxh
  obtain ⟨xra, xrn, xrc, rfl⟩ := hxr.shape
  have Exr := Lib.hid hxr.len
  have Kxr := Lib.hid hxr.capMax
  have Hxr := Lib.hid hxr
  clear hxr
  have HS4 := Lib.hid hs4
  clear hs4
  obtain ⟨W, hW⟩ : ∃ W, W = (w.alloc (.cells #[.int .i64 gr.p, .int .i64 gr.q, .int .i64 gr.g] 39)).alloc (.cells #[.int .i64 x.c.a, .int .i64 x.c.b, .int .i64 x.v.a, .int .i64 x.v.b, (.slice xca xcn xcc), (.slice xha xhn xhc), (.slice xra xrn xrc)] 104) := ⟨_, rfl⟩
  have HB : Hid (Below w.heap.size w W) := by unfold Hid; rw [hW]; (repeat (first | exact Below.refl _ _ | assumption | refine Below.drew ?_ | refine Below.alloc ?_ (by first | (simp; done) | (simp; omega)) _ | refine Below.setCell ?_ (by first | (simp; done) | (simp; omega)) _))
  have c0_0 : W.cell? ⟨w.heap.size, 0, none⟩ = some (.int .i64 gr.p) := by rw [hW]; simp [go_sem]
  have c0_1 : W.cell? ⟨w.heap.size, 1, none⟩ = some (.int .i64 gr.q) := by rw [hW]; simp [go_sem]
  have c0_2 : W.cell? ⟨w.heap.size, 2, none⟩ = some (.int .i64 gr.g) := by rw [hW]; simp [go_sem]
  have c1_0 : W.cell? ⟨w.heap.size + 1, 0, none⟩ = some (.int .i64 x.c.a) := by rw [hW]; simp [go_sem]
  have c1_1 : W.cell? ⟨w.heap.size + 1, 1, none⟩ = some (.int .i64 x.c.b) := by rw [hW]; simp [go_sem]
  have c1_2 : W.cell? ⟨w.heap.size + 1, 2, none⟩ = some (.int .i64 x.v.a) := by rw [hW]; simp [go_sem]
  have c1_3 : W.cell? ⟨w.heap.size + 1, 3, none⟩ = some (.int .i64 x.v.b) := by rw [hW]; simp [go_sem]
  have c1_4 : W.cell? ⟨w.heap.size + 1, 4, none⟩ = some ((.slice xca xcn xcc)) := by rw [hW]; simp [go_sem]
  have c1_5 : W.cell? ⟨w.heap.size + 1, 5, none⟩ = some ((.slice xha xhn xhc)) := by rw [hW]; simp [go_sem]
  have c1_6 : W.cell? ⟨w.heap.size + 1, 6, none⟩ = some ((.slice xra xrn xrc)) := by rw [hW]; simp [go_sem]
  have HSW : Hid (W.heap.size = w.heap.size + 2) := by unfold Hid; rw [hW]; simp
  go_enter Try.func196, Try.ntmps196
  go_upto_region 1 with fail
  rw [← hW]
  have hse : w.heap.size + 1 + 1 = W.heap.size := by have := HSW.out; omega
  (try rw [hse])
  clear hse
  clear hW
  have hc : Below W.heap.size W W := Below.refl _ _
  have HCC : Hid (∀ u, Below W.heap.size W u → u.cell? ⟨w.heap.size, 0, none⟩ = some (.int .i64 gr.p) ∧ u.cell? ⟨w.heap.size, 1, none⟩ = some (.int .i64 gr.q) ∧ u.cell? ⟨w.heap.size, 2, none⟩ = some (.int .i64 gr.g) ∧ u.cell? ⟨w.heap.size + 1, 0, none⟩ = some (.int .i64 x.c.a) ∧ u.cell? ⟨w.heap.size + 1, 1, none⟩ = some (.int .i64 x.c.b) ∧ u.cell? ⟨w.heap.size + 1, 2, none⟩ = some (.int .i64 x.v.a) ∧ u.cell? ⟨w.heap.size + 1, 3, none⟩ = some (.int .i64 x.v.b) ∧ u.cell? ⟨w.heap.size + 1, 4, none⟩ = some ((.slice xca xcn xcc)) ∧ u.cell? ⟨w.heap.size + 1, 5, none⟩ = some ((.slice xha xhn xhc)) ∧ u.cell? ⟨w.heap.size + 1, 6, none⟩ = some ((.slice xra xrn xrc))) := fun u h => ⟨box_at c0_0 h, box_at c0_1 h, box_at c0_2 h, box_at c1_0 h, box_at c1_1 h, box_at c1_2 h, box_at c1_3 h, box_at c1_4 h, box_at c1_5 h, box_at c1_6 h⟩
  go_upto_region 2 with fail
  obtain ⟨R0, hR0⟩ : ∃ r, r = W.heap.size := ⟨_, rfl⟩
  obtain ⟨V, hV⟩ : ∃ V, V = W.alloc (.cells #[(.slice xca xcn xcc), (.slice xha xhn xhc), (.slice xra xrn xrc)] 42) := ⟨_, rfl⟩
  have hbV : Below W.heap.size W V := by rw [hV]; exact (Below.refl _ _).alloc (Nat.le_refl _) _
  have HP0 : Hid (BoxN V R0 42 [(.slice xca xcn xcc), (.slice xha xhn xhc), (.slice xra xrn xrc)]) := by unfold Hid; rw [hV, hR0]; exact BoxN.new W [(.slice xca xcn xcc), (.slice xha xhn xhc), (.slice xra xrn xrc)] 42
  have HBV : Hid (Below w.heap.size w V) := HB.out.trans (hbV.mono HB.out.size)
  rw [← hV, ← hR0]
  replace HCC := HCC.out _ hbV
  clear hV hR0 hbV hc HB c0_0 c0_1 c0_2 c1_0 c1_1 c1_2 c1_3 c1_4 c1_5 c1_6
  obtain ⟨W, hW⟩ : ∃ W, W = V := ⟨_, rfl⟩
  rw [← hW] at HP0 HBV HCC ⊢
  clear hW
  have HB := HBV
  clear HBV
  have hc : Below W.heap.size W W := Below.refl _ _
  obtain ⟨c0_0, c0_1, c0_2, c1_0, c1_1, c1_2, c1_3, c1_4, c1_5, c1_6⟩ := HCC
  have p0_0 := HP0.out.cell (i := 0) rfl
  have p0_1 := HP0.out.cell (i := 1) rfl
  have p0_2 := HP0.out.cell (i := 2) rfl
  clear HP0
  have HCC : Hid (∀ u, Below W.heap.size W u → u.cell? ⟨w.heap.size, 0, none⟩ = some (.int .i64 gr.p) ∧ u.cell? ⟨w.heap.size, 1, none⟩ = some (.int .i64 gr.q) ∧ u.cell? ⟨w.heap.size, 2, none⟩ = some (.int .i64 gr.g) ∧ u.cell? ⟨w.heap.size + 1, 0, none⟩ = some (.int .i64 x.c.a) ∧ u.cell? ⟨w.heap.size + 1, 1, none⟩ = some (.int .i64 x.c.b) ∧ u.cell? ⟨w.heap.size + 1, 2, none⟩ = some (.int .i64 x.v.a) ∧ u.cell? ⟨w.heap.size + 1, 3, none⟩ = some (.int .i64 x.v.b) ∧ u.cell? ⟨w.heap.size + 1, 4, none⟩ = some ((.slice xca xcn xcc)) ∧ u.cell? ⟨w.heap.size + 1, 5, none⟩ = some ((.slice xha xhn xhc)) ∧ u.cell? ⟨w.heap.size + 1, 6, none⟩ = some ((.slice xra xrn xrc)) ∧ u.cell? ⟨R0, 0, none⟩ = some ((.slice xca xcn xcc)) ∧ u.cell? ⟨R0, 1, none⟩ = some ((.slice xha xhn xhc)) ∧ u.cell? ⟨R0, 2, none⟩ = some ((.slice xra xrn xrc))) := fun u h => ⟨box_at c0_0 h, box_at c0_1 h, box_at c0_2 h, box_at c1_0 h, box_at c1_1 h, box_at c1_2 h, box_at c1_3 h, box_at c1_4 h, box_at c1_5 h, box_at c1_6 h, box_at p0_0 h, box_at p0_1 h, box_at p0_2 h⟩
  cases hc1 : ((xcn : Int) != 2) with
  | false =>
    have HLxc : Hid (decide (x.p.c.length = 2) = true) := by have q := hc1; rw [bne_eq_false_iff_eq] at q; exact decide_eq_true (by have := Exc.out; omega)
    obtain rfl : xcn = 2 := by have q := hc1; rw [bne_eq_false_iff_eq] at q; omega
    obtain ⟨xcb, xco, rfl, hx⟩ := Hxc.out.at_ (by omega)
    have Kxc0 : Hid (w.cell? ⟨xcb, xco, none⟩ = some (.int .i64 (nth x.p.c 0))) := by unfold Hid; have h := hx 0 (by omega); simpa using h
    have Kxc1 : Hid (w.cell? ⟨xcb, xco + 1, none⟩ = some (.int .i64 (nth x.p.c 1))) := by unfold Hid; have h := hx 1 (by omega); simpa using h
    clear hx
    have yxc0 := box_at Kxc0.out (HB.out.trans (hc.mono HB.out.size))
    have yxc1 := box_at Kxc1.out (HB.out.trans (hc.mono HB.out.size))
    replace HCC : Hid (∀ u, Below W.heap.size W u → u.cell? ⟨w.heap.size, 0, none⟩ = some (.int .i64 gr.p) ∧ u.cell? ⟨w.heap.size, 1, none⟩ = some (.int .i64 gr.q) ∧ u.cell? ⟨w.heap.size, 2, none⟩ = some (.int .i64 gr.g) ∧ u.cell? ⟨w.heap.size + 1, 0, none⟩ = some (.int .i64 x.c.a) ∧ u.cell? ⟨w.heap.size + 1, 1, none⟩ = some (.int .i64 x.c.b) ∧ u.cell? ⟨w.heap.size + 1, 2, none⟩ = some (.int .i64 x.v.a) ∧ u.cell? ⟨w.heap.size + 1, 3, none⟩ = some (.int .i64 x.v.b) ∧ u.cell? ⟨w.heap.size + 1, 4, none⟩ = some ((.slice (some ⟨xcb, xco, none⟩) 2 xcc)) ∧ u.cell? ⟨w.heap.size + 1, 5, none⟩ = some ((.slice xha xhn xhc)) ∧ u.cell? ⟨w.heap.size + 1, 6, none⟩ = some ((.slice xra xrn xrc)) ∧ u.cell? ⟨R0, 0, none⟩ = some ((.slice (some ⟨xcb, xco, none⟩) 2 xcc)) ∧ u.cell? ⟨R0, 1, none⟩ = some ((.slice xha xhn xhc)) ∧ u.cell? ⟨R0, 2, none⟩ = some ((.slice xra xrn xrc)) ∧ u.cell? ⟨xcb, xco, none⟩ = some (.int .i64 (nth x.p.c 0)) ∧ u.cell? ⟨xcb, xco + 1, none⟩ = some (.int .i64 (nth x.p.c 1))) := fun u h => by obtain ⟨c0_0, c0_1, c0_2, c1_0, c1_1, c1_2, c1_3, c1_4, c1_5, c1_6, p0_0, p0_1, p0_2⟩ := HCC.out u h; exact ⟨c0_0, c0_1, c0_2, c1_0, c1_1, c1_2, c1_3, c1_4, c1_5, c1_6, p0_0, p0_1, p0_2, box_at Kxc0.out (HB.out.trans (h.mono HB.out.size)), box_at Kxc1.out (HB.out.trans (h.mono HB.out.size))⟩
    cases hc2 : ((xhn : Int) != 1) with
    | false =>
      have HLxh : Hid (decide (x.p.h.length = 1) = true) := by have q := hc2; rw [bne_eq_false_iff_eq] at q; exact decide_eq_true (by have := Exh.out; omega)
      obtain rfl : xhn = 1 := by have q := hc2; rw [bne_eq_false_iff_eq] at q; omega
      obtain ⟨xhb, xho, rfl, hx⟩ := Hxh.out.at_ (by omega)
      have Kxh0 : Hid (w.cell? ⟨xhb, xho, none⟩ = some (.int .i64 (nth x.p.h 0))) := by unfold Hid; have h := hx 0 (by omega); simpa using h
      clear hx
      have yxh0 := box_at Kxh0.out (HB.out.trans (hc.mono HB.out.size))
      replace HCC : Hid (∀ u, Below W.heap.size W u → u.cell? ⟨w.heap.size, 0, none⟩ = some (.int .i64 gr.p) ∧ u.cell? ⟨w.heap.size, 1, none⟩ = some (.int .i64 gr.q) ∧ u.cell? ⟨w.heap.size, 2, none⟩ = some (.int .i64 gr.g) ∧ u.cell? ⟨w.heap.size + 1, 0, none⟩ = some (.int .i64 x.c.a) ∧ u.cell? ⟨w.heap.size + 1, 1, none⟩ = some (.int .i64 x.c.b) ∧ u.cell? ⟨w.heap.size + 1, 2, none⟩ = some (.int .i64 x.v.a) ∧ u.cell? ⟨w.heap.size + 1, 3, none⟩ = some (.int .i64 x.v.b) ∧ u.cell? ⟨w.heap.size + 1, 4, none⟩ = some ((.slice (some ⟨xcb, xco, none⟩) 2 xcc)) ∧ u.cell? ⟨w.heap.size + 1, 5, none⟩ = some ((.slice (some ⟨xhb, xho, none⟩) 1 xhc)) ∧ u.cell? ⟨w.heap.size + 1, 6, none⟩ = some ((.slice xra xrn xrc)) ∧ u.cell? ⟨R0, 0, none⟩ = some ((.slice (some ⟨xcb, xco, none⟩) 2 xcc)) ∧ u.cell? ⟨R0, 1, none⟩ = some ((.slice (some ⟨xhb, xho, none⟩) 1 xhc)) ∧ u.cell? ⟨R0, 2, none⟩ = some ((.slice xra xrn xrc)) ∧ u.cell? ⟨xcb, xco, none⟩ = some (.int .i64 (nth x.p.c 0)) ∧ u.cell? ⟨xcb, xco + 1, none⟩ = some (.int .i64 (nth x.p.c 1)) ∧ u.cell? ⟨xhb, xho, none⟩ = some (.int .i64 (nth x.p.h 0))) := fun u h => by obtain ⟨c0_0, c0_1, c0_2, c1_0, c1_1, c1_2, c1_3, c1_4, c1_5, c1_6, p0_0, p0_1, p0_2, yxc0, yxc1⟩ := HCC.out u h; exact ⟨c0_0, c0_1, c0_2, c1_0, c1_1, c1_2, c1_3, c1_4, c1_5, c1_6, p0_0, p0_1, p0_2, yxc0, yxc1, box_at Kxh0.out (HB.out.trans (h.mono HB.out.size))⟩
      cases hc3 : ((xrn : Int) != 2) with
      | false =>
        have HLxr : Hid (decide (x.p.r.length = 2) = true) := by have q := hc3; rw [bne_eq_false_iff_eq] at q; exact decide_eq_true (by have := Exr.out; omega)
        obtain rfl : xrn = 2 := by have q := hc3; rw [bne_eq_false_iff_eq] at q; omega
        obtain ⟨xrb, xro, rfl, hx⟩ := Hxr.out.at_ (by omega)
        have Kxr0 : Hid (w.cell? ⟨xrb, xro, none⟩ = some (.int .i64 (nth x.p.r 0))) := by unfold Hid; have h := hx 0 (by omega); simpa using h
        have Kxr1 : Hid (w.cell? ⟨xrb, xro + 1, none⟩ = some (.int .i64 (nth x.p.r 1))) := by unfold Hid; have h := hx 1 (by omega); simpa using h
        clear hx
        have yxr0 := box_at Kxr0.out (HB.out.trans (hc.mono HB.out.size))
        have yxr1 := box_at Kxr1.out (HB.out.trans (hc.mono HB.out.size))
        replace HCC : Hid (∀ u, Below W.heap.size W u → u.cell? ⟨w.heap.size, 0, none⟩ = some (.int .i64 gr.p) ∧ u.cell? ⟨w.heap.size, 1, none⟩ = some (.int .i64 gr.q) ∧ u.cell? ⟨w.heap.size, 2, none⟩ = some (.int .i64 gr.g) ∧ u.cell? ⟨w.heap.size + 1, 0, none⟩ = some (.int .i64 x.c.a) ∧ u.cell? ⟨w.heap.size + 1, 1, none⟩ = some (.int .i64 x.c.b) ∧ u.cell? ⟨w.heap.size + 1, 2, none⟩ = some (.int .i64 x.v.a) ∧ u.cell? ⟨w.heap.size + 1, 3, none⟩ = some (.int .i64 x.v.b) ∧ u.cell? ⟨w.heap.size + 1, 4, none⟩ = some ((.slice (some ⟨xcb, xco, none⟩) 2 xcc)) ∧ u.cell? ⟨w.heap.size + 1, 5, none⟩ = some ((.slice (some ⟨xhb, xho, none⟩) 1 xhc)) ∧ u.cell? ⟨w.heap.size + 1, 6, none⟩ = some ((.slice (some ⟨xrb, xro, none⟩) 2 xrc)) ∧ u.cell? ⟨R0, 0, none⟩ = some ((.slice (some ⟨xcb, xco, none⟩) 2 xcc)) ∧ u.cell? ⟨R0, 1, none⟩ = some ((.slice (some ⟨xhb, xho, none⟩) 1 xhc)) ∧ u.cell? ⟨R0, 2, none⟩ = some ((.slice (some ⟨xrb, xro, none⟩) 2 xrc)) ∧ u.cell? ⟨xcb, xco, none⟩ = some (.int .i64 (nth x.p.c 0)) ∧ u.cell? ⟨xcb, xco + 1, none⟩ = some (.int .i64 (nth x.p.c 1)) ∧ u.cell? ⟨xhb, xho, none⟩ = some (.int .i64 (nth x.p.h 0)) ∧ u.cell? ⟨xrb, xro, none⟩ = some (.int .i64 (nth x.p.r 0)) ∧ u.cell? ⟨xrb, xro + 1, none⟩ = some (.int .i64 (nth x.p.r 1))) := fun u h => by obtain ⟨c0_0, c0_1, c0_2, c1_0, c1_1, c1_2, c1_3, c1_4, c1_5, c1_6, p0_0, p0_1, p0_2, yxc0, yxc1, yxh0⟩ := HCC.out u h; exact ⟨c0_0, c0_1, c0_2, c1_0, c1_1, c1_2, c1_3, c1_4, c1_5, c1_6, p0_0, p0_1, p0_2, yxc0, yxc1, yxh0, box_at Kxr0.out (HB.out.trans (h.mono HB.out.size)), box_at Kxr1.out (HB.out.trans (h.mono HB.out.size))⟩
        cases hc4 : x.p.c.all (elB gr) with
        | false =>
          have Hhc4 := Lib.hid hc4
          clear hc4
          try (go_wp2_with fail)
          refine wp_region_noPanic ?_
          refine wp_region_P (fun w' => w'.cell? ⟨w.heap.size, 0, none⟩ = some (.int .i64 gr.p) ∧ w'.cell? ⟨w.heap.size, 1, none⟩ = some (.int .i64 gr.q) ∧ w'.cell? ⟨w.heap.size, 2, none⟩ = some (.int .i64 gr.g) ∧ w'.cell? ⟨w.heap.size + 1, 0, none⟩ = some (.int .i64 x.c.a) ∧ w'.cell? ⟨w.heap.size + 1, 1, none⟩ = some (.int .i64 x.c.b) ∧ w'.cell? ⟨w.heap.size + 1, 2, none⟩ = some (.int .i64 x.v.a) ∧ w'.cell? ⟨w.heap.size + 1, 3, none⟩ = some (.int .i64 x.v.b) ∧ w'.cell? ⟨w.heap.size + 1, 4, none⟩ = some ((.slice (some ⟨xcb, xco, none⟩) 2 xcc)) ∧ w'.cell? ⟨w.heap.size + 1, 5, none⟩ = some ((.slice (some ⟨xhb, xho, none⟩) 1 xhc)) ∧ w'.cell? ⟨w.heap.size + 1, 6, none⟩ = some ((.slice (some ⟨xrb, xro, none⟩) 2 xrc)) ∧ w'.cell? ⟨R0, 0, none⟩ = some ((.slice (some ⟨xcb, xco, none⟩) 2 xcc)) ∧ w'.cell? ⟨R0, 1, none⟩ = some ((.slice (some ⟨xhb, xho, none⟩) 1 xhc)) ∧ w'.cell? ⟨R0, 2, none⟩ = some ((.slice (some ⟨xrb, xro, none⟩) 2 xrc)) ∧ w'.cell? ⟨xcb, xco, none⟩ = some (.int .i64 (nth x.p.c 0)) ∧ w'.cell? ⟨xcb, xco + 1, none⟩ = some (.int .i64 (nth x.p.c 1)) ∧ w'.cell? ⟨xhb, xho, none⟩ = some (.int .i64 (nth x.p.h 0)) ∧ w'.cell? ⟨xrb, xro, none⟩ = some (.int .i64 (nth x.p.r 0)) ∧ w'.cell? ⟨xrb, xro + 1, none⟩ = some (.int .i64 (nth x.p.r 1))) 42 [(0, []), (1, [0]), (2, [0]), (3, [0]), (4, [0]), (5, [0]), (6, [0, 1]), (7, [0, 2]), (8, [0, 3]), (9, [4, 0]), (10, [0]), (11, [0]), (12, [0, 1]), (13, [0, 2]), (14, [0, 3]), (15, [4, 0]), (16, [0]), (17, [0]), (18, [1]), (19, [0, 2]), (20, [2, 0, 3]), (21, [0, 4]), (22, [5, 0]), (23, [0]), (24, [0]), (25, [1]), (26, [0, 2]), (27, [2, 0, 3]), (28, [0, 4]), (29, [5, 0]), (30, [0]), (31, [0]), (32, [0, 1]), (33, [0, 2]), (34, [0, 3]), (35, [4]), (36, [5]), (37, [1, 0, 6]), (38, [3, 0, 7]), (39, [8, 0])] [] (by kernel_rfl) (by kernel_rfl) (by kernel_rfl) rfl (fun _ _ _ _ h => h) (fun w' h => ⟨box_at c0_0 h, box_at c0_1 h, box_at c0_2 h, box_at c1_0 h, box_at c1_1 h, box_at c1_2 h, box_at c1_3 h, box_at c1_4 h, box_at c1_5 h, box_at c1_6 h, box_at p0_0 h, box_at p0_1 h, box_at p0_2 h, box_at yxc0 h, box_at yxc1 h, box_at yxh0 h, box_at yxr0 h, box_at yxr1 h⟩) ?_
          simp only [pickP, pickN, List.getElem?_cons_zero, List.getElem?_cons_succ]
          iterate 5 (refine' chainP_read _ rfl rfl (fun w' hS' => ?_) ?_; rotate_left; · (simp only [lookP, allP, Act.put, List.getElem?_cons_zero, List.getElem?_cons_succ, List.setIfInBounds_toArray, List.set_cons_zero, List.set_cons_succ]; (try dsimp only at hS'); go_simp; (try with_reducible rfl)))
          -- 5: fieldAddr 42 t5 1
          refine' chainP_readG (d := (some 15)) _ rfl (fun w' hS' => ?_) ?_; rotate_left
          · simp only [lookP, allP, Act.put, List.getElem?_cons_zero, List.getElem?_cons_succ, List.setIfInBounds_toArray, List.set_cons_zero, List.set_cons_succ]
            refine ⟨by kernel_rfl, ?_⟩
            (try dsimp only at hS')
            go_simp
            (try with_reducible rfl)
          -- 6: load 24 t15
          refine' chainP_readG (d := (some 16)) _ rfl (fun w' hS' => ?_) ?_; rotate_left
          · simp only [lookP, allP, Act.put, List.getElem?_cons_zero, List.getElem?_cons_succ, List.setIfInBounds_toArray, List.set_cons_zero, List.set_cons_succ]
            refine ⟨by kernel_rfl, ?_⟩
            (try dsimp only at hS')
            go_simp
            (try with_reducible rfl)
          -- 7: call { callee := builtin Builtin.len, args := #[t16], argTypes := #[24] }
          refine' chainP_readG (d := (some 17)) _ rfl (fun w' hS' => ?_) ?_; rotate_left
          · simp only [lookP, allP, Act.put, List.getElem?_cons_zero, List.getElem?_cons_succ, List.setIfInBounds_toArray, List.set_cons_zero, List.set_cons_succ]
            refine ⟨by kernel_rfl, ?_⟩
            (try dsimp only at hS')
            go_simp
            (try with_reducible rfl)
          -- 8: binOp Binneq 3 t17 (const (int i64 1)) 3
          refine' chainP_readG (d := (some 18)) _ rfl (fun w' hS' => ?_) ?_; rotate_left
          · simp only [lookP, allP, Act.put, List.getElem?_cons_zero, List.getElem?_cons_succ, List.setIfInBounds_toArray, List.set_cons_zero, List.set_cons_succ]
            refine ⟨by kernel_rfl, ?_⟩
            (try dsimp only at hS')
            go_simp
            (try with_reducible rfl)
          iterate 2 (refine' chainP_read _ rfl rfl (fun w' hS' => ?_) ?_; rotate_left; · (simp only [lookP, allP, Act.put, List.getElem?_cons_zero, List.getElem?_cons_succ, List.setIfInBounds_toArray, List.set_cons_zero, List.set_cons_succ]; (try dsimp only at hS'); go_simp; (try with_reducible rfl)))
          -- 11: fieldAddr 42 t5 2
          refine' chainP_readG (d := (some 21)) _ rfl (fun w' hS' => ?_) ?_; rotate_left
          · simp only [lookP, allP, Act.put, List.getElem?_cons_zero, List.getElem?_cons_succ, List.setIfInBounds_toArray, List.set_cons_zero, List.set_cons_succ]
            refine ⟨by kernel_rfl, ?_⟩
            (try dsimp only at hS')
            go_simp
            (try with_reducible rfl)
          -- 12: load 24 t21
          refine' chainP_readG (d := (some 22)) _ rfl (fun w' hS' => ?_) ?_; rotate_left
          · simp only [lookP, allP, Act.put, List.getElem?_cons_zero, List.getElem?_cons_succ, List.setIfInBounds_toArray, List.set_cons_zero, List.set_cons_succ]
            refine ⟨by kernel_rfl, ?_⟩
            (try dsimp only at hS')
            go_simp
            (try with_reducible rfl)
          -- 13: call { callee := builtin Builtin.len, args := #[t22], argTypes := #[24] }
          refine' chainP_readG (d := (some 23)) _ rfl (fun w' hS' => ?_) ?_; rotate_left
          · simp only [lookP, allP, Act.put, List.getElem?_cons_zero, List.getElem?_cons_succ, List.setIfInBounds_toArray, List.set_cons_zero, List.set_cons_succ]
            refine ⟨by kernel_rfl, ?_⟩
            (try dsimp only at hS')
            go_simp
            (try with_reducible rfl)
          -- 14: binOp Binneq 3 t23 (const (int i64 2)) 3
          refine' chainP_readG (d := (some 24)) _ rfl (fun w' hS' => ?_) ?_; rotate_left
          · simp only [lookP, allP, Act.put, List.getElem?_cons_zero, List.getElem?_cons_succ, List.setIfInBounds_toArray, List.set_cons_zero, List.set_cons_succ]
            refine ⟨by kernel_rfl, ?_⟩
            (try dsimp only at hS')
            go_simp
            (try with_reducible rfl)
          iterate 2 (refine' chainP_read _ rfl rfl (fun w' hS' => ?_) ?_; rotate_left; · (simp only [lookP, allP, Act.put, List.getElem?_cons_zero, List.getElem?_cons_succ, List.setIfInBounds_toArray, List.set_cons_zero, List.set_cons_succ]; (try dsimp only at hS'); go_simp; (try with_reducible rfl)))
          -- 17: load 39 t2
          refine' chainP_readG (d := (some 27)) _ rfl (fun w' hS' => ?_) ?_; rotate_left
          · simp only [lookP, allP, Act.put, List.getElem?_cons_zero, List.getElem?_cons_succ, List.setIfInBounds_toArray, List.set_cons_zero, List.set_cons_succ]
            refine ⟨by kernel_rfl, ?_⟩
            (try dsimp only at hS')
            go_simp
            (try with_reducible rfl)
          -- 18: fieldAddr 42 t5 0
          refine' chainP_readG (d := (some 28)) _ rfl (fun w' hS' => ?_) ?_; rotate_left
          · simp only [lookP, allP, Act.put, List.getElem?_cons_zero, List.getElem?_cons_succ, List.setIfInBounds_toArray, List.set_cons_zero, List.set_cons_succ]
            refine ⟨by kernel_rfl, ?_⟩
            (try dsimp only at hS')
            go_simp
            (try with_reducible rfl)
          -- 19: load 24 t28
          refine' chainP_readG (d := (some 29)) _ rfl (fun w' hS' => ?_) ?_; rotate_left
          · simp only [lookP, allP, Act.put, List.getElem?_cons_zero, List.getElem?_cons_succ, List.setIfInBounds_toArray, List.set_cons_zero, List.set_cons_succ]
            refine ⟨by kernel_rfl, ?_⟩
            (try dsimp only at hS')
            go_simp
            (try with_reducible rfl)
          -- 20: call { callee := value (func 202), args := #[t27, t29], argTypes := #[39, 24] }
          refine chainP_callG (d := (some 30)) (.bool false) rfl (fun w' hS' => ?_) ?_
          · simp only [lookP, allP, Act.put, List.getElem?_cons_zero, List.getElem?_cons_succ, List.setIfInBounds_toArray, List.set_cons_zero, List.set_cons_succ]
            refine ⟨by kernel_rfl, ?_⟩
            intro K hK
            go_simp
            go_at_call 202
            refine (spec_gIs gr _ x.p.c _ HG.out ((Hxc.out.below (HB.out.trans (hc.mono HB.out.size))).below hS'.1)).mono ?_
            rintro e u ⟨rfl, hq⟩
            rw [Hhc4.out]
            exact hK.out _ hq
          -- 21: unOp Unnot 4 t30
          refine' chainP_readG (d := (some 31)) _ rfl (fun w' hS' => ?_) ?_; rotate_left
          · simp only [lookP, allP, Act.put, List.getElem?_cons_zero, List.getElem?_cons_succ, List.setIfInBounds_toArray, List.set_cons_zero, List.set_cons_succ]
            refine ⟨by kernel_rfl, ?_⟩
            (try dsimp only at hS')
            go_simp
            (try with_reducible rfl)
          iterate 2 (refine' chainP_read _ rfl rfl (fun w' hS' => ?_) ?_; rotate_left; · (simp only [lookP, allP, Act.put, List.getElem?_cons_zero, List.getElem?_cons_succ, List.setIfInBounds_toArray, List.set_cons_zero, List.set_cons_succ]; (try dsimp only at hS'); go_simp; (try with_reducible rfl)))
          -- 24: load 39 t2
          refine chainP_skip (d := (some 34)) rfl (fun w' hS' => ?_) ?_
          · simp only [lookP, allP, Act.put, List.getElem?_cons_zero, List.getElem?_cons_succ, List.setIfInBounds_toArray, List.set_cons_zero, List.set_cons_succ]
            kernel_rfl
          -- 25: fieldAddr 42 t5 2
          refine chainP_skip (d := (some 35)) rfl (fun w' hS' => ?_) ?_
          · simp only [lookP, allP, Act.put, List.getElem?_cons_zero, List.getElem?_cons_succ, List.setIfInBounds_toArray, List.set_cons_zero, List.set_cons_succ]
            kernel_rfl
          -- 26: load 24 t35
          refine chainP_skip (d := (some 36)) rfl (fun w' hS' => ?_) ?_
          · simp only [lookP, allP, Act.put, List.getElem?_cons_zero, List.getElem?_cons_succ, List.setIfInBounds_toArray, List.set_cons_zero, List.set_cons_succ]
            kernel_rfl
          -- 27: call { callee := value (func 144), args := #[t34, t36], argTypes := #[39, 24] }
          refine chainP_skip (d := (some 37)) rfl (fun w' hS' => ?_) ?_
          · simp only [lookP, allP, Act.put, List.getElem?_cons_zero, List.getElem?_cons_succ, List.setIfInBounds_toArray, List.set_cons_zero, List.set_cons_succ]
            kernel_rfl
          -- 28: unOp Unnot 4 t37
          refine chainP_skip (d := (some 38)) rfl (fun w' hS' => ?_) ?_
          · simp only [lookP, allP, Act.put, List.getElem?_cons_zero, List.getElem?_cons_succ, List.setIfInBounds_toArray, List.set_cons_zero, List.set_cons_succ]
            kernel_rfl
          iterate 2 (refine' chainP_read _ rfl rfl (fun w' hS' => ?_) ?_; rotate_left; · (simp only [lookP, allP, Act.put, List.getElem?_cons_zero, List.getElem?_cons_succ, List.setIfInBounds_toArray, List.set_cons_zero, List.set_cons_succ]; (try dsimp only at hS'); go_simp; (try with_reducible rfl)))
          -- 31: fieldAddr 42 t5 1
          refine chainP_skip (d := (some 41)) rfl (fun w' hS' => ?_) ?_
          · simp only [lookP, allP, Act.put, List.getElem?_cons_zero, List.getElem?_cons_succ, List.setIfInBounds_toArray, List.set_cons_zero, List.set_cons_succ]
            kernel_rfl
          -- 32: load 24 t41
          refine chainP_skip (d := (some 42)) rfl (fun w' hS' => ?_) ?_
          · simp only [lookP, allP, Act.put, List.getElem?_cons_zero, List.getElem?_cons_succ, List.setIfInBounds_toArray, List.set_cons_zero, List.set_cons_succ]
            kernel_rfl
          -- 33: indexAddr 24 t42 (const (int i64 0))
          refine chainP_skip (d := (some 43)) rfl (fun w' hS' => ?_) ?_
          · simp only [lookP, allP, Act.put, List.getElem?_cons_zero, List.getElem?_cons_succ, List.setIfInBounds_toArray, List.set_cons_zero, List.set_cons_succ]
            kernel_rfl
          -- 34: load 3 t43
          refine chainP_skip (d := (some 44)) rfl (fun w' hS' => ?_) ?_
          · simp only [lookP, allP, Act.put, List.getElem?_cons_zero, List.getElem?_cons_succ, List.setIfInBounds_toArray, List.set_cons_zero, List.set_cons_succ]
            kernel_rfl
          -- 35: load 39 t2
          refine chainP_skip (d := (some 45)) rfl (fun w' hS' => ?_) ?_
          · simp only [lookP, allP, Act.put, List.getElem?_cons_zero, List.getElem?_cons_succ, List.setIfInBounds_toArray, List.set_cons_zero, List.set_cons_succ]
            kernel_rfl
          -- 36: load 104 t3
          refine chainP_skip (d := (some 46)) rfl (fun w' hS' => ?_) ?_
          · simp only [lookP, allP, Act.put, List.getElem?_cons_zero, List.getElem?_cons_succ, List.setIfInBounds_toArray, List.set_cons_zero, List.set_cons_succ]
            kernel_rfl
          -- 37: call { callee := value (func 276), args := #[t45, t46], argTypes := #[39, 104] }
          refine chainP_skip (d := (some 47)) rfl (fun w' hS' => ?_) ?_
          · simp only [lookP, allP, Act.put, List.getElem?_cons_zero, List.getElem?_cons_succ, List.setIfInBounds_toArray, List.set_cons_zero, List.set_cons_succ]
            kernel_rfl
          -- 38: binOp Binneq 3 t44 t47 3
          refine chainP_skip (d := (some 48)) rfl (fun w' hS' => ?_) ?_
          · simp only [lookP, allP, Act.put, List.getElem?_cons_zero, List.getElem?_cons_succ, List.setIfInBounds_toArray, List.set_cons_zero, List.set_cons_succ]
            kernel_rfl
          -- 39: pick t40 (const (bool true)) t48
          refine' chainP_read (d := (some 49)) _ rfl rfl (fun w' hS' => ?_) ?_; rotate_left
          · simp only [lookP, allP, Act.put, List.getElem?_cons_zero, List.getElem?_cons_succ, List.setIfInBounds_toArray, List.set_cons_zero, List.set_cons_succ]
            (try dsimp only at hS')
            go_simp
            (try with_reducible rfl)
          refine chainP_nil (fun u1 hS' => ?_)
          simp only [allP, Act.put, List.setIfInBounds_toArray, List.set_cons_zero, List.set_cons_succ]
          have hq1 := hS'.1
          clear hS'
          replace hc := Below.next hc hq1
          clear hq1 c0_0 c0_1 c0_2 c1_0 c1_1 c1_2 c1_3 c1_4 c1_5 c1_6 p0_0 p0_1 p0_2 yxc0 yxc1 yxh0 yxr0 yxr1
          obtain ⟨c0_0, c0_1, c0_2, c1_0, c1_1, c1_2, c1_3, c1_4, c1_5, c1_6, p0_0, p0_1, p0_2, yxc0, yxc1, yxh0, yxr0, yxr1⟩ := HCC.out _ hc
          go_wp2_with fail
          refine NoPanic.normal ?_
          go_wp2_with fail
          have HV : Hid ((.bool (vcastV gr sCast x) : Value) = .bool false) := by unfold Hid; simp [vcastV, hc1, hc2, hc3, Hhc4.out, HLxc.out, HLxh.out, HLxr.out]
          go_ret
          exact ⟨congrArg Ending.returned HV.out.symm, HB.out.trans (hc.mono HB.out.size)⟩
        | true =>
          have HECC : Hid (x.p.c.all (elB gr) = true) := hc4
          have Hhc4 := Lib.hid hc4
          clear hc4
          cases hc5 : x.p.r.all (expB gr) with
          | false =>
            have HE : Hid True := trivial
            have HK0 : Hid True := trivial
            have HK1 : Hid True := trivial
            have Hhc5 := Lib.hid hc5
            clear hc5
            try (go_wp2_with fail)
            refine wp_region_noPanic ?_
            refine wp_region_P (fun w' => w'.cell? ⟨w.heap.size, 0, none⟩ = some (.int .i64 gr.p) ∧ w'.cell? ⟨w.heap.size, 1, none⟩ = some (.int .i64 gr.q) ∧ w'.cell? ⟨w.heap.size, 2, none⟩ = some (.int .i64 gr.g) ∧ w'.cell? ⟨w.heap.size + 1, 0, none⟩ = some (.int .i64 x.c.a) ∧ w'.cell? ⟨w.heap.size + 1, 1, none⟩ = some (.int .i64 x.c.b) ∧ w'.cell? ⟨w.heap.size + 1, 2, none⟩ = some (.int .i64 x.v.a) ∧ w'.cell? ⟨w.heap.size + 1, 3, none⟩ = some (.int .i64 x.v.b) ∧ w'.cell? ⟨w.heap.size + 1, 4, none⟩ = some ((.slice (some ⟨xcb, xco, none⟩) 2 xcc)) ∧ w'.cell? ⟨w.heap.size + 1, 5, none⟩ = some ((.slice (some ⟨xhb, xho, none⟩) 1 xhc)) ∧ w'.cell? ⟨w.heap.size + 1, 6, none⟩ = some ((.slice (some ⟨xrb, xro, none⟩) 2 xrc)) ∧ w'.cell? ⟨R0, 0, none⟩ = some ((.slice (some ⟨xcb, xco, none⟩) 2 xcc)) ∧ w'.cell? ⟨R0, 1, none⟩ = some ((.slice (some ⟨xhb, xho, none⟩) 1 xhc)) ∧ w'.cell? ⟨R0, 2, none⟩ = some ((.slice (some ⟨xrb, xro, none⟩) 2 xrc)) ∧ w'.cell? ⟨xcb, xco, none⟩ = some (.int .i64 (nth x.p.c 0)) ∧ w'.cell? ⟨xcb, xco + 1, none⟩ = some (.int .i64 (nth x.p.c 1)) ∧ w'.cell? ⟨xhb, xho, none⟩ = some (.int .i64 (nth x.p.h 0)) ∧ w'.cell? ⟨xrb, xro, none⟩ = some (.int .i64 (nth x.p.r 0)) ∧ w'.cell? ⟨xrb, xro + 1, none⟩ = some (.int .i64 (nth x.p.r 1))) 42 [(0, []), (1, [0]), (2, [0]), (3, [0]), (4, [0]), (5, [0]), (6, [0, 1]), (7, [0, 2]), (8, [0, 3]), (9, [4, 0]), (10, [0]), (11, [0]), (12, [0, 1]), (13, [0, 2]), (14, [0, 3]), (15, [4, 0]), (16, [0]), (17, [0]), (18, [1]), (19, [0, 2]), (20, [2, 0, 3]), (21, [0, 4]), (22, [5, 0]), (23, [0]), (24, [0]), (25, [1]), (26, [0, 2]), (27, [2, 0, 3]), (28, [0, 4]), (29, [5, 0]), (30, [0]), (31, [0]), (32, [0, 1]), (33, [0, 2]), (34, [0, 3]), (35, [4]), (36, [5]), (37, [1, 0, 6]), (38, [3, 0, 7]), (39, [8, 0])] [] (by kernel_rfl) (by kernel_rfl) (by kernel_rfl) rfl (fun _ _ _ _ h => h) (fun w' h => ⟨box_at c0_0 h, box_at c0_1 h, box_at c0_2 h, box_at c1_0 h, box_at c1_1 h, box_at c1_2 h, box_at c1_3 h, box_at c1_4 h, box_at c1_5 h, box_at c1_6 h, box_at p0_0 h, box_at p0_1 h, box_at p0_2 h, box_at yxc0 h, box_at yxc1 h, box_at yxh0 h, box_at yxr0 h, box_at yxr1 h⟩) ?_
            simp only [pickP, pickN, List.getElem?_cons_zero, List.getElem?_cons_succ]
            iterate 5 (refine' chainP_read _ rfl rfl (fun w' hS' => ?_) ?_; rotate_left; · (simp only [lookP, allP, Act.put, List.getElem?_cons_zero, List.getElem?_cons_succ, List.setIfInBounds_toArray, List.set_cons_zero, List.set_cons_succ]; (try dsimp only at hS'); go_simp; (try with_reducible rfl)))
            -- 5: fieldAddr 42 t5 1
            refine' chainP_readG (d := (some 15)) _ rfl (fun w' hS' => ?_) ?_; rotate_left
            · simp only [lookP, allP, Act.put, List.getElem?_cons_zero, List.getElem?_cons_succ, List.setIfInBounds_toArray, List.set_cons_zero, List.set_cons_succ]
              refine ⟨by kernel_rfl, ?_⟩
              (try dsimp only at hS')
              go_simp
              (try with_reducible rfl)
            -- 6: load 24 t15
            refine' chainP_readG (d := (some 16)) _ rfl (fun w' hS' => ?_) ?_; rotate_left
            · simp only [lookP, allP, Act.put, List.getElem?_cons_zero, List.getElem?_cons_succ, List.setIfInBounds_toArray, List.set_cons_zero, List.set_cons_succ]
              refine ⟨by kernel_rfl, ?_⟩
              (try dsimp only at hS')
              go_simp
              (try with_reducible rfl)
            -- 7: call { callee := builtin Builtin.len, args := #[t16], argTypes := #[24] }
            refine' chainP_readG (d := (some 17)) _ rfl (fun w' hS' => ?_) ?_; rotate_left
            · simp only [lookP, allP, Act.put, List.getElem?_cons_zero, List.getElem?_cons_succ, List.setIfInBounds_toArray, List.set_cons_zero, List.set_cons_succ]
              refine ⟨by kernel_rfl, ?_⟩
              (try dsimp only at hS')
              go_simp
              (try with_reducible rfl)
            -- 8: binOp Binneq 3 t17 (const (int i64 1)) 3
            refine' chainP_readG (d := (some 18)) _ rfl (fun w' hS' => ?_) ?_; rotate_left
            · simp only [lookP, allP, Act.put, List.getElem?_cons_zero, List.getElem?_cons_succ, List.setIfInBounds_toArray, List.set_cons_zero, List.set_cons_succ]
              refine ⟨by kernel_rfl, ?_⟩
              (try dsimp only at hS')
              go_simp
              (try with_reducible rfl)
            iterate 2 (refine' chainP_read _ rfl rfl (fun w' hS' => ?_) ?_; rotate_left; · (simp only [lookP, allP, Act.put, List.getElem?_cons_zero, List.getElem?_cons_succ, List.setIfInBounds_toArray, List.set_cons_zero, List.set_cons_succ]; (try dsimp only at hS'); go_simp; (try with_reducible rfl)))
            -- 11: fieldAddr 42 t5 2
            refine' chainP_readG (d := (some 21)) _ rfl (fun w' hS' => ?_) ?_; rotate_left
            · simp only [lookP, allP, Act.put, List.getElem?_cons_zero, List.getElem?_cons_succ, List.setIfInBounds_toArray, List.set_cons_zero, List.set_cons_succ]
              refine ⟨by kernel_rfl, ?_⟩
              (try dsimp only at hS')
              go_simp
              (try with_reducible rfl)
            -- 12: load 24 t21
            refine' chainP_readG (d := (some 22)) _ rfl (fun w' hS' => ?_) ?_; rotate_left
            · simp only [lookP, allP, Act.put, List.getElem?_cons_zero, List.getElem?_cons_succ, List.setIfInBounds_toArray, List.set_cons_zero, List.set_cons_succ]
              refine ⟨by kernel_rfl, ?_⟩
              (try dsimp only at hS')
              go_simp
              (try with_reducible rfl)
            -- 13: call { callee := builtin Builtin.len, args := #[t22], argTypes := #[24] }
            refine' chainP_readG (d := (some 23)) _ rfl (fun w' hS' => ?_) ?_; rotate_left
            · simp only [lookP, allP, Act.put, List.getElem?_cons_zero, List.getElem?_cons_succ, List.setIfInBounds_toArray, List.set_cons_zero, List.set_cons_succ]
              refine ⟨by kernel_rfl, ?_⟩
              (try dsimp only at hS')
              go_simp
              (try with_reducible rfl)
            -- 14: binOp Binneq 3 t23 (const (int i64 2)) 3
            refine' chainP_readG (d := (some 24)) _ rfl (fun w' hS' => ?_) ?_; rotate_left
            · simp only [lookP, allP, Act.put, List.getElem?_cons_zero, List.getElem?_cons_succ, List.setIfInBounds_toArray, List.set_cons_zero, List.set_cons_succ]
              refine ⟨by kernel_rfl, ?_⟩
              (try dsimp only at hS')
              go_simp
              (try with_reducible rfl)
            iterate 2 (refine' chainP_read _ rfl rfl (fun w' hS' => ?_) ?_; rotate_left; · (simp only [lookP, allP, Act.put, List.getElem?_cons_zero, List.getElem?_cons_succ, List.setIfInBounds_toArray, List.set_cons_zero, List.set_cons_succ]; (try dsimp only at hS'); go_simp; (try with_reducible rfl)))
            -- 17: load 39 t2
            refine' chainP_readG (d := (some 27)) _ rfl (fun w' hS' => ?_) ?_; rotate_left
            · simp only [lookP, allP, Act.put, List.getElem?_cons_zero, List.getElem?_cons_succ, List.setIfInBounds_toArray, List.set_cons_zero, List.set_cons_succ]
              refine ⟨by kernel_rfl, ?_⟩
              (try dsimp only at hS')
              go_simp
              (try with_reducible rfl)
            -- 18: fieldAddr 42 t5 0
            refine' chainP_readG (d := (some 28)) _ rfl (fun w' hS' => ?_) ?_; rotate_left
            · simp only [lookP, allP, Act.put, List.getElem?_cons_zero, List.getElem?_cons_succ, List.setIfInBounds_toArray, List.set_cons_zero, List.set_cons_succ]
              refine ⟨by kernel_rfl, ?_⟩
              (try dsimp only at hS')
              go_simp
              (try with_reducible rfl)
            -- 19: load 24 t28
            refine' chainP_readG (d := (some 29)) _ rfl (fun w' hS' => ?_) ?_; rotate_left
            · simp only [lookP, allP, Act.put, List.getElem?_cons_zero, List.getElem?_cons_succ, List.setIfInBounds_toArray, List.set_cons_zero, List.set_cons_succ]
              refine ⟨by kernel_rfl, ?_⟩
              (try dsimp only at hS')
              go_simp
              (try with_reducible rfl)
            -- 20: call { callee := value (func 202), args := #[t27, t29], argTypes := #[39, 24] }
            refine chainP_callG (d := (some 30)) (.bool true) rfl (fun w' hS' => ?_) ?_
            · simp only [lookP, allP, Act.put, List.getElem?_cons_zero, List.getElem?_cons_succ, List.setIfInBounds_toArray, List.set_cons_zero, List.set_cons_succ]
              refine ⟨by kernel_rfl, ?_⟩
              intro K hK
              go_simp
              go_at_call 202
              refine (spec_gIs gr _ x.p.c _ HG.out ((Hxc.out.below (HB.out.trans (hc.mono HB.out.size))).below hS'.1)).mono ?_
              rintro e u ⟨rfl, hq⟩
              rw [Hhc4.out]
              exact hK.out _ hq
            -- 21: unOp Unnot 4 t30
            refine' chainP_readG (d := (some 31)) _ rfl (fun w' hS' => ?_) ?_; rotate_left
            · simp only [lookP, allP, Act.put, List.getElem?_cons_zero, List.getElem?_cons_succ, List.setIfInBounds_toArray, List.set_cons_zero, List.set_cons_succ]
              refine ⟨by kernel_rfl, ?_⟩
              (try dsimp only at hS')
              go_simp
              (try with_reducible rfl)
            iterate 2 (refine' chainP_read _ rfl rfl (fun w' hS' => ?_) ?_; rotate_left; · (simp only [lookP, allP, Act.put, List.getElem?_cons_zero, List.getElem?_cons_succ, List.setIfInBounds_toArray, List.set_cons_zero, List.set_cons_succ]; (try dsimp only at hS'); go_simp; (try with_reducible rfl)))
            -- 24: load 39 t2
            refine' chainP_readG (d := (some 34)) _ rfl (fun w' hS' => ?_) ?_; rotate_left
            · simp only [lookP, allP, Act.put, List.getElem?_cons_zero, List.getElem?_cons_succ, List.setIfInBounds_toArray, List.set_cons_zero, List.set_cons_succ]
              refine ⟨by kernel_rfl, ?_⟩
              (try dsimp only at hS')
              go_simp
              (try with_reducible rfl)
            -- 25: fieldAddr 42 t5 2
            refine' chainP_readG (d := (some 35)) _ rfl (fun w' hS' => ?_) ?_; rotate_left
            · simp only [lookP, allP, Act.put, List.getElem?_cons_zero, List.getElem?_cons_succ, List.setIfInBounds_toArray, List.set_cons_zero, List.set_cons_succ]
              refine ⟨by kernel_rfl, ?_⟩
              (try dsimp only at hS')
              go_simp
              (try with_reducible rfl)
            -- 26: load 24 t35
            refine' chainP_readG (d := (some 36)) _ rfl (fun w' hS' => ?_) ?_; rotate_left
            · simp only [lookP, allP, Act.put, List.getElem?_cons_zero, List.getElem?_cons_succ, List.setIfInBounds_toArray, List.set_cons_zero, List.set_cons_succ]
              refine ⟨by kernel_rfl, ?_⟩
              (try dsimp only at hS')
              go_simp
              (try with_reducible rfl)
            -- 27: call { callee := value (func 144), args := #[t34, t36], argTypes := #[39, 24] }
            refine chainP_callG (d := (some 37)) (.bool false) rfl (fun w' hS' => ?_) ?_
            · simp only [lookP, allP, Act.put, List.getElem?_cons_zero, List.getElem?_cons_succ, List.setIfInBounds_toArray, List.set_cons_zero, List.set_cons_succ]
              refine ⟨by kernel_rfl, ?_⟩
              intro K hK
              go_simp
              go_at_call 144
              refine (spec_gExps gr _ x.p.r _ HG.out ((Hxr.out.below (HB.out.trans (hc.mono HB.out.size))).below hS'.1)).mono ?_
              rintro e u ⟨rfl, hq⟩
              rw [Hhc5.out]
              exact hK.out _ hq
            -- 28: unOp Unnot 4 t37
            refine' chainP_readG (d := (some 38)) _ rfl (fun w' hS' => ?_) ?_; rotate_left
            · simp only [lookP, allP, Act.put, List.getElem?_cons_zero, List.getElem?_cons_succ, List.setIfInBounds_toArray, List.set_cons_zero, List.set_cons_succ]
              refine ⟨by kernel_rfl, ?_⟩
              (try dsimp only at hS')
              go_simp
              (try with_reducible rfl)
            iterate 2 (refine' chainP_read _ rfl rfl (fun w' hS' => ?_) ?_; rotate_left; · (simp only [lookP, allP, Act.put, List.getElem?_cons_zero, List.getElem?_cons_succ, List.setIfInBounds_toArray, List.set_cons_zero, List.set_cons_succ]; (try dsimp only at hS'); go_simp; (try with_reducible rfl)))
            -- 31: fieldAddr 42 t5 1
            refine chainP_skip (d := (some 41)) rfl (fun w' hS' => ?_) ?_
            · simp only [lookP, allP, Act.put, List.getElem?_cons_zero, List.getElem?_cons_succ, List.setIfInBounds_toArray, List.set_cons_zero, List.set_cons_succ]
              kernel_rfl
            -- 32: load 24 t41
            refine chainP_skip (d := (some 42)) rfl (fun w' hS' => ?_) ?_
            · simp only [lookP, allP, Act.put, List.getElem?_cons_zero, List.getElem?_cons_succ, List.setIfInBounds_toArray, List.set_cons_zero, List.set_cons_succ]
              kernel_rfl
            -- 33: indexAddr 24 t42 (const (int i64 0))
            refine chainP_skip (d := (some 43)) rfl (fun w' hS' => ?_) ?_
            · simp only [lookP, allP, Act.put, List.getElem?_cons_zero, List.getElem?_cons_succ, List.setIfInBounds_toArray, List.set_cons_zero, List.set_cons_succ]
              kernel_rfl
            -- 34: load 3 t43
            refine chainP_skip (d := (some 44)) rfl (fun w' hS' => ?_) ?_
            · simp only [lookP, allP, Act.put, List.getElem?_cons_zero, List.getElem?_cons_succ, List.setIfInBounds_toArray, List.set_cons_zero, List.set_cons_succ]
              kernel_rfl
            -- 35: load 39 t2
            refine chainP_skip (d := (some 45)) rfl (fun w' hS' => ?_) ?_
            · simp only [lookP, allP, Act.put, List.getElem?_cons_zero, List.getElem?_cons_succ, List.setIfInBounds_toArray, List.set_cons_zero, List.set_cons_succ]
              kernel_rfl
            -- 36: load 104 t3
            refine chainP_skip (d := (some 46)) rfl (fun w' hS' => ?_) ?_
            · simp only [lookP, allP, Act.put, List.getElem?_cons_zero, List.getElem?_cons_succ, List.setIfInBounds_toArray, List.set_cons_zero, List.set_cons_succ]
              kernel_rfl
            -- 37: call { callee := value (func 276), args := #[t45, t46], argTypes := #[39, 104] }
            refine chainP_skip (d := (some 47)) rfl (fun w' hS' => ?_) ?_
            · simp only [lookP, allP, Act.put, List.getElem?_cons_zero, List.getElem?_cons_succ, List.setIfInBounds_toArray, List.set_cons_zero, List.set_cons_succ]
              kernel_rfl
            -- 38: binOp Binneq 3 t44 t47 3
            refine chainP_skip (d := (some 48)) rfl (fun w' hS' => ?_) ?_
            · simp only [lookP, allP, Act.put, List.getElem?_cons_zero, List.getElem?_cons_succ, List.setIfInBounds_toArray, List.set_cons_zero, List.set_cons_succ]
              kernel_rfl
            -- 39: pick t40 (const (bool true)) t48
            refine' chainP_read (d := (some 49)) _ rfl rfl (fun w' hS' => ?_) ?_; rotate_left
            · simp only [lookP, allP, Act.put, List.getElem?_cons_zero, List.getElem?_cons_succ, List.setIfInBounds_toArray, List.set_cons_zero, List.set_cons_succ]
              (try dsimp only at hS')
              go_simp
              (try with_reducible rfl)
            refine chainP_nil (fun u1 hS' => ?_)
            simp only [allP, Act.put, List.setIfInBounds_toArray, List.set_cons_zero, List.set_cons_succ]
            have hq1 := hS'.1
            clear hS'
            replace hc := Below.next hc hq1
            clear hq1 c0_0 c0_1 c0_2 c1_0 c1_1 c1_2 c1_3 c1_4 c1_5 c1_6 p0_0 p0_1 p0_2 yxc0 yxc1 yxh0 yxr0 yxr1
            obtain ⟨c0_0, c0_1, c0_2, c1_0, c1_1, c1_2, c1_3, c1_4, c1_5, c1_6, p0_0, p0_1, p0_2, yxc0, yxc1, yxh0, yxr0, yxr1⟩ := HCC.out _ hc
            go_wp2_with fail
            refine NoPanic.normal ?_
            go_wp2_with fail
            have HV : Hid ((.bool (vcastV gr sCast x) : Value) = .bool false) := by unfold Hid; simp [vcastV, hc1, hc2, hc3, Hhc4.out, Hhc5.out, HLxc.out, HLxh.out, HLxr.out, HE.out, HK0.out, HK1.out]
            go_ret
            exact ⟨congrArg Ending.returned HV.out.symm, HB.out.trans (hc.mono HB.out.size)⟩
          | true =>
            have wz1 : IntKind.i64.wrap 1 = 1 := IntWalk.i64_in _ (by omega)
            have wz2 : IntKind.i64.wrap 2 = 2 := IntWalk.i64_in _ (by omega)
            have zq1 := HG.out.q1
            have zq2 := HG.out.q2
            have zp2 := HG.out.p2
            have zg1 := HG.out.g1
            have zg2 := HG.out.g2
            have sgg : Small gr.g := ⟨by omega, by omega⟩
            have HTC := Lib.hid (all_two Exc.out HECC.out)
            have HTR := Lib.hid (all_two Exr.out hc5)
            have sx0 : Small (nth x.p.c 0) := elB_small HG.out HTC.out.1
            have sx1 : Small (nth x.p.c 1) := elB_small HG.out HTC.out.2
            have HSA : Hid (AllSmall ([x.c.a, x.c.b, x.v.a, x.v.b] ++ x.p.c)) := by unfold Hid; rw [list_two Exc.out]; obtain ⟨⟨s1, s2⟩, ⟨s3, s4⟩⟩ := HS4.out; exact AllSmall.cons s1 (AllSmall.cons s2 (AllSmall.cons s3 (AllSmall.cons s4 (AllSmall.cons sx0 (AllSmall.cons sx1 AllSmall.nil)))))
            obtain ⟨⟨sca, _⟩, ⟨sva, _⟩⟩ := HS4.out
            obtain ⟨a0, a0x⟩ := expB_bd HTR.out.1
            obtain ⟨a1, a1x⟩ := expB_bd HTR.out.2
            have iz0 : I64 (nth x.p.r 0) := ⟨by omega, by omega⟩
            have iz1 : I64 (nth x.p.r 1) := ⟨by omega, by omega⟩
            have ih0 : I64 (nth x.p.h 0) := nth_64 Hxh.out 0
            obtain ⟨E, hE⟩ : ∃ z, caE gr sCast x.c x.v x.p.c = z := ⟨_, rfl⟩
            have HE := Lib.hid hE
            have iE : I64 E := by have he := chV_bd HG.out sCast ([x.c.a, x.c.b, x.v.a, x.v.b] ++ x.p.c); obtain ⟨e1, e2⟩ : 0 ≤ E ∧ E < gr.q := hE ▸ he; exact ⟨by omega, by omega⟩
            clear hE
            obtain ⟨P0, hP⟩ : ∃ z, powE gr gr.g (nth x.p.r 0) = z := ⟨_, rfl⟩
            have HP0 := Lib.hid hP
            have sP0 : Small P0 := hP ▸ powE_small HG.out gr.g (nth x.p.r 0)
            obtain ⟨B0, hB⟩ : ∃ z, powE gr x.c.a E = z := ⟨_, rfl⟩
            have HB0 := Lib.hid hB
            have sB0 : Small B0 := hB ▸ powE_small HG.out x.c.a E
            obtain ⟨M0, hM⟩ : ∃ z, mulL gr [nth x.p.c 0, B0] = z := ⟨_, rfl⟩
            have HM0 := Lib.hid hM
            have sM0 : Small M0 := hM ▸ mulL_small HG.out [nth x.p.c 0, B0]
            have HK0 : Hid (vcastK gr (nth x.p.c 0) x.c.a (nth x.p.r 0) E = (P0 == M0)) := by unfold Hid vcastK; rw [hP, hB, hM]
            clear hP hB hM
            obtain ⟨P1, hP⟩ : ∃ z, powE gr gr.g (nth x.p.r 1) = z := ⟨_, rfl⟩
            have HP1 := Lib.hid hP
            have sP1 : Small P1 := hP ▸ powE_small HG.out gr.g (nth x.p.r 1)
            obtain ⟨B1, hB⟩ : ∃ z, powE gr x.v.a E = z := ⟨_, rfl⟩
            have HB1 := Lib.hid hB
            have sB1 : Small B1 := hB ▸ powE_small HG.out x.v.a E
            obtain ⟨M1, hM⟩ : ∃ z, mulL gr [nth x.p.c 1, B1] = z := ⟨_, rfl⟩
            have HM1 := Lib.hid hM
            have sM1 : Small M1 := hM ▸ mulL_small HG.out [nth x.p.c 1, B1]
            have HK1 : Hid (vcastK gr (nth x.p.c 1) x.v.a (nth x.p.r 1) E = (P1 == M1)) := by unfold Hid vcastK; rw [hP, hB, hM]
            clear hP hB hM
            have Hhc5 := Lib.hid hc5
            clear hc5
            try (go_wp2_with fail)
            refine wp_region_noPanic ?_
            refine wp_region_P (fun w' => w'.cell? ⟨w.heap.size, 0, none⟩ = some (.int .i64 gr.p) ∧ w'.cell? ⟨w.heap.size, 1, none⟩ = some (.int .i64 gr.q) ∧ w'.cell? ⟨w.heap.size, 2, none⟩ = some (.int .i64 gr.g) ∧ w'.cell? ⟨w.heap.size + 1, 0, none⟩ = some (.int .i64 x.c.a) ∧ w'.cell? ⟨w.heap.size + 1, 1, none⟩ = some (.int .i64 x.c.b) ∧ w'.cell? ⟨w.heap.size + 1, 2, none⟩ = some (.int .i64 x.v.a) ∧ w'.cell? ⟨w.heap.size + 1, 3, none⟩ = some (.int .i64 x.v.b) ∧ w'.cell? ⟨w.heap.size + 1, 4, none⟩ = some ((.slice (some ⟨xcb, xco, none⟩) 2 xcc)) ∧ w'.cell? ⟨w.heap.size + 1, 5, none⟩ = some ((.slice (some ⟨xhb, xho, none⟩) 1 xhc)) ∧ w'.cell? ⟨w.heap.size + 1, 6, none⟩ = some ((.slice (some ⟨xrb, xro, none⟩) 2 xrc)) ∧ w'.cell? ⟨R0, 0, none⟩ = some ((.slice (some ⟨xcb, xco, none⟩) 2 xcc)) ∧ w'.cell? ⟨R0, 1, none⟩ = some ((.slice (some ⟨xhb, xho, none⟩) 1 xhc)) ∧ w'.cell? ⟨R0, 2, none⟩ = some ((.slice (some ⟨xrb, xro, none⟩) 2 xrc)) ∧ w'.cell? ⟨xcb, xco, none⟩ = some (.int .i64 (nth x.p.c 0)) ∧ w'.cell? ⟨xcb, xco + 1, none⟩ = some (.int .i64 (nth x.p.c 1)) ∧ w'.cell? ⟨xhb, xho, none⟩ = some (.int .i64 (nth x.p.h 0)) ∧ w'.cell? ⟨xrb, xro, none⟩ = some (.int .i64 (nth x.p.r 0)) ∧ w'.cell? ⟨xrb, xro + 1, none⟩ = some (.int .i64 (nth x.p.r 1))) 42 [(0, []), (1, [0]), (2, [0]), (3, [0]), (4, [0]), (5, [0]), (6, [0, 1]), (7, [0, 2]), (8, [0, 3]), (9, [4, 0]), (10, [0]), (11, [0]), (12, [0, 1]), (13, [0, 2]), (14, [0, 3]), (15, [4, 0]), (16, [0]), (17, [0]), (18, [1]), (19, [0, 2]), (20, [2, 0, 3]), (21, [0, 4]), (22, [5, 0]), (23, [0]), (24, [0]), (25, [1]), (26, [0, 2]), (27, [2, 0, 3]), (28, [0, 4]), (29, [5, 0]), (30, [0]), (31, [0]), (32, [0, 1]), (33, [0, 2]), (34, [0, 3]), (35, [4]), (36, [5]), (37, [1, 0, 6]), (38, [3, 0, 7]), (39, [8, 0])] [] (by kernel_rfl) (by kernel_rfl) (by kernel_rfl) rfl (fun _ _ _ _ h => h) (fun w' h => ⟨box_at c0_0 h, box_at c0_1 h, box_at c0_2 h, box_at c1_0 h, box_at c1_1 h, box_at c1_2 h, box_at c1_3 h, box_at c1_4 h, box_at c1_5 h, box_at c1_6 h, box_at p0_0 h, box_at p0_1 h, box_at p0_2 h, box_at yxc0 h, box_at yxc1 h, box_at yxh0 h, box_at yxr0 h, box_at yxr1 h⟩) ?_
            simp only [pickP, pickN, List.getElem?_cons_zero, List.getElem?_cons_succ]
            iterate 5 (refine' chainP_read _ rfl rfl (fun w' hS' => ?_) ?_; rotate_left; · (simp only [lookP, allP, Act.put, List.getElem?_cons_zero, List.getElem?_cons_succ, List.setIfInBounds_toArray, List.set_cons_zero, List.set_cons_succ]; (try dsimp only at hS'); go_simp; (try with_reducible rfl)))
            -- 5: fieldAddr 42 t5 1
            refine' chainP_readG (d := (some 15)) _ rfl (fun w' hS' => ?_) ?_; rotate_left
            · simp only [lookP, allP, Act.put, List.getElem?_cons_zero, List.getElem?_cons_succ, List.setIfInBounds_toArray, List.set_cons_zero, List.set_cons_succ]
              refine ⟨by kernel_rfl, ?_⟩
              (try dsimp only at hS')
              go_simp
              (try with_reducible rfl)
            -- 6: load 24 t15
            refine' chainP_readG (d := (some 16)) _ rfl (fun w' hS' => ?_) ?_; rotate_left
            · simp only [lookP, allP, Act.put, List.getElem?_cons_zero, List.getElem?_cons_succ, List.setIfInBounds_toArray, List.set_cons_zero, List.set_cons_succ]
              refine ⟨by kernel_rfl, ?_⟩
              (try dsimp only at hS')
              go_simp
              (try with_reducible rfl)
            -- 7: call { callee := builtin Builtin.len, args := #[t16], argTypes := #[24] }
            refine' chainP_readG (d := (some 17)) _ rfl (fun w' hS' => ?_) ?_; rotate_left
            · simp only [lookP, allP, Act.put, List.getElem?_cons_zero, List.getElem?_cons_succ, List.setIfInBounds_toArray, List.set_cons_zero, List.set_cons_succ]
              refine ⟨by kernel_rfl, ?_⟩
              (try dsimp only at hS')
              go_simp
              (try with_reducible rfl)
            -- 8: binOp Binneq 3 t17 (const (int i64 1)) 3
            refine' chainP_readG (d := (some 18)) _ rfl (fun w' hS' => ?_) ?_; rotate_left
            · simp only [lookP, allP, Act.put, List.getElem?_cons_zero, List.getElem?_cons_succ, List.setIfInBounds_toArray, List.set_cons_zero, List.set_cons_succ]
              refine ⟨by kernel_rfl, ?_⟩
              (try dsimp only at hS')
              go_simp
              (try with_reducible rfl)
            iterate 2 (refine' chainP_read _ rfl rfl (fun w' hS' => ?_) ?_; rotate_left; · (simp only [lookP, allP, Act.put, List.getElem?_cons_zero, List.getElem?_cons_succ, List.setIfInBounds_toArray, List.set_cons_zero, List.set_cons_succ]; (try dsimp only at hS'); go_simp; (try with_reducible rfl)))
            -- 11: fieldAddr 42 t5 2
            refine' chainP_readG (d := (some 21)) _ rfl (fun w' hS' => ?_) ?_; rotate_left
            · simp only [lookP, allP, Act.put, List.getElem?_cons_zero, List.getElem?_cons_succ, List.setIfInBounds_toArray, List.set_cons_zero, List.set_cons_succ]
              refine ⟨by kernel_rfl, ?_⟩
              (try dsimp only at hS')
              go_simp
              (try with_reducible rfl)
            -- 12: load 24 t21
            refine' chainP_readG (d := (some 22)) _ rfl (fun w' hS' => ?_) ?_; rotate_left
            · simp only [lookP, allP, Act.put, List.getElem?_cons_zero, List.getElem?_cons_succ, List.setIfInBounds_toArray, List.set_cons_zero, List.set_cons_succ]
              refine ⟨by kernel_rfl, ?_⟩
              (try dsimp only at hS')
              go_simp
              (try with_reducible rfl)
            -- 13: call { callee := builtin Builtin.len, args := #[t22], argTypes := #[24] }
            refine' chainP_readG (d := (some 23)) _ rfl (fun w' hS' => ?_) ?_; rotate_left
            · simp only [lookP, allP, Act.put, List.getElem?_cons_zero, List.getElem?_cons_succ, List.setIfInBounds_toArray, List.set_cons_zero, List.set_cons_succ]
              refine ⟨by kernel_rfl, ?_⟩
              (try dsimp only at hS')
              go_simp
              (try with_reducible rfl)
            -- 14: binOp Binneq 3 t23 (const (int i64 2)) 3
            refine' chainP_readG (d := (some 24)) _ rfl (fun w' hS' => ?_) ?_; rotate_left
            · simp only [lookP, allP, Act.put, List.getElem?_cons_zero, List.getElem?_cons_succ, List.setIfInBounds_toArray, List.set_cons_zero, List.set_cons_succ]
              refine ⟨by kernel_rfl, ?_⟩
              (try dsimp only at hS')
              go_simp
              (try with_reducible rfl)
            iterate 2 (refine' chainP_read _ rfl rfl (fun w' hS' => ?_) ?_; rotate_left; · (simp only [lookP, allP, Act.put, List.getElem?_cons_zero, List.getElem?_cons_succ, List.setIfInBounds_toArray, List.set_cons_zero, List.set_cons_succ]; (try dsimp only at hS'); go_simp; (try with_reducible rfl)))
            -- 17: load 39 t2
            refine' chainP_readG (d := (some 27)) _ rfl (fun w' hS' => ?_) ?_; rotate_left
            · simp only [lookP, allP, Act.put, List.getElem?_cons_zero, List.getElem?_cons_succ, List.setIfInBounds_toArray, List.set_cons_zero, List.set_cons_succ]
              refine ⟨by kernel_rfl, ?_⟩
              (try dsimp only at hS')
              go_simp
              (try with_reducible rfl)
            -- 18: fieldAddr 42 t5 0
            refine' chainP_readG (d := (some 28)) _ rfl (fun w' hS' => ?_) ?_; rotate_left
            · simp only [lookP, allP, Act.put, List.getElem?_cons_zero, List.getElem?_cons_succ, List.setIfInBounds_toArray, List.set_cons_zero, List.set_cons_succ]
              refine ⟨by kernel_rfl, ?_⟩
              (try dsimp only at hS')
              go_simp
              (try with_reducible rfl)
            -- 19: load 24 t28
            refine' chainP_readG (d := (some 29)) _ rfl (fun w' hS' => ?_) ?_; rotate_left
            · simp only [lookP, allP, Act.put, List.getElem?_cons_zero, List.getElem?_cons_succ, List.setIfInBounds_toArray, List.set_cons_zero, List.set_cons_succ]
              refine ⟨by kernel_rfl, ?_⟩
              (try dsimp only at hS')
              go_simp
              (try with_reducible rfl)
            -- 20: call { callee := value (func 202), args := #[t27, t29], argTypes := #[39, 24] }
            refine chainP_callG (d := (some 30)) (.bool true) rfl (fun w' hS' => ?_) ?_
            · simp only [lookP, allP, Act.put, List.getElem?_cons_zero, List.getElem?_cons_succ, List.setIfInBounds_toArray, List.set_cons_zero, List.set_cons_succ]
              refine ⟨by kernel_rfl, ?_⟩
              intro K hK
              go_simp
              go_at_call 202
              refine (spec_gIs gr _ x.p.c _ HG.out ((Hxc.out.below (HB.out.trans (hc.mono HB.out.size))).below hS'.1)).mono ?_
              rintro e u ⟨rfl, hq⟩
              rw [Hhc4.out]
              exact hK.out _ hq
            -- 21: unOp Unnot 4 t30
            refine' chainP_readG (d := (some 31)) _ rfl (fun w' hS' => ?_) ?_; rotate_left
            · simp only [lookP, allP, Act.put, List.getElem?_cons_zero, List.getElem?_cons_succ, List.setIfInBounds_toArray, List.set_cons_zero, List.set_cons_succ]
              refine ⟨by kernel_rfl, ?_⟩
              (try dsimp only at hS')
              go_simp
              (try with_reducible rfl)
            iterate 2 (refine' chainP_read _ rfl rfl (fun w' hS' => ?_) ?_; rotate_left; · (simp only [lookP, allP, Act.put, List.getElem?_cons_zero, List.getElem?_cons_succ, List.setIfInBounds_toArray, List.set_cons_zero, List.set_cons_succ]; (try dsimp only at hS'); go_simp; (try with_reducible rfl)))
            -- 24: load 39 t2
            refine' chainP_readG (d := (some 34)) _ rfl (fun w' hS' => ?_) ?_; rotate_left
            · simp only [lookP, allP, Act.put, List.getElem?_cons_zero, List.getElem?_cons_succ, List.setIfInBounds_toArray, List.set_cons_zero, List.set_cons_succ]
              refine ⟨by kernel_rfl, ?_⟩
              (try dsimp only at hS')
              go_simp
              (try with_reducible rfl)
            -- 25: fieldAddr 42 t5 2
            refine' chainP_readG (d := (some 35)) _ rfl (fun w' hS' => ?_) ?_; rotate_left
            · simp only [lookP, allP, Act.put, List.getElem?_cons_zero, List.getElem?_cons_succ, List.setIfInBounds_toArray, List.set_cons_zero, List.set_cons_succ]
              refine ⟨by kernel_rfl, ?_⟩
              (try dsimp only at hS')
              go_simp
              (try with_reducible rfl)
            -- 26: load 24 t35
            refine' chainP_readG (d := (some 36)) _ rfl (fun w' hS' => ?_) ?_; rotate_left
            · simp only [lookP, allP, Act.put, List.getElem?_cons_zero, List.getElem?_cons_succ, List.setIfInBounds_toArray, List.set_cons_zero, List.set_cons_succ]
              refine ⟨by kernel_rfl, ?_⟩
              (try dsimp only at hS')
              go_simp
              (try with_reducible rfl)
            -- 27: call { callee := value (func 144), args := #[t34, t36], argTypes := #[39, 24] }
            refine chainP_callG (d := (some 37)) (.bool true) rfl (fun w' hS' => ?_) ?_
            · simp only [lookP, allP, Act.put, List.getElem?_cons_zero, List.getElem?_cons_succ, List.setIfInBounds_toArray, List.set_cons_zero, List.set_cons_succ]
              refine ⟨by kernel_rfl, ?_⟩
              intro K hK
              go_simp
              go_at_call 144
              refine (spec_gExps gr _ x.p.r _ HG.out ((Hxr.out.below (HB.out.trans (hc.mono HB.out.size))).below hS'.1)).mono ?_
              rintro e u ⟨rfl, hq⟩
              rw [Hhc5.out]
              exact hK.out _ hq
            -- 28: unOp Unnot 4 t37
            refine' chainP_readG (d := (some 38)) _ rfl (fun w' hS' => ?_) ?_; rotate_left
            · simp only [lookP, allP, Act.put, List.getElem?_cons_zero, List.getElem?_cons_succ, List.setIfInBounds_toArray, List.set_cons_zero, List.set_cons_succ]
              refine ⟨by kernel_rfl, ?_⟩
              (try dsimp only at hS')
              go_simp
              (try with_reducible rfl)
            iterate 2 (refine' chainP_read _ rfl rfl (fun w' hS' => ?_) ?_; rotate_left; · (simp only [lookP, allP, Act.put, List.getElem?_cons_zero, List.getElem?_cons_succ, List.setIfInBounds_toArray, List.set_cons_zero, List.set_cons_succ]; (try dsimp only at hS'); go_simp; (try with_reducible rfl)))
            -- 31: fieldAddr 42 t5 1
            refine' chainP_readG (d := (some 41)) _ rfl (fun w' hS' => ?_) ?_; rotate_left
            · simp only [lookP, allP, Act.put, List.getElem?_cons_zero, List.getElem?_cons_succ, List.setIfInBounds_toArray, List.set_cons_zero, List.set_cons_succ]
              refine ⟨by kernel_rfl, ?_⟩
              (try dsimp only at hS')
              go_simp
              (try with_reducible rfl)
            -- 32: load 24 t41
            refine' chainP_readG (d := (some 42)) _ rfl (fun w' hS' => ?_) ?_; rotate_left
            · simp only [lookP, allP, Act.put, List.getElem?_cons_zero, List.getElem?_cons_succ, List.setIfInBounds_toArray, List.set_cons_zero, List.set_cons_succ]
              refine ⟨by kernel_rfl, ?_⟩
              (try dsimp only at hS')
              go_simp
              (try with_reducible rfl)
            -- 33: indexAddr 24 t42 (const (int i64 0))
            refine' chainP_readG (d := (some 43)) _ rfl (fun w' hS' => ?_) ?_; rotate_left
            · simp only [lookP, allP, Act.put, List.getElem?_cons_zero, List.getElem?_cons_succ, List.setIfInBounds_toArray, List.set_cons_zero, List.set_cons_succ]
              refine ⟨by kernel_rfl, ?_⟩
              (try dsimp only at hS')
              go_simp
              (try with_reducible rfl)
            -- 34: load 3 t43
            refine' chainP_readG (d := (some 44)) _ rfl (fun w' hS' => ?_) ?_; rotate_left
            · simp only [lookP, allP, Act.put, List.getElem?_cons_zero, List.getElem?_cons_succ, List.setIfInBounds_toArray, List.set_cons_zero, List.set_cons_succ]
              refine ⟨by kernel_rfl, ?_⟩
              (try dsimp only at hS')
              go_simp
              (try with_reducible rfl)
            -- 35: load 39 t2
            refine' chainP_readG (d := (some 45)) _ rfl (fun w' hS' => ?_) ?_; rotate_left
            · simp only [lookP, allP, Act.put, List.getElem?_cons_zero, List.getElem?_cons_succ, List.setIfInBounds_toArray, List.set_cons_zero, List.set_cons_succ]
              refine ⟨by kernel_rfl, ?_⟩
              (try dsimp only at hS')
              go_simp
              (try with_reducible rfl)
            -- 36: load 104 t3
            refine' chainP_readG (d := (some 46)) _ rfl (fun w' hS' => ?_) ?_; rotate_left
            · simp only [lookP, allP, Act.put, List.getElem?_cons_zero, List.getElem?_cons_succ, List.setIfInBounds_toArray, List.set_cons_zero, List.set_cons_succ]
              refine ⟨by kernel_rfl, ?_⟩
              (try dsimp only at hS')
              go_simp
              (try with_reducible rfl)
            -- 37: call { callee := value (func 276), args := #[t45, t46], argTypes := #[39, 104] }
            refine chainP_callG (d := (some 47)) (.int .i64 E) rfl (fun w' hS' => ?_) ?_
            · simp only [lookP, allP, Act.put, List.getElem?_cons_zero, List.getElem?_cons_succ, List.setIfInBounds_toArray, List.set_cons_zero, List.set_cons_succ]
              refine ⟨by kernel_rfl, ?_⟩
              intro K hK
              go_simp
              go_at_call 276
              refine (spec_dChallenge gr _ x _ HG.out ⟨_, _, _, rfl, ⟨⟨ia, ib⟩, ⟨ic, id⟩⟩, ((Hxc.out.below (HB.out.trans (hc.mono HB.out.size))).below hS'.1), ((Hxh.out.below (HB.out.trans (hc.mono HB.out.size))).below hS'.1), ((Hxr.out.below (HB.out.trans (hc.mono HB.out.size))).below hS'.1)⟩ (by have := Exc.out; omega) HSA.out).mono ?_
              rintro e u ⟨rfl, hq⟩
              rw [HE.out]
              exact hK.out _ hq
            -- 38: binOp Binneq 3 t44 t47 3
            refine' chainP_readG (d := (some 48)) _ rfl (fun w' hS' => ?_) ?_; rotate_left
            · simp only [lookP, allP, Act.put, List.getElem?_cons_zero, List.getElem?_cons_succ, List.setIfInBounds_toArray, List.set_cons_zero, List.set_cons_succ]
              refine ⟨by kernel_rfl, ?_⟩
              (try dsimp only at hS')
              go_simp
              (try with_reducible rfl)
            -- 39: pick t40 (const (bool true)) t48
            refine' chainP_read (d := (some 49)) _ rfl rfl (fun w' hS' => ?_) ?_; rotate_left
            · simp only [lookP, allP, Act.put, List.getElem?_cons_zero, List.getElem?_cons_succ, List.setIfInBounds_toArray, List.set_cons_zero, List.set_cons_succ]
              (try dsimp only at hS')
              go_simp
              (try with_reducible rfl)
            refine chainP_nil (fun u1 hS' => ?_)
            simp only [allP, Act.put, List.setIfInBounds_toArray, List.set_cons_zero, List.set_cons_succ]
            have hq1 := hS'.1
            clear hS'
            replace hc := Below.next hc hq1
            clear hq1 c0_0 c0_1 c0_2 c1_0 c1_1 c1_2 c1_3 c1_4 c1_5 c1_6 p0_0 p0_1 p0_2 yxc0 yxc1 yxh0 yxr0 yxr1
            obtain ⟨c0_0, c0_1, c0_2, c1_0, c1_1, c1_2, c1_3, c1_4, c1_5, c1_6, p0_0, p0_1, p0_2, yxc0, yxc1, yxh0, yxr0, yxr1⟩ := HCC.out _ hc
            go_wp2_with fail
            refine NoPanic.normal ?_
            cases hc6 : ((nth x.p.h 0) != E) with
            | false =>
              have HQE : Hid (nth x.p.h 0 = E) := by have q := hc6; rw [bne_eq_false_iff_eq] at q; exact q
              have HQF : Hid ((nth x.p.h 0 == E) = true) := beq_iff_eq.2 HQE.out
              go_wp2_with fail
              obtain ⟨R1, hR0⟩ : ∃ r, r = u1.heap.size := ⟨_, rfl⟩
              obtain ⟨V, hV⟩ : ∃ V, V = u1.alloc (.cells #[.int .i64 x.c.a, .int .i64 x.v.a] 3) := ⟨_, rfl⟩
              have hbV : Below W.heap.size W V := by rw [hV]; exact hc.alloc hc.size _
              have HP1 : Hid (BoxN V R1 3 [.int .i64 x.c.a, .int .i64 x.v.a]) := by unfold Hid; rw [hV, hR0]; exact BoxN.new u1 [.int .i64 x.c.a, .int .i64 x.v.a] 3
              have HBV : Hid (Below w.heap.size w V) := HB.out.trans (hbV.mono HB.out.size)
              rw [← hV, ← hR0]
              replace HCC := HCC.out _ hbV
              clear hV hR0 hbV hc HB c0_0 c0_1 c0_2 c1_0 c1_1 c1_2 c1_3 c1_4 c1_5 c1_6 p0_0 p0_1 p0_2 yxc0 yxc1 yxh0 yxr0 yxr1
              obtain ⟨W, hW⟩ : ∃ W, W = V := ⟨_, rfl⟩
              rw [← hW] at HP1 HBV HCC ⊢
              clear hW
              have HB := HBV
              clear HBV
              have hc : Below W.heap.size W W := Below.refl _ _
              obtain ⟨c0_0, c0_1, c0_2, c1_0, c1_1, c1_2, c1_3, c1_4, c1_5, c1_6, p0_0, p0_1, p0_2, yxc0, yxc1, yxh0, yxr0, yxr1⟩ := HCC
              have p1_0 := HP1.out.cell (i := 0) rfl
              have p1_1 := HP1.out.cell (i := 1) rfl
              clear HP1
              have HCC : Hid (∀ u, Below W.heap.size W u → u.cell? ⟨w.heap.size, 0, none⟩ = some (.int .i64 gr.p) ∧ u.cell? ⟨w.heap.size, 1, none⟩ = some (.int .i64 gr.q) ∧ u.cell? ⟨w.heap.size, 2, none⟩ = some (.int .i64 gr.g) ∧ u.cell? ⟨w.heap.size + 1, 0, none⟩ = some (.int .i64 x.c.a) ∧ u.cell? ⟨w.heap.size + 1, 1, none⟩ = some (.int .i64 x.c.b) ∧ u.cell? ⟨w.heap.size + 1, 2, none⟩ = some (.int .i64 x.v.a) ∧ u.cell? ⟨w.heap.size + 1, 3, none⟩ = some (.int .i64 x.v.b) ∧ u.cell? ⟨w.heap.size + 1, 4, none⟩ = some ((.slice (some ⟨xcb, xco, none⟩) 2 xcc)) ∧ u.cell? ⟨w.heap.size + 1, 5, none⟩ = some ((.slice (some ⟨xhb, xho, none⟩) 1 xhc)) ∧ u.cell? ⟨w.heap.size + 1, 6, none⟩ = some ((.slice (some ⟨xrb, xro, none⟩) 2 xrc)) ∧ u.cell? ⟨R0, 0, none⟩ = some ((.slice (some ⟨xcb, xco, none⟩) 2 xcc)) ∧ u.cell? ⟨R0, 1, none⟩ = some ((.slice (some ⟨xhb, xho, none⟩) 1 xhc)) ∧ u.cell? ⟨R0, 2, none⟩ = some ((.slice (some ⟨xrb, xro, none⟩) 2 xrc)) ∧ u.cell? ⟨xcb, xco, none⟩ = some (.int .i64 (nth x.p.c 0)) ∧ u.cell? ⟨xcb, xco + 1, none⟩ = some (.int .i64 (nth x.p.c 1)) ∧ u.cell? ⟨xhb, xho, none⟩ = some (.int .i64 (nth x.p.h 0)) ∧ u.cell? ⟨xrb, xro, none⟩ = some (.int .i64 (nth x.p.r 0)) ∧ u.cell? ⟨xrb, xro + 1, none⟩ = some (.int .i64 (nth x.p.r 1)) ∧ u.cell? ⟨R1, 0, none⟩ = some (.int .i64 x.c.a) ∧ u.cell? ⟨R1, 1, none⟩ = some (.int .i64 x.v.a)) := fun u h => ⟨box_at c0_0 h, box_at c0_1 h, box_at c0_2 h, box_at c1_0 h, box_at c1_1 h, box_at c1_2 h, box_at c1_3 h, box_at c1_4 h, box_at c1_5 h, box_at c1_6 h, box_at p0_0 h, box_at p0_1 h, box_at p0_2 h, box_at yxc0 h, box_at yxc1 h, box_at yxh0 h, box_at yxr0 h, box_at yxr1 h, box_at p1_0 h, box_at p1_1 h⟩
              (try (go_wp2_with fail))
              refine wp_loop_rounds 3 ?_
              rw [rounds_succ]
              try (go_wp2_with fail)
              refine wp_region_noPanic ?_
              refine wp_region_P (fun w' => w'.cell? ⟨w.heap.size, 0, none⟩ = some (.int .i64 gr.p) ∧ w'.cell? ⟨w.heap.size, 1, none⟩ = some (.int .i64 gr.q) ∧ w'.cell? ⟨w.heap.size, 2, none⟩ = some (.int .i64 gr.g) ∧ w'.cell? ⟨w.heap.size + 1, 0, none⟩ = some (.int .i64 x.c.a) ∧ w'.cell? ⟨w.heap.size + 1, 1, none⟩ = some (.int .i64 x.c.b) ∧ w'.cell? ⟨w.heap.size + 1, 2, none⟩ = some (.int .i64 x.v.a) ∧ w'.cell? ⟨w.heap.size + 1, 3, none⟩ = some (.int .i64 x.v.b) ∧ w'.cell? ⟨w.heap.size + 1, 4, none⟩ = some ((.slice (some ⟨xcb, xco, none⟩) 2 xcc)) ∧ w'.cell? ⟨w.heap.size + 1, 5, none⟩ = some ((.slice (some ⟨xhb, xho, none⟩) 1 xhc)) ∧ w'.cell? ⟨w.heap.size + 1, 6, none⟩ = some ((.slice (some ⟨xrb, xro, none⟩) 2 xrc)) ∧ w'.cell? ⟨R0, 0, none⟩ = some ((.slice (some ⟨xcb, xco, none⟩) 2 xcc)) ∧ w'.cell? ⟨R0, 1, none⟩ = some ((.slice (some ⟨xhb, xho, none⟩) 1 xhc)) ∧ w'.cell? ⟨R0, 2, none⟩ = some ((.slice (some ⟨xrb, xro, none⟩) 2 xrc)) ∧ w'.cell? ⟨xcb, xco, none⟩ = some (.int .i64 (nth x.p.c 0)) ∧ w'.cell? ⟨xcb, xco + 1, none⟩ = some (.int .i64 (nth x.p.c 1)) ∧ w'.cell? ⟨xhb, xho, none⟩ = some (.int .i64 (nth x.p.h 0)) ∧ w'.cell? ⟨xrb, xro, none⟩ = some (.int .i64 (nth x.p.r 0)) ∧ w'.cell? ⟨xrb, xro + 1, none⟩ = some (.int .i64 (nth x.p.r 1)) ∧ w'.cell? ⟨R1, 0, none⟩ = some (.int .i64 x.c.a) ∧ w'.cell? ⟨R1, 1, none⟩ = some (.int .i64 x.v.a)) 27 [(0, []), (1, []), (2, [0]), (3, []), (4, [0]), (5, []), (6, [1, 0]), (7, [0]), (8, [7, 5, 0]), (9, []), (10, []), (11, [0]), (12, []), (13, [1, 0]), (14, [0]), (15, []), (16, []), (17, []), (18, [0]), (19, [0]), (20, [0]), (21, [5, 4, 0]), (22, [7, 0]), (23, [13, 0]), (24, [15, 0])] [] (by kernel_rfl) (by kernel_rfl) (by kernel_rfl) rfl (fun _ _ _ _ h => h) (fun w' h => ⟨box_at c0_0 h, box_at c0_1 h, box_at c0_2 h, box_at c1_0 h, box_at c1_1 h, box_at c1_2 h, box_at c1_3 h, box_at c1_4 h, box_at c1_5 h, box_at c1_6 h, box_at p0_0 h, box_at p0_1 h, box_at p0_2 h, box_at yxc0 h, box_at yxc1 h, box_at yxh0 h, box_at yxr0 h, box_at yxr1 h, box_at p1_0 h, box_at p1_1 h⟩) ?_
              simp only [pickP, pickN, List.getElem?_cons_zero, List.getElem?_cons_succ]
              iterate 8 (refine' chainP_read _ rfl rfl (fun w' hS' => ?_) ?_; rotate_left; · (simp only [lookP, allP, Act.put, List.getElem?_cons_zero, List.getElem?_cons_succ, List.setIfInBounds_toArray, List.set_cons_zero, List.set_cons_succ]; (try dsimp only at hS'); go_simp; (try with_reducible rfl)))
              -- 8: call { callee := value (func 156), args := #[t63, t65, t70], argTypes := #[39, 3, 3] }
              refine chainP_call (d := (some 71)) (.int .i64 P0) rfl rfl (fun w' hS' => ?_) ?_
              · simp only [lookP, allP, Act.put, List.getElem?_cons_zero, List.getElem?_cons_succ, List.setIfInBounds_toArray, List.set_cons_zero, List.set_cons_succ]
                intro K hK
                go_simp
                go_at_call 156
                refine (spec_gExp gr gr.g (nth x.p.r 0) _ HG.out sgg iz0).mono ?_
                rintro e u ⟨rfl, hq⟩
                rw [HP0.out]
                exact hK.out _ hq
              iterate 12 (refine' chainP_read _ rfl rfl (fun w' hS' => ?_) ?_; rotate_left; · (simp only [lookP, allP, Act.put, List.getElem?_cons_zero, List.getElem?_cons_succ, List.setIfInBounds_toArray, List.set_cons_zero, List.set_cons_succ]; (try dsimp only at hS'); go_simp; (try with_reducible rfl)))
              -- 21: call { callee := value (func 156), args := #[t78, t79, t83], argTypes := #[39, 3, 3] }
              refine chainP_call (d := (some 84)) (.int .i64 B0) rfl rfl (fun w' hS' => ?_) ?_
              · simp only [lookP, allP, Act.put, List.getElem?_cons_zero, List.getElem?_cons_succ, List.setIfInBounds_toArray, List.set_cons_zero, List.set_cons_succ]
                intro K hK
                go_simp
                go_at_call 156
                refine (spec_gExp gr x.c.a (nth x.p.h 0) _ HG.out sca ih0).mono ?_
                rintro e u ⟨rfl, hq⟩
                rw [show powE gr x.c.a (nth x.p.h 0) = B0 by rw [HQE.out]; exact HB0.out]
                exact hK.out _ hq
              -- 22: buildSlice 24 2 #[(0, t77), (1, t84)]
              refine chainP_do (d := (some 85)) (fun v w => Ints w v [(nth x.p.c 0), B0]) (fun v w w' hb h => Ints.below h hb) rfl rfl (fun w' hS' => ?_) ?_
              · simp only [lookP, allP, Act.put, List.getElem?_cons_zero, List.getElem?_cons_succ, List.setIfInBounds_toArray, List.set_cons_zero, List.set_cons_succ]
                intro K hK
                go_simp
                refine hK.out _ _ ((Below.refl _ _).alloc (Nat.le_refl _) _) ?_
                exact (OwnI.lit (B := w'.heap.size) w' (Nat.le_refl _) (l := [(nth x.p.c 0), B0]) (AllI64.cons (small_64 sx0) (AllI64.cons (small_64 sB0) AllI64.nil)) rfl (by simp [maxLen]) 2 rfl).ints
              -- 23: call { callee := value (func 211), args := #[t72, t85], argTypes := #[39, 24] }
              refine chainP_call (d := (some 86)) (.int .i64 M0) rfl rfl (fun w' hS' => ?_) ?_
              · simp only [lookP, allP, Act.put, List.getElem?_cons_zero, List.getElem?_cons_succ, List.setIfInBounds_toArray, List.set_cons_zero, List.set_cons_succ]
                intro x22 hx22
                intro K hK
                go_simp
                go_at_call 211
                refine (spec_gMul gr _ [nth x.p.c 0, B0] _ HG.out hx22 (AllSmall.cons sx0 (AllSmall.cons sB0 AllSmall.nil))).mono ?_
                rintro e u ⟨rfl, hq⟩
                rw [HM0.out]
                exact hK.out _ hq
              -- 24: binOp Binneq 3 t71 t86 3
              refine' chainP_read (d := (some 87)) _ rfl rfl (fun w' hS' => ?_) ?_; rotate_left
              · simp only [lookP, allP, Act.put, List.getElem?_cons_zero, List.getElem?_cons_succ, List.setIfInBounds_toArray, List.set_cons_zero, List.set_cons_succ]
                (try dsimp only at hS')
                go_simp
                (try with_reducible rfl)
              refine chainP_nil (fun u2 hS' => ?_)
              simp only [allP, Act.put, List.setIfInBounds_toArray, List.set_cons_zero, List.set_cons_succ]
              intro x22 hx22
              have hq2 := hS'.1
              clear hS'
              replace hc := Below.next hc hq2
              clear hq2 c0_0 c0_1 c0_2 c1_0 c1_1 c1_2 c1_3 c1_4 c1_5 c1_6 p0_0 p0_1 p0_2 yxc0 yxc1 yxh0 yxr0 yxr1 p1_0 p1_1
              obtain ⟨c0_0, c0_1, c0_2, c1_0, c1_1, c1_2, c1_3, c1_4, c1_5, c1_6, p0_0, p0_1, p0_2, yxc0, yxc1, yxh0, yxr0, yxr1, p1_0, p1_1⟩ := HCC.out _ hc
              go_wp2_with fail
              refine NoPanic.normal ?_
              cases hc7 : (P0 != M0) with
              | false =>
                have HQ0 : Hid ((P0 == M0) = true) := by unfold Hid; have q := hc7; rw [bne_eq_false_iff_eq] at q; exact beq_iff_eq.2 q
                (try (go_wp2_with fail))
                rw [rounds_succ]
                try (go_wp2_with fail)
                refine wp_region_noPanic ?_
                refine wp_region_P (fun w' => w'.cell? ⟨w.heap.size, 0, none⟩ = some (.int .i64 gr.p) ∧ w'.cell? ⟨w.heap.size, 1, none⟩ = some (.int .i64 gr.q) ∧ w'.cell? ⟨w.heap.size, 2, none⟩ = some (.int .i64 gr.g) ∧ w'.cell? ⟨w.heap.size + 1, 0, none⟩ = some (.int .i64 x.c.a) ∧ w'.cell? ⟨w.heap.size + 1, 1, none⟩ = some (.int .i64 x.c.b) ∧ w'.cell? ⟨w.heap.size + 1, 2, none⟩ = some (.int .i64 x.v.a) ∧ w'.cell? ⟨w.heap.size + 1, 3, none⟩ = some (.int .i64 x.v.b) ∧ w'.cell? ⟨w.heap.size + 1, 4, none⟩ = some ((.slice (some ⟨xcb, xco, none⟩) 2 xcc)) ∧ w'.cell? ⟨w.heap.size + 1, 5, none⟩ = some ((.slice (some ⟨xhb, xho, none⟩) 1 xhc)) ∧ w'.cell? ⟨w.heap.size + 1, 6, none⟩ = some ((.slice (some ⟨xrb, xro, none⟩) 2 xrc)) ∧ w'.cell? ⟨R0, 0, none⟩ = some ((.slice (some ⟨xcb, xco, none⟩) 2 xcc)) ∧ w'.cell? ⟨R0, 1, none⟩ = some ((.slice (some ⟨xhb, xho, none⟩) 1 xhc)) ∧ w'.cell? ⟨R0, 2, none⟩ = some ((.slice (some ⟨xrb, xro, none⟩) 2 xrc)) ∧ w'.cell? ⟨xcb, xco, none⟩ = some (.int .i64 (nth x.p.c 0)) ∧ w'.cell? ⟨xcb, xco + 1, none⟩ = some (.int .i64 (nth x.p.c 1)) ∧ w'.cell? ⟨xhb, xho, none⟩ = some (.int .i64 (nth x.p.h 0)) ∧ w'.cell? ⟨xrb, xro, none⟩ = some (.int .i64 (nth x.p.r 0)) ∧ w'.cell? ⟨xrb, xro + 1, none⟩ = some (.int .i64 (nth x.p.r 1)) ∧ w'.cell? ⟨R1, 0, none⟩ = some (.int .i64 x.c.a) ∧ w'.cell? ⟨R1, 1, none⟩ = some (.int .i64 x.v.a)) 27 [(0, []), (1, []), (2, [0]), (3, []), (4, [0]), (5, []), (6, [1, 0]), (7, [0]), (8, [7, 5, 0]), (9, []), (10, []), (11, [0]), (12, []), (13, [1, 0]), (14, [0]), (15, []), (16, []), (17, []), (18, [0]), (19, [0]), (20, [0]), (21, [5, 4, 0]), (22, [7, 0]), (23, [13, 0]), (24, [15, 0])] [] (by kernel_rfl) (by kernel_rfl) (by kernel_rfl) rfl (fun _ _ _ _ h => h) (fun w' h => ⟨box_at c0_0 h, box_at c0_1 h, box_at c0_2 h, box_at c1_0 h, box_at c1_1 h, box_at c1_2 h, box_at c1_3 h, box_at c1_4 h, box_at c1_5 h, box_at c1_6 h, box_at p0_0 h, box_at p0_1 h, box_at p0_2 h, box_at yxc0 h, box_at yxc1 h, box_at yxh0 h, box_at yxr0 h, box_at yxr1 h, box_at p1_0 h, box_at p1_1 h⟩) ?_
                simp only [pickP, pickN, List.getElem?_cons_zero, List.getElem?_cons_succ]
                iterate 8 (refine' chainP_read _ rfl rfl (fun w' hS' => ?_) ?_; rotate_left; · (simp only [lookP, allP, Act.put, List.getElem?_cons_zero, List.getElem?_cons_succ, List.setIfInBounds_toArray, List.set_cons_zero, List.set_cons_succ]; (try dsimp only at hS'); go_simp; (try with_reducible rfl)))
                -- 8: call { callee := value (func 156), args := #[t63, t65, t70], argTypes := #[39, 3, 3] }
                refine chainP_call (d := (some 71)) (.int .i64 P1) rfl rfl (fun w' hS' => ?_) ?_
                · simp only [lookP, allP, Act.put, List.getElem?_cons_zero, List.getElem?_cons_succ, List.setIfInBounds_toArray, List.set_cons_zero, List.set_cons_succ]
                  intro K hK
                  go_simp
                  go_at_call 156
                  refine (spec_gExp gr gr.g (nth x.p.r 1) _ HG.out sgg iz1).mono ?_
                  rintro e u ⟨rfl, hq⟩
                  rw [HP1.out]
                  exact hK.out _ hq
                iterate 12 (refine' chainP_read _ rfl rfl (fun w' hS' => ?_) ?_; rotate_left; · (simp only [lookP, allP, Act.put, List.getElem?_cons_zero, List.getElem?_cons_succ, List.setIfInBounds_toArray, List.set_cons_zero, List.set_cons_succ]; (try dsimp only at hS'); go_simp; (try with_reducible rfl)))
                -- 21: call { callee := value (func 156), args := #[t78, t79, t83], argTypes := #[39, 3, 3] }
                refine chainP_call (d := (some 84)) (.int .i64 B1) rfl rfl (fun w' hS' => ?_) ?_
                · simp only [lookP, allP, Act.put, List.getElem?_cons_zero, List.getElem?_cons_succ, List.setIfInBounds_toArray, List.set_cons_zero, List.set_cons_succ]
                  intro K hK
                  go_simp
                  go_at_call 156
                  refine (spec_gExp gr x.v.a (nth x.p.h 0) _ HG.out sva ih0).mono ?_
                  rintro e u ⟨rfl, hq⟩
                  rw [show powE gr x.v.a (nth x.p.h 0) = B1 by rw [HQE.out]; exact HB1.out]
                  exact hK.out _ hq
                -- 22: buildSlice 24 2 #[(0, t77), (1, t84)]
                refine chainP_do (d := (some 85)) (fun v w => Ints w v [(nth x.p.c 1), B1]) (fun v w w' hb h => Ints.below h hb) rfl rfl (fun w' hS' => ?_) ?_
                · simp only [lookP, allP, Act.put, List.getElem?_cons_zero, List.getElem?_cons_succ, List.setIfInBounds_toArray, List.set_cons_zero, List.set_cons_succ]
                  intro K hK
                  go_simp
                  refine hK.out _ _ ((Below.refl _ _).alloc (Nat.le_refl _) _) ?_
                  exact (OwnI.lit (B := w'.heap.size) w' (Nat.le_refl _) (l := [(nth x.p.c 1), B1]) (AllI64.cons (small_64 sx1) (AllI64.cons (small_64 sB1) AllI64.nil)) rfl (by simp [maxLen]) 2 rfl).ints
                -- 23: call { callee := value (func 211), args := #[t72, t85], argTypes := #[39, 24] }
                refine chainP_call (d := (some 86)) (.int .i64 M1) rfl rfl (fun w' hS' => ?_) ?_
                · simp only [lookP, allP, Act.put, List.getElem?_cons_zero, List.getElem?_cons_succ, List.setIfInBounds_toArray, List.set_cons_zero, List.set_cons_succ]
                  intro x22 hx22
                  intro K hK
                  go_simp
                  go_at_call 211
                  refine (spec_gMul gr _ [nth x.p.c 1, B1] _ HG.out hx22 (AllSmall.cons sx1 (AllSmall.cons sB1 AllSmall.nil))).mono ?_
                  rintro e u ⟨rfl, hq⟩
                  rw [HM1.out]
                  exact hK.out _ hq
                -- 24: binOp Binneq 3 t71 t86 3
                refine' chainP_read (d := (some 87)) _ rfl rfl (fun w' hS' => ?_) ?_; rotate_left
                · simp only [lookP, allP, Act.put, List.getElem?_cons_zero, List.getElem?_cons_succ, List.setIfInBounds_toArray, List.set_cons_zero, List.set_cons_succ]
                  (try dsimp only at hS')
                  go_simp
                  (try with_reducible rfl)
                refine chainP_nil (fun u3 hS' => ?_)
                simp only [allP, Act.put, List.setIfInBounds_toArray, List.set_cons_zero, List.set_cons_succ]
                intro x22 hx22
                have hq3 := hS'.1
                clear hS'
                replace hc := Below.next hc hq3
                clear hq3 c0_0 c0_1 c0_2 c1_0 c1_1 c1_2 c1_3 c1_4 c1_5 c1_6 p0_0 p0_1 p0_2 yxc0 yxc1 yxh0 yxr0 yxr1 p1_0 p1_1
                obtain ⟨c0_0, c0_1, c0_2, c1_0, c1_1, c1_2, c1_3, c1_4, c1_5, c1_6, p0_0, p0_1, p0_2, yxc0, yxc1, yxh0, yxr0, yxr1, p1_0, p1_1⟩ := HCC.out _ hc
                go_wp2_with fail
                refine NoPanic.normal ?_
                cases hc8 : (P1 != M1) with
                | false =>
                  have HQ1 : Hid ((P1 == M1) = true) := by unfold Hid; have q := hc8; rw [bne_eq_false_iff_eq] at q; exact beq_iff_eq.2 q
                  (try (go_wp2_with fail))
                  rw [rounds_succ]
                  go_wp2_with fail
                  have HV : Hid ((.bool (vcastV gr sCast x) : Value) = .bool true) := by unfold Hid; simp [vcastV, hc1, hc2, hc3, Hhc4.out, Hhc5.out, hc6, hc7, hc8, HLxc.out, HLxh.out, HLxr.out, HE.out, HK0.out, HK1.out, HQF.out, HQ0.out, HQ1.out]
                  go_ret
                  exact ⟨congrArg Ending.returned HV.out.symm, HB.out.trans (hc.mono HB.out.size)⟩
                | true =>
                  have HQ1 : Hid ((P1 == M1) = false) := by unfold Hid; have q := hc8; rw [bne_iff_ne] at q; exact beq_eq_false_iff_ne.2 q
                  go_wp2_with fail
                  have HV : Hid ((.bool (vcastV gr sCast x) : Value) = .bool false) := by unfold Hid; simp [vcastV, hc1, hc2, hc3, Hhc4.out, Hhc5.out, hc6, hc7, hc8, HLxc.out, HLxh.out, HLxr.out, HE.out, HK0.out, HK1.out, HQF.out, HQ0.out, HQ1.out]
                  go_ret
                  exact ⟨congrArg Ending.returned HV.out.symm, HB.out.trans (hc.mono HB.out.size)⟩
              | true =>
                have HQ0 : Hid ((P0 == M0) = false) := by unfold Hid; have q := hc7; rw [bne_iff_ne] at q; exact beq_eq_false_iff_ne.2 q
                go_wp2_with fail
                have HV : Hid ((.bool (vcastV gr sCast x) : Value) = .bool false) := by unfold Hid; simp [vcastV, hc1, hc2, hc3, Hhc4.out, Hhc5.out, hc6, hc7, HLxc.out, HLxh.out, HLxr.out, HE.out, HK0.out, HK1.out, HQF.out, HQ0.out]
                go_ret
                exact ⟨congrArg Ending.returned HV.out.symm, HB.out.trans (hc.mono HB.out.size)⟩
            | true =>
              have HQF : Hid ((nth x.p.h 0 == E) = false) := by have q := hc6; rw [bne_iff_ne] at q; exact beq_eq_false_iff_ne.2 q
              go_wp2_with fail
              have HV : Hid ((.bool (vcastV gr sCast x) : Value) = .bool false) := by unfold Hid; simp [vcastV, hc1, hc2, hc3, Hhc4.out, Hhc5.out, hc6, HLxc.out, HLxh.out, HLxr.out, HE.out, HK0.out, HK1.out, HQF.out]
              go_ret
              exact ⟨congrArg Ending.returned HV.out.symm, HB.out.trans (hc.mono HB.out.size)⟩
      | true =>
        have HLxr : Hid (decide (x.p.r.length = 2) = false) := by have q := hc3; rw [bne_iff_ne] at q; exact decide_eq_false (by have := Exr.out; omega)
        try (go_wp2_with fail)
        refine wp_region_noPanic ?_
        refine wp_region_P (fun w' => w'.cell? ⟨w.heap.size, 0, none⟩ = some (.int .i64 gr.p) ∧ w'.cell? ⟨w.heap.size, 1, none⟩ = some (.int .i64 gr.q) ∧ w'.cell? ⟨w.heap.size, 2, none⟩ = some (.int .i64 gr.g) ∧ w'.cell? ⟨w.heap.size + 1, 0, none⟩ = some (.int .i64 x.c.a) ∧ w'.cell? ⟨w.heap.size + 1, 1, none⟩ = some (.int .i64 x.c.b) ∧ w'.cell? ⟨w.heap.size + 1, 2, none⟩ = some (.int .i64 x.v.a) ∧ w'.cell? ⟨w.heap.size + 1, 3, none⟩ = some (.int .i64 x.v.b) ∧ w'.cell? ⟨w.heap.size + 1, 4, none⟩ = some ((.slice (some ⟨xcb, xco, none⟩) 2 xcc)) ∧ w'.cell? ⟨w.heap.size + 1, 5, none⟩ = some ((.slice (some ⟨xhb, xho, none⟩) 1 xhc)) ∧ w'.cell? ⟨w.heap.size + 1, 6, none⟩ = some ((.slice xra xrn xrc)) ∧ w'.cell? ⟨R0, 0, none⟩ = some ((.slice (some ⟨xcb, xco, none⟩) 2 xcc)) ∧ w'.cell? ⟨R0, 1, none⟩ = some ((.slice (some ⟨xhb, xho, none⟩) 1 xhc)) ∧ w'.cell? ⟨R0, 2, none⟩ = some ((.slice xra xrn xrc)) ∧ w'.cell? ⟨xcb, xco, none⟩ = some (.int .i64 (nth x.p.c 0)) ∧ w'.cell? ⟨xcb, xco + 1, none⟩ = some (.int .i64 (nth x.p.c 1)) ∧ w'.cell? ⟨xhb, xho, none⟩ = some (.int .i64 (nth x.p.h 0))) 42 [(0, []), (1, [0]), (2, [0]), (3, [0]), (4, [0]), (5, [0]), (6, [0, 1]), (7, [0, 2]), (8, [0, 3]), (9, [4, 0]), (10, [0]), (11, [0]), (12, [0, 1]), (13, [0, 2]), (14, [0, 3]), (15, [4, 0]), (16, [0]), (17, [0]), (18, [1]), (19, [0, 2]), (20, [2, 0, 3]), (21, [0, 4]), (22, [5, 0]), (23, [0]), (24, [0]), (25, [1]), (26, [0, 2]), (27, [2, 0, 3]), (28, [0, 4]), (29, [5, 0]), (30, [0]), (31, [0]), (32, [0, 1]), (33, [0, 2]), (34, [0, 3]), (35, [4]), (36, [5]), (37, [1, 0, 6]), (38, [3, 0, 7]), (39, [8, 0])] [] (by kernel_rfl) (by kernel_rfl) (by kernel_rfl) rfl (fun _ _ _ _ h => h) (fun w' h => ⟨box_at c0_0 h, box_at c0_1 h, box_at c0_2 h, box_at c1_0 h, box_at c1_1 h, box_at c1_2 h, box_at c1_3 h, box_at c1_4 h, box_at c1_5 h, box_at c1_6 h, box_at p0_0 h, box_at p0_1 h, box_at p0_2 h, box_at yxc0 h, box_at yxc1 h, box_at yxh0 h⟩) ?_
        simp only [pickP, pickN, List.getElem?_cons_zero, List.getElem?_cons_succ]
        iterate 5 (refine' chainP_read _ rfl rfl (fun w' hS' => ?_) ?_; rotate_left; · (simp only [lookP, allP, Act.put, List.getElem?_cons_zero, List.getElem?_cons_succ, List.setIfInBounds_toArray, List.set_cons_zero, List.set_cons_succ]; (try dsimp only at hS'); go_simp; (try with_reducible rfl)))
        -- 5: fieldAddr 42 t5 1
        refine' chainP_readG (d := (some 15)) _ rfl (fun w' hS' => ?_) ?_; rotate_left
        · simp only [lookP, allP, Act.put, List.getElem?_cons_zero, List.getElem?_cons_succ, List.setIfInBounds_toArray, List.set_cons_zero, List.set_cons_succ]
          refine ⟨by kernel_rfl, ?_⟩
          (try dsimp only at hS')
          go_simp
          (try with_reducible rfl)
        -- 6: load 24 t15
        refine' chainP_readG (d := (some 16)) _ rfl (fun w' hS' => ?_) ?_; rotate_left
        · simp only [lookP, allP, Act.put, List.getElem?_cons_zero, List.getElem?_cons_succ, List.setIfInBounds_toArray, List.set_cons_zero, List.set_cons_succ]
          refine ⟨by kernel_rfl, ?_⟩
          (try dsimp only at hS')
          go_simp
          (try with_reducible rfl)
        -- 7: call { callee := builtin Builtin.len, args := #[t16], argTypes := #[24] }
        refine' chainP_readG (d := (some 17)) _ rfl (fun w' hS' => ?_) ?_; rotate_left
        · simp only [lookP, allP, Act.put, List.getElem?_cons_zero, List.getElem?_cons_succ, List.setIfInBounds_toArray, List.set_cons_zero, List.set_cons_succ]
          refine ⟨by kernel_rfl, ?_⟩
          (try dsimp only at hS')
          go_simp
          (try with_reducible rfl)
        -- 8: binOp Binneq 3 t17 (const (int i64 1)) 3
        refine' chainP_readG (d := (some 18)) _ rfl (fun w' hS' => ?_) ?_; rotate_left
        · simp only [lookP, allP, Act.put, List.getElem?_cons_zero, List.getElem?_cons_succ, List.setIfInBounds_toArray, List.set_cons_zero, List.set_cons_succ]
          refine ⟨by kernel_rfl, ?_⟩
          (try dsimp only at hS')
          go_simp
          (try with_reducible rfl)
        iterate 2 (refine' chainP_read _ rfl rfl (fun w' hS' => ?_) ?_; rotate_left; · (simp only [lookP, allP, Act.put, List.getElem?_cons_zero, List.getElem?_cons_succ, List.setIfInBounds_toArray, List.set_cons_zero, List.set_cons_succ]; (try dsimp only at hS'); go_simp; (try with_reducible rfl)))
        -- 11: fieldAddr 42 t5 2
        refine' chainP_readG (d := (some 21)) _ rfl (fun w' hS' => ?_) ?_; rotate_left
        · simp only [lookP, allP, Act.put, List.getElem?_cons_zero, List.getElem?_cons_succ, List.setIfInBounds_toArray, List.set_cons_zero, List.set_cons_succ]
          refine ⟨by kernel_rfl, ?_⟩
          (try dsimp only at hS')
          go_simp
          (try with_reducible rfl)
        -- 12: load 24 t21
        refine' chainP_readG (d := (some 22)) _ rfl (fun w' hS' => ?_) ?_; rotate_left
        · simp only [lookP, allP, Act.put, List.getElem?_cons_zero, List.getElem?_cons_succ, List.setIfInBounds_toArray, List.set_cons_zero, List.set_cons_succ]
          refine ⟨by kernel_rfl, ?_⟩
          (try dsimp only at hS')
          go_simp
          (try with_reducible rfl)
        -- 13: call { callee := builtin Builtin.len, args := #[t22], argTypes := #[24] }
        refine' chainP_readG (d := (some 23)) _ rfl (fun w' hS' => ?_) ?_; rotate_left
        · simp only [lookP, allP, Act.put, List.getElem?_cons_zero, List.getElem?_cons_succ, List.setIfInBounds_toArray, List.set_cons_zero, List.set_cons_succ]
          refine ⟨by kernel_rfl, ?_⟩
          (try dsimp only at hS')
          go_simp
          (try with_reducible rfl)
        -- 14: binOp Binneq 3 t23 (const (int i64 2)) 3
        refine' chainP_readG (d := (some 24)) _ rfl (fun w' hS' => ?_) ?_; rotate_left
        · simp only [lookP, allP, Act.put, List.getElem?_cons_zero, List.getElem?_cons_succ, List.setIfInBounds_toArray, List.set_cons_zero, List.set_cons_succ]
          refine ⟨by kernel_rfl, ?_⟩
          (try dsimp only at hS')
          go_simp
          (try with_reducible rfl)
        iterate 2 (refine' chainP_read _ rfl rfl (fun w' hS' => ?_) ?_; rotate_left; · (simp only [lookP, allP, Act.put, List.getElem?_cons_zero, List.getElem?_cons_succ, List.setIfInBounds_toArray, List.set_cons_zero, List.set_cons_succ]; (try dsimp only at hS'); go_simp; (try with_reducible rfl)))
        -- 17: load 39 t2
        refine chainP_skip (d := (some 27)) rfl (fun w' hS' => ?_) ?_
        · simp only [lookP, allP, Act.put, List.getElem?_cons_zero, List.getElem?_cons_succ, List.setIfInBounds_toArray, List.set_cons_zero, List.set_cons_succ]
          kernel_rfl
        -- 18: fieldAddr 42 t5 0
        refine chainP_skip (d := (some 28)) rfl (fun w' hS' => ?_) ?_
        · simp only [lookP, allP, Act.put, List.getElem?_cons_zero, List.getElem?_cons_succ, List.setIfInBounds_toArray, List.set_cons_zero, List.set_cons_succ]
          kernel_rfl
        -- 19: load 24 t28
        refine chainP_skip (d := (some 29)) rfl (fun w' hS' => ?_) ?_
        · simp only [lookP, allP, Act.put, List.getElem?_cons_zero, List.getElem?_cons_succ, List.setIfInBounds_toArray, List.set_cons_zero, List.set_cons_succ]
          kernel_rfl
        -- 20: call { callee := value (func 202), args := #[t27, t29], argTypes := #[39, 24] }
        refine chainP_skip (d := (some 30)) rfl (fun w' hS' => ?_) ?_
        · simp only [lookP, allP, Act.put, List.getElem?_cons_zero, List.getElem?_cons_succ, List.setIfInBounds_toArray, List.set_cons_zero, List.set_cons_succ]
          kernel_rfl
        -- 21: unOp Unnot 4 t30
        refine chainP_skip (d := (some 31)) rfl (fun w' hS' => ?_) ?_
        · simp only [lookP, allP, Act.put, List.getElem?_cons_zero, List.getElem?_cons_succ, List.setIfInBounds_toArray, List.set_cons_zero, List.set_cons_succ]
          kernel_rfl
        iterate 2 (refine' chainP_read _ rfl rfl (fun w' hS' => ?_) ?_; rotate_left; · (simp only [lookP, allP, Act.put, List.getElem?_cons_zero, List.getElem?_cons_succ, List.setIfInBounds_toArray, List.set_cons_zero, List.set_cons_succ]; (try dsimp only at hS'); go_simp; (try with_reducible rfl)))
        -- 24: load 39 t2
        refine chainP_skip (d := (some 34)) rfl (fun w' hS' => ?_) ?_
        · simp only [lookP, allP, Act.put, List.getElem?_cons_zero, List.getElem?_cons_succ, List.setIfInBounds_toArray, List.set_cons_zero, List.set_cons_succ]
          kernel_rfl
        -- 25: fieldAddr 42 t5 2
        refine chainP_skip (d := (some 35)) rfl (fun w' hS' => ?_) ?_
        · simp only [lookP, allP, Act.put, List.getElem?_cons_zero, List.getElem?_cons_succ, List.setIfInBounds_toArray, List.set_cons_zero, List.set_cons_succ]
          kernel_rfl
        -- 26: load 24 t35
        refine chainP_skip (d := (some 36)) rfl (fun w' hS' => ?_) ?_
        · simp only [lookP, allP, Act.put, List.getElem?_cons_zero, List.getElem?_cons_succ, List.setIfInBounds_toArray, List.set_cons_zero, List.set_cons_succ]
          kernel_rfl
        -- 27: call { callee := value (func 144), args := #[t34, t36], argTypes := #[39, 24] }
        refine chainP_skip (d := (some 37)) rfl (fun w' hS' => ?_) ?_
        · simp only [lookP, allP, Act.put, List.getElem?_cons_zero, List.getElem?_cons_succ, List.setIfInBounds_toArray, List.set_cons_zero, List.set_cons_succ]
          kernel_rfl
        -- 28: unOp Unnot 4 t37
        refine chainP_skip (d := (some 38)) rfl (fun w' hS' => ?_) ?_
        · simp only [lookP, allP, Act.put, List.getElem?_cons_zero, List.getElem?_cons_succ, List.setIfInBounds_toArray, List.set_cons_zero, List.set_cons_succ]
          kernel_rfl
        iterate 2 (refine' chainP_read _ rfl rfl (fun w' hS' => ?_) ?_; rotate_left; · (simp only [lookP, allP, Act.put, List.getElem?_cons_zero, List.getElem?_cons_succ, List.setIfInBounds_toArray, List.set_cons_zero, List.set_cons_succ]; (try dsimp only at hS'); go_simp; (try with_reducible rfl)))
        -- 31: fieldAddr 42 t5 1
        refine chainP_skip (d := (some 41)) rfl (fun w' hS' => ?_) ?_
        · simp only [lookP, allP, Act.put, List.getElem?_cons_zero, List.getElem?_cons_succ, List.setIfInBounds_toArray, List.set_cons_zero, List.set_cons_succ]
          kernel_rfl
        -- 32: load 24 t41
        refine chainP_skip (d := (some 42)) rfl (fun w' hS' => ?_) ?_
        · simp only [lookP, allP, Act.put, List.getElem?_cons_zero, List.getElem?_cons_succ, List.setIfInBounds_toArray, List.set_cons_zero, List.set_cons_succ]
          kernel_rfl
        -- 33: indexAddr 24 t42 (const (int i64 0))
        refine chainP_skip (d := (some 43)) rfl (fun w' hS' => ?_) ?_
        · simp only [lookP, allP, Act.put, List.getElem?_cons_zero, List.getElem?_cons_succ, List.setIfInBounds_toArray, List.set_cons_zero, List.set_cons_succ]
          kernel_rfl
        -- 34: load 3 t43
        refine chainP_skip (d := (some 44)) rfl (fun w' hS' => ?_) ?_
        · simp only [lookP, allP, Act.put, List.getElem?_cons_zero, List.getElem?_cons_succ, List.setIfInBounds_toArray, List.set_cons_zero, List.set_cons_succ]
          kernel_rfl
        -- 35: load 39 t2
        refine chainP_skip (d := (some 45)) rfl (fun w' hS' => ?_) ?_
        · simp only [lookP, allP, Act.put, List.getElem?_cons_zero, List.getElem?_cons_succ, List.setIfInBounds_toArray, List.set_cons_zero, List.set_cons_succ]
          kernel_rfl
        -- 36: load 104 t3
        refine chainP_skip (d := (some 46)) rfl (fun w' hS' => ?_) ?_
        · simp only [lookP, allP, Act.put, List.getElem?_cons_zero, List.getElem?_cons_succ, List.setIfInBounds_toArray, List.set_cons_zero, List.set_cons_succ]
          kernel_rfl
        -- 37: call { callee := value (func 276), args := #[t45, t46], argTypes := #[39, 104] }
        refine chainP_skip (d := (some 47)) rfl (fun w' hS' => ?_) ?_
        · simp only [lookP, allP, Act.put, List.getElem?_cons_zero, List.getElem?_cons_succ, List.setIfInBounds_toArray, List.set_cons_zero, List.set_cons_succ]
          kernel_rfl
        -- 38: binOp Binneq 3 t44 t47 3
        refine chainP_skip (d := (some 48)) rfl (fun w' hS' => ?_) ?_
        · simp only [lookP, allP, Act.put, List.getElem?_cons_zero, List.getElem?_cons_succ, List.setIfInBounds_toArray, List.set_cons_zero, List.set_cons_succ]
          kernel_rfl
        -- 39: pick t40 (const (bool true)) t48
        refine' chainP_read (d := (some 49)) _ rfl rfl (fun w' hS' => ?_) ?_; rotate_left
        · simp only [lookP, allP, Act.put, List.getElem?_cons_zero, List.getElem?_cons_succ, List.setIfInBounds_toArray, List.set_cons_zero, List.set_cons_succ]
          (try dsimp only at hS')
          go_simp
          (try with_reducible rfl)
        refine chainP_nil (fun u1 hS' => ?_)
        simp only [allP, Act.put, List.setIfInBounds_toArray, List.set_cons_zero, List.set_cons_succ]
        have hq1 := hS'.1
        clear hS'
        replace hc := Below.next hc hq1
        clear hq1 c0_0 c0_1 c0_2 c1_0 c1_1 c1_2 c1_3 c1_4 c1_5 c1_6 p0_0 p0_1 p0_2 yxc0 yxc1 yxh0
        obtain ⟨c0_0, c0_1, c0_2, c1_0, c1_1, c1_2, c1_3, c1_4, c1_5, c1_6, p0_0, p0_1, p0_2, yxc0, yxc1, yxh0⟩ := HCC.out _ hc
        go_wp2_with fail
        refine NoPanic.normal ?_
        go_wp2_with fail
        have HV : Hid ((.bool (vcastV gr sCast x) : Value) = .bool false) := by unfold Hid; simp [vcastV, hc1, hc2, hc3, HLxc.out, HLxh.out, HLxr.out]
        go_ret
        exact ⟨congrArg Ending.returned HV.out.symm, HB.out.trans (hc.mono HB.out.size)⟩
    | true =>
      have HLxh : Hid (decide (x.p.h.length = 1) = false) := by have q := hc2; rw [bne_iff_ne] at q; exact decide_eq_false (by have := Exh.out; omega)
      try (go_wp2_with fail)
      refine wp_region_noPanic ?_
      refine wp_region_P (fun w' => w'.cell? ⟨w.heap.size, 0, none⟩ = some (.int .i64 gr.p) ∧ w'.cell? ⟨w.heap.size, 1, none⟩ = some (.int .i64 gr.q) ∧ w'.cell? ⟨w.heap.size, 2, none⟩ = some (.int .i64 gr.g) ∧ w'.cell? ⟨w.heap.size + 1, 0, none⟩ = some (.int .i64 x.c.a) ∧ w'.cell? ⟨w.heap.size + 1, 1, none⟩ = some (.int .i64 x.c.b) ∧ w'.cell? ⟨w.heap.size + 1, 2, none⟩ = some (.int .i64 x.v.a) ∧ w'.cell? ⟨w.heap.size + 1, 3, none⟩ = some (.int .i64 x.v.b) ∧ w'.cell? ⟨w.heap.size + 1, 4, none⟩ = some ((.slice (some ⟨xcb, xco, none⟩) 2 xcc)) ∧ w'.cell? ⟨w.heap.size + 1, 5, none⟩ = some ((.slice xha xhn xhc)) ∧ w'.cell? ⟨w.heap.size + 1, 6, none⟩ = some ((.slice xra xrn xrc)) ∧ w'.cell? ⟨R0, 0, none⟩ = some ((.slice (some ⟨xcb, xco, none⟩) 2 xcc)) ∧ w'.cell? ⟨R0, 1, none⟩ = some ((.slice xha xhn xhc)) ∧ w'.cell? ⟨R0, 2, none⟩ = some ((.slice xra xrn xrc)) ∧ w'.cell? ⟨xcb, xco, none⟩ = some (.int .i64 (nth x.p.c 0)) ∧ w'.cell? ⟨xcb, xco + 1, none⟩ = some (.int .i64 (nth x.p.c 1))) 42 [(0, []), (1, [0]), (2, [0]), (3, [0]), (4, [0]), (5, [0]), (6, [0, 1]), (7, [0, 2]), (8, [0, 3]), (9, [4, 0]), (10, [0]), (11, [0]), (12, [0, 1]), (13, [0, 2]), (14, [0, 3]), (15, [4, 0]), (16, [0]), (17, [0]), (18, [1]), (19, [0, 2]), (20, [2, 0, 3]), (21, [0, 4]), (22, [5, 0]), (23, [0]), (24, [0]), (25, [1]), (26, [0, 2]), (27, [2, 0, 3]), (28, [0, 4]), (29, [5, 0]), (30, [0]), (31, [0]), (32, [0, 1]), (33, [0, 2]), (34, [0, 3]), (35, [4]), (36, [5]), (37, [1, 0, 6]), (38, [3, 0, 7]), (39, [8, 0])] [] (by kernel_rfl) (by kernel_rfl) (by kernel_rfl) rfl (fun _ _ _ _ h => h) (fun w' h => ⟨box_at c0_0 h, box_at c0_1 h, box_at c0_2 h, box_at c1_0 h, box_at c1_1 h, box_at c1_2 h, box_at c1_3 h, box_at c1_4 h, box_at c1_5 h, box_at c1_6 h, box_at p0_0 h, box_at p0_1 h, box_at p0_2 h, box_at yxc0 h, box_at yxc1 h⟩) ?_
      simp only [pickP, pickN, List.getElem?_cons_zero, List.getElem?_cons_succ]
      iterate 5 (refine' chainP_read _ rfl rfl (fun w' hS' => ?_) ?_; rotate_left; · (simp only [lookP, allP, Act.put, List.getElem?_cons_zero, List.getElem?_cons_succ, List.setIfInBounds_toArray, List.set_cons_zero, List.set_cons_succ]; (try dsimp only at hS'); go_simp; (try with_reducible rfl)))
      -- 5: fieldAddr 42 t5 1
      refine' chainP_readG (d := (some 15)) _ rfl (fun w' hS' => ?_) ?_; rotate_left
      · simp only [lookP, allP, Act.put, List.getElem?_cons_zero, List.getElem?_cons_succ, List.setIfInBounds_toArray, List.set_cons_zero, List.set_cons_succ]
        refine ⟨by kernel_rfl, ?_⟩
        (try dsimp only at hS')
        go_simp
        (try with_reducible rfl)
      -- 6: load 24 t15
      refine' chainP_readG (d := (some 16)) _ rfl (fun w' hS' => ?_) ?_; rotate_left
      · simp only [lookP, allP, Act.put, List.getElem?_cons_zero, List.getElem?_cons_succ, List.setIfInBounds_toArray, List.set_cons_zero, List.set_cons_succ]
        refine ⟨by kernel_rfl, ?_⟩
        (try dsimp only at hS')
        go_simp
        (try with_reducible rfl)
      -- 7: call { callee := builtin Builtin.len, args := #[t16], argTypes := #[24] }
      refine' chainP_readG (d := (some 17)) _ rfl (fun w' hS' => ?_) ?_; rotate_left
      · simp only [lookP, allP, Act.put, List.getElem?_cons_zero, List.getElem?_cons_succ, List.setIfInBounds_toArray, List.set_cons_zero, List.set_cons_succ]
        refine ⟨by kernel_rfl, ?_⟩
        (try dsimp only at hS')
        go_simp
        (try with_reducible rfl)
      -- 8: binOp Binneq 3 t17 (const (int i64 1)) 3
      refine' chainP_readG (d := (some 18)) _ rfl (fun w' hS' => ?_) ?_; rotate_left
      · simp only [lookP, allP, Act.put, List.getElem?_cons_zero, List.getElem?_cons_succ, List.setIfInBounds_toArray, List.set_cons_zero, List.set_cons_succ]
        refine ⟨by kernel_rfl, ?_⟩
        (try dsimp only at hS')
        go_simp
        (try with_reducible rfl)
      iterate 2 (refine' chainP_read _ rfl rfl (fun w' hS' => ?_) ?_; rotate_left; · (simp only [lookP, allP, Act.put, List.getElem?_cons_zero, List.getElem?_cons_succ, List.setIfInBounds_toArray, List.set_cons_zero, List.set_cons_succ]; (try dsimp only at hS'); go_simp; (try with_reducible rfl)))
      -- 11: fieldAddr 42 t5 2
      refine chainP_skip (d := (some 21)) rfl (fun w' hS' => ?_) ?_
      · simp only [lookP, allP, Act.put, List.getElem?_cons_zero, List.getElem?_cons_succ, List.setIfInBounds_toArray, List.set_cons_zero, List.set_cons_succ]
        kernel_rfl
      -- 12: load 24 t21
      refine chainP_skip (d := (some 22)) rfl (fun w' hS' => ?_) ?_
      · simp only [lookP, allP, Act.put, List.getElem?_cons_zero, List.getElem?_cons_succ, List.setIfInBounds_toArray, List.set_cons_zero, List.set_cons_succ]
        kernel_rfl
      -- 13: call { callee := builtin Builtin.len, args := #[t22], argTypes := #[24] }
      refine chainP_skip (d := (some 23)) rfl (fun w' hS' => ?_) ?_
      · simp only [lookP, allP, Act.put, List.getElem?_cons_zero, List.getElem?_cons_succ, List.setIfInBounds_toArray, List.set_cons_zero, List.set_cons_succ]
        kernel_rfl
      -- 14: binOp Binneq 3 t23 (const (int i64 2)) 3
      refine chainP_skip (d := (some 24)) rfl (fun w' hS' => ?_) ?_
      · simp only [lookP, allP, Act.put, List.getElem?_cons_zero, List.getElem?_cons_succ, List.setIfInBounds_toArray, List.set_cons_zero, List.set_cons_succ]
        kernel_rfl
      iterate 2 (refine' chainP_read _ rfl rfl (fun w' hS' => ?_) ?_; rotate_left; · (simp only [lookP, allP, Act.put, List.getElem?_cons_zero, List.getElem?_cons_succ, List.setIfInBounds_toArray, List.set_cons_zero, List.set_cons_succ]; (try dsimp only at hS'); go_simp; (try with_reducible rfl)))
      -- 17: load 39 t2
      refine chainP_skip (d := (some 27)) rfl (fun w' hS' => ?_) ?_
      · simp only [lookP, allP, Act.put, List.getElem?_cons_zero, List.getElem?_cons_succ, List.setIfInBounds_toArray, List.set_cons_zero, List.set_cons_succ]
        kernel_rfl
      -- 18: fieldAddr 42 t5 0
      refine chainP_skip (d := (some 28)) rfl (fun w' hS' => ?_) ?_
      · simp only [lookP, allP, Act.put, List.getElem?_cons_zero, List.getElem?_cons_succ, List.setIfInBounds_toArray, List.set_cons_zero, List.set_cons_succ]
        kernel_rfl
      -- 19: load 24 t28
      refine chainP_skip (d := (some 29)) rfl (fun w' hS' => ?_) ?_
      · simp only [lookP, allP, Act.put, List.getElem?_cons_zero, List.getElem?_cons_succ, List.setIfInBounds_toArray, List.set_cons_zero, List.set_cons_succ]
        kernel_rfl
      -- 20: call { callee := value (func 202), args := #[t27, t29], argTypes := #[39, 24] }
      refine chainP_skip (d := (some 30)) rfl (fun w' hS' => ?_) ?_
      · simp only [lookP, allP, Act.put, List.getElem?_cons_zero, List.getElem?_cons_succ, List.setIfInBounds_toArray, List.set_cons_zero, List.set_cons_succ]
        kernel_rfl
      -- 21: unOp Unnot 4 t30
      refine chainP_skip (d := (some 31)) rfl (fun w' hS' => ?_) ?_
      · simp only [lookP, allP, Act.put, List.getElem?_cons_zero, List.getElem?_cons_succ, List.setIfInBounds_toArray, List.set_cons_zero, List.set_cons_succ]
        kernel_rfl
      iterate 2 (refine' chainP_read _ rfl rfl (fun w' hS' => ?_) ?_; rotate_left; · (simp only [lookP, allP, Act.put, List.getElem?_cons_zero, List.getElem?_cons_succ, List.setIfInBounds_toArray, List.set_cons_zero, List.set_cons_succ]; (try dsimp only at hS'); go_simp; (try with_reducible rfl)))
      -- 24: load 39 t2
      refine chainP_skip (d := (some 34)) rfl (fun w' hS' => ?_) ?_
      · simp only [lookP, allP, Act.put, List.getElem?_cons_zero, List.getElem?_cons_succ, List.setIfInBounds_toArray, List.set_cons_zero, List.set_cons_succ]
        kernel_rfl
      -- 25: fieldAddr 42 t5 2
      refine chainP_skip (d := (some 35)) rfl (fun w' hS' => ?_) ?_
      · simp only [lookP, allP, Act.put, List.getElem?_cons_zero, List.getElem?_cons_succ, List.setIfInBounds_toArray, List.set_cons_zero, List.set_cons_succ]
        kernel_rfl
      -- 26: load 24 t35
      refine chainP_skip (d := (some 36)) rfl (fun w' hS' => ?_) ?_
      · simp only [lookP, allP, Act.put, List.getElem?_cons_zero, List.getElem?_cons_succ, List.setIfInBounds_toArray, List.set_cons_zero, List.set_cons_succ]
        kernel_rfl
      -- 27: call { callee := value (func 144), args := #[t34, t36], argTypes := #[39, 24] }
      refine chainP_skip (d := (some 37)) rfl (fun w' hS' => ?_) ?_
      · simp only [lookP, allP, Act.put, List.getElem?_cons_zero, List.getElem?_cons_succ, List.setIfInBounds_toArray, List.set_cons_zero, List.set_cons_succ]
        kernel_rfl
      -- 28: unOp Unnot 4 t37
      refine chainP_skip (d := (some 38)) rfl (fun w' hS' => ?_) ?_
      · simp only [lookP, allP, Act.put, List.getElem?_cons_zero, List.getElem?_cons_succ, List.setIfInBounds_toArray, List.set_cons_zero, List.set_cons_succ]
        kernel_rfl
      iterate 2 (refine' chainP_read _ rfl rfl (fun w' hS' => ?_) ?_; rotate_left; · (simp only [lookP, allP, Act.put, List.getElem?_cons_zero, List.getElem?_cons_succ, List.setIfInBounds_toArray, List.set_cons_zero, List.set_cons_succ]; (try dsimp only at hS'); go_simp; (try with_reducible rfl)))
      -- 31: fieldAddr 42 t5 1
      refine chainP_skip (d := (some 41)) rfl (fun w' hS' => ?_) ?_
      · simp only [lookP, allP, Act.put, List.getElem?_cons_zero, List.getElem?_cons_succ, List.setIfInBounds_toArray, List.set_cons_zero, List.set_cons_succ]
        kernel_rfl
      -- 32: load 24 t41
      refine chainP_skip (d := (some 42)) rfl (fun w' hS' => ?_) ?_
      · simp only [lookP, allP, Act.put, List.getElem?_cons_zero, List.getElem?_cons_succ, List.setIfInBounds_toArray, List.set_cons_zero, List.set_cons_succ]
        kernel_rfl
      -- 33: indexAddr 24 t42 (const (int i64 0))
      refine chainP_skip (d := (some 43)) rfl (fun w' hS' => ?_) ?_
      · simp only [lookP, allP, Act.put, List.getElem?_cons_zero, List.getElem?_cons_succ, List.setIfInBounds_toArray, List.set_cons_zero, List.set_cons_succ]
        kernel_rfl
      -- 34: load 3 t43
      refine chainP_skip (d := (some 44)) rfl (fun w' hS' => ?_) ?_
      · simp only [lookP, allP, Act.put, List.getElem?_cons_zero, List.getElem?_cons_succ, List.setIfInBounds_toArray, List.set_cons_zero, List.set_cons_succ]
        kernel_rfl
      -- 35: load 39 t2
      refine chainP_skip (d := (some 45)) rfl (fun w' hS' => ?_) ?_
      · simp only [lookP, allP, Act.put, List.getElem?_cons_zero, List.getElem?_cons_succ, List.setIfInBounds_toArray, List.set_cons_zero, List.set_cons_succ]
        kernel_rfl
      -- 36: load 104 t3
      refine chainP_skip (d := (some 46)) rfl (fun w' hS' => ?_) ?_
      · simp only [lookP, allP, Act.put, List.getElem?_cons_zero, List.getElem?_cons_succ, List.setIfInBounds_toArray, List.set_cons_zero, List.set_cons_succ]
        kernel_rfl
      -- 37: call { callee := value (func 276), args := #[t45, t46], argTypes := #[39, 104] }
      refine chainP_skip (d := (some 47)) rfl (fun w' hS' => ?_) ?_
      · simp only [lookP, allP, Act.put, List.getElem?_cons_zero, List.getElem?_cons_succ, List.setIfInBounds_toArray, List.set_cons_zero, List.set_cons_succ]
        kernel_rfl
      -- 38: binOp Binneq 3 t44 t47 3
      refine chainP_skip (d := (some 48)) rfl (fun w' hS' => ?_) ?_
      · simp only [lookP, allP, Act.put, List.getElem?_cons_zero, List.getElem?_cons_succ, List.setIfInBounds_toArray, List.set_cons_zero, List.set_cons_succ]
        kernel_rfl
      -- 39: pick t40 (const (bool true)) t48
      refine' chainP_read (d := (some 49)) _ rfl rfl (fun w' hS' => ?_) ?_; rotate_left
      · simp only [lookP, allP, Act.put, List.getElem?_cons_zero, List.getElem?_cons_succ, List.setIfInBounds_toArray, List.set_cons_zero, List.set_cons_succ]
        (try dsimp only at hS')
        go_simp
        (try with_reducible rfl)
      refine chainP_nil (fun u1 hS' => ?_)
      simp only [allP, Act.put, List.setIfInBounds_toArray, List.set_cons_zero, List.set_cons_succ]
      have hq1 := hS'.1
      clear hS'
      replace hc := Below.next hc hq1
      clear hq1 c0_0 c0_1 c0_2 c1_0 c1_1 c1_2 c1_3 c1_4 c1_5 c1_6 p0_0 p0_1 p0_2 yxc0 yxc1
      obtain ⟨c0_0, c0_1, c0_2, c1_0, c1_1, c1_2, c1_3, c1_4, c1_5, c1_6, p0_0, p0_1, p0_2, yxc0, yxc1⟩ := HCC.out _ hc
      go_wp2_with fail
      refine NoPanic.normal ?_
      go_wp2_with fail
      have HV : Hid ((.bool (vcastV gr sCast x) : Value) = .bool false) := by unfold Hid; simp [vcastV, hc1, hc2, HLxc.out, HLxh.out]
      go_ret
      exact ⟨congrArg Ending.returned HV.out.symm, HB.out.trans (hc.mono HB.out.size)⟩
  | true =>
    have HLxc : Hid (decide (x.p.c.length = 2) = false) := by have q := hc1; rw [bne_iff_ne] at q; exact decide_eq_false (by have := Exc.out; omega)
    try (go_wp2_with fail)
    refine wp_region_noPanic ?_
    refine wp_region_P (fun w' => w'.cell? ⟨w.heap.size, 0, none⟩ = some (.int .i64 gr.p) ∧ w'.cell? ⟨w.heap.size, 1, none⟩ = some (.int .i64 gr.q) ∧ w'.cell? ⟨w.heap.size, 2, none⟩ = some (.int .i64 gr.g) ∧ w'.cell? ⟨w.heap.size + 1, 0, none⟩ = some (.int .i64 x.c.a) ∧ w'.cell? ⟨w.heap.size + 1, 1, none⟩ = some (.int .i64 x.c.b) ∧ w'.cell? ⟨w.heap.size + 1, 2, none⟩ = some (.int .i64 x.v.a) ∧ w'.cell? ⟨w.heap.size + 1, 3, none⟩ = some (.int .i64 x.v.b) ∧ w'.cell? ⟨w.heap.size + 1, 4, none⟩ = some ((.slice xca xcn xcc)) ∧ w'.cell? ⟨w.heap.size + 1, 5, none⟩ = some ((.slice xha xhn xhc)) ∧ w'.cell? ⟨w.heap.size + 1, 6, none⟩ = some ((.slice xra xrn xrc)) ∧ w'.cell? ⟨R0, 0, none⟩ = some ((.slice xca xcn xcc)) ∧ w'.cell? ⟨R0, 1, none⟩ = some ((.slice xha xhn xhc)) ∧ w'.cell? ⟨R0, 2, none⟩ = some ((.slice xra xrn xrc))) 42 [(0, []), (1, [0]), (2, [0]), (3, [0]), (4, [0]), (5, [0]), (6, [0, 1]), (7, [0, 2]), (8, [0, 3]), (9, [4, 0]), (10, [0]), (11, [0]), (12, [0, 1]), (13, [0, 2]), (14, [0, 3]), (15, [4, 0]), (16, [0]), (17, [0]), (18, [1]), (19, [0, 2]), (20, [2, 0, 3]), (21, [0, 4]), (22, [5, 0]), (23, [0]), (24, [0]), (25, [1]), (26, [0, 2]), (27, [2, 0, 3]), (28, [0, 4]), (29, [5, 0]), (30, [0]), (31, [0]), (32, [0, 1]), (33, [0, 2]), (34, [0, 3]), (35, [4]), (36, [5]), (37, [1, 0, 6]), (38, [3, 0, 7]), (39, [8, 0])] [] (by kernel_rfl) (by kernel_rfl) (by kernel_rfl) rfl (fun _ _ _ _ h => h) (fun w' h => ⟨box_at c0_0 h, box_at c0_1 h, box_at c0_2 h, box_at c1_0 h, box_at c1_1 h, box_at c1_2 h, box_at c1_3 h, box_at c1_4 h, box_at c1_5 h, box_at c1_6 h, box_at p0_0 h, box_at p0_1 h, box_at p0_2 h⟩) ?_
    simp only [pickP, pickN, List.getElem?_cons_zero, List.getElem?_cons_succ]
    iterate 5 (refine' chainP_read _ rfl rfl (fun w' hS' => ?_) ?_; rotate_left; · (simp only [lookP, allP, Act.put, List.getElem?_cons_zero, List.getElem?_cons_succ, List.setIfInBounds_toArray, List.set_cons_zero, List.set_cons_succ]; (try dsimp only at hS'); go_simp; (try with_reducible rfl)))
    -- 5: fieldAddr 42 t5 1
    refine chainP_skip (d := (some 15)) rfl (fun w' hS' => ?_) ?_
    · simp only [lookP, allP, Act.put, List.getElem?_cons_zero, List.getElem?_cons_succ, List.setIfInBounds_toArray, List.set_cons_zero, List.set_cons_succ]
      kernel_rfl
    -- 6: load 24 t15
    refine chainP_skip (d := (some 16)) rfl (fun w' hS' => ?_) ?_
    · simp only [lookP, allP, Act.put, List.getElem?_cons_zero, List.getElem?_cons_succ, List.setIfInBounds_toArray, List.set_cons_zero, List.set_cons_succ]
      kernel_rfl
    -- 7: call { callee := builtin Builtin.len, args := #[t16], argTypes := #[24] }
    refine chainP_skip (d := (some 17)) rfl (fun w' hS' => ?_) ?_
    · simp only [lookP, allP, Act.put, List.getElem?_cons_zero, List.getElem?_cons_succ, List.setIfInBounds_toArray, List.set_cons_zero, List.set_cons_succ]
      kernel_rfl
    -- 8: binOp Binneq 3 t17 (const (int i64 1)) 3
    refine chainP_skip (d := (some 18)) rfl (fun w' hS' => ?_) ?_
    · simp only [lookP, allP, Act.put, List.getElem?_cons_zero, List.getElem?_cons_succ, List.setIfInBounds_toArray, List.set_cons_zero, List.set_cons_succ]
      kernel_rfl
    iterate 2 (refine' chainP_read _ rfl rfl (fun w' hS' => ?_) ?_; rotate_left; · (simp only [lookP, allP, Act.put, List.getElem?_cons_zero, List.getElem?_cons_succ, List.setIfInBounds_toArray, List.set_cons_zero, List.set_cons_succ]; (try dsimp only at hS'); go_simp; (try with_reducible rfl)))
    -- 11: fieldAddr 42 t5 2
    refine chainP_skip (d := (some 21)) rfl (fun w' hS' => ?_) ?_
    · simp only [lookP, allP, Act.put, List.getElem?_cons_zero, List.getElem?_cons_succ, List.setIfInBounds_toArray, List.set_cons_zero, List.set_cons_succ]
      kernel_rfl
    -- 12: load 24 t21
    refine chainP_skip (d := (some 22)) rfl (fun w' hS' => ?_) ?_
    · simp only [lookP, allP, Act.put, List.getElem?_cons_zero, List.getElem?_cons_succ, List.setIfInBounds_toArray, List.set_cons_zero, List.set_cons_succ]
      kernel_rfl
    -- 13: call { callee := builtin Builtin.len, args := #[t22], argTypes := #[24] }
    refine chainP_skip (d := (some 23)) rfl (fun w' hS' => ?_) ?_
    · simp only [lookP, allP, Act.put, List.getElem?_cons_zero, List.getElem?_cons_succ, List.setIfInBounds_toArray, List.set_cons_zero, List.set_cons_succ]
      kernel_rfl
    -- 14: binOp Binneq 3 t23 (const (int i64 2)) 3
    refine chainP_skip (d := (some 24)) rfl (fun w' hS' => ?_) ?_
    · simp only [lookP, allP, Act.put, List.getElem?_cons_zero, List.getElem?_cons_succ, List.setIfInBounds_toArray, List.set_cons_zero, List.set_cons_succ]
      kernel_rfl
    iterate 2 (refine' chainP_read _ rfl rfl (fun w' hS' => ?_) ?_; rotate_left; · (simp only [lookP, allP, Act.put, List.getElem?_cons_zero, List.getElem?_cons_succ, List.setIfInBounds_toArray, List.set_cons_zero, List.set_cons_succ]; (try dsimp only at hS'); go_simp; (try with_reducible rfl)))
    -- 17: load 39 t2
    refine chainP_skip (d := (some 27)) rfl (fun w' hS' => ?_) ?_
    · simp only [lookP, allP, Act.put, List.getElem?_cons_zero, List.getElem?_cons_succ, List.setIfInBounds_toArray, List.set_cons_zero, List.set_cons_succ]
      kernel_rfl
    -- 18: fieldAddr 42 t5 0
    refine chainP_skip (d := (some 28)) rfl (fun w' hS' => ?_) ?_
    · simp only [lookP, allP, Act.put, List.getElem?_cons_zero, List.getElem?_cons_succ, List.setIfInBounds_toArray, List.set_cons_zero, List.set_cons_succ]
      kernel_rfl
    -- 19: load 24 t28
    refine chainP_skip (d := (some 29)) rfl (fun w' hS' => ?_) ?_
    · simp only [lookP, allP, Act.put, List.getElem?_cons_zero, List.getElem?_cons_succ, List.setIfInBounds_toArray, List.set_cons_zero, List.set_cons_succ]
      kernel_rfl
    -- 20: call { callee := value (func 202), args := #[t27, t29], argTypes := #[39, 24] }
    refine chainP_skip (d := (some 30)) rfl (fun w' hS' => ?_) ?_
    · simp only [lookP, allP, Act.put, List.getElem?_cons_zero, List.getElem?_cons_succ, List.setIfInBounds_toArray, List.set_cons_zero, List.set_cons_succ]
      kernel_rfl
    -- 21: unOp Unnot 4 t30
    refine chainP_skip (d := (some 31)) rfl (fun w' hS' => ?_) ?_
    · simp only [lookP, allP, Act.put, List.getElem?_cons_zero, List.getElem?_cons_succ, List.setIfInBounds_toArray, List.set_cons_zero, List.set_cons_succ]
      kernel_rfl
    iterate 2 (refine' chainP_read _ rfl rfl (fun w' hS' => ?_) ?_; rotate_left; · (simp only [lookP, allP, Act.put, List.getElem?_cons_zero, List.getElem?_cons_succ, List.setIfInBounds_toArray, List.set_cons_zero, List.set_cons_succ]; (try dsimp only at hS'); go_simp; (try with_reducible rfl)))
    -- 24: load 39 t2
    refine chainP_skip (d := (some 34)) rfl (fun w' hS' => ?_) ?_
    · simp only [lookP, allP, Act.put, List.getElem?_cons_zero, List.getElem?_cons_succ, List.setIfInBounds_toArray, List.set_cons_zero, List.set_cons_succ]
      kernel_rfl
    -- 25: fieldAddr 42 t5 2
    refine chainP_skip (d := (some 35)) rfl (fun w' hS' => ?_) ?_
    · simp only [lookP, allP, Act.put, List.getElem?_cons_zero, List.getElem?_cons_succ, List.setIfInBounds_toArray, List.set_cons_zero, List.set_cons_succ]
      kernel_rfl
    -- 26: load 24 t35
    refine chainP_skip (d := (some 36)) rfl (fun w' hS' => ?_) ?_
    · simp only [lookP, allP, Act.put, List.getElem?_cons_zero, List.getElem?_cons_succ, List.setIfInBounds_toArray, List.set_cons_zero, List.set_cons_succ]
      kernel_rfl
    -- 27: call { callee := value (func 144), args := #[t34, t36], argTypes := #[39, 24] }
    refine chainP_skip (d := (some 37)) rfl (fun w' hS' => ?_) ?_
    · simp only [lookP, allP, Act.put, List.getElem?_cons_zero, List.getElem?_cons_succ, List.setIfInBounds_toArray, List.set_cons_zero, List.set_cons_succ]
      kernel_rfl
    -- 28: unOp Unnot 4 t37
    refine chainP_skip (d := (some 38)) rfl (fun w' hS' => ?_) ?_
    · simp only [lookP, allP, Act.put, List.getElem?_cons_zero, List.getElem?_cons_succ, List.setIfInBounds_toArray, List.set_cons_zero, List.set_cons_succ]
      kernel_rfl
    iterate 2 (refine' chainP_read _ rfl rfl (fun w' hS' => ?_) ?_; rotate_left; · (simp only [lookP, allP, Act.put, List.getElem?_cons_zero, List.getElem?_cons_succ, List.setIfInBounds_toArray, List.set_cons_zero, List.set_cons_succ]; (try dsimp only at hS'); go_simp; (try with_reducible rfl)))
    -- 31: fieldAddr 42 t5 1
    refine chainP_skip (d := (some 41)) rfl (fun w' hS' => ?_) ?_
    · simp only [lookP, allP, Act.put, List.getElem?_cons_zero, List.getElem?_cons_succ, List.setIfInBounds_toArray, List.set_cons_zero, List.set_cons_succ]
      kernel_rfl
    -- 32: load 24 t41
    refine chainP_skip (d := (some 42)) rfl (fun w' hS' => ?_) ?_
    · simp only [lookP, allP, Act.put, List.getElem?_cons_zero, List.getElem?_cons_succ, List.setIfInBounds_toArray, List.set_cons_zero, List.set_cons_succ]
      kernel_rfl
    -- 33: indexAddr 24 t42 (const (int i64 0))
    refine chainP_skip (d := (some 43)) rfl (fun w' hS' => ?_) ?_
    · simp only [lookP, allP, Act.put, List.getElem?_cons_zero, List.getElem?_cons_succ, List.setIfInBounds_toArray, List.set_cons_zero, List.set_cons_succ]
      kernel_rfl
    -- 34: load 3 t43
    refine chainP_skip (d := (some 44)) rfl (fun w' hS' => ?_) ?_
    · simp only [lookP, allP, Act.put, List.getElem?_cons_zero, List.getElem?_cons_succ, List.setIfInBounds_toArray, List.set_cons_zero, List.set_cons_succ]
      kernel_rfl
    -- 35: load 39 t2
    refine chainP_skip (d := (some 45)) rfl (fun w' hS' => ?_) ?_
    · simp only [lookP, allP, Act.put, List.getElem?_cons_zero, List.getElem?_cons_succ, List.setIfInBounds_toArray, List.set_cons_zero, List.set_cons_succ]
      kernel_rfl
    -- 36: load 104 t3
    refine chainP_skip (d := (some 46)) rfl (fun w' hS' => ?_) ?_
    · simp only [lookP, allP, Act.put, List.getElem?_cons_zero, List.getElem?_cons_succ, List.setIfInBounds_toArray, List.set_cons_zero, List.set_cons_succ]
      kernel_rfl
    -- 37: call { callee := value (func 276), args := #[t45, t46], argTypes := #[39, 104] }
    refine chainP_skip (d := (some 47)) rfl (fun w' hS' => ?_) ?_
    · simp only [lookP, allP, Act.put, List.getElem?_cons_zero, List.getElem?_cons_succ, List.setIfInBounds_toArray, List.set_cons_zero, List.set_cons_succ]
      kernel_rfl
    -- 38: binOp Binneq 3 t44 t47 3
    refine chainP_skip (d := (some 48)) rfl (fun w' hS' => ?_) ?_
    · simp only [lookP, allP, Act.put, List.getElem?_cons_zero, List.getElem?_cons_succ, List.setIfInBounds_toArray, List.set_cons_zero, List.set_cons_succ]
      kernel_rfl
    -- 39: pick t40 (const (bool true)) t48
    refine' chainP_read (d := (some 49)) _ rfl rfl (fun w' hS' => ?_) ?_; rotate_left
    · simp only [lookP, allP, Act.put, List.getElem?_cons_zero, List.getElem?_cons_succ, List.setIfInBounds_toArray, List.set_cons_zero, List.set_cons_succ]
      (try dsimp only at hS')
      go_simp
      (try with_reducible rfl)
    refine chainP_nil (fun u1 hS' => ?_)
    simp only [allP, Act.put, List.setIfInBounds_toArray, List.set_cons_zero, List.set_cons_succ]
    have hq1 := hS'.1
    clear hS'
    replace hc := Below.next hc hq1
    clear hq1 c0_0 c0_1 c0_2 c1_0 c1_1 c1_2 c1_3 c1_4 c1_5 c1_6 p0_0 p0_1 p0_2
    obtain ⟨c0_0, c0_1, c0_2, c1_0, c1_1, c1_2, c1_3, c1_4, c1_5, c1_6, p0_0, p0_1, p0_2⟩ := HCC.out _ hc
    go_wp2_with fail
    refine NoPanic.normal ?_
    go_wp2_with fail
    have HV : Hid ((.bool (vcastV gr sCast x) : Value) = .bool false) := by unfold Hid; simp [vcastV, hc1, HLxc.out]
    go_ret
    exact ⟨congrArg Ending.returned HV.out.symm, HB.out.trans (hc.mono HB.out.size)⟩
end Go.Proofs.Ytboahnklilmdpaa
