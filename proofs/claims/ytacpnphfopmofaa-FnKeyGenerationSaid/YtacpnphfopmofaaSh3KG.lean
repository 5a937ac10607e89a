/- Lists of dealings: the tests (printed by gen_sh3.py). -/
import Derived.Test.YtacpnphfopmofaaSh2KG
namespace Go.Proofs.Ytacpnphfopmofaa
open Go.RowKit
set_option linter.unusedSimpArgs false
set_option linter.unusedVariables false

theorem alB_not {gr : GroupD} {l : List DealingD} {d : DealingD} (hd : d ∈ l) (h : (deB gr d && smB d (hdD l)) = false) : alB gr l = false := by
  unfold alB
  have : (l.all fun d => deB gr d && smB d (hdD l)) = false := by rw [List.all_eq_false]; exact ⟨d, hd, by rw [h]; simp⟩
  rw [this, Bool.and_false]
set_option maxRecDepth 100000 in
set_option maxHeartbeats 4000000 in
theorem spec_sAlike (gr : GroupD) (v : Value) (l : List DealingD) (w : World) (hg : OkG gr) (h : RdR rDealing w v l) :
    Calls Try.prog 203 #[.agg #[.int .i64 gr.p, .int .i64 gr.q, .int .i64 gr.g], v] w fun e w' => e = .returned (.bool (alB gr l)) ∧ Below w.heap.size w w' := by
  have HG := Lib.hid hg; clear hg
  obtain ⟨a, n, c, rfl⟩ := h.shape
  have e := h.len
  obtain ⟨k1', k2'⟩ := h.capMax
  unfold maxLen at k2'
  have HE := Lib.hid e
  have H := Lib.hid h; clear h e
  obtain ⟨W, hW⟩ : ∃ W, W = w.alloc (.cells #[.int .i64 gr.p, .int .i64 gr.q, .int .i64 gr.g] 24) := ⟨_, rfl⟩
  have HB : Hid (Below w.heap.size w W) := by unfold Hid; rw [hW]; (repeat (first | exact Below.refl _ _ | assumption | refine Below.drew ?_ | refine Below.alloc ?_ (by first | (simp; done) | (simp; omega)) _ | refine Below.setCell ?_ (by first | (simp; done) | (simp; omega)) _))
  have HX : Hid (BoxN W w.heap.size 24 [.int .i64 gr.p, .int .i64 gr.q, .int .i64 gr.g]) := by unfold Hid; rw [hW]; exact BoxN.new w _ _
  by_cases hn : 1 ≤ n ∧ n ≤ 7
  · have H1 : Hid (decide ((1 : Int) ≤ (n : Int) ∧ (n : Int) ≤ 7) = true) := decide_eq_true (by omega)
    have H2 : Hid (decide ((1 : Int) ≤ (l.length : Int) ∧ (l.length : Int) ≤ 7) = true) := by unfold Hid; rw [HE.out]; exact H1.out
    have hl0 : 0 < l.length := by rw [HE.out]; omega
    have HHD := Lib.hid (hdD_eq hl0)
    obtain ⟨b, o, a0, n0, c0, a1, n1, c1, e, x0, x1, f0, f1⟩ := RdDl.first H.out hl0
    cases e
    have HL0 : Hid ((hdD l).c.length = n0) := by unfold Hid; rw [HHD.out]; exact f0.len
    have HL1 : Hid ((hdD l).s.length = n1) := by unfold Hid; rw [HHD.out]; exact f1.len
    have X0 := Lib.hid (box_at x0 HB.out)
    have X1 := Lib.hid (box_at x1 HB.out)
    clear x0 x1 f0 f1 hl0 HHD
    go_enter Try.func203, Try.ntmps203
    go_wp2_with fail
    rw [← hW]
    clear hW
    refine (spec_l1In _ _ _ _).mono ?_
    rintro ee w1 ⟨rfl, rfl⟩
    rw [H1.out]
    go_wp2_with fail
    go_loopg [13] n (fun gk iv wr => ∃ k : Nat, k + gk = n ∧ iv = .int .i64 (k : Int) ∧ Hid ((l.take k).all (fun d => deB gr d && smB d (hdD l)) = true) ∧ Below W.heap.size W wr)
    case atStart => exact ⟨0, by omega, rfl, rfl, Below.refl _ _⟩
    case round =>
      obtain ⟨k, hkg, rfl, HALL, hbr⟩ := hrel
      have HBR := Lib.hid hbr
      have hgl : k < n → n - (k + 1) < gk := by omega
      have HKG := Lib.hid hkg
      clear hkg hbr
      by_cases hlt : k < n
      · have hwk : IntKind.i64.wrap ((k : Int) + 1) = (k : Int) + 1 := IntWalk.i64_in _ (by omega)
        have HK : Hid (k < l.length) := by unfold Hid; rw [HE.out]; exact hlt
        have HT := Lib.hid (List.take_succ_eq_append_getElem HK.out)
        have HM := Lib.hid (List.getElem_mem HK.out)
        obtain ⟨b2, o2, p0, m0, k0, p1, m1, k1, e, y0, y1, f0, f1⟩ := RdDl.get H.out HK.out
        cases e
        generalize l[k]'HK.out = d at f0 f1 HT HM
        have HM0 : Hid (d.c.length = m0) := f0.len
        have HM1 : Hid (d.s.length = m1) := f1.len
        have y0 := box_at (box_at y0 HB.out) HBR.out
        have y1 := box_at (box_at y1 HB.out) HBR.out
        have hbW := HB.out.trans (HBR.out.mono HB.out.size)
        obtain ⟨V, hV⟩ : ∃ V, V = wr.alloc (.cells #[.slice p0 m0 k0, .slice p1 m1 k1] 57) := ⟨_, rfl⟩
        have hbV : Below wr.heap.size wr V := by rw [hV]; exact (Below.refl _ _).alloc (Nat.le_refl _) _
        have HZ : Hid (BoxN V wr.heap.size 57 [.slice p0 m0 k0, .slice p1 m1 k1]) := by unfold Hid; rw [hV]; exact BoxN.new wr _ _
        have HDl : Hid (DlR V (.agg #[.slice p0 m0 k0, .slice p1 m1 k1]) d) := DlR.mk ((f0.below hbW).below hbV) ((f1.below hbW).below hbV)
        have HBV : Hid (Below W.heap.size W V) := Below.next HBR.out hbV
        have kk0 : (0 : Int) ≤ (k : Int) := by omega
        have kk1 : (k : Int) < (n : Int) := by omega
        have hly := World.block_lt_of_cell? wr _ y0
        go_wp2_with fail
        rw [← hV]
        clear hV y0 y1 f0 f1 hbW kk0 kk1
        have c0_0 := (HX.out.below HBV.out).cell (i := 0) rfl
        have c0_1 := (HX.out.below HBV.out).cell (i := 1) rfl
        have c0_2 := (HX.out.below HBV.out).cell (i := 2) rfl
        have d0 := HZ.out.cell (i := 0) rfl
        have d1 := HZ.out.cell (i := 1) rfl
        have h0 := box_at X0.out HBV.out
        have h1 := box_at X1.out HBV.out
        have hk0 : 0 < n := by omega
        have hc : Below V.heap.size V V := Below.refl _ _
        clear hbV hly
        cases hqd : deB gr d with
        | false =>
          have HQD := Lib.hid hqd
          clear hqd
          try (go_wp2_with fail)
          refine wp_region_noPanic ?_
          refine wp_region_P (fun w' => w'.cell? ⟨w.heap.size, 0, none⟩ = some (.int .i64 gr.p) ∧ w'.cell? ⟨w.heap.size, 1, none⟩ = some (.int .i64 gr.q) ∧ w'.cell? ⟨w.heap.size, 2, none⟩ = some (.int .i64 gr.g) ∧ w'.cell? ⟨wr.heap.size, 0, none⟩ = some (.slice p0 m0 k0) ∧ w'.cell? ⟨wr.heap.size, 1, none⟩ = some (.slice p1 m1 k1) ∧ w'.cell? ⟨b, o, none⟩ = some (.slice a0 n0 c0) ∧ w'.cell? ⟨b, o + 1, none⟩ = some (.slice a1 n1 c1)) 28 [(0, []), (1, []), (2, [1, 0]), (3, [0]), (4, [0]), (5, [0]), (6, [0, 1]), (7, [0, 2]), (8, [3]), (9, [0, 4]), (10, [0, 5]), (11, [0, 6]), (12, [0, 7]), (13, [5, 0, 8]), (14, [9, 0]), (15, [0]), (16, [0]), (17, [0, 1]), (18, [0, 2]), (19, [3]), (20, [0, 4]), (21, [0, 5]), (22, [0, 6]), (23, [0, 7]), (24, [5, 0, 8]), (25, [9, 0])] [] (by kernel_rfl) (by kernel_rfl) (by kernel_rfl) rfl (fun _ _ _ _ h => h) (fun w' h => ⟨box_at c0_0 h, box_at c0_1 h, box_at c0_2 h, box_at d0 h, box_at d1 h, box_at h0 h, box_at h1 h⟩) ?_
          simp only [pickP, pickN, List.getElem?_cons_zero, List.getElem?_cons_succ]
          iterate 2 (refine' chainP_read _ rfl rfl (fun w' hS' => ?_) ?_; rotate_left; · (simp only [lookP, allP, Act.put, List.getElem?_cons_zero, List.getElem?_cons_succ, List.setIfInBounds_toArray, List.set_cons_zero, List.set_cons_succ]; (try dsimp only at hS'); go_simp; (try with_reducible rfl)))
          -- 2: call { callee := value (func 208), args := #[t17, t18], argTypes := #[24, 66] }
          refine chainP_call (d := (some 19)) (.bool false) rfl rfl (fun w' hS' => ?_) ?_
          · simp only [lookP, allP, Act.put, List.getElem?_cons_zero, List.getElem?_cons_succ, List.setIfInBounds_toArray, List.set_cons_zero, List.set_cons_succ]
            intro K hK
            go_simp
            go_at_call 223
            refine (spec_sDealing gr _ d _ HG.out (HDl.out.below hS'.1)).mono ?_
            rintro e u ⟨rfl, hq⟩
            rw [HQD.out]
            exact hK.out _ hq
          iterate 2 (refine' chainP_read _ rfl rfl (fun w' hS' => ?_) ?_; rotate_left; · (simp only [lookP, allP, Act.put, List.getElem?_cons_zero, List.getElem?_cons_succ, List.setIfInBounds_toArray, List.set_cons_zero, List.set_cons_succ]; (try dsimp only at hS'); go_simp; (try with_reducible rfl)))
          -- 5: fieldAddr 66 t6 0
          refine chainP_skip (d := (some 22)) rfl (fun w' hS' => ?_) ?_
          · simp only [lookP, allP, Act.put, List.getElem?_cons_zero, List.getElem?_cons_succ, List.setIfInBounds_toArray, List.set_cons_zero, List.set_cons_succ]
            kernel_rfl
          -- 6: load 43 t22
          refine chainP_skip (d := (some 23)) rfl (fun w' hS' => ?_) ?_
          · simp only [lookP, allP, Act.put, List.getElem?_cons_zero, List.getElem?_cons_succ, List.setIfInBounds_toArray, List.set_cons_zero, List.set_cons_succ]
            kernel_rfl
          -- 7: call { callee := builtin Builtin.len, args := #[t23], argTypes := #[43] }
          refine chainP_skip (d := (some 24)) rfl (fun w' hS' => ?_) ?_
          · simp only [lookP, allP, Act.put, List.getElem?_cons_zero, List.getElem?_cons_succ, List.setIfInBounds_toArray, List.set_cons_zero, List.set_cons_succ]
            kernel_rfl
          -- 8: move t1
          refine chainP_skip (d := (some 25)) rfl (fun w' hS' => ?_) ?_
          · simp only [lookP, allP, Act.put, List.getElem?_cons_zero, List.getElem?_cons_succ, List.setIfInBounds_toArray, List.set_cons_zero, List.set_cons_succ]
            kernel_rfl
          -- 9: indexAddr 62 t25 (const (int i64 0))
          refine chainP_skip (d := (some 26)) rfl (fun w' hS' => ?_) ?_
          · simp only [lookP, allP, Act.put, List.getElem?_cons_zero, List.getElem?_cons_succ, List.setIfInBounds_toArray, List.set_cons_zero, List.set_cons_succ]
            kernel_rfl
          -- 10: fieldAddr 66 t26 0
          refine chainP_skip (d := (some 27)) rfl (fun w' hS' => ?_) ?_
          · simp only [lookP, allP, Act.put, List.getElem?_cons_zero, List.getElem?_cons_succ, List.setIfInBounds_toArray, List.set_cons_zero, List.set_cons_succ]
            kernel_rfl
          -- 11: load 43 t27
          refine chainP_skip (d := (some 28)) rfl (fun w' hS' => ?_) ?_
          · simp only [lookP, allP, Act.put, List.getElem?_cons_zero, List.getElem?_cons_succ, List.setIfInBounds_toArray, List.set_cons_zero, List.set_cons_succ]
            kernel_rfl
          -- 12: call { callee := builtin Builtin.len, args := #[t28], argTypes := #[43] }
          refine chainP_skip (d := (some 29)) rfl (fun w' hS' => ?_) ?_
          · simp only [lookP, allP, Act.put, List.getElem?_cons_zero, List.getElem?_cons_succ, List.setIfInBounds_toArray, List.set_cons_zero, List.set_cons_succ]
            kernel_rfl
          -- 13: binOp Binneq 3 t24 t29 3
          refine chainP_skip (d := (some 30)) rfl (fun w' hS' => ?_) ?_
          · simp only [lookP, allP, Act.put, List.getElem?_cons_zero, List.getElem?_cons_succ, List.setIfInBounds_toArray, List.set_cons_zero, List.set_cons_succ]
            kernel_rfl
          iterate 2 (refine' chainP_read _ rfl rfl (fun w' hS' => ?_) ?_; rotate_left; · (simp only [lookP, allP, Act.put, List.getElem?_cons_zero, List.getElem?_cons_succ, List.setIfInBounds_toArray, List.set_cons_zero, List.set_cons_succ]; (try dsimp only at hS'); go_simp; (try with_reducible rfl)))
          -- 16: fieldAddr 66 t6 1
          refine chainP_skip (d := (some 33)) rfl (fun w' hS' => ?_) ?_
          · simp only [lookP, allP, Act.put, List.getElem?_cons_zero, List.getElem?_cons_succ, List.setIfInBounds_toArray, List.set_cons_zero, List.set_cons_succ]
            kernel_rfl
          -- 17: load 43 t33
          refine chainP_skip (d := (some 34)) rfl (fun w' hS' => ?_) ?_
          · simp only [lookP, allP, Act.put, List.getElem?_cons_zero, List.getElem?_cons_succ, List.setIfInBounds_toArray, List.set_cons_zero, List.set_cons_succ]
            kernel_rfl
          -- 18: call { callee := builtin Builtin.len, args := #[t34], argTypes := #[43] }
          refine chainP_skip (d := (some 35)) rfl (fun w' hS' => ?_) ?_
          · simp only [lookP, allP, Act.put, List.getElem?_cons_zero, List.getElem?_cons_succ, List.setIfInBounds_toArray, List.set_cons_zero, List.set_cons_succ]
            kernel_rfl
          -- 19: move t1
          refine chainP_skip (d := (some 36)) rfl (fun w' hS' => ?_) ?_
          · simp only [lookP, allP, Act.put, List.getElem?_cons_zero, List.getElem?_cons_succ, List.setIfInBounds_toArray, List.set_cons_zero, List.set_cons_succ]
            kernel_rfl
          -- 20: indexAddr 62 t36 (const (int i64 0))
          refine chainP_skip (d := (some 37)) rfl (fun w' hS' => ?_) ?_
          · simp only [lookP, allP, Act.put, List.getElem?_cons_zero, List.getElem?_cons_succ, List.setIfInBounds_toArray, List.set_cons_zero, List.set_cons_succ]
            kernel_rfl
          -- 21: fieldAddr 66 t37 1
          refine chainP_skip (d := (some 38)) rfl (fun w' hS' => ?_) ?_
          · simp only [lookP, allP, Act.put, List.getElem?_cons_zero, List.getElem?_cons_succ, List.setIfInBounds_toArray, List.set_cons_zero, List.set_cons_succ]
            kernel_rfl
          -- 22: load 43 t38
          refine chainP_skip (d := (some 39)) rfl (fun w' hS' => ?_) ?_
          · simp only [lookP, allP, Act.put, List.getElem?_cons_zero, List.getElem?_cons_succ, List.setIfInBounds_toArray, List.set_cons_zero, List.set_cons_succ]
            kernel_rfl
          -- 23: call { callee := builtin Builtin.len, args := #[t39], argTypes := #[43] }
          refine chainP_skip (d := (some 40)) rfl (fun w' hS' => ?_) ?_
          · simp only [lookP, allP, Act.put, List.getElem?_cons_zero, List.getElem?_cons_succ, List.setIfInBounds_toArray, List.set_cons_zero, List.set_cons_succ]
            kernel_rfl
          -- 24: binOp Binneq 3 t35 t40 3
          refine chainP_skip (d := (some 41)) rfl (fun w' hS' => ?_) ?_
          · simp only [lookP, allP, Act.put, List.getElem?_cons_zero, List.getElem?_cons_succ, List.setIfInBounds_toArray, List.set_cons_zero, List.set_cons_succ]
            kernel_rfl
          -- 25: pick t32 (const (bool true)) t41
          refine' chainP_read (d := (some 42)) _ rfl rfl (fun w' hS' => ?_) ?_; rotate_left
          · simp only [lookP, allP, Act.put, List.getElem?_cons_zero, List.getElem?_cons_succ, List.setIfInBounds_toArray, List.set_cons_zero, List.set_cons_succ]
            (try dsimp only at hS')
            go_simp
            (try with_reducible rfl)
          refine chainP_nil (fun ua hS' => ?_)
          simp only [allP, Act.put, List.setIfInBounds_toArray, List.set_cons_zero, List.set_cons_succ]
          have hq1 := hS'.1
          clear hS'
          replace hc := Below.next hc hq1
          replace c0_0 := box_at c0_0 hq1
          replace c0_1 := box_at c0_1 hq1
          replace c0_2 := box_at c0_2 hq1
          replace d0 := box_at d0 hq1
          replace d1 := box_at d1 hq1
          replace h0 := box_at h0 hq1
          replace h1 := box_at h1 hq1
          clear hq1
          go_wp2_with fail
          refine NoPanic.normal ?_
          clear c0_0 c0_1 c0_2 d0 d1 h0 h1
          go_wp2_with fail
          go_ret
          exact ⟨ret_bool (alB_not HM.out (by rw [HQD.out]; rfl)).symm, HB.out.trans (HBV.out.trans (hc.mono HBV.out.size) |>.mono HB.out.size)⟩
        | true =>
          have HQD := Lib.hid hqd
          clear hqd
          cases q2 : ((m0 : Int) != (n0 : Int)) with
          | true =>
            have HSM : Hid (smB d (hdD l) = false) := by
              unfold Hid smB
              rw [bne_iff_ne] at q2
              rw [decide_eq_false (by rw [HM0.out, HL0.out]; omega)]; rfl
            try (go_wp2_with fail)
            refine wp_region_noPanic ?_
            refine wp_region_P (fun w' => w'.cell? ⟨w.heap.size, 0, none⟩ = some (.int .i64 gr.p) ∧ w'.cell? ⟨w.heap.size, 1, none⟩ = some (.int .i64 gr.q) ∧ w'.cell? ⟨w.heap.size, 2, none⟩ = some (.int .i64 gr.g) ∧ w'.cell? ⟨wr.heap.size, 0, none⟩ = some (.slice p0 m0 k0) ∧ w'.cell? ⟨wr.heap.size, 1, none⟩ = some (.slice p1 m1 k1) ∧ w'.cell? ⟨b, o, none⟩ = some (.slice a0 n0 c0) ∧ w'.cell? ⟨b, o + 1, none⟩ = some (.slice a1 n1 c1)) 28 [(0, []), (1, []), (2, [1, 0]), (3, [0]), (4, [0]), (5, [0]), (6, [0, 1]), (7, [0, 2]), (8, [3]), (9, [0, 4]), (10, [0, 5]), (11, [0, 6]), (12, [0, 7]), (13, [5, 0, 8]), (14, [9, 0]), (15, [0]), (16, [0]), (17, [0, 1]), (18, [0, 2]), (19, [3]), (20, [0, 4]), (21, [0, 5]), (22, [0, 6]), (23, [0, 7]), (24, [5, 0, 8]), (25, [9, 0])] [] (by kernel_rfl) (by kernel_rfl) (by kernel_rfl) rfl (fun _ _ _ _ h => h) (fun w' h => ⟨box_at c0_0 h, box_at c0_1 h, box_at c0_2 h, box_at d0 h, box_at d1 h, box_at h0 h, box_at h1 h⟩) ?_
            simp only [pickP, pickN, List.getElem?_cons_zero, List.getElem?_cons_succ]
            iterate 2 (refine' chainP_read _ rfl rfl (fun w' hS' => ?_) ?_; rotate_left; · (simp only [lookP, allP, Act.put, List.getElem?_cons_zero, List.getElem?_cons_succ, List.setIfInBounds_toArray, List.set_cons_zero, List.set_cons_succ]; (try dsimp only at hS'); go_simp; (try with_reducible rfl)))
            -- 2: call { callee := value (func 208), args := #[t17, t18], argTypes := #[24, 66] }
            refine chainP_call (d := (some 19)) (.bool true) rfl rfl (fun w' hS' => ?_) ?_
            · simp only [lookP, allP, Act.put, List.getElem?_cons_zero, List.getElem?_cons_succ, List.setIfInBounds_toArray, List.set_cons_zero, List.set_cons_succ]
              intro K hK
              go_simp
              go_at_call 223
              refine (spec_sDealing gr _ d _ HG.out (HDl.out.below hS'.1)).mono ?_
              rintro e u ⟨rfl, hq⟩
              rw [HQD.out]
              exact hK.out _ hq
            iterate 2 (refine' chainP_read _ rfl rfl (fun w' hS' => ?_) ?_; rotate_left; · (simp only [lookP, allP, Act.put, List.getElem?_cons_zero, List.getElem?_cons_succ, List.setIfInBounds_toArray, List.set_cons_zero, List.set_cons_succ]; (try dsimp only at hS'); go_simp; (try with_reducible rfl)))
            -- 5: fieldAddr 66 t6 0
            refine' chainP_readG (d := (some 22)) _ rfl (fun w' hS' => ?_) ?_; rotate_left
            · simp only [lookP, allP, Act.put, List.getElem?_cons_zero, List.getElem?_cons_succ, List.setIfInBounds_toArray, List.set_cons_zero, List.set_cons_succ]
              refine ⟨by kernel_rfl, ?_⟩
              (try dsimp only at hS')
              go_simp
              (try with_reducible rfl)
            -- 6: load 43 t22
            refine' chainP_readG (d := (some 23)) _ rfl (fun w' hS' => ?_) ?_; rotate_left
            · simp only [lookP, allP, Act.put, List.getElem?_cons_zero, List.getElem?_cons_succ, List.setIfInBounds_toArray, List.set_cons_zero, List.set_cons_succ]
              refine ⟨by kernel_rfl, ?_⟩
              (try dsimp only at hS')
              go_simp
              (try with_reducible rfl)
            -- 7: call { callee := builtin Builtin.len, args := #[t23], argTypes := #[43] }
            refine' chainP_readG (d := (some 24)) _ rfl (fun w' hS' => ?_) ?_; rotate_left
            · simp only [lookP, allP, Act.put, List.getElem?_cons_zero, List.getElem?_cons_succ, List.setIfInBounds_toArray, List.set_cons_zero, List.set_cons_succ]
              refine ⟨by kernel_rfl, ?_⟩
              (try dsimp only at hS')
              go_simp
              (try with_reducible rfl)
            -- 8: move t1
            refine' chainP_readG (d := (some 25)) _ rfl (fun w' hS' => ?_) ?_; rotate_left
            · simp only [lookP, allP, Act.put, List.getElem?_cons_zero, List.getElem?_cons_succ, List.setIfInBounds_toArray, List.set_cons_zero, List.set_cons_succ]
              refine ⟨by kernel_rfl, ?_⟩
              (try dsimp only at hS')
              go_simp
              (try with_reducible rfl)
            -- 9: indexAddr 62 t25 (const (int i64 0))
            refine' chainP_readG (d := (some 26)) _ rfl (fun w' hS' => ?_) ?_; rotate_left
            · simp only [lookP, allP, Act.put, List.getElem?_cons_zero, List.getElem?_cons_succ, List.setIfInBounds_toArray, List.set_cons_zero, List.set_cons_succ]
              refine ⟨by kernel_rfl, ?_⟩
              (try dsimp only at hS')
              go_simp
              (try with_reducible rfl)
            -- 10: fieldAddr 66 t26 0
            refine' chainP_readG (d := (some 27)) _ rfl (fun w' hS' => ?_) ?_; rotate_left
            · simp only [lookP, allP, Act.put, List.getElem?_cons_zero, List.getElem?_cons_succ, List.setIfInBounds_toArray, List.set_cons_zero, List.set_cons_succ]
              refine ⟨by kernel_rfl, ?_⟩
              (try dsimp only at hS')
              go_simp
              (try with_reducible rfl)
            -- 11: load 43 t27
            refine' chainP_readG (d := (some 28)) _ rfl (fun w' hS' => ?_) ?_; rotate_left
            · simp only [lookP, allP, Act.put, List.getElem?_cons_zero, List.getElem?_cons_succ, List.setIfInBounds_toArray, List.set_cons_zero, List.set_cons_succ]
              refine ⟨by kernel_rfl, ?_⟩
              (try dsimp only at hS')
              go_simp
              (try with_reducible rfl)
            -- 12: call { callee := builtin Builtin.len, args := #[t28], argTypes := #[43] }
            refine' chainP_readG (d := (some 29)) _ rfl (fun w' hS' => ?_) ?_; rotate_left
            · simp only [lookP, allP, Act.put, List.getElem?_cons_zero, List.getElem?_cons_succ, List.setIfInBounds_toArray, List.set_cons_zero, List.set_cons_succ]
              refine ⟨by kernel_rfl, ?_⟩
              (try dsimp only at hS')
              go_simp
              (try with_reducible rfl)
            -- 13: binOp Binneq 3 t24 t29 3
            refine' chainP_readG (d := (some 30)) _ rfl (fun w' hS' => ?_) ?_; rotate_left
            · simp only [lookP, allP, Act.put, List.getElem?_cons_zero, List.getElem?_cons_succ, List.setIfInBounds_toArray, List.set_cons_zero, List.set_cons_succ]
              refine ⟨by kernel_rfl, ?_⟩
              (try dsimp only at hS')
              go_simp
              (try with_reducible rfl)
            iterate 2 (refine' chainP_read _ rfl rfl (fun w' hS' => ?_) ?_; rotate_left; · (simp only [lookP, allP, Act.put, List.getElem?_cons_zero, List.getElem?_cons_succ, List.setIfInBounds_toArray, List.set_cons_zero, List.set_cons_succ]; (try dsimp only at hS'); go_simp; (try with_reducible rfl)))
            -- 16: fieldAddr 66 t6 1
            refine chainP_skip (d := (some 33)) rfl (fun w' hS' => ?_) ?_
            · simp only [lookP, allP, Act.put, List.getElem?_cons_zero, List.getElem?_cons_succ, List.setIfInBounds_toArray, List.set_cons_zero, List.set_cons_succ]
              kernel_rfl
            -- 17: load 43 t33
            refine chainP_skip (d := (some 34)) rfl (fun w' hS' => ?_) ?_
            · simp only [lookP, allP, Act.put, List.getElem?_cons_zero, List.getElem?_cons_succ, List.setIfInBounds_toArray, List.set_cons_zero, List.set_cons_succ]
              kernel_rfl
            -- 18: call { callee := builtin Builtin.len, args := #[t34], argTypes := #[43] }
            refine chainP_skip (d := (some 35)) rfl (fun w' hS' => ?_) ?_
            · simp only [lookP, allP, Act.put, List.getElem?_cons_zero, List.getElem?_cons_succ, List.setIfInBounds_toArray, List.set_cons_zero, List.set_cons_succ]
              kernel_rfl
            -- 19: move t1
            refine chainP_skip (d := (some 36)) rfl (fun w' hS' => ?_) ?_
            · simp only [lookP, allP, Act.put, List.getElem?_cons_zero, List.getElem?_cons_succ, List.setIfInBounds_toArray, List.set_cons_zero, List.set_cons_succ]
              kernel_rfl
            -- 20: indexAddr 62 t36 (const (int i64 0))
            refine chainP_skip (d := (some 37)) rfl (fun w' hS' => ?_) ?_
            · simp only [lookP, allP, Act.put, List.getElem?_cons_zero, List.getElem?_cons_succ, List.setIfInBounds_toArray, List.set_cons_zero, List.set_cons_succ]
              kernel_rfl
            -- 21: fieldAddr 66 t37 1
            refine chainP_skip (d := (some 38)) rfl (fun w' hS' => ?_) ?_
            · simp only [lookP, allP, Act.put, List.getElem?_cons_zero, List.getElem?_cons_succ, List.setIfInBounds_toArray, List.set_cons_zero, List.set_cons_succ]
              kernel_rfl
            -- 22: load 43 t38
            refine chainP_skip (d := (some 39)) rfl (fun w' hS' => ?_) ?_
            · simp only [lookP, allP, Act.put, List.getElem?_cons_zero, List.getElem?_cons_succ, List.setIfInBounds_toArray, List.set_cons_zero, List.set_cons_succ]
              kernel_rfl
            -- 23: call { callee := builtin Builtin.len, args := #[t39], argTypes := #[43] }
            refine chainP_skip (d := (some 40)) rfl (fun w' hS' => ?_) ?_
            · simp only [lookP, allP, Act.put, List.getElem?_cons_zero, List.getElem?_cons_succ, List.setIfInBounds_toArray, List.set_cons_zero, List.set_cons_succ]
              kernel_rfl
            -- 24: binOp Binneq 3 t35 t40 3
            refine chainP_skip (d := (some 41)) rfl (fun w' hS' => ?_) ?_
            · simp only [lookP, allP, Act.put, List.getElem?_cons_zero, List.getElem?_cons_succ, List.setIfInBounds_toArray, List.set_cons_zero, List.set_cons_succ]
              kernel_rfl
            -- 25: pick t32 (const (bool true)) t41
            refine' chainP_read (d := (some 42)) _ rfl rfl (fun w' hS' => ?_) ?_; rotate_left
            · simp only [lookP, allP, Act.put, List.getElem?_cons_zero, List.getElem?_cons_succ, List.setIfInBounds_toArray, List.set_cons_zero, List.set_cons_succ]
              (try dsimp only at hS')
              go_simp
              (try with_reducible rfl)
            refine chainP_nil (fun ua hS' => ?_)
            simp only [allP, Act.put, List.setIfInBounds_toArray, List.set_cons_zero, List.set_cons_succ]
            have hq1 := hS'.1
            clear hS'
            replace hc := Below.next hc hq1
            replace c0_0 := box_at c0_0 hq1
            replace c0_1 := box_at c0_1 hq1
            replace c0_2 := box_at c0_2 hq1
            replace d0 := box_at d0 hq1
            replace d1 := box_at d1 hq1
            replace h0 := box_at h0 hq1
            replace h1 := box_at h1 hq1
            clear hq1
            go_wp2_with fail
            refine NoPanic.normal ?_
            clear c0_0 c0_1 c0_2 d0 d1 h0 h1
            go_wp2_with fail
            go_ret
            exact ⟨ret_bool (alB_not HM.out (by rw [HSM.out, Bool.and_false])).symm, HB.out.trans (HBV.out.trans (hc.mono HBV.out.size) |>.mono HB.out.size)⟩
          | false =>
            cases q3 : ((m1 : Int) != (n1 : Int)) with
            | true =>
              have HSM : Hid (smB d (hdD l) = false) := by
                unfold Hid smB
                rw [bne_iff_ne] at q3
                rw [decide_eq_false (p := d.s.length = (hdD l).s.length) (by rw [HM1.out, HL1.out]; omega), Bool.and_false]
              try (go_wp2_with fail)
              refine wp_region_noPanic ?_
              refine wp_region_P (fun w' => w'.cell? ⟨w.heap.size, 0, none⟩ = some (.int .i64 gr.p) ∧ w'.cell? ⟨w.heap.size, 1, none⟩ = some (.int .i64 gr.q) ∧ w'.cell? ⟨w.heap.size, 2, none⟩ = some (.int .i64 gr.g) ∧ w'.cell? ⟨wr.heap.size, 0, none⟩ = some (.slice p0 m0 k0) ∧ w'.cell? ⟨wr.heap.size, 1, none⟩ = some (.slice p1 m1 k1) ∧ w'.cell? ⟨b, o, none⟩ = some (.slice a0 n0 c0) ∧ w'.cell? ⟨b, o + 1, none⟩ = some (.slice a1 n1 c1)) 28 [(0, []), (1, []), (2, [1, 0]), (3, [0]), (4, [0]), (5, [0]), (6, [0, 1]), (7, [0, 2]), (8, [3]), (9, [0, 4]), (10, [0, 5]), (11, [0, 6]), (12, [0, 7]), (13, [5, 0, 8]), (14, [9, 0]), (15, [0]), (16, [0]), (17, [0, 1]), (18, [0, 2]), (19, [3]), (20, [0, 4]), (21, [0, 5]), (22, [0, 6]), (23, [0, 7]), (24, [5, 0, 8]), (25, [9, 0])] [] (by kernel_rfl) (by kernel_rfl) (by kernel_rfl) rfl (fun _ _ _ _ h => h) (fun w' h => ⟨box_at c0_0 h, box_at c0_1 h, box_at c0_2 h, box_at d0 h, box_at d1 h, box_at h0 h, box_at h1 h⟩) ?_
              simp only [pickP, pickN, List.getElem?_cons_zero, List.getElem?_cons_succ]
              iterate 2 (refine' chainP_read _ rfl rfl (fun w' hS' => ?_) ?_; rotate_left; · (simp only [lookP, allP, Act.put, List.getElem?_cons_zero, List.getElem?_cons_succ, List.setIfInBounds_toArray, List.set_cons_zero, List.set_cons_succ]; (try dsimp only at hS'); go_simp; (try with_reducible rfl)))
              -- 2: call { callee := value (func 208), args := #[t17, t18], argTypes := #[24, 66] }
              refine chainP_call (d := (some 19)) (.bool true) rfl rfl (fun w' hS' => ?_) ?_
              · simp only [lookP, allP, Act.put, List.getElem?_cons_zero, List.getElem?_cons_succ, List.setIfInBounds_toArray, List.set_cons_zero, List.set_cons_succ]
                intro K hK
                go_simp
                go_at_call 223
                refine (spec_sDealing gr _ d _ HG.out (HDl.out.below hS'.1)).mono ?_
                rintro e u ⟨rfl, hq⟩
                rw [HQD.out]
                exact hK.out _ hq
              iterate 2 (refine' chainP_read _ rfl rfl (fun w' hS' => ?_) ?_; rotate_left; · (simp only [lookP, allP, Act.put, List.getElem?_cons_zero, List.getElem?_cons_succ, List.setIfInBounds_toArray, List.set_cons_zero, List.set_cons_succ]; (try dsimp only at hS'); go_simp; (try with_reducible rfl)))
              -- 5: fieldAddr 66 t6 0
              refine' chainP_readG (d := (some 22)) _ rfl (fun w' hS' => ?_) ?_; rotate_left
              · simp only [lookP, allP, Act.put, List.getElem?_cons_zero, List.getElem?_cons_succ, List.setIfInBounds_toArray, List.set_cons_zero, List.set_cons_succ]
                refine ⟨by kernel_rfl, ?_⟩
                (try dsimp only at hS')
                go_simp
                (try with_reducible rfl)
              -- 6: load 43 t22
              refine' chainP_readG (d := (some 23)) _ rfl (fun w' hS' => ?_) ?_; rotate_left
              · simp only [lookP, allP, Act.put, List.getElem?_cons_zero, List.getElem?_cons_succ, List.setIfInBounds_toArray, List.set_cons_zero, List.set_cons_succ]
                refine ⟨by kernel_rfl, ?_⟩
                (try dsimp only at hS')
                go_simp
                (try with_reducible rfl)
              -- 7: call { callee := builtin Builtin.len, args := #[t23], argTypes := #[43] }
              refine' chainP_readG (d := (some 24)) _ rfl (fun w' hS' => ?_) ?_; rotate_left
              · simp only [lookP, allP, Act.put, List.getElem?_cons_zero, List.getElem?_cons_succ, List.setIfInBounds_toArray, List.set_cons_zero, List.set_cons_succ]
                refine ⟨by kernel_rfl, ?_⟩
                (try dsimp only at hS')
                go_simp
                (try with_reducible rfl)
              -- 8: move t1
              refine' chainP_readG (d := (some 25)) _ rfl (fun w' hS' => ?_) ?_; rotate_left
              · simp only [lookP, allP, Act.put, List.getElem?_cons_zero, List.getElem?_cons_succ, List.setIfInBounds_toArray, List.set_cons_zero, List.set_cons_succ]
                refine ⟨by kernel_rfl, ?_⟩
                (try dsimp only at hS')
                go_simp
                (try with_reducible rfl)
              -- 9: indexAddr 62 t25 (const (int i64 0))
              refine' chainP_readG (d := (some 26)) _ rfl (fun w' hS' => ?_) ?_; rotate_left
              · simp only [lookP, allP, Act.put, List.getElem?_cons_zero, List.getElem?_cons_succ, List.setIfInBounds_toArray, List.set_cons_zero, List.set_cons_succ]
                refine ⟨by kernel_rfl, ?_⟩
                (try dsimp only at hS')
                go_simp
                (try with_reducible rfl)
              -- 10: fieldAddr 66 t26 0
              refine' chainP_readG (d := (some 27)) _ rfl (fun w' hS' => ?_) ?_; rotate_left
              · simp only [lookP, allP, Act.put, List.getElem?_cons_zero, List.getElem?_cons_succ, List.setIfInBounds_toArray, List.set_cons_zero, List.set_cons_succ]
                refine ⟨by kernel_rfl, ?_⟩
                (try dsimp only at hS')
                go_simp
                (try with_reducible rfl)
              -- 11: load 43 t27
              refine' chainP_readG (d := (some 28)) _ rfl (fun w' hS' => ?_) ?_; rotate_left
              · simp only [lookP, allP, Act.put, List.getElem?_cons_zero, List.getElem?_cons_succ, List.setIfInBounds_toArray, List.set_cons_zero, List.set_cons_succ]
                refine ⟨by kernel_rfl, ?_⟩
                (try dsimp only at hS')
                go_simp
                (try with_reducible rfl)
              -- 12: call { callee := builtin Builtin.len, args := #[t28], argTypes := #[43] }
              refine' chainP_readG (d := (some 29)) _ rfl (fun w' hS' => ?_) ?_; rotate_left
              · simp only [lookP, allP, Act.put, List.getElem?_cons_zero, List.getElem?_cons_succ, List.setIfInBounds_toArray, List.set_cons_zero, List.set_cons_succ]
                refine ⟨by kernel_rfl, ?_⟩
                (try dsimp only at hS')
                go_simp
                (try with_reducible rfl)
              -- 13: binOp Binneq 3 t24 t29 3
              refine' chainP_readG (d := (some 30)) _ rfl (fun w' hS' => ?_) ?_; rotate_left
              · simp only [lookP, allP, Act.put, List.getElem?_cons_zero, List.getElem?_cons_succ, List.setIfInBounds_toArray, List.set_cons_zero, List.set_cons_succ]
                refine ⟨by kernel_rfl, ?_⟩
                (try dsimp only at hS')
                go_simp
                (try with_reducible rfl)
              iterate 2 (refine' chainP_read _ rfl rfl (fun w' hS' => ?_) ?_; rotate_left; · (simp only [lookP, allP, Act.put, List.getElem?_cons_zero, List.getElem?_cons_succ, List.setIfInBounds_toArray, List.set_cons_zero, List.set_cons_succ]; (try dsimp only at hS'); go_simp; (try with_reducible rfl)))
              -- 16: fieldAddr 66 t6 1
              refine' chainP_readG (d := (some 33)) _ rfl (fun w' hS' => ?_) ?_; rotate_left
              · simp only [lookP, allP, Act.put, List.getElem?_cons_zero, List.getElem?_cons_succ, List.setIfInBounds_toArray, List.set_cons_zero, List.set_cons_succ]
                refine ⟨by kernel_rfl, ?_⟩
                (try dsimp only at hS')
                go_simp
                (try with_reducible rfl)
              -- 17: load 43 t33
              refine' chainP_readG (d := (some 34)) _ rfl (fun w' hS' => ?_) ?_; rotate_left
              · simp only [lookP, allP, Act.put, List.getElem?_cons_zero, List.getElem?_cons_succ, List.setIfInBounds_toArray, List.set_cons_zero, List.set_cons_succ]
                refine ⟨by kernel_rfl, ?_⟩
                (try dsimp only at hS')
                go_simp
                (try with_reducible rfl)
              -- 18: call { callee := builtin Builtin.len, args := #[t34], argTypes := #[43] }
              refine' chainP_readG (d := (some 35)) _ rfl (fun w' hS' => ?_) ?_; rotate_left
              · simp only [lookP, allP, Act.put, List.getElem?_cons_zero, List.getElem?_cons_succ, List.setIfInBounds_toArray, List.set_cons_zero, List.set_cons_succ]
                refine ⟨by kernel_rfl, ?_⟩
                (try dsimp only at hS')
                go_simp
                (try with_reducible rfl)
              -- 19: move t1
              refine' chainP_readG (d := (some 36)) _ rfl (fun w' hS' => ?_) ?_; rotate_left
              · simp only [lookP, allP, Act.put, List.getElem?_cons_zero, List.getElem?_cons_succ, List.setIfInBounds_toArray, List.set_cons_zero, List.set_cons_succ]
                refine ⟨by kernel_rfl, ?_⟩
                (try dsimp only at hS')
                go_simp
                (try with_reducible rfl)
              -- 20: indexAddr 62 t36 (const (int i64 0))
              refine' chainP_readG (d := (some 37)) _ rfl (fun w' hS' => ?_) ?_; rotate_left
              · simp only [lookP, allP, Act.put, List.getElem?_cons_zero, List.getElem?_cons_succ, List.setIfInBounds_toArray, List.set_cons_zero, List.set_cons_succ]
                refine ⟨by kernel_rfl, ?_⟩
                (try dsimp only at hS')
                go_simp
                (try with_reducible rfl)
              -- 21: fieldAddr 66 t37 1
              refine' chainP_readG (d := (some 38)) _ rfl (fun w' hS' => ?_) ?_; rotate_left
              · simp only [lookP, allP, Act.put, List.getElem?_cons_zero, List.getElem?_cons_succ, List.setIfInBounds_toArray, List.set_cons_zero, List.set_cons_succ]
                refine ⟨by kernel_rfl, ?_⟩
                (try dsimp only at hS')
                go_simp
                (try with_reducible rfl)
              -- 22: load 43 t38
              refine' chainP_readG (d := (some 39)) _ rfl (fun w' hS' => ?_) ?_; rotate_left
              · simp only [lookP, allP, Act.put, List.getElem?_cons_zero, List.getElem?_cons_succ, List.setIfInBounds_toArray, List.set_cons_zero, List.set_cons_succ]
                refine ⟨by kernel_rfl, ?_⟩
                (try dsimp only at hS')
                go_simp
                (try with_reducible rfl)
              -- 23: call { callee := builtin Builtin.len, args := #[t39], argTypes := #[43] }
              refine' chainP_readG (d := (some 40)) _ rfl (fun w' hS' => ?_) ?_; rotate_left
              · simp only [lookP, allP, Act.put, List.getElem?_cons_zero, List.getElem?_cons_succ, List.setIfInBounds_toArray, List.set_cons_zero, List.set_cons_succ]
                refine ⟨by kernel_rfl, ?_⟩
                (try dsimp only at hS')
                go_simp
                (try with_reducible rfl)
              -- 24: binOp Binneq 3 t35 t40 3
              refine' chainP_readG (d := (some 41)) _ rfl (fun w' hS' => ?_) ?_; rotate_left
              · simp only [lookP, allP, Act.put, List.getElem?_cons_zero, List.getElem?_cons_succ, List.setIfInBounds_toArray, List.set_cons_zero, List.set_cons_succ]
                refine ⟨by kernel_rfl, ?_⟩
                (try dsimp only at hS')
                go_simp
                (try with_reducible rfl)
              -- 25: pick t32 (const (bool true)) t41
              refine' chainP_read (d := (some 42)) _ rfl rfl (fun w' hS' => ?_) ?_; rotate_left
              · simp only [lookP, allP, Act.put, List.getElem?_cons_zero, List.getElem?_cons_succ, List.setIfInBounds_toArray, List.set_cons_zero, List.set_cons_succ]
                (try dsimp only at hS')
                go_simp
                (try with_reducible rfl)
              refine chainP_nil (fun ua hS' => ?_)
              simp only [allP, Act.put, List.setIfInBounds_toArray, List.set_cons_zero, List.set_cons_succ]
              have hq1 := hS'.1
              clear hS'
              replace hc := Below.next hc hq1
              replace c0_0 := box_at c0_0 hq1
              replace c0_1 := box_at c0_1 hq1
              replace c0_2 := box_at c0_2 hq1
              replace d0 := box_at d0 hq1
              replace d1 := box_at d1 hq1
              replace h0 := box_at h0 hq1
              replace h1 := box_at h1 hq1
              clear hq1
              go_wp2_with fail
              refine NoPanic.normal ?_
              clear c0_0 c0_1 c0_2 d0 d1 h0 h1
              go_wp2_with fail
              go_ret
              exact ⟨ret_bool (alB_not HM.out (by rw [HSM.out, Bool.and_false])).symm, HB.out.trans (HBV.out.trans (hc.mono HBV.out.size) |>.mono HB.out.size)⟩
            | false =>
              have HSM : Hid (smB d (hdD l) = true) := by
                unfold Hid smB
                have e2 := q2
                have e3 := q3
                rw [bne_eq_false_iff_eq] at e2 e3
                rw [decide_eq_true (by rw [HM0.out, HL0.out]; omega), decide_eq_true (by rw [HM1.out, HL1.out]; omega)]; rfl
              try (go_wp2_with fail)
              refine wp_region_noPanic ?_
              refine wp_region_P (fun w' => w'.cell? ⟨w.heap.size, 0, none⟩ = some (.int .i64 gr.p) ∧ w'.cell? ⟨w.heap.size, 1, none⟩ = some (.int .i64 gr.q) ∧ w'.cell? ⟨w.heap.size, 2, none⟩ = some (.int .i64 gr.g) ∧ w'.cell? ⟨wr.heap.size, 0, none⟩ = some (.slice p0 m0 k0) ∧ w'.cell? ⟨wr.heap.size, 1, none⟩ = some (.slice p1 m1 k1) ∧ w'.cell? ⟨b, o, none⟩ = some (.slice a0 n0 c0) ∧ w'.cell? ⟨b, o + 1, none⟩ = some (.slice a1 n1 c1)) 28 [(0, []), (1, []), (2, [1, 0]), (3, [0]), (4, [0]), (5, [0]), (6, [0, 1]), (7, [0, 2]), (8, [3]), (9, [0, 4]), (10, [0, 5]), (11, [0, 6]), (12, [0, 7]), (13, [5, 0, 8]), (14, [9, 0]), (15, [0]), (16, [0]), (17, [0, 1]), (18, [0, 2]), (19, [3]), (20, [0, 4]), (21, [0, 5]), (22, [0, 6]), (23, [0, 7]), (24, [5, 0, 8]), (25, [9, 0])] [] (by kernel_rfl) (by kernel_rfl) (by kernel_rfl) rfl (fun _ _ _ _ h => h) (fun w' h => ⟨box_at c0_0 h, box_at c0_1 h, box_at c0_2 h, box_at d0 h, box_at d1 h, box_at h0 h, box_at h1 h⟩) ?_
              simp only [pickP, pickN, List.getElem?_cons_zero, List.getElem?_cons_succ]
              iterate 2 (refine' chainP_read _ rfl rfl (fun w' hS' => ?_) ?_; rotate_left; · (simp only [lookP, allP, Act.put, List.getElem?_cons_zero, List.getElem?_cons_succ, List.setIfInBounds_toArray, List.set_cons_zero, List.set_cons_succ]; (try dsimp only at hS'); go_simp; (try with_reducible rfl)))
              -- 2: call { callee := value (func 208), args := #[t17, t18], argTypes := #[24, 66] }
              refine chainP_call (d := (some 19)) (.bool true) rfl rfl (fun w' hS' => ?_) ?_
              · simp only [lookP, allP, Act.put, List.getElem?_cons_zero, List.getElem?_cons_succ, List.setIfInBounds_toArray, List.set_cons_zero, List.set_cons_succ]
                intro K hK
                go_simp
                go_at_call 223
                refine (spec_sDealing gr _ d _ HG.out (HDl.out.below hS'.1)).mono ?_
                rintro e u ⟨rfl, hq⟩
                rw [HQD.out]
                exact hK.out _ hq
              iterate 2 (refine' chainP_read _ rfl rfl (fun w' hS' => ?_) ?_; rotate_left; · (simp only [lookP, allP, Act.put, List.getElem?_cons_zero, List.getElem?_cons_succ, List.setIfInBounds_toArray, List.set_cons_zero, List.set_cons_succ]; (try dsimp only at hS'); go_simp; (try with_reducible rfl)))
              -- 5: fieldAddr 66 t6 0
              refine' chainP_readG (d := (some 22)) _ rfl (fun w' hS' => ?_) ?_; rotate_left
              · simp only [lookP, allP, Act.put, List.getElem?_cons_zero, List.getElem?_cons_succ, List.setIfInBounds_toArray, List.set_cons_zero, List.set_cons_succ]
                refine ⟨by kernel_rfl, ?_⟩
                (try dsimp only at hS')
                go_simp
                (try with_reducible rfl)
              -- 6: load 43 t22
              refine' chainP_readG (d := (some 23)) _ rfl (fun w' hS' => ?_) ?_; rotate_left
              · simp only [lookP, allP, Act.put, List.getElem?_cons_zero, List.getElem?_cons_succ, List.setIfInBounds_toArray, List.set_cons_zero, List.set_cons_succ]
                refine ⟨by kernel_rfl, ?_⟩
                (try dsimp only at hS')
                go_simp
                (try with_reducible rfl)
              -- 7: call { callee := builtin Builtin.len, args := #[t23], argTypes := #[43] }
              refine' chainP_readG (d := (some 24)) _ rfl (fun w' hS' => ?_) ?_; rotate_left
              · simp only [lookP, allP, Act.put, List.getElem?_cons_zero, List.getElem?_cons_succ, List.setIfInBounds_toArray, List.set_cons_zero, List.set_cons_succ]
                refine ⟨by kernel_rfl, ?_⟩
                (try dsimp only at hS')
                go_simp
                (try with_reducible rfl)
              -- 8: move t1
              refine' chainP_readG (d := (some 25)) _ rfl (fun w' hS' => ?_) ?_; rotate_left
              · simp only [lookP, allP, Act.put, List.getElem?_cons_zero, List.getElem?_cons_succ, List.setIfInBounds_toArray, List.set_cons_zero, List.set_cons_succ]
                refine ⟨by kernel_rfl, ?_⟩
                (try dsimp only at hS')
                go_simp
                (try with_reducible rfl)
              -- 9: indexAddr 62 t25 (const (int i64 0))
              refine' chainP_readG (d := (some 26)) _ rfl (fun w' hS' => ?_) ?_; rotate_left
              · simp only [lookP, allP, Act.put, List.getElem?_cons_zero, List.getElem?_cons_succ, List.setIfInBounds_toArray, List.set_cons_zero, List.set_cons_succ]
                refine ⟨by kernel_rfl, ?_⟩
                (try dsimp only at hS')
                go_simp
                (try with_reducible rfl)
              -- 10: fieldAddr 66 t26 0
              refine' chainP_readG (d := (some 27)) _ rfl (fun w' hS' => ?_) ?_; rotate_left
              · simp only [lookP, allP, Act.put, List.getElem?_cons_zero, List.getElem?_cons_succ, List.setIfInBounds_toArray, List.set_cons_zero, List.set_cons_succ]
                refine ⟨by kernel_rfl, ?_⟩
                (try dsimp only at hS')
                go_simp
                (try with_reducible rfl)
              -- 11: load 43 t27
              refine' chainP_readG (d := (some 28)) _ rfl (fun w' hS' => ?_) ?_; rotate_left
              · simp only [lookP, allP, Act.put, List.getElem?_cons_zero, List.getElem?_cons_succ, List.setIfInBounds_toArray, List.set_cons_zero, List.set_cons_succ]
                refine ⟨by kernel_rfl, ?_⟩
                (try dsimp only at hS')
                go_simp
                (try with_reducible rfl)
              -- 12: call { callee := builtin Builtin.len, args := #[t28], argTypes := #[43] }
              refine' chainP_readG (d := (some 29)) _ rfl (fun w' hS' => ?_) ?_; rotate_left
              · simp only [lookP, allP, Act.put, List.getElem?_cons_zero, List.getElem?_cons_succ, List.setIfInBounds_toArray, List.set_cons_zero, List.set_cons_succ]
                refine ⟨by kernel_rfl, ?_⟩
                (try dsimp only at hS')
                go_simp
                (try with_reducible rfl)
              -- 13: binOp Binneq 3 t24 t29 3
              refine' chainP_readG (d := (some 30)) _ rfl (fun w' hS' => ?_) ?_; rotate_left
              · simp only [lookP, allP, Act.put, List.getElem?_cons_zero, List.getElem?_cons_succ, List.setIfInBounds_toArray, List.set_cons_zero, List.set_cons_succ]
                refine ⟨by kernel_rfl, ?_⟩
                (try dsimp only at hS')
                go_simp
                (try with_reducible rfl)
              iterate 2 (refine' chainP_read _ rfl rfl (fun w' hS' => ?_) ?_; rotate_left; · (simp only [lookP, allP, Act.put, List.getElem?_cons_zero, List.getElem?_cons_succ, List.setIfInBounds_toArray, List.set_cons_zero, List.set_cons_succ]; (try dsimp only at hS'); go_simp; (try with_reducible rfl)))
              -- 16: fieldAddr 66 t6 1
              refine' chainP_readG (d := (some 33)) _ rfl (fun w' hS' => ?_) ?_; rotate_left
              · simp only [lookP, allP, Act.put, List.getElem?_cons_zero, List.getElem?_cons_succ, List.setIfInBounds_toArray, List.set_cons_zero, List.set_cons_succ]
                refine ⟨by kernel_rfl, ?_⟩
                (try dsimp only at hS')
                go_simp
                (try with_reducible rfl)
              -- 17: load 43 t33
              refine' chainP_readG (d := (some 34)) _ rfl (fun w' hS' => ?_) ?_; rotate_left
              · simp only [lookP, allP, Act.put, List.getElem?_cons_zero, List.getElem?_cons_succ, List.setIfInBounds_toArray, List.set_cons_zero, List.set_cons_succ]
                refine ⟨by kernel_rfl, ?_⟩
                (try dsimp only at hS')
                go_simp
                (try with_reducible rfl)
              -- 18: call { callee := builtin Builtin.len, args := #[t34], argTypes := #[43] }
              refine' chainP_readG (d := (some 35)) _ rfl (fun w' hS' => ?_) ?_; rotate_left
              · simp only [lookP, allP, Act.put, List.getElem?_cons_zero, List.getElem?_cons_succ, List.setIfInBounds_toArray, List.set_cons_zero, List.set_cons_succ]
                refine ⟨by kernel_rfl, ?_⟩
                (try dsimp only at hS')
                go_simp
                (try with_reducible rfl)
              -- 19: move t1
              refine' chainP_readG (d := (some 36)) _ rfl (fun w' hS' => ?_) ?_; rotate_left
              · simp only [lookP, allP, Act.put, List.getElem?_cons_zero, List.getElem?_cons_succ, List.setIfInBounds_toArray, List.set_cons_zero, List.set_cons_succ]
                refine ⟨by kernel_rfl, ?_⟩
                (try dsimp only at hS')
                go_simp
                (try with_reducible rfl)
              -- 20: indexAddr 62 t36 (const (int i64 0))
              refine' chainP_readG (d := (some 37)) _ rfl (fun w' hS' => ?_) ?_; rotate_left
              · simp only [lookP, allP, Act.put, List.getElem?_cons_zero, List.getElem?_cons_succ, List.setIfInBounds_toArray, List.set_cons_zero, List.set_cons_succ]
                refine ⟨by kernel_rfl, ?_⟩
                (try dsimp only at hS')
                go_simp
                (try with_reducible rfl)
              -- 21: fieldAddr 66 t37 1
              refine' chainP_readG (d := (some 38)) _ rfl (fun w' hS' => ?_) ?_; rotate_left
              · simp only [lookP, allP, Act.put, List.getElem?_cons_zero, List.getElem?_cons_succ, List.setIfInBounds_toArray, List.set_cons_zero, List.set_cons_succ]
                refine ⟨by kernel_rfl, ?_⟩
                (try dsimp only at hS')
                go_simp
                (try with_reducible rfl)
              -- 22: load 43 t38
              refine' chainP_readG (d := (some 39)) _ rfl (fun w' hS' => ?_) ?_; rotate_left
              · simp only [lookP, allP, Act.put, List.getElem?_cons_zero, List.getElem?_cons_succ, List.setIfInBounds_toArray, List.set_cons_zero, List.set_cons_succ]
                refine ⟨by kernel_rfl, ?_⟩
                (try dsimp only at hS')
                go_simp
                (try with_reducible rfl)
              -- 23: call { callee := builtin Builtin.len, args := #[t39], argTypes := #[43] }
              refine' chainP_readG (d := (some 40)) _ rfl (fun w' hS' => ?_) ?_; rotate_left
              · simp only [lookP, allP, Act.put, List.getElem?_cons_zero, List.getElem?_cons_succ, List.setIfInBounds_toArray, List.set_cons_zero, List.set_cons_succ]
                refine ⟨by kernel_rfl, ?_⟩
                (try dsimp only at hS')
                go_simp
                (try with_reducible rfl)
              -- 24: binOp Binneq 3 t35 t40 3
              refine' chainP_readG (d := (some 41)) _ rfl (fun w' hS' => ?_) ?_; rotate_left
              · simp only [lookP, allP, Act.put, List.getElem?_cons_zero, List.getElem?_cons_succ, List.setIfInBounds_toArray, List.set_cons_zero, List.set_cons_succ]
                refine ⟨by kernel_rfl, ?_⟩
                (try dsimp only at hS')
                go_simp
                (try with_reducible rfl)
              -- 25: pick t32 (const (bool true)) t41
              refine' chainP_read (d := (some 42)) _ rfl rfl (fun w' hS' => ?_) ?_; rotate_left
              · simp only [lookP, allP, Act.put, List.getElem?_cons_zero, List.getElem?_cons_succ, List.setIfInBounds_toArray, List.set_cons_zero, List.set_cons_succ]
                (try dsimp only at hS')
                go_simp
                (try with_reducible rfl)
              refine chainP_nil (fun ua hS' => ?_)
              simp only [allP, Act.put, List.setIfInBounds_toArray, List.set_cons_zero, List.set_cons_succ]
              have hq1 := hS'.1
              clear hS'
              replace hc := Below.next hc hq1
              replace c0_0 := box_at c0_0 hq1
              replace c0_1 := box_at c0_1 hq1
              replace c0_2 := box_at c0_2 hq1
              replace d0 := box_at d0 hq1
              replace d1 := box_at d1 hq1
              replace h0 := box_at h0 hq1
              replace h1 := box_at h1 hq1
              clear hq1
              go_wp2_with fail
              refine NoPanic.normal ?_
              clear c0_0 c0_1 c0_2 d0 d1 h0 h1
              go_wp2_with fail
              have HC2 := Lib.hid hc
              clear hc
              go_roundg (n - (k + 1))
              case measure => exact hgl hlt
              case rel => exact ⟨k + 1, by have := HKG.out; omega, by go_num, by unfold Hid; rw [HT.out, List.all_append, HALL.out]; simp [HQD.out, HSM.out], HBV.out.trans (HC2.out.mono HBV.out.size)⟩
      · have HAL : Hid (alB gr l = true) := by
          have := HALL.out
          rw [List.take_of_length_le (by have := HE.out; omega)] at this
          unfold Hid alB
          rw [this, H2.out]; rfl
        go_wp2_with fail
        go_ret
        exact ⟨ret_bool HAL.out.symm, HB.out.trans (HBR.out.mono HB.out.size)⟩
  · have H1 : Hid (decide ((1 : Int) ≤ (n : Int) ∧ (n : Int) ≤ 7) = false) := decide_eq_false (by omega)
    have HN : Hid (alB gr l = false) := by unfold Hid alB; rw [HE.out, H1.out]; rfl
    go_enter Try.func203, Try.ntmps203
    go_wp2_with fail
    rw [← hW]
    clear hW
    refine (spec_l1In _ _ _ _).mono ?_
    rintro ee w1 ⟨rfl, rfl⟩
    rw [H1.out]
    go_wp2_with fail
    go_ret
    exact ⟨ret_bool HN.out.symm, HB.out⟩
end Go.Proofs.Ytacpnphfopmofaa
