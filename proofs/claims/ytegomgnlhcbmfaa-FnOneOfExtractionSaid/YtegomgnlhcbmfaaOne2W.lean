/- Proofs of one of several: checks and extraction (printed by gen_one2.py). -/
import Derived.Test.YtegomgnlhcbmfaaOne1W
import Derived.Test.YtegomgnlhcbmfaaSumLW
import Derived.Test.YtegomgnlhcbmfaaKEqualLogW
import Derived.Test.YtegomgnlhcbmfaaBaW
namespace Go.Proofs.Ytegomgnlhcbmfaa
open Go.RowKit
set_option linter.unusedSimpArgs false
set_option linter.unusedVariables false

theorem range_all_succ {f : Nat → Bool} {k : Nat} (h : (List.range k).all f = true) (h2 : f k = true) : (List.range (k + 1)).all f = true := by
  rw [List.range_succ, List.all_append, h]; simp [h2]
theorem range_all_not {f : Nat → Bool} {k n : Nat} (h : k < n) (h2 : f k = false) : (List.range n).all f = false := by
  rw [List.all_eq_false]; exact ⟨k, List.mem_range.2 h, by rw [h2]; simp⟩
theorem eqAt_get {l : List EqualLogD} {k : Nat} (h : k < l.length) : eqAt l k = l[k] := by simp [eqAt, List.getD, h]
theorem stB_all {gr : GroupD} {l : List EqualLogD} (h : stB gr l = true) : l.all (eqEl gr) = true := by
  unfold stB at h; simp only [Bool.and_eq_true] at h; exact h.2
theorem bne_t {a b : Int} (h : (a != b) = true) : (a == b) = false := by simpa [bne] using h
theorem bne_f {a b : Int} (h : (a != b) = false) : (a == b) = true := by simpa [bne] using h
theorem voK_def {gr : GroupD} {l : List EqualLogD} {d : ProofD} {k m0 m1 : Nat} (hk : k < l.length) (h0 : m0 = 2 * k) (h1 : m1 = m0 + 1) : voK gr l d k = ((smX gr l[k].g1 l[k].y1 (nth d.h k) (nth d.r k) == nth d.c m0) && (smX gr l[k].g2 l[k].y2 (nth d.h k) (nth d.r k) == nth d.c m1)) := by
  subst h1; subst h0; unfold voK; rw [eqAt_get hk]
theorem fulB_parts {gr : GroupD} {l : List EqualLogD} {d : ProofD} (h : fulB gr l d = true) : d.c.length = 2 * l.length ∧ d.h.length = l.length ∧ d.r.length = l.length ∧ d.c.all (elB gr) = true ∧ d.h.all (expB gr) = true ∧ d.r.all (expB gr) = true := by
  unfold fulB vofB at h
  simp only [Bool.and_eq_true, decide_eq_true_iff] at h
  obtain ⟨⟨h1, h2, h3, h4, h5, h6⟩, _⟩ := h
  exact ⟨h1, h2, h3, h4, h5, h6⟩
theorem els_small {gr : GroupD} (hg : OkG gr) {l : List Int} (h : l.all (elB gr) = true) : AllSmall l := fun x hx => elB_small hg (List.all_eq_true.1 h x hx)
set_option maxRecDepth 100000 in
set_option maxHeartbeats 4000000 in
theorem impl_fulfils (gr : GroupD) (ev : Value) (l : List EqualLogD) (pv : Value) (d : ProofD) (w : World) (hg : OkG gr) (hl : stB gr l = true) (hev : RdR rEqualLog w ev l) (hp : PfR w pv d) :
    Calls Try.prog 115 #[.agg #[.int .i64 gr.p, .int .i64 gr.q, .int .i64 gr.g], ev, pv] w fun e w' => e = .returned (.bool (fulB gr l d)) ∧ Below w.heap.size w w' := by
  have HG := Lib.hid hg
  clear hg
  have HL := Lib.hid hl
  clear hl
  obtain ⟨eva, evn, evc, rfl⟩ := hev.shape
  have Eev := Lib.hid hev.len
  have Kev := Lib.hid hev.capMax
  have Hev := Lib.hid hev
  clear hev
  obtain ⟨xcv, xhv, xrv, rfl, hxc, hxh, hxr⟩ := hp
  obtain ⟨xca, xcn, xcc, rfl⟩ := hxc.shape
  have Exc := Lib.hid hxc.len
  have Kxc := Lib.hid hxc.capMax
  have Hxc := Lib.hid hxc
  clear hxc
  obtain ⟨xha, xhn, xhc, rfl⟩ := hxh.shape
  have Exh := Lib.hid hxh.len
  have Kxh := Lib.hid hxh.capMax
  have Hxh := Lib.hid hxh
  clear hxh
  obtain ⟨xra, xrn, xrc, rfl⟩ := hxr.shape
  have Exr := Lib.hid hxr.len
  have Kxr := Lib.hid hxr.capMax
  have Hxr := Lib.hid hxr
  clear hxr
  have hw2 : IntKind.i64.wrap (2 * (evn : Int)) = 2 * (evn : Int) := IntWalk.i64_in _ (by have := stB_len HL.out; have := Eev.out; omega)
  obtain ⟨W, hW⟩ : ∃ W, W = (w.alloc (.cells #[.int .i64 gr.p, .int .i64 gr.q, .int .i64 gr.g] 24)).alloc (.cells #[(.slice xca xcn xcc), (.slice xha xhn xhc), (.slice xra xrn xrc)] 47) := ⟨_, rfl⟩
  have HB : Hid (Below w.heap.size w W) := by unfold Hid; rw [hW]; (repeat (first | exact Below.refl _ _ | assumption | refine Below.drew ?_ | refine Below.alloc ?_ (by first | (simp; done) | (simp; omega)) _ | refine Below.setCell ?_ (by first | (simp; done) | (simp; omega)) _))
  have c0_0 : W.cell? ⟨w.heap.size, 0, none⟩ = some (.int .i64 gr.p) := by rw [hW]; simp [go_sem]
  have c0_1 : W.cell? ⟨w.heap.size, 1, none⟩ = some (.int .i64 gr.q) := by rw [hW]; simp [go_sem]
  have c0_2 : W.cell? ⟨w.heap.size, 2, none⟩ = some (.int .i64 gr.g) := by rw [hW]; simp [go_sem]
  have c1_0 : W.cell? ⟨w.heap.size + 1, 0, none⟩ = some ((.slice xca xcn xcc)) := by rw [hW]; simp [go_sem]
  have c1_1 : W.cell? ⟨w.heap.size + 1, 1, none⟩ = some ((.slice xha xhn xhc)) := by rw [hW]; simp [go_sem]
  have c1_2 : W.cell? ⟨w.heap.size + 1, 2, none⟩ = some ((.slice xra xrn xrc)) := by rw [hW]; simp [go_sem]
  have HSW : Hid (W.heap.size = w.heap.size + 2) := by unfold Hid; rw [hW]; simp
  go_enter Try.func115, Try.ntmps115
  go_upto_region 1 with fail
  rw [← hW]
  have hse : w.heap.size + 1 + 1 = W.heap.size := by have := HSW.out; omega
  (try rw [hse])
  clear hse
  clear hW
  have hc : Below W.heap.size W W := Below.refl _ _
  have HCC : Hid (∀ u, Below W.heap.size W u → u.cell? ⟨w.heap.size, 0, none⟩ = some (.int .i64 gr.p) ∧ u.cell? ⟨w.heap.size, 1, none⟩ = some (.int .i64 gr.q) ∧ u.cell? ⟨w.heap.size, 2, none⟩ = some (.int .i64 gr.g) ∧ u.cell? ⟨w.heap.size + 1, 0, none⟩ = some ((.slice xca xcn xcc)) ∧ u.cell? ⟨w.heap.size + 1, 1, none⟩ = some ((.slice xha xhn xhc)) ∧ u.cell? ⟨w.heap.size + 1, 2, none⟩ = some ((.slice xra xrn xrc))) := fun u h => ⟨box_at c0_0 h, box_at c0_1 h, box_at c0_2 h, box_at c1_0 h, box_at c1_1 h, box_at c1_2 h⟩
  cases hc1 : ((xcn : Int) != (2 * (evn : Int))) with
  | false =>
    have HLC : Hid (d.c.length = 2 * l.length) := by have q := hc1; rw [bne_eq_false_iff_eq] at q; unfold Hid; have := Exc.out; have := Eev.out; omega
    have HLCd : Hid (decide (d.c.length = 2 * l.length) = true) := decide_eq_true HLC.out
    cases hc2 : ((xhn : Int) != (evn : Int)) with
    | false =>
      have HLH : Hid (d.h.length = l.length) := by have q := hc2; rw [bne_eq_false_iff_eq] at q; unfold Hid; have := Exh.out; have := Eev.out; omega
      have HLHd : Hid (decide (d.h.length = l.length) = true) := decide_eq_true HLH.out
      cases hc3 : ((xrn : Int) != (evn : Int)) with
      | false =>
        have HLR : Hid (d.r.length = l.length) := by have q := hc3; rw [bne_eq_false_iff_eq] at q; unfold Hid; have := Exr.out; have := Eev.out; omega
        have HLRd : Hid (decide (d.r.length = l.length) = true) := decide_eq_true HLR.out
        go_wp2_with fail
        refine (impl_hasAll gr _ d.c _ HG.out (Hxc.out.below (HB.out.trans (hc.mono HB.out.size)))).mono ?_
        rintro e u1 ⟨rfl, hq1⟩
        replace hc := Below.next hc hq1
        clear hq1 c0_0 c0_1 c0_2 c1_0 c1_1 c1_2
        obtain ⟨c0_0, c0_1, c0_2, c1_0, c1_1, c1_2⟩ := HCC.out _ hc
        cases hc4 : d.c.all (elB gr) with
        | false =>
          have Hhc4 := Lib.hid hc4
          clear hc4
          go_wp2_with fail
          have HV : Hid ((.bool (fulB gr l d) : Value) = .bool false) := by unfold Hid; simp [fulB, vofB, Hhc4.out, HLCd.out, HLHd.out, HLRd.out]
          go_ret
          exact ⟨congrArg Ending.returned HV.out.symm, HB.out.trans (hc.mono HB.out.size)⟩
        | true =>
          have HAC : Hid (d.c.all (elB gr) = true) := hc4
          have Hhc4 := Lib.hid hc4
          clear hc4
          go_wp2_with fail
          refine (impl_areExps gr _ d.h _ HG.out (Hxh.out.below (HB.out.trans (hc.mono HB.out.size)))).mono ?_
          rintro e u2 ⟨rfl, hq2⟩
          replace hc := Below.next hc hq2
          clear hq2 c0_0 c0_1 c0_2 c1_0 c1_1 c1_2
          obtain ⟨c0_0, c0_1, c0_2, c1_0, c1_1, c1_2⟩ := HCC.out _ hc
          cases hc5 : d.h.all (expB gr) with
          | false =>
            have Hhc5 := Lib.hid hc5
            clear hc5
            go_wp2_with fail
            have HV : Hid ((.bool (fulB gr l d) : Value) = .bool false) := by unfold Hid; simp [fulB, vofB, Hhc4.out, Hhc5.out, HLCd.out, HLHd.out, HLRd.out]
            go_ret
            exact ⟨congrArg Ending.returned HV.out.symm, HB.out.trans (hc.mono HB.out.size)⟩
          | true =>
            have HAH0 : Hid (d.h.all (expB gr) = true) := hc5
            have Hhc5 := Lib.hid hc5
            clear hc5
            go_wp2_with fail
            refine (impl_areExps gr _ d.r _ HG.out (Hxr.out.below (HB.out.trans (hc.mono HB.out.size)))).mono ?_
            rintro e u3 ⟨rfl, hq3⟩
            replace hc := Below.next hc hq3
            clear hq3 c0_0 c0_1 c0_2 c1_0 c1_1 c1_2
            obtain ⟨c0_0, c0_1, c0_2, c1_0, c1_1, c1_2⟩ := HCC.out _ hc
            cases hc6 : d.r.all (expB gr) with
            | false =>
              have Hhc6 := Lib.hid hc6
              clear hc6
              go_wp2_with fail
              have HV : Hid ((.bool (fulB gr l d) : Value) = .bool false) := by unfold Hid; simp [fulB, vofB, Hhc4.out, Hhc5.out, Hhc6.out, HLCd.out, HLHd.out, HLRd.out]
              go_ret
              exact ⟨congrArg Ending.returned HV.out.symm, HB.out.trans (hc.mono HB.out.size)⟩
            | true =>
              have HAR0 : Hid (d.r.all (expB gr) = true) := hc6
              have Hhc6 := Lib.hid hc6
              clear hc6
              go_wp2_with fail
              have HC := Lib.hid hc
              have C0 := Lib.hid c0_0
              have C1 := Lib.hid c0_1
              have C2 := Lib.hid c0_2
              have D0 := Lib.hid c1_0
              have D1 := Lib.hid c1_1
              have D2 := Lib.hid c1_2
              clear hc c0_0 c0_1 c0_2 c1_0 c1_1 c1_2 HCC
              have HN8 := stB_len HL.out
              have HN9 : Hid (evn ≤ 8) := by unfold Hid; have := Eev.out; omega
              obtain ⟨bc, oc, rfl, hxc⟩ := Hxc.out.at_ (by have := HLC.out; have := Exc.out; omega)
              obtain ⟨bh, oh, rfl, hxh⟩ := Hxh.out.at_ (by have := HLH.out; have := Exh.out; omega)
              obtain ⟨br, od, rfl, hxr⟩ := Hxr.out.at_ (by have := HLR.out; have := Exr.out; omega)
              have Xc := Lib.hid hxc
              have Xh := Lib.hid hxh
              have Xr := Lib.hid hxr
              clear hxc hxh hxr HN8
              clear hc1
              clear hc2
              clear hc3
              have HVO : Hid (vofB gr l.length d = true) := by unfold Hid vofB; rw [HLCd.out, HLHd.out, HLRd.out, HAC.out, HAH0.out, HAR0.out]; rfl
              have HVB0 : Hid ((List.range l.length).all (voK gr l d) = false → fulB gr l d = false) := fun q => by unfold fulB; rw [q, Bool.and_false]
              have HVB1 : Hid ((List.range l.length).all (voK gr l d) = true → fulB gr l d = true) := fun q => by unfold fulB; rw [HVO.out, q]; rfl
              go_loopg [57] evn (fun gk iv wr => ∃ k : Nat, k + gk = evn ∧ iv = .int .i64 (k : Int) ∧ (List.range k).all (voK gr l d) = true ∧ Below u3.heap.size u3 wr)
              case atStart => exact ⟨0, by omega, rfl, rfl, Below.refl _ _⟩
              case round =>
                obtain ⟨k, hkg, rfl, hall, hbu⟩ := hrel
                have HALL := Lib.hid hall
                clear hall
                have HBU := Lib.hid hbu
                clear hbu
                have HBW := Lib.hid (HB.out.trans ((Below.next HC.out HBU.out).mono HB.out.size))
                have hgl : k < evn → evn - (k + 1) < gk := by omega
                have HKG := Lib.hid hkg
                clear hkg
                by_cases hlt : k < evn
                · have HK : Hid (k < l.length) := by unfold Hid; have := Eev.out; omega
                  obtain ⟨m0, hm0⟩ : ∃ m : Nat, m = 2 * k := ⟨_, rfl⟩
                  obtain ⟨m1, hm1⟩ : ∃ m : Nat, m = m0 + 1 := ⟨_, rfl⟩
                  have hwm0 : IntKind.i64.wrap (2 * (k : Int)) = (m0 : Int) := by rw [IntWalk.i64_in _ (by have := HN9.out; omega)]; omega
                  have hwm1 : IntKind.i64.wrap ((m0 : Int) + 1) = (m1 : Int) := by rw [IntWalk.i64_in _ (by have := HN9.out; omega)]; omega
                  have hwk : IntKind.i64.wrap ((k : Int) + 1) = (k : Int) + 1 := IntWalk.i64_in _ (by have := HN9.out; omega)
                  have kh := Xh.out k (by have := Exh.out; have := HLH.out; have := HK.out; omega)
                  have kr := Xr.out k (by have := Exr.out; have := HLR.out; have := HK.out; omega)
                  have kc0 := Xc.out m0 (by have := Exc.out; have := HLC.out; have := HK.out; omega)
                  have kc1 := Xc.out m1 (by have := Exc.out; have := HLC.out; have := HK.out; omega)
                  have hbm0 : (0 : Int) ≤ (m0 : Int) := by omega
                  have hbm1 : (0 : Int) ≤ (m1 : Int) := by omega
                  have hbk0 : (0 : Int) ≤ (k : Int) := by omega
                  have hbm2 : (m0 : Int) < (xcn : Int) := by have := HLC.out; have := HK.out; have := Exc.out; omega
                  have hbm3 : (m1 : Int) < (xcn : Int) := by have := HLC.out; have := HK.out; have := Exc.out; omega
                  have hbk1 : (k : Int) < (xhn : Int) := by have := HLH.out; have := HK.out; have := Exh.out; omega
                  have hbk2 : (k : Int) < (xrn : Int) := by have := HLR.out; have := HK.out; have := Exr.out; omega
                  have HAH : Hid (Small (nth d.h k)) := expB_small HG.out (exp_nth HG.out HAH0.out k)
                  have HAR : Hid (Small (nth d.r k)) := expB_small HG.out (exp_nth HG.out HAR0.out k)
                  have HA0 : Hid (Small (nth d.c m0)) := els_small HG.out HAC.out _ (nthO (by have := HLC.out; have := HK.out; omega))
                  have HA1 : Hid (Small (nth d.c m1)) := els_small HG.out HAC.out _ (nthO (by have := HLC.out; have := HK.out; omega))
                  have HZE : Hid (eqEl gr (l[k]'HK.out) = true) := List.all_eq_true.1 (stB_all HL.out) _ (List.getElem_mem HK.out)
                  have HVK := Lib.hid (voK_def (gr := gr) (d := d) HK.out hm0 hm1)
                  have HM := Lib.hid hm0
                  clear hm0 hm1
                  generalize nth d.h k = ah at kh HAH HVK
                  generalize nth d.r k = ar at kr HAR HVK
                  generalize nth d.c m0 = ac0 at kc0 HA0 HVK
                  generalize nth d.c m1 = ac1 at kc1 HA1 HVK
                  have hb0 := HBW.out
                  obtain ⟨b_z, o_z, rfl, hcx⟩ := Hev.out.at_ (by omega)
                  obtain ⟨us, hcell, hrd⟩ := hcx k HK.out
                  clear hcx
                  generalize l[k]'HK.out = z at hrd HZE HVK
                  obtain ⟨ers, jz_0, jz_1, jz_2, jz_3⟩ := rdEqualLog.1 ⟨us, rfl, hrd⟩
                  obtain rfl : us = [.int .i64 z.g1, .int .i64 z.y1, .int .i64 z.g2, .int .i64 z.y2] := by have h := Value.agg.inj ers; simpa using congrArg Array.toList h
                  clear ers hrd
                  have y_z_0 : wr.cell? ⟨b_z, o_z + k * 4, none⟩ = some (.int .i64 z.g1) := box_at (hcell 0 (by decide)) hb0
                  have y_z_1 : wr.cell? ⟨b_z, o_z + k * 4 + 1, none⟩ = some (.int .i64 z.y1) := box_at (hcell 1 (by decide)) hb0
                  have y_z_2 : wr.cell? ⟨b_z, o_z + k * 4 + 2, none⟩ = some (.int .i64 z.g2) := box_at (hcell 2 (by decide)) hb0
                  have y_z_3 : wr.cell? ⟨b_z, o_z + k * 4 + 3, none⟩ = some (.int .i64 z.y2) := box_at (hcell 3 (by decide)) hb0
                  clear hcell
                  have HR_z := Lib.hid ((kS rEqualLog).rd_below (rdEqualLog.2 ⟨rfl, jz_0, jz_1, jz_2, jz_3⟩ : (kS rEqualLog).rd w (.agg #[.int .i64 z.g1, .int .i64 z.y1, .int .i64 z.g2, .int .i64 z.y2]) z) hb0)
                  have J_z_0 := Lib.hid jz_0
                  have J_z_1 := Lib.hid jz_1
                  have J_z_2 := Lib.hid jz_2
                  have J_z_3 := Lib.hid jz_3
                  clear jz_0 jz_1 jz_2 jz_3
                  have HZS := Lib.hid (eqEl_small HG.out HZE.out)
                  obtain ⟨X1, hX1⟩ : ∃ X, smX gr z.g1 z.y1 ah ar = X := ⟨_, rfl⟩
                  obtain ⟨X2, hX2⟩ : ∃ X, smX gr z.g2 z.y2 ah ar = X := ⟨_, rfl⟩
                  have HX1 := Lib.hid hX1
                  have HX2 := Lib.hid hX2
                  replace HVK : Hid (voK gr l d k = ((X1 == ac0) && (X2 == ac1))) := by rw [← HX1.out, ← HX2.out]; exact HVK
                  clear hX1 hX2
                  clear hb0
                  have K_h := Lib.hid kh
                  have K_r := Lib.hid kr
                  have K_c0 := Lib.hid kc0
                  have K_c1 := Lib.hid kc1
                  clear kh kr kc0 kc1
                  have hly := World.block_lt_of_cell? wr _ y_z_0
                  go_wp2_with fail
                  obtain ⟨V, hV⟩ : ∃ V, V = wr.alloc (.cells #[.int .i64 z.g1, .int .i64 z.y1, .int .i64 z.g2, .int .i64 z.y2] 31) := ⟨_, rfl⟩
                  rw [← hV]
                  have HV : Hid (Below wr.heap.size wr V) := by unfold Hid; rw [hV]; exact (Below.refl _ _).alloc (Nat.le_refl _) _
                  have hsV : V.heap.size = wr.heap.size + 1 := by rw [hV]; simp
                  have x_z_0 : V.cell? ⟨wr.heap.size, 0, none⟩ = some (.int .i64 z.g1) := by rw [hV]; simp [go_sem]
                  have x_z_1 : V.cell? ⟨wr.heap.size, 1, none⟩ = some (.int .i64 z.y1) := by rw [hV]; simp [go_sem]
                  have x_z_2 : V.cell? ⟨wr.heap.size, 2, none⟩ = some (.int .i64 z.g2) := by rw [hV]; simp [go_sem]
                  have x_z_3 : V.cell? ⟨wr.heap.size, 3, none⟩ = some (.int .i64 z.y2) := by rw [hV]; simp [go_sem]
                  have HRV_z := Lib.hid ((kS rEqualLog).rd_below HR_z.out HV.out)
                  clear hV
                  have HBV := Lib.hid (Below.next HBU.out HV.out)
                  have HBW0 := Lib.hid (HBW.out.trans (HV.out.mono HBW.out.size))
                  clear y_z_0 y_z_1 y_z_2 y_z_3
                  have c0_0 := box_at C0.out HBV.out
                  have c0_1 := box_at C1.out HBV.out
                  have c0_2 := box_at C2.out HBV.out
                  have c1_0 := box_at D0.out HBV.out
                  have c1_1 := box_at D1.out HBV.out
                  have c1_2 := box_at D2.out HBV.out
                  have y_h := box_at K_h.out HBW0.out
                  have y_r := box_at K_r.out HBW0.out
                  have y_c0 := box_at K_c0.out HBW0.out
                  have y_c1 := box_at K_c1.out HBW0.out
                  have hc : Below V.heap.size V V := Below.refl _ _
                  try (go_wp2_with fail)
                  refine wp_region_noPanic ?_
                  refine wp_region_P (fun w' => w'.cell? ⟨w.heap.size, 0, none⟩ = some (.int .i64 gr.p) ∧ w'.cell? ⟨w.heap.size, 1, none⟩ = some (.int .i64 gr.q) ∧ w'.cell? ⟨w.heap.size, 2, none⟩ = some (.int .i64 gr.g) ∧ w'.cell? ⟨(w.heap.size + 1), 0, none⟩ = some (.slice (some ⟨bc, oc, none⟩) xcn xcc) ∧ w'.cell? ⟨(w.heap.size + 1), 1, none⟩ = some (.slice (some ⟨bh, oh, none⟩) xhn xhc) ∧ w'.cell? ⟨(w.heap.size + 1), 2, none⟩ = some (.slice (some ⟨br, od, none⟩) xrn xrc) ∧ w'.cell? ⟨wr.heap.size, 0, none⟩ = some (.int .i64 z.g1) ∧ w'.cell? ⟨wr.heap.size, 1, none⟩ = some (.int .i64 z.y1) ∧ w'.cell? ⟨wr.heap.size, 2, none⟩ = some (.int .i64 z.g2) ∧ w'.cell? ⟨wr.heap.size, 3, none⟩ = some (.int .i64 z.y2) ∧ w'.cell? ⟨bh, oh + k, none⟩ = some (.int .i64 ah) ∧ w'.cell? ⟨br, od + k, none⟩ = some (.int .i64 ar) ∧ w'.cell? ⟨bc, oc + m0, none⟩ = some (.int .i64 ac0) ∧ w'.cell? ⟨bc, oc + m1, none⟩ = some (.int .i64 ac1)) 20 [(0, []), (1, []), (2, []), (3, [0]), (4, []), (5, [1, 0]), (6, [0]), (7, []), (8, [0]), (9, []), (10, [1, 0]), (11, [0]), (12, [11, 10, 5, 0]), (13, [0]), (14, [0]), (15, [1]), (16, [1]), (17, [1])] [] (by kernel_rfl) (by kernel_rfl) (by kernel_rfl) rfl (fun _ _ _ _ h => h) (fun w' h => ⟨box_at c0_0 h, box_at c0_1 h, box_at c0_2 h, box_at c1_0 h, box_at c1_1 h, box_at c1_2 h, box_at x_z_0 h, box_at x_z_1 h, box_at x_z_2 h, box_at x_z_3 h, box_at y_h h, box_at y_r h, box_at y_c0 h, box_at y_c1 h⟩) ?_
                  simp only [pickP, pickN, List.getElem?_cons_zero, List.getElem?_cons_succ]
                  iterate 12 (refine' chainP_read _ rfl rfl (fun w' hS' => ?_) ?_; rotate_left; · (simp only [lookP, allP, Act.put, List.getElem?_cons_zero, List.getElem?_cons_succ, List.setIfInBounds_toArray, List.set_cons_zero, List.set_cons_succ]; (try dsimp only at hS'); go_simp; (try with_reducible rfl)))
                  -- 12: call { callee := value (func 124), args := #[t63, t64, t69, t74], argTypes := #[25, 51, 3, 3] }
                  refine chainP_call (d := (some 75)) (.tuple #[.int .i64 X1, .int .i64 X2]) rfl rfl (fun w' hS' => ?_) ?_
                  · simp only [lookP, allP, Act.put, List.getElem?_cons_zero, List.getElem?_cons_succ, List.setIfInBounds_toArray, List.set_cons_zero, List.set_cons_succ]
                    intro K hK
                    go_simp
                    go_at_call 88
                    refine (impl_simulated gr z ah ar _ HG.out HZE.out HAH.out HAR.out).mono ?_
                    rintro e u ⟨rfl, hq⟩
                    rw [HX1.out, HX2.out]
                    exact hK.out _ hq
                  iterate 5 (refine' chainP_read _ rfl rfl (fun w' hS' => ?_) ?_; rotate_left; · (simp only [lookP, allP, Act.put, List.getElem?_cons_zero, List.getElem?_cons_succ, List.setIfInBounds_toArray, List.set_cons_zero, List.set_cons_succ]; (try dsimp only at hS'); go_simp; (try with_reducible rfl)))
                  refine chainP_nil (fun ua hS' => ?_)
                  simp only [allP, Act.put, List.setIfInBounds_toArray, List.set_cons_zero, List.set_cons_succ]
                  have hq1 := hS'.1
                  clear hS'
                  replace hc := Below.next hc hq1
                  replace c0_0 := box_at c0_0 hq1
                  replace c0_1 := box_at c0_1 hq1
                  replace c0_2 := box_at c0_2 hq1
                  replace c1_0 := box_at c1_0 hq1
                  replace c1_1 := box_at c1_1 hq1
                  replace c1_2 := box_at c1_2 hq1
                  replace x_z_0 := box_at x_z_0 hq1
                  replace x_z_1 := box_at x_z_1 hq1
                  replace x_z_2 := box_at x_z_2 hq1
                  replace x_z_3 := box_at x_z_3 hq1
                  replace y_h := box_at y_h hq1
                  replace y_r := box_at y_r hq1
                  replace y_c0 := box_at y_c0 hq1
                  replace y_c1 := box_at y_c1 hq1
                  clear hq1
                  go_wp2_with fail
                  refine NoPanic.normal ?_
                  cases q1 : (X1 != ac0) with
                  | true =>
                    go_wp2_with fail
                    clear c0_0 c0_1 c0_2 c1_0 c1_1 c1_2 x_z_0 x_z_1 x_z_2 x_z_3 y_h y_r y_c0 y_c1
                    go_wp2_with fail
                    have HVN : Hid (voK gr l d k = false) := by unfold Hid; (rw [HVK.out, bne_t q1]; try rfl)
                    have HVV : Hid ((.bool (fulB gr l d) : Value) = .bool false) := by
                      have h1 := HVB0.out (range_all_not HK.out HVN.out)
                      unfold Hid; rw [h1]
                    go_ret
                    exact ⟨congrArg Ending.returned HVV.out.symm, HBW0.out.trans (hc.mono HBW0.out.size)⟩
                  | false =>
                    cases q2 : (X2 != ac1) with
                    | true =>
                      go_wp2_with fail
                      clear c0_0 c0_1 c0_2 c1_0 c1_1 c1_2 x_z_0 x_z_1 x_z_2 x_z_3 y_h y_r y_c0 y_c1
                      go_wp2_with fail
                      have HVN : Hid (voK gr l d k = false) := by unfold Hid; (rw [HVK.out, bne_t q2, Bool.and_false]; try rfl)
                      have HVV : Hid ((.bool (fulB gr l d) : Value) = .bool false) := by
                        have h1 := HVB0.out (range_all_not HK.out HVN.out)
                        unfold Hid; rw [h1]
                      go_ret
                      exact ⟨congrArg Ending.returned HVV.out.symm, HBW0.out.trans (hc.mono HBW0.out.size)⟩
                    | false =>
                      go_wp2_with fail
                      clear c0_0 c0_1 c0_2 c1_0 c1_1 c1_2 x_z_0 x_z_1 x_z_2 x_z_3 y_h y_r y_c0 y_c1
                      have HVN : Hid (voK gr l d k = true) := by unfold Hid; rw [HVK.out]; rw [bne_f q1, bne_f q2]; rfl
                      have HC2 := Lib.hid hc
                      clear hc
                      go_wp2_with fail
                      go_roundg (evn - (k + 1))
                      case measure => exact hgl hlt
                      case rel => exact ⟨k + 1, by have := HKG.out; omega, by go_num, range_all_succ HALL.out HVN.out, HBV.out.trans (HC2.out.mono HBV.out.size)⟩
                · have HAL : Hid ((List.range l.length).all (voK gr l d) = true) := by
                    unfold Hid
                    rw [show l.length = k by have := Eev.out; have := HKG.out; omega]; exact HALL.out
                  have HVV : Hid ((.bool (fulB gr l d) : Value) = .bool true) := by have h1 := HVB1.out HAL.out; unfold Hid; rw [h1]
                  go_wp2_with fail
                  go_ret
                  exact ⟨congrArg Ending.returned HVV.out.symm, HBW.out⟩
      | true =>
        have HLRd : Hid (decide (d.r.length = l.length) = false) := by have q := hc3; rw [bne_iff_ne] at q; exact decide_eq_false (by have := Exr.out; have := Eev.out; omega)
        go_wp2_with fail
        have HV : Hid ((.bool (fulB gr l d) : Value) = .bool false) := by unfold Hid; simp [fulB, vofB, HLCd.out, HLHd.out, HLRd.out]
        go_ret
        exact ⟨congrArg Ending.returned HV.out.symm, HB.out.trans (hc.mono HB.out.size)⟩
    | true =>
      have HLHd : Hid (decide (d.h.length = l.length) = false) := by have q := hc2; rw [bne_iff_ne] at q; exact decide_eq_false (by have := Exh.out; have := Eev.out; omega)
      go_wp2_with fail
      have HV : Hid ((.bool (fulB gr l d) : Value) = .bool false) := by unfold Hid; simp [fulB, vofB, HLCd.out, HLHd.out]
      go_ret
      exact ⟨congrArg Ending.returned HV.out.symm, HB.out.trans (hc.mono HB.out.size)⟩
  | true =>
    have HLCd : Hid (decide (d.c.length = 2 * l.length) = false) := by have q := hc1; rw [bne_iff_ne] at q; exact decide_eq_false (by have := Exc.out; have := Eev.out; omega)
    go_wp2_with fail
    have HV : Hid ((.bool (fulB gr l d) : Value) = .bool false) := by unfold Hid; simp [fulB, vofB, HLCd.out]
    go_ret
    exact ⟨congrArg Ending.returned HV.out.symm, HB.out.trans (hc.mono HB.out.size)⟩
set_option maxRecDepth 100000 in
set_option maxHeartbeats 4000000 in
theorem spec_xEquations (gr : GroupD) (ev : Value) (l : List EqualLogD) (pv : Value) (d : ProofD) (w : World) (hg : OkG gr) (hl : stB gr l = true) (hev : RdR rEqualLog w ev l) (hp : PfR w pv d) :
    Calls Try.prog 118 #[.agg #[.int .i64 gr.p, .int .i64 gr.q, .int .i64 gr.g], ev, pv] w fun e w' => e = .returned (.bool (fulB gr l d)) ∧ Below w.heap.size w w' := by
  have HG := Lib.hid hg
  clear hg
  have HL := Lib.hid hl
  clear hl
  obtain ⟨eva, evn, evc, rfl⟩ := hev.shape
  have Eev := Lib.hid hev.len
  have Kev := Lib.hid hev.capMax
  have Hev := Lib.hid hev
  clear hev
  obtain ⟨xcv, xhv, xrv, rfl, hxc, hxh, hxr⟩ := hp
  obtain ⟨xca, xcn, xcc, rfl⟩ := hxc.shape
  have Exc := Lib.hid hxc.len
  have Kxc := Lib.hid hxc.capMax
  have Hxc := Lib.hid hxc
  clear hxc
  obtain ⟨xha, xhn, xhc, rfl⟩ := hxh.shape
  have Exh := Lib.hid hxh.len
  have Kxh := Lib.hid hxh.capMax
  have Hxh := Lib.hid hxh
  clear hxh
  obtain ⟨xra, xrn, xrc, rfl⟩ := hxr.shape
  have Exr := Lib.hid hxr.len
  have Kxr := Lib.hid hxr.capMax
  have Hxr := Lib.hid hxr
  clear hxr
  have hw2 : IntKind.i64.wrap (2 * (evn : Int)) = 2 * (evn : Int) := IntWalk.i64_in _ (by have := stB_len HL.out; have := Eev.out; omega)
  have hfl : ∀ (a b c : Int) (u : World), (Instr.field 40 (.agg #[.int .i64 a, .int .i64 b, .int .i64 c]) 0).run Try.prog u = .ok (.int .i64 a) u := fun a b c u => field58 a b c u
  obtain ⟨W, hW⟩ : ∃ W, W = (w.alloc (.cells #[.int .i64 gr.p, .int .i64 gr.q, .int .i64 gr.g] 24)).alloc (.cells #[(.slice xca xcn xcc), (.slice xha xhn xhc), (.slice xra xrn xrc)] 47) := ⟨_, rfl⟩
  have HB : Hid (Below w.heap.size w W) := by unfold Hid; rw [hW]; (repeat (first | exact Below.refl _ _ | assumption | refine Below.drew ?_ | refine Below.alloc ?_ (by first | (simp; done) | (simp; omega)) _ | refine Below.setCell ?_ (by first | (simp; done) | (simp; omega)) _))
  have c0_0 : W.cell? ⟨w.heap.size, 0, none⟩ = some (.int .i64 gr.p) := by rw [hW]; simp [go_sem]
  have c0_1 : W.cell? ⟨w.heap.size, 1, none⟩ = some (.int .i64 gr.q) := by rw [hW]; simp [go_sem]
  have c0_2 : W.cell? ⟨w.heap.size, 2, none⟩ = some (.int .i64 gr.g) := by rw [hW]; simp [go_sem]
  have c1_0 : W.cell? ⟨w.heap.size + 1, 0, none⟩ = some ((.slice xca xcn xcc)) := by rw [hW]; simp [go_sem]
  have c1_1 : W.cell? ⟨w.heap.size + 1, 1, none⟩ = some ((.slice xha xhn xhc)) := by rw [hW]; simp [go_sem]
  have c1_2 : W.cell? ⟨w.heap.size + 1, 2, none⟩ = some ((.slice xra xrn xrc)) := by rw [hW]; simp [go_sem]
  have HSW : Hid (W.heap.size = w.heap.size + 2) := by unfold Hid; rw [hW]; simp
  go_enter Try.func118, Try.ntmps118
  go_upto_region 1 with fail
  rw [← hW]
  have hse : w.heap.size + 1 + 1 = W.heap.size := by have := HSW.out; omega
  (try rw [hse])
  clear hse
  clear hW
  have hc : Below W.heap.size W W := Below.refl _ _
  have HCC : Hid (∀ u, Below W.heap.size W u → u.cell? ⟨w.heap.size, 0, none⟩ = some (.int .i64 gr.p) ∧ u.cell? ⟨w.heap.size, 1, none⟩ = some (.int .i64 gr.q) ∧ u.cell? ⟨w.heap.size, 2, none⟩ = some (.int .i64 gr.g) ∧ u.cell? ⟨w.heap.size + 1, 0, none⟩ = some ((.slice xca xcn xcc)) ∧ u.cell? ⟨w.heap.size + 1, 1, none⟩ = some ((.slice xha xhn xhc)) ∧ u.cell? ⟨w.heap.size + 1, 2, none⟩ = some ((.slice xra xrn xrc))) := fun u h => ⟨box_at c0_0 h, box_at c0_1 h, box_at c0_2 h, box_at c1_0 h, box_at c1_1 h, box_at c1_2 h⟩
  cases hc1 : ((xcn : Int) != (2 * (evn : Int))) with
  | false =>
    have HLC : Hid (d.c.length = 2 * l.length) := by have q := hc1; rw [bne_eq_false_iff_eq] at q; unfold Hid; have := Exc.out; have := Eev.out; omega
    have HLCd : Hid (decide (d.c.length = 2 * l.length) = true) := decide_eq_true HLC.out
    cases hc2 : ((xhn : Int) != (evn : Int)) with
    | false =>
      have HLH : Hid (d.h.length = l.length) := by have q := hc2; rw [bne_eq_false_iff_eq] at q; unfold Hid; have := Exh.out; have := Eev.out; omega
      have HLHd : Hid (decide (d.h.length = l.length) = true) := decide_eq_true HLH.out
      cases hc3 : ((xrn : Int) != (evn : Int)) with
      | false =>
        have HLR : Hid (d.r.length = l.length) := by have q := hc3; rw [bne_eq_false_iff_eq] at q; unfold Hid; have := Exr.out; have := Eev.out; omega
        have HLRd : Hid (decide (d.r.length = l.length) = true) := decide_eq_true HLR.out
        go_wp2_with fail
        refine (spec_gIs gr _ d.c _ HG.out (Hxc.out.below (HB.out.trans (hc.mono HB.out.size)))).mono ?_
        rintro e u1 ⟨rfl, hq1⟩
        replace hc := Below.next hc hq1
        clear hq1 c0_0 c0_1 c0_2 c1_0 c1_1 c1_2
        obtain ⟨c0_0, c0_1, c0_2, c1_0, c1_1, c1_2⟩ := HCC.out _ hc
        cases hc4 : d.c.all (elB gr) with
        | false =>
          have Hhc4 := Lib.hid hc4
          clear hc4
          go_wp2_with fail
          have HV : Hid ((.bool (fulB gr l d) : Value) = .bool false) := by unfold Hid; simp [fulB, vofB, Hhc4.out, HLCd.out, HLHd.out, HLRd.out]
          go_ret
          exact ⟨congrArg Ending.returned HV.out.symm, HB.out.trans (hc.mono HB.out.size)⟩
        | true =>
          have HAC : Hid (d.c.all (elB gr) = true) := hc4
          have Hhc4 := Lib.hid hc4
          clear hc4
          go_wp2_with fail
          refine (spec_gExps gr _ d.h _ HG.out (Hxh.out.below (HB.out.trans (hc.mono HB.out.size)))).mono ?_
          rintro e u2 ⟨rfl, hq2⟩
          replace hc := Below.next hc hq2
          clear hq2 c0_0 c0_1 c0_2 c1_0 c1_1 c1_2
          obtain ⟨c0_0, c0_1, c0_2, c1_0, c1_1, c1_2⟩ := HCC.out _ hc
          cases hc5 : d.h.all (expB gr) with
          | false =>
            have Hhc5 := Lib.hid hc5
            clear hc5
            go_wp2_with fail
            have HV : Hid ((.bool (fulB gr l d) : Value) = .bool false) := by unfold Hid; simp [fulB, vofB, Hhc4.out, Hhc5.out, HLCd.out, HLHd.out, HLRd.out]
            go_ret
            exact ⟨congrArg Ending.returned HV.out.symm, HB.out.trans (hc.mono HB.out.size)⟩
          | true =>
            have HAH0 : Hid (d.h.all (expB gr) = true) := hc5
            have Hhc5 := Lib.hid hc5
            clear hc5
            go_wp2_with fail
            refine (spec_gExps gr _ d.r _ HG.out (Hxr.out.below (HB.out.trans (hc.mono HB.out.size)))).mono ?_
            rintro e u3 ⟨rfl, hq3⟩
            replace hc := Below.next hc hq3
            clear hq3 c0_0 c0_1 c0_2 c1_0 c1_1 c1_2
            obtain ⟨c0_0, c0_1, c0_2, c1_0, c1_1, c1_2⟩ := HCC.out _ hc
            cases hc6 : d.r.all (expB gr) with
            | false =>
              have Hhc6 := Lib.hid hc6
              clear hc6
              go_wp2_with fail
              have HV : Hid ((.bool (fulB gr l d) : Value) = .bool false) := by unfold Hid; simp [fulB, vofB, Hhc4.out, Hhc5.out, Hhc6.out, HLCd.out, HLHd.out, HLRd.out]
              go_ret
              exact ⟨congrArg Ending.returned HV.out.symm, HB.out.trans (hc.mono HB.out.size)⟩
            | true =>
              have HAR0 : Hid (d.r.all (expB gr) = true) := hc6
              have Hhc6 := Lib.hid hc6
              clear hc6
              go_wp2_with fail
              have HC := Lib.hid hc
              have C0 := Lib.hid c0_0
              have C1 := Lib.hid c0_1
              have C2 := Lib.hid c0_2
              have D0 := Lib.hid c1_0
              have D1 := Lib.hid c1_1
              have D2 := Lib.hid c1_2
              clear hc c0_0 c0_1 c0_2 c1_0 c1_1 c1_2 HCC
              have HN8 := stB_len HL.out
              have HN9 : Hid (evn ≤ 8) := by unfold Hid; have := Eev.out; omega
              obtain ⟨bc, oc, rfl, hxc⟩ := Hxc.out.at_ (by have := HLC.out; have := Exc.out; omega)
              obtain ⟨bh, oh, rfl, hxh⟩ := Hxh.out.at_ (by have := HLH.out; have := Exh.out; omega)
              obtain ⟨br, od, rfl, hxr⟩ := Hxr.out.at_ (by have := HLR.out; have := Exr.out; omega)
              have Xc := Lib.hid hxc
              have Xh := Lib.hid hxh
              have Xr := Lib.hid hxr
              clear hxc hxh hxr HN8
              clear hc1
              clear hc2
              clear hc3
              have HVO : Hid (vofB gr l.length d = true) := by unfold Hid vofB; rw [HLCd.out, HLHd.out, HLRd.out, HAC.out, HAH0.out, HAR0.out]; rfl
              have HVB0 : Hid ((List.range l.length).all (voK gr l d) = false → fulB gr l d = false) := fun q => by unfold fulB; rw [q, Bool.and_false]
              have HVB1 : Hid ((List.range l.length).all (voK gr l d) = true → fulB gr l d = true) := fun q => by unfold fulB; rw [HVO.out, q]; rfl
              go_loopg [57] evn (fun gk iv wr => ∃ k : Nat, k + gk = evn ∧ iv = .int .i64 (k : Int) ∧ (List.range k).all (voK gr l d) = true ∧ Below u3.heap.size u3 wr)
              case atStart => exact ⟨0, by omega, rfl, rfl, Below.refl _ _⟩
              case round =>
                obtain ⟨k, hkg, rfl, hall, hbu⟩ := hrel
                have HALL := Lib.hid hall
                clear hall
                have HBU := Lib.hid hbu
                clear hbu
                have HBW := Lib.hid (HB.out.trans ((Below.next HC.out HBU.out).mono HB.out.size))
                have hgl : k < evn → evn - (k + 1) < gk := by omega
                have HKG := Lib.hid hkg
                clear hkg
                by_cases hlt : k < evn
                · have HK : Hid (k < l.length) := by unfold Hid; have := Eev.out; omega
                  obtain ⟨m0, hm0⟩ : ∃ m : Nat, m = 2 * k := ⟨_, rfl⟩
                  obtain ⟨m1, hm1⟩ : ∃ m : Nat, m = m0 + 1 := ⟨_, rfl⟩
                  have hwm0 : IntKind.i64.wrap (2 * (k : Int)) = (m0 : Int) := by rw [IntWalk.i64_in _ (by have := HN9.out; omega)]; omega
                  have hwm1 : IntKind.i64.wrap ((m0 : Int) + 1) = (m1 : Int) := by rw [IntWalk.i64_in _ (by have := HN9.out; omega)]; omega
                  have hwk : IntKind.i64.wrap ((k : Int) + 1) = (k : Int) + 1 := IntWalk.i64_in _ (by have := HN9.out; omega)
                  have kh := Xh.out k (by have := Exh.out; have := HLH.out; have := HK.out; omega)
                  have kr := Xr.out k (by have := Exr.out; have := HLR.out; have := HK.out; omega)
                  have kc0 := Xc.out m0 (by have := Exc.out; have := HLC.out; have := HK.out; omega)
                  have kc1 := Xc.out m1 (by have := Exc.out; have := HLC.out; have := HK.out; omega)
                  have hbm0 : (0 : Int) ≤ (m0 : Int) := by omega
                  have hbm1 : (0 : Int) ≤ (m1 : Int) := by omega
                  have hbk0 : (0 : Int) ≤ (k : Int) := by omega
                  have hbm2 : (m0 : Int) < (xcn : Int) := by have := HLC.out; have := HK.out; have := Exc.out; omega
                  have hbm3 : (m1 : Int) < (xcn : Int) := by have := HLC.out; have := HK.out; have := Exc.out; omega
                  have hbk1 : (k : Int) < (xhn : Int) := by have := HLH.out; have := HK.out; have := Exh.out; omega
                  have hbk2 : (k : Int) < (xrn : Int) := by have := HLR.out; have := HK.out; have := Exr.out; omega
                  have HAH : Hid (Small (nth d.h k)) := expB_small HG.out (exp_nth HG.out HAH0.out k)
                  have HAR : Hid (Small (nth d.r k)) := expB_small HG.out (exp_nth HG.out HAR0.out k)
                  have HA0 : Hid (Small (nth d.c m0)) := els_small HG.out HAC.out _ (nthO (by have := HLC.out; have := HK.out; omega))
                  have HA1 : Hid (Small (nth d.c m1)) := els_small HG.out HAC.out _ (nthO (by have := HLC.out; have := HK.out; omega))
                  have HZE : Hid (eqEl gr (l[k]'HK.out) = true) := List.all_eq_true.1 (stB_all HL.out) _ (List.getElem_mem HK.out)
                  have HVK := Lib.hid (voK_def (gr := gr) (d := d) HK.out hm0 hm1)
                  have HM := Lib.hid hm0
                  clear hm0 hm1
                  generalize nth d.h k = ah at kh HAH HVK
                  generalize nth d.r k = ar at kr HAR HVK
                  generalize nth d.c m0 = ac0 at kc0 HA0 HVK
                  generalize nth d.c m1 = ac1 at kc1 HA1 HVK
                  have hb0 := HBW.out
                  obtain ⟨b_z, o_z, rfl, hcx⟩ := Hev.out.at_ (by omega)
                  obtain ⟨us, hcell, hrd⟩ := hcx k HK.out
                  clear hcx
                  generalize l[k]'HK.out = z at hrd HZE HVK
                  obtain ⟨ers, jz_0, jz_1, jz_2, jz_3⟩ := rdEqualLog.1 ⟨us, rfl, hrd⟩
                  obtain rfl : us = [.int .i64 z.g1, .int .i64 z.y1, .int .i64 z.g2, .int .i64 z.y2] := by have h := Value.agg.inj ers; simpa using congrArg Array.toList h
                  clear ers hrd
                  have y_z_0 : wr.cell? ⟨b_z, o_z + k * 4, none⟩ = some (.int .i64 z.g1) := box_at (hcell 0 (by decide)) hb0
                  have y_z_1 : wr.cell? ⟨b_z, o_z + k * 4 + 1, none⟩ = some (.int .i64 z.y1) := box_at (hcell 1 (by decide)) hb0
                  have y_z_2 : wr.cell? ⟨b_z, o_z + k * 4 + 2, none⟩ = some (.int .i64 z.g2) := box_at (hcell 2 (by decide)) hb0
                  have y_z_3 : wr.cell? ⟨b_z, o_z + k * 4 + 3, none⟩ = some (.int .i64 z.y2) := box_at (hcell 3 (by decide)) hb0
                  clear hcell
                  have HR_z := Lib.hid ((kS rEqualLog).rd_below (rdEqualLog.2 ⟨rfl, jz_0, jz_1, jz_2, jz_3⟩ : (kS rEqualLog).rd w (.agg #[.int .i64 z.g1, .int .i64 z.y1, .int .i64 z.g2, .int .i64 z.y2]) z) hb0)
                  have J_z_0 := Lib.hid jz_0
                  have J_z_1 := Lib.hid jz_1
                  have J_z_2 := Lib.hid jz_2
                  have J_z_3 := Lib.hid jz_3
                  clear jz_0 jz_1 jz_2 jz_3
                  have HZS := Lib.hid (eqEl_small HG.out HZE.out)
                  obtain ⟨X1, hX1⟩ : ∃ X, smX gr z.g1 z.y1 ah ar = X := ⟨_, rfl⟩
                  obtain ⟨X2, hX2⟩ : ∃ X, smX gr z.g2 z.y2 ah ar = X := ⟨_, rfl⟩
                  have HX1 := Lib.hid hX1
                  have HX2 := Lib.hid hX2
                  replace HVK : Hid (voK gr l d k = ((X1 == ac0) && (X2 == ac1))) := by rw [← HX1.out, ← HX2.out]; exact HVK
                  clear hX1 hX2
                  clear hb0
                  have K_h := Lib.hid kh
                  have K_r := Lib.hid kr
                  have K_c0 := Lib.hid kc0
                  have K_c1 := Lib.hid kc1
                  clear kh kr kc0 kc1
                  have hly := World.block_lt_of_cell? wr _ y_z_0
                  go_wp2_with fail
                  obtain ⟨V, hV⟩ : ∃ V, V = wr.alloc (.cells #[.int .i64 z.g1, .int .i64 z.y1, .int .i64 z.g2, .int .i64 z.y2] 31) := ⟨_, rfl⟩
                  rw [← hV]
                  have HV : Hid (Below wr.heap.size wr V) := by unfold Hid; rw [hV]; exact (Below.refl _ _).alloc (Nat.le_refl _) _
                  have hsV : V.heap.size = wr.heap.size + 1 := by rw [hV]; simp
                  have x_z_0 : V.cell? ⟨wr.heap.size, 0, none⟩ = some (.int .i64 z.g1) := by rw [hV]; simp [go_sem]
                  have x_z_1 : V.cell? ⟨wr.heap.size, 1, none⟩ = some (.int .i64 z.y1) := by rw [hV]; simp [go_sem]
                  have x_z_2 : V.cell? ⟨wr.heap.size, 2, none⟩ = some (.int .i64 z.g2) := by rw [hV]; simp [go_sem]
                  have x_z_3 : V.cell? ⟨wr.heap.size, 3, none⟩ = some (.int .i64 z.y2) := by rw [hV]; simp [go_sem]
                  have HRV_z := Lib.hid ((kS rEqualLog).rd_below HR_z.out HV.out)
                  clear hV
                  have HBV := Lib.hid (Below.next HBU.out HV.out)
                  have HBW0 := Lib.hid (HBW.out.trans (HV.out.mono HBW.out.size))
                  clear y_z_0 y_z_1 y_z_2 y_z_3
                  have c0_0 := box_at C0.out HBV.out
                  have c0_1 := box_at C1.out HBV.out
                  have c0_2 := box_at C2.out HBV.out
                  have c1_0 := box_at D0.out HBV.out
                  have c1_1 := box_at D1.out HBV.out
                  have c1_2 := box_at D2.out HBV.out
                  have y_h := box_at K_h.out HBW0.out
                  have y_r := box_at K_r.out HBW0.out
                  have y_c0 := box_at K_c0.out HBW0.out
                  have y_c1 := box_at K_c1.out HBW0.out
                  have hc : Below V.heap.size V V := Below.refl _ _
                  try (go_wp2_with fail)
                  refine wp_region_noPanic ?_
                  refine wp_region_P (fun w' => w'.cell? ⟨w.heap.size, 0, none⟩ = some (.int .i64 gr.p) ∧ w'.cell? ⟨w.heap.size, 1, none⟩ = some (.int .i64 gr.q) ∧ w'.cell? ⟨w.heap.size, 2, none⟩ = some (.int .i64 gr.g) ∧ w'.cell? ⟨(w.heap.size + 1), 0, none⟩ = some (.slice (some ⟨bc, oc, none⟩) xcn xcc) ∧ w'.cell? ⟨(w.heap.size + 1), 1, none⟩ = some (.slice (some ⟨bh, oh, none⟩) xhn xhc) ∧ w'.cell? ⟨(w.heap.size + 1), 2, none⟩ = some (.slice (some ⟨br, od, none⟩) xrn xrc) ∧ w'.cell? ⟨wr.heap.size, 0, none⟩ = some (.int .i64 z.g1) ∧ w'.cell? ⟨wr.heap.size, 1, none⟩ = some (.int .i64 z.y1) ∧ w'.cell? ⟨wr.heap.size, 2, none⟩ = some (.int .i64 z.g2) ∧ w'.cell? ⟨wr.heap.size, 3, none⟩ = some (.int .i64 z.y2) ∧ w'.cell? ⟨bh, oh + k, none⟩ = some (.int .i64 ah) ∧ w'.cell? ⟨br, od + k, none⟩ = some (.int .i64 ar) ∧ w'.cell? ⟨bc, oc + m0, none⟩ = some (.int .i64 ac0) ∧ w'.cell? ⟨bc, oc + m1, none⟩ = some (.int .i64 ac1)) 14 [(0, []), (1, [0]), (2, []), (3, [1, 0]), (4, [0]), (5, []), (6, [0]), (7, []), (8, [1, 0]), (9, [0]), (10, [5]), (11, [1])] [] (by kernel_rfl) (by kernel_rfl) (by kernel_rfl) rfl (fun _ _ _ _ h => h) (fun w' h => ⟨box_at c0_0 h, box_at c0_1 h, box_at c0_2 h, box_at c1_0 h, box_at c1_1 h, box_at c1_2 h, box_at x_z_0 h, box_at x_z_1 h, box_at x_z_2 h, box_at x_z_3 h, box_at y_h h, box_at y_r h, box_at y_c0 h, box_at y_c1 h⟩) ?_
                  simp only [pickP, pickN, List.getElem?_cons_zero, List.getElem?_cons_succ]
                  iterate 12 (refine' chainP_read _ rfl rfl (fun w' hS' => ?_) ?_; rotate_left; · (simp only [lookP, allP, Act.put, List.getElem?_cons_zero, List.getElem?_cons_succ, List.setIfInBounds_toArray, List.set_cons_zero, List.set_cons_succ]; (try dsimp only at hS'); go_simp; (try with_reducible rfl)))
                  refine chainP_nil (fun ua hS' => ?_)
                  simp only [allP, Act.put, List.setIfInBounds_toArray, List.set_cons_zero, List.set_cons_succ]
                  have hq1 := hS'.1
                  clear hS'
                  replace hc := Below.next hc hq1
                  replace c0_0 := box_at c0_0 hq1
                  replace c0_1 := box_at c0_1 hq1
                  replace c0_2 := box_at c0_2 hq1
                  replace c1_0 := box_at c1_0 hq1
                  replace c1_1 := box_at c1_1 hq1
                  replace c1_2 := box_at c1_2 hq1
                  replace x_z_0 := box_at x_z_0 hq1
                  replace x_z_1 := box_at x_z_1 hq1
                  replace x_z_2 := box_at x_z_2 hq1
                  replace x_z_3 := box_at x_z_3 hq1
                  replace y_h := box_at y_h hq1
                  replace y_r := box_at y_r hq1
                  replace y_c0 := box_at y_c0 hq1
                  replace y_c1 := box_at y_c1 hq1
                  clear hq1
                  go_wp2_with fail
                  refine NoPanic.normal ?_
                  (try (go_wp2_with fail))
                  have HC3 := Lib.hid hc
                  replace HBV := Lib.hid (HBV.out.trans (HC3.out.mono HBV.out.size))
                  replace HBW0 := Lib.hid (HBW0.out.trans (HC3.out.mono HBW0.out.size))
                  clear hc HC3
                  have hc : Below ua.heap.size ua ua := Below.refl _ _
                  cases q1 : (X1 != ac0) with
                  | true =>
                    try (go_wp2_with fail)
                    refine wp_region_noPanic ?_
                    refine wp_region_P (fun w' => w'.cell? ⟨w.heap.size, 0, none⟩ = some (.int .i64 gr.p) ∧ w'.cell? ⟨w.heap.size, 1, none⟩ = some (.int .i64 gr.q) ∧ w'.cell? ⟨w.heap.size, 2, none⟩ = some (.int .i64 gr.g) ∧ w'.cell? ⟨(w.heap.size + 1), 0, none⟩ = some (.slice (some ⟨bc, oc, none⟩) xcn xcc) ∧ w'.cell? ⟨(w.heap.size + 1), 1, none⟩ = some (.slice (some ⟨bh, oh, none⟩) xhn xhc) ∧ w'.cell? ⟨(w.heap.size + 1), 2, none⟩ = some (.slice (some ⟨br, od, none⟩) xrn xrc) ∧ w'.cell? ⟨wr.heap.size, 0, none⟩ = some (.int .i64 z.g1) ∧ w'.cell? ⟨wr.heap.size, 1, none⟩ = some (.int .i64 z.y1) ∧ w'.cell? ⟨wr.heap.size, 2, none⟩ = some (.int .i64 z.g2) ∧ w'.cell? ⟨wr.heap.size, 3, none⟩ = some (.int .i64 z.y2) ∧ w'.cell? ⟨bh, oh + k, none⟩ = some (.int .i64 ah) ∧ w'.cell? ⟨br, od + k, none⟩ = some (.int .i64 ar) ∧ w'.cell? ⟨bc, oc + m0, none⟩ = some (.int .i64 ac0) ∧ w'.cell? ⟨bc, oc + m1, none⟩ = some (.int .i64 ac1)) 37 [(0, []), (1, []), (2, [0]), (3, []), (4, [0]), (5, []), (6, []), (7, [6, 4, 2, 1, 0]), (8, [0]), (9, []), (10, [0]), (11, []), (12, [0]), (13, [2, 0]), (14, [0]), (15, [6, 0]), (16, [0]), (17, [0]), (18, [1]), (19, [0, 2]), (20, [3]), (21, [0, 4]), (22, [5]), (23, [6]), (24, [6, 4, 2, 1, 0, 7]), (25, [0, 8]), (26, [9]), (27, [0, 10]), (28, [11]), (29, [0, 12]), (30, [0, 13]), (31, [3, 0, 14]), (32, [0, 15]), (33, [7, 0, 16]), (34, [17, 0])] [] (by kernel_rfl) (by kernel_rfl) (by kernel_rfl) rfl (fun _ _ _ _ h => h) (fun w' h => ⟨box_at c0_0 h, box_at c0_1 h, box_at c0_2 h, box_at c1_0 h, box_at c1_1 h, box_at c1_2 h, box_at x_z_0 h, box_at x_z_1 h, box_at x_z_2 h, box_at x_z_3 h, box_at y_h h, box_at y_r h, box_at y_c0 h, box_at y_c1 h⟩) ?_
                    simp only [pickP, pickN, List.getElem?_cons_zero, List.getElem?_cons_succ]
                    iterate 7 (refine' chainP_read _ rfl rfl (fun w' hS' => ?_) ?_; rotate_left; · (simp only [lookP, allP, Act.put, List.getElem?_cons_zero, List.getElem?_cons_succ, List.setIfInBounds_toArray, List.set_cons_zero, List.set_cons_succ]; (try dsimp only at hS'); go_simp; (try with_reducible rfl)))
                    -- 7: call { callee := value (func 160), args := #[t72, t74, t76, t77, t78], argTypes := #[25, 3, 3, 3, 3] }
                    refine chainP_call (d := (some 79)) (.agg #[.int .i64 X1, .int .i64 ah, .int .i64 ar]) rfl rfl (fun w' hS' => ?_) ?_
                    · simp only [lookP, allP, Act.put, List.getElem?_cons_zero, List.getElem?_cons_succ, List.setIfInBounds_toArray, List.set_cons_zero, List.set_cons_succ]
                      intro K hK
                      go_simp
                      go_at_call 121
                      refine (spec_xSimulate gr z.g1 z.y1 ah ar _ HG.out HZS.out.1 HZS.out.2.1 HAH.out HAR.out).mono ?_
                      rintro e u ⟨rfl, hq⟩
                      rw [HX1.out]
                      exact hK.out _ hq
                    iterate 9 (refine' chainP_read _ rfl rfl (fun w' hS' => ?_) ?_; rotate_left; · (simp only [lookP, allP, Act.put, List.getElem?_cons_zero, List.getElem?_cons_succ, List.setIfInBounds_toArray, List.set_cons_zero, List.set_cons_succ]; (try dsimp only at hS'); go_simp; (try with_reducible rfl)))
                    -- 17: load 25 t3
                    refine chainP_skip (d := (some 89)) rfl (fun w' hS' => ?_) ?_
                    · simp only [lookP, allP, Act.put, List.getElem?_cons_zero, List.getElem?_cons_succ, List.setIfInBounds_toArray, List.set_cons_zero, List.set_cons_succ]
                      kernel_rfl
                    -- 18: fieldAddr 51 t8 2
                    refine chainP_skip (d := (some 90)) rfl (fun w' hS' => ?_) ?_
                    · simp only [lookP, allP, Act.put, List.getElem?_cons_zero, List.getElem?_cons_succ, List.setIfInBounds_toArray, List.set_cons_zero, List.set_cons_succ]
                      kernel_rfl
                    -- 19: load 3 t90
                    refine chainP_skip (d := (some 91)) rfl (fun w' hS' => ?_) ?_
                    · simp only [lookP, allP, Act.put, List.getElem?_cons_zero, List.getElem?_cons_succ, List.setIfInBounds_toArray, List.set_cons_zero, List.set_cons_succ]
                      kernel_rfl
                    -- 20: fieldAddr 51 t8 3
                    refine chainP_skip (d := (some 92)) rfl (fun w' hS' => ?_) ?_
                    · simp only [lookP, allP, Act.put, List.getElem?_cons_zero, List.getElem?_cons_succ, List.setIfInBounds_toArray, List.set_cons_zero, List.set_cons_succ]
                      kernel_rfl
                    -- 21: load 3 t92
                    refine chainP_skip (d := (some 93)) rfl (fun w' hS' => ?_) ?_
                    · simp only [lookP, allP, Act.put, List.getElem?_cons_zero, List.getElem?_cons_succ, List.setIfInBounds_toArray, List.set_cons_zero, List.set_cons_succ]
                      kernel_rfl
                    -- 22: move t9
                    refine chainP_skip (d := (some 94)) rfl (fun w' hS' => ?_) ?_
                    · simp only [lookP, allP, Act.put, List.getElem?_cons_zero, List.getElem?_cons_succ, List.setIfInBounds_toArray, List.set_cons_zero, List.set_cons_succ]
                      kernel_rfl
                    -- 23: move t10
                    refine chainP_skip (d := (some 95)) rfl (fun w' hS' => ?_) ?_
                    · simp only [lookP, allP, Act.put, List.getElem?_cons_zero, List.getElem?_cons_succ, List.setIfInBounds_toArray, List.set_cons_zero, List.set_cons_succ]
                      kernel_rfl
                    -- 24: call { callee := value (func 160), args := #[t89, t91, t93, t94, t95], argTypes := #[25, 3, 3, 3, 3] }
                    refine chainP_skip (d := (some 96)) rfl (fun w' hS' => ?_) ?_
                    · simp only [lookP, allP, Act.put, List.getElem?_cons_zero, List.getElem?_cons_succ, List.setIfInBounds_toArray, List.set_cons_zero, List.set_cons_succ]
                      kernel_rfl
                    -- 25: field 58 t96 0
                    refine chainP_skip (d := (some 97)) rfl (fun w' hS' => ?_) ?_
                    · simp only [lookP, allP, Act.put, List.getElem?_cons_zero, List.getElem?_cons_succ, List.setIfInBounds_toArray, List.set_cons_zero, List.set_cons_succ]
                      kernel_rfl
                    -- 26: fieldAddr 63 t5 0
                    refine chainP_skip (d := (some 98)) rfl (fun w' hS' => ?_) ?_
                    · simp only [lookP, allP, Act.put, List.getElem?_cons_zero, List.getElem?_cons_succ, List.setIfInBounds_toArray, List.set_cons_zero, List.set_cons_succ]
                      kernel_rfl
                    -- 27: load 26 t98
                    refine chainP_skip (d := (some 99)) rfl (fun w' hS' => ?_) ?_
                    · simp only [lookP, allP, Act.put, List.getElem?_cons_zero, List.getElem?_cons_succ, List.setIfInBounds_toArray, List.set_cons_zero, List.set_cons_succ]
                      kernel_rfl
                    -- 28: move t7
                    refine chainP_skip (d := (some 100)) rfl (fun w' hS' => ?_) ?_
                    · simp only [lookP, allP, Act.put, List.getElem?_cons_zero, List.getElem?_cons_succ, List.setIfInBounds_toArray, List.set_cons_zero, List.set_cons_succ]
                      kernel_rfl
                    -- 29: binOp Binmul 3 (const (int i64 2)) t100 3
                    refine chainP_skip (d := (some 101)) rfl (fun w' hS' => ?_) ?_
                    · simp only [lookP, allP, Act.put, List.getElem?_cons_zero, List.getElem?_cons_succ, List.setIfInBounds_toArray, List.set_cons_zero, List.set_cons_succ]
                      kernel_rfl
                    -- 30: binOp Binadd 3 t101 (const (int i64 1)) 3
                    refine chainP_skip (d := (some 102)) rfl (fun w' hS' => ?_) ?_
                    · simp only [lookP, allP, Act.put, List.getElem?_cons_zero, List.getElem?_cons_succ, List.setIfInBounds_toArray, List.set_cons_zero, List.set_cons_succ]
                      kernel_rfl
                    -- 31: indexAddr 26 t99 t102
                    refine chainP_skip (d := (some 103)) rfl (fun w' hS' => ?_) ?_
                    · simp only [lookP, allP, Act.put, List.getElem?_cons_zero, List.getElem?_cons_succ, List.setIfInBounds_toArray, List.set_cons_zero, List.set_cons_succ]
                      kernel_rfl
                    -- 32: load 3 t103
                    refine chainP_skip (d := (some 104)) rfl (fun w' hS' => ?_) ?_
                    · simp only [lookP, allP, Act.put, List.getElem?_cons_zero, List.getElem?_cons_succ, List.setIfInBounds_toArray, List.set_cons_zero, List.set_cons_succ]
                      kernel_rfl
                    -- 33: binOp Binneq 3 t97 t104 3
                    refine chainP_skip (d := (some 105)) rfl (fun w' hS' => ?_) ?_
                    · simp only [lookP, allP, Act.put, List.getElem?_cons_zero, List.getElem?_cons_succ, List.setIfInBounds_toArray, List.set_cons_zero, List.set_cons_succ]
                      kernel_rfl
                    -- 34: pick t88 (const (bool true)) t105
                    refine' chainP_read (d := (some 106)) _ rfl rfl (fun w' hS' => ?_) ?_; rotate_left
                    · simp only [lookP, allP, Act.put, List.getElem?_cons_zero, List.getElem?_cons_succ, List.setIfInBounds_toArray, List.set_cons_zero, List.set_cons_succ]
                      (try dsimp only at hS')
                      go_simp
                      (try with_reducible rfl)
                    refine chainP_nil (fun ub hS' => ?_)
                    simp only [allP, Act.put, List.setIfInBounds_toArray, List.set_cons_zero, List.set_cons_succ]
                    have hq1 := hS'.1
                    clear hS'
                    replace hc := Below.next hc hq1
                    replace c0_0 := box_at c0_0 hq1
                    replace c0_1 := box_at c0_1 hq1
                    replace c0_2 := box_at c0_2 hq1
                    replace c1_0 := box_at c1_0 hq1
                    replace c1_1 := box_at c1_1 hq1
                    replace c1_2 := box_at c1_2 hq1
                    replace x_z_0 := box_at x_z_0 hq1
                    replace x_z_1 := box_at x_z_1 hq1
                    replace x_z_2 := box_at x_z_2 hq1
                    replace x_z_3 := box_at x_z_3 hq1
                    replace y_h := box_at y_h hq1
                    replace y_r := box_at y_r hq1
                    replace y_c0 := box_at y_c0 hq1
                    replace y_c1 := box_at y_c1 hq1
                    clear hq1
                    go_wp2_with fail
                    refine NoPanic.normal ?_
                    clear c0_0 c0_1 c0_2 c1_0 c1_1 c1_2 x_z_0 x_z_1 x_z_2 x_z_3 y_h y_r y_c0 y_c1
                    go_wp2_with fail
                    have HVN : Hid (voK gr l d k = false) := by unfold Hid; (rw [HVK.out, bne_t q1]; try rfl)
                    have HVV : Hid ((.bool (fulB gr l d) : Value) = .bool false) := by
                      have h1 := HVB0.out (range_all_not HK.out HVN.out)
                      unfold Hid; rw [h1]
                    go_ret
                    exact ⟨congrArg Ending.returned HVV.out.symm, HBW0.out.trans (hc.mono HBW0.out.size)⟩
                  | false =>
                    cases q2 : (X2 != ac1) with
                    | true =>
                      try (go_wp2_with fail)
                      refine wp_region_noPanic ?_
                      refine wp_region_P (fun w' => w'.cell? ⟨w.heap.size, 0, none⟩ = some (.int .i64 gr.p) ∧ w'.cell? ⟨w.heap.size, 1, none⟩ = some (.int .i64 gr.q) ∧ w'.cell? ⟨w.heap.size, 2, none⟩ = some (.int .i64 gr.g) ∧ w'.cell? ⟨(w.heap.size + 1), 0, none⟩ = some (.slice (some ⟨bc, oc, none⟩) xcn xcc) ∧ w'.cell? ⟨(w.heap.size + 1), 1, none⟩ = some (.slice (some ⟨bh, oh, none⟩) xhn xhc) ∧ w'.cell? ⟨(w.heap.size + 1), 2, none⟩ = some (.slice (some ⟨br, od, none⟩) xrn xrc) ∧ w'.cell? ⟨wr.heap.size, 0, none⟩ = some (.int .i64 z.g1) ∧ w'.cell? ⟨wr.heap.size, 1, none⟩ = some (.int .i64 z.y1) ∧ w'.cell? ⟨wr.heap.size, 2, none⟩ = some (.int .i64 z.g2) ∧ w'.cell? ⟨wr.heap.size, 3, none⟩ = some (.int .i64 z.y2) ∧ w'.cell? ⟨bh, oh + k, none⟩ = some (.int .i64 ah) ∧ w'.cell? ⟨br, od + k, none⟩ = some (.int .i64 ar) ∧ w'.cell? ⟨bc, oc + m0, none⟩ = some (.int .i64 ac0) ∧ w'.cell? ⟨bc, oc + m1, none⟩ = some (.int .i64 ac1)) 37 [(0, []), (1, []), (2, [0]), (3, []), (4, [0]), (5, []), (6, []), (7, [6, 4, 2, 1, 0]), (8, [0]), (9, []), (10, [0]), (11, []), (12, [0]), (13, [2, 0]), (14, [0]), (15, [6, 0]), (16, [0]), (17, [0]), (18, [1]), (19, [0, 2]), (20, [3]), (21, [0, 4]), (22, [5]), (23, [6]), (24, [6, 4, 2, 1, 0, 7]), (25, [0, 8]), (26, [9]), (27, [0, 10]), (28, [11]), (29, [0, 12]), (30, [0, 13]), (31, [3, 0, 14]), (32, [0, 15]), (33, [7, 0, 16]), (34, [17, 0])] [] (by kernel_rfl) (by kernel_rfl) (by kernel_rfl) rfl (fun _ _ _ _ h => h) (fun w' h => ⟨box_at c0_0 h, box_at c0_1 h, box_at c0_2 h, box_at c1_0 h, box_at c1_1 h, box_at c1_2 h, box_at x_z_0 h, box_at x_z_1 h, box_at x_z_2 h, box_at x_z_3 h, box_at y_h h, box_at y_r h, box_at y_c0 h, box_at y_c1 h⟩) ?_
                      simp only [pickP, pickN, List.getElem?_cons_zero, List.getElem?_cons_succ]
                      iterate 7 (refine' chainP_read _ rfl rfl (fun w' hS' => ?_) ?_; rotate_left; · (simp only [lookP, allP, Act.put, List.getElem?_cons_zero, List.getElem?_cons_succ, List.setIfInBounds_toArray, List.set_cons_zero, List.set_cons_succ]; (try dsimp only at hS'); go_simp; (try with_reducible rfl)))
                      -- 7: call { callee := value (func 160), args := #[t72, t74, t76, t77, t78], argTypes := #[25, 3, 3, 3, 3] }
                      refine chainP_call (d := (some 79)) (.agg #[.int .i64 X1, .int .i64 ah, .int .i64 ar]) rfl rfl (fun w' hS' => ?_) ?_
                      · simp only [lookP, allP, Act.put, List.getElem?_cons_zero, List.getElem?_cons_succ, List.setIfInBounds_toArray, List.set_cons_zero, List.set_cons_succ]
                        intro K hK
                        go_simp
                        go_at_call 121
                        refine (spec_xSimulate gr z.g1 z.y1 ah ar _ HG.out HZS.out.1 HZS.out.2.1 HAH.out HAR.out).mono ?_
                        rintro e u ⟨rfl, hq⟩
                        rw [HX1.out]
                        exact hK.out _ hq
                      iterate 9 (refine' chainP_read _ rfl rfl (fun w' hS' => ?_) ?_; rotate_left; · (simp only [lookP, allP, Act.put, List.getElem?_cons_zero, List.getElem?_cons_succ, List.setIfInBounds_toArray, List.set_cons_zero, List.set_cons_succ]; (try dsimp only at hS'); go_simp; (try with_reducible rfl)))
                      -- 17: load 25 t3
                      refine' chainP_readG (d := (some 89)) _ rfl (fun w' hS' => ?_) ?_; rotate_left
                      · simp only [lookP, allP, Act.put, List.getElem?_cons_zero, List.getElem?_cons_succ, List.setIfInBounds_toArray, List.set_cons_zero, List.set_cons_succ]
                        refine ⟨by kernel_rfl, ?_⟩
                        (try dsimp only at hS')
                        go_simp
                        (try with_reducible rfl)
                      -- 18: fieldAddr 51 t8 2
                      refine' chainP_readG (d := (some 90)) _ rfl (fun w' hS' => ?_) ?_; rotate_left
                      · simp only [lookP, allP, Act.put, List.getElem?_cons_zero, List.getElem?_cons_succ, List.setIfInBounds_toArray, List.set_cons_zero, List.set_cons_succ]
                        refine ⟨by kernel_rfl, ?_⟩
                        (try dsimp only at hS')
                        go_simp
                        (try with_reducible rfl)
                      -- 19: load 3 t90
                      refine' chainP_readG (d := (some 91)) _ rfl (fun w' hS' => ?_) ?_; rotate_left
                      · simp only [lookP, allP, Act.put, List.getElem?_cons_zero, List.getElem?_cons_succ, List.setIfInBounds_toArray, List.set_cons_zero, List.set_cons_succ]
                        refine ⟨by kernel_rfl, ?_⟩
                        (try dsimp only at hS')
                        go_simp
                        (try with_reducible rfl)
                      -- 20: fieldAddr 51 t8 3
                      refine' chainP_readG (d := (some 92)) _ rfl (fun w' hS' => ?_) ?_; rotate_left
                      · simp only [lookP, allP, Act.put, List.getElem?_cons_zero, List.getElem?_cons_succ, List.setIfInBounds_toArray, List.set_cons_zero, List.set_cons_succ]
                        refine ⟨by kernel_rfl, ?_⟩
                        (try dsimp only at hS')
                        go_simp
                        (try with_reducible rfl)
                      -- 21: load 3 t92
                      refine' chainP_readG (d := (some 93)) _ rfl (fun w' hS' => ?_) ?_; rotate_left
                      · simp only [lookP, allP, Act.put, List.getElem?_cons_zero, List.getElem?_cons_succ, List.setIfInBounds_toArray, List.set_cons_zero, List.set_cons_succ]
                        refine ⟨by kernel_rfl, ?_⟩
                        (try dsimp only at hS')
                        go_simp
                        (try with_reducible rfl)
                      -- 22: move t9
                      refine' chainP_readG (d := (some 94)) _ rfl (fun w' hS' => ?_) ?_; rotate_left
                      · simp only [lookP, allP, Act.put, List.getElem?_cons_zero, List.getElem?_cons_succ, List.setIfInBounds_toArray, List.set_cons_zero, List.set_cons_succ]
                        refine ⟨by kernel_rfl, ?_⟩
                        (try dsimp only at hS')
                        go_simp
                        (try with_reducible rfl)
                      -- 23: move t10
                      refine' chainP_readG (d := (some 95)) _ rfl (fun w' hS' => ?_) ?_; rotate_left
                      · simp only [lookP, allP, Act.put, List.getElem?_cons_zero, List.getElem?_cons_succ, List.setIfInBounds_toArray, List.set_cons_zero, List.set_cons_succ]
                        refine ⟨by kernel_rfl, ?_⟩
                        (try dsimp only at hS')
                        go_simp
                        (try with_reducible rfl)
                      -- 24: call { callee := value (func 160), args := #[t89, t91, t93, t94, t95], argTypes := #[25, 3, 3, 3, 3] }
                      refine chainP_callG (d := (some 96)) (.agg #[.int .i64 X2, .int .i64 ah, .int .i64 ar]) rfl (fun w' hS' => ?_) ?_
                      · simp only [lookP, allP, Act.put, List.getElem?_cons_zero, List.getElem?_cons_succ, List.setIfInBounds_toArray, List.set_cons_zero, List.set_cons_succ]
                        refine ⟨by kernel_rfl, ?_⟩
                        intro K hK
                        go_simp
                        go_at_call 121
                        refine (spec_xSimulate gr z.g2 z.y2 ah ar _ HG.out HZS.out.2.2.1 HZS.out.2.2.2 HAH.out HAR.out).mono ?_
                        rintro e u ⟨rfl, hq⟩
                        rw [HX2.out]
                        exact hK.out _ hq
                      -- 25: field 58 t96 0
                      refine' chainP_readG (d := (some 97)) _ rfl (fun w' hS' => ?_) ?_; rotate_left
                      · simp only [lookP, allP, Act.put, List.getElem?_cons_zero, List.getElem?_cons_succ, List.setIfInBounds_toArray, List.set_cons_zero, List.set_cons_succ]
                        refine ⟨by kernel_rfl, ?_⟩
                        (try dsimp only at hS')
                        go_simp
                        (try with_reducible rfl)
                      -- 26: fieldAddr 63 t5 0
                      refine' chainP_readG (d := (some 98)) _ rfl (fun w' hS' => ?_) ?_; rotate_left
                      · simp only [lookP, allP, Act.put, List.getElem?_cons_zero, List.getElem?_cons_succ, List.setIfInBounds_toArray, List.set_cons_zero, List.set_cons_succ]
                        refine ⟨by kernel_rfl, ?_⟩
                        (try dsimp only at hS')
                        go_simp
                        (try with_reducible rfl)
                      -- 27: load 26 t98
                      refine' chainP_readG (d := (some 99)) _ rfl (fun w' hS' => ?_) ?_; rotate_left
                      · simp only [lookP, allP, Act.put, List.getElem?_cons_zero, List.getElem?_cons_succ, List.setIfInBounds_toArray, List.set_cons_zero, List.set_cons_succ]
                        refine ⟨by kernel_rfl, ?_⟩
                        (try dsimp only at hS')
                        go_simp
                        (try with_reducible rfl)
                      -- 28: move t7
                      refine' chainP_readG (d := (some 100)) _ rfl (fun w' hS' => ?_) ?_; rotate_left
                      · simp only [lookP, allP, Act.put, List.getElem?_cons_zero, List.getElem?_cons_succ, List.setIfInBounds_toArray, List.set_cons_zero, List.set_cons_succ]
                        refine ⟨by kernel_rfl, ?_⟩
                        (try dsimp only at hS')
                        go_simp
                        (try with_reducible rfl)
                      -- 29: binOp Binmul 3 (const (int i64 2)) t100 3
                      refine' chainP_readG (d := (some 101)) _ rfl (fun w' hS' => ?_) ?_; rotate_left
                      · simp only [lookP, allP, Act.put, List.getElem?_cons_zero, List.getElem?_cons_succ, List.setIfInBounds_toArray, List.set_cons_zero, List.set_cons_succ]
                        refine ⟨by kernel_rfl, ?_⟩
                        (try dsimp only at hS')
                        go_simp
                        (try with_reducible rfl)
                      -- 30: binOp Binadd 3 t101 (const (int i64 1)) 3
                      refine' chainP_readG (d := (some 102)) _ rfl (fun w' hS' => ?_) ?_; rotate_left
                      · simp only [lookP, allP, Act.put, List.getElem?_cons_zero, List.getElem?_cons_succ, List.setIfInBounds_toArray, List.set_cons_zero, List.set_cons_succ]
                        refine ⟨by kernel_rfl, ?_⟩
                        (try dsimp only at hS')
                        go_simp
                        (try with_reducible rfl)
                      -- 31: indexAddr 26 t99 t102
                      refine' chainP_readG (d := (some 103)) _ rfl (fun w' hS' => ?_) ?_; rotate_left
                      · simp only [lookP, allP, Act.put, List.getElem?_cons_zero, List.getElem?_cons_succ, List.setIfInBounds_toArray, List.set_cons_zero, List.set_cons_succ]
                        refine ⟨by kernel_rfl, ?_⟩
                        (try dsimp only at hS')
                        go_simp
                        (try with_reducible rfl)
                      -- 32: load 3 t103
                      refine' chainP_readG (d := (some 104)) _ rfl (fun w' hS' => ?_) ?_; rotate_left
                      · simp only [lookP, allP, Act.put, List.getElem?_cons_zero, List.getElem?_cons_succ, List.setIfInBounds_toArray, List.set_cons_zero, List.set_cons_succ]
                        refine ⟨by kernel_rfl, ?_⟩
                        (try dsimp only at hS')
                        go_simp
                        (try with_reducible rfl)
                      -- 33: binOp Binneq 3 t97 t104 3
                      refine' chainP_readG (d := (some 105)) _ rfl (fun w' hS' => ?_) ?_; rotate_left
                      · simp only [lookP, allP, Act.put, List.getElem?_cons_zero, List.getElem?_cons_succ, List.setIfInBounds_toArray, List.set_cons_zero, List.set_cons_succ]
                        refine ⟨by kernel_rfl, ?_⟩
                        (try dsimp only at hS')
                        go_simp
                        (try with_reducible rfl)
                      -- 34: pick t88 (const (bool true)) t105
                      refine' chainP_read (d := (some 106)) _ rfl rfl (fun w' hS' => ?_) ?_; rotate_left
                      · simp only [lookP, allP, Act.put, List.getElem?_cons_zero, List.getElem?_cons_succ, List.setIfInBounds_toArray, List.set_cons_zero, List.set_cons_succ]
                        (try dsimp only at hS')
                        go_simp
                        (try with_reducible rfl)
                      refine chainP_nil (fun ub hS' => ?_)
                      simp only [allP, Act.put, List.setIfInBounds_toArray, List.set_cons_zero, List.set_cons_succ]
                      have hq1 := hS'.1
                      clear hS'
                      replace hc := Below.next hc hq1
                      replace c0_0 := box_at c0_0 hq1
                      replace c0_1 := box_at c0_1 hq1
                      replace c0_2 := box_at c0_2 hq1
                      replace c1_0 := box_at c1_0 hq1
                      replace c1_1 := box_at c1_1 hq1
                      replace c1_2 := box_at c1_2 hq1
                      replace x_z_0 := box_at x_z_0 hq1
                      replace x_z_1 := box_at x_z_1 hq1
                      replace x_z_2 := box_at x_z_2 hq1
                      replace x_z_3 := box_at x_z_3 hq1
                      replace y_h := box_at y_h hq1
                      replace y_r := box_at y_r hq1
                      replace y_c0 := box_at y_c0 hq1
                      replace y_c1 := box_at y_c1 hq1
                      clear hq1
                      go_wp2_with fail
                      refine NoPanic.normal ?_
                      clear c0_0 c0_1 c0_2 c1_0 c1_1 c1_2 x_z_0 x_z_1 x_z_2 x_z_3 y_h y_r y_c0 y_c1
                      go_wp2_with fail
                      have HVN : Hid (voK gr l d k = false) := by unfold Hid; (rw [HVK.out, bne_t q2, Bool.and_false]; try rfl)
                      have HVV : Hid ((.bool (fulB gr l d) : Value) = .bool false) := by
                        have h1 := HVB0.out (range_all_not HK.out HVN.out)
                        unfold Hid; rw [h1]
                      go_ret
                      exact ⟨congrArg Ending.returned HVV.out.symm, HBW0.out.trans (hc.mono HBW0.out.size)⟩
                    | false =>
                      try (go_wp2_with fail)
                      refine wp_region_noPanic ?_
                      refine wp_region_P (fun w' => w'.cell? ⟨w.heap.size, 0, none⟩ = some (.int .i64 gr.p) ∧ w'.cell? ⟨w.heap.size, 1, none⟩ = some (.int .i64 gr.q) ∧ w'.cell? ⟨w.heap.size, 2, none⟩ = some (.int .i64 gr.g) ∧ w'.cell? ⟨(w.heap.size + 1), 0, none⟩ = some (.slice (some ⟨bc, oc, none⟩) xcn xcc) ∧ w'.cell? ⟨(w.heap.size + 1), 1, none⟩ = some (.slice (some ⟨bh, oh, none⟩) xhn xhc) ∧ w'.cell? ⟨(w.heap.size + 1), 2, none⟩ = some (.slice (some ⟨br, od, none⟩) xrn xrc) ∧ w'.cell? ⟨wr.heap.size, 0, none⟩ = some (.int .i64 z.g1) ∧ w'.cell? ⟨wr.heap.size, 1, none⟩ = some (.int .i64 z.y1) ∧ w'.cell? ⟨wr.heap.size, 2, none⟩ = some (.int .i64 z.g2) ∧ w'.cell? ⟨wr.heap.size, 3, none⟩ = some (.int .i64 z.y2) ∧ w'.cell? ⟨bh, oh + k, none⟩ = some (.int .i64 ah) ∧ w'.cell? ⟨br, od + k, none⟩ = some (.int .i64 ar) ∧ w'.cell? ⟨bc, oc + m0, none⟩ = some (.int .i64 ac0) ∧ w'.cell? ⟨bc, oc + m1, none⟩ = some (.int .i64 ac1)) 37 [(0, []), (1, []), (2, [0]), (3, []), (4, [0]), (5, []), (6, []), (7, [6, 4, 2, 1, 0]), (8, [0]), (9, []), (10, [0]), (11, []), (12, [0]), (13, [2, 0]), (14, [0]), (15, [6, 0]), (16, [0]), (17, [0]), (18, [1]), (19, [0, 2]), (20, [3]), (21, [0, 4]), (22, [5]), (23, [6]), (24, [6, 4, 2, 1, 0, 7]), (25, [0, 8]), (26, [9]), (27, [0, 10]), (28, [11]), (29, [0, 12]), (30, [0, 13]), (31, [3, 0, 14]), (32, [0, 15]), (33, [7, 0, 16]), (34, [17, 0])] [] (by kernel_rfl) (by kernel_rfl) (by kernel_rfl) rfl (fun _ _ _ _ h => h) (fun w' h => ⟨box_at c0_0 h, box_at c0_1 h, box_at c0_2 h, box_at c1_0 h, box_at c1_1 h, box_at c1_2 h, box_at x_z_0 h, box_at x_z_1 h, box_at x_z_2 h, box_at x_z_3 h, box_at y_h h, box_at y_r h, box_at y_c0 h, box_at y_c1 h⟩) ?_
                      simp only [pickP, pickN, List.getElem?_cons_zero, List.getElem?_cons_succ]
                      iterate 7 (refine' chainP_read _ rfl rfl (fun w' hS' => ?_) ?_; rotate_left; · (simp only [lookP, allP, Act.put, List.getElem?_cons_zero, List.getElem?_cons_succ, List.setIfInBounds_toArray, List.set_cons_zero, List.set_cons_succ]; (try dsimp only at hS'); go_simp; (try with_reducible rfl)))
                      -- 7: call { callee := value (func 160), args := #[t72, t74, t76, t77, t78], argTypes := #[25, 3, 3, 3, 3] }
                      refine chainP_call (d := (some 79)) (.agg #[.int .i64 X1, .int .i64 ah, .int .i64 ar]) rfl rfl (fun w' hS' => ?_) ?_
                      · simp only [lookP, allP, Act.put, List.getElem?_cons_zero, List.getElem?_cons_succ, List.setIfInBounds_toArray, List.set_cons_zero, List.set_cons_succ]
                        intro K hK
                        go_simp
                        go_at_call 121
                        refine (spec_xSimulate gr z.g1 z.y1 ah ar _ HG.out HZS.out.1 HZS.out.2.1 HAH.out HAR.out).mono ?_
                        rintro e u ⟨rfl, hq⟩
                        rw [HX1.out]
                        exact hK.out _ hq
                      iterate 9 (refine' chainP_read _ rfl rfl (fun w' hS' => ?_) ?_; rotate_left; · (simp only [lookP, allP, Act.put, List.getElem?_cons_zero, List.getElem?_cons_succ, List.setIfInBounds_toArray, List.set_cons_zero, List.set_cons_succ]; (try dsimp only at hS'); go_simp; (try with_reducible rfl)))
                      -- 17: load 25 t3
                      refine' chainP_readG (d := (some 89)) _ rfl (fun w' hS' => ?_) ?_; rotate_left
                      · simp only [lookP, allP, Act.put, List.getElem?_cons_zero, List.getElem?_cons_succ, List.setIfInBounds_toArray, List.set_cons_zero, List.set_cons_succ]
                        refine ⟨by kernel_rfl, ?_⟩
                        (try dsimp only at hS')
                        go_simp
                        (try with_reducible rfl)
                      -- 18: fieldAddr 51 t8 2
                      refine' chainP_readG (d := (some 90)) _ rfl (fun w' hS' => ?_) ?_; rotate_left
                      · simp only [lookP, allP, Act.put, List.getElem?_cons_zero, List.getElem?_cons_succ, List.setIfInBounds_toArray, List.set_cons_zero, List.set_cons_succ]
                        refine ⟨by kernel_rfl, ?_⟩
                        (try dsimp only at hS')
                        go_simp
                        (try with_reducible rfl)
                      -- 19: load 3 t90
                      refine' chainP_readG (d := (some 91)) _ rfl (fun w' hS' => ?_) ?_; rotate_left
                      · simp only [lookP, allP, Act.put, List.getElem?_cons_zero, List.getElem?_cons_succ, List.setIfInBounds_toArray, List.set_cons_zero, List.set_cons_succ]
                        refine ⟨by kernel_rfl, ?_⟩
                        (try dsimp only at hS')
                        go_simp
                        (try with_reducible rfl)
                      -- 20: fieldAddr 51 t8 3
                      refine' chainP_readG (d := (some 92)) _ rfl (fun w' hS' => ?_) ?_; rotate_left
                      · simp only [lookP, allP, Act.put, List.getElem?_cons_zero, List.getElem?_cons_succ, List.setIfInBounds_toArray, List.set_cons_zero, List.set_cons_succ]
                        refine ⟨by kernel_rfl, ?_⟩
                        (try dsimp only at hS')
                        go_simp
                        (try with_reducible rfl)
                      -- 21: load 3 t92
                      refine' chainP_readG (d := (some 93)) _ rfl (fun w' hS' => ?_) ?_; rotate_left
                      · simp only [lookP, allP, Act.put, List.getElem?_cons_zero, List.getElem?_cons_succ, List.setIfInBounds_toArray, List.set_cons_zero, List.set_cons_succ]
                        refine ⟨by kernel_rfl, ?_⟩
                        (try dsimp only at hS')
                        go_simp
                        (try with_reducible rfl)
                      -- 22: move t9
                      refine' chainP_readG (d := (some 94)) _ rfl (fun w' hS' => ?_) ?_; rotate_left
                      · simp only [lookP, allP, Act.put, List.getElem?_cons_zero, List.getElem?_cons_succ, List.setIfInBounds_toArray, List.set_cons_zero, List.set_cons_succ]
                        refine ⟨by kernel_rfl, ?_⟩
                        (try dsimp only at hS')
                        go_simp
                        (try with_reducible rfl)
                      -- 23: move t10
                      refine' chainP_readG (d := (some 95)) _ rfl (fun w' hS' => ?_) ?_; rotate_left
                      · simp only [lookP, allP, Act.put, List.getElem?_cons_zero, List.getElem?_cons_succ, List.setIfInBounds_toArray, List.set_cons_zero, List.set_cons_succ]
                        refine ⟨by kernel_rfl, ?_⟩
                        (try dsimp only at hS')
                        go_simp
                        (try with_reducible rfl)
                      -- 24: call { callee := value (func 160), args := #[t89, t91, t93, t94, t95], argTypes := #[25, 3, 3, 3, 3] }
                      refine chainP_callG (d := (some 96)) (.agg #[.int .i64 X2, .int .i64 ah, .int .i64 ar]) rfl (fun w' hS' => ?_) ?_
                      · simp only [lookP, allP, Act.put, List.getElem?_cons_zero, List.getElem?_cons_succ, List.setIfInBounds_toArray, List.set_cons_zero, List.set_cons_succ]
                        refine ⟨by kernel_rfl, ?_⟩
                        intro K hK
                        go_simp
                        go_at_call 121
                        refine (spec_xSimulate gr z.g2 z.y2 ah ar _ HG.out HZS.out.2.2.1 HZS.out.2.2.2 HAH.out HAR.out).mono ?_
                        rintro e u ⟨rfl, hq⟩
                        rw [HX2.out]
                        exact hK.out _ hq
                      -- 25: field 58 t96 0
                      refine' chainP_readG (d := (some 97)) _ rfl (fun w' hS' => ?_) ?_; rotate_left
                      · simp only [lookP, allP, Act.put, List.getElem?_cons_zero, List.getElem?_cons_succ, List.setIfInBounds_toArray, List.set_cons_zero, List.set_cons_succ]
                        refine ⟨by kernel_rfl, ?_⟩
                        (try dsimp only at hS')
                        go_simp
                        (try with_reducible rfl)
                      -- 26: fieldAddr 63 t5 0
                      refine' chainP_readG (d := (some 98)) _ rfl (fun w' hS' => ?_) ?_; rotate_left
                      · simp only [lookP, allP, Act.put, List.getElem?_cons_zero, List.getElem?_cons_succ, List.setIfInBounds_toArray, List.set_cons_zero, List.set_cons_succ]
                        refine ⟨by kernel_rfl, ?_⟩
                        (try dsimp only at hS')
                        go_simp
                        (try with_reducible rfl)
                      -- 27: load 26 t98
                      refine' chainP_readG (d := (some 99)) _ rfl (fun w' hS' => ?_) ?_; rotate_left
                      · simp only [lookP, allP, Act.put, List.getElem?_cons_zero, List.getElem?_cons_succ, List.setIfInBounds_toArray, List.set_cons_zero, List.set_cons_succ]
                        refine ⟨by kernel_rfl, ?_⟩
                        (try dsimp only at hS')
                        go_simp
                        (try with_reducible rfl)
                      -- 28: move t7
                      refine' chainP_readG (d := (some 100)) _ rfl (fun w' hS' => ?_) ?_; rotate_left
                      · simp only [lookP, allP, Act.put, List.getElem?_cons_zero, List.getElem?_cons_succ, List.setIfInBounds_toArray, List.set_cons_zero, List.set_cons_succ]
                        refine ⟨by kernel_rfl, ?_⟩
                        (try dsimp only at hS')
                        go_simp
                        (try with_reducible rfl)
                      -- 29: binOp Binmul 3 (const (int i64 2)) t100 3
                      refine' chainP_readG (d := (some 101)) _ rfl (fun w' hS' => ?_) ?_; rotate_left
                      · simp only [lookP, allP, Act.put, List.getElem?_cons_zero, List.getElem?_cons_succ, List.setIfInBounds_toArray, List.set_cons_zero, List.set_cons_succ]
                        refine ⟨by kernel_rfl, ?_⟩
                        (try dsimp only at hS')
                        go_simp
                        (try with_reducible rfl)
                      -- 30: binOp Binadd 3 t101 (const (int i64 1)) 3
                      refine' chainP_readG (d := (some 102)) _ rfl (fun w' hS' => ?_) ?_; rotate_left
                      · simp only [lookP, allP, Act.put, List.getElem?_cons_zero, List.getElem?_cons_succ, List.setIfInBounds_toArray, List.set_cons_zero, List.set_cons_succ]
                        refine ⟨by kernel_rfl, ?_⟩
                        (try dsimp only at hS')
                        go_simp
                        (try with_reducible rfl)
                      -- 31: indexAddr 26 t99 t102
                      refine' chainP_readG (d := (some 103)) _ rfl (fun w' hS' => ?_) ?_; rotate_left
                      · simp only [lookP, allP, Act.put, List.getElem?_cons_zero, List.getElem?_cons_succ, List.setIfInBounds_toArray, List.set_cons_zero, List.set_cons_succ]
                        refine ⟨by kernel_rfl, ?_⟩
                        (try dsimp only at hS')
                        go_simp
                        (try with_reducible rfl)
                      -- 32: load 3 t103
                      refine' chainP_readG (d := (some 104)) _ rfl (fun w' hS' => ?_) ?_; rotate_left
                      · simp only [lookP, allP, Act.put, List.getElem?_cons_zero, List.getElem?_cons_succ, List.setIfInBounds_toArray, List.set_cons_zero, List.set_cons_succ]
                        refine ⟨by kernel_rfl, ?_⟩
                        (try dsimp only at hS')
                        go_simp
                        (try with_reducible rfl)
                      -- 33: binOp Binneq 3 t97 t104 3
                      refine' chainP_readG (d := (some 105)) _ rfl (fun w' hS' => ?_) ?_; rotate_left
                      · simp only [lookP, allP, Act.put, List.getElem?_cons_zero, List.getElem?_cons_succ, List.setIfInBounds_toArray, List.set_cons_zero, List.set_cons_succ]
                        refine ⟨by kernel_rfl, ?_⟩
                        (try dsimp only at hS')
                        go_simp
                        (try with_reducible rfl)
                      -- 34: pick t88 (const (bool true)) t105
                      refine' chainP_read (d := (some 106)) _ rfl rfl (fun w' hS' => ?_) ?_; rotate_left
                      · simp only [lookP, allP, Act.put, List.getElem?_cons_zero, List.getElem?_cons_succ, List.setIfInBounds_toArray, List.set_cons_zero, List.set_cons_succ]
                        (try dsimp only at hS')
                        go_simp
                        (try with_reducible rfl)
                      refine chainP_nil (fun ub hS' => ?_)
                      simp only [allP, Act.put, List.setIfInBounds_toArray, List.set_cons_zero, List.set_cons_succ]
                      have hq1 := hS'.1
                      clear hS'
                      replace hc := Below.next hc hq1
                      replace c0_0 := box_at c0_0 hq1
                      replace c0_1 := box_at c0_1 hq1
                      replace c0_2 := box_at c0_2 hq1
                      replace c1_0 := box_at c1_0 hq1
                      replace c1_1 := box_at c1_1 hq1
                      replace c1_2 := box_at c1_2 hq1
                      replace x_z_0 := box_at x_z_0 hq1
                      replace x_z_1 := box_at x_z_1 hq1
                      replace x_z_2 := box_at x_z_2 hq1
                      replace x_z_3 := box_at x_z_3 hq1
                      replace y_h := box_at y_h hq1
                      replace y_r := box_at y_r hq1
                      replace y_c0 := box_at y_c0 hq1
                      replace y_c1 := box_at y_c1 hq1
                      clear hq1
                      go_wp2_with fail
                      refine NoPanic.normal ?_
                      clear c0_0 c0_1 c0_2 c1_0 c1_1 c1_2 x_z_0 x_z_1 x_z_2 x_z_3 y_h y_r y_c0 y_c1
                      have HVN : Hid (voK gr l d k = true) := by unfold Hid; rw [HVK.out]; rw [bne_f q1, bne_f q2]; rfl
                      have HC2 := Lib.hid hc
                      clear hc
                      go_wp2_with fail
                      go_roundg (evn - (k + 1))
                      case measure => exact hgl hlt
                      case rel => exact ⟨k + 1, by have := HKG.out; omega, by go_num, range_all_succ HALL.out HVN.out, HBV.out.trans (HC2.out.mono HBV.out.size)⟩
                · have HAL : Hid ((List.range l.length).all (voK gr l d) = true) := by
                    unfold Hid
                    rw [show l.length = k by have := Eev.out; have := HKG.out; omega]; exact HALL.out
                  have HVV : Hid ((.bool (fulB gr l d) : Value) = .bool true) := by have h1 := HVB1.out HAL.out; unfold Hid; rw [h1]
                  go_wp2_with fail
                  go_ret
                  exact ⟨congrArg Ending.returned HVV.out.symm, HBW.out⟩
      | true =>
        have HLRd : Hid (decide (d.r.length = l.length) = false) := by have q := hc3; rw [bne_iff_ne] at q; exact decide_eq_false (by have := Exr.out; have := Eev.out; omega)
        go_wp2_with fail
        have HV : Hid ((.bool (fulB gr l d) : Value) = .bool false) := by unfold Hid; simp [fulB, vofB, HLCd.out, HLHd.out, HLRd.out]
        go_ret
        exact ⟨congrArg Ending.returned HV.out.symm, HB.out.trans (hc.mono HB.out.size)⟩
    | true =>
      have HLHd : Hid (decide (d.h.length = l.length) = false) := by have q := hc2; rw [bne_iff_ne] at q; exact decide_eq_false (by have := Exh.out; have := Eev.out; omega)
      go_wp2_with fail
      have HV : Hid ((.bool (fulB gr l d) : Value) = .bool false) := by unfold Hid; simp [fulB, vofB, HLCd.out, HLHd.out]
      go_ret
      exact ⟨congrArg Ending.returned HV.out.symm, HB.out.trans (hc.mono HB.out.size)⟩
  | true =>
    have HLCd : Hid (decide (d.c.length = 2 * l.length) = false) := by have q := hc1; rw [bne_iff_ne] at q; exact decide_eq_false (by have := Exc.out; have := Eev.out; omega)
    go_wp2_with fail
    have HV : Hid ((.bool (fulB gr l d) : Value) = .bool false) := by unfold Hid; simp [fulB, vofB, HLCd.out]
    go_ret
    exact ⟨congrArg Ending.returned HV.out.symm, HB.out.trans (hc.mono HB.out.size)⟩
end Go.Proofs.Ytegomgnlhcbmfaa
