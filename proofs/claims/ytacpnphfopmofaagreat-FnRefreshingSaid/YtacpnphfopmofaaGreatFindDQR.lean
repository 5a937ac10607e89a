/- Refreshing: RefreshKey (printed by gen_rf3.py). -/
import Derived.Test.YtacpnphfopmofaaGreatDrZ2R
import Derived.Test.YtacpnphfopmofaaGreatFindRR
import Derived.Test.YtacpnphfopmofaaGreatSh2R
namespace Go.Proofs.YtacpnphfopmofaaGreat
open Go.RowKit
set_option linter.unusedSimpArgs false
set_option linter.unusedVariables false

noncomputable def rfR (gr : GroupD) (k : DealingD) (l : List DealingD) : DealingD := if rkB gr k l = true then rfD gr k l else ⟨[], []⟩
noncomputable def rfL (gr : GroupD) (k : DealingD) (l : List DealingD) : List Int := if rkB gr k l = true then rfO gr k l l.length else []
/-- a key in new memory, a list and a Bool are returned -/
def RetDLB (e : Ending) (w : World) (d : DealingD) (l : List Int) (b : Bool) : Prop := ∃ x y v, e = .returned (.tuple #[.agg #[x, y], v, .bool b]) ∧ Ints w x d.c ∧ Ints w y d.s ∧ Ints w v l
theorem RetDLB.mk {w : World} {x y v : Value} {d : DealingD} {l : List Int} {b : Bool} (h1 : Ints w x d.c) (h2 : Ints w y d.s) (h3 : Ints w v l) : RetDLB (.returned (.tuple #[.agg #[x, y], v, .bool b])) w d l b := ⟨x, y, v, rfl, h1, h2, h3⟩
theorem rfU_yes {gr : GroupD} {k : DealingD} {l : List DealingD} {n : Nat} {d : DealingD} {us : List DealingD} {os : List Int} (hd : atD l n = d) (h1 : rfU gr k l n = us) (h2 : rfO gr k l n = os) (hs : smB d k = true) (hz : zeB gr d 0 = true) : rfU gr k l (n + 1) = us ++ [d] ∧ rfO gr k l (n + 1) = os := by
  unfold rfU rfO
  rw [hd, hs, hz, h1, h2]; exact ⟨rfl, rfl⟩
theorem rfU_no {gr : GroupD} {k : DealingD} {l : List DealingD} {n : Nat} {d : DealingD} {us : List DealingD} {os : List Int} (hd : atD l n = d) (h1 : rfU gr k l n = us) (h2 : rfO gr k l n = os) (hs : (smB d k && zeB gr d 0) = false) : rfU gr k l (n + 1) = us ∧ rfO gr k l (n + 1) = os ++ [(n : Int)] := by
  unfold rfU rfO
  rw [hd, hs, h1, h2]; exact ⟨rfl, rfl⟩
theorem Ints.oth {w : World} {B b : Nat} {v : Value} {l : List Int} (h : OwnI w B v l) (hb : b < B) (j : Nat) (x : Value) : OwnI (w.setCell ⟨b, j, none⟩ x) B v l := h.other hb j x
set_option maxRecDepth 100000 in
set_option maxHeartbeats 2000000 in
theorem impl_RefreshKey (gr : GroupD) (kv lv : Value) (k : DealingD) (l : List DealingD) (w : World) (hk : DlR w kv k) (hl : RdR rDealing w lv l) (hln : l.length ≤ 6) :
    Calls Tryz.prog 6 #[.agg #[.int .i64 gr.p, .int .i64 gr.q, .int .i64 gr.g], kv, lv] w fun e w' => RetDLB e w' (rfR gr k l) (rfL gr k l) (rkB gr k l) ∧ Below w.heap.size w w' := by
  have HLN := Lib.hid hln
  clear hln
  obtain ⟨xcv, xsv, rfl, hxc, hxs⟩ := hk
  obtain ⟨xca, xcn, xcc, rfl⟩ := hxc.shape
  have Exc := Lib.hid hxc.len
  have Kxc := Lib.hid hxc.capMax
  have Hxc := Lib.hid hxc
  clear hxc
  obtain ⟨xsa, xsn, xsc, rfl⟩ := hxs.shape
  have Exs := Lib.hid hxs.len
  have Kxs := Lib.hid hxs.capMax
  have Hxs := Lib.hid hxs
  clear hxs
  obtain ⟨lva, lvn, lvc, rfl⟩ := hl.shape
  have Elv := Lib.hid hl.len
  have Klv := Lib.hid hl.capMax
  have Hlv := Lib.hid hl
  clear hl
  obtain ⟨W, hW⟩ : ∃ W, W = ((w.alloc (.cells #[.int .i64 gr.p, .int .i64 gr.q, .int .i64 gr.g] 24)).alloc (.cells #[(.slice xca xcn xcc), (.slice xsa xsn xsc)] 27)).alloc (.cells #[(.slice none 0 0), (.slice none 0 0)] 27) := ⟨_, rfl⟩
  have HB : Hid (Below w.heap.size w W) := by unfold Hid; rw [hW]; (repeat (first | exact Below.refl _ _ | assumption | refine Below.drew ?_ | refine Below.alloc ?_ (by first | (simp; done) | (simp; omega)) _ | refine Below.setCell ?_ (by first | (simp; done) | (simp; omega)) _))
  have c0_0 : W.cell? ⟨w.heap.size, 0, none⟩ = some (.int .i64 gr.p) := by rw [hW]; simp [go_sem]
  have c0_1 : W.cell? ⟨w.heap.size, 1, none⟩ = some (.int .i64 gr.q) := by rw [hW]; simp [go_sem]
  have c0_2 : W.cell? ⟨w.heap.size, 2, none⟩ = some (.int .i64 gr.g) := by rw [hW]; simp [go_sem]
  have c1_0 : W.cell? ⟨w.heap.size + 1, 0, none⟩ = some ((.slice xca xcn xcc)) := by rw [hW]; simp [go_sem]
  have c1_1 : W.cell? ⟨w.heap.size + 1, 1, none⟩ = some ((.slice xsa xsn xsc)) := by rw [hW]; simp [go_sem]
  have HR2 : Hid (BoxN W (w.heap.size + 1 + 1) 27 [(.slice none 0 0), (.slice none 0 0)]) := by unfold Hid; rw [hW]; have h := (BoxN.new ((w.alloc (.cells #[.int .i64 gr.p, .int .i64 gr.q, .int .i64 gr.g] 24)).alloc (.cells #[(.slice xca xcn xcc), (.slice xsa xsn xsc)] 27)) [(.slice none 0 0), (.slice none 0 0)] 27); simpa using h
  have HSW : Hid (W.heap.size = w.heap.size + 3) := by unfold Hid; rw [hW]; simp
  have lr2 : w.heap.size + 1 + 1 < W.heap.size := by have := HSW.out; omega
  go_enter Tryz.func6, Tryz.ntmps6
  go_wp2_with fail
  rw [← hW]
  have hse : w.heap.size + 1 + 1 + 1 = W.heap.size := by have := HSW.out; omega
  (try rw [hse])
  clear hse
  clear hW
  have hc : Below W.heap.size W W := Below.refl _ _
  have HCC : Hid (∀ u, Below W.heap.size W u → u.cell? ⟨w.heap.size, 0, none⟩ = some (.int .i64 gr.p) ∧ u.cell? ⟨w.heap.size, 1, none⟩ = some (.int .i64 gr.q) ∧ u.cell? ⟨w.heap.size, 2, none⟩ = some (.int .i64 gr.g) ∧ u.cell? ⟨w.heap.size + 1, 0, none⟩ = some ((.slice xca xcn xcc)) ∧ u.cell? ⟨w.heap.size + 1, 1, none⟩ = some ((.slice xsa xsn xsc))) := fun u h => ⟨box_at c0_0 h, box_at c0_1 h, box_at c0_2 h, box_at c1_0 h, box_at c1_1 h⟩
  go_wp2_with fail
  refine (impl_hasKey gr _ k _ (DlR.mk (Hxc.out.below (HB.out.trans (hc.mono HB.out.size))) (Hxs.out.below (HB.out.trans (hc.mono HB.out.size))))).mono ?_
  rintro e u1 ⟨rfl, hq1⟩
  replace hc := Below.next hc hq1
  clear hq1 c0_0 c0_1 c0_2 c1_0 c1_1
  obtain ⟨c0_0, c0_1, c0_2, c1_0, c1_1⟩ := HCC.out _ hc
  cases hc1 : vdB gr k with
  | false =>
    have Hhc1 := Lib.hid hc1
    clear hc1
    have HRE2 := Lib.hid (HR2.out.below hc)
    clear HR2
    have HBE := Lib.hid (HB.out.trans (hc.mono HB.out.size))
    have r2_0 := HRE2.out.cell (i := 0) rfl
    have r2_1 := HRE2.out.cell (i := 1) rfl
    have fr2 := fun j => HRE2.out.frozen j
    go_wp2_with fail
    have HRF := Lib.hid ((HRE2.out.set 0 ((.slice none 0 0))).set 1 ((.slice none 0 0)))
    have HBF := Lib.hid ((HBE.out.setCell (p := ⟨w.heap.size + 1 + 1, 0, none⟩) (by show w.heap.size ≤ w.heap.size + 1 + 1; omega) ((.slice none 0 0))).setCell (p := ⟨w.heap.size + 1 + 1, 1, none⟩) (by show w.heap.size ≤ w.heap.size + 1 + 1; omega) ((.slice none 0 0)))
    clear r2_0 r2_1 fr2
    have r2_0 := HRF.out.cell (i := 0) rfl
    have r2_1 := HRF.out.cell (i := 1) rfl
    try (go_wp2_with fail)
    have HVB : Hid (rkB gr k l = false) := by unfold Hid; simp [rkB, Hhc1.out]
    have HPR : Hid (rfR gr k l = ⟨[], []⟩ ∧ rfL gr k l = []) := by unfold Hid rfR rfL; rw [if_neg (by rw [HVB.out]; simp), if_neg (by rw [HVB.out]; simp)]; exact ⟨rfl, rfl⟩
    refine bodyPost_ret (v := .tuple #[.agg #[(.slice none 0 0), (.slice none 0 0)], .slice none 0 0, .bool false]) (by simp [results, Tryz.results6, go_sem, r2_0, r2_1]) rfl ⟨(by rw [HVB.out, HPR.out.1, HPR.out.2]; exact RetDLB.mk (Ints.nil _) (Ints.nil _) (Ints.nil _)), HBF.out⟩
  | true =>
    have HVK := Lib.hid hc1
    have HG := Lib.hid (vdB_parts hc1).1
    have HDK := Lib.hid (vdB_parts hc1).2
    have Hhc1 := Lib.hid hc1
    clear hc1
    go_wp2_with fail
    refine (impl_hasDealings gr _ l _ HG.out (Hlv.out.below (HB.out.trans (hc.mono HB.out.size)))).mono ?_
    rintro e u2 ⟨rfl, hq2⟩
    replace hc := Below.next hc hq2
    clear hq2 c0_0 c0_1 c0_2 c1_0 c1_1
    obtain ⟨c0_0, c0_1, c0_2, c1_0, c1_1⟩ := HCC.out _ hc
    cases hc2 : dsB gr l with
    | false =>
      have Hhc2 := Lib.hid hc2
      clear hc2
      have HRE2 := Lib.hid (HR2.out.below hc)
      clear HR2
      have HBE := Lib.hid (HB.out.trans (hc.mono HB.out.size))
      have r2_0 := HRE2.out.cell (i := 0) rfl
      have r2_1 := HRE2.out.cell (i := 1) rfl
      have fr2 := fun j => HRE2.out.frozen j
      go_wp2_with fail
      have HRF := Lib.hid ((HRE2.out.set 0 ((.slice none 0 0))).set 1 ((.slice none 0 0)))
      have HBF := Lib.hid ((HBE.out.setCell (p := ⟨w.heap.size + 1 + 1, 0, none⟩) (by show w.heap.size ≤ w.heap.size + 1 + 1; omega) ((.slice none 0 0))).setCell (p := ⟨w.heap.size + 1 + 1, 1, none⟩) (by show w.heap.size ≤ w.heap.size + 1 + 1; omega) ((.slice none 0 0)))
      clear r2_0 r2_1 fr2
      have r2_0 := HRF.out.cell (i := 0) rfl
      have r2_1 := HRF.out.cell (i := 1) rfl
      try (go_wp2_with fail)
      have HVB : Hid (rkB gr k l = false) := by unfold Hid; simp [rkB, Hhc1.out, Hhc2.out]
      have HPR : Hid (rfR gr k l = ⟨[], []⟩ ∧ rfL gr k l = []) := by unfold Hid rfR rfL; rw [if_neg (by rw [HVB.out]; simp), if_neg (by rw [HVB.out]; simp)]; exact ⟨rfl, rfl⟩
      refine bodyPost_ret (v := .tuple #[.agg #[(.slice none 0 0), (.slice none 0 0)], .slice none 0 0, .bool false]) (by simp [results, Tryz.results6, go_sem, r2_0, r2_1]) rfl ⟨(by rw [HVB.out, HPR.out.1, HPR.out.2]; exact RetDLB.mk (Ints.nil _) (Ints.nil _) (Ints.nil _)), HBF.out⟩
    | true =>
      have HDS := Lib.hid hc2
      have Hhc2 := Lib.hid hc2
      clear hc2
      have HRK : Hid (rkB gr k l = true) := by unfold Hid rkB; rw [HVK.out, HDS.out]; rfl
      have HDE : Hid (∀ d ∈ l, deB gr d = true) := (rkB_parts HRK.out).2.2.2
      have HBS := Lib.hid (HB.out.trans (hc.mono HB.out.size))
      have HRS := Lib.hid (HR2.out.below hc)
      have HLS := Lib.hid (Hlv.out.below HBS.out)
      have HKD : Hid (DlR u2 (.agg #[.slice xca xcn xcc, .slice xsa xsn xsc]) k) := (DlR.mk Hxc.out Hxs.out : DlR w _ k).below HBS.out
      have HWS := Lib.hid hc
      have hlr : w.heap.size + 1 + 1 < u2.heap.size := HRS.out.lt
      have hszS := HBS.out.size
      obtain ⟨V0, hV0⟩ : ∃ V, V = (u2.alloc (.cells #[] 61)).alloc (.cells #[] 3) := ⟨_, rfl⟩
      have hA1 : Below u2.heap.size u2 (u2.alloc (.cells #[] 61)) := (Below.refl _ _).alloc (Nat.le_refl _) _
      have hA2 : Below (u2.alloc (.cells #[] 61)).heap.size (u2.alloc (.cells #[] 61)) V0 := by rw [hV0]; exact (Below.refl _ _).alloc (Nat.le_refl _) _
      have hA3 : (u2.alloc (.cells #[] 61)).heap.size = u2.heap.size + 1 := by simp
      have HM0 : Hid (MixDs u2 V0 u2.heap.size (Value.slice (some ⟨u2.heap.size + 1, 0, none⟩) 0 0).ownBlock (.slice (some ⟨u2.heap.size, 0, none⟩) 0 0) (rfU gr k l 0)) := (MixDs.lit0 (w := u2) (Below.refl _ _) (Nat.le_refl _) (Nat.le_refl _)).below hA2
      have HO0 : Hid (OwnI V0 u2.heap.size (.slice (some ⟨u2.heap.size + 1, 0, none⟩) 0 0) (rfO gr k l 0)) := by
        unfold Hid; rw [hV0, ← hA3]; exact OwnI.lit (B := u2.heap.size) (u2.alloc (.cells #[] 61)) (by simp) AllI64.nil rfl (by simp) 0 rfl
      clear hA1 hA2 hA3
      have lc0 := World.block_lt_of_cell? u2 _ c0_0
      have lc1 := World.block_lt_of_cell? u2 _ c1_0
      go_wp2_with fail
      rw [← hV0]
      clear hV0 lc0 lc1
      clear hc c0_0 c0_1 c0_2 c1_0 c1_1
      go_loopg [9, 10, 28] lvn (fun gk uv ov iv wr => ∃ (j : Nat) (uv' ov' : Value), j + gk = lvn ∧ iv = .int .i64 (j : Int) ∧ Hid (uv = uv' ∧ ov = ov') ∧ Hid (MixDs u2 wr u2.heap.size ov'.ownBlock uv' (rfU gr k l j)) ∧ Hid (OwnI wr u2.heap.size ov' (rfO gr k l j)))
      case atStart => exact ⟨0, _, _, by omega, rfl, Lib.hid ⟨rfl, rfl⟩, HM0, HO0⟩
      case round =>
        clear HM0 HO0
        obtain ⟨j, uv, ov, hkg, rfl, HEQ, HM, HO⟩ := hrel
        obtain ⟨rfl, rfl⟩ := HEQ.out
        clear HEQ
        have HUL := Lib.hid (rfU_len gr k l j)
        have HOL := Lib.hid (rfO_len gr k l j)
        obtain ⟨us, hus⟩ : ∃ z, rfU gr k l j = z := ⟨_, rfl⟩
        obtain ⟨os, hos⟩ : ∃ z, rfO gr k l j = z := ⟨_, rfl⟩
        rw [hus] at HM HUL
        rw [hos] at HO HOL
        have HUS := Lib.hid hus
        have HOS := Lib.hid hos
        clear hus hos
        obtain ⟨ua, uc, rfl⟩ := HM.out.shape
        obtain ⟨oa, oc, rfl⟩ := HO.out.shape
        obtain ⟨un, hun⟩ : ∃ z, us.length = z := ⟨_, rfl⟩
        obtain ⟨on, hon⟩ : ∃ z, os.length = z := ⟨_, rfl⟩
        rw [hun, hon] at HM
        rw [hon] at HO
        rw [hun, hon]
        have HUN := Lib.hid hun
        have HON := Lib.hid hon
        clear hun hon
        have HBR := Lib.hid HM.out.bel
        have hszr := HBR.out.size
        have cc := HCC.out wr (Below.next HWS.out HBR.out)
        by_cases hlt : j < lvn
        · have hgj : lvn - (j + 1) < gk := by omega
          have hwk : IntKind.i64.wrap ((j : Int) + 1) = (j : Int) + 1 := IntWalk.i64_in _ (by have := Elv.out; have := HLN.out; omega)
          have HK : Hid (j < l.length) := by unfold Hid; rw [Elv.out]; exact hlt
          have HAT := Lib.hid (atD_eq HK.out)
          have HDD := Lib.hid (HDE.out _ (List.getElem_mem HK.out))
          obtain ⟨b2, o2, p0, m0, k0, p1, m1, k1, e, y0, y1, f0, f1⟩ := RdDl.get HLS.out HK.out
          have e' := e
          subst e'
          clear e
          generalize l[j]'HK.out = d at f0 f1 HAT HDD
          have y0 := box_at y0 HBR.out
          have y1 := box_at y1 HBR.out
          have HF0 := Lib.hid f0
          have HF1 := Lib.hid f1
          clear f0 f1
          obtain ⟨V, hV⟩ : ∃ V, V = wr.alloc (.cells #[.slice p0 m0 k0, .slice p1 m1 k1] 61) := ⟨_, rfl⟩
          have hbV : Below wr.heap.size wr V := by rw [hV]; exact (Below.refl _ _).alloc (Nat.le_refl _) _
          have HZ : Hid (BoxN V wr.heap.size 61 [.slice p0 m0 k0, .slice p1 m1 k1]) := by unfold Hid; rw [hV]; exact BoxN.new wr _ _
          have HDl : Hid (DlR u2 (.agg #[.slice p0 m0 k0, .slice p1 m1 k1]) d) := DlR.mk HF0.out HF1.out
          have HJI : Hid (I64 (j : Int)) := by have := Elv.out; have := HLN.out; exact ⟨by omega, by omega⟩
          have kk0 : (0 : Int) ≤ (j : Int) := by omega
          have kk1 : (j : Int) < (lvn : Int) := by omega
          have hly := World.block_lt_of_cell? wr _ y0
          obtain ⟨c0_0, c0_1, c0_2, c1_0, c1_1⟩ := cc
          have hl0 := World.block_lt_of_cell? wr _ c0_0
          have hl1 := World.block_lt_of_cell? wr _ c1_0
          go_wp2_with fail
          rw [← hV]
          replace HM := Lib.hid (HM.out.below hbV)
          replace HO := Lib.hid (HO.out.below hbV)
          clear hV y0 y1 kk0 kk1 c0_0 c0_1 c0_2 c1_0 c1_1 hbV hly hl0 hl1 HBR
          have HBV := Lib.hid HM.out.bel
          refine (impl_sameShape _ _ d k _ (HDl.out.below HBV.out) (HKD.out.below HBV.out)).mono ?_
          rintro e u1 ⟨rfl, hq⟩
          replace HM := Lib.hid (HM.out.below hq)
          replace HO := Lib.hid (HO.out.below hq)
          replace HZ := Lib.hid (HZ.out.below hq)
          clear hq HBV
          have HB1 := Lib.hid HM.out.bel
          have hs1 := HB1.out.size
          obtain ⟨c0_0, c0_1, c0_2, c1_0, c1_1⟩ := HCC.out u1 (Below.next HWS.out HB1.out)
          have z0 := HZ.out.cell (i := 0) rfl
          have z1 := HZ.out.cell (i := 1) rfl
          cases hqs : smB d k with
          | false =>
            have HN := Lib.hid (rfU_no HAT.out HUS.out HOS.out (by rw [hqs]; rfl))
            clear hqs
            clear c0_0 c0_1 c0_2 c1_0 c1_1 z0 z1
            have z0 := HZ.out.cell (i := 0) rfl
            have z1 := HZ.out.cell (i := 1) rfl
            go_wp2_with (at_builtin; refine wpList_append_intsU rfl _ _ rfl (HO.out.below ((Below.refl u1.heap.size u1).alloc (Nat.le_refl _) _)) (HM.out.below ((Below.refl u1.heap.size u1).alloc (Nat.le_refl _) _)) (Ints.lit1 _ HJI.out) (by simp) (on + 1) (by rw [HON.out]; rfl) (by have := HOL.out; have := HON.out; have := HLN.out; have := Elv.out; omega) (by simp; omega) rfl rfl ?_; intro a9 c9 w9 hO9 hM9 hb9; have HM9 := Lib.hid hM9; have HO9 := Lib.hid hO9; clear hM9 hb9 hO9)
            go_roundg (lvn - (j + 1))
            case measure => exact hgj
            case rel => exact ⟨j + 1, _, _, by omega, by go_num, Lib.hid ⟨rfl, rfl⟩, by unfold Hid; rw [HN.out.1]; exact HM9.out, by unfold Hid; rw [HN.out.2]; exact HO9.out⟩
          | true =>
            have HQS := Lib.hid hqs
            clear hqs
            go_wp2_with fail
            refine (impl_isZero gr _ d 0 _ HG.out (HDl.out.below HB1.out) HDD.out ⟨by decide, by decide⟩).mono ?_
            rintro e u2 ⟨rfl, hq⟩
            replace HM := Lib.hid (HM.out.below hq)
            replace HO := Lib.hid (HO.out.below hq)
            replace HZ := Lib.hid (HZ.out.below hq)
            clear hq HB1 c0_0 c0_1 c0_2 c1_0 c1_1 z0 z1
            have HB2 := Lib.hid HM.out.bel
            have hs2 := HB2.out.size
            cases hqz : zeB gr d 0 with
            | false =>
              have HN := Lib.hid (rfU_no HAT.out HUS.out HOS.out (by rw [HQS.out, hqz]; rfl))
              clear hqz
              have z0 := HZ.out.cell (i := 0) rfl
              have z1 := HZ.out.cell (i := 1) rfl
              go_wp2_with (at_builtin; refine wpList_append_intsU rfl _ _ rfl (HO.out.below ((Below.refl u2.heap.size u2).alloc (Nat.le_refl _) _)) (HM.out.below ((Below.refl u2.heap.size u2).alloc (Nat.le_refl _) _)) (Ints.lit1 _ HJI.out) (by simp) (on + 1) (by rw [HON.out]; rfl) (by have := HOL.out; have := HON.out; have := HLN.out; have := Elv.out; omega) (by simp; omega) rfl rfl ?_; intro a9 c9 w9 hO9 hM9 hb9; have HM9 := Lib.hid hM9; have HO9 := Lib.hid hO9; clear hM9 hb9 hO9)
              go_roundg (lvn - (j + 1))
              case measure => exact hgj
              case rel => exact ⟨j + 1, _, _, by omega, by go_num, Lib.hid ⟨rfl, rfl⟩, by unfold Hid; rw [HN.out.1]; exact HM9.out, by unfold Hid; rw [HN.out.2]; exact HO9.out⟩
            | true =>
              have HN := Lib.hid (rfU_yes HAT.out HUS.out HOS.out HQS.out hqz)
              clear hqz
              have z0 := HZ.out.cell (i := 0) rfl
              have z1 := HZ.out.cell (i := 1) rfl
              have hzl := HZ.out.lt
              go_wp2_with (at_builtin; refine wpList_append_Mix rfl _ _ rfl rfl rfl (HM.out.below ((Below.refl u2.heap.size u2).alloc (Nat.le_refl _) _)) (d := d) (.inr HF0.out) (.inr HF1.out) (BoxN.new u2 _ _) (by simp; omega) (by have := HUL.out; have := HLN.out; have := Elv.out; omega) (un + 1) (by rw [HUN.out]) ?_; intro a9 c9 w9 hM9 hb9 hk9; have HM9 := Lib.hid hM9; have HO9 := Lib.hid (hk9 _ _ (HO.out.below ((Below.refl u2.heap.size u2).alloc (Nat.le_refl _) _))); clear hM9 hb9 hk9)
              go_roundg (lvn - (j + 1))
              case measure => exact hgj
              case rel => exact ⟨j + 1, _, _, by omega, by go_num, Lib.hid ⟨rfl, rfl⟩, by unfold Hid; rw [HN.out.1]; exact HM9.out, by unfold Hid; rw [HN.out.2]; exact HO9.out⟩
        · obtain rfl : lvn = j := by omega
          have HAL : Hid (alB gr (k :: us) = true) := by
            have h := rfU_al (n := lvn) HRK.out HLN.out (by rw [Elv.out]; exact Nat.le_refl _)
            rw [HUS.out] at h; exact h
          have HFR : Hid (rfR gr k l = smD gr (k :: us)) := by unfold Hid rfR rfD; rw [if_pos HRK.out, Elv.out, HUS.out]
          have HFL : Hid (rfL gr k l = os) := by unfold Hid rfL; rw [if_pos HRK.out, Elv.out, HOS.out]
          have HRD := Lib.hid HM.out.rd
          obtain ⟨c0_0, c0_1, c0_2, c1_0, c1_1⟩ := cc
          go_wp2_with fail
          clear c0_0 c0_1 c0_2 c1_0 c1_1
          refine (impl_plus gr _ _ k us _ HG.out (HKD.out.below HBR.out) HRD.out HAL.out).mono ?_
          rintro e u9 ⟨⟨x, y, rfl, hox, hoy⟩, hb⟩
          have HO9 := Lib.hid (HO.out.below hb)
          have HB9 := Lib.hid (Below.next HBR.out hb)
          have hs9 := hb.size
          clear hb
          obtain ⟨ax, cx, rfl⟩ := OwnI.shapeN (n := (smD gr (k :: us)).c.length) hox rfl
          obtain ⟨ay, cy, rfl⟩ := OwnI.shapeN (n := (smD gr (k :: us)).s.length) hoy rfl
          have HR := Lib.hid (HRS.out.below HB9.out)
          have r0 := HR.out.cell (i := 0) rfl
          have r1 := HR.out.cell (i := 1) rfl
          have fr := fun j => HR.out.frozen j
          go_wp2_with fail
          clear r0 r1 fr
          have HRF := Lib.hid ((HR.out.set 0 (.slice ax (smD gr (k :: us)).c.length cx)).set 1 (.slice ay (smD gr (k :: us)).s.length cy))
          have t0 := HRF.out.cell (i := 0) rfl
          have t1 := HRF.out.cell (i := 1) rfl
          try (go_wp2_with fail)
          refine bodyPost_ret (v := .tuple #[.agg #[.slice ax (smD gr (k :: us)).c.length cx, .slice ay (smD gr (k :: us)).s.length cy], .slice oa on oc, .bool true]) (by simp [results, Tryz.results6, go_sem, t0, t1]) rfl ⟨by rw [HRK.out, HFR.out, HFL.out]; exact RetDLB.mk ((hox.other (b := w.heap.size + 1 + 1) (by omega) 0 (.slice ax (smD gr (k :: us)).c.length cx)).other (b := w.heap.size + 1 + 1) (by omega) 1 (.slice ay (smD gr (k :: us)).s.length cy)).ints ((hoy.other (b := w.heap.size + 1 + 1) (by omega) 0 (.slice ax (smD gr (k :: us)).c.length cx)).other (b := w.heap.size + 1 + 1) (by omega) 1 (.slice ay (smD gr (k :: us)).s.length cy)).ints ((HO9.out.other (b := w.heap.size + 1 + 1) (by omega) 0 (.slice ax (smD gr (k :: us)).c.length cx)).other (b := w.heap.size + 1 + 1) (by omega) 1 (.slice ay (smD gr (k :: us)).s.length cy)).ints, ((HBS.out.trans (HB9.out.mono HBS.out.size)).setCell (p := ⟨w.heap.size + 1 + 1, 0, none⟩) (by show w.heap.size ≤ w.heap.size + 1 + 1; omega) _).setCell (p := ⟨w.heap.size + 1 + 1, 1, none⟩) (by show w.heap.size ≤ w.heap.size + 1 + 1; omega) _⟩
set_option maxRecDepth 100000 in
set_option maxHeartbeats 2000000 in
theorem spec_RefreshKey (gr : GroupD) (kv lv : Value) (k : DealingD) (l : List DealingD) (w : World) (hk : DlR w kv k) (hl : RdR rDealing w lv l) (hln : l.length ≤ 6) :
    Calls Tryz.prog 7 #[.agg #[.int .i64 gr.p, .int .i64 gr.q, .int .i64 gr.g], kv, lv] w fun e w' => RetDLB e w' (rfR gr k l) (rfL gr k l) (rkB gr k l) ∧ Below w.heap.size w w' := by
  have HLN := Lib.hid hln
  clear hln
  obtain ⟨xcv, xsv, rfl, hxc, hxs⟩ := hk
  obtain ⟨xca, xcn, xcc, rfl⟩ := hxc.shape
  have Exc := Lib.hid hxc.len
  have Kxc := Lib.hid hxc.capMax
  have Hxc := Lib.hid hxc
  clear hxc
  obtain ⟨xsa, xsn, xsc, rfl⟩ := hxs.shape
  have Exs := Lib.hid hxs.len
  have Kxs := Lib.hid hxs.capMax
  have Hxs := Lib.hid hxs
  clear hxs
  obtain ⟨lva, lvn, lvc, rfl⟩ := hl.shape
  have Elv := Lib.hid hl.len
  have Klv := Lib.hid hl.capMax
  have Hlv := Lib.hid hl
  clear hl
  obtain ⟨W, hW⟩ : ∃ W, W = ((w.alloc (.cells #[.int .i64 gr.p, .int .i64 gr.q, .int .i64 gr.g] 24)).alloc (.cells #[(.slice xca xcn xcc), (.slice xsa xsn xsc)] 27)).alloc (.cells #[(.slice none 0 0), (.slice none 0 0)] 27) := ⟨_, rfl⟩
  have HB : Hid (Below w.heap.size w W) := by unfold Hid; rw [hW]; (repeat (first | exact Below.refl _ _ | assumption | refine Below.drew ?_ | refine Below.alloc ?_ (by first | (simp; done) | (simp; omega)) _ | refine Below.setCell ?_ (by first | (simp; done) | (simp; omega)) _))
  have c0_0 : W.cell? ⟨w.heap.size, 0, none⟩ = some (.int .i64 gr.p) := by rw [hW]; simp [go_sem]
  have c0_1 : W.cell? ⟨w.heap.size, 1, none⟩ = some (.int .i64 gr.q) := by rw [hW]; simp [go_sem]
  have c0_2 : W.cell? ⟨w.heap.size, 2, none⟩ = some (.int .i64 gr.g) := by rw [hW]; simp [go_sem]
  have c1_0 : W.cell? ⟨w.heap.size + 1, 0, none⟩ = some ((.slice xca xcn xcc)) := by rw [hW]; simp [go_sem]
  have c1_1 : W.cell? ⟨w.heap.size + 1, 1, none⟩ = some ((.slice xsa xsn xsc)) := by rw [hW]; simp [go_sem]
  have HR2 : Hid (BoxN W (w.heap.size + 1 + 1) 27 [(.slice none 0 0), (.slice none 0 0)]) := by unfold Hid; rw [hW]; have h := (BoxN.new ((w.alloc (.cells #[.int .i64 gr.p, .int .i64 gr.q, .int .i64 gr.g] 24)).alloc (.cells #[(.slice xca xcn xcc), (.slice xsa xsn xsc)] 27)) [(.slice none 0 0), (.slice none 0 0)] 27); simpa using h
  have HSW : Hid (W.heap.size = w.heap.size + 3) := by unfold Hid; rw [hW]; simp
  have lr2 : w.heap.size + 1 + 1 < W.heap.size := by have := HSW.out; omega
  go_enter Tryz.func7, Tryz.ntmps7
  go_wp2_with fail
  rw [← hW]
  have hse : w.heap.size + 1 + 1 + 1 = W.heap.size := by have := HSW.out; omega
  (try rw [hse])
  clear hse
  clear hW
  have hc : Below W.heap.size W W := Below.refl _ _
  have HCC : Hid (∀ u, Below W.heap.size W u → u.cell? ⟨w.heap.size, 0, none⟩ = some (.int .i64 gr.p) ∧ u.cell? ⟨w.heap.size, 1, none⟩ = some (.int .i64 gr.q) ∧ u.cell? ⟨w.heap.size, 2, none⟩ = some (.int .i64 gr.g) ∧ u.cell? ⟨w.heap.size + 1, 0, none⟩ = some ((.slice xca xcn xcc)) ∧ u.cell? ⟨w.heap.size + 1, 1, none⟩ = some ((.slice xsa xsn xsc))) := fun u h => ⟨box_at c0_0 h, box_at c0_1 h, box_at c0_2 h, box_at c1_0 h, box_at c1_1 h⟩
  go_wp2_with fail
  refine (spec_rGood gr _ k _ (DlR.mk (Hxc.out.below (HB.out.trans (hc.mono HB.out.size))) (Hxs.out.below (HB.out.trans (hc.mono HB.out.size))))).mono ?_
  rintro e u1 ⟨rfl, hq1⟩
  replace hc := Below.next hc hq1
  clear hq1 c0_0 c0_1 c0_2 c1_0 c1_1
  obtain ⟨c0_0, c0_1, c0_2, c1_0, c1_1⟩ := HCC.out _ hc
  cases hc1 : vdB gr k with
  | false =>
    have Hhc1 := Lib.hid hc1
    clear hc1
    have HRE2 := Lib.hid (HR2.out.below hc)
    clear HR2
    have HBE := Lib.hid (HB.out.trans (hc.mono HB.out.size))
    have r2_0 := HRE2.out.cell (i := 0) rfl
    have r2_1 := HRE2.out.cell (i := 1) rfl
    have fr2 := fun j => HRE2.out.frozen j
    go_wp2_with fail
    have HRF := Lib.hid ((HRE2.out.set 0 ((.slice none 0 0))).set 1 ((.slice none 0 0)))
    have HBF := Lib.hid ((HBE.out.setCell (p := ⟨w.heap.size + 1 + 1, 0, none⟩) (by show w.heap.size ≤ w.heap.size + 1 + 1; omega) ((.slice none 0 0))).setCell (p := ⟨w.heap.size + 1 + 1, 1, none⟩) (by show w.heap.size ≤ w.heap.size + 1 + 1; omega) ((.slice none 0 0)))
    clear r2_0 r2_1 fr2
    have r2_0 := HRF.out.cell (i := 0) rfl
    have r2_1 := HRF.out.cell (i := 1) rfl
    try (go_wp2_with fail)
    have HVB : Hid (rkB gr k l = false) := by unfold Hid; simp [rkB, Hhc1.out]
    have HPR : Hid (rfR gr k l = ⟨[], []⟩ ∧ rfL gr k l = []) := by unfold Hid rfR rfL; rw [if_neg (by rw [HVB.out]; simp), if_neg (by rw [HVB.out]; simp)]; exact ⟨rfl, rfl⟩
    refine bodyPost_ret (v := .tuple #[.agg #[(.slice none 0 0), (.slice none 0 0)], .slice none 0 0, .bool false]) (by simp [results, Tryz.results7, go_sem, r2_0, r2_1]) rfl ⟨(by rw [HVB.out, HPR.out.1, HPR.out.2]; exact RetDLB.mk (Ints.nil _) (Ints.nil _) (Ints.nil _)), HBF.out⟩
  | true =>
    have HVK := Lib.hid hc1
    have HG := Lib.hid (vdB_parts hc1).1
    have HDK := Lib.hid (vdB_parts hc1).2
    have Hhc1 := Lib.hid hc1
    clear hc1
    go_wp2_with fail
    refine (spec_rList gr _ l _ HG.out (Hlv.out.below (HB.out.trans (hc.mono HB.out.size)))).mono ?_
    rintro e u2 ⟨rfl, hq2⟩
    replace hc := Below.next hc hq2
    clear hq2 c0_0 c0_1 c0_2 c1_0 c1_1
    obtain ⟨c0_0, c0_1, c0_2, c1_0, c1_1⟩ := HCC.out _ hc
    cases hc2 : dsB gr l with
    | false =>
      have Hhc2 := Lib.hid hc2
      clear hc2
      have HRE2 := Lib.hid (HR2.out.below hc)
      clear HR2
      have HBE := Lib.hid (HB.out.trans (hc.mono HB.out.size))
      have r2_0 := HRE2.out.cell (i := 0) rfl
      have r2_1 := HRE2.out.cell (i := 1) rfl
      have fr2 := fun j => HRE2.out.frozen j
      go_wp2_with fail
      have HRF := Lib.hid ((HRE2.out.set 0 ((.slice none 0 0))).set 1 ((.slice none 0 0)))
      have HBF := Lib.hid ((HBE.out.setCell (p := ⟨w.heap.size + 1 + 1, 0, none⟩) (by show w.heap.size ≤ w.heap.size + 1 + 1; omega) ((.slice none 0 0))).setCell (p := ⟨w.heap.size + 1 + 1, 1, none⟩) (by show w.heap.size ≤ w.heap.size + 1 + 1; omega) ((.slice none 0 0)))
      clear r2_0 r2_1 fr2
      have r2_0 := HRF.out.cell (i := 0) rfl
      have r2_1 := HRF.out.cell (i := 1) rfl
      try (go_wp2_with fail)
      have HVB : Hid (rkB gr k l = false) := by unfold Hid; simp [rkB, Hhc1.out, Hhc2.out]
      have HPR : Hid (rfR gr k l = ⟨[], []⟩ ∧ rfL gr k l = []) := by unfold Hid rfR rfL; rw [if_neg (by rw [HVB.out]; simp), if_neg (by rw [HVB.out]; simp)]; exact ⟨rfl, rfl⟩
      refine bodyPost_ret (v := .tuple #[.agg #[(.slice none 0 0), (.slice none 0 0)], .slice none 0 0, .bool false]) (by simp [results, Tryz.results7, go_sem, r2_0, r2_1]) rfl ⟨(by rw [HVB.out, HPR.out.1, HPR.out.2]; exact RetDLB.mk (Ints.nil _) (Ints.nil _) (Ints.nil _)), HBF.out⟩
    | true =>
      have HDS := Lib.hid hc2
      have Hhc2 := Lib.hid hc2
      clear hc2
      have HRK : Hid (rkB gr k l = true) := by unfold Hid rkB; rw [HVK.out, HDS.out]; rfl
      have HDE : Hid (∀ d ∈ l, deB gr d = true) := (rkB_parts HRK.out).2.2.2
      have HBS := Lib.hid (HB.out.trans (hc.mono HB.out.size))
      have HRS := Lib.hid (HR2.out.below hc)
      have HLS := Lib.hid (Hlv.out.below HBS.out)
      have HKD : Hid (DlR u2 (.agg #[.slice xca xcn xcc, .slice xsa xsn xsc]) k) := (DlR.mk Hxc.out Hxs.out : DlR w _ k).below HBS.out
      have HWS := Lib.hid hc
      have hlr : w.heap.size + 1 + 1 < u2.heap.size := HRS.out.lt
      have hszS := HBS.out.size
      have HM0 : Hid (MixDs u2 u2 u2.heap.size (Value.slice none 0 0).ownBlock (.slice none 0 0) (rfU gr k l 0)) := MixDs.nil (Below.refl _ _) (Nat.le_refl _)
      have HO0 : Hid (OwnI u2 u2.heap.size (.slice none 0 0) (rfO gr k l 0)) := OwnI.nil _ _
      go_wp2_with fail
      clear hc c0_0 c0_1 c0_2 c1_0 c1_1
      go_loopg [9, 10, 26] lvn (fun gk uv ov iv wr => ∃ (j : Nat) (uv' ov' : Value), j + gk = lvn ∧ iv = .int .i64 (j : Int) ∧ Hid (uv = uv' ∧ ov = ov') ∧ Hid (MixDs u2 wr u2.heap.size ov'.ownBlock uv' (rfU gr k l j)) ∧ Hid (OwnI wr u2.heap.size ov' (rfO gr k l j)))
      case atStart => exact ⟨0, _, _, by omega, rfl, Lib.hid ⟨rfl, rfl⟩, HM0, HO0⟩
      case round =>
        clear HM0 HO0
        obtain ⟨j, uv, ov, hkg, rfl, HEQ, HM, HO⟩ := hrel
        obtain ⟨rfl, rfl⟩ := HEQ.out
        clear HEQ
        have HUL := Lib.hid (rfU_len gr k l j)
        have HOL := Lib.hid (rfO_len gr k l j)
        obtain ⟨us, hus⟩ : ∃ z, rfU gr k l j = z := ⟨_, rfl⟩
        obtain ⟨os, hos⟩ : ∃ z, rfO gr k l j = z := ⟨_, rfl⟩
        rw [hus] at HM HUL
        rw [hos] at HO HOL
        have HUS := Lib.hid hus
        have HOS := Lib.hid hos
        clear hus hos
        obtain ⟨ua, uc, rfl⟩ := HM.out.shape
        obtain ⟨oa, oc, rfl⟩ := HO.out.shape
        obtain ⟨un, hun⟩ : ∃ z, us.length = z := ⟨_, rfl⟩
        obtain ⟨on, hon⟩ : ∃ z, os.length = z := ⟨_, rfl⟩
        rw [hun, hon] at HM
        rw [hon] at HO
        rw [hun, hon]
        have HUN := Lib.hid hun
        have HON := Lib.hid hon
        clear hun hon
        have HBR := Lib.hid HM.out.bel
        have hszr := HBR.out.size
        have cc := HCC.out wr (Below.next HWS.out HBR.out)
        by_cases hlt : j < lvn
        · have hgj : lvn - (j + 1) < gk := by omega
          have hwk : IntKind.i64.wrap ((j : Int) + 1) = (j : Int) + 1 := IntWalk.i64_in _ (by have := Elv.out; have := HLN.out; omega)
          have HK : Hid (j < l.length) := by unfold Hid; rw [Elv.out]; exact hlt
          have HAT := Lib.hid (atD_eq HK.out)
          have HDD := Lib.hid (HDE.out _ (List.getElem_mem HK.out))
          obtain ⟨b2, o2, p0, m0, k0, p1, m1, k1, e, y0, y1, f0, f1⟩ := RdDl.get HLS.out HK.out
          have e' := e
          subst e'
          clear e
          generalize l[j]'HK.out = d at f0 f1 HAT HDD
          have y0 := box_at y0 HBR.out
          have y1 := box_at y1 HBR.out
          have HF0 := Lib.hid f0
          have HF1 := Lib.hid f1
          clear f0 f1
          obtain ⟨V, hV⟩ : ∃ V, V = wr.alloc (.cells #[.slice p0 m0 k0, .slice p1 m1 k1] 61) := ⟨_, rfl⟩
          have hbV : Below wr.heap.size wr V := by rw [hV]; exact (Below.refl _ _).alloc (Nat.le_refl _) _
          have HZ : Hid (BoxN V wr.heap.size 61 [.slice p0 m0 k0, .slice p1 m1 k1]) := by unfold Hid; rw [hV]; exact BoxN.new wr _ _
          have HDl : Hid (DlR u2 (.agg #[.slice p0 m0 k0, .slice p1 m1 k1]) d) := DlR.mk HF0.out HF1.out
          have HJI : Hid (I64 (j : Int)) := by have := Elv.out; have := HLN.out; exact ⟨by omega, by omega⟩
          have kk0 : (0 : Int) ≤ (j : Int) := by omega
          have kk1 : (j : Int) < (lvn : Int) := by omega
          have hly := World.block_lt_of_cell? wr _ y0
          obtain ⟨c0_0, c0_1, c0_2, c1_0, c1_1⟩ := cc
          have hl0 := World.block_lt_of_cell? wr _ c0_0
          have hl1 := World.block_lt_of_cell? wr _ c1_0
          go_wp2_with fail
          rw [← hV]
          replace HM := Lib.hid (HM.out.below hbV)
          replace HO := Lib.hid (HO.out.below hbV)
          clear hV y0 y1 kk0 kk1 c0_0 c0_1 c0_2 c1_0 c1_1 hbV hly hl0 hl1 HBR
          have HBV := Lib.hid HM.out.bel
          refine (spec_rAlike _ _ k d _ (HKD.out.below HBV.out) (HDl.out.below HBV.out)).mono ?_
          rintro e u1 ⟨rfl, hq⟩
          replace HM := Lib.hid (HM.out.below hq)
          replace HO := Lib.hid (HO.out.below hq)
          replace HZ := Lib.hid (HZ.out.below hq)
          clear hq HBV
          have HB1 := Lib.hid HM.out.bel
          have hs1 := HB1.out.size
          obtain ⟨c0_0, c0_1, c0_2, c1_0, c1_1⟩ := HCC.out u1 (Below.next HWS.out HB1.out)
          have z0 := HZ.out.cell (i := 0) rfl
          have z1 := HZ.out.cell (i := 1) rfl
          cases hqs : smB d k with
          | false =>
            have HN := Lib.hid (rfU_no HAT.out HUS.out HOS.out (by rw [hqs]; rfl))
            clear hqs
            clear c0_0 c0_1 c0_2 c1_0 c1_1 z0 z1
            have z0 := HZ.out.cell (i := 0) rfl
            have z1 := HZ.out.cell (i := 1) rfl
            go_wp2_with (at_builtin; refine wpList_append_intsU rfl _ _ rfl (HO.out.below ((Below.refl u1.heap.size u1).alloc (Nat.le_refl _) _)) (HM.out.below ((Below.refl u1.heap.size u1).alloc (Nat.le_refl _) _)) (Ints.lit1 _ HJI.out) (by simp) (on + 1) (by rw [HON.out]; rfl) (by have := HOL.out; have := HON.out; have := HLN.out; have := Elv.out; omega) (by simp; omega) rfl rfl ?_; intro a9 c9 w9 hO9 hM9 hb9; have HM9 := Lib.hid hM9; have HO9 := Lib.hid hO9; clear hM9 hb9 hO9)
            go_roundg (lvn - (j + 1))
            case measure => exact hgj
            case rel => exact ⟨j + 1, _, _, by omega, by go_num, Lib.hid ⟨rfl, rfl⟩, by unfold Hid; rw [HN.out.1]; exact HM9.out, by unfold Hid; rw [HN.out.2]; exact HO9.out⟩
          | true =>
            have HQS := Lib.hid hqs
            clear hqs
            go_wp2_with fail
            refine (spec_rZero gr _ d 0 _ HG.out (HDl.out.below HB1.out) HDD.out ⟨by decide, by decide⟩).mono ?_
            rintro e u2 ⟨rfl, hq⟩
            replace HM := Lib.hid (HM.out.below hq)
            replace HO := Lib.hid (HO.out.below hq)
            replace HZ := Lib.hid (HZ.out.below hq)
            clear hq HB1 c0_0 c0_1 c0_2 c1_0 c1_1 z0 z1
            have HB2 := Lib.hid HM.out.bel
            have hs2 := HB2.out.size
            cases hqz : zeB gr d 0 with
            | false =>
              have HN := Lib.hid (rfU_no HAT.out HUS.out HOS.out (by rw [HQS.out, hqz]; rfl))
              clear hqz
              have z0 := HZ.out.cell (i := 0) rfl
              have z1 := HZ.out.cell (i := 1) rfl
              go_wp2_with (at_builtin; refine wpList_append_intsU rfl _ _ rfl (HO.out.below ((Below.refl u2.heap.size u2).alloc (Nat.le_refl _) _)) (HM.out.below ((Below.refl u2.heap.size u2).alloc (Nat.le_refl _) _)) (Ints.lit1 _ HJI.out) (by simp) (on + 1) (by rw [HON.out]; rfl) (by have := HOL.out; have := HON.out; have := HLN.out; have := Elv.out; omega) (by simp; omega) rfl rfl ?_; intro a9 c9 w9 hO9 hM9 hb9; have HM9 := Lib.hid hM9; have HO9 := Lib.hid hO9; clear hM9 hb9 hO9)
              go_roundg (lvn - (j + 1))
              case measure => exact hgj
              case rel => exact ⟨j + 1, _, _, by omega, by go_num, Lib.hid ⟨rfl, rfl⟩, by unfold Hid; rw [HN.out.1]; exact HM9.out, by unfold Hid; rw [HN.out.2]; exact HO9.out⟩
            | true =>
              have HN := Lib.hid (rfU_yes HAT.out HUS.out HOS.out HQS.out hqz)
              clear hqz
              have z0 := HZ.out.cell (i := 0) rfl
              have z1 := HZ.out.cell (i := 1) rfl
              have hzl := HZ.out.lt
              go_wp2_with (at_builtin; refine wpList_append_Mix rfl _ _ rfl rfl rfl (HM.out.below ((Below.refl u2.heap.size u2).alloc (Nat.le_refl _) _)) (d := d) (.inr HF0.out) (.inr HF1.out) (BoxN.new u2 _ _) (by simp; omega) (by have := HUL.out; have := HLN.out; have := Elv.out; omega) (un + 1) (by rw [HUN.out]) ?_; intro a9 c9 w9 hM9 hb9 hk9; have HM9 := Lib.hid hM9; have HO9 := Lib.hid (hk9 _ _ (HO.out.below ((Below.refl u2.heap.size u2).alloc (Nat.le_refl _) _))); clear hM9 hb9 hk9)
              go_roundg (lvn - (j + 1))
              case measure => exact hgj
              case rel => exact ⟨j + 1, _, _, by omega, by go_num, Lib.hid ⟨rfl, rfl⟩, by unfold Hid; rw [HN.out.1]; exact HM9.out, by unfold Hid; rw [HN.out.2]; exact HO9.out⟩
        · obtain rfl : lvn = j := by omega
          have HAL : Hid (alB gr (k :: us) = true) := by
            have h := rfU_al (n := lvn) HRK.out HLN.out (by rw [Elv.out]; exact Nat.le_refl _)
            rw [HUS.out] at h; exact h
          have HFR : Hid (rfR gr k l = smD gr (k :: us)) := by unfold Hid rfR rfD; rw [if_pos HRK.out, Elv.out, HUS.out]
          have HFL : Hid (rfL gr k l = os) := by unfold Hid rfL; rw [if_pos HRK.out, Elv.out, HOS.out]
          have HRD := Lib.hid HM.out.rd
          obtain ⟨c0_0, c0_1, c0_2, c1_0, c1_1⟩ := cc
          go_wp2_with fail
          clear c0_0 c0_1 c0_2 c1_0 c1_1
          refine (spec_rSum gr _ _ k us _ HG.out (HKD.out.below HBR.out) HRD.out HAL.out).mono ?_
          rintro e u9 ⟨⟨x, y, rfl, hox, hoy⟩, hb⟩
          have HO9 := Lib.hid (HO.out.below hb)
          have HB9 := Lib.hid (Below.next HBR.out hb)
          have hs9 := hb.size
          clear hb
          obtain ⟨ax, cx, rfl⟩ := OwnI.shapeN (n := (smD gr (k :: us)).c.length) hox rfl
          obtain ⟨ay, cy, rfl⟩ := OwnI.shapeN (n := (smD gr (k :: us)).s.length) hoy rfl
          have HR := Lib.hid (HRS.out.below HB9.out)
          have r0 := HR.out.cell (i := 0) rfl
          have r1 := HR.out.cell (i := 1) rfl
          have fr := fun j => HR.out.frozen j
          go_wp2_with fail
          clear r0 r1 fr
          have HRF := Lib.hid ((HR.out.set 0 (.slice ax (smD gr (k :: us)).c.length cx)).set 1 (.slice ay (smD gr (k :: us)).s.length cy))
          have t0 := HRF.out.cell (i := 0) rfl
          have t1 := HRF.out.cell (i := 1) rfl
          try (go_wp2_with fail)
          refine bodyPost_ret (v := .tuple #[.agg #[.slice ax (smD gr (k :: us)).c.length cx, .slice ay (smD gr (k :: us)).s.length cy], .slice oa on oc, .bool true]) (by simp [results, Tryz.results7, go_sem, t0, t1]) rfl ⟨by rw [HRK.out, HFR.out, HFL.out]; exact RetDLB.mk ((hox.other (b := w.heap.size + 1 + 1) (by omega) 0 (.slice ax (smD gr (k :: us)).c.length cx)).other (b := w.heap.size + 1 + 1) (by omega) 1 (.slice ay (smD gr (k :: us)).s.length cy)).ints ((hoy.other (b := w.heap.size + 1 + 1) (by omega) 0 (.slice ax (smD gr (k :: us)).c.length cx)).other (b := w.heap.size + 1 + 1) (by omega) 1 (.slice ay (smD gr (k :: us)).s.length cy)).ints ((HO9.out.other (b := w.heap.size + 1 + 1) (by omega) 0 (.slice ax (smD gr (k :: us)).c.length cx)).other (b := w.heap.size + 1 + 1) (by omega) 1 (.slice ay (smD gr (k :: us)).s.length cy)).ints, ((HBS.out.trans (HB9.out.mono HBS.out.size)).setCell (p := ⟨w.heap.size + 1 + 1, 0, none⟩) (by show w.heap.size ≤ w.heap.size + 1 + 1; omega) _).setCell (p := ⟨w.heap.size + 1 + 1, 1, none⟩) (by show w.heap.size ≤ w.heap.size + 1 + 1; omega) _⟩
end Go.Proofs.YtacpnphfopmofaaGreat
namespace Go.Proofs.YtacpnphfopmofaaGreat
open Go.RowKit
set_option linter.unusedSimpArgs false
set_option linter.unusedVariables false

/-- a function value that decides p on structs with Q, in every world that has grown from w -/
structure DecidesQ {δ : Type} (R : RowK δ) (Q : δ → Prop) (w : World) (g : FuncId) (caps : Array Value) (p : δ → Bool) : Prop where
  enters : ∀ args wr, (callFunc g args).run Tryz.prog wr = .ok (.enter g args) wr
  runs : ∀ v d wr, (kS R).rd wr v d → Q d → Below w.heap.size w wr → Calls Tryz.prog g (#[v] ++ caps) wr fun e w' => e = .returned (.bool (p d)) ∧ Below wr.heap.size wr w'
set_option maxHeartbeats 2000000 in
theorem slices_IndexFuncDealingQ (Q : DealingD → Prop) (v : Value) (ds : List DealingD) (g : FuncId) (caps : Array Value) (p : DealingD → Bool) (w : World) (h : RdR rDealing w v ds) (hp : DecidesQ rDealing Q w g caps p) (hQ : ∀ d ∈ ds, Q d) :
    Calls Tryz.prog 87 #[v, .func (.func g) #[] caps] w fun e w' => (∃ r : Int, e = .returned (.int .i64 r) ∧ decide (0 ≤ r) = ds.any p) ∧ Below w.heap.size w w' := by
  obtain ⟨a, n, c, rfl⟩ := h.shape
  have e := h.len
  obtain ⟨k1, k2⟩ := h.capMax
  unfold maxLen at k2
  have HE := Lib.hid e; clear e
  have hent := hp.enters
  have HP := Lib.hid hp; clear hp
  have HQ := Lib.hid hQ; clear hQ
  have H := Lib.hid h; clear h
  go_enter Tryz.func87, Tryz.ntmps87
  go_wp2
  go_loopg [8] n (fun g i wr => ∃ k : Nat, k + g = n ∧ i = .int .i64 k ∧ Hid ((ds.take k).any p = false) ∧ Below w.heap.size w wr)
  case atStart => exact ⟨0, by omega, rfl, by unfold Hid; simp, Below.refl _ _⟩
  case round =>
    obtain ⟨k, hkg, rfl, HF, hb⟩ := hrel
    by_cases hlt : k < n
    · have HK : Hid (k < ds.length) := by unfold Hid; rw [HE.out]; exact hlt
      obtain ⟨b, o, rfl, hcx⟩ := H.out.at_ (by omega)
      obtain ⟨us, hcell, hrd⟩ := hcx k HK.out
      have HS : Hid ((ds.take (k + 1)).any p = ((ds.take k).any p || p (ds[k]'HK.out))) := by unfold Hid; rw [List.take_succ_eq_append_getElem HK.out, List.any_append]; simp
      have HM := Lib.hid (List.getElem_mem HK.out)
      generalize ds[k]'HK.out = d at hrd HS HM
      obtain ⟨v37, _, rfl, h38, ⟨v39, _, rfl, h40, rfl⟩⟩ := hrd
      obtain ⟨aa0, nn0, cc0, rfl⟩ := sInts.sl h38
      obtain ⟨aa1, nn1, cc1, rfl⟩ := sInts.sl h40
      have y0 : w.cell? ⟨b, o + (k * 2 + 0), none⟩ = some (.slice aa0 nn0 cc0) := hcell 0 (by decide)
      replace y0 : w.cell? ⟨b, o + k * 2, none⟩ = some (.slice aa0 nn0 cc0) := by rw [Nat.add_zero] at y0; exact y0
      have y1 : w.cell? ⟨b, o + (k * 2 + 1), none⟩ = some (.slice aa1 nn1 cc1) := hcell 1 (by decide)
      replace y1 : w.cell? ⟨b, o + k * 2 + 1, none⟩ = some (.slice aa1 nn1 cc1) := by rw [← Nat.add_assoc] at y1; exact y1
      have HR : Hid ((kS rDealing).rd wr (.agg #[.slice aa0 nn0 cc0, .slice aa1 nn1 cc1]) d) := (kS rDealing).rd_below (rdDealing.2 ⟨_, _, _, _, _, _, rfl, h38, h40⟩) hb
      replace y0 := box_at y0 hb
      replace y1 := box_at y1 hb
      clear hcell hcx h38 h40
      cases hpx : p d with
      | true =>
        have HA : Hid (decide (0 ≤ (k : Int)) = ds.any p) := by
          unfold Hid; rw [decide_eq_true (by omega), eq_comm, List.any_eq_true]; exact ⟨_, HM.out, hpx⟩
        have HX := Lib.hid hpx
        clear hpx
        go_wp2_with fail
        refine (HP.out.runs _ _ _ HR.out (HQ.out _ HM.out) hb).mono ?_
        rintro e w1 ⟨rfl, hb1⟩
        rw [HX.out]
        go_wp2_with fail
        go_ret
        exact ⟨⟨_, rfl, HA.out⟩, hb.trans (hb1.mono hb.size)⟩
      | false =>
        have HX := Lib.hid hpx
        clear hpx
        go_wp2_with fail
        refine (HP.out.runs _ _ _ HR.out (HQ.out _ HM.out) hb).mono ?_
        rintro e w1 ⟨rfl, hb1⟩
        rw [HX.out]
        go_wp2_with fail
        go_roundg (n - (k + 1))
        case measure => omega
        case rel => exact ⟨k + 1, by omega, by go_num, by unfold Hid; rw [HS.out, HF.out, HX.out]; rfl, hb.trans (hb1.mono hb.size)⟩
    · obtain rfl : n = k := by omega
      have HA : Hid (decide (0 ≤ (-1 : Int)) = ds.any p) := by
        have := HF.out
        rw [List.take_of_length_le (by rw [HE.out]; exact Nat.le_refl _)] at this
        unfold Hid; rw [this]; rfl
      go_wp2_with fail
      go_ret
      exact ⟨⟨_, rfl, HA.out⟩, hb⟩
theorem slices_ContainsFuncDealingQ (Q : DealingD → Prop) (v : Value) (ds : List DealingD) (g : FuncId) (caps : Array Value) (p : DealingD → Bool) (w : World) (h : RdR rDealing w v ds) (hp : DecidesQ rDealing Q w g caps p) (hQ : ∀ d ∈ ds, Q d) :
    Calls Tryz.prog 41 #[v, .func (.func g) #[] caps] w fun e w' => e = .returned (.bool (ds.any p)) ∧ Below w.heap.size w w' := by
  have HP := Lib.hid hp; clear hp
  have HQ := Lib.hid hQ; clear hQ
  have H := Lib.hid h; clear h
  go_enter Tryz.func41, Tryz.ntmps41
  go_wp2_with fail
  refine (slices_IndexFuncDealingQ Q v ds g caps p _ H.out HP.out HQ.out).mono ?_
  rintro e w1 ⟨⟨r, rfl, hr⟩, hb⟩
  have HR := Lib.hid hr; clear hr
  go_wp2_with fail
  go_ret
  exact ⟨ret_bool (by first | (rw [HR.out]; done) | (rw [HR.out]; rfl) | exact HR.out.symm), hb⟩
end Go.Proofs.YtacpnphfopmofaaGreat
