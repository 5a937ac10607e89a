/- Resharing: the walk of the program (printed by gen_rs2.py). -/
import Derived.Test.YtacpnphfopmofaaGreatRf6S
import Derived.Deep.Cut
namespace Go.Proofs.YtacpnphfopmofaaGreat
open Go.RowKit
set_option linter.unusedSimpArgs false
set_option linter.unusedVariables false

noncomputable def rsK (gr : GroupD) (cm ix : List Int) (l : List DealingD) : DealingD := if rsB gr cm ix l = true then rsD gr cm ix l else ⟨[], []⟩
noncomputable def rsL (gr : GroupD) (cm ix : List Int) (l : List DealingD) : List Int := if rsB gr cm ix l = true then rsO gr cm ix l l.length else []
theorem rs_step {gr : GroupD} {cm ix : List Int} {l : List DealingD} {k : Nat} {us os : List Int} {Z : DealingD} {X C0 AT : Int} {bn : Nat} (hU : rsU gr cm ix l k = us) (hO : rsO gr cm ix l k = os) (hZ : atD l k = Z) (hX : nth ix k = X) (hC : nth Z.c 0 = C0) (hA : atE gr cm X = AT) (hb : (badE gr Z).length = bn) (q : Bool)
    (hq : (((C0 == AT) && decide (bn = 0)) && (decide (us.length = 0) || smB Z (atD l (nth us 0).toNat))) = q) : rsU gr cm ix l (k + 1) = (if q = true then us ++ [(k : Int)] else us) ∧ rsO gr cm ix l (k + 1) = (if q = true then os else os ++ [(k : Int)]) := by
  subst hU hO hZ hX hC hA hb hq
  exact ⟨rfl, rfl⟩
theorem rsU_n (gr : GroupD) (cm ix : List Int) (l : List DealingD) (k : Nat) : (rsU gr cm ix l k).length ≤ k ∧ ∀ j, j < (rsU gr cm ix l k).length → ∃ m : Nat, m < k ∧ nth (rsU gr cm ix l k) j = (m : Int) := by
  have h := us_s gr cm ix l k
  exact ⟨h.le, fun j hj => by obtain ⟨m, h1, h2, _⟩ := h.at_ j hj; exact ⟨m, h1, h2⟩⟩
theorem MixDs.nilU {W w : World} {B : Nat} {u u' : Option Nat} {v : Value} (h : MixDs W w B u v []) : MixDs W w B u' v [] := by
  obtain ⟨css, h1, h2, h3⟩ := h.row
  exact ⟨h.bel, h.le, css, h1, h2, fun i _ h4 => by simp at h4⟩
theorem lits_row (W : World) : OwnI ((W.alloc (.cells #[] 3)).alloc (.cells #[] 61)) W.heap.size (.slice (some ⟨W.heap.size, 0, none⟩) 0 0) [] ∧ MixDs W ((W.alloc (.cells #[] 3)).alloc (.cells #[] 61)) W.heap.size (some W.heap.size) (.slice (some ⟨W.heap.size + 1, 0, none⟩) 0 0) [] := by
  have h1 : (W.alloc (.cells #[] 3)).heap.size = W.heap.size + 1 := by simp
  refine ⟨(OwnI.lit (B := W.heap.size) W (Nat.le_refl _) AllI64.nil rfl (by simp) 0 rfl).below ((Below.refl _ _).alloc (Nat.le_refl _) _), ?_⟩
  have h := MixDs.lit0 (W := W) (w := W.alloc (.cells #[] 3)) (B := W.heap.size) (u := some W.heap.size) ((Below.refl _ _).alloc (Nat.le_refl _) _) (Nat.le_refl _) (by omega)
  rw [h1] at h; exact h
theorem map_take_succ {f : Int → Int} {l : List Int} {m : Nat} (h : m < l.length) : (l.take (m + 1)).map f = (l.take m).map f ++ [f (nth l m)] := by
  rw [List.take_succ_eq_append_getElem h, List.map_append, List.map_singleton, show nth l m = l[m] by simp [nth, h]]
theorem mul2_bd {a b : Int} (h1 : 0 ≤ a) (h2 : a ≤ 2000000000) (h3 : 0 ≤ b) (h4 : b ≤ 2000000000) : 0 ≤ a * b ∧ a * b ≤ 2000000000 * 2000000000 := mul_bd h1 h2 h3 h4
set_option maxRecDepth 100000 in
set_option maxHeartbeats 8000000 in
theorem impl_ReshareKey (gr : GroupD) (cv : Value) (cm : List Int) (iv : Value) (ix : List Int) (lv : Value) (l : List DealingD) (w : World) (hcm : Ints w cv cm) (hix : Ints w iv ix) (hl : RdR rDealing w lv l) :
    Calls Tryz.prog 15 #[.agg #[.int .i64 gr.p, .int .i64 gr.q, .int .i64 gr.g], cv, iv, lv] w fun e w' => RetDLB e w' (rsK gr cm ix l) (rsL gr cm ix l) (rsB gr cm ix l) ∧ Below w.heap.size w w' := by
  obtain ⟨cva, cvn, cvc, rfl⟩ := hcm.shape
  have Ecv := Lib.hid hcm.len
  have Kcv := Lib.hid hcm.capMax
  have Hcv := Lib.hid hcm
  clear hcm
  obtain ⟨iva, ivn, ivc, rfl⟩ := hix.shape
  have Eiv := Lib.hid hix.len
  have Kiv := Lib.hid hix.capMax
  have Hiv := Lib.hid hix
  clear hix
  obtain ⟨lva, lvn, lvc, rfl⟩ := hl.shape
  have Elv := Lib.hid hl.len
  have Klv := Lib.hid hl.capMax
  have Hlv := Lib.hid hl
  clear hl
  obtain ⟨W, hW⟩ : ∃ W, W = (w.alloc (.cells #[.int .i64 gr.p, .int .i64 gr.q, .int .i64 gr.g] 24)).alloc (.cells #[(.slice none 0 0), (.slice none 0 0)] 27) := ⟨_, rfl⟩
  have HB : Hid (Below w.heap.size w W) := by unfold Hid; rw [hW]; (repeat (first | exact Below.refl _ _ | assumption | refine Below.drew ?_ | refine Below.alloc ?_ (by first | (simp; done) | (simp; omega)) _ | refine Below.setCell ?_ (by first | (simp; done) | (simp; omega)) _))
  have c0_0 : W.cell? ⟨w.heap.size, 0, none⟩ = some (.int .i64 gr.p) := by rw [hW]; simp [go_sem]
  have c0_1 : W.cell? ⟨w.heap.size, 1, none⟩ = some (.int .i64 gr.q) := by rw [hW]; simp [go_sem]
  have c0_2 : W.cell? ⟨w.heap.size, 2, none⟩ = some (.int .i64 gr.g) := by rw [hW]; simp [go_sem]
  have HR1 : Hid (BoxN W (w.heap.size + 1) 27 [(.slice none 0 0), (.slice none 0 0)]) := by unfold Hid; rw [hW]; have h := (BoxN.new (w.alloc (.cells #[.int .i64 gr.p, .int .i64 gr.q, .int .i64 gr.g] 24)) [(.slice none 0 0), (.slice none 0 0)] 27); simpa using h
  have HSW : Hid (W.heap.size = w.heap.size + 2) := by unfold Hid; rw [hW]; simp
  have lr1 : w.heap.size + 1 < W.heap.size := by have := HSW.out; omega
  go_enter Tryz.func15, Tryz.ntmps15
  go_wp2_with fail
  rw [← hW]
  have hse : w.heap.size + 1 + 1 = W.heap.size := by have := HSW.out; omega
  (try rw [hse])
  clear hse
  clear hW
  have hc : Below W.heap.size W W := Below.refl _ _
  have HCC : Hid (∀ u, Below W.heap.size W u → u.cell? ⟨w.heap.size, 0, none⟩ = some (.int .i64 gr.p) ∧ u.cell? ⟨w.heap.size, 1, none⟩ = some (.int .i64 gr.q) ∧ u.cell? ⟨w.heap.size, 2, none⟩ = some (.int .i64 gr.g)) := fun u h => ⟨box_at c0_0 h, box_at c0_1 h, box_at c0_2 h⟩
  go_wp2_with fail
  refine (impl_isSharing gr _).mono ?_
  rintro e u1 ⟨rfl, hq1⟩
  replace hc := Below.next hc hq1
  clear hq1 c0_0 c0_1 c0_2
  obtain ⟨c0_0, c0_1, c0_2⟩ := HCC.out _ hc
  cases hc1 : shG gr with
  | false =>
    have Hhc1 := Lib.hid hc1
    clear hc1
    have HRE1 := Lib.hid (HR1.out.below hc)
    clear HR1
    have HBE := Lib.hid (HB.out.trans (hc.mono HB.out.size))
    have r1_0 := HRE1.out.cell (i := 0) rfl
    have r1_1 := HRE1.out.cell (i := 1) rfl
    have fr1 := fun j => HRE1.out.frozen j
    go_wp2_with fail
    have HRF := Lib.hid ((HRE1.out.set 0 ((.slice none 0 0))).set 1 ((.slice none 0 0)))
    have HBF := Lib.hid ((HBE.out.setCell (p := ⟨w.heap.size + 1, 0, none⟩) (by show w.heap.size ≤ w.heap.size + 1; omega) ((.slice none 0 0))).setCell (p := ⟨w.heap.size + 1, 1, none⟩) (by show w.heap.size ≤ w.heap.size + 1; omega) ((.slice none 0 0)))
    clear r1_0 r1_1 fr1
    have r1_0 := HRF.out.cell (i := 0) rfl
    have r1_1 := HRF.out.cell (i := 1) rfl
    try (go_wp2_with fail)
    have HVB : Hid (rsB gr cm ix l = false) := by unfold Hid; simp [rsB, rsQ, Hhc1.out]
    have HPR : Hid (rsK gr cm ix l = ⟨[], []⟩ ∧ rsL gr cm ix l = []) := by unfold Hid rsK rsL; rw [if_neg (by rw [HVB.out]; simp), if_neg (by rw [HVB.out]; simp)]; exact ⟨rfl, rfl⟩
    refine bodyPost_ret (v := .tuple #[.agg #[(.slice none 0 0), (.slice none 0 0)], .slice none 0 0, .bool false]) (by simp [results, Tryz.results15, go_sem, r1_0, r1_1]) rfl ⟨(by rw [HVB.out, HPR.out.1, HPR.out.2]; exact RetDLB.mk (Ints.nil _) (Ints.nil _) (Ints.nil _)), HBF.out⟩
  | true =>
    have HG := Lib.hid (shG_ok hc1)
    have HSG := Lib.hid hc1
    have Hhc1 := Lib.hid hc1
    clear hc1
    go_wp2_with fail
    refine (impl_areCommits gr _ cm _ HG.out (Hcv.out.below (HB.out.trans (hc.mono HB.out.size)))).mono ?_
    rintro e u2 ⟨rfl, hq2⟩
    replace hc := Below.next hc hq2
    clear hq2 c0_0 c0_1 c0_2
    obtain ⟨c0_0, c0_1, c0_2⟩ := HCC.out _ hc
    cases hc2 : cmsB gr cm with
    | false =>
      have Hhc2 := Lib.hid hc2
      clear hc2
      have HRE1 := Lib.hid (HR1.out.below hc)
      clear HR1
      have HBE := Lib.hid (HB.out.trans (hc.mono HB.out.size))
      have r1_0 := HRE1.out.cell (i := 0) rfl
      have r1_1 := HRE1.out.cell (i := 1) rfl
      have fr1 := fun j => HRE1.out.frozen j
      go_wp2_with fail
      have HRF := Lib.hid ((HRE1.out.set 0 ((.slice none 0 0))).set 1 ((.slice none 0 0)))
      have HBF := Lib.hid ((HBE.out.setCell (p := ⟨w.heap.size + 1, 0, none⟩) (by show w.heap.size ≤ w.heap.size + 1; omega) ((.slice none 0 0))).setCell (p := ⟨w.heap.size + 1, 1, none⟩) (by show w.heap.size ≤ w.heap.size + 1; omega) ((.slice none 0 0)))
      clear r1_0 r1_1 fr1
      have r1_0 := HRF.out.cell (i := 0) rfl
      have r1_1 := HRF.out.cell (i := 1) rfl
      try (go_wp2_with fail)
      have HVB : Hid (rsB gr cm ix l = false) := by unfold Hid; simp [rsB, rsQ, Hhc1.out, Hhc2.out]
      have HPR : Hid (rsK gr cm ix l = ⟨[], []⟩ ∧ rsL gr cm ix l = []) := by unfold Hid rsK rsL; rw [if_neg (by rw [HVB.out]; simp), if_neg (by rw [HVB.out]; simp)]; exact ⟨rfl, rfl⟩
      refine bodyPost_ret (v := .tuple #[.agg #[(.slice none 0 0), (.slice none 0 0)], .slice none 0 0, .bool false]) (by simp [results, Tryz.results15, go_sem, r1_0, r1_1]) rfl ⟨(by rw [HVB.out, HPR.out.1, HPR.out.2]; exact RetDLB.mk (Ints.nil _) (Ints.nil _) (Ints.nil _)), HBF.out⟩
    | true =>
      have HCM := Lib.hid hc2
      have Hhc2 := Lib.hid hc2
      clear hc2
      go_wp2_with fail
      refine (impl_areTrustees _ ix _ (Hiv.out.below (HB.out.trans (hc.mono HB.out.size)))).mono ?_
      rintro e u3 ⟨rfl, hq3⟩
      replace hc := Below.next hc hq3
      clear hq3 c0_0 c0_1 c0_2
      obtain ⟨c0_0, c0_1, c0_2⟩ := HCC.out _ hc
      cases hc3 : trL ix with
      | false =>
        have Hhc3 := Lib.hid hc3
        clear hc3
        have HRE1 := Lib.hid (HR1.out.below hc)
        clear HR1
        have HBE := Lib.hid (HB.out.trans (hc.mono HB.out.size))
        have r1_0 := HRE1.out.cell (i := 0) rfl
        have r1_1 := HRE1.out.cell (i := 1) rfl
        have fr1 := fun j => HRE1.out.frozen j
        go_wp2_with fail
        have HRF := Lib.hid ((HRE1.out.set 0 ((.slice none 0 0))).set 1 ((.slice none 0 0)))
        have HBF := Lib.hid ((HBE.out.setCell (p := ⟨w.heap.size + 1, 0, none⟩) (by show w.heap.size ≤ w.heap.size + 1; omega) ((.slice none 0 0))).setCell (p := ⟨w.heap.size + 1, 1, none⟩) (by show w.heap.size ≤ w.heap.size + 1; omega) ((.slice none 0 0)))
        clear r1_0 r1_1 fr1
        have r1_0 := HRF.out.cell (i := 0) rfl
        have r1_1 := HRF.out.cell (i := 1) rfl
        try (go_wp2_with fail)
        have HVB : Hid (rsB gr cm ix l = false) := by unfold Hid; simp [rsB, rsQ, Hhc1.out, Hhc2.out, Hhc3.out]
        have HPR : Hid (rsK gr cm ix l = ⟨[], []⟩ ∧ rsL gr cm ix l = []) := by unfold Hid rsK rsL; rw [if_neg (by rw [HVB.out]; simp), if_neg (by rw [HVB.out]; simp)]; exact ⟨rfl, rfl⟩
        refine bodyPost_ret (v := .tuple #[.agg #[(.slice none 0 0), (.slice none 0 0)], .slice none 0 0, .bool false]) (by simp [results, Tryz.results15, go_sem, r1_0, r1_1]) rfl ⟨(by rw [HVB.out, HPR.out.1, HPR.out.2]; exact RetDLB.mk (Ints.nil _) (Ints.nil _) (Ints.nil _)), HBF.out⟩
      | true =>
        have HTR := Lib.hid hc3
        have Hhc3 := Lib.hid hc3
        clear hc3
        cases hc4 : ((lvn : Int) != (ivn : Int)) with
        | false =>
          have HLT : Hid (decide (l.length = ix.length) = true) := by have q := hc4; rw [bne_eq_false_iff_eq] at q; have := Eiv.out; have := Elv.out; unfold Hid; exact decide_eq_true (by omega)
          have HLE : Hid (lvn = ivn) := by have q := hc4; rw [bne_eq_false_iff_eq] at q; unfold Hid; omega
          go_wp2_with fail
          refine (impl_hasDealings gr _ l _ HG.out (Hlv.out.below (HB.out.trans (hc.mono HB.out.size)))).mono ?_
          rintro e u4 ⟨rfl, hq4⟩
          replace hc := Below.next hc hq4
          clear hq4 c0_0 c0_1 c0_2
          obtain ⟨c0_0, c0_1, c0_2⟩ := HCC.out _ hc
          cases hc5 : dsB gr l with
          | false =>
            have Hhc5 := Lib.hid hc5
            clear hc5
            have HRE1 := Lib.hid (HR1.out.below hc)
            clear HR1
            have HBE := Lib.hid (HB.out.trans (hc.mono HB.out.size))
            have r1_0 := HRE1.out.cell (i := 0) rfl
            have r1_1 := HRE1.out.cell (i := 1) rfl
            have fr1 := fun j => HRE1.out.frozen j
            go_wp2_with fail
            have HRF := Lib.hid ((HRE1.out.set 0 ((.slice none 0 0))).set 1 ((.slice none 0 0)))
            have HBF := Lib.hid ((HBE.out.setCell (p := ⟨w.heap.size + 1, 0, none⟩) (by show w.heap.size ≤ w.heap.size + 1; omega) ((.slice none 0 0))).setCell (p := ⟨w.heap.size + 1, 1, none⟩) (by show w.heap.size ≤ w.heap.size + 1; omega) ((.slice none 0 0)))
            clear r1_0 r1_1 fr1
            have r1_0 := HRF.out.cell (i := 0) rfl
            have r1_1 := HRF.out.cell (i := 1) rfl
            try (go_wp2_with fail)
            have HVB : Hid (rsB gr cm ix l = false) := by unfold Hid; simp [rsB, rsQ, Hhc1.out, Hhc2.out, Hhc3.out, Hhc5.out, HLT.out]
            have HPR : Hid (rsK gr cm ix l = ⟨[], []⟩ ∧ rsL gr cm ix l = []) := by unfold Hid rsK rsL; rw [if_neg (by rw [HVB.out]; simp), if_neg (by rw [HVB.out]; simp)]; exact ⟨rfl, rfl⟩
            refine bodyPost_ret (v := .tuple #[.agg #[(.slice none 0 0), (.slice none 0 0)], .slice none 0 0, .bool false]) (by simp [results, Tryz.results15, go_sem, r1_0, r1_1]) rfl ⟨(by rw [HVB.out, HPR.out.1, HPR.out.2]; exact RetDLB.mk (Ints.nil _) (Ints.nil _) (Ints.nil _)), HBF.out⟩
          | true =>
            have HQ : Hid (rsQ gr cm ix l = true) := by unfold Hid rsQ; rw [HSG.out, HCM.out, HTR.out, HLT.out, hc5]; rfl
            have HQP := Lib.hid (rsQ_parts HQ.out)
            have HCB := Lib.hid (cmsB_parts HCM.out)
            have HEL := Lib.hid (cms_small HG.out HCB.out.2)
            have HCL : Hid (cm.length ≤ 1000) := by have := HCB.out.1; unfold Hid; omega
            have hl7 : lvn ≤ 7 := by have := HQP.out.2.2.2.2.1; have := Elv.out; omega
            have hc7 : 1 ≤ cvn ∧ cvn ≤ 7 := by have := HCB.out.1; have := Ecv.out; omega
            have HIX := Lib.hid (trL_parts HTR.out).1
            have Hhc5 := Lib.hid hc5
            clear hc5
            have HBS := Lib.hid (HB.out.trans (hc.mono HB.out.size))
            have HWS := Lib.hid hc
            have HRX := Lib.hid (HR1.out.below hc)
            obtain ⟨V0, hV0⟩ : ∃ V, V = (u4.alloc (.cells #[] 3)).alloc (.cells #[] 3) := ⟨_, rfl⟩
            have HR0 : Hid (RowsI V0 u4.heap.size [(.slice (some ⟨u4.heap.size, 0, none⟩) 0 0, []), (.slice (some ⟨u4.heap.size + 1, 0, none⟩) 0 0, [])]) := by unfold Hid; rw [hV0]; exact RowsI.lits u4
            have HB0 : Hid (Below u4.heap.size u4 V0) := by unfold Hid; rw [hV0]; (repeat (first | exact Below.refl _ _ | assumption | refine Below.drew ?_ | refine Below.alloc ?_ (by first | (simp; done) | (simp; omega)) _ | refine Below.setCell ?_ (by first | (simp; done) | (simp; omega)) _))
            have l_c0_0 := World.block_lt_of_cell? u4 _ c0_0
            have l_c0_1 := World.block_lt_of_cell? u4 _ c0_1
            have l_c0_2 := World.block_lt_of_cell? u4 _ c0_2
            go_wp2_with fail
            rw [← hV0]
            clear hV0 l_c0_0 l_c0_1 l_c0_2
            clear hc c0_0 c0_1 c0_2
            obtain ⟨c0_0, c0_1, c0_2⟩ := HCC.out V0 (Below.next HWS.out HB0.out)
            (try (go_wp2_with fail))
            clear c0_0 c0_1 c0_2
            go_loopg [11, 12, 60] lvn (fun gk uv ov iv wr => ∃ (k : Nat) (uv' ov' : Value), k + gk = lvn ∧ iv = .int .i64 (k : Int) ∧ Hid (uv = uv' ∧ ov = ov') ∧ Hid (RowsI wr u4.heap.size [(uv', rsU gr cm ix l k), (ov', rsO gr cm ix l k)]) ∧ Hid (Below u4.heap.size u4 wr))
            case atStart => exact ⟨0, _, _, by omega, rfl, Lib.hid ⟨rfl, rfl⟩, HR0, HB0⟩
            case round =>
              clear HR0 HB0
              obtain ⟨k, uv, ov, hkg, rfl, HEQ, HR, HBr⟩ := hrel
              obtain ⟨rfl, rfl⟩ := HEQ.out
              clear HEQ
              have HBW := Lib.hid (HBS.out.trans (HBr.out.mono HBS.out.size))
              have hsr := HBr.out.size
              have HUN := Lib.hid (rsU_n gr cm ix l k)
              have HON := Lib.hid (rsO_len gr cm ix l k)
              obtain ⟨us, hus⟩ : ∃ z, rsU gr cm ix l k = z := ⟨_, rfl⟩
              obtain ⟨os, hos⟩ : ∃ z, rsO gr cm ix l k = z := ⟨_, rfl⟩
              rw [hus] at HR HUN
              rw [hos] at HR HON
              have HUS := Lib.hid hus
              have HOS := Lib.hid hos
              clear hus hos
              obtain ⟨ua, uc, rfl⟩ := (HR.out.own 0 _ _ rfl).shape
              obtain ⟨oa, oc, rfl⟩ := (HR.out.own 1 _ _ rfl).shape
              obtain ⟨un, hun⟩ : ∃ z, us.length = z := ⟨_, rfl⟩
              obtain ⟨on, hon⟩ : ∃ z, os.length = z := ⟨_, rfl⟩
              rw [hun, hon] at HR
              rw [hun, hon]
              have HUL := Lib.hid hun
              have HOL := Lib.hid hon
              have hun7 : un ≤ k := by have := HUN.out.1; omega
              have hon7 : on ≤ k := by have := HON.out; omega
              clear hun hon
              have cc := HCC.out wr (Below.next HWS.out HBr.out)
              by_cases hlt : k < lvn
              · have hgk : lvn - (k + 1) < gk := by omega
                have hb : decide ((k : Int) < (lvn : Int)) = true := decide_eq_true (by omega)
                have hb2 : decide (k < lvn) = true := decide_eq_true hlt
                have HK : Hid (k < l.length) := by unfold Hid; have := Elv.out; omega
                obtain ⟨b1, o1, hba, hcx⟩ := Hiv.out.at_ (by have := Eiv.out; have := HLE.out; omega)
                have K1 := Lib.hid (hcx k (by have := HLE.out; omega))
                have hba' := hba
                subst hba'
                clear hba hcx
                have HXB : Hid (0 ≤ nth ix k ∧ nth ix k ≤ 1000) := by have h := HIX.out _ (nth_mem' (show k < ix.length by have := Eiv.out; have := HLE.out; omega)); exact ⟨by omega, by omega⟩
                obtain ⟨bz, oz, zca, zcn, zcc, zsa, zsn, zsc, e, K2, K3, f0, f1⟩ := RdDl.get Hlv.out HK.out
                have e' := e
                subst e'
                clear e
                have HDD := Lib.hid (HQP.out.2.2.2.2.2 _ (List.getElem_mem HK.out))
                have hat := (atD_eq HK.out)
                have HST : Hid (∀ {bn : Nat} {C0 AT : Int} (q : Bool), nth (atD l k).c 0 = C0 → atE gr cm (nth ix k) = AT → (badE gr (atD l k)).length = bn → (((C0 == AT) && decide (bn = 0)) && (decide (us.length = 0) || smB (atD l k) (atD l (nth us 0).toNat))) = q → rsU gr cm ix l (k + 1) = (if q = true then us ++ [(k : Int)] else us) ∧ rsO gr cm ix l (k + 1) = (if q = true then os else os ++ [(k : Int)])) := fun q hC hA hb hq => rs_step HUS.out HOS.out rfl rfl hC hA hb q hq
                rw [← hat] at HDD f0 f1
                clear hat
                obtain ⟨X, hX⟩ : ∃ z, nth ix k = z := ⟨_, rfl⟩
                obtain ⟨Z, hZ⟩ : ∃ z, atD l k = z := ⟨_, rfl⟩
                rw [hX] at K1 HXB HST
                rw [hZ] at HDD f0 f1 HST
                clear hX hZ
                have HDP := Lib.hid (deB_parts HDD.out)
                have Ezc := Lib.hid f0.len
                have Ezs := Lib.hid f1.len
                have Hzc := Lib.hid f0
                have Hzs := Lib.hid f1
                clear f0 f1
                obtain ⟨zcb, zco, hq, hx⟩ := Hzc.out.at_ (by have := HDP.out.1; have := Ezc.out; omega)
                have hq' := hq
                subst hq'
                clear hq
                have K4 := Lib.hid (hx 0 (by have := HDP.out.1; have := Ezc.out; omega))
                clear hx
                have b0 : (0 : Int) ≤ (k : Int) := by omega
                have bk1 : (k : Int) < (ivn : Int) := by have := HLE.out; omega
                have bk2 : (k : Int) < (lvn : Int) := by omega
                have bz0 : (0 : Int) < (zcn : Int) := by have := HDP.out.1; have := Ezc.out; omega
                have bz1 : 0 < zcn := by omega
                have hwk : IntKind.i64.wrap ((k : Int) + 1) = (k : Int) + 1 := IntWalk.i64_in _ (by omega)
                have HKI : Hid (I64 (k : Int)) := ⟨by omega, by omega⟩
                obtain ⟨C0, hC0⟩ : ∃ z, nth Z.c 0 = z := ⟨_, rfl⟩
                rw [hC0, Nat.add_zero] at K4
                have HC0 := Lib.hid hC0
                clear hC0
                obtain ⟨AT, hAT⟩ : ∃ z, atE gr cm X = z := ⟨_, rfl⟩
                have HAT := Lib.hid hAT
                clear hAT
                obtain ⟨bn, hbn⟩ : ∃ z, (badE gr Z).length = z := ⟨_, rfl⟩
                have HBN := Lib.hid hbn
                clear hbn
                obtain ⟨R1, hR1⟩ : ∃ r, r = wr.heap.size := ⟨_, rfl⟩
                obtain ⟨V, hV⟩ : ∃ V, V = wr.alloc (.cells #[.slice (some ⟨zcb, zco, none⟩) zcn zcc, .slice zsa zsn zsc] 61) := ⟨_, rfl⟩
                have hbV : Below wr.heap.size wr V := by rw [hV]; exact (Below.refl _ _).alloc (Nat.le_refl _) _
                have HP1 : Hid (BoxN V R1 61 [.slice (some ⟨zcb, zco, none⟩) zcn zcc, .slice zsa zsn zsc]) := by unfold Hid; rw [hV, hR1]; exact BoxN.new wr _ _
                have K2' := Lib.hid K2
                have K3' := Lib.hid K3
                have z0 := box_at K2 HBW.out
                have z1 := box_at K3 HBW.out
                clear K2 K3
                obtain ⟨c0_0, c0_1, c0_2⟩ := cc
                go_upto_region 7 with fail
                rw [← hV, ← hR1]
                replace c0_0 := box_at c0_0 hbV
                replace c0_1 := box_at c0_1 hbV
                replace c0_2 := box_at c0_2 hbV
                have HBV : Hid (Below w.heap.size w V) := HBW.out.trans (hbV.mono HBW.out.size)
                have HBrV := Lib.hid (HBr.out.trans (hbV.mono HBr.out.size))
                have HRV := Lib.hid (HR.out.below hbV)
                clear hV hbV z0 z1 hR1
                have p0 := HP1.out.cell (i := 0) rfl
                have p1 := HP1.out.cell (i := 1) rfl
                clear HP1
                have y1 := box_at K1.out HBV.out
                have y4 := box_at K4.out HBV.out
                have HBN : Hid (Below w.heap.size w V) := HBV
                clear HB HCC
                (try clear hc)
                obtain ⟨W, rfl⟩ : ∃ z, z = V := ⟨_, rfl⟩
                have HB := HBN
                clear HBN
                have hc : Below W.heap.size W W := Below.refl _ _
                have HCC : Hid (∀ u, Below W.heap.size W u → u.cell? ⟨w.heap.size, 0, none⟩ = some (.int .i64 gr.p) ∧ u.cell? ⟨w.heap.size, 1, none⟩ = some (.int .i64 gr.q) ∧ u.cell? ⟨w.heap.size, 2, none⟩ = some (.int .i64 gr.g) ∧ u.cell? ⟨R1, 0, none⟩ = some ((.slice (some ⟨zcb, zco, none⟩) zcn zcc)) ∧ u.cell? ⟨R1, 1, none⟩ = some ((.slice zsa zsn zsc)) ∧ u.cell? ⟨b1, o1 + k, none⟩ = some (.int .i64 X) ∧ u.cell? ⟨zcb, zco, none⟩ = some (.int .i64 C0)) := fun u h => ⟨box_at c0_0 h, box_at c0_1 h, box_at c0_2 h, box_at p0 h, box_at p1 h, box_at y1 h, box_at y4 h⟩
                clear HBV HBW
                cases hc6 : (C0 == AT) with
                | false =>
                  try (go_wp2_with fail)
                  refine wp_region_noPanic ?_
                  refine wp_region_P (fun w' => w'.cell? ⟨w.heap.size, 0, none⟩ = some (.int .i64 gr.p) ∧ w'.cell? ⟨w.heap.size, 1, none⟩ = some (.int .i64 gr.q) ∧ w'.cell? ⟨w.heap.size, 2, none⟩ = some (.int .i64 gr.g) ∧ w'.cell? ⟨R1, 0, none⟩ = some ((.slice (some ⟨zcb, zco, none⟩) zcn zcc)) ∧ w'.cell? ⟨R1, 1, none⟩ = some ((.slice zsa zsn zsc)) ∧ w'.cell? ⟨b1, o1 + k, none⟩ = some (.int .i64 X) ∧ w'.cell? ⟨zcb, zco, none⟩ = some (.int .i64 C0)) 22 [(0, []), (1, [0]), (2, [0]), (3, [0]), (4, []), (5, []), (6, []), (7, []), (8, [1, 0]), (9, [0]), (10, [5, 4, 0]), (11, [7, 0]), (12, [0]), (13, [0]), (14, [1]), (15, [1, 0, 2]), (16, [0, 3]), (17, [0, 4]), (18, [5, 0]), (19, [0])] [] (by kernel_rfl) (by kernel_rfl) (by kernel_rfl) rfl (fun _ _ _ _ h => h) (fun w' h => ⟨box_at c0_0 h, box_at c0_1 h, box_at c0_2 h, box_at p0 h, box_at p1 h, box_at y1 h, box_at y4 h⟩) ?_
                  simp only [pickP, pickN, List.getElem?_cons_zero, List.getElem?_cons_succ]
                  iterate 10 (refine' chainP_read _ rfl rfl (fun w' hS' => ?_) ?_; rotate_left; · (simp only [lookP, allP, Act.put, List.getElem?_cons_zero, List.getElem?_cons_succ, List.setIfInBounds_toArray, List.set_cons_zero, List.set_cons_succ]; (try dsimp only at hS'); go_simp; (try with_reducible rfl)))
                  -- 10: call { callee := value (func 52), args := #[t69, t70, t74], argTypes := #[24, 25, 3] }
                  refine chainP_call (d := (some 75)) (.int .i64 AT) rfl rfl (fun w' hS' => ?_) ?_
                  · simp only [lookP, allP, Act.put, List.getElem?_cons_zero, List.getElem?_cons_succ, List.setIfInBounds_toArray, List.set_cons_zero, List.set_cons_succ]
                    intro K hK
                    go_simp
                    go_at_call 52
                    refine (impl_commitAt gr _ cm X _ HG.out ((Hcv.out.below (HB.out.trans (hc.mono HB.out.size))).below hS'.1) HEL.out HCL.out HXB.out).mono ?_
                    rintro e u ⟨rfl, hq⟩
                    rw [HAT.out]
                    exact hK.out _ hq
                  iterate 2 (refine' chainP_read _ rfl rfl (fun w' hS' => ?_) ?_; rotate_left; · (simp only [lookP, allP, Act.put, List.getElem?_cons_zero, List.getElem?_cons_succ, List.setIfInBounds_toArray, List.set_cons_zero, List.set_cons_succ]; (try dsimp only at hS'); go_simp; (try with_reducible rfl)))
                  -- 13: load 24 t4
                  refine chainP_skip (d := (some 78)) rfl (fun w' hS' => ?_) ?_
                  · simp only [lookP, allP, Act.put, List.getElem?_cons_zero, List.getElem?_cons_succ, List.setIfInBounds_toArray, List.set_cons_zero, List.set_cons_succ]
                    kernel_rfl
                  -- 14: load 61 t14
                  refine chainP_skip (d := (some 79)) rfl (fun w' hS' => ?_) ?_
                  · simp only [lookP, allP, Act.put, List.getElem?_cons_zero, List.getElem?_cons_succ, List.setIfInBounds_toArray, List.set_cons_zero, List.set_cons_succ]
                    kernel_rfl
                  -- 15: call { callee := value (func 44), args := #[t78, t79], argTypes := #[24, 61] }
                  refine chainP_skip (d := (some 80)) rfl (fun w' hS' => ?_) ?_
                  · simp only [lookP, allP, Act.put, List.getElem?_cons_zero, List.getElem?_cons_succ, List.setIfInBounds_toArray, List.set_cons_zero, List.set_cons_succ]
                    kernel_rfl
                  -- 16: call { callee := builtin Builtin.len, args := #[t80], argTypes := #[25] }
                  refine chainP_skip (d := (some 81)) rfl (fun w' hS' => ?_) ?_
                  · simp only [lookP, allP, Act.put, List.getElem?_cons_zero, List.getElem?_cons_succ, List.setIfInBounds_toArray, List.set_cons_zero, List.set_cons_succ]
                    kernel_rfl
                  -- 17: binOp Bineql 3 t81 (const (int i64 0)) 3
                  refine chainP_skip (d := (some 82)) rfl (fun w' hS' => ?_) ?_
                  · simp only [lookP, allP, Act.put, List.getElem?_cons_zero, List.getElem?_cons_succ, List.setIfInBounds_toArray, List.set_cons_zero, List.set_cons_succ]
                    kernel_rfl
                  iterate 2 (refine' chainP_read _ rfl rfl (fun w' hS' => ?_) ?_; rotate_left; · (simp only [lookP, allP, Act.put, List.getElem?_cons_zero, List.getElem?_cons_succ, List.setIfInBounds_toArray, List.set_cons_zero, List.set_cons_succ]; (try dsimp only at hS'); go_simp; (try with_reducible rfl)))
                  refine chainP_nil (fun u5 hS' => ?_)
                  simp only [allP, Act.put, List.setIfInBounds_toArray, List.set_cons_zero, List.set_cons_succ]
                  have hq5 := hS'.1
                  clear hS'
                  replace hc := Below.next hc hq5
                  clear hq5 c0_0 c0_1 c0_2 p0 p1 y1 y4
                  obtain ⟨c0_0, c0_1, c0_2, p0, p1, y1, y4⟩ := HCC.out _ hc
                  go_wp2_with fail
                  refine NoPanic.normal ?_
                  try (go_wp2_with fail)
                  refine wp_region_noPanic ?_
                  refine wp_region_P (fun w' => w'.cell? ⟨w.heap.size, 0, none⟩ = some (.int .i64 gr.p) ∧ w'.cell? ⟨w.heap.size, 1, none⟩ = some (.int .i64 gr.q) ∧ w'.cell? ⟨w.heap.size, 2, none⟩ = some (.int .i64 gr.g) ∧ w'.cell? ⟨R1, 0, none⟩ = some ((.slice (some ⟨zcb, zco, none⟩) zcn zcc)) ∧ w'.cell? ⟨R1, 1, none⟩ = some ((.slice zsa zsn zsc)) ∧ w'.cell? ⟨b1, o1 + k, none⟩ = some (.int .i64 X) ∧ w'.cell? ⟨zcb, zco, none⟩ = some (.int .i64 C0)) 18 [(0, []), (1, [0]), (2, [0]), (3, [0, 1]), (4, [0, 2]), (5, [0, 3]), (6, [0]), (7, [1]), (8, [2]), (9, [0, 3]), (10, [0, 4]), (11, [3, 0, 5]), (12, [0, 6]), (13, [6, 0, 7]), (14, [8, 0, 12]), (15, [13, 0])] [] (by kernel_rfl) (by kernel_rfl) (by kernel_rfl) rfl (fun _ _ _ _ h => h) (fun w' h => ⟨box_at c0_0 h, box_at c0_1 h, box_at c0_2 h, box_at p0 h, box_at p1 h, box_at y1 h, box_at y4 h⟩) ?_
                  simp only [pickP, pickN, List.getElem?_cons_zero, List.getElem?_cons_succ]
                  iterate 2 (refine' chainP_read _ rfl rfl (fun w' hS' => ?_) ?_; rotate_left; · (simp only [lookP, allP, Act.put, List.getElem?_cons_zero, List.getElem?_cons_succ, List.setIfInBounds_toArray, List.set_cons_zero, List.set_cons_succ]; (try dsimp only at hS'); go_simp; (try with_reducible rfl)))
                  -- 2: move t11
                  refine chainP_skip (d := (some 86)) rfl (fun w' hS' => ?_) ?_
                  · simp only [lookP, allP, Act.put, List.getElem?_cons_zero, List.getElem?_cons_succ, List.setIfInBounds_toArray, List.set_cons_zero, List.set_cons_succ]
                    kernel_rfl
                  -- 3: call { callee := builtin Builtin.len, args := #[t86], argTypes := #[25] }
                  refine chainP_skip (d := (some 87)) rfl (fun w' hS' => ?_) ?_
                  · simp only [lookP, allP, Act.put, List.getElem?_cons_zero, List.getElem?_cons_succ, List.setIfInBounds_toArray, List.set_cons_zero, List.set_cons_succ]
                    kernel_rfl
                  -- 4: binOp Bineql 3 t87 (const (int i64 0)) 3
                  refine chainP_skip (d := (some 88)) rfl (fun w' hS' => ?_) ?_
                  · simp only [lookP, allP, Act.put, List.getElem?_cons_zero, List.getElem?_cons_succ, List.setIfInBounds_toArray, List.set_cons_zero, List.set_cons_succ]
                    kernel_rfl
                  -- 5: move t88
                  refine chainP_skip (d := (some 89)) rfl (fun w' hS' => ?_) ?_
                  · simp only [lookP, allP, Act.put, List.getElem?_cons_zero, List.getElem?_cons_succ, List.setIfInBounds_toArray, List.set_cons_zero, List.set_cons_succ]
                    kernel_rfl
                  -- 6: load 61 t14
                  refine chainP_skip (d := (some 90)) rfl (fun w' hS' => ?_) ?_
                  · simp only [lookP, allP, Act.put, List.getElem?_cons_zero, List.getElem?_cons_succ, List.setIfInBounds_toArray, List.set_cons_zero, List.set_cons_succ]
                    kernel_rfl
                  -- 7: move t3
                  refine chainP_skip (d := (some 91)) rfl (fun w' hS' => ?_) ?_
                  · simp only [lookP, allP, Act.put, List.getElem?_cons_zero, List.getElem?_cons_succ, List.setIfInBounds_toArray, List.set_cons_zero, List.set_cons_succ]
                    kernel_rfl
                  -- 8: move t11
                  refine chainP_skip (d := (some 92)) rfl (fun w' hS' => ?_) ?_
                  · simp only [lookP, allP, Act.put, List.getElem?_cons_zero, List.getElem?_cons_succ, List.setIfInBounds_toArray, List.set_cons_zero, List.set_cons_succ]
                    kernel_rfl
                  -- 9: indexAddr 25 t92 (const (int i64 0))
                  refine chainP_skip (d := (some 93)) rfl (fun w' hS' => ?_) ?_
                  · simp only [lookP, allP, Act.put, List.getElem?_cons_zero, List.getElem?_cons_succ, List.setIfInBounds_toArray, List.set_cons_zero, List.set_cons_succ]
                    kernel_rfl
                  -- 10: load 3 t93
                  refine chainP_skip (d := (some 94)) rfl (fun w' hS' => ?_) ?_
                  · simp only [lookP, allP, Act.put, List.getElem?_cons_zero, List.getElem?_cons_succ, List.setIfInBounds_toArray, List.set_cons_zero, List.set_cons_succ]
                    kernel_rfl
                  -- 11: indexAddr 28 t91 t94
                  refine chainP_skip (d := (some 95)) rfl (fun w' hS' => ?_) ?_
                  · simp only [lookP, allP, Act.put, List.getElem?_cons_zero, List.getElem?_cons_succ, List.setIfInBounds_toArray, List.set_cons_zero, List.set_cons_succ]
                    kernel_rfl
                  -- 12: load 61 t95
                  refine chainP_skip (d := (some 96)) rfl (fun w' hS' => ?_) ?_
                  · simp only [lookP, allP, Act.put, List.getElem?_cons_zero, List.getElem?_cons_succ, List.setIfInBounds_toArray, List.set_cons_zero, List.set_cons_succ]
                    kernel_rfl
                  -- 13: call { callee := value (func 28), args := #[t90, t96], argTypes := #[61, 61] }
                  refine chainP_skip (d := (some 97)) rfl (fun w' hS' => ?_) ?_
                  · simp only [lookP, allP, Act.put, List.getElem?_cons_zero, List.getElem?_cons_succ, List.setIfInBounds_toArray, List.set_cons_zero, List.set_cons_succ]
                    kernel_rfl
                  -- 14: pick t89 (const (bool true)) t97
                  refine chainP_skip (d := (some 98)) rfl (fun w' hS' => ?_) ?_
                  · simp only [lookP, allP, Act.put, List.getElem?_cons_zero, List.getElem?_cons_succ, List.setIfInBounds_toArray, List.set_cons_zero, List.set_cons_succ]
                    kernel_rfl
                  -- 15: pick t85 t98 (const (bool false))
                  refine' chainP_read (d := (some 99)) _ rfl rfl (fun w' hS' => ?_) ?_; rotate_left
                  · simp only [lookP, allP, Act.put, List.getElem?_cons_zero, List.getElem?_cons_succ, List.setIfInBounds_toArray, List.set_cons_zero, List.set_cons_succ]
                    (try dsimp only at hS')
                    go_simp
                    (try with_reducible rfl)
                  refine chainP_nil (fun u6 hS' => ?_)
                  simp only [allP, Act.put, List.setIfInBounds_toArray, List.set_cons_zero, List.set_cons_succ]
                  have hq6 := hS'.1
                  clear hS'
                  replace hc := Below.next hc hq6
                  clear hq6 c0_0 c0_1 c0_2 p0 p1 y1 y4
                  obtain ⟨c0_0, c0_1, c0_2, p0, p1, y1, y4⟩ := HCC.out _ hc
                  go_wp2_with fail
                  refine NoPanic.normal ?_
                  have HSQ := Lib.hid (HST.out false HC0.out HAT.out HBN.out (by rw [hc6]; simp))
                  have HRZ := Lib.hid (HRV.out.below hc)
                  have HBZ := Lib.hid (HBrV.out.trans (hc.mono HBrV.out.size))
                  have hszz : u4.heap.size ≤ u6.heap.size := HBZ.out.size
                  go_wp2_with (at_builtin; refine RowsI.list_appN rfl _ _ rfl (HRZ.out.below ((Below.refl _ _).alloc (Nat.le_refl _) _)) (by simp; omega) 1 rfl (Ints.lit1 _ HKI.out) (by simp) (on + 1) (by have := HUL.out; have := HOL.out; simp; omega) (by omega) rfl rfl ?_; intro a9 c9 w9 h9 _ hb9; have HR9 := Lib.hid h9; have HB9 : Hid (Below u4.heap.size u4 w9) := (HBZ.out.trans ((Below.refl _ _).alloc (by omega) _)).trans hb9; clear h9 hb9 c0_0 c0_1 c0_2 p0 p1 y1 y4)
                  go_roundg (lvn - (k + 1))
                  case measure => exact hgk
                  case rel => exact ⟨k + 1, _, _, by omega, by go_num, Lib.hid ⟨rfl, rfl⟩, by unfold Hid; rw [HSQ.out.1, HSQ.out.2]; exact HR9.out, HB9⟩
                | true =>
                  try (go_wp2_with fail)
                  refine wp_region_noPanic ?_
                  refine wp_region_P (fun w' => w'.cell? ⟨w.heap.size, 0, none⟩ = some (.int .i64 gr.p) ∧ w'.cell? ⟨w.heap.size, 1, none⟩ = some (.int .i64 gr.q) ∧ w'.cell? ⟨w.heap.size, 2, none⟩ = some (.int .i64 gr.g) ∧ w'.cell? ⟨R1, 0, none⟩ = some ((.slice (some ⟨zcb, zco, none⟩) zcn zcc)) ∧ w'.cell? ⟨R1, 1, none⟩ = some ((.slice zsa zsn zsc)) ∧ w'.cell? ⟨b1, o1 + k, none⟩ = some (.int .i64 X) ∧ w'.cell? ⟨zcb, zco, none⟩ = some (.int .i64 C0)) 22 [(0, []), (1, [0]), (2, [0]), (3, [0]), (4, []), (5, []), (6, []), (7, []), (8, [1, 0]), (9, [0]), (10, [5, 4, 0]), (11, [7, 0]), (12, [0]), (13, [0]), (14, [1]), (15, [1, 0, 2]), (16, [0, 3]), (17, [0, 4]), (18, [5, 0]), (19, [0])] [] (by kernel_rfl) (by kernel_rfl) (by kernel_rfl) rfl (fun _ _ _ _ h => h) (fun w' h => ⟨box_at c0_0 h, box_at c0_1 h, box_at c0_2 h, box_at p0 h, box_at p1 h, box_at y1 h, box_at y4 h⟩) ?_
                  simp only [pickP, pickN, List.getElem?_cons_zero, List.getElem?_cons_succ]
                  iterate 10 (refine' chainP_read _ rfl rfl (fun w' hS' => ?_) ?_; rotate_left; · (simp only [lookP, allP, Act.put, List.getElem?_cons_zero, List.getElem?_cons_succ, List.setIfInBounds_toArray, List.set_cons_zero, List.set_cons_succ]; (try dsimp only at hS'); go_simp; (try with_reducible rfl)))
                  -- 10: call { callee := value (func 52), args := #[t69, t70, t74], argTypes := #[24, 25, 3] }
                  refine chainP_call (d := (some 75)) (.int .i64 AT) rfl rfl (fun w' hS' => ?_) ?_
                  · simp only [lookP, allP, Act.put, List.getElem?_cons_zero, List.getElem?_cons_succ, List.setIfInBounds_toArray, List.set_cons_zero, List.set_cons_succ]
                    intro K hK
                    go_simp
                    go_at_call 52
                    refine (impl_commitAt gr _ cm X _ HG.out ((Hcv.out.below (HB.out.trans (hc.mono HB.out.size))).below hS'.1) HEL.out HCL.out HXB.out).mono ?_
                    rintro e u ⟨rfl, hq⟩
                    rw [HAT.out]
                    exact hK.out _ hq
                  iterate 2 (refine' chainP_read _ rfl rfl (fun w' hS' => ?_) ?_; rotate_left; · (simp only [lookP, allP, Act.put, List.getElem?_cons_zero, List.getElem?_cons_succ, List.setIfInBounds_toArray, List.set_cons_zero, List.set_cons_succ]; (try dsimp only at hS'); go_simp; (try with_reducible rfl)))
                  -- 13: load 24 t4
                  refine' chainP_readG (d := (some 78)) _ rfl (fun w' hS' => ?_) ?_; rotate_left
                  · simp only [lookP, allP, Act.put, List.getElem?_cons_zero, List.getElem?_cons_succ, List.setIfInBounds_toArray, List.set_cons_zero, List.set_cons_succ]
                    refine ⟨by kernel_rfl, ?_⟩
                    (try dsimp only at hS')
                    go_simp
                    (try with_reducible rfl)
                  -- 14: load 61 t14
                  refine' chainP_readG (d := (some 79)) _ rfl (fun w' hS' => ?_) ?_; rotate_left
                  · simp only [lookP, allP, Act.put, List.getElem?_cons_zero, List.getElem?_cons_succ, List.setIfInBounds_toArray, List.set_cons_zero, List.set_cons_succ]
                    refine ⟨by kernel_rfl, ?_⟩
                    (try dsimp only at hS')
                    go_simp
                    (try with_reducible rfl)
                  -- 15: call { callee := value (func 44), args := #[t78, t79], argTypes := #[24, 61] }
                  refine chainP_doG (d := (some 80)) (fun v u => ∃ (a : Option Addr) (c : Nat), v = .slice a bn c) (fun v w1 w2 hw h => h) rfl (fun w' hS' => ?_) ?_
                  · simp only [lookP, allP, Act.put, List.getElem?_cons_zero, List.getElem?_cons_succ, List.setIfInBounds_toArray, List.set_cons_zero, List.set_cons_succ]
                    refine ⟨by kernel_rfl, ?_⟩
                    intro K hK
                    go_simp
                    go_at_call 44
                    refine (impl_bad gr _ Z _ HG.out (DlR.mk (((Hzc.out.below (HB.out.trans (hc.mono HB.out.size))).below hS'.1)) (((Hzs.out.below (HB.out.trans (hc.mono HB.out.size))).below hS'.1))) HDD.out).mono ?_
                    rintro e u ⟨⟨vb, rfl, hob⟩, hq⟩
                    obtain ⟨ba, bc, rfl⟩ := OwnI.shapeN (n := bn) hob HBN.out
                    exact hK.out _ _ hq ⟨ba, bc, rfl⟩
                  -- 16: call { callee := builtin Builtin.len, args := #[t80], argTypes := #[25] }
                  refine chainP_readG (d := (some 81)) (.int .i64 (bn : Int)) rfl (fun w' hS' => ?_) ?_
                  · simp only [lookP, allP, Act.put, List.getElem?_cons_zero, List.getElem?_cons_succ, List.setIfInBounds_toArray, List.set_cons_zero, List.set_cons_succ]
                    intro x15 hx15
                    refine ⟨by kernel_rfl, ?_⟩
                    obtain ⟨a16, c16, rfl⟩ := hx15
                    go_simp
                  -- 17: binOp Bineql 3 t81 (const (int i64 0)) 3
                  refine' chainP_readG (d := (some 82)) _ rfl (fun w' hS' => ?_) ?_; rotate_left
                  · simp only [lookP, allP, Act.put, List.getElem?_cons_zero, List.getElem?_cons_succ, List.setIfInBounds_toArray, List.set_cons_zero, List.set_cons_succ]
                    refine ⟨by kernel_rfl, ?_⟩
                    (try dsimp only at hS')
                    go_simp
                    (try with_reducible rfl)
                  iterate 2 (refine' chainP_read _ rfl rfl (fun w' hS' => ?_) ?_; rotate_left; · (simp only [lookP, allP, Act.put, List.getElem?_cons_zero, List.getElem?_cons_succ, List.setIfInBounds_toArray, List.set_cons_zero, List.set_cons_succ]; (try dsimp only at hS'); go_simp; (try with_reducible rfl)))
                  refine chainP_nil (fun u5 hS' => ?_)
                  simp only [allP, Act.put, List.setIfInBounds_toArray, List.set_cons_zero, List.set_cons_succ]
                  intro x15 hx15
                  have hq5 := hS'.1
                  clear hS'
                  replace hc := Below.next hc hq5
                  clear hq5 c0_0 c0_1 c0_2 p0 p1 y1 y4
                  obtain ⟨c0_0, c0_1, c0_2, p0, p1, y1, y4⟩ := HCC.out _ hc
                  go_wp2_with fail
                  refine NoPanic.normal ?_
                  cases hc7 : ((bn : Int) == 0) with
                  | false =>
                    try (go_wp2_with fail)
                    refine wp_region_noPanic ?_
                    refine wp_region_P (fun w' => w'.cell? ⟨w.heap.size, 0, none⟩ = some (.int .i64 gr.p) ∧ w'.cell? ⟨w.heap.size, 1, none⟩ = some (.int .i64 gr.q) ∧ w'.cell? ⟨w.heap.size, 2, none⟩ = some (.int .i64 gr.g) ∧ w'.cell? ⟨R1, 0, none⟩ = some ((.slice (some ⟨zcb, zco, none⟩) zcn zcc)) ∧ w'.cell? ⟨R1, 1, none⟩ = some ((.slice zsa zsn zsc)) ∧ w'.cell? ⟨b1, o1 + k, none⟩ = some (.int .i64 X) ∧ w'.cell? ⟨zcb, zco, none⟩ = some (.int .i64 C0)) 18 [(0, []), (1, [0]), (2, [0]), (3, [0, 1]), (4, [0, 2]), (5, [0, 3]), (6, [0]), (7, [1]), (8, [2]), (9, [0, 3]), (10, [0, 4]), (11, [3, 0, 5]), (12, [0, 6]), (13, [6, 0, 7]), (14, [8, 0, 12]), (15, [13, 0])] [] (by kernel_rfl) (by kernel_rfl) (by kernel_rfl) rfl (fun _ _ _ _ h => h) (fun w' h => ⟨box_at c0_0 h, box_at c0_1 h, box_at c0_2 h, box_at p0 h, box_at p1 h, box_at y1 h, box_at y4 h⟩) ?_
                    simp only [pickP, pickN, List.getElem?_cons_zero, List.getElem?_cons_succ]
                    iterate 2 (refine' chainP_read _ rfl rfl (fun w' hS' => ?_) ?_; rotate_left; · (simp only [lookP, allP, Act.put, List.getElem?_cons_zero, List.getElem?_cons_succ, List.setIfInBounds_toArray, List.set_cons_zero, List.set_cons_succ]; (try dsimp only at hS'); go_simp; (try with_reducible rfl)))
                    -- 2: move t11
                    refine chainP_skip (d := (some 86)) rfl (fun w' hS' => ?_) ?_
                    · simp only [lookP, allP, Act.put, List.getElem?_cons_zero, List.getElem?_cons_succ, List.setIfInBounds_toArray, List.set_cons_zero, List.set_cons_succ]
                      kernel_rfl
                    -- 3: call { callee := builtin Builtin.len, args := #[t86], argTypes := #[25] }
                    refine chainP_skip (d := (some 87)) rfl (fun w' hS' => ?_) ?_
                    · simp only [lookP, allP, Act.put, List.getElem?_cons_zero, List.getElem?_cons_succ, List.setIfInBounds_toArray, List.set_cons_zero, List.set_cons_succ]
                      kernel_rfl
                    -- 4: binOp Bineql 3 t87 (const (int i64 0)) 3
                    refine chainP_skip (d := (some 88)) rfl (fun w' hS' => ?_) ?_
                    · simp only [lookP, allP, Act.put, List.getElem?_cons_zero, List.getElem?_cons_succ, List.setIfInBounds_toArray, List.set_cons_zero, List.set_cons_succ]
                      kernel_rfl
                    -- 5: move t88
                    refine chainP_skip (d := (some 89)) rfl (fun w' hS' => ?_) ?_
                    · simp only [lookP, allP, Act.put, List.getElem?_cons_zero, List.getElem?_cons_succ, List.setIfInBounds_toArray, List.set_cons_zero, List.set_cons_succ]
                      kernel_rfl
                    -- 6: load 61 t14
                    refine chainP_skip (d := (some 90)) rfl (fun w' hS' => ?_) ?_
                    · simp only [lookP, allP, Act.put, List.getElem?_cons_zero, List.getElem?_cons_succ, List.setIfInBounds_toArray, List.set_cons_zero, List.set_cons_succ]
                      kernel_rfl
                    -- 7: move t3
                    refine chainP_skip (d := (some 91)) rfl (fun w' hS' => ?_) ?_
                    · simp only [lookP, allP, Act.put, List.getElem?_cons_zero, List.getElem?_cons_succ, List.setIfInBounds_toArray, List.set_cons_zero, List.set_cons_succ]
                      kernel_rfl
                    -- 8: move t11
                    refine chainP_skip (d := (some 92)) rfl (fun w' hS' => ?_) ?_
                    · simp only [lookP, allP, Act.put, List.getElem?_cons_zero, List.getElem?_cons_succ, List.setIfInBounds_toArray, List.set_cons_zero, List.set_cons_succ]
                      kernel_rfl
                    -- 9: indexAddr 25 t92 (const (int i64 0))
                    refine chainP_skip (d := (some 93)) rfl (fun w' hS' => ?_) ?_
                    · simp only [lookP, allP, Act.put, List.getElem?_cons_zero, List.getElem?_cons_succ, List.setIfInBounds_toArray, List.set_cons_zero, List.set_cons_succ]
                      kernel_rfl
                    -- 10: load 3 t93
                    refine chainP_skip (d := (some 94)) rfl (fun w' hS' => ?_) ?_
                    · simp only [lookP, allP, Act.put, List.getElem?_cons_zero, List.getElem?_cons_succ, List.setIfInBounds_toArray, List.set_cons_zero, List.set_cons_succ]
                      kernel_rfl
                    -- 11: indexAddr 28 t91 t94
                    refine chainP_skip (d := (some 95)) rfl (fun w' hS' => ?_) ?_
                    · simp only [lookP, allP, Act.put, List.getElem?_cons_zero, List.getElem?_cons_succ, List.setIfInBounds_toArray, List.set_cons_zero, List.set_cons_succ]
                      kernel_rfl
                    -- 12: load 61 t95
                    refine chainP_skip (d := (some 96)) rfl (fun w' hS' => ?_) ?_
                    · simp only [lookP, allP, Act.put, List.getElem?_cons_zero, List.getElem?_cons_succ, List.setIfInBounds_toArray, List.set_cons_zero, List.set_cons_succ]
                      kernel_rfl
                    -- 13: call { callee := value (func 28), args := #[t90, t96], argTypes := #[61, 61] }
                    refine chainP_skip (d := (some 97)) rfl (fun w' hS' => ?_) ?_
                    · simp only [lookP, allP, Act.put, List.getElem?_cons_zero, List.getElem?_cons_succ, List.setIfInBounds_toArray, List.set_cons_zero, List.set_cons_succ]
                      kernel_rfl
                    -- 14: pick t89 (const (bool true)) t97
                    refine chainP_skip (d := (some 98)) rfl (fun w' hS' => ?_) ?_
                    · simp only [lookP, allP, Act.put, List.getElem?_cons_zero, List.getElem?_cons_succ, List.setIfInBounds_toArray, List.set_cons_zero, List.set_cons_succ]
                      kernel_rfl
                    -- 15: pick t85 t98 (const (bool false))
                    refine' chainP_read (d := (some 99)) _ rfl rfl (fun w' hS' => ?_) ?_; rotate_left
                    · simp only [lookP, allP, Act.put, List.getElem?_cons_zero, List.getElem?_cons_succ, List.setIfInBounds_toArray, List.set_cons_zero, List.set_cons_succ]
                      (try dsimp only at hS')
                      go_simp
                      (try with_reducible rfl)
                    refine chainP_nil (fun u6 hS' => ?_)
                    simp only [allP, Act.put, List.setIfInBounds_toArray, List.set_cons_zero, List.set_cons_succ]
                    have hq6 := hS'.1
                    clear hS'
                    replace hc := Below.next hc hq6
                    clear hq6 c0_0 c0_1 c0_2 p0 p1 y1 y4
                    obtain ⟨c0_0, c0_1, c0_2, p0, p1, y1, y4⟩ := HCC.out _ hc
                    go_wp2_with fail
                    refine NoPanic.normal ?_
                    have HSQ := Lib.hid (HST.out false HC0.out HAT.out HBN.out (by rw [hc6]; rw [show decide (bn = 0) = false by exact decide_eq_false (by have q := hc7; rw [beq_eq_false_iff_ne] at q; omega)]; simp))
                    have HRZ := Lib.hid (HRV.out.below hc)
                    have HBZ := Lib.hid (HBrV.out.trans (hc.mono HBrV.out.size))
                    have hszz : u4.heap.size ≤ u6.heap.size := HBZ.out.size
                    go_wp2_with (at_builtin; refine RowsI.list_appN rfl _ _ rfl (HRZ.out.below ((Below.refl _ _).alloc (Nat.le_refl _) _)) (by simp; omega) 1 rfl (Ints.lit1 _ HKI.out) (by simp) (on + 1) (by have := HUL.out; have := HOL.out; simp; omega) (by omega) rfl rfl ?_; intro a9 c9 w9 h9 _ hb9; have HR9 := Lib.hid h9; have HB9 : Hid (Below u4.heap.size u4 w9) := (HBZ.out.trans ((Below.refl _ _).alloc (by omega) _)).trans hb9; clear h9 hb9 c0_0 c0_1 c0_2 p0 p1 y1 y4)
                    go_roundg (lvn - (k + 1))
                    case measure => exact hgk
                    case rel => exact ⟨k + 1, _, _, by omega, by go_num, Lib.hid ⟨rfl, rfl⟩, by unfold Hid; rw [HSQ.out.1, HSQ.out.2]; exact HR9.out, HB9⟩
                  | true =>
                    cases hc8 : ((un : Int) == 0) with
                    | false =>
                      have hun0 : 0 < un := by have q := hc8; rw [beq_eq_false_iff_ne] at q; omega
                      obtain ⟨ub, uo, hq, hx⟩ := (HRV.out.own 0 _ _ rfl).ints.at_ hun0
                      have hq' := hq
                      subst hq'
                      clear hq
                      have KU0 := hx 0 hun0
                      obtain ⟨j0, hj0, hju⟩ := HUN.out.2 0 (by have := HUL.out; omega)
                      rw [hju, Nat.add_zero] at KU0
                      have KU := Lib.hid KU0
                      have HJU := Lib.hid hju
                      clear hju hx KU0
                      obtain ⟨_, _, yca, ycn, ycc, ysa, ysn, ysc, e, L2, L3, g0, g1⟩ := RdDl.get Hlv.out (show j0 < l.length by have := HK.out; omega)
                      cases e
                      rw [← atD_eq] at g0 g1
                      obtain ⟨Y, hY⟩ : ∃ z, atD l j0 = z := ⟨_, rfl⟩
                      rw [hY] at g0 g1
                      have HYY : Hid (smB Z (atD l (nth us 0).toNat) = smB Z Y) := by unfold Hid; rw [HJU.out, Int.toNat_natCast, hY]
                      clear hY
                      have Hyc := Lib.hid g0
                      have Hys := Lib.hid g1
                      have KL2 := Lib.hid L2
                      have KL3 := Lib.hid L3
                      have v0 := box_at KU.out hc
                      have v1 := box_at L2 (HB.out.trans (hc.mono HB.out.size))
                      have v2 := box_at L3 (HB.out.trans (hc.mono HB.out.size))
                      have bj0 : (0 : Int) ≤ (j0 : Int) := by omega
                      have bj1 : (j0 : Int) < (lvn : Int) := by omega
                      have bu0 : (0 : Int) < (un : Int) := by omega
                      clear L2 L3 g0 g1
                      replace HCC : Hid (∀ u, Below W.heap.size W u → u.cell? ⟨w.heap.size, 0, none⟩ = some (.int .i64 gr.p) ∧ u.cell? ⟨w.heap.size, 1, none⟩ = some (.int .i64 gr.q) ∧ u.cell? ⟨w.heap.size, 2, none⟩ = some (.int .i64 gr.g) ∧ u.cell? ⟨R1, 0, none⟩ = some ((.slice (some ⟨zcb, zco, none⟩) zcn zcc)) ∧ u.cell? ⟨R1, 1, none⟩ = some ((.slice zsa zsn zsc)) ∧ u.cell? ⟨b1, o1 + k, none⟩ = some (.int .i64 X) ∧ u.cell? ⟨zcb, zco, none⟩ = some (.int .i64 C0) ∧ u.cell? ⟨ub, uo, none⟩ = some (.int .i64 (j0 : Int)) ∧ u.cell? ⟨bz, oz + j0 * 2, none⟩ = some ((.slice yca ycn ycc)) ∧ u.cell? ⟨bz, oz + j0 * 2 + 1, none⟩ = some ((.slice ysa ysn ysc))) := fun u h => by obtain ⟨c0_0, c0_1, c0_2, p0, p1, y1, y4⟩ := HCC.out u h; exact ⟨c0_0, c0_1, c0_2, p0, p1, y1, y4, box_at KU.out h, box_at KL2.out (HB.out.trans (h.mono HB.out.size)), box_at KL3.out (HB.out.trans (h.mono HB.out.size))⟩
                      try (go_wp2_with fail)
                      refine wp_region_noPanic ?_
                      refine wp_region_P (fun w' => w'.cell? ⟨w.heap.size, 0, none⟩ = some (.int .i64 gr.p) ∧ w'.cell? ⟨w.heap.size, 1, none⟩ = some (.int .i64 gr.q) ∧ w'.cell? ⟨w.heap.size, 2, none⟩ = some (.int .i64 gr.g) ∧ w'.cell? ⟨R1, 0, none⟩ = some ((.slice (some ⟨zcb, zco, none⟩) zcn zcc)) ∧ w'.cell? ⟨R1, 1, none⟩ = some ((.slice zsa zsn zsc)) ∧ w'.cell? ⟨b1, o1 + k, none⟩ = some (.int .i64 X) ∧ w'.cell? ⟨zcb, zco, none⟩ = some (.int .i64 C0) ∧ w'.cell? ⟨ub, uo, none⟩ = some (.int .i64 (j0 : Int)) ∧ w'.cell? ⟨bz, oz + j0 * 2, none⟩ = some ((.slice yca ycn ycc)) ∧ w'.cell? ⟨bz, oz + j0 * 2 + 1, none⟩ = some ((.slice ysa ysn ysc))) 18 [(0, []), (1, [0]), (2, [0]), (3, [0, 1]), (4, [0, 2]), (5, [0, 3]), (6, [0]), (7, [1]), (8, [2]), (9, [0, 3]), (10, [0, 4]), (11, [3, 0, 5]), (12, [0, 6]), (13, [6, 0, 7]), (14, [8, 0, 12]), (15, [13, 0])] [] (by kernel_rfl) (by kernel_rfl) (by kernel_rfl) rfl (fun _ _ _ _ h => h) (fun w' h => ⟨box_at c0_0 h, box_at c0_1 h, box_at c0_2 h, box_at p0 h, box_at p1 h, box_at y1 h, box_at y4 h, box_at v0 h, box_at v1 h, box_at v2 h⟩) ?_
                      simp only [pickP, pickN, List.getElem?_cons_zero, List.getElem?_cons_succ]
                      iterate 2 (refine' chainP_read _ rfl rfl (fun w' hS' => ?_) ?_; rotate_left; · (simp only [lookP, allP, Act.put, List.getElem?_cons_zero, List.getElem?_cons_succ, List.setIfInBounds_toArray, List.set_cons_zero, List.set_cons_succ]; (try dsimp only at hS'); go_simp; (try with_reducible rfl)))
                      -- 2: move t11
                      refine' chainP_readG (d := (some 86)) _ rfl (fun w' hS' => ?_) ?_; rotate_left
                      · simp only [lookP, allP, Act.put, List.getElem?_cons_zero, List.getElem?_cons_succ, List.setIfInBounds_toArray, List.set_cons_zero, List.set_cons_succ]
                        refine ⟨by kernel_rfl, ?_⟩
                        (try dsimp only at hS')
                        go_simp
                        (try with_reducible rfl)
                      -- 3: call { callee := builtin Builtin.len, args := #[t86], argTypes := #[25] }
                      refine' chainP_readG (d := (some 87)) _ rfl (fun w' hS' => ?_) ?_; rotate_left
                      · simp only [lookP, allP, Act.put, List.getElem?_cons_zero, List.getElem?_cons_succ, List.setIfInBounds_toArray, List.set_cons_zero, List.set_cons_succ]
                        refine ⟨by kernel_rfl, ?_⟩
                        (try dsimp only at hS')
                        go_simp
                        (try with_reducible rfl)
                      -- 4: binOp Bineql 3 t87 (const (int i64 0)) 3
                      refine' chainP_readG (d := (some 88)) _ rfl (fun w' hS' => ?_) ?_; rotate_left
                      · simp only [lookP, allP, Act.put, List.getElem?_cons_zero, List.getElem?_cons_succ, List.setIfInBounds_toArray, List.set_cons_zero, List.set_cons_succ]
                        refine ⟨by kernel_rfl, ?_⟩
                        (try dsimp only at hS')
                        go_simp
                        (try with_reducible rfl)
                      -- 5: move t88
                      refine' chainP_readG (d := (some 89)) _ rfl (fun w' hS' => ?_) ?_; rotate_left
                      · simp only [lookP, allP, Act.put, List.getElem?_cons_zero, List.getElem?_cons_succ, List.setIfInBounds_toArray, List.set_cons_zero, List.set_cons_succ]
                        refine ⟨by kernel_rfl, ?_⟩
                        (try dsimp only at hS')
                        go_simp
                        (try with_reducible rfl)
                      -- 6: load 61 t14
                      refine' chainP_readG (d := (some 90)) _ rfl (fun w' hS' => ?_) ?_; rotate_left
                      · simp only [lookP, allP, Act.put, List.getElem?_cons_zero, List.getElem?_cons_succ, List.setIfInBounds_toArray, List.set_cons_zero, List.set_cons_succ]
                        refine ⟨by kernel_rfl, ?_⟩
                        (try dsimp only at hS')
                        go_simp
                        (try with_reducible rfl)
                      -- 7: move t3
                      refine' chainP_readG (d := (some 91)) _ rfl (fun w' hS' => ?_) ?_; rotate_left
                      · simp only [lookP, allP, Act.put, List.getElem?_cons_zero, List.getElem?_cons_succ, List.setIfInBounds_toArray, List.set_cons_zero, List.set_cons_succ]
                        refine ⟨by kernel_rfl, ?_⟩
                        (try dsimp only at hS')
                        go_simp
                        (try with_reducible rfl)
                      -- 8: move t11
                      refine' chainP_readG (d := (some 92)) _ rfl (fun w' hS' => ?_) ?_; rotate_left
                      · simp only [lookP, allP, Act.put, List.getElem?_cons_zero, List.getElem?_cons_succ, List.setIfInBounds_toArray, List.set_cons_zero, List.set_cons_succ]
                        refine ⟨by kernel_rfl, ?_⟩
                        (try dsimp only at hS')
                        go_simp
                        (try with_reducible rfl)
                      -- 9: indexAddr 25 t92 (const (int i64 0))
                      refine' chainP_readG (d := (some 93)) _ rfl (fun w' hS' => ?_) ?_; rotate_left
                      · simp only [lookP, allP, Act.put, List.getElem?_cons_zero, List.getElem?_cons_succ, List.setIfInBounds_toArray, List.set_cons_zero, List.set_cons_succ]
                        refine ⟨by kernel_rfl, ?_⟩
                        (try dsimp only at hS')
                        go_simp
                        (try with_reducible rfl)
                      -- 10: load 3 t93
                      refine' chainP_readG (d := (some 94)) _ rfl (fun w' hS' => ?_) ?_; rotate_left
                      · simp only [lookP, allP, Act.put, List.getElem?_cons_zero, List.getElem?_cons_succ, List.setIfInBounds_toArray, List.set_cons_zero, List.set_cons_succ]
                        refine ⟨by kernel_rfl, ?_⟩
                        (try dsimp only at hS')
                        go_simp
                        (try with_reducible rfl)
                      -- 11: indexAddr 28 t91 t94
                      refine' chainP_readG (d := (some 95)) _ rfl (fun w' hS' => ?_) ?_; rotate_left
                      · simp only [lookP, allP, Act.put, List.getElem?_cons_zero, List.getElem?_cons_succ, List.setIfInBounds_toArray, List.set_cons_zero, List.set_cons_succ]
                        refine ⟨by kernel_rfl, ?_⟩
                        (try dsimp only at hS')
                        go_simp
                        (try with_reducible rfl)
                      -- 12: load 61 t95
                      refine' chainP_readG (d := (some 96)) _ rfl (fun w' hS' => ?_) ?_; rotate_left
                      · simp only [lookP, allP, Act.put, List.getElem?_cons_zero, List.getElem?_cons_succ, List.setIfInBounds_toArray, List.set_cons_zero, List.set_cons_succ]
                        refine ⟨by kernel_rfl, ?_⟩
                        (try dsimp only at hS')
                        go_simp
                        (try with_reducible rfl)
                      -- 13: call { callee := value (func 28), args := #[t90, t96], argTypes := #[61, 61] }
                      refine chainP_callG (d := (some 97)) (.bool (smB Z Y)) rfl (fun w' hS' => ?_) ?_
                      · simp only [lookP, allP, Act.put, List.getElem?_cons_zero, List.getElem?_cons_succ, List.setIfInBounds_toArray, List.set_cons_zero, List.set_cons_succ]
                        refine ⟨by kernel_rfl, ?_⟩
                        intro K hK
                        go_simp
                        go_at_call 28
                        refine (impl_sameShape _ _ Z Y _ (DlR.mk ((Hzc.out.below (HB.out.trans (hc.mono HB.out.size))).below hS'.1) ((Hzs.out.below (HB.out.trans (hc.mono HB.out.size))).below hS'.1)) (DlR.mk ((Hyc.out.below (HB.out.trans (hc.mono HB.out.size))).below hS'.1) ((Hys.out.below (HB.out.trans (hc.mono HB.out.size))).below hS'.1))).mono ?_
                        rintro e u ⟨rfl, hq⟩
                        exact hK.out _ hq
                      -- 14: pick t89 (const (bool true)) t97
                      refine' chainP_readG (d := (some 98)) _ rfl (fun w' hS' => ?_) ?_; rotate_left
                      · simp only [lookP, allP, Act.put, List.getElem?_cons_zero, List.getElem?_cons_succ, List.setIfInBounds_toArray, List.set_cons_zero, List.set_cons_succ]
                        refine ⟨by kernel_rfl, ?_⟩
                        (try dsimp only at hS')
                        go_simp
                        (try with_reducible rfl)
                      -- 15: pick t85 t98 (const (bool false))
                      refine' chainP_read (d := (some 99)) _ rfl rfl (fun w' hS' => ?_) ?_; rotate_left
                      · simp only [lookP, allP, Act.put, List.getElem?_cons_zero, List.getElem?_cons_succ, List.setIfInBounds_toArray, List.set_cons_zero, List.set_cons_succ]
                        (try dsimp only at hS')
                        go_simp
                        (try with_reducible rfl)
                      refine chainP_nil (fun u6 hS' => ?_)
                      simp only [allP, Act.put, List.setIfInBounds_toArray, List.set_cons_zero, List.set_cons_succ]
                      have hq6 := hS'.1
                      clear hS'
                      replace hc := Below.next hc hq6
                      clear hq6 c0_0 c0_1 c0_2 p0 p1 y1 y4 v0 v1 v2
                      obtain ⟨c0_0, c0_1, c0_2, p0, p1, y1, y4, v0, v1, v2⟩ := HCC.out _ hc
                      go_wp2_with fail
                      refine NoPanic.normal ?_
                      cases hc9 : smB Z Y with
                      | false =>
                        have Hhc9 := Lib.hid hc9
                        clear hc9
                        have HSQ := Lib.hid (HST.out false HC0.out HAT.out HBN.out (by rw [hc6]; rw [show decide (bn = 0) = true by exact decide_eq_true (by have q := hc7; rw [beq_iff_eq] at q; omega)]; rw [show decide (us.length = 0) = false by exact decide_eq_false (by have q := hc8; rw [beq_eq_false_iff_ne] at q; have := HUL.out; omega)]; rw [HYY.out, Hhc9.out]; simp))
                        have HRZ := Lib.hid (HRV.out.below hc)
                        have HBZ := Lib.hid (HBrV.out.trans (hc.mono HBrV.out.size))
                        have hszz : u4.heap.size ≤ u6.heap.size := HBZ.out.size
                        go_wp2_with (at_builtin; refine RowsI.list_appN rfl _ _ rfl (HRZ.out.below ((Below.refl _ _).alloc (Nat.le_refl _) _)) (by simp; omega) 1 rfl (Ints.lit1 _ HKI.out) (by simp) (on + 1) (by have := HUL.out; have := HOL.out; simp; omega) (by omega) rfl rfl ?_; intro a9 c9 w9 h9 _ hb9; have HR9 := Lib.hid h9; have HB9 : Hid (Below u4.heap.size u4 w9) := (HBZ.out.trans ((Below.refl _ _).alloc (by omega) _)).trans hb9; clear h9 hb9 c0_0 c0_1 c0_2 p0 p1 y1 y4 v0 v1 v2)
                        go_roundg (lvn - (k + 1))
                        case measure => exact hgk
                        case rel => exact ⟨k + 1, _, _, by omega, by go_num, Lib.hid ⟨rfl, rfl⟩, by unfold Hid; rw [HSQ.out.1, HSQ.out.2]; exact HR9.out, HB9⟩
                      | true =>
                        have Hhc9 := Lib.hid hc9
                        clear hc9
                        have HSQ := Lib.hid (HST.out true HC0.out HAT.out HBN.out (by rw [hc6]; rw [show decide (bn = 0) = true by exact decide_eq_true (by have q := hc7; rw [beq_iff_eq] at q; omega)]; rw [show decide (us.length = 0) = false by exact decide_eq_false (by have q := hc8; rw [beq_eq_false_iff_ne] at q; have := HUL.out; omega)]; rw [HYY.out, Hhc9.out]; simp))
                        have HRZ := Lib.hid (HRV.out.below hc)
                        have HBZ := Lib.hid (HBrV.out.trans (hc.mono HBrV.out.size))
                        have hszz : u4.heap.size ≤ u6.heap.size := HBZ.out.size
                        go_wp2_with (at_builtin; refine RowsI.list_appN rfl _ _ rfl (HRZ.out.below ((Below.refl _ _).alloc (Nat.le_refl _) _)) (by simp; omega) 0 rfl (Ints.lit1 _ HKI.out) (by simp) (un + 1) (by have := HUL.out; have := HOL.out; simp; omega) (by omega) rfl rfl ?_; intro a9 c9 w9 h9 _ hb9; have HR9 := Lib.hid h9; have HB9 : Hid (Below u4.heap.size u4 w9) := (HBZ.out.trans ((Below.refl _ _).alloc (by omega) _)).trans hb9; clear h9 hb9 c0_0 c0_1 c0_2 p0 p1 y1 y4 v0 v1 v2)
                        go_roundg (lvn - (k + 1))
                        case measure => exact hgk
                        case rel => exact ⟨k + 1, _, _, by omega, by go_num, Lib.hid ⟨rfl, rfl⟩, by unfold Hid; rw [HSQ.out.1, HSQ.out.2]; exact HR9.out, HB9⟩
                    | true =>
                      try (go_wp2_with fail)
                      refine wp_region_noPanic ?_
                      refine wp_region_P (fun w' => w'.cell? ⟨w.heap.size, 0, none⟩ = some (.int .i64 gr.p) ∧ w'.cell? ⟨w.heap.size, 1, none⟩ = some (.int .i64 gr.q) ∧ w'.cell? ⟨w.heap.size, 2, none⟩ = some (.int .i64 gr.g) ∧ w'.cell? ⟨R1, 0, none⟩ = some ((.slice (some ⟨zcb, zco, none⟩) zcn zcc)) ∧ w'.cell? ⟨R1, 1, none⟩ = some ((.slice zsa zsn zsc)) ∧ w'.cell? ⟨b1, o1 + k, none⟩ = some (.int .i64 X) ∧ w'.cell? ⟨zcb, zco, none⟩ = some (.int .i64 C0)) 18 [(0, []), (1, [0]), (2, [0]), (3, [0, 1]), (4, [0, 2]), (5, [0, 3]), (6, [0]), (7, [1]), (8, [2]), (9, [0, 3]), (10, [0, 4]), (11, [3, 0, 5]), (12, [0, 6]), (13, [6, 0, 7]), (14, [8, 0, 12]), (15, [13, 0])] [] (by kernel_rfl) (by kernel_rfl) (by kernel_rfl) rfl (fun _ _ _ _ h => h) (fun w' h => ⟨box_at c0_0 h, box_at c0_1 h, box_at c0_2 h, box_at p0 h, box_at p1 h, box_at y1 h, box_at y4 h⟩) ?_
                      simp only [pickP, pickN, List.getElem?_cons_zero, List.getElem?_cons_succ]
                      iterate 2 (refine' chainP_read _ rfl rfl (fun w' hS' => ?_) ?_; rotate_left; · (simp only [lookP, allP, Act.put, List.getElem?_cons_zero, List.getElem?_cons_succ, List.setIfInBounds_toArray, List.set_cons_zero, List.set_cons_succ]; (try dsimp only at hS'); go_simp; (try with_reducible rfl)))
                      -- 2: move t11
                      refine' chainP_readG (d := (some 86)) _ rfl (fun w' hS' => ?_) ?_; rotate_left
                      · simp only [lookP, allP, Act.put, List.getElem?_cons_zero, List.getElem?_cons_succ, List.setIfInBounds_toArray, List.set_cons_zero, List.set_cons_succ]
                        refine ⟨by kernel_rfl, ?_⟩
                        (try dsimp only at hS')
                        go_simp
                        (try with_reducible rfl)
                      -- 3: call { callee := builtin Builtin.len, args := #[t86], argTypes := #[25] }
                      refine' chainP_readG (d := (some 87)) _ rfl (fun w' hS' => ?_) ?_; rotate_left
                      · simp only [lookP, allP, Act.put, List.getElem?_cons_zero, List.getElem?_cons_succ, List.setIfInBounds_toArray, List.set_cons_zero, List.set_cons_succ]
                        refine ⟨by kernel_rfl, ?_⟩
                        (try dsimp only at hS')
                        go_simp
                        (try with_reducible rfl)
                      -- 4: binOp Bineql 3 t87 (const (int i64 0)) 3
                      refine' chainP_readG (d := (some 88)) _ rfl (fun w' hS' => ?_) ?_; rotate_left
                      · simp only [lookP, allP, Act.put, List.getElem?_cons_zero, List.getElem?_cons_succ, List.setIfInBounds_toArray, List.set_cons_zero, List.set_cons_succ]
                        refine ⟨by kernel_rfl, ?_⟩
                        (try dsimp only at hS')
                        go_simp
                        (try with_reducible rfl)
                      -- 5: move t88
                      refine' chainP_readG (d := (some 89)) _ rfl (fun w' hS' => ?_) ?_; rotate_left
                      · simp only [lookP, allP, Act.put, List.getElem?_cons_zero, List.getElem?_cons_succ, List.setIfInBounds_toArray, List.set_cons_zero, List.set_cons_succ]
                        refine ⟨by kernel_rfl, ?_⟩
                        (try dsimp only at hS')
                        go_simp
                        (try with_reducible rfl)
                      -- 6: load 61 t14
                      refine chainP_skip (d := (some 90)) rfl (fun w' hS' => ?_) ?_
                      · simp only [lookP, allP, Act.put, List.getElem?_cons_zero, List.getElem?_cons_succ, List.setIfInBounds_toArray, List.set_cons_zero, List.set_cons_succ]
                        kernel_rfl
                      -- 7: move t3
                      refine chainP_skip (d := (some 91)) rfl (fun w' hS' => ?_) ?_
                      · simp only [lookP, allP, Act.put, List.getElem?_cons_zero, List.getElem?_cons_succ, List.setIfInBounds_toArray, List.set_cons_zero, List.set_cons_succ]
                        kernel_rfl
                      -- 8: move t11
                      refine chainP_skip (d := (some 92)) rfl (fun w' hS' => ?_) ?_
                      · simp only [lookP, allP, Act.put, List.getElem?_cons_zero, List.getElem?_cons_succ, List.setIfInBounds_toArray, List.set_cons_zero, List.set_cons_succ]
                        kernel_rfl
                      -- 9: indexAddr 25 t92 (const (int i64 0))
                      refine chainP_skip (d := (some 93)) rfl (fun w' hS' => ?_) ?_
                      · simp only [lookP, allP, Act.put, List.getElem?_cons_zero, List.getElem?_cons_succ, List.setIfInBounds_toArray, List.set_cons_zero, List.set_cons_succ]
                        kernel_rfl
                      -- 10: load 3 t93
                      refine chainP_skip (d := (some 94)) rfl (fun w' hS' => ?_) ?_
                      · simp only [lookP, allP, Act.put, List.getElem?_cons_zero, List.getElem?_cons_succ, List.setIfInBounds_toArray, List.set_cons_zero, List.set_cons_succ]
                        kernel_rfl
                      -- 11: indexAddr 28 t91 t94
                      refine chainP_skip (d := (some 95)) rfl (fun w' hS' => ?_) ?_
                      · simp only [lookP, allP, Act.put, List.getElem?_cons_zero, List.getElem?_cons_succ, List.setIfInBounds_toArray, List.set_cons_zero, List.set_cons_succ]
                        kernel_rfl
                      -- 12: load 61 t95
                      refine chainP_skip (d := (some 96)) rfl (fun w' hS' => ?_) ?_
                      · simp only [lookP, allP, Act.put, List.getElem?_cons_zero, List.getElem?_cons_succ, List.setIfInBounds_toArray, List.set_cons_zero, List.set_cons_succ]
                        kernel_rfl
                      -- 13: call { callee := value (func 28), args := #[t90, t96], argTypes := #[61, 61] }
                      refine chainP_skip (d := (some 97)) rfl (fun w' hS' => ?_) ?_
                      · simp only [lookP, allP, Act.put, List.getElem?_cons_zero, List.getElem?_cons_succ, List.setIfInBounds_toArray, List.set_cons_zero, List.set_cons_succ]
                        kernel_rfl
                      -- 14: pick t89 (const (bool true)) t97
                      refine' chainP_readG (d := (some 98)) _ rfl (fun w' hS' => ?_) ?_; rotate_left
                      · simp only [lookP, allP, Act.put, List.getElem?_cons_zero, List.getElem?_cons_succ, List.setIfInBounds_toArray, List.set_cons_zero, List.set_cons_succ]
                        refine ⟨by kernel_rfl, ?_⟩
                        (try dsimp only at hS')
                        go_simp
                        (try with_reducible rfl)
                      -- 15: pick t85 t98 (const (bool false))
                      refine' chainP_read (d := (some 99)) _ rfl rfl (fun w' hS' => ?_) ?_; rotate_left
                      · simp only [lookP, allP, Act.put, List.getElem?_cons_zero, List.getElem?_cons_succ, List.setIfInBounds_toArray, List.set_cons_zero, List.set_cons_succ]
                        (try dsimp only at hS')
                        go_simp
                        (try with_reducible rfl)
                      refine chainP_nil (fun u6 hS' => ?_)
                      simp only [allP, Act.put, List.setIfInBounds_toArray, List.set_cons_zero, List.set_cons_succ]
                      have hq6 := hS'.1
                      clear hS'
                      replace hc := Below.next hc hq6
                      clear hq6 c0_0 c0_1 c0_2 p0 p1 y1 y4
                      obtain ⟨c0_0, c0_1, c0_2, p0, p1, y1, y4⟩ := HCC.out _ hc
                      go_wp2_with fail
                      refine NoPanic.normal ?_
                      have HSQ := Lib.hid (HST.out true HC0.out HAT.out HBN.out (by rw [hc6]; rw [show decide (bn = 0) = true by exact decide_eq_true (by have q := hc7; rw [beq_iff_eq] at q; omega)]; rw [show decide (us.length = 0) = true by exact decide_eq_true (by have q := hc8; rw [beq_iff_eq] at q; have := HUL.out; omega)]; simp))
                      have HRZ := Lib.hid (HRV.out.below hc)
                      have HBZ := Lib.hid (HBrV.out.trans (hc.mono HBrV.out.size))
                      have hszz : u4.heap.size ≤ u6.heap.size := HBZ.out.size
                      go_wp2_with (at_builtin; refine RowsI.list_appN rfl _ _ rfl (HRZ.out.below ((Below.refl _ _).alloc (Nat.le_refl _) _)) (by simp; omega) 0 rfl (Ints.lit1 _ HKI.out) (by simp) (un + 1) (by have := HUL.out; have := HOL.out; simp; omega) (by omega) rfl rfl ?_; intro a9 c9 w9 h9 _ hb9; have HR9 := Lib.hid h9; have HB9 : Hid (Below u4.heap.size u4 w9) := (HBZ.out.trans ((Below.refl _ _).alloc (by omega) _)).trans hb9; clear h9 hb9 c0_0 c0_1 c0_2 p0 p1 y1 y4)
                      go_roundg (lvn - (k + 1))
                      case measure => exact hgk
                      case rel => exact ⟨k + 1, _, _, by omega, by go_num, Lib.hid ⟨rfl, rfl⟩, by unfold Hid; rw [HSQ.out.1, HSQ.out.2]; exact HR9.out, HB9⟩
              · obtain rfl : lvn = k := by omega
                have hb : decide ((lvn : Int) < (lvn : Int)) = false := decide_eq_false (by omega)
                have hb2 : decide (lvn < lvn) = false := decide_eq_false (by omega)
                obtain ⟨c0_0, c0_1, c0_2⟩ := cc
                have HUI := Lib.hid (HR.out.own 0 _ _ rfl).ints
                have HOI := Lib.hid (HR.out.own 1 _ _ rfl).ints
                have hlx := HRX.out.lt
                have HOO := Lib.hid ((HR.out.own 1 _ _ rfl).mono (show w.heap.size + 2 ≤ _ by omega))
                have HR1 := Lib.hid (HRX.out.below HBr.out)
                have HUE : Hid (rsU gr cm ix l l.length = us) := by unfold Hid; rw [Elv.out]; exact HUS.out
                have HOE : Hid (rsO gr cm ix l l.length = os) := by unfold Hid; rw [Elv.out]; exact HOS.out
                clear HR HBr hlt
                have HBN : Hid (Below w.heap.size w wr) := HBW
                clear HB HCC
                (try clear hc)
                obtain ⟨W, rfl⟩ : ∃ z, z = wr := ⟨_, rfl⟩
                have HB := HBN
                clear HBN
                have hc : Below W.heap.size W W := Below.refl _ _
                have HCC : Hid (∀ u, Below W.heap.size W u → u.cell? ⟨w.heap.size, 0, none⟩ = some (.int .i64 gr.p) ∧ u.cell? ⟨w.heap.size, 1, none⟩ = some (.int .i64 gr.q) ∧ u.cell? ⟨w.heap.size, 2, none⟩ = some (.int .i64 gr.g)) := fun u h => ⟨box_at c0_0 h, box_at c0_1 h, box_at c0_2 h⟩
                clear HBW HRX HBS HWS
                have lr1 : w.heap.size + 1 < W.heap.size := HR1.out.lt
                obtain ⟨B0, HB0E⟩ : ∃ z, Hid (z = W.heap.size) := ⟨_, rfl⟩
                have hB1 : B0 ≤ W.heap.size := Nat.le_of_eq HB0E.out
                have hB2 : W.heap.size ≤ B0 := Nat.le_of_eq HB0E.out.symm
                cases hc10 : decide ((un : Int) < (cvn : Int)) with
                | false =>
                  have hcpT : ¬ un < cvn := by have q := of_decide_eq_false hc10; omega
                  have hcnT : decide (un < cvn) = false := decide_eq_false hcpT
                  have HUC : Hid (cvn ≤ un) := by have q := of_decide_eq_false hc10; unfold Hid; omega
                  have HLF : Hid (rsB gr cm ix l = true) := by unfold Hid rsB; rw [HQ.out, HUE.out, decide_eq_true (by have := HUL.out; have := Ecv.out; have := HUC.out; omega)]; rfl
                  have HUCo := HUC.out
                  have hci : (cvn : Int) ≤ (un : Int) := by omega
                  have hcap := HUI.out.capMax
                  have hcap2 : cvn ≤ uc := by omega
                  have hcap3 : (cvn : Int) ≤ (uc : Int) := by omega
                  obtain ⟨V0, hV0⟩ : ∃ V, V = (W.alloc (.cells #[] 3)).alloc (.cells #[] 61) := ⟨_, rfl⟩
                  obtain ⟨hl1, hl2⟩ := lits_row W
                  rw [← hV0, ← HB0E.out] at hl1 hl2
                  have HO0 := Lib.hid hl1
                  have HM0 := Lib.hid hl2
                  clear hl1 hl2
                  have l_c0_0 := World.block_lt_of_cell? W _ c0_0
                  have l_c0_1 := World.block_lt_of_cell? W _ c0_1
                  have l_c0_2 := World.block_lt_of_cell? W _ c0_2
                  go_wp2_with fail
                  rw [← hV0]
                  clear hV0 l_c0_0 l_c0_1 l_c0_2
                  clear hc c0_0 c0_1 c0_2
                  obtain ⟨c0_0, c0_1, c0_2⟩ := HCC.out V0 HM0.out.bel
                  (try (go_wp2_with fail))
                  clear c0_0 c0_1 c0_2
                  rw [← HB0E.out]
                  go_loopg [16, 122] cvn (fun gk xv iv wr => ∃ (k : Nat) (xv' : Value), k + gk = cvn ∧ iv = .int .i64 (k : Int) ∧ Hid (xv = xv') ∧ Hid (OwnI wr B0 xv' (rsX ix us k)) ∧ Hid (MixDs W wr B0 xv'.ownBlock (.slice (some ⟨B0 + 1, 0, none⟩) 0 0) []))
                  case atStart => exact ⟨0, _, by omega, rfl, Lib.hid rfl, HO0, HM0⟩
                  case round =>
                    clear HO0 HM0
                    obtain ⟨k, xv, hkg, rfl, HEQ, HO, HM⟩ := hrel
                    obtain rfl := HEQ.out
                    clear HEQ
                    have HBr := Lib.hid HM.out.bel
                    have hsr := HBr.out.size
                    obtain ⟨xa, xc, rfl⟩ := HO.out.shapeN (n := k) (rsX_len ..)
                    have cc := HCC.out wr HBr.out
                    by_cases hlt : k < cvn
                    · have hgk : cvn - (k + 1) < gk := by omega
                      have hb : decide ((k : Int) < (cvn : Int)) = true := decide_eq_true (by omega)
                      have hb2 : decide (k < cvn) = true := decide_eq_true hlt
                      obtain ⟨ub, uo, hq, hx⟩ := HUI.out.at_ (by omega)
                      have hq' := hq
                      subst hq'
                      clear hq
                      have y0 := hx k (by omega)
                      obtain ⟨j, hjl, hju⟩ := HUN.out.2 k (by have := HUL.out; omega)
                      rw [hju] at y0
                      clear hx
                      obtain ⟨b1, o1, hba, hcx⟩ := Hiv.out.at_ (by have := HLE.out; omega)
                      have y1 := box_at (hcx j (by have := HLE.out; omega)) (HB.out.trans (HBr.out.mono HB.out.size))
                      have hba' := hba
                      subst hba'
                      clear hba hcx
                      replace y0 := box_at y0 HBr.out
                      have HXI : Hid (I64 (nth ix j)) := nth_64 Hiv.out j
                      have HXS : Hid (rsX ix us (k + 1) = rsX ix us k ++ [nth ix j]) := by unfold Hid; rw [show rsX ix us (k + 1) = rsX ix us k ++ [nth ix (nth us k).toNat] from rfl, hju, Int.toNat_natCast]
                      clear hju
                      obtain ⟨X, hX⟩ : ∃ z, nth ix j = z := ⟨_, rfl⟩
                      rw [hX] at y1 HXI HXS
                      clear hX
                      have b0 : (0 : Int) ≤ (k : Int) := by omega
                      have bk1 : (k : Int) < (cvn : Int) := by omega
                      have bj0 : (0 : Int) ≤ (j : Int) := by omega
                      have bj1 : (j : Int) < (ivn : Int) := by have := HLE.out; omega
                      have hwk : IntKind.i64.wrap ((k : Int) + 1) = (k : Int) + 1 := IntWalk.i64_in _ (by omega)
                      have hal : Below wr.heap.size wr (wr.alloc (.cells #[.int .i64 X] 3)) := (Below.refl _ _).alloc (Nat.le_refl _) _
                      go_wp2_with (at_builtin; refine wpList_append_intsU rfl _ _ rfl (HO.out.below hal) (HM.out.below hal) (Ints.lit1 _ HXI.out) (by simp) (k + 1) (by rw [rsX_len]; rfl) (by omega) (by simp; omega) rfl rfl ?_; intro a9 c9 w9 ho9 hm9 _; have HO9 := Lib.hid ho9; have HM9 := Lib.hid hm9; clear ho9 hm9 y0 y1)
                      go_roundg (cvn - (k + 1))
                      case measure => exact hgk
                      case rel => exact ⟨k + 1, _, by omega, by go_num, Lib.hid rfl, by rw [HXS.out]; exact HO9, HM9⟩
                    · obtain rfl : cvn = k := by omega
                      have hb : decide ((cvn : Int) < (cvn : Int)) = false := decide_eq_false (by omega)
                      have hb2 : decide (cvn < cvn) = false := decide_eq_false (by omega)
                      obtain ⟨c0_0, c0_1, c0_2⟩ := cc
                      have hc := HBr.out
                      have HXW := Lib.hid HO.out.ints
                      have HMW : Hid (MixDs W wr B0 none (.slice (some ⟨B0 + 1, 0, none⟩) 0 0) []) := HM.out.nilU
                      obtain ⟨hpr, hq20, hq7⟩ := shG_prm HSG.out
                      have HPRM := Lib.hid hpr
                      clear hpr HO HM hlt
                      obtain ⟨hrb, hrd⟩ := rs_diff HQ.out (t := cvn) (by rw [HUE.out, HUL.out]; omega)
                      rw [HUE.out] at hrb hrd
                      have HRB : Hid (∀ y ∈ rsX ix us cvn, 0 ≤ y ∧ y ≤ 1000) := fun y hy => by have := hrb y hy; omega
                      have HRD := Lib.hid hrd
                      have HXN : Hid ((rsX ix us cvn).length ≤ 900) := by unfold Hid; rw [rsX_len]; omega
                      clear hrb hrd
                      go_wp2_with fail
                      refine (impl_lagrange gr.q _ (rsX ix us cvn) 0 _ HPRM.out hq20 HXW.out HXN.out HRB.out HRD.out ⟨by decide, by decide⟩).mono ?_
                      rintro e u5 ⟨⟨vm, rfl, hom⟩, hq5⟩
                      obtain ⟨ma, mc, rfl⟩ := OwnI.shapeN (n := cvn) hom (by rw [lagL_len, rsX_len])
                      have HLN : Hid ((lagL gr.q (rsX ix us cvn) 0).length = cvn) := by unfold Hid; rw [lagL_len, rsX_len]
                      have HLB := Lib.hid (lagL_bd (show 0 < gr.q by omega) (rsX ix us cvn) 0)
                      have HLM : Hid (rsM gr cm ix l = lagL gr.q (rsX ix us cvn) 0) := by unfold Hid rsM; rw [HUE.out, Ecv.out]
                      have hszm := hc.size
                      have hom2 := hom.mono (show B0 ≤ _ by omega)
                      clear hom
                      obtain ⟨lam, hlam⟩ : ∃ z, lagL gr.q (rsX ix us cvn) 0 = z := ⟨_, rfl⟩
                      rw [hlam] at hom2 HLN HLB HLM
                      have HLA := Lib.hid hom2
                      replace HMW := Lib.hid (HMW.out.below hq5)
                      clear hom2 hlam HXW
                      replace hc := Below.next hc hq5
                      clear hq5 c0_0 c0_1 c0_2
                      obtain ⟨c0_0, c0_1, c0_2⟩ := HCC.out _ hc
                      go_wp2_with fail
                      have HM0 := HMW
                      have HL0 := HLA
                      clear hc HMW HLA c0_0 c0_1 c0_2
                      go_loopg [17, 139] cvn (fun gk sv iv wr => ∃ (k : Nat) (sv' : Value), k + gk = cvn ∧ iv = .int .i64 (k : Int) ∧ Hid (sv = sv') ∧ Hid (MixDs W wr B0 none sv' (rsS gr l us lam k)) ∧ Hid (OwnI wr B0 (.slice ma cvn mc) lam))
                      case atStart => exact ⟨0, _, by omega, rfl, Lib.hid rfl, HM0, HL0⟩
                      case round =>
                        clear HM0 HL0
                        obtain ⟨k, sv, hkg, rfl, HEQ, HM, HLA⟩ := hrel
                        obtain rfl := HEQ.out
                        clear HEQ
                        have HBr := Lib.hid HM.out.bel
                        have hsr := HBr.out.size
                        obtain ⟨sa, sc, rfl⟩ := HM.out.shape
                        rw [rsS_len] at HM ⊢
                        have cc := HCC.out wr HBr.out
                        have HBW : Hid (Below w.heap.size w wr) := HB.out.trans (HBr.out.mono HB.out.size)
                        by_cases hlt : k < cvn
                        · have hgk : cvn - (k + 1) < gk := by omega
                          have hb : decide ((k : Int) < (cvn : Int)) = true := decide_eq_true (by omega)
                          have hb2 : decide (k < cvn) = true := decide_eq_true hlt
                          have HUCo := HUC.out
                          obtain ⟨ub, uo, hq, hx⟩ := HUI.out.at_ (by omega)
                          have hq' := hq
                          subst hq'
                          clear hq
                          have y0 := hx k (by omega)
                          obtain ⟨j, hjl, hju⟩ := HUN.out.2 k (by have := HUL.out; omega)
                          rw [hju] at y0
                          clear hx
                          replace y0 := box_at y0 HBr.out
                          obtain ⟨mb, mo, hq, hx⟩ := HLA.out.ints.at_ (by omega)
                          have hq' := hq
                          subst hq'
                          clear hq
                          have y1 := hx k hlt
                          clear hx
                          obtain ⟨bz, oz, zca, zcn, zcc, zsa, zsn, zsc, e, K2, K3, f0, f1⟩ := RdDl.get Hlv.out (show j < l.length by have := Elv.out; omega)
                          have e' := e
                          subst e'
                          clear e
                          have HDD := Lib.hid (HQP.out.2.2.2.2.2 _ (List.getElem_mem (show j < l.length by have := Elv.out; omega)))
                          have HSS : Hid (rsS gr l us lam (k + 1) = rsS gr l us lam k ++ [scD gr (nth lam k) (atD l j)]) := by unfold Hid; rw [show rsS gr l us lam (k + 1) = rsS gr l us lam k ++ [scD gr (nth lam k) (atD l (nth us k).toNat)] from rfl, hju, Int.toNat_natCast]
                          have hxb := HLB.out _ (nth_mem' (show k < lam.length by rw [HLN.out]; exact hlt))
                          rw [← atD_eq] at HDD f0 f1
                          obtain ⟨Z, hZ⟩ : ∃ z, atD l j = z := ⟨_, rfl⟩
                          obtain ⟨XE, hXE⟩ : ∃ z, nth lam k = z := ⟨_, rfl⟩
                          rw [hZ] at HDD HSS f0 f1
                          rw [hXE] at y1 HSS hxb
                          clear hZ hXE hju
                          have HDP := Lib.hid (deB_parts HDD.out)
                          have Ezc := Lib.hid f0.len
                          have Ezs := Lib.hid f1.len
                          have Hzc := Lib.hid f0
                          have Hzs := Lib.hid f1
                          clear f0 f1
                          have hz7 : zcn ≤ 7 ∧ zsn ≤ 7 := by have := HDP.out.1; have := Ezc.out; have := Ezs.out; omega
                          have iXE : I64 XE := ⟨by omega, by omega⟩
                          have b0 : (0 : Int) ≤ (k : Int) := by omega
                          have bk1 : (k : Int) < (cvn : Int) := by omega
                          have bk2 : (k : Int) < (un : Int) := by omega
                          have bj0 : (0 : Int) ≤ (j : Int) := by omega
                          have bj1 : (j : Int) < (lvn : Int) := by omega
                          have hwk : IntKind.i64.wrap ((k : Int) + 1) = (k : Int) + 1 := IntWalk.i64_in _ (by omega)
                          have z0 := box_at K2 HBW.out
                          have z1 := box_at K3 HBW.out
                          clear K2 K3
                          obtain ⟨c0_0, c0_1, c0_2⟩ := cc
                          obtain ⟨R1, HR1E⟩ : ∃ r, Hid (r = wr.heap.size) := ⟨_, rfl⟩
                          obtain ⟨R2, HR2E⟩ : ∃ r, Hid (r = wr.heap.size + 1) := ⟨_, rfl⟩
                          obtain ⟨B4, HB4E⟩ : ∃ r, Hid (r = wr.heap.size + 2) := ⟨_, rfl⟩
                          have hr1 : wr.heap.size ≤ R1 := by have := HR1E.out; omega
                          have hr2 : R1 < R2 := by have := HR1E.out; have := HR2E.out; omega
                          have hr3 : R2 < B4 := by have := HB4E.out; have := HR2E.out; omega
                          have hr4 : B4 ≤ R2 + 1 := by have := HB4E.out; have := HR2E.out; omega
                          obtain ⟨V, hV⟩ : ∃ V, V = (wr.alloc (.cells #[.slice zca zcn zcc, .slice zsa zsn zsc] 61)).alloc (.cells #[.slice none 0 0, .slice none 0 0] 61) := ⟨_, rfl⟩
                          have HBV : Hid (Below wr.heap.size wr V) := by unfold Hid; rw [hV]; (repeat (first | exact Below.refl _ _ | assumption | refine Below.drew ?_ | refine Below.alloc ?_ (by first | (simp; done) | (simp; omega)) _ | refine Below.setCell ?_ (by first | (simp; done) | (simp; omega)) _))
                          have HX10 : Hid (BoxN V R1 61 [.slice zca zcn zcc, .slice zsa zsn zsc]) := by unfold Hid; rw [hV, HR1E.out]; exact (BoxN.new wr _ _).alloc _
                          have HX20 : Hid (BoxN V R2 61 [.slice none 0 0, .slice none 0 0]) := by unfold Hid; rw [hV, HR2E.out]; have h := BoxN.new (wr.alloc (.cells #[.slice zca zcn zcc, .slice zsa zsn zsc] 61)) [.slice none 0 0, .slice none 0 0] 61; simpa using h
                          have HO40 : Hid (OwnI V B4 (.slice none 0 0) ((Z.c.take 0).map (fun c => powE gr c XE))) := OwnI.nil _ _
                          have l_c0_0 := World.block_lt_of_cell? wr _ c0_0
                          have l_c0_1 := World.block_lt_of_cell? wr _ c0_1
                          have l_c0_2 := World.block_lt_of_cell? wr _ c0_2
                          have l_y0 := World.block_lt_of_cell? wr _ y0
                          have l_y1 := World.block_lt_of_cell? wr _ y1
                          have l_z0 := World.block_lt_of_cell? wr _ z0
                          go_upto_region 24 with fail
                          rw [← hV, ← HR2E.out, ← HR1E.out]
                          clear hV l_c0_0 l_c0_1 l_c0_2 l_y0 l_y1 l_z0 y0 y1 z0 z1
                          have HBN : Hid (Below w.heap.size w wr) := HBW
                          clear HB HCC
                          (try clear hc)
                          obtain ⟨W, rfl⟩ : ∃ z, z = wr := ⟨_, rfl⟩
                          have HB := HBN
                          clear HBN
                          have hc : Below W.heap.size W W := Below.refl _ _
                          have HCC : Hid (∀ u, Below W.heap.size W u → u.cell? ⟨w.heap.size, 0, none⟩ = some (.int .i64 gr.p) ∧ u.cell? ⟨w.heap.size, 1, none⟩ = some (.int .i64 gr.q) ∧ u.cell? ⟨w.heap.size, 2, none⟩ = some (.int .i64 gr.g)) := fun u h => ⟨box_at c0_0 h, box_at c0_1 h, box_at c0_2 h⟩
                          clear HBW
                          have p0 := HX10.out.cell (i := 0) rfl
                          have p1 := HX10.out.cell (i := 1) rfl
                          clear c0_0 c0_1 c0_2
                          go_wp2_with fail
                          clear p0 p1
                          go_loopg [155] zcn (fun gk iv wr => ∃ (m : Nat) (v' : Value), m + gk = zcn ∧ iv = .int .i64 (m : Int) ∧ Hid (BoxN wr R1 61 [.slice zca zcn zcc, .slice zsa zsn zsc]) ∧ Hid (BoxN wr R2 61 [v', .slice none 0 0]) ∧ Hid (OwnI wr B4 v' ((Z.c.take m).map (fun c => powE gr c XE))) ∧ Hid (Below W.heap.size W wr))
                          case atStart => exact ⟨0, _, by omega, rfl, HX10, HX20, HO40, HBV⟩
                          case round =>
                            obtain ⟨m, v', hmg, rfl, HX1, HX2, HOc, HBi⟩ := hrel
                            have hsi := HBi.out.size
                            have HLM2 : Hid (m ≤ Z.c.length) := by unfold Hid; have := Ezc.out; omega
                            obtain ⟨xa, xc, rfl⟩ := HOc.out.shapeN (n := m) (by rw [List.length_map, List.length_take]; have := HLM2.out; omega)
                            have HBj : Hid (Below W.heap.size W wr) := HBi.out
                            have cc := HCC.out wr HBj.out
                            by_cases hm : m < zcn
                            · have hgm : zcn - (m + 1) < gk := by omega
                              have hb : decide ((m : Int) < (zcn : Int)) = true := decide_eq_true (by omega)
                              have hb2 : decide (m < zcn) = true := decide_eq_true hm
                              obtain ⟨c0_0, c0_1, c0_2⟩ := cc
                              have HBD := Lib.hid (HB.out.trans (HBj.out.mono HB.out.size))
                              obtain ⟨zb, zo, hzq, hx⟩ := Hzc.out.at_ (by omega)
                              have y4 := box_at (hx m hm) HBD.out
                              have hzq' := hzq
                              subst hzq'
                              clear hzq hx
                              have hmem := nth_mem' (l := Z.c) (k := m) (by have := Ezc.out; omega)
                              have HTS : Hid ((Z.c.take (m + 1)).map (fun c => powE gr c XE) = (Z.c.take m).map (fun c => powE gr c XE) ++ [(fun c => powE gr c XE) (nth Z.c m)]) := map_take_succ (by have := Ezc.out; omega)
                              have HTL : Hid (((Z.c.take m).map (fun c => powE gr c XE)).length = m) := by unfold Hid; rw [List.length_map, List.length_take]; have := HLM2.out; omega
                              have HSX : Hid (Small (nth Z.c m)) := elB_small HG.out (List.all_eq_true.1 HDP.out.2.1 _ hmem)
                              obtain ⟨X, hX⟩ : ∃ z, nth Z.c m = z := ⟨_, rfl⟩
                              rw [hX] at y4 HTS HSX
                              clear hX hmem
                              obtain ⟨LL, hLL⟩ : ∃ z, (Z.c.take m).map (fun c => powE gr c XE) = z := ⟨_, rfl⟩
                              rw [hLL] at HOc HTS HTL
                              clear hLL
                              have bm0 : (0 : Int) ≤ (m : Int) := by omega
                              have bm1 : (m : Int) < (zcn : Int) := by omega
                              have hwm : IntKind.i64.wrap ((m : Int) + 1) = (m : Int) + 1 := IntWalk.i64_in _ (by omega)
                              have r0 := HX2.out.cell (i := 0) rfl
                              have r1 := HX2.out.cell (i := 1) rfl
                              have HBN : Hid (Below w.heap.size w wr) := HBD
                              clear HB HCC
                              (try clear hc)
                              obtain ⟨W, rfl⟩ : ∃ z, z = wr := ⟨_, rfl⟩
                              have HB := HBN
                              clear HBN
                              have hc : Below W.heap.size W W := Below.refl _ _
                              have HCC : Hid (∀ u, Below W.heap.size W u → u.cell? ⟨w.heap.size, 0, none⟩ = some (.int .i64 gr.p) ∧ u.cell? ⟨w.heap.size, 1, none⟩ = some (.int .i64 gr.q) ∧ u.cell? ⟨w.heap.size, 2, none⟩ = some (.int .i64 gr.g) ∧ u.cell? ⟨R2, 0, none⟩ = some (.slice xa m xc) ∧ u.cell? ⟨R2, 1, none⟩ = some (.slice none 0 0) ∧ u.cell? ⟨zb, zo + m, none⟩ = some (.int .i64 X)) := fun u h => ⟨box_at c0_0 h, box_at c0_1 h, box_at c0_2 h, box_at r0 h, box_at r1 h, box_at y4 h⟩
                              clear HBD
                              try (go_wp2_with fail)
                              refine wp_region_noPanic ?_
                              refine wp_region_P (fun w' => w'.cell? ⟨w.heap.size, 0, none⟩ = some (.int .i64 gr.p) ∧ w'.cell? ⟨w.heap.size, 1, none⟩ = some (.int .i64 gr.q) ∧ w'.cell? ⟨w.heap.size, 2, none⟩ = some (.int .i64 gr.g) ∧ w'.cell? ⟨R2, 0, none⟩ = some (.slice xa m xc) ∧ w'.cell? ⟨R2, 1, none⟩ = some (.slice none 0 0) ∧ w'.cell? ⟨zb, zo + m, none⟩ = some (.int .i64 X)) 12 [(0, []), (1, [0]), (2, []), (3, []), (4, []), (5, [2, 1, 0]), (6, [0])] [7, 8, 9] (by kernel_rfl) (by kernel_rfl) (by kernel_rfl) rfl (fun _ _ _ _ h => h) (fun w' h => ⟨box_at c0_0 h, box_at c0_1 h, box_at c0_2 h, box_at r0 h, box_at r1 h, box_at y4 h⟩) ?_
                              simp only [pickP, pickN, List.getElem?_cons_zero, List.getElem?_cons_succ]
                              iterate 5 (refine' chainP_read _ rfl rfl (fun w' hS' => ?_) ?_; rotate_left; · (simp only [lookP, allP, Act.put, List.getElem?_cons_zero, List.getElem?_cons_succ, List.setIfInBounds_toArray, List.set_cons_zero, List.set_cons_succ]; (try dsimp only at hS'); go_simp; (try with_reducible rfl)))
                              -- 5: call { callee := value (func 54), args := #[t161, t162, t163], argTypes := #[24, 3, 3] }
                              refine chainP_call (d := (some 164)) (.int .i64 (powE gr X XE)) rfl rfl (fun w' hS' => ?_) ?_
                              · simp only [lookP, allP, Act.put, List.getElem?_cons_zero, List.getElem?_cons_succ, List.setIfInBounds_toArray, List.set_cons_zero, List.set_cons_succ]
                                intro K hK
                                go_simp
                                go_at_call 54
                                refine (impl_pow gr X XE _ HG.out HSX.out iXE).mono ?_
                                rintro e u ⟨rfl, hq⟩
                                exact hK.out _ hq
                              -- 6: buildSlice 25 1 #[(0, t164)]
                              refine chainP_do (d := (some 165)) (fun v w => Ints w v [powE gr X XE]) (fun v w w' hb h => Ints.below h hb) rfl rfl (fun w' hS' => ?_) ?_
                              · simp only [lookP, allP, Act.put, List.getElem?_cons_zero, List.getElem?_cons_succ, List.setIfInBounds_toArray, List.set_cons_zero, List.set_cons_succ]
                                intro K hK
                                go_simp
                                refine hK.out _ _ ((Below.refl _ _).alloc (Nat.le_refl _) _) ?_
                                exact (OwnI.lit (B := w'.heap.size) w' (Nat.le_refl _) (l := [powE gr X XE]) (AllI64.cons (small_64 (powE_small HG.out _ _)) AllI64.nil) rfl (by simp [maxLen]) 1 rfl).ints
                              refine chainP_nil (fun u6 hS' => ?_)
                              simp only [allP, Act.put, List.setIfInBounds_toArray, List.set_cons_zero, List.set_cons_succ]
                              intro x6 hx6
                              have hq6 := hS'.1
                              clear hS'
                              replace hc := Below.next hc hq6
                              clear hq6 c0_0 c0_1 c0_2 r0 r1 y4
                              obtain ⟨c0_0, c0_1, c0_2, r0, r1, y4⟩ := HCC.out _ hc
                              have HXX := Lib.hid hx6
                              obtain ⟨ea, en, ec, rfl⟩ := hx6.shape
                              clear hx6
                              have HOu := Lib.hid (HOc.out.below hc)
                              have HX2u := Lib.hid (HX2.out.below hc)
                              have HX1u := Lib.hid (HX1.out.below hc)
                              have HBu := Lib.hid (HBi.out.trans (hc.mono HBi.out.size))
                              have hszu := hc.size
                              have hlu := HX2u.out.lt
                              have hBu : B4 ≤ u6.heap.size := by omega
                              have HAP := Lib.hid (HOu.out.apart HX2u.out (by decide))
                              have HAP1 := Lib.hid (HOu.out.apart HX1u.out (by decide))
                              clear c0_0 c0_1 c0_2 r0 r1 y4
                              have r0 := HX2u.out.cell (i := 0) rfl
                              have r1 := HX2u.out.cell (i := 1) rfl
                              go_wp2_with (at_builtin; refine wpList_append_intsN rfl _ _ rfl B4 (.slice xa m xc) _ LL [powE gr X XE] rfl HOu.out rfl HXX.out (by rw [HTL.out]; simp; omega) hBu (m + 1) (by rw [HTL.out]; rfl) ?_; intro a9 c9 w9 hown9 hgr9; have HO9 := Lib.hid hown9; have HX29 := Lib.hid (HX2u.out.grownR hgr9 HAP.out); have HX19 := Lib.hid (HX1u.out.grownR hgr9 HAP1.out); have hb9 := HOu.out.grown hgr9 hBu; have HB9 := Lib.hid (HBu.out.trans (hb9.mono (by omega))); have hs9 := hb9.size; clear hown9 hgr9 hb9 r0 r1; have r0 := HX29.out.cell (i := 0) rfl; have r1 := HX29.out.cell (i := 1) rfl; have fr := fun j => HX29.out.frozen j; have ltb := HX29.out.lt)
                              (try (go_wp2_with fail))
                              refine NoPanic.normal ?_
                              (try (go_wp2_with fail))
                              clear r0 r1 fr
                              have NX2 := Lib.hid (HX29.out.set 0 (.slice a9 (m + 1) c9))
                              have NX1 := Lib.hid (HX19.out.other (b' := R2) (by omega) 0 (.slice a9 (m + 1) c9))
                              have NO := Lib.hid (HO9.out.oth (b := R2) (by omega) 0 (.slice a9 (m + 1) c9))
                              have NB := Lib.hid (HB9.out.setCell (p := ⟨R2, 0, none⟩) (by show _ ≤ R2; omega) (.slice a9 (m + 1) c9))
                              go_roundg (zcn - (m + 1))
                              case measure => exact hgm
                              case rel => exact ⟨m + 1, _, by omega, by go_num, NX1, NX2, by rw [HTS.out]; exact NO, NB⟩
                            · obtain rfl : zcn = m := by omega
                              have hb : decide ((zcn : Int) < (zcn : Int)) = false := decide_eq_false (by omega)
                              have hb2 : decide (zcn < zcn) = false := decide_eq_false (by omega)
                              rw [show (Z.c.take zcn).map (fun c => powE gr c XE) = Z.c.map (fun c => powE gr c XE) by rw [List.take_of_length_le (by have := Ezc.out; omega)]] at HOc
                              obtain ⟨va, hva⟩ : ∃ z, z = xa := ⟨_, rfl⟩
                              obtain ⟨vc, hvc⟩ : ∃ z, z = xc := ⟨_, rfl⟩
                              rw [← hva, ← hvc] at HX2 HOc
                              clear hva hvc hm
                              have p0 := HX1.out.cell (i := 0) rfl
                              have p1 := HX1.out.cell (i := 1) rfl
                              clear cc
                              go_wp2_with fail
                              clear p0 p1
                              obtain ⟨w1, rfl⟩ : ∃ z, z = wr := ⟨_, rfl⟩
                              obtain ⟨B5, HB5E⟩ : ∃ z, Hid (z = w1.heap.size) := ⟨_, rfl⟩
                              have hb51 : B5 ≤ w1.heap.size := Nat.le_of_eq HB5E.out
                              have hb52 : w1.heap.size ≤ B5 := Nat.le_of_eq HB5E.out.symm
                              have hlt1 : R2 < w1.heap.size := HX2.out.lt
                              have HX1s := HX1
                              have HX2s := HX2
                              have HOC := HOc
                              have HBw1 := HBj
                              clear HX1 HX2 HOc HBi HBj
                              go_loopg [172] zsn (fun gk iv wr => ∃ (m : Nat) (v' : Value), m + gk = zsn ∧ iv = .int .i64 (m : Int) ∧ Hid (BoxN wr R1 61 [.slice zca zcn zcc, .slice zsa zsn zsc]) ∧ Hid (BoxN wr R2 61 [.slice va zcn vc, v']) ∧ Hid (OwnI wr B5 v' ((Z.s.take m).map (fun s => s * XE % gr.q))) ∧ Hid (Within R2 (R2 + 1) w1 wr))
                              case atStart => exact ⟨0, _, by omega, rfl, HX1s, HX2s, OwnI.nil _ _, Within.refl _ _ _⟩
                              case round =>
                                obtain ⟨m, v', hmg, rfl, HX1, HX2, HOc, HBi⟩ := hrel
                                have hsi := HBi.out.size
                                have HLM2 : Hid (m ≤ Z.s.length) := by unfold Hid; have := Ezs.out; omega
                                obtain ⟨xa, xc, rfl⟩ := HOc.out.shapeN (n := m) (by rw [List.length_map, List.length_take]; have := HLM2.out; omega)
                                have HBj : Hid (Below W.heap.size W wr) := HBi.out.belowU HBw1.out (by omega)
                                have cc := HCC.out wr HBj.out
                                by_cases hm : m < zsn
                                · have hgm : zsn - (m + 1) < gk := by omega
                                  have hb : decide ((m : Int) < (zsn : Int)) = true := decide_eq_true (by omega)
                                  have hb2 : decide (m < zsn) = true := decide_eq_true hm
                                  obtain ⟨c0_0, c0_1, c0_2⟩ := cc
                                  have HBD := Lib.hid (HB.out.trans (HBj.out.mono HB.out.size))
                                  obtain ⟨zb, zo, hzq, hx⟩ := Hzs.out.at_ (by omega)
                                  have y4 := box_at (hx m hm) HBD.out
                                  have hzq' := hzq
                                  subst hzq'
                                  clear hzq hx
                                  have hmem := nth_mem' (l := Z.s) (k := m) (by have := Ezs.out; omega)
                                  have HTS : Hid ((Z.s.take (m + 1)).map (fun s => s * XE % gr.q) = (Z.s.take m).map (fun s => s * XE % gr.q) ++ [(fun s => s * XE % gr.q) (nth Z.s m)]) := map_take_succ (by have := Ezs.out; omega)
                                  have HTL : Hid (((Z.s.take m).map (fun s => s * XE % gr.q)).length = m) := by unfold Hid; rw [List.length_map, List.length_take]; have := HLM2.out; omega
                                  have HSX : Hid (0 ≤ nth Z.s m ∧ nth Z.s m < gr.q) := by have h := expB_bd (List.all_eq_true.1 HDP.out.2.2 _ hmem); unfold Hid; omega
                                  obtain ⟨X, hX⟩ : ∃ z, nth Z.s m = z := ⟨_, rfl⟩
                                  rw [hX] at y4 HTS HSX
                                  clear hX hmem
                                  obtain ⟨LL, hLL⟩ : ∃ z, (Z.s.take m).map (fun s => s * XE % gr.q) = z := ⟨_, rfl⟩
                                  rw [hLL] at HOc HTS HTL
                                  clear hLL
                                  have bm0 : (0 : Int) ≤ (m : Int) := by omega
                                  have bm1 : (m : Int) < (zsn : Int) := by omega
                                  have hwm : IntKind.i64.wrap ((m : Int) + 1) = (m : Int) + 1 := IntWalk.i64_in _ (by omega)
                                  have r0 := HX2.out.cell (i := 0) rfl
                                  have r1 := HX2.out.cell (i := 1) rfl
                                  have hsx := HSX.out
                                  have hpb := mul2_bd (a := X) (b := XE) (by omega) (by omega) (by omega) (by omega)
                                  have ewm : IntKind.i64.wrap (X * XE) = X * XE := IntWalk.i64_in _ (by omega)
                                  have imx : I64 (X * XE) := ⟨by omega, by omega⟩
                                  obtain ⟨XM, hXM⟩ : ∃ z, X * XE % gr.q = z := ⟨_, rfl⟩
                                  have HXM := Lib.hid hXM
                                  have iXM : I64 XM := by have h1 := Int.emod_nonneg (X * XE) (show gr.q ≠ 0 by omega); have h2 := Int.emod_lt_of_pos (X * XE) (show 0 < gr.q by omega); rw [hXM] at h1 h2; exact ⟨by omega, by omega⟩
                                  simp only [hXM] at HTS
                                  clear hXM
                                  have HBN : Hid (Below w.heap.size w wr) := HBD
                                  clear HB HCC
                                  (try clear hc)
                                  obtain ⟨W, rfl⟩ : ∃ z, z = wr := ⟨_, rfl⟩
                                  have HB := HBN
                                  clear HBN
                                  have hc : Below W.heap.size W W := Below.refl _ _
                                  have HCC : Hid (∀ u, Below W.heap.size W u → u.cell? ⟨w.heap.size, 0, none⟩ = some (.int .i64 gr.p) ∧ u.cell? ⟨w.heap.size, 1, none⟩ = some (.int .i64 gr.q) ∧ u.cell? ⟨w.heap.size, 2, none⟩ = some (.int .i64 gr.g) ∧ u.cell? ⟨R2, 0, none⟩ = some (.slice va zcn vc) ∧ u.cell? ⟨R2, 1, none⟩ = some (.slice xa m xc) ∧ u.cell? ⟨zb, zo + m, none⟩ = some (.int .i64 X)) := fun u h => ⟨box_at c0_0 h, box_at c0_1 h, box_at c0_2 h, box_at r0 h, box_at r1 h, box_at y4 h⟩
                                  clear HBD
                                  try (go_wp2_with fail)
                                  refine wp_region_noPanic ?_
                                  refine wp_region_P (fun w' => w'.cell? ⟨w.heap.size, 0, none⟩ = some (.int .i64 gr.p) ∧ w'.cell? ⟨w.heap.size, 1, none⟩ = some (.int .i64 gr.q) ∧ w'.cell? ⟨w.heap.size, 2, none⟩ = some (.int .i64 gr.g) ∧ w'.cell? ⟨R2, 0, none⟩ = some (.slice va zcn vc) ∧ w'.cell? ⟨R2, 1, none⟩ = some (.slice xa m xc) ∧ w'.cell? ⟨zb, zo + m, none⟩ = some (.int .i64 X)) 13 [(0, []), (1, [0]), (2, []), (3, []), (4, []), (5, [1, 0]), (6, [3, 0]), (7, [0])] [8, 9, 10] (by kernel_rfl) (by kernel_rfl) (by kernel_rfl) rfl (fun _ _ _ _ h => h) (fun w' h => ⟨box_at c0_0 h, box_at c0_1 h, box_at c0_2 h, box_at r0 h, box_at r1 h, box_at y4 h⟩) ?_
                                  simp only [pickP, pickN, List.getElem?_cons_zero, List.getElem?_cons_succ]
                                  iterate 6 (refine' chainP_read _ rfl rfl (fun w' hS' => ?_) ?_; rotate_left; · (simp only [lookP, allP, Act.put, List.getElem?_cons_zero, List.getElem?_cons_succ, List.setIfInBounds_toArray, List.set_cons_zero, List.set_cons_succ]; (try dsimp only at hS'); go_simp; (try with_reducible rfl)))
                                  -- 6: call { callee := value (func 55), args := #[t178, t181], argTypes := #[24, 3] }
                                  refine chainP_call (d := (some 182)) (.int .i64 XM) rfl rfl (fun w' hS' => ?_) ?_
                                  · simp only [lookP, allP, Act.put, List.getElem?_cons_zero, List.getElem?_cons_succ, List.setIfInBounds_toArray, List.set_cons_zero, List.set_cons_succ]
                                    intro K hK
                                    go_simp
                                    go_at_call 55
                                    refine (impl_exp gr (X * XE) _ HG.out imx).mono ?_
                                    rintro e u ⟨rfl, hq⟩
                                    rw [HXM.out]
                                    exact hK.out _ hq
                                  -- 7: buildSlice 25 1 #[(0, t182)]
                                  refine chainP_do (d := (some 183)) (fun v w => Ints w v [XM]) (fun v w w' hb h => Ints.below h hb) rfl rfl (fun w' hS' => ?_) ?_
                                  · simp only [lookP, allP, Act.put, List.getElem?_cons_zero, List.getElem?_cons_succ, List.setIfInBounds_toArray, List.set_cons_zero, List.set_cons_succ]
                                    intro K hK
                                    go_simp
                                    refine hK.out _ _ ((Below.refl _ _).alloc (Nat.le_refl _) _) ?_
                                    exact (OwnI.lit (B := w'.heap.size) w' (Nat.le_refl _) (l := [XM]) (AllI64.cons iXM AllI64.nil) rfl (by simp [maxLen]) 1 rfl).ints
                                  refine chainP_nil (fun u6 hS' => ?_)
                                  simp only [allP, Act.put, List.setIfInBounds_toArray, List.set_cons_zero, List.set_cons_succ]
                                  intro x7 hx7
                                  have hq6 := hS'.1
                                  clear hS'
                                  replace hc := Below.next hc hq6
                                  clear hq6 c0_0 c0_1 c0_2 r0 r1 y4
                                  obtain ⟨c0_0, c0_1, c0_2, r0, r1, y4⟩ := HCC.out _ hc
                                  have HXX := Lib.hid hx7
                                  obtain ⟨ea, en, ec, rfl⟩ := hx7.shape
                                  clear hx7
                                  have HOu := Lib.hid (HOc.out.below hc)
                                  have HX2u := Lib.hid (HX2.out.below hc)
                                  have HX1u := Lib.hid (HX1.out.below hc)
                                  have HBu := Lib.hid (HBi.out.trans (Within.of_below hc))
                                  have hszu := hc.size
                                  have hlu := HX2u.out.lt
                                  have hBu : B5 ≤ u6.heap.size := by omega
                                  have HAP := Lib.hid (HOu.out.apart HX2u.out (by decide))
                                  have HAP1 := Lib.hid (HOu.out.apart HX1u.out (by decide))
                                  clear c0_0 c0_1 c0_2 r0 r1 y4
                                  have r0 := HX2u.out.cell (i := 0) rfl
                                  have r1 := HX2u.out.cell (i := 1) rfl
                                  go_wp2_with (at_builtin; refine wpList_append_intsN rfl _ _ rfl B5 (.slice xa m xc) _ LL [XM] rfl HOu.out rfl HXX.out (by rw [HTL.out]; simp; omega) hBu (m + 1) (by rw [HTL.out]; rfl) ?_; intro a9 c9 w9 hown9 hgr9; have HO9 := Lib.hid hown9; have HX29 := Lib.hid (HX2u.out.grownR hgr9 HAP.out); have HX19 := Lib.hid (HX1u.out.grownR hgr9 HAP1.out); have hb9 := HOu.out.grown hgr9 hBu; have HB9 := Lib.hid (HBu.out.belowStep (hb9.mono (Nat.le_of_eq HB5E.out.symm))); have hs9 := hb9.size; clear hown9 hgr9 hb9 r0 r1; have r0 := HX29.out.cell (i := 0) rfl; have r1 := HX29.out.cell (i := 1) rfl; have fr := fun j => HX29.out.frozen j; have ltb := HX29.out.lt)
                                  (try (go_wp2_with fail))
                                  refine NoPanic.normal ?_
                                  (try (go_wp2_with fail))
                                  clear r0 r1 fr
                                  have NX2 := Lib.hid (HX29.out.set 1 (.slice a9 (m + 1) c9))
                                  have NX1 := Lib.hid (HX19.out.other (b' := R2) (by omega) 1 (.slice a9 (m + 1) c9))
                                  have NO := Lib.hid (HO9.out.oth (b := R2) (by omega) 1 (.slice a9 (m + 1) c9))
                                  have NB := Lib.hid (HB9.out.setCell (b := R2) (by omega) (by omega) 1 (.slice a9 (m + 1) c9))
                                  go_roundg (zsn - (m + 1))
                                  case measure => exact hgm
                                  case rel => exact ⟨m + 1, _, by omega, by go_num, NX1, NX2, by rw [HTS.out]; exact NO, NB⟩
                                · obtain rfl : zsn = m := by omega
                                  have hb : decide ((zsn : Int) < (zsn : Int)) = false := decide_eq_false (by omega)
                                  have hb2 : decide (zsn < zsn) = false := decide_eq_false (by omega)
                                  rw [show (Z.s.take zsn).map (fun s => s * XE % gr.q) = Z.s.map (fun s => s * XE % gr.q) by rw [List.take_of_length_le (by have := Ezs.out; omega)]] at HOc
                                  clear cc hm
                                  have r0 := HX2.out.cell (i := 0) rfl
                                  have r1 := HX2.out.cell (i := 1) rfl
                                  have HC9 := Lib.hid (HOC.out.within HBi.out (by omega))
                                  have HM8 := Lib.hid (HM.out.below HBj.out)
                                  have HL8 := Lib.hid (HLA.out.below HBj.out)
                                  have hszj := HBj.out.size
                                  have hbw : B0 ≤ wr.heap.size := by omega
                                  have hal : Below wr.heap.size wr (wr.alloc (.cells #[.slice va zcn vc, .slice xa zsn xc] 61)) := (Below.refl _ _).alloc (Nat.le_refl _) _
                                  go_wp2_with (at_builtin; refine wpList_append_Mix (d := scD gr XE Z) rfl _ _ rfl (b := wr.heap.size) rfl rfl (HM8.out.below hal) (.inl ⟨(HC9.out.mono (show B0 ≤ B4 by omega)).below hal, fun k h => by cases h⟩) (.inl ⟨(HOc.out.mono (show B0 ≤ B5 by omega)).below hal, fun k h => by cases h⟩) (BoxN.new wr [.slice va zcn vc, .slice xa zsn xc] 61) (by simp; omega) (by rw [rsS_len]; omega) (k + 1) (by rw [rsS_len]) ?_; intro a9 c9 w9 hm9 _ hk9; have HM9 := Lib.hid hm9; have HL9 := Lib.hid (hk9 _ _ (HL8.out.below hal)); clear hm9 hk9 r0 r1)
                                  go_roundg (cvn - (k + 1))
                                  case measure => exact hgk
                                  case rel => exact ⟨k + 1, _, by omega, by go_num, Lib.hid rfl, by rw [HSS.out]; exact HM9, HL9⟩
                        · obtain rfl : cvn = k := by omega
                          have hb : decide ((cvn : Int) < (cvn : Int)) = false := decide_eq_false (by omega)
                          have hb2 : decide (cvn < cvn) = false := decide_eq_false (by omega)
                          obtain ⟨c0_0, c0_1, c0_2⟩ := cc
                          have hc := HBr.out
                          have HSC := Lib.hid HM.out.rd
                          have HALB := Lib.hid (rs_al HQ.out lam (t := cvn) (by omega) (by rw [HUE.out, HUL.out]; have := HUC.out; omega)).1
                          rw [HUE.out] at HALB
                          have HDV : Hid (rsD gr cm ix l = smD gr (rsS gr l us lam cvn)) := by unfold Hid rsD; rw [HUE.out, HLM.out, Ecv.out]
                          clear hlt
                          go_wp2_with fail
                          refine (impl_sumOf gr _ (rsS gr l us lam cvn) _ HG.out HSC.out HALB.out).mono ?_
                          rintro e u6 ⟨⟨x0, x1, rfl, ho0, ho1⟩, hq6⟩
                          have hszv := hc.size
                          obtain ⟨xa0, xc0, rfl⟩ := OwnI.shapeN (n := (smD gr (rsS gr l us lam cvn)).c.length) ho0 rfl
                          obtain ⟨xa1, xc1, rfl⟩ := OwnI.shapeN (n := (smD gr (rsS gr l us lam cvn)).s.length) ho1 rfl
                          replace hc := Below.next hc hq6
                          clear hq6 c0_0 c0_1 c0_2
                          obtain ⟨c0_0, c0_1, c0_2⟩ := HCC.out _ hc
                          have HRE1 := Lib.hid (HR1.out.below hc)
                          clear HR1
                          have HBE := Lib.hid (HB.out.trans (hc.mono HB.out.size))
                          have r1_0 := HRE1.out.cell (i := 0) rfl
                          have r1_1 := HRE1.out.cell (i := 1) rfl
                          have fr1 := fun j => HRE1.out.frozen j
                          go_wp2_with fail
                          have HRF := Lib.hid ((HRE1.out.set 0 ((.slice xa0 (smD gr (rsS gr l us lam cvn)).c.length xc0))).set 1 ((.slice xa1 (smD gr (rsS gr l us lam cvn)).s.length xc1)))
                          have HBF := Lib.hid ((HBE.out.setCell (p := ⟨w.heap.size + 1, 0, none⟩) (by show w.heap.size ≤ w.heap.size + 1; omega) ((.slice xa0 (smD gr (rsS gr l us lam cvn)).c.length xc0))).setCell (p := ⟨w.heap.size + 1, 1, none⟩) (by show w.heap.size ≤ w.heap.size + 1; omega) ((.slice xa1 (smD gr (rsS gr l us lam cvn)).s.length xc1)))
                          clear r1_0 r1_1 fr1
                          have r1_0 := HRF.out.cell (i := 0) rfl
                          have r1_1 := HRF.out.cell (i := 1) rfl
                          try (go_wp2_with fail)
                          have HVB : Hid (rsB gr cm ix l = true) := by unfold Hid; exact HLF.out
                          have HPR : Hid (rsK gr cm ix l = smD gr (rsS gr l us lam cvn) ∧ rsL gr cm ix l = os) := by unfold Hid rsK rsL; rw [if_pos HVB.out, if_pos HVB.out, HDV.out, HOE.out]; exact ⟨rfl, rfl⟩
                          refine bodyPost_ret (v := .tuple #[.agg #[(.slice xa0 (smD gr (rsS gr l us lam cvn)).c.length xc0), (.slice xa1 (smD gr (rsS gr l us lam cvn)).s.length xc1)], (.slice oa on oc), .bool true]) (by simp [results, Tryz.results15, go_sem, r1_0, r1_1]) rfl ⟨(by rw [HVB.out, HPR.out.1, HPR.out.2]; exact RetDLB.mk ((ho0.oth (b := w.heap.size + 1) (by omega) 0 ((.slice xa0 (smD gr (rsS gr l us lam cvn)).c.length xc0))).oth (b := w.heap.size + 1) (by omega) 1 ((.slice xa1 (smD gr (rsS gr l us lam cvn)).s.length xc1))).ints ((ho1.oth (b := w.heap.size + 1) (by omega) 0 ((.slice xa0 (smD gr (rsS gr l us lam cvn)).c.length xc0))).oth (b := w.heap.size + 1) (by omega) 1 ((.slice xa1 (smD gr (rsS gr l us lam cvn)).s.length xc1))).ints (((HOO.out.below hc).oth (b := w.heap.size + 1) (by omega) 0 ((.slice xa0 (smD gr (rsS gr l us lam cvn)).c.length xc0))).oth (b := w.heap.size + 1) (by omega) 1 ((.slice xa1 (smD gr (rsS gr l us lam cvn)).s.length xc1))).ints), HBF.out⟩
                | true =>
                  have hcpT : un < cvn := by have q := of_decide_eq_true hc10; omega
                  have hcnT : decide (un < cvn) = true := decide_eq_true hcpT
                  have HLF : Hid (rsB gr cm ix l = false) := by have q := of_decide_eq_true hc10; unfold Hid rsB; rw [HUE.out, decide_eq_false (by have := HUL.out; have := Ecv.out; omega), Bool.and_false]
                  have HRE1 := Lib.hid (HR1.out.below hc)
                  clear HR1
                  have HBE := Lib.hid (HB.out.trans (hc.mono HB.out.size))
                  have r1_0 := HRE1.out.cell (i := 0) rfl
                  have r1_1 := HRE1.out.cell (i := 1) rfl
                  have fr1 := fun j => HRE1.out.frozen j
                  go_wp2_with fail
                  have HRF := Lib.hid ((HRE1.out.set 0 ((.slice none 0 0))).set 1 ((.slice none 0 0)))
                  have HBF := Lib.hid ((HBE.out.setCell (p := ⟨w.heap.size + 1, 0, none⟩) (by show w.heap.size ≤ w.heap.size + 1; omega) ((.slice none 0 0))).setCell (p := ⟨w.heap.size + 1, 1, none⟩) (by show w.heap.size ≤ w.heap.size + 1; omega) ((.slice none 0 0)))
                  clear r1_0 r1_1 fr1
                  have r1_0 := HRF.out.cell (i := 0) rfl
                  have r1_1 := HRF.out.cell (i := 1) rfl
                  try (go_wp2_with fail)
                  have HVB : Hid (rsB gr cm ix l = false) := by unfold Hid; exact HLF.out
                  have HPR : Hid (rsK gr cm ix l = ⟨[], []⟩ ∧ rsL gr cm ix l = []) := by unfold Hid rsK rsL; rw [if_neg (by rw [HVB.out]; simp), if_neg (by rw [HVB.out]; simp)]; exact ⟨rfl, rfl⟩
                  refine bodyPost_ret (v := .tuple #[.agg #[(.slice none 0 0), (.slice none 0 0)], .slice none 0 0, .bool false]) (by simp [results, Tryz.results15, go_sem, r1_0, r1_1]) rfl ⟨(by rw [HVB.out, HPR.out.1, HPR.out.2]; exact RetDLB.mk (Ints.nil _) (Ints.nil _) (Ints.nil _)), HBF.out⟩
        | true =>
          have HLT : Hid (decide (l.length = ix.length) = false) := by have q := hc4; rw [bne_iff_ne] at q; have := Eiv.out; have := Elv.out; unfold Hid; exact decide_eq_false (by omega)
          have HRE1 := Lib.hid (HR1.out.below hc)
          clear HR1
          have HBE := Lib.hid (HB.out.trans (hc.mono HB.out.size))
          have r1_0 := HRE1.out.cell (i := 0) rfl
          have r1_1 := HRE1.out.cell (i := 1) rfl
          have fr1 := fun j => HRE1.out.frozen j
          go_wp2_with fail
          have HRF := Lib.hid ((HRE1.out.set 0 ((.slice none 0 0))).set 1 ((.slice none 0 0)))
          have HBF := Lib.hid ((HBE.out.setCell (p := ⟨w.heap.size + 1, 0, none⟩) (by show w.heap.size ≤ w.heap.size + 1; omega) ((.slice none 0 0))).setCell (p := ⟨w.heap.size + 1, 1, none⟩) (by show w.heap.size ≤ w.heap.size + 1; omega) ((.slice none 0 0)))
          clear r1_0 r1_1 fr1
          have r1_0 := HRF.out.cell (i := 0) rfl
          have r1_1 := HRF.out.cell (i := 1) rfl
          try (go_wp2_with fail)
          have HVB : Hid (rsB gr cm ix l = false) := by unfold Hid; simp [rsB, rsQ, Hhc1.out, Hhc2.out, Hhc3.out, HLT.out]
          have HPR : Hid (rsK gr cm ix l = ⟨[], []⟩ ∧ rsL gr cm ix l = []) := by unfold Hid rsK rsL; rw [if_neg (by rw [HVB.out]; simp), if_neg (by rw [HVB.out]; simp)]; exact ⟨rfl, rfl⟩
          refine bodyPost_ret (v := .tuple #[.agg #[(.slice none 0 0), (.slice none 0 0)], .slice none 0 0, .bool false]) (by simp [results, Tryz.results15, go_sem, r1_0, r1_1]) rfl ⟨(by rw [HVB.out, HPR.out.1, HPR.out.2]; exact RetDLB.mk (Ints.nil _) (Ints.nil _) (Ints.nil _)), HBF.out⟩
end Go.Proofs.YtacpnphfopmofaaGreat
