/- Key generation: the outcome, the reference's (printed by gen_kg9.py). -/
import Derived.Test.YtacpnphfopmofaaDrK3KG
import Derived.Test.YtacpnphfopmofaaKg5KG
import Derived.Test.YtacpnphfopmofaaSh4KG
import Derived.Test.YtacpnphfopmofaaFindDealingKG
import Derived.Test.YtacpnphfopmofaaBaKG
import Derived.Test.YtacpnphfopmofaaKg1KG
import Derived.Deep.Cut
namespace Go.Proofs.Ytacpnphfopmofaa
open Go.RowKit
set_option linter.unusedSimpArgs false
set_option linter.unusedVariables false

noncomputable def kgQ (gr : GroupD) (l : List DealingD) (an : List (List Int)) : List Int := if cbB gr l an = true then kqE gr l an else []
noncomputable def kgD (gr : GroupD) (l : List DealingD) (an : List (List Int)) : DealingD := if cbB gr l an = true then cbD gr l an else ⟨[], []⟩
noncomputable def kgY (gr : GroupD) (l : List DealingD) (an : List (List Int)) : Int := if cbB gr l an = true then nth (cbD gr l an).c 0 else 0
/-- the outcome of a key generation in memory of the call's own, and a Bool, are returned -/
def RetKG (e : Ending) (w : World) (B : Nat) (b : Bool) (q : List Int) (y : Int) (d : DealingD) : Prop :=
  ∃ (a1 : Option Addr) (n1 c1 : Nat) (a2 : Option Addr) (n2 c2 : Nat) (a3 : Option Addr) (n3 c3 : Nat), e = .returned (.tuple #[.agg #[.slice a1 n1 c1, .int .i64 y, .slice a2 n2 c2, .slice a3 n3 c3], .bool b]) ∧ OwnI w B (.slice a1 n1 c1) q ∧ OwnI w B (.slice a2 n2 c2) d.c ∧ OwnI w B (.slice a3 n3 c3) d.s
theorem RetKG.zero (w : World) (B : Nat) {b : Bool} {q : List Int} {y : Int} {d : DealingD} (hb : b = false) (hq : q = []) (hy : y = 0) (hd : d = ⟨[], []⟩) : RetKG (.returned (.tuple #[.agg #[.slice none 0 0, .int .i64 0, .slice none 0 0, .slice none 0 0], .bool false])) w B b q y d := by
  subst hb hq hy hd
  exact ⟨_, _, _, _, _, _, _, _, _, rfl, OwnI.nil _ _, OwnI.nil _ _, OwnI.nil _ _⟩
theorem RetKG.mk {w : World} {B : Nat} {b : Bool} {q : List Int} {y : Int} {d : DealingD} {a1 : Option Addr} {n1 c1 : Nat} {a2 : Option Addr} {n2 c2 : Nat} {a3 : Option Addr} {n3 c3 : Nat} (hb : b = true) (h1 : OwnI w B (.slice a1 n1 c1) q) (h2 : OwnI w B (.slice a2 n2 c2) d.c) (h3 : OwnI w B (.slice a3 n3 c3) d.s) :
    RetKG (.returned (.tuple #[.agg #[.slice a1 n1 c1, .int .i64 y, .slice a2 n2 c2, .slice a3 n3 c3], .bool true])) w B b q y d := by
  subst hb
  exact ⟨_, _, _, _, _, _, _, _, _, rfl, h1, h2, h3⟩
theorem cbB_no {gr : GroupD} {l : List DealingD} {an : List (List Int)} (h : cbB gr l an = false) : kgQ gr l an = [] ∧ kgY gr l an = 0 ∧ kgD gr l an = ⟨[], []⟩ := by
  unfold kgQ kgY kgD; rw [h]; simp
theorem cbB_yes {gr : GroupD} {l : List DealingD} {an : List (List Int)} (h : cbB gr l an = true) : kgQ gr l an = kqE gr l an ∧ kgY gr l an = nth (cbD gr l an).c 0 ∧ kgD gr l an = cbD gr l an := by
  unfold kgQ kgY kgD; rw [h]; simp
theorem cbB_ka {gr : GroupD} {l : List DealingD} {an : List (List Int)} (h : kaB gr l an = false) : cbB gr l an = false := by unfold cbB; rw [h]; rfl
theorem cb_facts {gr : GroupD} {l : List DealingD} {an : List (List Int)} (h : kaB gr l an = true) : OkG gr ∧ (∀ d ∈ l, deB gr d = true) ∧ an.length = l.length ∧ (1 ≤ l.length ∧ l.length ≤ 7) := by
  obtain ⟨hG, ha, _, hal, _⟩ := kaB_parts h
  obtain ⟨n1, hd⟩ := alB_parts ha
  exact ⟨shG_ok hG, fun d hd' => (hd d hd').1, hal, n1⟩
theorem cb_sum {gr : GroupD} {l : List DealingD} {an : List (List Int)} (h : kaB gr l an = true) (hne : kqE gr l an ≠ []) : alB gr (kmE gr l an) = true ∧ (1 ≤ (cbD gr l an).c.length ∧ (cbD gr l an).c.length ≤ 7) := by
  obtain ⟨h1, _⟩ := km_al h l.length (Nat.le_refl _) hne
  have hcb : cbB gr l an = true := by unfold cbB; rw [h, decide_eq_false hne]; rfl
  obtain ⟨hv, _⟩ := kg_right hcb
  have hde : deB gr (cbD gr l an) = true := by unfold vdB at hv; rw [Bool.and_eq_true] at hv; exact hv.2
  have := (deB_parts hde).1
  exact ⟨h1, by omega, by omega⟩
set_option maxRecDepth 100000 in
set_option maxHeartbeats 4000000 in
theorem spec_kgCombine (gr : GroupD) (lv : Value) (l : List DealingD) (av : Value) (an : List (List Int)) (w : World) (hl : RdR rDealing w lv l) (ha : RdL kInts w av an) (hka : kaB gr l an = true) :
    Calls Try.prog 126 #[.agg #[.int .i64 gr.p, .int .i64 gr.q, .int .i64 gr.g], lv, av] w fun e w' => RetKG e w' w.heap.size (cbB gr l an) (kgQ gr l an) (kgY gr l an) (kgD gr l an) ∧ Below w.heap.size w w' := by
  have HF := Lib.hid (cb_facts hka)
  have HG : Hid (OkG gr) := HF.out.1
  have HKA := Lib.hid hka
  have Hl := Lib.hid hl
  have Ha := Lib.hid ha
  clear hl ha hka
  obtain ⟨W, hW⟩ : ∃ W, W = (w.alloc (.cells #[.int .i64 gr.p, .int .i64 gr.q, .int .i64 gr.g] 24)).alloc (.cells #[.slice none 0 0, .int .i64 0, .slice none 0 0, .slice none 0 0] 73) := ⟨_, rfl⟩
  obtain ⟨RB, hRB⟩ : ∃ b, b = w.heap.size + 1 := ⟨_, rfl⟩
  have HB : Hid (Below w.heap.size w W) := by unfold Hid; rw [hW]; (repeat (first | exact Below.refl _ _ | assumption | refine Below.drew ?_ | refine Below.alloc ?_ (by first | (simp; done) | (simp; omega)) _ | refine Below.setCell ?_ (by first | (simp; done) | (simp; omega)) _))
  have HGB : Hid (BoxN W w.heap.size 24 [.int .i64 gr.p, .int .i64 gr.q, .int .i64 gr.g]) := by unfold Hid; rw [hW]; exact (BoxN.new w [.int .i64 gr.p, .int .i64 gr.q, .int .i64 gr.g] _).alloc _
  have HR : Hid (BoxN W RB 73 [.slice none 0 0, .int .i64 0, .slice none 0 0, .slice none 0 0]) := by
    unfold Hid; rw [hW, hRB]
    have h9 := BoxN.new (w.alloc (.cells #[.int .i64 gr.p, .int .i64 gr.q, .int .i64 gr.g] 24)) [.slice none 0 0, .int .i64 0, .slice none 0 0, .slice none 0 0] 73
    rw [show (w.alloc (.cells #[.int .i64 gr.p, .int .i64 gr.q, .int .i64 gr.g] 24)).heap.size = w.heap.size + 1 by simp] at h9
    exact h9
  have hsW : RB < W.heap.size := by rw [hW, hRB]; simp
  have hrb1 : w.heap.size < RB := by omega
  go_enter Try.func126, Try.ntmps126
  go_wp2_with fail
  rw [← hW]
  (try rw [← hRB])
  clear hW hRB
  refine (spec_kgQualified gr _ l _ an W HG.out (Hl.out.below HB.out) (RdL.below Ha.out HB.out) HF.out.2.1 HF.out.2.2.1 HF.out.2.2.2.2).mono ?_
  rintro e w1 ⟨⟨v1, v2, rfl, ho, hz⟩, hb1⟩
  have HO := Lib.hid ho
  have HZ := Lib.hid hz.rd
  have hs1 := hb1.size
  have HB1 := Lib.hid (HB.out.trans (hb1.mono HB.out.size))
  have HR1 := Lib.hid (HR.out.below hb1)
  have HG1 := Lib.hid (HGB.out.below hb1)
  clear ho hz hb1
  obtain ⟨qa, qc, hqv⟩ := HO.out.shape
  obtain ⟨qn, hqn⟩ : ∃ n, (kqE gr l an).length = n := ⟨_, rfl⟩
  rw [hqn] at hqv
  subst hqv
  have HQN := Lib.hid hqn
  clear hqn
  by_cases hne : qn = 0
  · subst hne
    have hE : kqE gr l an = [] := List.eq_nil_of_length_eq_zero HQN.out
    have HCB : Hid (cbB gr l an = false) := by unfold Hid cbB; rw [hE]; simp
    have HNO := Lib.hid (cbB_no HCB.out)
    clear hE
    have r0 := HR1.out.cell (i := 0) rfl
    have r1 := HR1.out.cell (i := 1) rfl
    have r2 := HR1.out.cell (i := 2) rfl
    have r3 := HR1.out.cell (i := 3) rfl
    have fr := fun j => HR1.out.frozen j
    go_wp2_with fail
    have HRF := Lib.hid ((((HR1.out.set 0 (.slice none 0 0)).set 1 (.int .i64 0)).set 2 (.slice none 0 0)).set 3 (.slice none 0 0))
    have HBF := Lib.hid ((((HB1.out.setCell (p := ⟨RB, 0, none⟩) (by show w.heap.size ≤ RB; omega) (.slice none 0 0)).setCell (p := ⟨RB, 1, none⟩) (by show w.heap.size ≤ RB; omega) (.int .i64 0)).setCell (p := ⟨RB, 2, none⟩) (by show w.heap.size ≤ RB; omega) (.slice none 0 0)).setCell (p := ⟨RB, 3, none⟩) (by show w.heap.size ≤ RB; omega) (.slice none 0 0))
    clear r0 r1 r2 r3 fr
    have t0 := HRF.out.cell (i := 0) rfl
    have t1 := HRF.out.cell (i := 1) rfl
    have t2 := HRF.out.cell (i := 2) rfl
    have t3 := HRF.out.cell (i := 3) rfl
    try (go_wp2_with fail)
    have HWF : Hid (Within RB (RB + 1) w1 ((((w1.setCell ⟨RB, 0, none⟩ (.slice none 0 0)).setCell ⟨RB, 1, none⟩ (.int .i64 0)).setCell ⟨RB, 2, none⟩ (.slice none 0 0)).setCell ⟨RB, 3, none⟩ (.slice none 0 0))) := (((((Within.refl RB (RB + 1) w1).setCell (Nat.le_refl _) (by omega) 0 (.slice none 0 0)).setCell (Nat.le_refl _) (by omega) 1 (.int .i64 0)).setCell (Nat.le_refl _) (by omega) 2 (.slice none 0 0)).setCell (Nat.le_refl _) (by omega) 3 (.slice none 0 0))
    refine bodyPost_ret (v := .tuple #[.agg #[.slice none 0 0, .int .i64 0, .slice none 0 0, .slice none 0 0], .bool false]) (by simp [results, Try.results126, go_sem, t0, t1, t2, t3]) rfl ⟨?_, HBF.out⟩
    exact RetKG.zero _ _ HCB.out HNO.out.1 HNO.out.2.1 HNO.out.2.2
  have HNE : Hid (kqE gr l an ≠ []) := fun h => by have := HQN.out; rw [h] at this; exact hne this.symm
  have HCB : Hid (cbB gr l an = true) := by unfold Hid cbB; rw [HKA.out, decide_eq_false HNE.out]; rfl
  have HYS := Lib.hid (cbB_yes HCB.out)
  have HSM := Lib.hid (cb_sum HKA.out HNE.out)
  have ne1 : ¬ (qn : Int) = 0 := by omega
  have g0 := HG1.out.cell (i := 0) rfl
  have g1 := HG1.out.cell (i := 1) rfl
  have g2 := HG1.out.cell (i := 2) rfl
  go_wp2_with fail
  clear g0 g1 g2
  refine (spec_sSum gr _ (kmE gr l an) w1 HG.out HZ.out HSM.out.1).mono ?_
  rintro e w2 ⟨⟨x, y, rfl, hox, hoy⟩, hb2⟩
  obtain ⟨xa, xc, hx⟩ := hox.shape
  obtain ⟨ya, yc, hy⟩ := hoy.shape
  obtain ⟨xn, hxn⟩ : ∃ n, (smD gr (kmE gr l an)).c.length = n := ⟨_, rfl⟩
  obtain ⟨yn, hyn⟩ : ∃ n, (smD gr (kmE gr l an)).s.length = n := ⟨_, rfl⟩
  rw [hxn] at hx
  rw [hyn] at hy
  subst hx hy
  have HXN := Lib.hid hxn
  have HOX := Lib.hid hox
  have HOY := Lib.hid hoy
  have HO2 := Lib.hid (HO.out.below hb2)
  have HR2 := Lib.hid (HR1.out.below hb2)
  have hs2 := hb2.size
  have HB2 := Lib.hid (HB1.out.trans (hb2.mono HB1.out.size))
  clear hxn hyn hox hoy hb2
  have hx1 : 1 ≤ xn := by have := HSM.out.2; have := HXN.out; unfold cbD at *; omega
  obtain ⟨xb, rfl, _, _, hcx⟩ := HOX.out.at_ (by have := HXN.out; omega)
  have kx := (hcx 0 (by omega)).1
  obtain ⟨Y0, hY0⟩ : ∃ z, nth (smD gr (kmE gr l an)).c 0 = z := ⟨_, rfl⟩
  rw [hY0] at kx
  have HY0 := Lib.hid hY0
  have KX := Lib.hid kx
  clear hcx hY0 kx
  obtain ⟨SB, hSB⟩ : ∃ b, b = w2.heap.size := ⟨_, rfl⟩
  obtain ⟨V, hV⟩ : ∃ V, V = w2.alloc (.cells #[.slice (some ⟨xb, 0, none⟩) xn xc, .slice ya yn yc] 57) := ⟨_, rfl⟩
  have hbV : Below w2.heap.size w2 V := by rw [hV]; exact (Below.refl _ _).alloc (Nat.le_refl _) _
  have hsV := hbV.size
  have HSV : Hid (BoxN V SB 57 [.slice (some ⟨xb, 0, none⟩) xn xc, .slice ya yn yc]) := by unfold Hid; rw [hV, hSB]; exact BoxN.new w2 [.slice (some ⟨xb, 0, none⟩) xn xc, .slice ya yn yc] _
  go_upto_region 5 with fail
  rw [← hSB, ← hV]
  have HOV := Lib.hid (HO2.out.below hbV)
  have HXV := Lib.hid (HOX.out.below hbV)
  have HYV := Lib.hid (HOY.out.below hbV)
  have HRV := Lib.hid (HR2.out.below hbV)
  have HBV := Lib.hid (HB2.out.trans (hbV.mono HB2.out.size))
  have k0 := box_at KX.out hbV
  clear hV hSB hbV
  have s0 := HSV.out.cell (i := 0) rfl
  have s1 := HSV.out.cell (i := 1) rfl
  have u0 : (0 : Int) < (xn : Int) := by omega
  have u1 : 0 < xn := by omega
  refine wp_region_noPanic ?_
  refine wp_region_P (fun w' => w'.cell? ⟨SB, 0, none⟩ = some (.slice (some ⟨xb, 0, none⟩) xn xc) ∧ w'.cell? ⟨SB, 1, none⟩ = some (.slice ya yn yc) ∧ w'.cell? ⟨xb, 0, none⟩ = some (.int .i64 Y0)) 14 [(0, []), (1, []), (2, [0]), (3, [0]), (4, [0]), (5, []), (6, [0]), (7, []), (8, [0]), (9, [8, 4, 2, 0])] [10, 11] (by kernel_rfl) (by kernel_rfl) (by kernel_rfl) rfl (fun _ _ _ _ h => h) (fun w' h => ⟨box_at s0 h, box_at s1 h, box_at k0 h⟩) ?_
  simp only [pickP, pickN, List.getElem?_cons_zero, List.getElem?_cons_succ]
  iterate 10 (refine' chainP_read _ rfl rfl (fun w' hS' => ?_) ?_; rotate_left; · (simp only [lookP, allP, Act.put, List.getElem?_cons_zero, List.getElem?_cons_succ, List.setIfInBounds_toArray, List.set_cons_zero, List.set_cons_succ]; (try dsimp only at hS'); go_simp; (try with_reducible rfl)))
  refine chainP_nil (fun u1 hS' => ?_)
  simp only [allP, Act.put, List.setIfInBounds_toArray, List.set_cons_zero, List.set_cons_succ]
  have hV1 := hS'.1
  clear hS' s0 s1 k0
  have HO3 := Lib.hid (HOV.out.below hV1)
  have HX3 := Lib.hid (HXV.out.below hV1)
  have HY3 := Lib.hid (HYV.out.below hV1)
  have HR3 := Lib.hid (HRV.out.below hV1)
  have HB3 := Lib.hid (HBV.out.trans (hV1.mono HBV.out.size))
  have hs3 := hV1.size
  clear hV1
  have r0 := HR3.out.cell (i := 0) rfl
  have r1 := HR3.out.cell (i := 1) rfl
  have r2 := HR3.out.cell (i := 2) rfl
  have r3 := HR3.out.cell (i := 3) rfl
  have fr := fun j => HR3.out.frozen j
  go_wp2_with fail
  refine NoPanic.normal ?_
  (try (go_wp2_with fail))
  have HRF := Lib.hid ((((HR3.out.set 0 (.slice qa qn qc)).set 1 (.int .i64 Y0)).set 2 (.slice (some ⟨xb, 0, none⟩) xn xc)).set 3 (.slice ya yn yc))
  have HBF := Lib.hid ((((HB3.out.setCell (p := ⟨RB, 0, none⟩) (by show w.heap.size ≤ RB; omega) (.slice qa qn qc)).setCell (p := ⟨RB, 1, none⟩) (by show w.heap.size ≤ RB; omega) (.int .i64 Y0)).setCell (p := ⟨RB, 2, none⟩) (by show w.heap.size ≤ RB; omega) (.slice (some ⟨xb, 0, none⟩) xn xc)).setCell (p := ⟨RB, 3, none⟩) (by show w.heap.size ≤ RB; omega) (.slice ya yn yc))
  clear r0 r1 r2 r3 fr
  have t0 := HRF.out.cell (i := 0) rfl
  have t1 := HRF.out.cell (i := 1) rfl
  have t2 := HRF.out.cell (i := 2) rfl
  have t3 := HRF.out.cell (i := 3) rfl
  try (go_wp2_with fail)
  have HWF : Hid (Within RB (RB + 1) u1 ((((u1.setCell ⟨RB, 0, none⟩ (.slice qa qn qc)).setCell ⟨RB, 1, none⟩ (.int .i64 Y0)).setCell ⟨RB, 2, none⟩ (.slice (some ⟨xb, 0, none⟩) xn xc)).setCell ⟨RB, 3, none⟩ (.slice ya yn yc))) := (((((Within.refl RB (RB + 1) u1).setCell (Nat.le_refl _) (by omega) 0 (.slice qa qn qc)).setCell (Nat.le_refl _) (by omega) 1 (.int .i64 Y0)).setCell (Nat.le_refl _) (by omega) 2 (.slice (some ⟨xb, 0, none⟩) xn xc)).setCell (Nat.le_refl _) (by omega) 3 (.slice ya yn yc))
  refine bodyPost_ret (v := .tuple #[.agg #[.slice qa qn qc, .int .i64 Y0, .slice (some ⟨xb, 0, none⟩) xn xc, .slice ya yn yc], .bool true]) (by simp [results, Try.results126, go_sem, t0, t1, t2, t3]) rfl ⟨?_, HBF.out⟩
  have hy : kgY gr l an = Y0 := by rw [HYS.out.2.1]; exact HY0.out
  rw [hy, HYS.out.1, HYS.out.2.2]
  have k : ∀ {v : Value} {l : List Int}, OwnI u1 W.heap.size v l → OwnI ((((u1.setCell ⟨RB, 0, none⟩ (.slice qa qn qc)).setCell ⟨RB, 1, none⟩ (.int .i64 Y0)).setCell ⟨RB, 2, none⟩ (.slice (some ⟨xb, 0, none⟩) xn xc)).setCell ⟨RB, 3, none⟩ (.slice ya yn yc)) w.heap.size v l := fun h => (h.withinR HWF.out (by omega)).mono (by omega)
  exact RetKG.mk HCB.out (k HO3.out) (k (HX3.out.mono (by omega))) (k (HY3.out.mono (by omega)))
set_option maxRecDepth 100000 in
set_option maxHeartbeats 4000000 in
theorem spec_CombineKey (gr : GroupD) (lv : Value) (l : List DealingD) (av : Value) (an : List (List Int)) (w : World) (hl : RdR rDealing w lv l) (ha : RdL kInts w av an) :
    Calls Try.prog 36 #[.agg #[.int .i64 gr.p, .int .i64 gr.q, .int .i64 gr.g], lv, av] w fun e w' => RetKG e w' w.heap.size (cbB gr l an) (kgQ gr l an) (kgY gr l an) (kgD gr l an) ∧ Below w.heap.size w w' := by
  have Hl := Lib.hid hl
  have Ha := Lib.hid ha
  clear hl ha
  obtain ⟨W, hW⟩ : ∃ W, W = (w.alloc (.cells #[.int .i64 gr.p, .int .i64 gr.q, .int .i64 gr.g] 24)).alloc (.cells #[.slice none 0 0, .int .i64 0, .slice none 0 0, .slice none 0 0] 73) := ⟨_, rfl⟩
  obtain ⟨RB, hRB⟩ : ∃ b, b = w.heap.size + 1 := ⟨_, rfl⟩
  have HB : Hid (Below w.heap.size w W) := by unfold Hid; rw [hW]; (repeat (first | exact Below.refl _ _ | assumption | refine Below.drew ?_ | refine Below.alloc ?_ (by first | (simp; done) | (simp; omega)) _ | refine Below.setCell ?_ (by first | (simp; done) | (simp; omega)) _))
  have HGB : Hid (BoxN W w.heap.size 24 [.int .i64 gr.p, .int .i64 gr.q, .int .i64 gr.g]) := by unfold Hid; rw [hW]; exact (BoxN.new w [.int .i64 gr.p, .int .i64 gr.q, .int .i64 gr.g] _).alloc _
  have HR : Hid (BoxN W RB 73 [.slice none 0 0, .int .i64 0, .slice none 0 0, .slice none 0 0]) := by
    unfold Hid; rw [hW, hRB]
    have h9 := BoxN.new (w.alloc (.cells #[.int .i64 gr.p, .int .i64 gr.q, .int .i64 gr.g] 24)) [.slice none 0 0, .int .i64 0, .slice none 0 0, .slice none 0 0] 73
    rw [show (w.alloc (.cells #[.int .i64 gr.p, .int .i64 gr.q, .int .i64 gr.g] 24)).heap.size = w.heap.size + 1 by simp] at h9
    exact h9
  have hsW : RB < W.heap.size := by rw [hW, hRB]; simp
  have hrb1 : w.heap.size < RB := by omega
  go_enter Try.func36, Try.ntmps36
  go_wp2_with fail
  rw [← hW]
  (try rw [← hRB])
  clear hW hRB
  refine (spec_kgAnswers gr _ l _ an W (Hl.out.below HB.out) (RdL.below Ha.out HB.out)).mono ?_
  rintro e w1 ⟨rfl, hb1⟩
  have hs1 := hb1.size
  have HB1 := Lib.hid (HB.out.trans (hb1.mono HB.out.size))
  have HR1 := Lib.hid (HR.out.below hb1)
  have HG1 := Lib.hid (HGB.out.below hb1)
  clear hb1
  obtain ⟨q, hq⟩ : ∃ q, kaB gr l an = q := ⟨_, rfl⟩
  rw [hq]
  have HQ := Lib.hid hq
  clear hq
  cases q with
  | false =>
    have HCB := Lib.hid (cbB_ka HQ.out)
    have HNO := Lib.hid (cbB_no HCB.out)
    have r0 := HR1.out.cell (i := 0) rfl
    have r1 := HR1.out.cell (i := 1) rfl
    have r2 := HR1.out.cell (i := 2) rfl
    have r3 := HR1.out.cell (i := 3) rfl
    have fr := fun j => HR1.out.frozen j
    go_wp2_with fail
    have HRF := Lib.hid ((((HR1.out.set 0 (.slice none 0 0)).set 1 (.int .i64 0)).set 2 (.slice none 0 0)).set 3 (.slice none 0 0))
    have HBF := Lib.hid ((((HB1.out.setCell (p := ⟨RB, 0, none⟩) (by show w.heap.size ≤ RB; omega) (.slice none 0 0)).setCell (p := ⟨RB, 1, none⟩) (by show w.heap.size ≤ RB; omega) (.int .i64 0)).setCell (p := ⟨RB, 2, none⟩) (by show w.heap.size ≤ RB; omega) (.slice none 0 0)).setCell (p := ⟨RB, 3, none⟩) (by show w.heap.size ≤ RB; omega) (.slice none 0 0))
    clear r0 r1 r2 r3 fr
    have t0 := HRF.out.cell (i := 0) rfl
    have t1 := HRF.out.cell (i := 1) rfl
    have t2 := HRF.out.cell (i := 2) rfl
    have t3 := HRF.out.cell (i := 3) rfl
    try (go_wp2_with fail)
    have HWF : Hid (Within RB (RB + 1) w1 ((((w1.setCell ⟨RB, 0, none⟩ (.slice none 0 0)).setCell ⟨RB, 1, none⟩ (.int .i64 0)).setCell ⟨RB, 2, none⟩ (.slice none 0 0)).setCell ⟨RB, 3, none⟩ (.slice none 0 0))) := (((((Within.refl RB (RB + 1) w1).setCell (Nat.le_refl _) (by omega) 0 (.slice none 0 0)).setCell (Nat.le_refl _) (by omega) 1 (.int .i64 0)).setCell (Nat.le_refl _) (by omega) 2 (.slice none 0 0)).setCell (Nat.le_refl _) (by omega) 3 (.slice none 0 0))
    refine bodyPost_ret (v := .tuple #[.agg #[.slice none 0 0, .int .i64 0, .slice none 0 0, .slice none 0 0], .bool false]) (by simp [results, Try.results36, go_sem, t0, t1, t2, t3]) rfl ⟨?_, HBF.out⟩
    exact RetKG.zero _ _ HCB.out HNO.out.1 HNO.out.2.1 HNO.out.2.2
  | true =>
  have g0 := HG1.out.cell (i := 0) rfl
  have g1 := HG1.out.cell (i := 1) rfl
  have g2 := HG1.out.cell (i := 2) rfl
  go_wp2_with fail
  clear g0 g1 g2
  refine (spec_kgCombine gr _ l _ an w1 (Hl.out.below HB1.out) (RdL.below Ha.out HB1.out) HQ.out).mono ?_
  rintro e w2 ⟨⟨a1, n1, c1, a2, n2, c2, a3, n3, c3, rfl, h1, h2, h3⟩, hb2⟩
  have HO1 := Lib.hid h1
  have HO2 := Lib.hid h2
  have HO3 := Lib.hid h3
  have hs2 := hb2.size
  have HB2 := Lib.hid (HB1.out.trans (hb2.mono HB1.out.size))
  have HR2 := Lib.hid (HR1.out.below hb2)
  clear h1 h2 h3 hb2
  obtain ⟨Y0, hY0⟩ : ∃ z, kgY gr l an = z := ⟨_, rfl⟩
  rw [hY0]
  have HY0 := Lib.hid hY0
  clear hY0
  have r0 := HR2.out.cell (i := 0) rfl
  have r1 := HR2.out.cell (i := 1) rfl
  have r2 := HR2.out.cell (i := 2) rfl
  have r3 := HR2.out.cell (i := 3) rfl
  have fr := fun j => HR2.out.frozen j
  go_wp2_with fail
  have HRF := Lib.hid ((((HR2.out.set 0 (.slice a1 n1 c1)).set 1 (.int .i64 Y0)).set 2 (.slice a2 n2 c2)).set 3 (.slice a3 n3 c3))
  have HBF := Lib.hid ((((HB2.out.setCell (p := ⟨RB, 0, none⟩) (by show w.heap.size ≤ RB; omega) (.slice a1 n1 c1)).setCell (p := ⟨RB, 1, none⟩) (by show w.heap.size ≤ RB; omega) (.int .i64 Y0)).setCell (p := ⟨RB, 2, none⟩) (by show w.heap.size ≤ RB; omega) (.slice a2 n2 c2)).setCell (p := ⟨RB, 3, none⟩) (by show w.heap.size ≤ RB; omega) (.slice a3 n3 c3))
  clear r0 r1 r2 r3 fr
  have t0 := HRF.out.cell (i := 0) rfl
  have t1 := HRF.out.cell (i := 1) rfl
  have t2 := HRF.out.cell (i := 2) rfl
  have t3 := HRF.out.cell (i := 3) rfl
  try (go_wp2_with fail)
  have HWF : Hid (Within RB (RB + 1) w2 ((((w2.setCell ⟨RB, 0, none⟩ (.slice a1 n1 c1)).setCell ⟨RB, 1, none⟩ (.int .i64 Y0)).setCell ⟨RB, 2, none⟩ (.slice a2 n2 c2)).setCell ⟨RB, 3, none⟩ (.slice a3 n3 c3))) := (((((Within.refl RB (RB + 1) w2).setCell (Nat.le_refl _) (by omega) 0 (.slice a1 n1 c1)).setCell (Nat.le_refl _) (by omega) 1 (.int .i64 Y0)).setCell (Nat.le_refl _) (by omega) 2 (.slice a2 n2 c2)).setCell (Nat.le_refl _) (by omega) 3 (.slice a3 n3 c3))
  refine bodyPost_ret (v := .tuple #[.agg #[.slice a1 n1 c1, .int .i64 Y0, .slice a2 n2 c2, .slice a3 n3 c3], .bool (cbB gr l an)]) (by simp [results, Try.results36, go_sem, t0, t1, t2, t3]) rfl ⟨?_, HBF.out⟩
  rw [HY0.out]
  have k : ∀ {v : Value} {l : List Int}, OwnI w2 w1.heap.size v l → OwnI ((((w2.setCell ⟨RB, 0, none⟩ (.slice a1 n1 c1)).setCell ⟨RB, 1, none⟩ (.int .i64 Y0)).setCell ⟨RB, 2, none⟩ (.slice a2 n2 c2)).setCell ⟨RB, 3, none⟩ (.slice a3 n3 c3)) w.heap.size v l := fun h => (h.withinR HWF.out (by omega)).mono (by omega)
  exact ⟨_, _, _, _, _, _, _, _, _, rfl, k HO1.out, k HO2.out, k HO3.out⟩
end Go.Proofs.Ytacpnphfopmofaa
namespace Go.Proofs.Ytacpnphfopmofaa
open Go.RowKit
set_option linter.unusedSimpArgs false
set_option linter.unusedVariables false

/-- a function value that decides p on lists, in every world that has grown from w -/
structure DecidesL (w : World) (g : FuncId) (caps : Array Value) (p : List Int → Bool) : Prop where
  enters : ∀ args wr, (callFunc g args).run Try.prog wr = .ok (.enter g args) wr
  runs : ∀ v d wr, Ints wr v d → Below w.heap.size w wr → Calls Try.prog g (#[v] ++ caps) wr fun e w' => e = .returned (.bool (p d)) ∧ Below wr.heap.size wr w'
set_option maxHeartbeats 2000000 in
theorem slices_IndexFuncInts (v : Value) (ds : List (List Int)) (g : FuncId) (caps : Array Value) (p : List Int → Bool) (w : World) (h : RdL kInts w v ds) (hp : DecidesL w g caps p) :
    Calls Try.prog 207 #[v, .func (.func g) #[] caps] w fun e w' => (∃ r : Int, e = .returned (.int .i64 r) ∧ decide (0 ≤ r) = ds.any p) ∧ Below w.heap.size w w' := by
  obtain ⟨a, n, c, rfl⟩ := h.shape
  have e := h.len
  obtain ⟨k1, k2⟩ := h.capMax
  unfold maxLen at k2
  have HE := Lib.hid e; clear e
  have hent := hp.enters
  have HP := Lib.hid hp; clear hp
  have H := Lib.hid h; clear h
  go_enter Try.func207, Try.ntmps207
  go_wp2
  go_loopg [8] n (fun g i wr => ∃ k : Nat, k + g = n ∧ i = .int .i64 k ∧ Hid ((ds.take k).any p = false) ∧ Below w.heap.size w wr)
  case atStart => exact ⟨0, by omega, rfl, by unfold Hid; simp, Below.refl _ _⟩
  case round =>
    obtain ⟨k, hkg, rfl, HF, hb⟩ := hrel
    by_cases hlt : k < n
    · have HK : Hid (k < ds.length) := by unfold Hid; rw [HE.out]; exact hlt
      obtain ⟨b, o, rfl, us, hcx⟩ := H.out.at_ (by omega)
      obtain ⟨y0, hrd⟩ := hcx k HK.out
      have HS : Hid ((ds.take (k + 1)).any p = ((ds.take k).any p || p (ds[k]'HK.out))) := by unfold Hid; rw [List.take_succ_eq_append_getElem HK.out, List.any_append]; simp
      have HM := Lib.hid (List.getElem_mem HK.out)
      generalize ds[k]'HK.out = d at hrd HS HM
      replace hrd : Ints w (us k) d := hrd
      obtain ⟨aa0, nn0, cc0, hus⟩ := hrd.shape
      rw [hus] at y0 hrd
      have HR : Hid (Ints wr (.slice aa0 nn0 cc0) d) := hrd.below hb
      replace y0 := box_at y0 hb
      clear hcx hrd hus
      cases hpx : p d with
      | true =>
        have HA : Hid (decide (0 ≤ (k : Int)) = ds.any p) := by
          unfold Hid; rw [decide_eq_true (by omega), eq_comm, List.any_eq_true]; exact ⟨_, HM.out, hpx⟩
        have HX := Lib.hid hpx
        clear hpx
        go_wp2_with fail
        refine (HP.out.runs _ _ _ HR.out hb).mono ?_
        rintro e w1 ⟨rfl, hb1⟩
        rw [HX.out]
        go_wp2_with fail
        go_ret
        exact ⟨⟨_, rfl, HA.out⟩, hb.trans (hb1.mono hb.size)⟩
      | false =>
        have HX := Lib.hid hpx
        clear hpx
        go_wp2_with fail
        refine (HP.out.runs _ _ _ HR.out hb).mono ?_
        rintro e w1 ⟨rfl, hb1⟩
        rw [HX.out]
        go_wp2_with fail
        go_roundg (n - (k + 1))
        case measure => omega
        case rel => exact ⟨k + 1, by omega, by go_num, by unfold Hid; rw [HS.out, HF.out, HX.out]; rfl, hb.trans (hb1.mono hb.size)⟩
    · obtain rfl : n = k := by omega
      have HA : Hid (decide (0 ≤ (-1 : Int)) = ds.any p) := by
        have := HF.out
        rw [List.take_of_length_le (by rw [HE.out]; exact Nat.le_refl _)] at this
        unfold Hid; rw [this]; rfl
      go_wp2_with fail
      go_ret
      exact ⟨⟨_, rfl, HA.out⟩, hb⟩
theorem slices_ContainsFuncInts (v : Value) (ds : List (List Int)) (g : FuncId) (caps : Array Value) (p : List Int → Bool) (w : World) (h : RdL kInts w v ds) (hp : DecidesL w g caps p) :
    Calls Try.prog 179 #[v, .func (.func g) #[] caps] w fun e w' => e = .returned (.bool (ds.any p)) ∧ Below w.heap.size w w' := by
  have HP := Lib.hid hp; clear hp
  have H := Lib.hid h; clear h
  go_enter Try.func179, Try.ntmps179
  go_wp2_with fail
  refine (slices_IndexFuncInts v ds g caps p _ H.out HP.out).mono ?_
  rintro e w1 ⟨⟨r, rfl, hr⟩, hb⟩
  have HR := Lib.hid hr; clear hr
  go_wp2_with fail
  go_ret
  exact ⟨ret_bool (by first | (rw [HR.out]; done) | (rw [HR.out]; rfl) | exact HR.out.symm), hb⟩
end Go.Proofs.Ytacpnphfopmofaa
namespace Go.Proofs.Ytacpnphfopmofaa
open Go.RowKit
set_option linter.unusedSimpArgs false
set_option linter.unusedVariables false

theorem an_any (gr : GroupD) (an : List (List Int)) : (an.any fun own => !(decide ((own.length : Int) ≤ 7) && own.all (expB gr))) = !anB gr an := by
  unfold anB
  induction an with
  | nil => rfl
  | cons a an ih =>
    rw [List.any_cons, List.all_cons, ih]
    generalize (an.all fun own => decide ((own.length : Int) ≤ 7) && own.all (expB gr)) = y
    cases decide ((a.length : Int) ≤ 7) <;> cases a.all (expB gr) <;> cases y <;> rfl
theorem RdL.belowA {δ : Type} {K : Kind δ} {w w' : World} {v : Value} {ds : List δ} (h : RdL K w v ds) (hb : Below w.heap.size w w') : RdL K w' v ds := (kList 42 K).rd_below h hb
set_option maxHeartbeats 2000000 in
theorem impl_areAnswers1 (gr : GroupD) (v : Value) (own : List Int) (b : Nat) (w : World) (hg : OkG gr) (hx : Ints w v own) (c0 : w.cell? ⟨b, 0, none⟩ = some (.int .i64 gr.p)) (c1 : w.cell? ⟨b, 1, none⟩ = some (.int .i64 gr.q)) (c2 : w.cell? ⟨b, 2, none⟩ = some (.int .i64 gr.g)) :
    Calls Try.prog 180 #[v, .pointer (some ⟨b, 0, none⟩)] w fun e w' => e = .returned (.bool (!(decide ((own.length : Int) ≤ 7) && own.all (expB gr)))) ∧ Below w.heap.size w w' := by
  obtain ⟨a, n, c, rfl⟩ := hx.shape
  have HX := Lib.hid hx
  have HE := Lib.hid hx.len
  have HG := Lib.hid hg
  clear hx hg
  go_enter Try.func180, Try.ntmps180
  by_cases h7 : n ≤ 7
  · have d1 : decide ((7 : Int) < (n : Int)) = false := decide_eq_false (by omega)
    have d2 : decide (7 < n) = false := decide_eq_false (by omega)
    have HV : Hid (decide ((own.length : Int) ≤ 7) = true) := by unfold Hid; rw [HE.out]; exact decide_eq_true (by omega)
    clear h7
    go_wp2_with fail
    refine (impl_areExps gr _ own _ HG.out HX.out).mono ?_
    rintro e u1 ⟨rfl, hb⟩
    have HB := Lib.hid hb
    clear hb c0 c1 c2
    obtain ⟨q, hq⟩ : ∃ z, own.all (expB gr) = z := ⟨_, rfl⟩
    have HQ := Lib.hid hq
    rw [hq]
    clear hq
    cases q with
    | false =>
      go_wp2_with fail
      go_ret
      exact ⟨by rw [HV.out, HQ.out]; rfl, HB.out⟩
    | true =>
      go_wp2_with fail
      go_ret
      exact ⟨by rw [HV.out, HQ.out]; rfl, HB.out⟩
  · have d1 : decide ((7 : Int) < (n : Int)) = true := decide_eq_true (by omega)
    have d2 : decide (7 < n) = true := decide_eq_true (by omega)
    have HV : Hid (decide ((own.length : Int) ≤ 7) = false) := by unfold Hid; rw [HE.out]; exact decide_eq_false (by omega)
    clear h7 c0 c1 c2
    go_wp2_with fail
    go_ret
    exact ⟨by rw [HV.out]; rfl, Below.refl _ _⟩
set_option maxHeartbeats 2000000 in
theorem impl_areAnswers (gr : GroupD) (av : Value) (an : List (List Int)) (n : Nat) (w : World) (hg : OkG gr) (ha : RdL kInts w av an) :
    Calls Try.prog 130 #[.agg #[.int .i64 gr.p, .int .i64 gr.q, .int .i64 gr.g], av, .int .i64 (n : Int)] w fun e w' => e = .returned (.bool (decide (an.length = n) && anB gr an)) ∧ Below w.heap.size w w' := by
  obtain ⟨a, m, c, rfl⟩ := ha.shape
  have HA := Lib.hid ha
  have HE := Lib.hid ha.len
  have HG := Lib.hid hg
  clear ha hg
  obtain ⟨W, hW⟩ : ∃ W, W = w.alloc (.cells #[.int .i64 gr.p, .int .i64 gr.q, .int .i64 gr.g] 24) := ⟨_, rfl⟩
  have HBW : Hid (Below w.heap.size w W) := by unfold Hid; rw [hW]; (repeat (first | exact Below.refl _ _ | assumption | refine Below.drew ?_ | refine Below.alloc ?_ (by first | (simp; done) | (simp; omega)) _ | refine Below.setCell ?_ (by first | (simp; done) | (simp; omega)) _))
  have HGX : Hid (BoxN W w.heap.size 24 [.int .i64 gr.p, .int .i64 gr.q, .int .i64 gr.g]) := by unfold Hid; rw [hW]; exact BoxN.new w _ _
  go_enter Try.func130, Try.ntmps130
  by_cases hmn : m = n
  · have d1 : ((m : Int) == (n : Int)) = true := by rw [beq_iff_eq]; omega
    have HV : Hid (decide (an.length = n) = true) := by unfold Hid; rw [HE.out]; exact decide_eq_true hmn
    have HC0 := Lib.hid (HGX.out.cell (i := 0) rfl)
    have HC1 := Lib.hid (HGX.out.cell (i := 1) rfl)
    have HC2 := Lib.hid (HGX.out.cell (i := 2) rfl)
    have HDEC : Hid (DecidesL W 180 #[.pointer (some ⟨w.heap.size, 0, none⟩)] (fun own => !(decide ((own.length : Int) ≤ 7) && own.all (expB gr)))) := ⟨Try.call180, fun v d wr hx hb => impl_areAnswers1 gr v d _ wr HG.out hx (box_at HC0.out hb) (box_at HC1.out hb) (box_at HC2.out hb)⟩
    clear hmn
    go_wp2_with fail
    rw [← hW]
    clear hW
    (try (go_wp2_with fail))
    refine (slices_ContainsFuncInts _ an _ _ (fun own => !(decide ((own.length : Int) ≤ 7) && own.all (expB gr))) _ (HA.out.belowA HBW.out) HDEC.out).mono ?_
    rintro e u1 ⟨rfl, hb⟩
    have HB := Lib.hid (Below.next HBW.out hb)
    clear hb HDEC
    rw [an_any]
    obtain ⟨q, hq⟩ : ∃ z, anB gr an = z := ⟨_, rfl⟩
    have HQ := Lib.hid hq
    rw [hq]
    clear hq
    cases q with
    | false =>
      go_wp2_with fail
      go_ret
      exact ⟨by rw [HV.out, HQ.out]; rfl, HB.out⟩
    | true =>
      go_wp2_with fail
      go_ret
      exact ⟨by rw [HV.out, HQ.out]; rfl, HB.out⟩
  · have d1 : ((m : Int) == (n : Int)) = false := by rw [beq_eq_false_iff_ne]; omega
    have HV : Hid (decide (an.length = n) = false) := by unfold Hid; rw [HE.out]; exact decide_eq_false hmn
    clear hmn
    go_wp2_with fail
    rw [← hW]
    clear hW
    (try (go_wp2_with fail))
    go_ret
    exact ⟨by rw [HV.out]; rfl, HBW.out⟩
end Go.Proofs.Ytacpnphfopmofaa
