/- Commitments: the walks (printed by gen_com1.py). -/
import Derived.Test.YtacpnphfopmofaaBgP
import Derived.Test.YtacpnphfopmofaaRegPP
import Derived.Test.YtacpnphfopmofaaBaP
import Derived.Test.YtacpnphfopmofaaBmP
namespace Go.Proofs.Ytacpnphfopmofaa
open Go.RowKit
set_option linter.unusedSimpArgs false
set_option linter.unusedVariables false

theorem small_64 {x : Int} (h : Small x) : I64 x := ⟨by have := h.1; omega, by have := h.2; omega⟩
theorem powE_small {gr : GroupD} (hg : OkG gr) (x e : Int) : Small (powE gr x e) := by
  have := powE_bd hg x e; have := hg.p2; exact ⟨by omega, by omega⟩
theorem mulL_small {gr : GroupD} (hg : OkG gr) (l : List Int) : Small (mulL gr l) := by
  have := mulL_bd hg l; have := hg.p2; exact ⟨by omega, by omega⟩
theorem AllSmall.nil : AllSmall [] := fun x hx => by cases hx
theorem AllSmall.cons {x : Int} {l : List Int} (h : Small x) (h' : AllSmall l) : AllSmall (x :: l) := fun y hy => by
  rcases List.mem_cons.1 hy with rfl | hy
  · exact h
  · exact h' y hy
def coM (gr : GroupD) (h m r : Int) : Int := mulL gr [powE gr gr.g m, powE gr h r]
set_option maxRecDepth 100000 in
set_option maxHeartbeats 2000000 in
theorem spec_pCommit (gr : GroupD) (bh : Int) (bv : Value) (bl : List Int) (m r : Int) (w : World) (hg : OkG gr) (hb : Ints w bv bl) (sbh : Small bh) (hm : I64 m) (hr : I64 r) :
    Calls Try.prog 149 #[.agg #[.int .i64 gr.p, .int .i64 gr.q, .int .i64 gr.g], .agg #[.int .i64 bh, bv], .int .i64 m, .int .i64 r] w fun e w' => e = .returned (.int .i64 (coM gr bh m r)) ∧ Below w.heap.size w w' := by
  have HG := Lib.hid hg
  have hg1 := hg.g1
  have hg2 := hg.g2
  have hp1 := hg.p1
  have hp2 := hg.p2
  have hq1 := hg.q1
  have hq2 := hg.q2
  have sg : Small gr.g := ⟨by omega, by omega⟩
  clear hg
  obtain ⟨ba, bn, bc, rfl⟩ := hb.shape
  have HBL := Lib.hid hb; clear hb
  have HV : Hid (((.int .i64 (coM gr bh m r)) : Value) = .int .i64 (mulL gr [powE gr gr.g m, powE gr bh r])) := by unfold Hid; simp [coM]
  rw [HV.out]
  obtain ⟨W, hW⟩ : ∃ W, W = (w.alloc (.cells #[.int .i64 gr.p, .int .i64 gr.q, .int .i64 gr.g] 24)).alloc (.cells #[.int .i64 bh, (.slice ba bn bc)] 49) := ⟨_, rfl⟩
  have HB : Hid (Below w.heap.size w W) := by unfold Hid; rw [hW]; (repeat (first | exact Below.refl _ _ | assumption | refine Below.drew ?_ | refine Below.alloc ?_ (by first | (simp; done) | (simp; omega)) _ | refine Below.setCell ?_ (by first | (simp; done) | (simp; omega)) _))
  have c0_0 : W.cell? ⟨w.heap.size, 0, none⟩ = some (.int .i64 gr.p) := by rw [hW]; simp [go_sem]
  have c0_1 : W.cell? ⟨w.heap.size, 1, none⟩ = some (.int .i64 gr.q) := by rw [hW]; simp [go_sem]
  have c0_2 : W.cell? ⟨w.heap.size, 2, none⟩ = some (.int .i64 gr.g) := by rw [hW]; simp [go_sem]
  have c1_0 : W.cell? ⟨w.heap.size + 1, 0, none⟩ = some (.int .i64 bh) := by rw [hW]; simp [go_sem]
  have c1_1 : W.cell? ⟨w.heap.size + 1, 1, none⟩ = some ((.slice ba bn bc)) := by rw [hW]; simp [go_sem]
  have HSW : Hid (W.heap.size = w.heap.size + 2) := by unfold Hid; rw [hW]; simp
  go_enter Try.func149, Try.ntmps149
  go_wp2_with fail
  rw [← hW]
  clear hW
  have hc : Below W.heap.size W W := Below.refl _ _
  try (go_wp2_with fail)
  refine wp_region_noPanic ?_
  refine wp_region_P (fun w' => w'.cell? ⟨w.heap.size, 0, none⟩ = some (.int .i64 gr.p) ∧ w'.cell? ⟨w.heap.size, 1, none⟩ = some (.int .i64 gr.q) ∧ w'.cell? ⟨w.heap.size, 2, none⟩ = some (.int .i64 gr.g) ∧ w'.cell? ⟨w.heap.size + 1, 0, none⟩ = some (.int .i64 bh) ∧ w'.cell? ⟨w.heap.size + 1, 1, none⟩ = some ((.slice ba bn bc))) 16 [(0, []), (1, []), (2, []), (3, [0]), (4, []), (5, [3, 1, 0]), (6, []), (7, []), (8, [0]), (9, []), (10, [3, 1, 0]), (11, [5, 0]), (12, [11, 0]), (13, [0])] [] (by kernel_rfl) (by kernel_rfl) (by kernel_rfl) rfl (fun _ _ _ _ h => h) (fun w' h => ⟨box_at c0_0 h, box_at c0_1 h, box_at c0_2 h, box_at c1_0 h, box_at c1_1 h⟩) ?_
  simp only [pickP, pickN, List.getElem?_cons_zero, List.getElem?_cons_succ]
  iterate 5 (refine' chainP_read _ rfl rfl (fun w' hS' => ?_) ?_; rotate_left; · (simp only [lookP, allP, Act.put, List.getElem?_cons_zero, List.getElem?_cons_succ, List.setIfInBounds_toArray, List.set_cons_zero, List.set_cons_succ]; (try dsimp only at hS'); go_simp; (try with_reducible rfl)))
  -- 5: call { callee := value (func 156), args := #[t10, t12, t13], argTypes := #[39, 3, 3] }
  refine chainP_call (d := (some 14)) (.int .i64 (powE gr gr.g m)) rfl rfl (fun w' hS' => ?_) ?_
  · simp only [lookP, allP, Act.put, List.getElem?_cons_zero, List.getElem?_cons_succ, List.setIfInBounds_toArray, List.set_cons_zero, List.set_cons_succ]
    intro K hK
    go_simp
    go_at_call 57
    refine (spec_gExp gr gr.g m _ HG.out sg hm).mono ?_
    rintro e u ⟨rfl, hq⟩
    exact hK.out _ hq
  iterate 4 (refine' chainP_read _ rfl rfl (fun w' hS' => ?_) ?_; rotate_left; · (simp only [lookP, allP, Act.put, List.getElem?_cons_zero, List.getElem?_cons_succ, List.setIfInBounds_toArray, List.set_cons_zero, List.set_cons_succ]; (try dsimp only at hS'); go_simp; (try with_reducible rfl)))
  -- 10: call { callee := value (func 156), args := #[t15, t17, t18], argTypes := #[39, 3, 3] }
  refine chainP_call (d := (some 19)) (.int .i64 (powE gr bh r)) rfl rfl (fun w' hS' => ?_) ?_
  · simp only [lookP, allP, Act.put, List.getElem?_cons_zero, List.getElem?_cons_succ, List.setIfInBounds_toArray, List.set_cons_zero, List.set_cons_succ]
    intro K hK
    go_simp
    go_at_call 57
    refine (spec_gExp gr bh r _ HG.out sbh hr).mono ?_
    rintro e u ⟨rfl, hq⟩
    exact hK.out _ hq
  -- 11: buildSlice 24 2 #[(0, t14), (1, t19)]
  refine chainP_do (d := (some 20)) (fun v w => Ints w v [powE gr gr.g m, powE gr bh r]) (fun v w w' hb h => Ints.below h hb) rfl rfl (fun w' hS' => ?_) ?_
  · simp only [lookP, allP, Act.put, List.getElem?_cons_zero, List.getElem?_cons_succ, List.setIfInBounds_toArray, List.set_cons_zero, List.set_cons_succ]
    intro K hK
    go_simp
    refine hK.out _ _ ((Below.refl _ _).alloc (Nat.le_refl _) _) ?_
    exact (OwnI.lit (B := w'.heap.size) w' (Nat.le_refl _) (l := [powE gr gr.g m, powE gr bh r]) (AllI64.cons (small_64 (powE_small HG.out _ _)) (AllI64.cons (small_64 (powE_small HG.out _ _)) AllI64.nil)) rfl (by simp [maxLen]) 2 rfl).ints
  -- 12: call { callee := value (func 211), args := #[t9, t20], argTypes := #[39, 24] }
  refine chainP_call (d := (some 21)) (.int .i64 (mulL gr [powE gr gr.g m, powE gr bh r])) rfl rfl (fun w' hS' => ?_) ?_
  · simp only [lookP, allP, Act.put, List.getElem?_cons_zero, List.getElem?_cons_succ, List.setIfInBounds_toArray, List.set_cons_zero, List.set_cons_succ]
    intro x11 hx11
    intro K hK
    go_simp
    go_at_call 66
    refine (spec_gMul gr _ [powE gr gr.g m, powE gr bh r] _ HG.out hx11 (AllSmall.cons (powE_small HG.out _ _) (AllSmall.cons (powE_small HG.out _ _) AllSmall.nil))).mono ?_
    rintro e u ⟨rfl, hq⟩
    exact hK.out _ hq
  -- 13: assign t21
  refine' chainP_read (d := (some 8)) _ rfl rfl (fun w' hS' => ?_) ?_; rotate_left
  · simp only [lookP, allP, Act.put, List.getElem?_cons_zero, List.getElem?_cons_succ, List.setIfInBounds_toArray, List.set_cons_zero, List.set_cons_succ]
    (try dsimp only at hS')
    go_simp
    (try with_reducible rfl)
  refine chainP_nil (fun u1 hS' => ?_)
  simp only [allP, Act.put, List.setIfInBounds_toArray, List.set_cons_zero, List.set_cons_succ]
  intro x11 hx11
  have hq1 := hS'.1
  clear hS'
  replace hc := Below.next hc hq1
  replace c0_0 := box_at c0_0 hq1
  replace c0_1 := box_at c0_1 hq1
  replace c0_2 := box_at c0_2 hq1
  replace c1_0 := box_at c1_0 hq1
  replace c1_1 := box_at c1_1 hq1
  clear hq1
  go_wp2_with fail
  refine NoPanic.normal ?_
  go_wp2_with fail
  go_ret
  exact ⟨rfl, HB.out.trans (hc.mono HB.out.size)⟩
end Go.Proofs.Ytacpnphfopmofaa
namespace Go.Proofs.Ytacpnphfopmofaa
open Go.RowKit
set_option linter.unusedSimpArgs false
set_option linter.unusedVariables false

structure DealingD where
  c : List Int
  s : List Int
deriving DecidableEq
abbrev rDealing : RowK DealingD := rMap (rS sInts (rS sInts rNil)) (fun d => (d.c, (d.s, ())))
theorem rdDealing {w : World} {v : Value} {d : DealingD} : (kS rDealing).rd w v d ↔ ∃ a0 n0 c0 a1 n1 c1, v = .agg #[.slice a0 n0 c0, .slice a1 n1 c1] ∧ sInts.rd w (.slice a0 n0 c0) d.c ∧ sInts.rd w (.slice a1 n1 c1) d.s := by
  constructor
  · rintro ⟨_, rfl, ⟨v1, _, rfl, h2, ⟨v3, _, rfl, h4, rfl⟩⟩⟩
    obtain ⟨_, _, _, rfl⟩ := sInts.sl h2
    obtain ⟨_, _, _, rfl⟩ := sInts.sl h4
    exact ⟨_, _, _, _, _, _, rfl, h2, h4⟩
  · rintro ⟨a0, n0, c0, a1, n1, c1, rfl, g0, g1⟩
    exact ⟨_, rfl, ⟨_, _, rfl, g0, ⟨_, _, rfl, g1, rfl⟩⟩⟩
end Go.Proofs.Ytacpnphfopmofaa
namespace Go.Proofs.Ytacpnphfopmofaa
open Go.RowKit

/-- a function value that decides p on structs of a row, in every world that has grown from w -/
structure DecidesS {δ : Type} (R : RowK δ) (w : World) (g : FuncId) (caps : Array Value) (p : δ → Bool) : Prop where
  enters : ∀ args wr, (callFunc g args).run Try.prog wr = .ok (.enter g args) wr
  runs : ∀ v d wr, (kS R).rd wr v d → Below w.heap.size w wr → Calls Try.prog g (#[v] ++ caps) wr fun e w' => e = .returned (.bool (p d)) ∧ Below wr.heap.size wr w'
theorem DecidesS.below {δ : Type} {R : RowK δ} {w w' : World} {g : FuncId} {caps : Array Value} {p : δ → Bool} (h : DecidesS R w g caps p) (hb : Below w.heap.size w w') : DecidesS R w' g caps p :=
  ⟨h.enters, fun v d wr hx hr => h.runs v d wr hx (hb.trans (hr.mono hb.size))⟩
end Go.Proofs.Ytacpnphfopmofaa
namespace Go.Proofs.Ytacpnphfopmofaa
open Go.RowKit
set_option linter.unusedSimpArgs false
set_option linter.unusedVariables false

/-- valid bases, but for the group -/
def hbB (gr : GroupD) (bh : Int) (bl : List Int) : Bool := (bh != 1) && (elB gr bh && (decide (bl.length ≤ 24) && ((!decide (1 ∈ bl)) && bl.all (elB gr))))
noncomputable def baB (gr : GroupD) (bh : Int) (bl : List Int) : Bool := goodG gr && hbB gr bh bl
noncomputable def cmB (gr : GroupD) (bh : Int) (bl : List Int) (m r : Int) : Bool := baB gr bh bl && (expB gr m && expB gr r)
noncomputable def cmR (gr : GroupD) (bh : Int) (bl : List Int) (m r : Int) : Int := if cmB gr bh bl m r = true then coM gr bh m r else 0
theorem baB_parts {gr : GroupD} {bh : Int} {bl : List Int} (h : baB gr bh bl = true) : goodG gr = true ∧ elB gr bh = true ∧ bh ≠ 1 ∧ bl.length ≤ 24 ∧ bl.all (elB gr) = true := by
  unfold baB hbB at h
  simp only [Bool.and_eq_true, bne_iff_ne, decide_eq_true_iff] at h
  exact ⟨h.1, h.2.2.1, h.2.1, h.2.2.2.1, h.2.2.2.2.2⟩
set_option maxRecDepth 100000 in
set_option maxHeartbeats 2000000 in
theorem spec_l9Good (gr : GroupD) (bh : Int) (bv : Value) (bl : List Int) (w : World) (hb : Ints w bv bl) (ibh : I64 bh) :
    Calls Try.prog 92 #[.agg #[.int .i64 gr.p, .int .i64 gr.q, .int .i64 gr.g], .agg #[.int .i64 bh, bv]] w fun e w' => e = .returned (.bool (baB gr bh bl)) ∧ Below w.heap.size w w' := by
  obtain ⟨bva, bvn, bvc, rfl⟩ := hb.shape
  have Ebv := Lib.hid hb.len
  have Kbv := Lib.hid hb.capMax
  have Hbv := Lib.hid hb
  clear hb
  cases hc1 : goodG gr with
  | false =>
    have HV : Hid ((.bool (baB gr bh bl) : Value) = .bool false) := by unfold Hid; simp [baB, hbB, hc1]
    rw [HV.out]
    have Hhc1 := Lib.hid hc1
    clear hc1
    obtain ⟨W, hW⟩ : ∃ W, W = (w.alloc (.cells #[.int .i64 gr.p, .int .i64 gr.q, .int .i64 gr.g] 24)).alloc (.cells #[.int .i64 bh, (.slice bva bvn bvc)] 49) := ⟨_, rfl⟩
    have HB : Hid (Below w.heap.size w W) := by unfold Hid; rw [hW]; (repeat (first | exact Below.refl _ _ | assumption | refine Below.drew ?_ | refine Below.alloc ?_ (by first | (simp; done) | (simp; omega)) _ | refine Below.setCell ?_ (by first | (simp; done) | (simp; omega)) _))
    have c0_0 : W.cell? ⟨w.heap.size, 0, none⟩ = some (.int .i64 gr.p) := by rw [hW]; simp [go_sem]
    have c0_1 : W.cell? ⟨w.heap.size, 1, none⟩ = some (.int .i64 gr.q) := by rw [hW]; simp [go_sem]
    have c0_2 : W.cell? ⟨w.heap.size, 2, none⟩ = some (.int .i64 gr.g) := by rw [hW]; simp [go_sem]
    have c1_0 : W.cell? ⟨w.heap.size + 1, 0, none⟩ = some (.int .i64 bh) := by rw [hW]; simp [go_sem]
    have c1_1 : W.cell? ⟨w.heap.size + 1, 1, none⟩ = some ((.slice bva bvn bvc)) := by rw [hW]; simp [go_sem]
    have HSW : Hid (W.heap.size = w.heap.size + 2) := by unfold Hid; rw [hW]; simp
    go_enter Try.func92, Try.ntmps92
    go_wp2_with fail
    rw [← hW]
    clear hW
    have hc : Below W.heap.size W W := Below.refl _ _
    go_wp2_with fail
    refine (spec_l2Good gr _).mono ?_
    rintro e u1 ⟨rfl, hq1⟩
    replace hc := Below.next hc hq1
    replace c0_0 := box_at c0_0 hq1
    replace c0_1 := box_at c0_1 hq1
    replace c0_2 := box_at c0_2 hq1
    replace c1_0 := box_at c1_0 hq1
    replace c1_1 := box_at c1_1 hq1
    clear hq1
    rw [Hhc1.out]
    go_wp2_with fail
    go_ret
    exact ⟨rfl, HB.out.trans (hc.mono HB.out.size)⟩
  | true =>
    have HG := Lib.hid (goodG_ok hc1)
    cases hc2 : (bh != 1) with
    | false =>
      have HV : Hid ((.bool (baB gr bh bl) : Value) = .bool false) := by unfold Hid; simp [baB, hbB, hc1, hc2]
      rw [HV.out]
      have Hhc1 := Lib.hid hc1
      clear hc1
      obtain ⟨W, hW⟩ : ∃ W, W = (w.alloc (.cells #[.int .i64 gr.p, .int .i64 gr.q, .int .i64 gr.g] 24)).alloc (.cells #[.int .i64 bh, (.slice bva bvn bvc)] 49) := ⟨_, rfl⟩
      have HB : Hid (Below w.heap.size w W) := by unfold Hid; rw [hW]; (repeat (first | exact Below.refl _ _ | assumption | refine Below.drew ?_ | refine Below.alloc ?_ (by first | (simp; done) | (simp; omega)) _ | refine Below.setCell ?_ (by first | (simp; done) | (simp; omega)) _))
      have c0_0 : W.cell? ⟨w.heap.size, 0, none⟩ = some (.int .i64 gr.p) := by rw [hW]; simp [go_sem]
      have c0_1 : W.cell? ⟨w.heap.size, 1, none⟩ = some (.int .i64 gr.q) := by rw [hW]; simp [go_sem]
      have c0_2 : W.cell? ⟨w.heap.size, 2, none⟩ = some (.int .i64 gr.g) := by rw [hW]; simp [go_sem]
      have c1_0 : W.cell? ⟨w.heap.size + 1, 0, none⟩ = some (.int .i64 bh) := by rw [hW]; simp [go_sem]
      have c1_1 : W.cell? ⟨w.heap.size + 1, 1, none⟩ = some ((.slice bva bvn bvc)) := by rw [hW]; simp [go_sem]
      have HSW : Hid (W.heap.size = w.heap.size + 2) := by unfold Hid; rw [hW]; simp
      go_enter Try.func92, Try.ntmps92
      go_wp2_with fail
      rw [← hW]
      clear hW
      have hc : Below W.heap.size W W := Below.refl _ _
      go_wp2_with fail
      refine (spec_l2Good gr _).mono ?_
      rintro e u1 ⟨rfl, hq1⟩
      replace hc := Below.next hc hq1
      replace c0_0 := box_at c0_0 hq1
      replace c0_1 := box_at c0_1 hq1
      replace c0_2 := box_at c0_2 hq1
      replace c1_0 := box_at c1_0 hq1
      replace c1_1 := box_at c1_1 hq1
      clear hq1
      rw [Hhc1.out]
      go_wp2_with fail
      go_ret
      exact ⟨rfl, HB.out.trans (hc.mono HB.out.size)⟩
    | true =>
      cases hc3 : [bh].all (elB gr) with
      | false =>
        have HV : Hid ((.bool (baB gr bh bl) : Value) = .bool false) := by unfold Hid; have qhc3 := hc3; simp only [List.all_cons, List.all_nil, Bool.and_true] at qhc3; simp [baB, hbB, hc1, hc2, qhc3]
        rw [HV.out]
        have Hhc1 := Lib.hid hc1
        clear hc1
        have Hhc3 := Lib.hid hc3
        clear hc3
        obtain ⟨W, hW⟩ : ∃ W, W = (w.alloc (.cells #[.int .i64 gr.p, .int .i64 gr.q, .int .i64 gr.g] 24)).alloc (.cells #[.int .i64 bh, (.slice bva bvn bvc)] 49) := ⟨_, rfl⟩
        have HB : Hid (Below w.heap.size w W) := by unfold Hid; rw [hW]; (repeat (first | exact Below.refl _ _ | assumption | refine Below.drew ?_ | refine Below.alloc ?_ (by first | (simp; done) | (simp; omega)) _ | refine Below.setCell ?_ (by first | (simp; done) | (simp; omega)) _))
        have c0_0 : W.cell? ⟨w.heap.size, 0, none⟩ = some (.int .i64 gr.p) := by rw [hW]; simp [go_sem]
        have c0_1 : W.cell? ⟨w.heap.size, 1, none⟩ = some (.int .i64 gr.q) := by rw [hW]; simp [go_sem]
        have c0_2 : W.cell? ⟨w.heap.size, 2, none⟩ = some (.int .i64 gr.g) := by rw [hW]; simp [go_sem]
        have c1_0 : W.cell? ⟨w.heap.size + 1, 0, none⟩ = some (.int .i64 bh) := by rw [hW]; simp [go_sem]
        have c1_1 : W.cell? ⟨w.heap.size + 1, 1, none⟩ = some ((.slice bva bvn bvc)) := by rw [hW]; simp [go_sem]
        have HSW : Hid (W.heap.size = w.heap.size + 2) := by unfold Hid; rw [hW]; simp
        go_enter Try.func92, Try.ntmps92
        go_wp2_with fail
        rw [← hW]
        clear hW
        have hc : Below W.heap.size W W := Below.refl _ _
        go_wp2_with fail
        refine (spec_l2Good gr _).mono ?_
        rintro e u1 ⟨rfl, hq1⟩
        replace hc := Below.next hc hq1
        replace c0_0 := box_at c0_0 hq1
        replace c0_1 := box_at c0_1 hq1
        replace c0_2 := box_at c0_2 hq1
        replace c1_0 := box_at c1_0 hq1
        replace c1_1 := box_at c1_1 hq1
        clear hq1
        rw [Hhc1.out]
        go_wp2_with fail
        refine (spec_gIs gr _ [bh] _ HG.out (OwnI.lit (B := 0) _ (Nat.zero_le _) (l := [bh]) (AllI64.cons ibh AllI64.nil) rfl (by simp [maxLen]) 1 rfl).ints).mono ?_
        rintro e u2 ⟨rfl, hq2⟩
        replace hq2 := Below.next (keep_al (Below.refl _ _) _) hq2
        replace hc := Below.next hc hq2
        replace c0_0 := box_at c0_0 hq2
        replace c0_1 := box_at c0_1 hq2
        replace c0_2 := box_at c0_2 hq2
        replace c1_0 := box_at c1_0 hq2
        replace c1_1 := box_at c1_1 hq2
        clear hq2
        rw [Hhc3.out]
        go_wp2_with fail
        go_ret
        exact ⟨rfl, HB.out.trans (hc.mono HB.out.size)⟩
      | true =>
        cases hc4 : decide ((bvn : Int) ≤ 24) with
        | false =>
          have HLN : Hid (decide (bl.length ≤ 24) = false) := by have e1 := Ebv.out; have q : ¬ (bvn : Int) ≤ 24 := of_decide_eq_false hc4; exact decide_eq_false (by omega)
          have HV : Hid ((.bool (baB gr bh bl) : Value) = .bool false) := by unfold Hid; have qhc3 := hc3; simp only [List.all_cons, List.all_nil, Bool.and_true] at qhc3; simp [baB, hbB, hc1, hc2, qhc3, hc4, HLN.out]
          rw [HV.out]
          have Hhc1 := Lib.hid hc1
          clear hc1
          have Hhc3 := Lib.hid hc3
          clear hc3
          obtain ⟨W, hW⟩ : ∃ W, W = (w.alloc (.cells #[.int .i64 gr.p, .int .i64 gr.q, .int .i64 gr.g] 24)).alloc (.cells #[.int .i64 bh, (.slice bva bvn bvc)] 49) := ⟨_, rfl⟩
          have HB : Hid (Below w.heap.size w W) := by unfold Hid; rw [hW]; (repeat (first | exact Below.refl _ _ | assumption | refine Below.drew ?_ | refine Below.alloc ?_ (by first | (simp; done) | (simp; omega)) _ | refine Below.setCell ?_ (by first | (simp; done) | (simp; omega)) _))
          have c0_0 : W.cell? ⟨w.heap.size, 0, none⟩ = some (.int .i64 gr.p) := by rw [hW]; simp [go_sem]
          have c0_1 : W.cell? ⟨w.heap.size, 1, none⟩ = some (.int .i64 gr.q) := by rw [hW]; simp [go_sem]
          have c0_2 : W.cell? ⟨w.heap.size, 2, none⟩ = some (.int .i64 gr.g) := by rw [hW]; simp [go_sem]
          have c1_0 : W.cell? ⟨w.heap.size + 1, 0, none⟩ = some (.int .i64 bh) := by rw [hW]; simp [go_sem]
          have c1_1 : W.cell? ⟨w.heap.size + 1, 1, none⟩ = some ((.slice bva bvn bvc)) := by rw [hW]; simp [go_sem]
          have HSW : Hid (W.heap.size = w.heap.size + 2) := by unfold Hid; rw [hW]; simp
          go_enter Try.func92, Try.ntmps92
          go_wp2_with fail
          rw [← hW]
          clear hW
          have hc : Below W.heap.size W W := Below.refl _ _
          go_wp2_with fail
          refine (spec_l2Good gr _).mono ?_
          rintro e u1 ⟨rfl, hq1⟩
          replace hc := Below.next hc hq1
          replace c0_0 := box_at c0_0 hq1
          replace c0_1 := box_at c0_1 hq1
          replace c0_2 := box_at c0_2 hq1
          replace c1_0 := box_at c1_0 hq1
          replace c1_1 := box_at c1_1 hq1
          clear hq1
          rw [Hhc1.out]
          go_wp2_with fail
          refine (spec_gIs gr _ [bh] _ HG.out (OwnI.lit (B := 0) _ (Nat.zero_le _) (l := [bh]) (AllI64.cons ibh AllI64.nil) rfl (by simp [maxLen]) 1 rfl).ints).mono ?_
          rintro e u2 ⟨rfl, hq2⟩
          replace hq2 := Below.next (keep_al (Below.refl _ _) _) hq2
          replace hc := Below.next hc hq2
          replace c0_0 := box_at c0_0 hq2
          replace c0_1 := box_at c0_1 hq2
          replace c0_2 := box_at c0_2 hq2
          replace c1_0 := box_at c1_0 hq2
          replace c1_1 := box_at c1_1 hq2
          clear hq2
          rw [Hhc3.out]
          go_wp2_with fail
          go_ret
          exact ⟨rfl, HB.out.trans (hc.mono HB.out.size)⟩
        | true =>
          have HLN : Hid (decide (bl.length ≤ 24) = true) := by have e1 := Ebv.out; have q : (bvn : Int) ≤ 24 := of_decide_eq_true hc4; exact decide_eq_true (by omega)
          cases hc5 : decide (1 ∈ bl) with
          | false =>
            have HV : Hid ((.bool (baB gr bh bl) : Value) = .bool (bl.all (elB gr))) := by unfold Hid; have qhc3 := hc3; simp only [List.all_cons, List.all_nil, Bool.and_true] at qhc3; simp [baB, hbB, hc1, hc2, qhc3, hc4, hc5, HLN.out]
            rw [HV.out]
            have Hhc1 := Lib.hid hc1
            clear hc1
            have Hhc3 := Lib.hid hc3
            clear hc3
            obtain ⟨W, hW⟩ : ∃ W, W = (w.alloc (.cells #[.int .i64 gr.p, .int .i64 gr.q, .int .i64 gr.g] 24)).alloc (.cells #[.int .i64 bh, (.slice bva bvn bvc)] 49) := ⟨_, rfl⟩
            have HB : Hid (Below w.heap.size w W) := by unfold Hid; rw [hW]; (repeat (first | exact Below.refl _ _ | assumption | refine Below.drew ?_ | refine Below.alloc ?_ (by first | (simp; done) | (simp; omega)) _ | refine Below.setCell ?_ (by first | (simp; done) | (simp; omega)) _))
            have c0_0 : W.cell? ⟨w.heap.size, 0, none⟩ = some (.int .i64 gr.p) := by rw [hW]; simp [go_sem]
            have c0_1 : W.cell? ⟨w.heap.size, 1, none⟩ = some (.int .i64 gr.q) := by rw [hW]; simp [go_sem]
            have c0_2 : W.cell? ⟨w.heap.size, 2, none⟩ = some (.int .i64 gr.g) := by rw [hW]; simp [go_sem]
            have c1_0 : W.cell? ⟨w.heap.size + 1, 0, none⟩ = some (.int .i64 bh) := by rw [hW]; simp [go_sem]
            have c1_1 : W.cell? ⟨w.heap.size + 1, 1, none⟩ = some ((.slice bva bvn bvc)) := by rw [hW]; simp [go_sem]
            have HSW : Hid (W.heap.size = w.heap.size + 2) := by unfold Hid; rw [hW]; simp
            go_enter Try.func92, Try.ntmps92
            go_wp2_with fail
            rw [← hW]
            clear hW
            have hc : Below W.heap.size W W := Below.refl _ _
            go_wp2_with fail
            refine (spec_l2Good gr _).mono ?_
            rintro e u1 ⟨rfl, hq1⟩
            replace hc := Below.next hc hq1
            replace c0_0 := box_at c0_0 hq1
            replace c0_1 := box_at c0_1 hq1
            replace c0_2 := box_at c0_2 hq1
            replace c1_0 := box_at c1_0 hq1
            replace c1_1 := box_at c1_1 hq1
            clear hq1
            rw [Hhc1.out]
            go_wp2_with fail
            refine (spec_gIs gr _ [bh] _ HG.out (OwnI.lit (B := 0) _ (Nat.zero_le _) (l := [bh]) (AllI64.cons ibh AllI64.nil) rfl (by simp [maxLen]) 1 rfl).ints).mono ?_
            rintro e u2 ⟨rfl, hq2⟩
            replace hq2 := Below.next (keep_al (Below.refl _ _) _) hq2
            replace hc := Below.next hc hq2
            replace c0_0 := box_at c0_0 hq2
            replace c0_1 := box_at c0_1 hq2
            replace c0_2 := box_at c0_2 hq2
            replace c1_0 := box_at c1_0 hq2
            replace c1_1 := box_at c1_1 hq2
            clear hq2
            rw [Hhc3.out]
            go_wp2_with fail
            refine (spec_l1Has _ bl 1 _ (Hbv.out.below (HB.out.trans (hc.mono HB.out.size)))).mono ?_
            rintro e u3 ⟨rfl, rfl⟩
            rw [hc5]
            go_wp2_with fail
            refine (spec_gIs gr _ bl _ HG.out (Hbv.out.below (HB.out.trans (hc.mono HB.out.size)))).mono ?_
            rintro e u4 ⟨rfl, hq4⟩
            replace hc := Below.next hc hq4
            replace c0_0 := box_at c0_0 hq4
            replace c0_1 := box_at c0_1 hq4
            replace c0_2 := box_at c0_2 hq4
            replace c1_0 := box_at c1_0 hq4
            replace c1_1 := box_at c1_1 hq4
            clear hq4
            go_wp2_with fail
            go_ret
            exact ⟨rfl, HB.out.trans (hc.mono HB.out.size)⟩
          | true =>
            have HV : Hid ((.bool (baB gr bh bl) : Value) = .bool false) := by unfold Hid; have qhc3 := hc3; simp only [List.all_cons, List.all_nil, Bool.and_true] at qhc3; simp [baB, hbB, hc1, hc2, qhc3, hc4, hc5, HLN.out]
            rw [HV.out]
            have Hhc1 := Lib.hid hc1
            clear hc1
            have Hhc3 := Lib.hid hc3
            clear hc3
            obtain ⟨W, hW⟩ : ∃ W, W = (w.alloc (.cells #[.int .i64 gr.p, .int .i64 gr.q, .int .i64 gr.g] 24)).alloc (.cells #[.int .i64 bh, (.slice bva bvn bvc)] 49) := ⟨_, rfl⟩
            have HB : Hid (Below w.heap.size w W) := by unfold Hid; rw [hW]; (repeat (first | exact Below.refl _ _ | assumption | refine Below.drew ?_ | refine Below.alloc ?_ (by first | (simp; done) | (simp; omega)) _ | refine Below.setCell ?_ (by first | (simp; done) | (simp; omega)) _))
            have c0_0 : W.cell? ⟨w.heap.size, 0, none⟩ = some (.int .i64 gr.p) := by rw [hW]; simp [go_sem]
            have c0_1 : W.cell? ⟨w.heap.size, 1, none⟩ = some (.int .i64 gr.q) := by rw [hW]; simp [go_sem]
            have c0_2 : W.cell? ⟨w.heap.size, 2, none⟩ = some (.int .i64 gr.g) := by rw [hW]; simp [go_sem]
            have c1_0 : W.cell? ⟨w.heap.size + 1, 0, none⟩ = some (.int .i64 bh) := by rw [hW]; simp [go_sem]
            have c1_1 : W.cell? ⟨w.heap.size + 1, 1, none⟩ = some ((.slice bva bvn bvc)) := by rw [hW]; simp [go_sem]
            have HSW : Hid (W.heap.size = w.heap.size + 2) := by unfold Hid; rw [hW]; simp
            go_enter Try.func92, Try.ntmps92
            go_wp2_with fail
            rw [← hW]
            clear hW
            have hc : Below W.heap.size W W := Below.refl _ _
            go_wp2_with fail
            refine (spec_l2Good gr _).mono ?_
            rintro e u1 ⟨rfl, hq1⟩
            replace hc := Below.next hc hq1
            replace c0_0 := box_at c0_0 hq1
            replace c0_1 := box_at c0_1 hq1
            replace c0_2 := box_at c0_2 hq1
            replace c1_0 := box_at c1_0 hq1
            replace c1_1 := box_at c1_1 hq1
            clear hq1
            rw [Hhc1.out]
            go_wp2_with fail
            refine (spec_gIs gr _ [bh] _ HG.out (OwnI.lit (B := 0) _ (Nat.zero_le _) (l := [bh]) (AllI64.cons ibh AllI64.nil) rfl (by simp [maxLen]) 1 rfl).ints).mono ?_
            rintro e u2 ⟨rfl, hq2⟩
            replace hq2 := Below.next (keep_al (Below.refl _ _) _) hq2
            replace hc := Below.next hc hq2
            replace c0_0 := box_at c0_0 hq2
            replace c0_1 := box_at c0_1 hq2
            replace c0_2 := box_at c0_2 hq2
            replace c1_0 := box_at c1_0 hq2
            replace c1_1 := box_at c1_1 hq2
            clear hq2
            rw [Hhc3.out]
            go_wp2_with fail
            refine (spec_l1Has _ bl 1 _ (Hbv.out.below (HB.out.trans (hc.mono HB.out.size)))).mono ?_
            rintro e u3 ⟨rfl, rfl⟩
            rw [hc5]
            go_wp2_with fail
            go_ret
            exact ⟨rfl, HB.out.trans (hc.mono HB.out.size)⟩
theorem hbB_cons (gr : GroupD) (bh : Int) (bl : List Int) : (decide (bl.length ≤ 24) && (bh :: bl).all fun x => x != 1 && elB gr x) = hbB gr bh bl := by
  unfold hbB
  rw [List.all_cons]
  have h : (bl.all fun x => x != 1 && elB gr x) = ((!decide (1 ∈ bl)) && bl.all (elB gr)) := by
    induction bl with
    | nil => simp
    | cons a l ih =>
      rw [List.all_cons, ih, List.all_cons, Bool.eq_iff_iff]
      simp only [Bool.and_eq_true, bne_iff_ne, Bool.not_eq_true', decide_eq_false_iff_not, List.mem_cons, not_or]
      constructor
      · rintro ⟨⟨h1, h2⟩, h3, h4⟩; exact ⟨⟨fun e => h1 e.symm, h3⟩, h2, h4⟩
      · rintro ⟨⟨h1, h2⟩, h3, h4⟩; exact ⟨⟨fun e => h1 e.symm, h3⟩, h2, h4⟩
  rw [h]
  cases (bh != 1) <;> cases elB gr bh <;> cases decide (bl.length ≤ 24) <;> simp
theorem wpList_append_intsG {ops : Array Oper} {rest : List Oper} {o : Oper} {a : Act} {w : World} {Q : Exit → Act → World → Prop} (hg : Region.wanted o (yielded ops a.tmps) = true) (s x : Operand)
    (ho : o.op = .call { callee := .builtin .append, args := #[s, x], argTypes := #[42, 42] })
    (B : Nat) (v y : Value) (l m : List Int) (hs : a.eval s = v) (hown : OwnI w B v l) (hx : a.eval x = y) (hy : Ints w y m) (hlen : l.length + m.length ≤ 1000000000000) (hB : B ≤ w.heap.size)
    (hK : ∀ v' w', OwnI w' B v' (l ++ m) → w.grownBy w' v.ownBlock → wpList Try.prog ops Q rest (a.put o.dst v') w') : wpList Try.prog ops Q (o :: rest) a w := by
  obtain ⟨v', w', hr, h1, h2⟩ := run_append_ints (t := 42) rfl hown hy hlen hB o.type
  refine wpList_step fun K hK' => ?_
  rw [if_pos hg]
  unfold Oper.wp execOp
  simp only [ho, resolve, invoke, builtin, Sem.run_bind, Sem.run_pure, Result.andThen_ok, List.map_toArray, List.map_cons, List.map_nil, hs, hx, hr]
  exact hK' _ _ (hK v' w' h1 h2)
set_option maxHeartbeats 1000000 in
theorem impl_hasBases1 (gr : GroupD) (x : Int) (b : Nat) (w : World) (hg : OkG gr) (hx : BoxN w b 24 [.int .i64 gr.p, .int .i64 gr.q, .int .i64 gr.g]) :
    Calls Try.prog 190 #[.int .i64 x, .pointer (some ⟨b, 0, none⟩)] w fun e w' => e = .returned (.bool (x != 1 && elB gr x)) ∧ Below w.heap.size w w' := by
  have HG := Lib.hid hg
  clear hg
  have e0 := hx.cell (i := 0) rfl
  have e1 := hx.cell (i := 1) rfl
  have e2 := hx.cell (i := 2) rfl
  clear hx
  cases h1 : (x != 1) with
  | false =>
    go_enter Try.func190, Try.ntmps190
    go_wp2_with fail
    go_ret
    exact ⟨ret_bool (by simp), Below.refl _ _⟩
  | true =>
    go_enter Try.func190, Try.ntmps190
    go_wp2_with fail
    refine (impl_has gr x _ HG.out).mono ?_
    rintro e w1 ⟨rfl, hb1⟩
    go_wp2_with fail
    go_ret
    exact ⟨ret_bool (by simp), hb1⟩
set_option maxRecDepth 100000 in
set_option maxHeartbeats 2000000 in
theorem impl_hasBases (gr : GroupD) (bh : Int) (bv : Value) (bl : List Int) (w : World) (hg : OkG gr) (hb : Ints w bv bl) (ibh : I64 bh) :
    Calls Try.prog 152 #[.agg #[.int .i64 gr.p, .int .i64 gr.q, .int .i64 gr.g], .agg #[.int .i64 bh, bv]] w fun e w' => e = .returned (.bool (hbB gr bh bl)) ∧ Below w.heap.size w w' := by
  have HEQ := Lib.hid (hbB_cons gr bh bl)
  have HG := Lib.hid hg
  clear hg
  obtain ⟨bva, bvn, bvc, rfl⟩ := hb.shape
  have Ebv := Lib.hid hb.len
  have Hbv := Lib.hid hb
  clear hb
  rw [← HEQ.out]
  by_cases hn : (bvn : Int) ≤ 24
  · have hd : decide ((bvn : Int) ≤ 24) = true := decide_eq_true hn
    have hd2 : decide (bl.length ≤ 24) = true := decide_eq_true (by have := Ebv.out; omega)
    rw [hd2, Bool.true_and]
    clear hd2
    have HLL : Hid (bl.length ≤ 24) := by have := Ebv.out; unfold Hid; omega
    have HOL : Hid (OwnI (((w.alloc (.cells #[.int .i64 gr.p, .int .i64 gr.q, .int .i64 gr.g] 24)).alloc (.cells #[.int .i64 bh, .slice bva bvn bvc] 49)).alloc (.cells #[.int .i64 bh] 3)) (w.heap.size + 1 + 1) (.slice (some ⟨w.heap.size + 1 + 1, 0, none⟩) 1 1) [bh]) := by unfold Hid; have h := OwnI.lit (B := w.heap.size + 1 + 1) ((w.alloc (.cells #[.int .i64 gr.p, .int .i64 gr.q, .int .i64 gr.g] 24)).alloc (.cells #[.int .i64 bh, .slice bva bvn bvc] 49)) (by simp) (cs := #[.int .i64 bh]) (l := [bh]) (AllI64.one ibh) rfl (by simp [maxLen]) 1 rfl; simpa using h
    go_enter Try.func152, Try.ntmps152
    go_wp2_with (at_builtin; refine wpList_append_intsG (by kernel_rfl) _ _ rfl (w.heap.size + 1 + 1) _ _ [bh] bl rfl HOL.out rfl (by exact Hbv.out.below (by (repeat (first | exact Below.refl _ _ | assumption | refine Below.drew ?_ | refine Below.alloc ?_ (by first | (simp; done) | (simp; omega)) _ | refine Below.setCell ?_ (by first | (simp; done) | (simp; omega)) _)))) (by have := HLL.out; first | omega | (simp; done) | (simp; omega)) (by first | (simp; done) | (simp; omega) | omega) ?_; intro v4 w4 hown4 hgr4)
    have hb4 := OwnI.grown HOL.out hgr4 (by first | (simp; done) | (simp; omega) | omega)
    have HXE : Hid (BoxN w4 w.heap.size 24 [.int .i64 gr.p, .int .i64 gr.q, .int .i64 gr.g]) := (hb4.block w.heap.size (by omega)).trans (((BoxN.new w _ _).alloc _).alloc _)
    have HBB : Hid (Below w.heap.size w w4) := (show Below w.heap.size w _ by (repeat (first | exact Below.refl _ _ | assumption | refine Below.drew ?_ | refine Below.alloc ?_ (by first | (simp; done) | (simp; omega)) _ | refine Below.setCell ?_ (by first | (simp; done) | (simp; omega)) _))).trans (hb4.mono (by omega))
    have HO := Lib.hid hown4
    clear hb4 hown4 hgr4
    have HD : Hid (Decides w4 190 #[.pointer (some ⟨w.heap.size, 0, none⟩)] (fun x => x != 1 && elB gr x)) := ⟨Try.call190, fun x wr hx hb => impl_hasBases1 gr x _ wr HG.out (HXE.out.below hb)⟩
    go_wp2_with fail
    refine (impl_areAll _ (bh :: bl) _ _ (fun x => x != 1 && elB gr x) _ (by simpa using HO.out.ints) HD.out).mono ?_
    rintro e w5 ⟨rfl, hb5⟩
    go_wp2_with fail
    go_ret
    exact ⟨rfl, HBB.out.trans (hb5.mono HBB.out.size)⟩
  · have hd : decide ((bvn : Int) ≤ 24) = false := decide_eq_false hn
    have hd2 : decide (bl.length ≤ 24) = false := decide_eq_false (by have := Ebv.out; omega)
    rw [hd2, Bool.false_and]
    clear hd2
    go_enter Try.func152, Try.ntmps152
    go_wp2_with fail
    go_ret
    exact ⟨rfl, by (repeat (first | exact Below.refl _ _ | assumption | refine Below.drew ?_ | refine Below.alloc ?_ (by first | (simp; done) | (simp; omega)) _ | refine Below.setCell ?_ (by first | (simp; done) | (simp; omega)) _))⟩
set_option maxRecDepth 100000 in
set_option maxHeartbeats 2000000 in
theorem impl_IsValidBases (gr : GroupD) (bh : Int) (bv : Value) (bl : List Int) (w : World) (hb : Ints w bv bl) (ibh : I64 bh) :
    Calls Try.prog 84 #[.agg #[.int .i64 gr.p, .int .i64 gr.q, .int .i64 gr.g], .agg #[.int .i64 bh, bv]] w fun e w' => e = .returned (.bool (baB gr bh bl)) ∧ Below w.heap.size w w' := by
  obtain ⟨bva, bvn, bvc, rfl⟩ := hb.shape
  have Ebv := Lib.hid hb.len
  have Kbv := Lib.hid hb.capMax
  have Hbv := Lib.hid hb
  clear hb
  cases hc1 : goodG gr with
  | false =>
    have HV : Hid ((.bool (baB gr bh bl) : Value) = .bool false) := by unfold Hid; simp [baB, hc1]
    rw [HV.out]
    have Hhc1 := Lib.hid hc1
    clear hc1
    obtain ⟨W, hW⟩ : ∃ W, W = (w.alloc (.cells #[.int .i64 gr.p, .int .i64 gr.q, .int .i64 gr.g] 24)).alloc (.cells #[.int .i64 bh, (.slice bva bvn bvc)] 49) := ⟨_, rfl⟩
    have HB : Hid (Below w.heap.size w W) := by unfold Hid; rw [hW]; (repeat (first | exact Below.refl _ _ | assumption | refine Below.drew ?_ | refine Below.alloc ?_ (by first | (simp; done) | (simp; omega)) _ | refine Below.setCell ?_ (by first | (simp; done) | (simp; omega)) _))
    have c0_0 : W.cell? ⟨w.heap.size, 0, none⟩ = some (.int .i64 gr.p) := by rw [hW]; simp [go_sem]
    have c0_1 : W.cell? ⟨w.heap.size, 1, none⟩ = some (.int .i64 gr.q) := by rw [hW]; simp [go_sem]
    have c0_2 : W.cell? ⟨w.heap.size, 2, none⟩ = some (.int .i64 gr.g) := by rw [hW]; simp [go_sem]
    have c1_0 : W.cell? ⟨w.heap.size + 1, 0, none⟩ = some (.int .i64 bh) := by rw [hW]; simp [go_sem]
    have c1_1 : W.cell? ⟨w.heap.size + 1, 1, none⟩ = some ((.slice bva bvn bvc)) := by rw [hW]; simp [go_sem]
    have HSW : Hid (W.heap.size = w.heap.size + 2) := by unfold Hid; rw [hW]; simp
    go_enter Try.func84, Try.ntmps84
    go_wp2_with fail
    rw [← hW]
    clear hW
    have hc : Below W.heap.size W W := Below.refl _ _
    go_wp2_with fail
    refine (impl_IsValidGroup gr _).mono ?_
    rintro e u1 ⟨rfl, hq1⟩
    replace hc := Below.next hc hq1
    replace c0_0 := box_at c0_0 hq1
    replace c0_1 := box_at c0_1 hq1
    replace c0_2 := box_at c0_2 hq1
    replace c1_0 := box_at c1_0 hq1
    replace c1_1 := box_at c1_1 hq1
    clear hq1
    rw [Hhc1.out]
    go_wp2_with fail
    go_ret
    exact ⟨rfl, HB.out.trans (hc.mono HB.out.size)⟩
  | true =>
    have HG := Lib.hid (goodG_ok hc1)
    have HV : Hid ((.bool (baB gr bh bl) : Value) = .bool (hbB gr bh bl)) := by unfold Hid; simp [baB, hc1]
    rw [HV.out]
    have Hhc1 := Lib.hid hc1
    clear hc1
    obtain ⟨W, hW⟩ : ∃ W, W = (w.alloc (.cells #[.int .i64 gr.p, .int .i64 gr.q, .int .i64 gr.g] 24)).alloc (.cells #[.int .i64 bh, (.slice bva bvn bvc)] 49) := ⟨_, rfl⟩
    have HB : Hid (Below w.heap.size w W) := by unfold Hid; rw [hW]; (repeat (first | exact Below.refl _ _ | assumption | refine Below.drew ?_ | refine Below.alloc ?_ (by first | (simp; done) | (simp; omega)) _ | refine Below.setCell ?_ (by first | (simp; done) | (simp; omega)) _))
    have c0_0 : W.cell? ⟨w.heap.size, 0, none⟩ = some (.int .i64 gr.p) := by rw [hW]; simp [go_sem]
    have c0_1 : W.cell? ⟨w.heap.size, 1, none⟩ = some (.int .i64 gr.q) := by rw [hW]; simp [go_sem]
    have c0_2 : W.cell? ⟨w.heap.size, 2, none⟩ = some (.int .i64 gr.g) := by rw [hW]; simp [go_sem]
    have c1_0 : W.cell? ⟨w.heap.size + 1, 0, none⟩ = some (.int .i64 bh) := by rw [hW]; simp [go_sem]
    have c1_1 : W.cell? ⟨w.heap.size + 1, 1, none⟩ = some ((.slice bva bvn bvc)) := by rw [hW]; simp [go_sem]
    have HSW : Hid (W.heap.size = w.heap.size + 2) := by unfold Hid; rw [hW]; simp
    go_enter Try.func84, Try.ntmps84
    go_wp2_with fail
    rw [← hW]
    clear hW
    have hc : Below W.heap.size W W := Below.refl _ _
    go_wp2_with fail
    refine (impl_IsValidGroup gr _).mono ?_
    rintro e u1 ⟨rfl, hq1⟩
    replace hc := Below.next hc hq1
    replace c0_0 := box_at c0_0 hq1
    replace c0_1 := box_at c0_1 hq1
    replace c0_2 := box_at c0_2 hq1
    replace c1_0 := box_at c1_0 hq1
    replace c1_1 := box_at c1_1 hq1
    clear hq1
    rw [Hhc1.out]
    go_wp2_with fail
    refine (impl_hasBases gr bh _ bl _ HG.out (Hbv.out.below (HB.out.trans (hc.mono HB.out.size))) ibh).mono ?_
    rintro e u2 ⟨rfl, hq2⟩
    replace hc := Below.next hc hq2
    replace c0_0 := box_at c0_0 hq2
    replace c0_1 := box_at c0_1 hq2
    replace c0_2 := box_at c0_2 hq2
    replace c1_0 := box_at c1_0 hq2
    replace c1_1 := box_at c1_1 hq2
    clear hq2
    go_wp2_with fail
    go_ret
    exact ⟨rfl, HB.out.trans (hc.mono HB.out.size)⟩
set_option maxRecDepth 100000 in
set_option maxHeartbeats 2000000 in
theorem spec_Commit (gr : GroupD) (bh : Int) (bv : Value) (bl : List Int) (m r : Int) (w : World) (hb : Ints w bv bl) (ibh : I64 bh) (hm : I64 m) (hr : I64 r) :
    Calls Try.prog 80 #[.agg #[.int .i64 gr.p, .int .i64 gr.q, .int .i64 gr.g], .agg #[.int .i64 bh, bv], .int .i64 m, .int .i64 r] w fun e w' => e = .returned (.tuple #[.int .i64 (cmR gr bh bl m r), .bool (cmB gr bh bl m r)]) ∧ Below w.heap.size w w' := by
  obtain ⟨bva, bvn, bvc, rfl⟩ := hb.shape
  have Ebv := Lib.hid hb.len
  have Kbv := Lib.hid hb.capMax
  have Hbv := Lib.hid hb
  clear hb
  cases hc1 : baB gr bh bl with
  | false =>
    have HV : Hid ((.tuple #[.int .i64 (cmR gr bh bl m r), .bool (cmB gr bh bl m r)] : Value) = .tuple #[.int .i64 0, .bool false]) := by unfold Hid; simp [cmR, cmB, hc1]
    rw [HV.out]
    have Hhc1 := Lib.hid hc1
    clear hc1
    obtain ⟨W, hW⟩ : ∃ W, W = (w.alloc (.cells #[.int .i64 gr.p, .int .i64 gr.q, .int .i64 gr.g] 24)).alloc (.cells #[.int .i64 bh, (.slice bva bvn bvc)] 49) := ⟨_, rfl⟩
    have HB : Hid (Below w.heap.size w W) := by unfold Hid; rw [hW]; (repeat (first | exact Below.refl _ _ | assumption | refine Below.drew ?_ | refine Below.alloc ?_ (by first | (simp; done) | (simp; omega)) _ | refine Below.setCell ?_ (by first | (simp; done) | (simp; omega)) _))
    have c0_0 : W.cell? ⟨w.heap.size, 0, none⟩ = some (.int .i64 gr.p) := by rw [hW]; simp [go_sem]
    have c0_1 : W.cell? ⟨w.heap.size, 1, none⟩ = some (.int .i64 gr.q) := by rw [hW]; simp [go_sem]
    have c0_2 : W.cell? ⟨w.heap.size, 2, none⟩ = some (.int .i64 gr.g) := by rw [hW]; simp [go_sem]
    have c1_0 : W.cell? ⟨w.heap.size + 1, 0, none⟩ = some (.int .i64 bh) := by rw [hW]; simp [go_sem]
    have c1_1 : W.cell? ⟨w.heap.size + 1, 1, none⟩ = some ((.slice bva bvn bvc)) := by rw [hW]; simp [go_sem]
    have HSW : Hid (W.heap.size = w.heap.size + 2) := by unfold Hid; rw [hW]; simp
    go_enter Try.func80, Try.ntmps80
    go_wp2_with fail
    rw [← hW]
    clear hW
    have hc : Below W.heap.size W W := Below.refl _ _
    go_wp2_with fail
    refine (spec_l9Good gr bh _ bl _ (Hbv.out.below (HB.out.trans (hc.mono HB.out.size))) ibh).mono ?_
    rintro e u1 ⟨rfl, hq1⟩
    replace hc := Below.next hc hq1
    replace c0_0 := box_at c0_0 hq1
    replace c0_1 := box_at c0_1 hq1
    replace c0_2 := box_at c0_2 hq1
    replace c1_0 := box_at c1_0 hq1
    replace c1_1 := box_at c1_1 hq1
    clear hq1
    rw [Hhc1.out]
    go_wp2_with fail
    go_ret2
    exact ⟨rfl, HB.out.trans (hc.mono HB.out.size)⟩
  | true =>
    have HBA := Lib.hid (baB_parts hc1)
    have HG := Lib.hid (goodG_ok HBA.out.1)
    have sbh : Small bh := elB_small HG.out HBA.out.2.1
    cases hc2 : [m, r].all (expB gr) with
    | false =>
      have HV : Hid ((.tuple #[.int .i64 (cmR gr bh bl m r), .bool (cmB gr bh bl m r)] : Value) = .tuple #[.int .i64 0, .bool false]) := by unfold Hid; have qhc2 := hc2; simp only [List.all_cons, List.all_nil, Bool.and_true] at qhc2; simp [cmR, cmB, hc1, qhc2]
      rw [HV.out]
      have Hhc1 := Lib.hid hc1
      clear hc1
      have Hhc2 := Lib.hid hc2
      clear hc2
      obtain ⟨W, hW⟩ : ∃ W, W = (w.alloc (.cells #[.int .i64 gr.p, .int .i64 gr.q, .int .i64 gr.g] 24)).alloc (.cells #[.int .i64 bh, (.slice bva bvn bvc)] 49) := ⟨_, rfl⟩
      have HB : Hid (Below w.heap.size w W) := by unfold Hid; rw [hW]; (repeat (first | exact Below.refl _ _ | assumption | refine Below.drew ?_ | refine Below.alloc ?_ (by first | (simp; done) | (simp; omega)) _ | refine Below.setCell ?_ (by first | (simp; done) | (simp; omega)) _))
      have c0_0 : W.cell? ⟨w.heap.size, 0, none⟩ = some (.int .i64 gr.p) := by rw [hW]; simp [go_sem]
      have c0_1 : W.cell? ⟨w.heap.size, 1, none⟩ = some (.int .i64 gr.q) := by rw [hW]; simp [go_sem]
      have c0_2 : W.cell? ⟨w.heap.size, 2, none⟩ = some (.int .i64 gr.g) := by rw [hW]; simp [go_sem]
      have c1_0 : W.cell? ⟨w.heap.size + 1, 0, none⟩ = some (.int .i64 bh) := by rw [hW]; simp [go_sem]
      have c1_1 : W.cell? ⟨w.heap.size + 1, 1, none⟩ = some ((.slice bva bvn bvc)) := by rw [hW]; simp [go_sem]
      have HSW : Hid (W.heap.size = w.heap.size + 2) := by unfold Hid; rw [hW]; simp
      go_enter Try.func80, Try.ntmps80
      go_wp2_with fail
      rw [← hW]
      clear hW
      have hc : Below W.heap.size W W := Below.refl _ _
      go_wp2_with fail
      refine (spec_l9Good gr bh _ bl _ (Hbv.out.below (HB.out.trans (hc.mono HB.out.size))) ibh).mono ?_
      rintro e u1 ⟨rfl, hq1⟩
      replace hc := Below.next hc hq1
      replace c0_0 := box_at c0_0 hq1
      replace c0_1 := box_at c0_1 hq1
      replace c0_2 := box_at c0_2 hq1
      replace c1_0 := box_at c1_0 hq1
      replace c1_1 := box_at c1_1 hq1
      clear hq1
      rw [Hhc1.out]
      go_wp2_with fail
      refine (spec_gExps gr _ [m, r] _ HG.out (OwnI.lit (B := 0) _ (Nat.zero_le _) (l := [m, r]) (AllI64.cons hm (AllI64.cons hr AllI64.nil)) rfl (by simp [maxLen]) 2 rfl).ints).mono ?_
      rintro e u2 ⟨rfl, hq2⟩
      replace hq2 := Below.next (keep_al (Below.refl _ _) _) hq2
      replace hc := Below.next hc hq2
      replace c0_0 := box_at c0_0 hq2
      replace c0_1 := box_at c0_1 hq2
      replace c0_2 := box_at c0_2 hq2
      replace c1_0 := box_at c1_0 hq2
      replace c1_1 := box_at c1_1 hq2
      clear hq2
      rw [Hhc2.out]
      go_wp2_with fail
      go_ret2
      exact ⟨rfl, HB.out.trans (hc.mono HB.out.size)⟩
    | true =>
      have HV : Hid ((.tuple #[.int .i64 (cmR gr bh bl m r), .bool (cmB gr bh bl m r)] : Value) = .tuple #[.int .i64 (coM gr bh m r), .bool true]) := by unfold Hid; have qhc2 := hc2; simp only [List.all_cons, List.all_nil, Bool.and_true] at qhc2; simp [cmR, cmB, hc1, qhc2]
      rw [HV.out]
      have Hhc1 := Lib.hid hc1
      clear hc1
      have Hhc2 := Lib.hid hc2
      clear hc2
      obtain ⟨W, hW⟩ : ∃ W, W = (w.alloc (.cells #[.int .i64 gr.p, .int .i64 gr.q, .int .i64 gr.g] 24)).alloc (.cells #[.int .i64 bh, (.slice bva bvn bvc)] 49) := ⟨_, rfl⟩
      have HB : Hid (Below w.heap.size w W) := by unfold Hid; rw [hW]; (repeat (first | exact Below.refl _ _ | assumption | refine Below.drew ?_ | refine Below.alloc ?_ (by first | (simp; done) | (simp; omega)) _ | refine Below.setCell ?_ (by first | (simp; done) | (simp; omega)) _))
      have c0_0 : W.cell? ⟨w.heap.size, 0, none⟩ = some (.int .i64 gr.p) := by rw [hW]; simp [go_sem]
      have c0_1 : W.cell? ⟨w.heap.size, 1, none⟩ = some (.int .i64 gr.q) := by rw [hW]; simp [go_sem]
      have c0_2 : W.cell? ⟨w.heap.size, 2, none⟩ = some (.int .i64 gr.g) := by rw [hW]; simp [go_sem]
      have c1_0 : W.cell? ⟨w.heap.size + 1, 0, none⟩ = some (.int .i64 bh) := by rw [hW]; simp [go_sem]
      have c1_1 : W.cell? ⟨w.heap.size + 1, 1, none⟩ = some ((.slice bva bvn bvc)) := by rw [hW]; simp [go_sem]
      have HSW : Hid (W.heap.size = w.heap.size + 2) := by unfold Hid; rw [hW]; simp
      go_enter Try.func80, Try.ntmps80
      go_wp2_with fail
      rw [← hW]
      clear hW
      have hc : Below W.heap.size W W := Below.refl _ _
      go_wp2_with fail
      refine (spec_l9Good gr bh _ bl _ (Hbv.out.below (HB.out.trans (hc.mono HB.out.size))) ibh).mono ?_
      rintro e u1 ⟨rfl, hq1⟩
      replace hc := Below.next hc hq1
      replace c0_0 := box_at c0_0 hq1
      replace c0_1 := box_at c0_1 hq1
      replace c0_2 := box_at c0_2 hq1
      replace c1_0 := box_at c1_0 hq1
      replace c1_1 := box_at c1_1 hq1
      clear hq1
      rw [Hhc1.out]
      go_wp2_with fail
      refine (spec_gExps gr _ [m, r] _ HG.out (OwnI.lit (B := 0) _ (Nat.zero_le _) (l := [m, r]) (AllI64.cons hm (AllI64.cons hr AllI64.nil)) rfl (by simp [maxLen]) 2 rfl).ints).mono ?_
      rintro e u2 ⟨rfl, hq2⟩
      replace hq2 := Below.next (keep_al (Below.refl _ _) _) hq2
      replace hc := Below.next hc hq2
      replace c0_0 := box_at c0_0 hq2
      replace c0_1 := box_at c0_1 hq2
      replace c0_2 := box_at c0_2 hq2
      replace c1_0 := box_at c1_0 hq2
      replace c1_1 := box_at c1_1 hq2
      clear hq2
      rw [Hhc2.out]
      go_wp2_with fail
      refine (spec_pCommit gr bh _ bl m r _ HG.out (Hbv.out.below (HB.out.trans (hc.mono HB.out.size))) sbh hm hr).mono ?_
      rintro e u3 ⟨rfl, hq3⟩
      replace hc := Below.next hc hq3
      replace c0_0 := box_at c0_0 hq3
      replace c0_1 := box_at c0_1 hq3
      replace c0_2 := box_at c0_2 hq3
      replace c1_0 := box_at c1_0 hq3
      replace c1_1 := box_at c1_1 hq3
      clear hq3
      go_wp2_with fail
      go_ret2
      exact ⟨rfl, HB.out.trans (hc.mono HB.out.size)⟩
theorem cmB_parts {gr : GroupD} {bh m r : Int} {bl : List Int} (h : cmB gr bh bl m r = true) : baB gr bh bl = true ∧ expB gr m = true ∧ expB gr r = true := by
  unfold cmB at h
  simp only [Bool.and_eq_true] at h
  exact ⟨h.1, h.2.1, h.2.2⟩
end Go.Proofs.Ytacpnphfopmofaa
namespace Go.Proofs.Ytacpnphfopmofaa
open Go.RowKit
set_option linter.unusedSimpArgs false
set_option linter.unusedVariables false

/-- what a round of Euclid's algorithm keeps: r and n are multiples of a (by x and y), the coefficients stay below m, a common divisor divides both -/
def EuInv (a m r n x y : Int) : Prop :=
  0 ≤ n ∧ 1 ≤ r ∧ r ≤ m ∧ n ≤ m ∧ (∃ u v : Int, 0 ≤ u ∧ 0 ≤ v ∧ u * n + v * r = m ∧ u ≤ m ∧ v ≤ m ∧ ((x = u ∧ y = -v) ∨ (x = -u ∧ y = v))) ∧ m ∣ x * a - r ∧ m ∣ y * a - n ∧ (∀ d : Int, d ∣ r → d ∣ n → d ∣ m ∧ d ∣ a)
theorem EuInv.start {a m : Int} (h0 : 0 ≤ a) (h1 : a ≤ m) (hm : 1 ≤ m) : EuInv a m m a 0 1 := by
  refine ⟨h0, hm, Int.le_refl _, h1, ⟨0, 1, by omega, by omega, by omega, by omega, hm, .inr ⟨rfl, rfl⟩⟩, ⟨-1, by omega⟩, ⟨0, by omega⟩, fun d h2 h3 => ⟨h2, h3⟩⟩
theorem EuInv.quo {a m r n x y : Int} (h : EuInv a m r n x y) (hn : 0 < n) : 0 ≤ r / n ∧ r / n ≤ m ∧ 0 ≤ r / n * n ∧ r / n * n ≤ r ∧ r - r / n * n < n ∧ 0 ≤ r - r / n * n := by
  obtain ⟨h0, h1, h2, h3, _⟩ := h
  have e1 : 0 ≤ r / n := Int.ediv_nonneg (by omega) (by omega)
  have e2 : r / n * n ≤ r := Int.ediv_mul_le _ (by omega)
  have e3 : r - r / n * n = r % n := by have := Int.emod_def r n; rw [this, Int.mul_comm]
  have e4 := Int.emod_lt_of_pos r hn
  have e5 : r / n ≤ r := Int.ediv_le_self _ (by omega)
  exact ⟨e1, by omega, Int.mul_nonneg e1 (by omega), e2, by omega, by omega⟩
theorem EuInv.step {a m r n x y : Int} (h : EuInv a m r n x y) (hn : 0 < n) : EuInv a m n (r - r / n * n) y (x - r / n * y) ∧ -m ≤ r / n * y ∧ r / n * y ≤ m := by
  obtain ⟨q0, q1, q2, q3, q4, q5⟩ := h.quo hn
  obtain ⟨h0, h1, h2, h3, ⟨u, v, h4, h5, h6, h7, h8, h9⟩, h10, h11, h12⟩ := h
  obtain ⟨q, hq⟩ : ∃ q, r / n = q := ⟨_, rfl⟩
  rw [hq] at q0 q1 q2 q3 q4 q5 ⊢
  have hqv : 0 ≤ q * v := Int.mul_nonneg q0 h5
  have e1 : (u + q * v) * n + v * (r - q * n) = u * n + v * r - (v * (q * n) - q * v * n) := by
    rw [Int.add_mul, Int.mul_sub]; omega
  have e2 : v * (q * n) = q * v * n := by ac_rfl
  have e3 : v * n + (u + q * v) * 0 = v * n := by omega
  -- the coefficients: v and u + q v
  have e4 : v * (r - q * n) + (u + q * v) * n = m := by rw [Int.add_comm, e1, e2]; omega
  have e5 : u + q * v ≤ m := by
    have s1 : 0 ≤ v * (r - q * n) := Int.mul_nonneg h5 q5
    have s2 : (u + q * v) * 1 ≤ (u + q * v) * n := Int.mul_le_mul_of_nonneg_left (by omega) (by omega)
    omega
  have e6 : -m ≤ q * y ∧ q * y ≤ m := by
    rcases h9 with ⟨_, rfl⟩ | ⟨_, rfl⟩
    · rw [Int.mul_neg]; omega
    · omega
  refine ⟨⟨q5, by omega, h3, by omega, ⟨v, u + q * v, h5, by omega, e4, h8, e5, ?_⟩, h11, ?_, fun d d1 d2 => ?_⟩, e6.1, e6.2⟩
  · rcases h9 with ⟨rfl, rfl⟩ | ⟨rfl, rfl⟩
    · exact .inr ⟨rfl, by rw [Int.mul_neg]; omega⟩
    · exact .inl ⟨rfl, by omega⟩
  · obtain ⟨c1, k1⟩ := h10
    obtain ⟨c2, k2⟩ := h11
    refine ⟨c1 - q * c2, ?_⟩
    have s1 : (x - q * y) * a - (r - q * n) = (x * a - r) - q * (y * a - n) := by
      rw [Int.sub_mul, Int.mul_sub, Int.mul_assoc]; omega
    rw [s1, k1, k2, Int.mul_sub]
    congr 1
    ac_rfl
  · refine h12 d ?_ d1
    obtain ⟨c1, k1⟩ := d1
    obtain ⟨c2, k2⟩ := d2
    refine ⟨c2 + q * c1, ?_⟩
    rw [Int.mul_add]
    have s1 : d * (q * c1) = q * n := by rw [k1]; ac_rfl
    omega
theorem Prm.gcd_one {a m r : Int} (hm : Prm m) (h0 : 0 < a) (h1 : a < m) (hr : 1 ≤ r) (h2 : r ∣ m) (h3 : r ∣ a) : r = 1 := by
  by_cases h : r = 1
  · exact h
  · exfalso
    have hra : r ≤ a := Int.le_of_dvd h0 h3
    obtain ⟨c, hc⟩ := h2
    have hc1 : 1 < c := by
      have s0 : 0 < c := by
        apply Int.not_le.1
        intro hle
        have s2 : r * c ≤ r * 0 := Int.mul_le_mul_of_nonneg_left hle (by omega)
        have := hm.1
        omega
      have s1 : c ≠ 1 := fun e => by rw [e] at hc; omega
      omega
    by_cases hle : r * r ≤ m
    · exact hm.2 r (by omega) hle (Int.emod_eq_zero_of_dvd ⟨c, hc⟩)
    · have hcr : c * c ≤ m := by
        have s1 : c ≤ r := by
          apply Int.not_lt.1
          intro hlt
          have : r * r ≤ r * c := Int.mul_le_mul_of_nonneg_left (by omega) (by omega)
          omega
        rw [hc]
        exact Int.mul_le_mul_of_nonneg_right s1 (by omega)
      exact hm.2 c (by omega) hcr (Int.emod_eq_zero_of_dvd ⟨r, by rw [hc, Int.mul_comm]⟩)
/-- the inverse of an exponent, found by Euclid's algorithm -/
theorem EuInv.done {a m r x y : Int} (h : EuInv a m r 0 x y) (hm : Prm m) (h0 : 0 < a) (h1 : a < m) : r = 1 ∧ a * (x % m) % m = 1 := by
  obtain ⟨_, h2, _, _, _, h3, _, h4⟩ := h
  obtain ⟨d1, d2⟩ := h4 r (Int.dvd_refl _) (Int.dvd_zero _)
  have hr := hm.gcd_one h0 h1 h2 d1 d2
  subst hr
  refine ⟨rfl, ?_⟩
  obtain ⟨c, hc⟩ := h3
  have hm2 := hm.1
  rw [emod_mul_right, Int.mul_comm, show x * a = 1 + m * c by omega, Int.add_mul_emod_self_left]
  exact Int.emod_eq_of_lt (by omega) (by omega)
theorem EuInv.ends {a m : Int} (hm : Prm m) (h0 : 0 < a) (h1 : a < m) : ∀ (k : Nat) (r n x y : Int), n.toNat ≤ k → EuInv a m r n x y → ∃ z, a * z % m = 1
  | 0, r, n, x, y, hk, h => by
    have h2 := h.1
    have e : n = 0 := by omega
    rw [e] at h
    exact ⟨_, (h.done hm h0 h1).2⟩
  | k + 1, r, n, x, y, hk, h => by
    have h2 := h.1
    by_cases e : n = 0
    · rw [e] at h
      exact ⟨_, (h.done hm h0 h1).2⟩
    · have h3 := h.quo (by omega)
      have h4 := (h.step (by omega)).1
      exact EuInv.ends hm h0 h1 k _ _ _ _ (by omega) h4
theorem inverse_is {a m : Int} (hm : Prm m) (h0 : 0 < a) (h1 : a < m) : ∃ z, a * z % m = 1 :=
  EuInv.ends hm h0 h1 a.toNat m a 0 1 (Nat.le_refl _) (EuInv.start (by omega) (by omega) (by have := hm.1; omega))
theorem inverse_bd {a m : Int} (hm : Prm m) (h0 : 0 < a) (h1 : a < m) : ∃ z, (0 ≤ z ∧ z < m) ∧ a * z % m = 1 := by
  obtain ⟨z, hz⟩ := inverse_is hm h0 h1
  have := hm.1
  exact ⟨z % m, ⟨Int.emod_nonneg _ (by omega), Int.emod_lt_of_pos _ (by omega)⟩, by rw [emod_mul_right]; exact hz⟩
open Classical in
/-- the inverse of an exponent -/
noncomputable def invQ (a m : Int) : Int := if h : ∃ z, (0 ≤ z ∧ z < m) ∧ a * z % m = 1 then h.choose else 0
theorem invQ_is {a m : Int} (hm : Prm m) (h0 : 0 < a) (h1 : a < m) : (0 ≤ invQ a m ∧ invQ a m < m) ∧ a * invQ a m % m = 1 := by
  have h := inverse_bd hm h0 h1
  unfold invQ
  rw [dif_pos h]
  exact h.choose_spec
theorem invQ_one {a m y : Int} (hm : Prm m) (h0 : 0 < a) (h1 : a < m) (hy : 0 ≤ y ∧ y < m) (h : a * y % m = 1) : y = invQ a m := by
  obtain ⟨hz, hz2⟩ := invQ_is hm h0 h1
  obtain ⟨z, e⟩ : ∃ z, invQ a m = z := ⟨_, rfl⟩
  rw [e] at hz hz2 ⊢
  have e1 : (y * (a * z)) % m = y := by rw [← emod_mul_right, hz2, Int.mul_one]; exact Int.emod_eq_of_lt hy.1 hy.2
  have e2 : (y * (a * z)) % m = z := by
    rw [show y * (a * z) = (a * y) * z by ac_rfl, ← emod_mul_left, h, Int.one_mul]; exact Int.emod_eq_of_lt hz.1 hz.2
  rw [← e1, e2]
theorem EuInv.inv {a m r x y : Int} (h : EuInv a m r 0 x y) (hm : Prm m) (h0 : 0 < a) (h1 : a < m) : r = 1 ∧ x % m = invQ a m := by
  obtain ⟨e1, e2⟩ := h.done hm h0 h1
  exact ⟨e1, invQ_one hm h0 h1 ⟨Int.emod_nonneg _ (by omega), Int.emod_lt_of_pos _ (by omega)⟩ e2⟩
end Go.Proofs.Ytacpnphfopmofaa
/- The struct Proof as a kind (printed by genkind.py): its data, its row, the walks of the laws' helpers. -/

namespace Go.Proofs.Ytacpnphfopmofaa
open Go.RowKit
set_option linter.unusedSimpArgs false
set_option linter.unusedVariables false

structure ProofD where
  c : List Int
  h : List Int
  r : List Int
deriving DecidableEq
abbrev rProof : RowK ProofD := rMap (rS sInts (rS sInts (rS sInts rNil))) (fun d => (d.c, (d.h, (d.r, ()))))
theorem rdProof {w : World} {v : Value} {d : ProofD} : (kS rProof).rd w v d ↔ ∃ a0 n0 c0 a1 n1 c1 a2 n2 c2, v = .agg #[.slice a0 n0 c0, .slice a1 n1 c1, .slice a2 n2 c2] ∧ sInts.rd w (.slice a0 n0 c0) d.c ∧ sInts.rd w (.slice a1 n1 c1) d.h ∧ sInts.rd w (.slice a2 n2 c2) d.r := by
  constructor
  · rintro ⟨_, rfl, ⟨v1, _, rfl, h2, ⟨v3, _, rfl, h4, ⟨v5, _, rfl, h6, rfl⟩⟩⟩⟩
    obtain ⟨_, _, _, rfl⟩ := sInts.sl h2
    obtain ⟨_, _, _, rfl⟩ := sInts.sl h4
    obtain ⟨_, _, _, rfl⟩ := sInts.sl h6
    exact ⟨_, _, _, _, _, _, _, _, _, rfl, h2, h4, h6⟩
  · rintro ⟨a0, n0, c0, a1, n1, c1, a2, n2, c2, rfl, g0, g1, g2⟩
    exact ⟨_, rfl, ⟨_, _, rfl, g0, ⟨_, _, rfl, g1, ⟨_, _, rfl, g2, rfl⟩⟩⟩⟩
end Go.Proofs.Ytacpnphfopmofaa
/- The struct Head as a kind (printed by genkind.py): its data, its row, the walks of the laws' helpers. -/


namespace Go.Proofs.Ytacpnphfopmofaa
open Go.RowKit
set_option linter.unusedSimpArgs false
set_option linter.unusedVariables false

end Go.Proofs.Ytacpnphfopmofaa
/- The struct Entry as a kind (printed by genkind.py): its data, its row, the walks of the laws' helpers. -/


namespace Go.Proofs.Ytacpnphfopmofaa
open Go.RowKit
set_option linter.unusedSimpArgs false
set_option linter.unusedVariables false

end Go.Proofs.Ytacpnphfopmofaa
namespace Go.Proofs.Ytacpnphfopmofaa
open Go.RowKit
set_option linter.unusedSimpArgs false
set_option linter.unusedVariables false

/-- the form of a proof: how many commits, challenges, responses, and that they are elements, exponents -/
def fmB (gr : GroupD) (d : ProofD) (a b c : Nat) : Bool := decide (d.c.length = a) && (decide (d.h.length = b) && (decide (d.r.length = c) && (d.c.all (elB gr) && (d.h.all (expB gr) && d.r.all (expB gr)))))
theorem list_two {l : List Int} (h : l.length = 2) : l = [nth l 0, nth l 1] := by
  match l, h with
  | [a, b], _ => rfl
theorem list_three {l : List Int} (h : l.length = 3) : l = [nth l 0, nth l 1, nth l 2] := by
  match l, h with
  | [a, b, c], _ => rfl
end Go.Proofs.Ytacpnphfopmofaa
