/- Draws: proofs of bits to be checked at once (printed by gen_drp2.py). -/
import Derived.Test.YtacpnphfopmofaaDrI2P
import Derived.Test.YtacpnphfopmofaaCip3P
import Derived.Test.YtacpnphfopmofaaRan2P
import Derived.Deep.CutRange
namespace Go.Proofs.Ytacpnphfopmofaa
open Go.RowKit
set_option linter.unusedSimpArgs false
set_option linter.unusedVariables false

theorem OwnI.here {w : World} {B : Nat} {v : Value} {l : List Int} (h : OwnI w B v l) : Ints w v l := h.ints
theorem OwnQ.here {w : World} {B : Nat} {z v : Value} {ds : List ProofD} (h : OwnQ w B z v ds) : RdR rProof w v ds := h.rd
theorem OwnQ.frame {w w' : World} {B : Nat} {z v : Value} {ds : List ProofD} (h : OwnQ w B z v ds) (hs : w.heap.size ≤ w'.heap.size) (hb : ∀ k, B ≤ k → k < w.heap.size → w'.heap[k]? = w.heap[k]?) : OwnQ w' B z v ds := by
  obtain ⟨css, hl, hO, hel⟩ := h
  refine ⟨css, hl, ownsRow_frame hO fun g hg => hb g (hO.lt g hg).1 (hO.lt g hg).2, fun i h1 h2 => ?_⟩
  obtain ⟨x, y, u, e, ⟨q1, p1⟩, ⟨q2, p2⟩, ⟨q3, p3⟩⟩ := hel i h1 h2
  exact ⟨x, y, u, e, ⟨q1.since hs hb, p1⟩, ⟨q2.since hs hb, p2⟩, ⟨q3.since hs hb, p3⟩⟩
theorem OwnQ.within {w w' : World} {B lo hi : Nat} {z v : Value} {ds : List ProofD} (h : OwnQ w B z v ds) (hw : Within lo hi w w') (hd : hi ≤ B) : OwnQ w' B z v ds := h.frame hw.size fun k hk hlt => hw.block k hlt (.inr (by omega))
theorem OwnI.withinR {w w' : World} {B lo hi : Nat} {v : Value} {l : List Int} (h : OwnI w B v l) (hw : Within lo hi w w') (hd : hi ≤ B) : OwnI w' B v l := h.since hw.size fun k hk hlt => hw.block k hlt (.inr (by omega))
theorem OwnI.setB {w : World} {B b : Nat} {v : Value} {l : List Int} (h : OwnI w B v l) (hb : ∀ k, v.ownBlock = some k → b ≠ k) (j : Nat) (x : Value) : OwnI (w.setCell ⟨b, j, none⟩ x) B v l :=
  h.kept (grownBy_setCell _ b j x) (by
    cases e : v.ownBlock with
    | none => exact .inl rfl
    | some k => exact .inr fun e2 => hb k e (by injection e2 with e3; exact e3.symm))
set_option maxRecDepth 100000 in
set_option maxHeartbeats 8000000 in
theorem spec_DrawBatchBits (v : Value) (w : World) (h : Bytes w v) :
    Calls Try.prog 21 #[v] w fun e w' => (∃ (P : Int) (Q : Int) (G : Int) (hr1 : Int) (vr1 : Value) (lr1 : List Int) (vr2 : Value) (lr2 : List Int) (vr3 : Value) (lr3 : List ProofD), e = .returned (.tuple #[.agg #[.int .i64 P, .int .i64 Q, .int .i64 G], .agg #[.int .i64 hr1, vr1], vr2, vr3]) ∧ GrB ⟨P, Q, G⟩ ∧ ((-10 ≤ hr1 ∧ hr1 ≤ 2000000010) ∧ (Ints w' vr1 lr1 ∧ lr1.length ≤ 26)) ∧ (Ints w' vr2 lr2 ∧ lr2.length ≤ 4) ∧ (RdR rProof w' vr3 lr3 ∧ lr3.length ≤ 4)) ∧ Below w.heap.size w w' := by
  obtain ⟨a, m, c, rfl, hk1, hk2, hv⟩ := h
  have HY : Hid (Bytes w (.slice a m c)) := ⟨a, m, c, rfl, hk1, hk2, hv⟩
  clear hv
  unfold maxLen at hk2
  obtain ⟨U, hU⟩ : ∃ U, U = (w.alloc (.cells #[.int .i64 0, .int .i64 0, .int .i64 0] 24)).alloc (.cells #[.int .i64 0, (.slice none 0 0)] 49) := ⟨_, rfl⟩
  have hbU : Below w.heap.size w U := by rw [hU]; (repeat (first | exact Below.refl _ _ | assumption | refine Below.drew ?_ | refine Below.alloc ?_ (by first | (simp; done) | (simp; omega)) _ | refine Below.setCell ?_ (by first | (simp; done) | (simp; omega)) _))
  have HX0 : Hid (BoxN U w.heap.size 24 [.int .i64 0, .int .i64 0, .int .i64 0]) := by unfold Hid; rw [hU]; have h := ((BoxN.new w [.int .i64 0, .int .i64 0, .int .i64 0] 24).alloc (.cells #[.int .i64 0, (.slice none 0 0)] 49)); simpa using h
  have HX1 : Hid (BoxN U (w.heap.size + 1) 49 [.int .i64 0, (.slice none 0 0)]) := by unfold Hid; rw [hU]; have h := (BoxN.new (w.alloc (.cells #[.int .i64 0, .int .i64 0, .int .i64 0] 24)) [.int .i64 0, (.slice none 0 0)] 49); simpa using h
  have hsU : U.heap.size = w.heap.size + 1 + 1 := by rw [hU]; simp
  obtain ⟨W, hW⟩ : ∃ W, W = U.alloc (.cells #[.slice a m c, .int .i64 0, .int .u64 0] 85) := ⟨_, rfl⟩
  have HC : Hid (Cur U W U.heap.size 0) := by unfold Hid; rw [hW]; exact Cur.new U (HY.out.below hbU)
  have hbW : Below U.heap.size U W := by rw [hW]; exact (Below.refl _ _).alloc (Nat.le_refl _) _
  have HBW := Lib.hid (Below.next hbU hbW)
  have HUB := Lib.hid hbW
  replace HX0 := Lib.hid (HX0.out.below hbW)
  replace HX1 := Lib.hid (HX1.out.below hbW)
  obtain ⟨g, hg⟩ : ∃ g, g = U.heap.size := ⟨_, rfl⟩
  have HSU : Hid (w.heap.size + 1 + 1 = g) := by unfold Hid; rw [hg, hsU]
  have HWS : Hid (W.heap.size = g + 1) := by unfold Hid; rw [hW, hg]; simp
  go_enter Try.func21, Try.ntmps21
  go_wp2_with fail
  rw [← hU, ← hW]
  rw [HSU.out]
  rw [← hg] at HC HUB
  have HUS : Hid (U.heap.size = g) := hg.symm
  have hwg : w.heap.size + 2 = g := HSU.out
  have hsW := HWS.out
  have HW := Lib.hid (Within.refl g (g + 1) W)
  have HUC : Hid (Below U.heap.size U W) := by unfold Hid; rw [HUS.out]; exact HUB.out
  clear hU hW hbU hbW hsU hg
  have z_0_0 := HX0.out.cell (i := 0) rfl
  have z_0_1 := HX0.out.cell (i := 1) rfl
  have z_0_2 := HX0.out.cell (i := 2) rfl
  have z_1_0 := HX1.out.cell (i := 0) rfl
  have z_1_1 := HX1.out.cell (i := 1) rfl
  try (go_wp2_with fail)
  clear z_0_0 z_0_1 z_0_2 z_1_0 z_1_1
  refine (spec_anyGroup U g _ _ HC.out (HW.out.belowOf HUC.out (Nat.le_of_eq HUS.out)) (by omega)).mono ?_
  rintro e u1 ⟨⟨P, Q, G, rfl, P1, Q1, G1⟩, hc, hw⟩
  have HGR : Hid (GrB ⟨P, Q, G⟩) := ⟨P1, Q1, G1⟩
  clear P1 Q1 G1
  have hsz1 := hw.size
  replace HX0 := Lib.hid (HX0.out.kept hw (.inl (by omega)))
  replace HX1 := Lib.hid (HX1.out.kept hw (.inl (by omega)))
  replace HW := Lib.hid (HW.out.trans hw)
  replace HC := Lib.hid hc
  clear hc hw
  have z_0_0 := HX0.out.cell (i := 0) rfl
  have z_0_1 := HX0.out.cell (i := 1) rfl
  have z_0_2 := HX0.out.cell (i := 2) rfl
  have z_1_0 := HX1.out.cell (i := 0) rfl
  have z_1_1 := HX1.out.cell (i := 1) rfl
  have lt_HX0 := HX0.out.lt
  have lt_HX1 := HX1.out.lt
  obtain ⟨V2, hV⟩ : ∃ V, V = u1.alloc (.cells #[.int .i64 P, .int .i64 Q, .int .i64 G] 24) := ⟨_, rfl⟩
  have hbV : Below u1.heap.size u1 V2 := by rw [hV]; (repeat (first | exact Below.refl _ _ | assumption | refine Below.drew ?_ | refine Below.alloc ?_ (by first | (simp; done) | (simp; omega)) _ | refine Below.setCell ?_ (by first | (simp; done) | (simp; omega)) _))
  have HZ1 : Hid (BoxN V2 u1.heap.size 24 [.int .i64 P, .int .i64 Q, .int .i64 G]) := by unfold Hid; rw [hV]; have h := (BoxN.new u1 [.int .i64 P, .int .i64 Q, .int .i64 G] 24); simpa using h
  have hgc : g < u1.heap.size := HC.out.lt
  go_wp2_with fail
  rw [← hV]
  have hsV2 : V2.heap.size = u1.heap.size + 1 := by rw [hV]; simp
  clear hV hgc
  replace HX0 := Lib.hid (HX0.out.below hbV)
  replace HX1 := Lib.hid (HX1.out.below hbV)
  replace HW := Lib.hid (HW.out.trans (Within.of_below hbV))
  replace HC := Lib.hid (HC.out.keep hbV)
  clear hbV
  clear z_0_0 z_0_1 z_0_2 z_1_0 z_1_1
  clear lt_HX0
  clear lt_HX1
  refine (spec_anyBases U g _ P Q G _ HC.out (HW.out.belowOf HUC.out (Nat.le_of_eq HUS.out)) (by omega) HGR.out).mono ?_
  rintro e u3 ⟨⟨h3, v3, l3, rfl, ⟨h3l, h3u⟩, hs3, hl3⟩, hc, hw⟩
  have HL3 := Lib.hid hs3
  obtain ⟨a3, n3, c3, rfl⟩ := hs3.here.shape
  have hn3 : n3 ≤ 26 := by have h1 := hs3.here.len; omega
  have HE3 := Lib.hid hs3.here.len
  clear hs3
  have hsz3 := hw.size
  replace HX0 := Lib.hid (HX0.out.kept hw (.inl (by omega)))
  replace HX1 := Lib.hid (HX1.out.kept hw (.inl (by omega)))
  replace HZ1 := Lib.hid (HZ1.out.kept hw (.inr (by omega)))
  replace HW := Lib.hid (HW.out.trans hw)
  replace HC := Lib.hid hc
  clear hc hw
  have z_0_0 := HX0.out.cell (i := 0) rfl
  have z_0_1 := HX0.out.cell (i := 1) rfl
  have z_0_2 := HX0.out.cell (i := 2) rfl
  have z_1_0 := HX1.out.cell (i := 0) rfl
  have z_1_1 := HX1.out.cell (i := 1) rfl
  have z_2_0 := HZ1.out.cell (i := 0) rfl
  have z_2_1 := HZ1.out.cell (i := 1) rfl
  have z_2_2 := HZ1.out.cell (i := 2) rfl
  have lt_HX0 := HX0.out.lt
  have lt_HX1 := HX1.out.lt
  have lt_HZ1 := HZ1.out.lt
  obtain ⟨V4, hV⟩ : ∃ V, V = u3.alloc (.cells #[.int .i64 h3, .slice a3 n3 c3] 49) := ⟨_, rfl⟩
  have hbV : Below u3.heap.size u3 V4 := by rw [hV]; (repeat (first | exact Below.refl _ _ | assumption | refine Below.drew ?_ | refine Below.alloc ?_ (by first | (simp; done) | (simp; omega)) _ | refine Below.setCell ?_ (by first | (simp; done) | (simp; omega)) _))
  have HZ2 : Hid (BoxN V4 u3.heap.size 49 [.int .i64 h3, .slice a3 n3 c3]) := by unfold Hid; rw [hV]; have h := (BoxN.new u3 [.int .i64 h3, .slice a3 n3 c3] 49); simpa using h
  have hgc : g < u3.heap.size := HC.out.lt
  go_wp2_with fail
  rw [← hV]
  have hsV4 : V4.heap.size = u3.heap.size + 1 := by rw [hV]; simp
  clear hV hgc
  replace HX0 := Lib.hid (HX0.out.below hbV)
  replace HX1 := Lib.hid (HX1.out.below hbV)
  replace HZ1 := Lib.hid (HZ1.out.below hbV)
  replace HL3 := Lib.hid (HL3.out.below hbV)
  replace HW := Lib.hid (HW.out.trans (Within.of_below hbV))
  replace HC := Lib.hid (HC.out.keep hbV)
  clear hbV
  clear z_0_0 z_0_1 z_0_2 z_1_0 z_1_1 z_2_0 z_2_1 z_2_2
  clear lt_HX0
  clear lt_HX1
  clear lt_HZ1
  refine (spec_pick U g _ 5 _ HC.out (HW.out.belowOf HUC.out (Nat.le_of_eq HUS.out)) (by omega) ).mono ?_
  rintro e u5 ⟨⟨x5, rfl, x5l, x5u, x5m, _⟩, hc, hw⟩
  replace x5m := x5m (by omega)
  have hsz5 := hw.size
  replace HX0 := Lib.hid (HX0.out.kept hw (.inl (by omega)))
  replace HX1 := Lib.hid (HX1.out.kept hw (.inl (by omega)))
  replace HZ1 := Lib.hid (HZ1.out.kept hw (.inr (by omega)))
  replace HZ2 := Lib.hid (HZ2.out.kept hw (.inr (by omega)))
  replace HL3 := Lib.hid (HL3.out.within hw (by omega))
  replace HW := Lib.hid (HW.out.trans hw)
  replace HC := Lib.hid hc
  clear hc hw
  have z_0_0 := HX0.out.cell (i := 0) rfl
  have z_0_1 := HX0.out.cell (i := 1) rfl
  have z_0_2 := HX0.out.cell (i := 2) rfl
  have z_1_0 := HX1.out.cell (i := 0) rfl
  have z_1_1 := HX1.out.cell (i := 1) rfl
  have z_2_0 := HZ1.out.cell (i := 0) rfl
  have z_2_1 := HZ1.out.cell (i := 1) rfl
  have z_2_2 := HZ1.out.cell (i := 2) rfl
  have z_3_0 := HZ2.out.cell (i := 0) rfl
  have z_3_1 := HZ2.out.cell (i := 1) rfl
  try (go_wp2_with fail)
  clear z_0_0 z_0_1 z_0_2 z_1_0 z_1_1 z_2_0 z_2_1 z_2_2 z_3_0 z_3_1
  obtain ⟨uE, rfl⟩ : ∃ z, z = u5 := ⟨_, rfl⟩
  replace HL3 : Hid (SinceT _ uE.heap.size uE _) := SinceT.of HL3.out (Below.refl _ _) ⟨Nat.le_refl _, Nat.le_refl _⟩
  obtain ⟨J, hJ⟩ : ∃ z : Nat, (z : Int) = x5 := ⟨(x5).toNat, by omega⟩
  rw [← hJ]
  have hJ4 : J ≤ 4 := by omega
  clear hJ
  have hgE : g < uE.heap.size := HC.out.lt
  have hgw0 : w.heap.size + 2 ≤ g := by omega
  have HC0 := Lib.hid (HC.out.mono (n' := 10000000) (by omega))
  replace HUC : Hid (Below U.heap.size U uE) := HW.out.belowOf HUC.out (Nat.le_of_eq HUS.out)
  replace HBW : Hid (Below w.heap.size w uE) := HW.out.belowOf HBW.out (by omega)
  clear HC HW
  go_loopg [9, 10, 11] J (fun gk cv lv kv wr => ∃ (cl : List Int) (pl : List ProofD), kv = .int .i64 (gk : Int) ∧ cl.length + gk ≤ 4 ∧ pl.length = cl.length ∧ Hid (OwnI wr uE.heap.size cv cl) ∧ Hid (OwnQ wr uE.heap.size cv lv pl) ∧ Hid (Cur U wr g (10000000 + 200000000 * (4 - (gk : Int)))) ∧ Hid (Within g (g + 1) uE wr))
  case atStart => exact ⟨[], [], rfl, by simp; omega, rfl, OwnI.nil _ _, OwnQ.nil _ _ _, HC0.out.mono (by omega), Within.refl _ _ _⟩
  case round =>
    clear HC0
    obtain ⟨cl, pl, rfl, hlg, hpl, HOc, HOl, HC, HWz⟩ := hrel
    have hsr := HWz.out.size
    obtain ⟨ca, cc, rfl⟩ := HOc.out.shape
    obtain ⟨pa, pc, rfl⟩ := HOl.out.len64
    obtain ⟨cn, hcn⟩ : ∃ z, cl.length = z := ⟨_, rfl⟩
    have HCN := Lib.hid hcn
    have HPL : Hid (pl.length = cn) := by unfold Hid; rw [hpl, hcn]
    rw [hcn] at hlg HOc HOl ⊢
    rw [HPL.out] at HOl ⊢
    clear hcn hpl
    replace HX0 := Lib.hid (HX0.out.kept HWz.out (.inl (by omega)))
    replace HX1 := Lib.hid (HX1.out.kept HWz.out (.inl (by omega)))
    replace HZ1 := Lib.hid (HZ1.out.kept HWz.out (.inr (by omega)))
    replace HZ2 := Lib.hid (HZ2.out.kept HWz.out (.inr (by omega)))
    replace HL3 := Lib.hid (HL3.out.within HWz.out (by omega))
    by_cases hlt : 0 < gk
    · have hgp : decide ((0 : Int) < (gk : Int)) = true := decide_eq_true (by omega)
      have hgq : decide (0 < gk) = true := decide_eq_true hlt
      have ewk : IntKind.i64.wrap ((gk : Int) - 1) = ((gk - 1 : Nat) : Int) := by rw [show (gk : Int) - 1 = ((gk - 1 : Nat) : Int) by omega]; exact IntWalk.i64_in _ (by omega)
      replace HUC : Hid (Below U.heap.size U wr) := HWz.out.belowOf HUC.out (Nat.le_of_eq HUS.out)
      replace HBW : Hid (Below w.heap.size w wr) := HWz.out.belowOf HBW.out (by omega)
      have HW := Lib.hid (Within.refl g (g + 1) wr)
      have z_0_0 := HX0.out.cell (i := 0) rfl
      have z_0_1 := HX0.out.cell (i := 1) rfl
      have z_0_2 := HX0.out.cell (i := 2) rfl
      have z_1_0 := HX1.out.cell (i := 0) rfl
      have z_1_1 := HX1.out.cell (i := 1) rfl
      have z_2_0 := HZ1.out.cell (i := 0) rfl
      have z_2_1 := HZ1.out.cell (i := 1) rfl
      have z_2_2 := HZ1.out.cell (i := 2) rfl
      have z_3_0 := HZ2.out.cell (i := 0) rfl
      have z_3_1 := HZ2.out.cell (i := 1) rfl
      try (go_wp2_with fail)
      refine wp_region_noPanic ?_
      refine wp_region_Q (Within g (g + 1)) (DrawS U wr g _ 1000000 (fun w' => w'.cell? ⟨u1.heap.size, 0, none⟩ = some (.int .i64 P) ∧ w'.cell? ⟨u1.heap.size, 1, none⟩ = some (.int .i64 Q) ∧ w'.cell? ⟨u1.heap.size, 2, none⟩ = some (.int .i64 G) ∧ w'.cell? ⟨u3.heap.size, 0, none⟩ = some (.int .i64 h3) ∧ w'.cell? ⟨u3.heap.size, 1, none⟩ = some (.slice a3 n3 c3))) 9 [(0, []), (1, [0]), (2, []), (3, []), (4, [1, 0])] [5, 6] (by kernel_rfl) (by kernel_rfl) (by kernel_rfl) rfl (fun _ _ _ _ h => h) (DrawS.good _ _ _ _ _ _) ⟨(Within.refl _ _ _).drew, by simpa using HC.out.keep (Below.refl _ _).drew, ⟨box_at z_2_0 (Below.refl _ _).drew, box_at z_2_1 (Below.refl _ _).drew, box_at z_2_2 (Below.refl _ _).drew, box_at z_3_0 (Below.refl _ _).drew, box_at z_3_1 (Below.refl _ _).drew⟩⟩ ?_
      simp only [pickP, pickN, List.getElem?_cons_zero, List.getElem?_cons_succ]
      -- 0: move t6
      refine' chainQ_read (DrawS.good _ _ _ _ _ _) (d := (some 32)) _ rfl rfl (fun m w' hm' hS' => ?_) ?_; rotate_left
      · simp only [lookP, allP, Act.put, List.getElem?_cons_zero, List.getElem?_cons_succ, List.setIfInBounds_toArray, List.set_cons_zero, List.set_cons_succ]
        (try dsimp only [DrawS] at hS')
        go_simp
        (try with_reducible rfl)
      -- 1: call { callee := value (func 72), args := #[t32, const (int i64 2)], argTypes := #[82, 3] }
      refine chainQ_do (d := (some 33)) (fun v u => ∃ (xq1 : Int), v = (.int .i64 xq1) ∧ (-10 ≤ xq1 ∧ xq1 ≤ 2000000010)) (fun v w1 w2 hw h => h) rfl rfl (fun m w' hm' hS' => ?_) ?_
      · simp only [lookP, allP, Act.put, List.getElem?_cons_zero, List.getElem?_cons_succ, List.setIfInBounds_toArray, List.set_cons_zero, List.set_cons_succ]
        intro K hK
        replace hm' : m < 5 := hm'
        go_simp
        go_at_call 72
        refine (spec_pick U g _ 2 _ hS'.2.1 (hS'.1.belowOf (HW.out.belowOf HUC.out (Nat.le_of_eq HUS.out)) (by have := HUS.out; omega)) (by omega) ).mono ?_
        rintro e u ⟨⟨xq1, rfl, xq1l, xq1u, xq1m, _⟩, hc, hw⟩
        exact hK.out _ _ hw ⟨hS'.1.trans hw, hc.mono (by omega), ⟨within_at (hS'.1.trans hw) z_2_0 (.inr (by omega)), within_at (hS'.1.trans hw) z_2_1 (.inr (by omega)), within_at (hS'.1.trans hw) z_2_2 (.inr (by omega)), within_at (hS'.1.trans hw) z_3_0 (.inr (by omega)), within_at (hS'.1.trans hw) z_3_1 (.inr (by omega))⟩⟩ ⟨xq1, rfl, ⟨by omega, by omega⟩⟩
      iterate 2 (refine' chainQ_read (DrawS.good _ _ _ _ _ _) _ rfl rfl (fun m w' hm' hS' => ?_) ?_; rotate_left; · (simp only [lookP, allP, Act.put, List.getElem?_cons_zero, List.getElem?_cons_succ, List.setIfInBounds_toArray, List.set_cons_zero, List.set_cons_succ]; (try dsimp only [DrawS] at hS'); go_simp; (try with_reducible rfl)))
      -- 4: call { callee := value (func 62), args := #[t34, t35], argTypes := #[82, 24] }
      refine chainQ_do (d := (some 36)) (fun v u => ∃ (xq4 : Int), v = (.int .i64 xq4) ∧ (-10 ≤ xq4 ∧ xq4 ≤ 2000000010)) (fun v w1 w2 hw h => h) rfl rfl (fun m w' hm' hS' => ?_) ?_
      · simp only [lookP, allP, Act.put, List.getElem?_cons_zero, List.getElem?_cons_succ, List.setIfInBounds_toArray, List.set_cons_zero, List.set_cons_succ]
        intro K hK
        replace hm' : m < 5 := hm'
        go_simp
        go_at_call 62
        refine (spec_expo U g _ P Q G _ hS'.2.1 (hS'.1.belowOf (HW.out.belowOf HUC.out (Nat.le_of_eq HUS.out)) (by have := HUS.out; omega)) (by omega) HGR.out).mono ?_
        rintro e u ⟨⟨xq4, rfl, xq4l, xq4u⟩, hc, hw⟩
        exact hK.out _ _ hw ⟨hS'.1.trans hw, hc.mono (by omega), ⟨within_at (hS'.1.trans hw) z_2_0 (.inr (by omega)), within_at (hS'.1.trans hw) z_2_1 (.inr (by omega)), within_at (hS'.1.trans hw) z_2_2 (.inr (by omega)), within_at (hS'.1.trans hw) z_3_0 (.inr (by omega)), within_at (hS'.1.trans hw) z_3_1 (.inr (by omega))⟩⟩ ⟨xq4, rfl, ⟨by omega, xq4u⟩⟩
      refine chainQ_nil (fun u6 hS' => ?_)
      simp only [allP, Act.put, List.setIfInBounds_toArray, List.set_cons_zero, List.set_cons_succ]
      intro x4 hx4
      intro x1 hx1
      replace hS' : DrawS U wr g _ 1000000 _ 5 u6 := hS'
      obtain ⟨hw, hc, hC⟩ := hS'
      obtain ⟨xq1, rfl, xq1l, xq1u⟩ := hx1
      obtain ⟨xq4, rfl, xq4l, xq4u⟩ := hx4
      have hsz6 := hw.size
      replace HX0 := Lib.hid (HX0.out.kept hw (.inl (by omega)))
      replace HX1 := Lib.hid (HX1.out.kept hw (.inl (by omega)))
      replace HZ1 := Lib.hid (HZ1.out.kept hw (.inr (by omega)))
      replace HZ2 := Lib.hid (HZ2.out.kept hw (.inr (by omega)))
      replace HL3 := Lib.hid (HL3.out.within hw (by omega))
      replace HW := Lib.hid (HW.out.trans hw)
      replace HC := Lib.hid hc
      clear hc hw hC
      clear z_0_0 z_0_1 z_0_2 z_1_0 z_1_1 z_2_0 z_2_1 z_2_2 z_3_0 z_3_1
      have r_HX0_0 := HX0.out.cell (i := 0) rfl
      have r_HX0_1 := HX0.out.cell (i := 1) rfl
      have r_HX0_2 := HX0.out.cell (i := 2) rfl
      have fr_HX0 := fun j => HX0.out.frozen j
      have r_HX1_0 := HX1.out.cell (i := 0) rfl
      have r_HX1_1 := HX1.out.cell (i := 1) rfl
      have fr_HX1 := fun j => HX1.out.frozen j
      go_wp2_with fail
      refine NoPanic.normal ?_
      have FHX0 := Lib.hid HX0.out
      have FHX1 := Lib.hid HX1.out
      clear r_HX0_0 r_HX0_1 r_HX0_2 fr_HX0 r_HX1_0 r_HX1_1 fr_HX1
      have z_0_0 := HX0.out.cell (i := 0) rfl
      have z_0_1 := HX0.out.cell (i := 1) rfl
      have z_0_2 := HX0.out.cell (i := 2) rfl
      have z_1_0 := HX1.out.cell (i := 0) rfl
      have z_1_1 := HX1.out.cell (i := 1) rfl
      have z_2_0 := HZ1.out.cell (i := 0) rfl
      have z_2_1 := HZ1.out.cell (i := 1) rfl
      have z_2_2 := HZ1.out.cell (i := 2) rfl
      have z_3_0 := HZ2.out.cell (i := 0) rfl
      have z_3_1 := HZ2.out.cell (i := 1) rfl
      try (go_wp2_with fail)
      clear z_0_0 z_0_1 z_0_2 z_1_0 z_1_1 z_2_0 z_2_1 z_2_2 z_3_0 z_3_1
      refine (spec_Commit ⟨P, Q, G⟩ h3 _ l3 xq1 xq4 _ HL3.out.here ⟨by omega, by omega⟩ ⟨by omega, by omega⟩ ⟨by omega, by omega⟩).mono ?_
      rintro e u7 ⟨rfl, hb⟩
      obtain ⟨r7a, hr7a⟩ : ∃ r, cmR ⟨P, Q, G⟩ h3 l3 xq1 xq4 = r := ⟨_, rfl⟩
      have Hr7a := Lib.hid hr7a
      rw [hr7a]
      clear hr7a
      have hx_r7a : 0 ≤ r7a ∧ r7a ≤ 2000000000 := by rw [← Hr7a.out]; exact cmR_bd
      obtain ⟨r7al, r7au⟩ := hx_r7a
      obtain ⟨q7b, hq7b⟩ : ∃ r, cmB ⟨P, Q, G⟩ h3 l3 xq1 xq4 = r := ⟨_, rfl⟩
      have Hq7b := Lib.hid hq7b
      rw [hq7b]
      clear hq7b
      have hsz7 := hb.size
      replace HX0 := Lib.hid (HX0.out.below hb)
      replace HX1 := Lib.hid (HX1.out.below hb)
      replace HZ1 := Lib.hid (HZ1.out.below hb)
      replace HZ2 := Lib.hid (HZ2.out.below hb)
      replace HL3 := Lib.hid (HL3.out.below hb)
      replace HW := Lib.hid (HW.out.trans (Within.of_below hb))
      replace HC := Lib.hid (HC.out.keep hb)
      clear hb
      have z_0_0 := HX0.out.cell (i := 0) rfl
      have z_0_1 := HX0.out.cell (i := 1) rfl
      have z_0_2 := HX0.out.cell (i := 2) rfl
      have z_1_0 := HX1.out.cell (i := 0) rfl
      have z_1_1 := HX1.out.cell (i := 1) rfl
      have z_2_0 := HZ1.out.cell (i := 0) rfl
      have z_2_1 := HZ1.out.cell (i := 1) rfl
      have z_2_2 := HZ1.out.cell (i := 2) rfl
      have z_3_0 := HZ2.out.cell (i := 0) rfl
      have z_3_1 := HZ2.out.cell (i := 1) rfl
      (try (go_upto_region 11 with fail))
      clear z_0_0 z_0_1 z_0_2 z_1_0 z_1_1 z_2_0 z_2_1 z_2_2 z_3_0 z_3_1
      obtain ⟨ux, rfl⟩ : ∃ z, z = u7 := ⟨_, rfl⟩
      go_cut [16, 17] from 45 to 55 (fun v16 v17 wx => ∃ (bz : Nat) (xa : Option Addr) (xn xc : Nat) (ya : Option Addr) (yn yc : Nat) (za : Option Addr) (zn zc : Nat) (lx ly lz : List Int) (ok : Bool), v16 = .pointer (some ⟨bz, 0, none⟩) ∧ v17 = .bool ok ∧ wr.heap.size ≤ bz ∧ Hid (BoxN wx bz 115 [.slice xa xn xc, .slice ya yn yc, .slice za zn zc]) ∧ Hid (OwnI wx wr.heap.size (.slice xa xn xc) lx ∧ OwnI wx wr.heap.size (.slice ya yn yc) ly ∧ OwnI wx wr.heap.size (.slice za zn zc) lz) ∧ Hid (lx.length ≤ 30 ∧ ly.length ≤ 30 ∧ lz.length ≤ 30) ∧ Hid (Cur U wx g (10000000 + 200000000 * (4 - (gk : Int)) + 50000000)) ∧ Hid (Within g (g + 1) ux wx))
      case first =>
        have HWr := Lib.hid (Within.refl g (g + 1) ux)
        have c0 := HZ1.out.cell (i := 0) rfl
        have c1 := HZ1.out.cell (i := 1) rfl
        have c2 := HZ1.out.cell (i := 2) rfl
        have d0 := HZ2.out.cell (i := 0) rfl
        have d1 := HZ2.out.cell (i := 1) rfl
        refine wp_region_noPanic ?_
        refine wp_region_V (fun w' => w'.cell? ⟨u1.heap.size, 0, none⟩ = some (.int .i64 P) ∧ w'.cell? ⟨u1.heap.size, 1, none⟩ = some (.int .i64 Q) ∧ w'.cell? ⟨u1.heap.size, 2, none⟩ = some (.int .i64 G) ∧ w'.cell? ⟨u3.heap.size, 0, none⟩ = some (.int .i64 h3) ∧ w'.cell? ⟨u3.heap.size, 1, none⟩ = some (.slice a3 n3 c3)) 16 13 (.rd 0 (.rd 1 (.rd 2 (.rd 3 (.rd 4 (.rd 5 (.alt 6 (.alt 7 (.rd 8 (.rd 9 (.rd 10 (.alt 11 (.alt 12 .done .nil) .nil)))) (.alt 11 (.alt 7 (.rd 8 (.rd 9 (.rd 10 (.alt 12 .done .nil)))) .nil) .nil)) (.alt 11 (.alt 6 (.alt 7 (.rd 8 (.rd 9 (.rd 10 (.alt 12 .done .nil)))) .nil) .nil) .nil)))))))) [13] (by kernel_rfl) (by kernel_rfl) rfl (fun _ _ _ _ _ h => h) ⟨box_at c0 (Below.refl _ _).drew, box_at c1 (Below.refl _ _).drew, box_at c2 (Below.refl _ _).drew, box_at d0 (Below.refl _ _).drew, box_at d1 (Below.refl _ _).drew⟩ ?_
        simp only [pickV, pickN, List.getElem?_cons_zero, List.getElem?_cons_succ]
        repeat (refine' wpV_read _ (by kernel_rfl) (fun w' hS' => ?_) ?_; rotate_left; (focus ((try dsimp only at hS'); go_simp; (try with_reducible rfl))); (try simp only [Act.put, List.setIfInBounds_toArray, List.set_cons_zero, List.set_cons_succ]))
        have hdr : Below ux.heap.size ux ux.drew := (Below.refl _ _).drew
        have hszd := hdr.size
        replace HZ1 := Lib.hid (HZ1.out.below hdr)
        replace HZ2 := Lib.hid (HZ2.out.below hdr)
        replace HL3 := Lib.hid (HL3.out.below hdr)
        replace HC := Lib.hid (HC.out.keep hdr)
        replace HW := Lib.hid (HW.out.trans (Within.of_below hdr))
        replace HWr := Lib.hid (HWr.out.trans (Within.of_below hdr))
        obtain ⟨uR, huR⟩ : ∃ z, z = ux.drew := ⟨_, rfl⟩
        rw [← huR] at hszd HZ1 HZ2 HL3 HC HW HWr ⊢
        clear hdr huR c0 c1 c2 d0 d1
        have c0 := HZ1.out.cell (i := 0) rfl
        have c1 := HZ1.out.cell (i := 1) rfl
        have c2 := HZ1.out.cell (i := 2) rfl
        have d0 := HZ2.out.cell (i := 0) rfl
        have d1 := HZ2.out.cell (i := 1) rfl
        refine wpV_or (by kernel_rfl) (fun K hK => ?_) ?_
        · go_simp
          go_at_call 82
          have hC6 := spec_coins U g _ P Q G 3 _ HC.out (HW.out.belowOf HUC.out (Nat.le_of_eq HUS.out)) (by omega) HGR.out (by omega)
          rw [show ((3 : Nat) : Int) = 3 from rfl] at hC6
          refine hC6.mono ?_
          clear hC6
          rintro e u6 ⟨⟨v6, l6, rfl, ho6, hl6, he6⟩, hc, hw⟩
          obtain ⟨a6, c6, rfl⟩ := ho6.shapeN hl6
          have hs6 := hw.size
          have HI6 := Lib.hid ho6.ints
          replace HZ1 := Lib.hid (HZ1.out.kept hw (.inr (by omega)))
          replace HZ2 := Lib.hid (HZ2.out.kept hw (.inr (by omega)))
          replace HL3 := Lib.hid (HL3.out.within hw (by omega))
          replace HC := Lib.hid hc
          replace HW := Lib.hid (HW.out.trans hw)
          replace HWr := Lib.hid (HWr.out.trans hw)
          clear hc hw ho6 c0 c1 c2 d0 d1
          have c0 := HZ1.out.cell (i := 0) rfl
          have c1 := HZ1.out.cell (i := 1) rfl
          have c2 := HZ1.out.cell (i := 2) rfl
          have d0 := HZ2.out.cell (i := 0) rfl
          have d1 := HZ2.out.cell (i := 1) rfl
          refine hK.out _ _ ⟨c0, c1, c2, d0, d1⟩ (fun _ => ?_)
          clear hK K
          (try simp only [Act.put, List.setIfInBounds_toArray, List.set_cons_zero, List.set_cons_succ])
          refine wpV_or (by kernel_rfl) (fun K hK => ?_) ?_
          · go_simp
            go_at_call 81
            refine (spec_ProveBit ⟨P, Q, G⟩ h3 _ l3 xq1 xq4 _ l6 _ HL3.out.here ⟨by omega, by omega⟩ ⟨by omega, by omega⟩ ⟨by omega, by omega⟩ HI6.out).mono ?_
            rintro e u8 ⟨⟨x8, y8, z8, rfl, ox, oy, oz⟩, hb⟩
            have hs8 := hb.size
            have HPN := Lib.hid (pbR_len ⟨P, Q, G⟩ sBit h3 l3 xq1 xq4 l6)
            obtain ⟨ok, hok⟩ : ∃ z, pbB ⟨P, Q, G⟩ h3 l3 xq1 xq4 l6 = z := ⟨_, rfl⟩
            rw [hok]
            clear hok
            obtain ⟨PD, hPD⟩ : ∃ z, pbR ⟨P, Q, G⟩ sBit h3 l3 xq1 xq4 l6 = z := ⟨_, rfl⟩
            rw [hPD] at ox oy oz HPN
            clear hPD
            obtain ⟨xa, xn, xc, rfl⟩ := ox.ints.shape
            obtain ⟨ya, yn, yc, rfl⟩ := oy.ints.shape
            obtain ⟨za, zn, zc, rfl⟩ := oz.ints.shape
            have HOD : Hid (OwnI u8 wr.heap.size (.slice xa xn xc) PD.c ∧ OwnI u8 wr.heap.size (.slice ya yn yc) PD.h ∧ OwnI u8 wr.heap.size (.slice za zn zc) PD.r) := ⟨ox.mono (by omega), oy.mono (by omega), oz.mono (by omega)⟩
            replace HZ1 := Lib.hid (HZ1.out.below hb)
            replace HZ2 := Lib.hid (HZ2.out.below hb)
            replace HC := Lib.hid (HC.out.keep hb)
            replace HW := Lib.hid (HW.out.trans (Within.of_below hb))
            replace HWr := Lib.hid (HWr.out.trans (Within.of_below hb))
            clear hb ox oy oz c0 c1 c2 d0 d1
            have c0 := HZ1.out.cell (i := 0) rfl
            have c1 := HZ1.out.cell (i := 1) rfl
            have c2 := HZ1.out.cell (i := 2) rfl
            have d0 := HZ2.out.cell (i := 0) rfl
            have d1 := HZ2.out.cell (i := 1) rfl
            refine hK.out _ _ ⟨c0, c1, c2, d0, d1⟩ (fun _ => ?_)
            clear hK K
            (try simp only [Act.put, List.setIfInBounds_toArray, List.set_cons_zero, List.set_cons_succ])
            repeat (refine' wpV_read _ (by kernel_rfl) (fun w' hS' => ?_) ?_; rotate_left; (focus ((try dsimp only at hS'); go_simp; (try with_reducible rfl))); (try simp only [Act.put, List.setIfInBounds_toArray, List.set_cons_zero, List.set_cons_succ]))
            refine wpV_do (by kernel_rfl) (fun K hK => ?_)
            go_simp
            obtain ⟨V12, hV12⟩ : ∃ V, V = u8.alloc (.cells #[.slice none 0 0, .slice none 0 0, .slice none 0 0] 115) := ⟨_, rfl⟩
            have hb : Below u8.heap.size u8 V12 := by rw [hV12]; exact (Below.refl _ _).alloc (Nat.le_refl _) _
            have HBX : Hid (BoxN V12 u8.heap.size 115 [.slice none 0 0, .slice none 0 0, .slice none 0 0]) := by unfold Hid; rw [hV12]; exact BoxN.new u8 _ _
            have hs12 := hb.size
            have hwb : wr.heap.size ≤ u8.heap.size := by omega
            replace HZ1 := Lib.hid (HZ1.out.below hb)
            replace HZ2 := Lib.hid (HZ2.out.below hb)
            replace HC := Lib.hid (HC.out.keep hb)
            replace HW := Lib.hid (HW.out.trans (Within.of_below hb))
            replace HWr := Lib.hid (HWr.out.trans (Within.of_below hb))
            replace HOD : Hid (OwnI V12 wr.heap.size (.slice xa xn xc) PD.c ∧ OwnI V12 wr.heap.size (.slice ya yn yc) PD.h ∧ OwnI V12 wr.heap.size (.slice za zn zc) PD.r) := ⟨HOD.out.1.below hb, HOD.out.2.1.below hb, HOD.out.2.2.below hb⟩
            clear hb c0 c1 c2 d0 d1
            have c0 := HZ1.out.cell (i := 0) rfl
            have c1 := HZ1.out.cell (i := 1) rfl
            have c2 := HZ1.out.cell (i := 2) rfl
            have d0 := HZ2.out.cell (i := 0) rfl
            have d1 := HZ2.out.cell (i := 1) rfl
            refine hK.out _ _ (by rw [← hV12]; exact ⟨c0, c1, c2, d0, d1⟩) (fun _ => ?_)
            rw [← hV12]
            clear hV12
            clear hK K
            (try simp only [Act.put, List.setIfInBounds_toArray, List.set_cons_zero, List.set_cons_succ])
            refine wpV_do (by kernel_rfl) (fun K hK => ?_)
            have r0 := HBX.out.cell (i := 0) rfl
            have r1 := HBX.out.cell (i := 1) rfl
            have r2 := HBX.out.cell (i := 2) rfl
            have fr := fun j => HBX.out.frozen j
            have hbl := HBX.out.lt
            clear c0 c1 c2 d0 d1
            obtain ⟨Y, hY⟩ : ∃ Y, Y = ((V12.setCell ⟨u8.heap.size, 0, none⟩ (.slice xa xn xc)).setCell ⟨u8.heap.size, 1, none⟩ (.slice ya yn yc)).setCell ⟨u8.heap.size, 2, none⟩ (.slice za zn zc) := ⟨_, rfl⟩
            have hYl : Within (u8.heap.size) (u8.heap.size + 1) V12 Y := by rw [hY]; exact (((Within.refl (u8.heap.size) (u8.heap.size + 1) V12).setCell (b := u8.heap.size) (by omega) (by omega) 0 (.slice xa xn xc)).setCell (b := u8.heap.size) (by omega) (by omega) 1 (.slice ya yn yc)).setCell (b := u8.heap.size) (by omega) (by omega) 2 (.slice za zn zc)
            have NZ : Hid (BoxN Y (u8.heap.size) 115 [.slice xa xn xc, .slice ya yn yc, .slice za zn zc]) := by unfold Hid; rw [hY]; exact ((HBX.out.set 0 _).set 1 _).set 2 _
            have NC := Lib.hid (((HC.out.setNew (b := u8.heap.size) (by omega) 0 (.slice xa xn xc)).setNew (b := u8.heap.size) (by omega) 1 (.slice ya yn yc)).setNew (b := u8.heap.size) (by omega) 2 (.slice za zn zc))
            have NW := Lib.hid (((HWr.out.setNew (b := u8.heap.size) (by omega) 0 (.slice xa xn xc)).setNew (b := u8.heap.size) (by omega) 1 (.slice ya yn yc)).setNew (b := u8.heap.size) (by omega) 2 (.slice za zn zc))
            have ap1 := HOD.out.1.apart HBX.out (by decide)
            have ap2 := HOD.out.2.1.apart HBX.out (by decide)
            have ap3 := HOD.out.2.2.apart HBX.out (by decide)
            have NO : Hid (OwnI Y wr.heap.size (.slice xa xn xc) PD.c ∧ OwnI Y wr.heap.size (.slice ya yn yc) PD.h ∧ OwnI Y wr.heap.size (.slice za zn zc) PD.r) := by unfold Hid; rw [hY]; exact ⟨(OwnI.setB (OwnI.setB (OwnI.setB HOD.out.1 ap1 0 (.slice xa xn xc)) ap1 1 (.slice ya yn yc)) ap1 2 (.slice za zn zc)), (OwnI.setB (OwnI.setB (OwnI.setB HOD.out.2.1 ap2 0 (.slice xa xn xc)) ap2 1 (.slice ya yn yc)) ap2 2 (.slice za zn zc)), (OwnI.setB (OwnI.setB (OwnI.setB HOD.out.2.2 ap3 0 (.slice xa xn xc)) ap3 1 (.slice ya yn yc)) ap3 2 (.slice za zn zc))⟩
            have NG := Lib.hid (HZ1.out.kept hYl (by omega))
            have NB := Lib.hid (HZ2.out.kept hYl (by omega))
            rw [← hY] at NC NW
            go_simp
            refine hK.out _ _ ?_ (fun _ => ?_)
            · rw [← hY]; exact ⟨NG.out.cell (i := 0) rfl, NG.out.cell (i := 1) rfl, NG.out.cell (i := 2) rfl, NB.out.cell (i := 0) rfl, NB.out.cell (i := 1) rfl⟩
            rw [← hY]
            clear hK K fr r0 r1 r2 hY hYl
            (try simp only [Act.put, List.setIfInBounds_toArray, List.set_cons_zero, List.set_cons_succ])
            refine wpV_done ?_
            go_wp2_with fail
            refine NoPanic.normal ?_
            go_wp2_with fail
            go_meet
            exact ⟨u8.heap.size, xa, xn, xc, ya, yn, yc, za, zn, zc, PD.c, PD.h, PD.r, ok, rfl, rfl, hwb, NZ, NO, HPN, NC.out.mono (by omega), NW⟩
          refine wpV_do (by kernel_rfl) (fun K hK => ?_)
          go_simp
          obtain ⟨V12, hV12⟩ : ∃ V, V = u6.alloc (.cells #[.slice none 0 0, .slice none 0 0, .slice none 0 0] 115) := ⟨_, rfl⟩
          have hb : Below u6.heap.size u6 V12 := by rw [hV12]; exact (Below.refl _ _).alloc (Nat.le_refl _) _
          have HBX : Hid (BoxN V12 u6.heap.size 115 [.slice none 0 0, .slice none 0 0, .slice none 0 0]) := by unfold Hid; rw [hV12]; exact BoxN.new u6 _ _
          have hs12 := hb.size
          have hwb : wr.heap.size ≤ u6.heap.size := by omega
          replace HZ1 := Lib.hid (HZ1.out.below hb)
          replace HZ2 := Lib.hid (HZ2.out.below hb)
          replace HL3 := Lib.hid (HL3.out.below hb)
          replace HC := Lib.hid (HC.out.keep hb)
          replace HW := Lib.hid (HW.out.trans (Within.of_below hb))
          replace HWr := Lib.hid (HWr.out.trans (Within.of_below hb))
          replace HI6 := Lib.hid (HI6.out.below hb)
          clear hb c0 c1 c2 d0 d1
          have c0 := HZ1.out.cell (i := 0) rfl
          have c1 := HZ1.out.cell (i := 1) rfl
          have c2 := HZ1.out.cell (i := 2) rfl
          have d0 := HZ2.out.cell (i := 0) rfl
          have d1 := HZ2.out.cell (i := 1) rfl
          refine hK.out _ _ (by rw [← hV12]; exact ⟨c0, c1, c2, d0, d1⟩) (fun _ => ?_)
          rw [← hV12]
          clear hV12
          clear hK K
          (try simp only [Act.put, List.setIfInBounds_toArray, List.set_cons_zero, List.set_cons_succ])
          refine wpV_do (by kernel_rfl) (fun K hK => ?_)
          go_simp
          go_at_call 81
          refine (spec_ProveBit ⟨P, Q, G⟩ h3 _ l3 xq1 xq4 _ l6 _ HL3.out.here ⟨by omega, by omega⟩ ⟨by omega, by omega⟩ ⟨by omega, by omega⟩ HI6.out).mono ?_
          rintro e u8 ⟨⟨x8, y8, z8, rfl, ox, oy, oz⟩, hb⟩
          have hs8 := hb.size
          have HPN := Lib.hid (pbR_len ⟨P, Q, G⟩ sBit h3 l3 xq1 xq4 l6)
          obtain ⟨ok, hok⟩ : ∃ z, pbB ⟨P, Q, G⟩ h3 l3 xq1 xq4 l6 = z := ⟨_, rfl⟩
          rw [hok]
          clear hok
          obtain ⟨PD, hPD⟩ : ∃ z, pbR ⟨P, Q, G⟩ sBit h3 l3 xq1 xq4 l6 = z := ⟨_, rfl⟩
          rw [hPD] at ox oy oz HPN
          clear hPD
          obtain ⟨xa, xn, xc, rfl⟩ := ox.ints.shape
          obtain ⟨ya, yn, yc, rfl⟩ := oy.ints.shape
          obtain ⟨za, zn, zc, rfl⟩ := oz.ints.shape
          have HOD : Hid (OwnI u8 wr.heap.size (.slice xa xn xc) PD.c ∧ OwnI u8 wr.heap.size (.slice ya yn yc) PD.h ∧ OwnI u8 wr.heap.size (.slice za zn zc) PD.r) := ⟨ox.mono (by omega), oy.mono (by omega), oz.mono (by omega)⟩
          replace HZ1 := Lib.hid (HZ1.out.below hb)
          replace HZ2 := Lib.hid (HZ2.out.below hb)
          replace HBX := Lib.hid (HBX.out.below hb)
          replace HC := Lib.hid (HC.out.keep hb)
          replace HW := Lib.hid (HW.out.trans (Within.of_below hb))
          replace HWr := Lib.hid (HWr.out.trans (Within.of_below hb))
          clear hb ox oy oz c0 c1 c2 d0 d1
          have c0 := HZ1.out.cell (i := 0) rfl
          have c1 := HZ1.out.cell (i := 1) rfl
          have c2 := HZ1.out.cell (i := 2) rfl
          have d0 := HZ2.out.cell (i := 0) rfl
          have d1 := HZ2.out.cell (i := 1) rfl
          refine hK.out _ _ ⟨c0, c1, c2, d0, d1⟩ (fun _ => ?_)
          clear hK K
          (try simp only [Act.put, List.setIfInBounds_toArray, List.set_cons_zero, List.set_cons_succ])
          repeat (refine' wpV_read _ (by kernel_rfl) (fun w' hS' => ?_) ?_; rotate_left; (focus ((try dsimp only at hS'); go_simp; (try with_reducible rfl))); (try simp only [Act.put, List.setIfInBounds_toArray, List.set_cons_zero, List.set_cons_succ]))
          refine wpV_do (by kernel_rfl) (fun K hK => ?_)
          have r0 := HBX.out.cell (i := 0) rfl
          have r1 := HBX.out.cell (i := 1) rfl
          have r2 := HBX.out.cell (i := 2) rfl
          have fr := fun j => HBX.out.frozen j
          have hbl := HBX.out.lt
          clear c0 c1 c2 d0 d1
          obtain ⟨Y, hY⟩ : ∃ Y, Y = ((u8.setCell ⟨u6.heap.size, 0, none⟩ (.slice xa xn xc)).setCell ⟨u6.heap.size, 1, none⟩ (.slice ya yn yc)).setCell ⟨u6.heap.size, 2, none⟩ (.slice za zn zc) := ⟨_, rfl⟩
          have hYl : Within (u6.heap.size) (u6.heap.size + 1) u8 Y := by rw [hY]; exact (((Within.refl (u6.heap.size) (u6.heap.size + 1) u8).setCell (b := u6.heap.size) (by omega) (by omega) 0 (.slice xa xn xc)).setCell (b := u6.heap.size) (by omega) (by omega) 1 (.slice ya yn yc)).setCell (b := u6.heap.size) (by omega) (by omega) 2 (.slice za zn zc)
          have NZ : Hid (BoxN Y (u6.heap.size) 115 [.slice xa xn xc, .slice ya yn yc, .slice za zn zc]) := by unfold Hid; rw [hY]; exact ((HBX.out.set 0 _).set 1 _).set 2 _
          have NC := Lib.hid (((HC.out.setNew (b := u6.heap.size) (by omega) 0 (.slice xa xn xc)).setNew (b := u6.heap.size) (by omega) 1 (.slice ya yn yc)).setNew (b := u6.heap.size) (by omega) 2 (.slice za zn zc))
          have NW := Lib.hid (((HWr.out.setNew (b := u6.heap.size) (by omega) 0 (.slice xa xn xc)).setNew (b := u6.heap.size) (by omega) 1 (.slice ya yn yc)).setNew (b := u6.heap.size) (by omega) 2 (.slice za zn zc))
          have ap1 := HOD.out.1.apart HBX.out (by decide)
          have ap2 := HOD.out.2.1.apart HBX.out (by decide)
          have ap3 := HOD.out.2.2.apart HBX.out (by decide)
          have NO : Hid (OwnI Y wr.heap.size (.slice xa xn xc) PD.c ∧ OwnI Y wr.heap.size (.slice ya yn yc) PD.h ∧ OwnI Y wr.heap.size (.slice za zn zc) PD.r) := by unfold Hid; rw [hY]; exact ⟨(OwnI.setB (OwnI.setB (OwnI.setB HOD.out.1 ap1 0 (.slice xa xn xc)) ap1 1 (.slice ya yn yc)) ap1 2 (.slice za zn zc)), (OwnI.setB (OwnI.setB (OwnI.setB HOD.out.2.1 ap2 0 (.slice xa xn xc)) ap2 1 (.slice ya yn yc)) ap2 2 (.slice za zn zc)), (OwnI.setB (OwnI.setB (OwnI.setB HOD.out.2.2 ap3 0 (.slice xa xn xc)) ap3 1 (.slice ya yn yc)) ap3 2 (.slice za zn zc))⟩
          have NG := Lib.hid (HZ1.out.kept hYl (by omega))
          have NB := Lib.hid (HZ2.out.kept hYl (by omega))
          rw [← hY] at NC NW
          go_simp
          refine hK.out _ _ ?_ (fun _ => ?_)
          · rw [← hY]; exact ⟨NG.out.cell (i := 0) rfl, NG.out.cell (i := 1) rfl, NG.out.cell (i := 2) rfl, NB.out.cell (i := 0) rfl, NB.out.cell (i := 1) rfl⟩
          rw [← hY]
          clear hK K fr r0 r1 r2 hY hYl
          (try simp only [Act.put, List.setIfInBounds_toArray, List.set_cons_zero, List.set_cons_succ])
          refine wpV_done ?_
          go_wp2_with fail
          refine NoPanic.normal ?_
          go_wp2_with fail
          go_meet
          exact ⟨u6.heap.size, xa, xn, xc, ya, yn, yc, za, zn, zc, PD.c, PD.h, PD.r, ok, rfl, rfl, hwb, NZ, NO, HPN, NC.out.mono (by omega), NW⟩
        refine wpV_do (by kernel_rfl) (fun K hK => ?_)
        go_simp
        obtain ⟨V12, hV12⟩ : ∃ V, V = uR.alloc (.cells #[.slice none 0 0, .slice none 0 0, .slice none 0 0] 115) := ⟨_, rfl⟩
        have hb : Below uR.heap.size uR V12 := by rw [hV12]; exact (Below.refl _ _).alloc (Nat.le_refl _) _
        have HBX : Hid (BoxN V12 uR.heap.size 115 [.slice none 0 0, .slice none 0 0, .slice none 0 0]) := by unfold Hid; rw [hV12]; exact BoxN.new uR _ _
        have hs12 := hb.size
        have hwb : wr.heap.size ≤ uR.heap.size := by omega
        replace HZ1 := Lib.hid (HZ1.out.below hb)
        replace HZ2 := Lib.hid (HZ2.out.below hb)
        replace HL3 := Lib.hid (HL3.out.below hb)
        replace HC := Lib.hid (HC.out.keep hb)
        replace HW := Lib.hid (HW.out.trans (Within.of_below hb))
        replace HWr := Lib.hid (HWr.out.trans (Within.of_below hb))
        clear hb c0 c1 c2 d0 d1
        have c0 := HZ1.out.cell (i := 0) rfl
        have c1 := HZ1.out.cell (i := 1) rfl
        have c2 := HZ1.out.cell (i := 2) rfl
        have d0 := HZ2.out.cell (i := 0) rfl
        have d1 := HZ2.out.cell (i := 1) rfl
        refine hK.out _ _ (by rw [← hV12]; exact ⟨c0, c1, c2, d0, d1⟩) (fun _ => ?_)
        rw [← hV12]
        clear hV12
        clear hK K
        (try simp only [Act.put, List.setIfInBounds_toArray, List.set_cons_zero, List.set_cons_succ])
        refine wpV_do (by kernel_rfl) (fun K hK => ?_)
        go_simp
        go_at_call 82
        have hC6 := spec_coins U g _ P Q G 3 _ HC.out (HW.out.belowOf HUC.out (Nat.le_of_eq HUS.out)) (by omega) HGR.out (by omega)
        rw [show ((3 : Nat) : Int) = 3 from rfl] at hC6
        refine hC6.mono ?_
        clear hC6
        rintro e u6 ⟨⟨v6, l6, rfl, ho6, hl6, he6⟩, hc, hw⟩
        obtain ⟨a6, c6, rfl⟩ := ho6.shapeN hl6
        have hs6 := hw.size
        have HI6 := Lib.hid ho6.ints
        replace HZ1 := Lib.hid (HZ1.out.kept hw (.inr (by omega)))
        replace HZ2 := Lib.hid (HZ2.out.kept hw (.inr (by omega)))
        replace HL3 := Lib.hid (HL3.out.within hw (by omega))
        replace HBX := Lib.hid (HBX.out.kept hw (.inr (by omega)))
        replace HC := Lib.hid hc
        replace HW := Lib.hid (HW.out.trans hw)
        replace HWr := Lib.hid (HWr.out.trans hw)
        clear hc hw ho6 c0 c1 c2 d0 d1
        have c0 := HZ1.out.cell (i := 0) rfl
        have c1 := HZ1.out.cell (i := 1) rfl
        have c2 := HZ1.out.cell (i := 2) rfl
        have d0 := HZ2.out.cell (i := 0) rfl
        have d1 := HZ2.out.cell (i := 1) rfl
        refine hK.out _ _ ⟨c0, c1, c2, d0, d1⟩ (fun _ => ?_)
        clear hK K
        (try simp only [Act.put, List.setIfInBounds_toArray, List.set_cons_zero, List.set_cons_succ])
        refine wpV_do (by kernel_rfl) (fun K hK => ?_)
        go_simp
        go_at_call 81
        refine (spec_ProveBit ⟨P, Q, G⟩ h3 _ l3 xq1 xq4 _ l6 _ HL3.out.here ⟨by omega, by omega⟩ ⟨by omega, by omega⟩ ⟨by omega, by omega⟩ HI6.out).mono ?_
        rintro e u8 ⟨⟨x8, y8, z8, rfl, ox, oy, oz⟩, hb⟩
        have hs8 := hb.size
        have HPN := Lib.hid (pbR_len ⟨P, Q, G⟩ sBit h3 l3 xq1 xq4 l6)
        obtain ⟨ok, hok⟩ : ∃ z, pbB ⟨P, Q, G⟩ h3 l3 xq1 xq4 l6 = z := ⟨_, rfl⟩
        rw [hok]
        clear hok
        obtain ⟨PD, hPD⟩ : ∃ z, pbR ⟨P, Q, G⟩ sBit h3 l3 xq1 xq4 l6 = z := ⟨_, rfl⟩
        rw [hPD] at ox oy oz HPN
        clear hPD
        obtain ⟨xa, xn, xc, rfl⟩ := ox.ints.shape
        obtain ⟨ya, yn, yc, rfl⟩ := oy.ints.shape
        obtain ⟨za, zn, zc, rfl⟩ := oz.ints.shape
        have HOD : Hid (OwnI u8 wr.heap.size (.slice xa xn xc) PD.c ∧ OwnI u8 wr.heap.size (.slice ya yn yc) PD.h ∧ OwnI u8 wr.heap.size (.slice za zn zc) PD.r) := ⟨ox.mono (by omega), oy.mono (by omega), oz.mono (by omega)⟩
        replace HZ1 := Lib.hid (HZ1.out.below hb)
        replace HZ2 := Lib.hid (HZ2.out.below hb)
        replace HBX := Lib.hid (HBX.out.below hb)
        replace HC := Lib.hid (HC.out.keep hb)
        replace HW := Lib.hid (HW.out.trans (Within.of_below hb))
        replace HWr := Lib.hid (HWr.out.trans (Within.of_below hb))
        clear hb ox oy oz c0 c1 c2 d0 d1
        have c0 := HZ1.out.cell (i := 0) rfl
        have c1 := HZ1.out.cell (i := 1) rfl
        have c2 := HZ1.out.cell (i := 2) rfl
        have d0 := HZ2.out.cell (i := 0) rfl
        have d1 := HZ2.out.cell (i := 1) rfl
        refine hK.out _ _ ⟨c0, c1, c2, d0, d1⟩ (fun _ => ?_)
        clear hK K
        (try simp only [Act.put, List.setIfInBounds_toArray, List.set_cons_zero, List.set_cons_succ])
        repeat (refine' wpV_read _ (by kernel_rfl) (fun w' hS' => ?_) ?_; rotate_left; (focus ((try dsimp only at hS'); go_simp; (try with_reducible rfl))); (try simp only [Act.put, List.setIfInBounds_toArray, List.set_cons_zero, List.set_cons_succ]))
        refine wpV_do (by kernel_rfl) (fun K hK => ?_)
        have r0 := HBX.out.cell (i := 0) rfl
        have r1 := HBX.out.cell (i := 1) rfl
        have r2 := HBX.out.cell (i := 2) rfl
        have fr := fun j => HBX.out.frozen j
        have hbl := HBX.out.lt
        clear c0 c1 c2 d0 d1
        obtain ⟨Y, hY⟩ : ∃ Y, Y = ((u8.setCell ⟨uR.heap.size, 0, none⟩ (.slice xa xn xc)).setCell ⟨uR.heap.size, 1, none⟩ (.slice ya yn yc)).setCell ⟨uR.heap.size, 2, none⟩ (.slice za zn zc) := ⟨_, rfl⟩
        have hYl : Within (uR.heap.size) (uR.heap.size + 1) u8 Y := by rw [hY]; exact (((Within.refl (uR.heap.size) (uR.heap.size + 1) u8).setCell (b := uR.heap.size) (by omega) (by omega) 0 (.slice xa xn xc)).setCell (b := uR.heap.size) (by omega) (by omega) 1 (.slice ya yn yc)).setCell (b := uR.heap.size) (by omega) (by omega) 2 (.slice za zn zc)
        have NZ : Hid (BoxN Y (uR.heap.size) 115 [.slice xa xn xc, .slice ya yn yc, .slice za zn zc]) := by unfold Hid; rw [hY]; exact ((HBX.out.set 0 _).set 1 _).set 2 _
        have NC := Lib.hid (((HC.out.setNew (b := uR.heap.size) (by omega) 0 (.slice xa xn xc)).setNew (b := uR.heap.size) (by omega) 1 (.slice ya yn yc)).setNew (b := uR.heap.size) (by omega) 2 (.slice za zn zc))
        have NW := Lib.hid (((HWr.out.setNew (b := uR.heap.size) (by omega) 0 (.slice xa xn xc)).setNew (b := uR.heap.size) (by omega) 1 (.slice ya yn yc)).setNew (b := uR.heap.size) (by omega) 2 (.slice za zn zc))
        have ap1 := HOD.out.1.apart HBX.out (by decide)
        have ap2 := HOD.out.2.1.apart HBX.out (by decide)
        have ap3 := HOD.out.2.2.apart HBX.out (by decide)
        have NO : Hid (OwnI Y wr.heap.size (.slice xa xn xc) PD.c ∧ OwnI Y wr.heap.size (.slice ya yn yc) PD.h ∧ OwnI Y wr.heap.size (.slice za zn zc) PD.r) := by unfold Hid; rw [hY]; exact ⟨(OwnI.setB (OwnI.setB (OwnI.setB HOD.out.1 ap1 0 (.slice xa xn xc)) ap1 1 (.slice ya yn yc)) ap1 2 (.slice za zn zc)), (OwnI.setB (OwnI.setB (OwnI.setB HOD.out.2.1 ap2 0 (.slice xa xn xc)) ap2 1 (.slice ya yn yc)) ap2 2 (.slice za zn zc)), (OwnI.setB (OwnI.setB (OwnI.setB HOD.out.2.2 ap3 0 (.slice xa xn xc)) ap3 1 (.slice ya yn yc)) ap3 2 (.slice za zn zc))⟩
        have NG := Lib.hid (HZ1.out.kept hYl (by omega))
        have NB := Lib.hid (HZ2.out.kept hYl (by omega))
        rw [← hY] at NC NW
        go_simp
        refine hK.out _ _ ?_ (fun _ => ?_)
        · rw [← hY]; exact ⟨NG.out.cell (i := 0) rfl, NG.out.cell (i := 1) rfl, NG.out.cell (i := 2) rfl, NB.out.cell (i := 0) rfl, NB.out.cell (i := 1) rfl⟩
        rw [← hY]
        clear hK K fr r0 r1 r2 hY hYl
        (try simp only [Act.put, List.setIfInBounds_toArray, List.set_cons_zero, List.set_cons_succ])
        refine wpV_done ?_
        go_wp2_with fail
        refine NoPanic.normal ?_
        go_wp2_with fail
        go_meet
        exact ⟨uR.heap.size, xa, xn, xc, ya, yn, yc, za, zn, zc, PD.c, PD.h, PD.r, ok, rfl, rfl, hwb, NZ, NO, HPN, NC.out.mono (by omega), NW⟩
      case rest =>
        obtain ⟨bz, xa, xn, xc, ya, yn, yc, za, zn, zc, lpa, lpb, lpc, ok, rfl, rfl, hwb, HBX, HOD, HPN, HC, HWr⟩ := hcut
        have hsc := HWr.out.size
        obtain ⟨HLpa, HLpb, HLpc⟩ : Hid (OwnI wc wr.heap.size (.slice xa xn xc) lpa) ∧ Hid (OwnI wc wr.heap.size (.slice ya yn yc) lpb) ∧ Hid (OwnI wc wr.heap.size (.slice za zn zc) lpc) := HOD.out
        have HEpa := Lib.hid HLpa.out.ints.len
        have HEpb := Lib.hid HLpb.out.ints.len
        have HEpc := Lib.hid HLpc.out.ints.len
        have hnpa : xn ≤ 30 := by have := HEpa.out; have := HPN.out.1; omega
        have hnpb : yn ≤ 30 := by have := HEpb.out; have := HPN.out.2.1; omega
        have hnpc : zn ≤ 30 := by have := HEpc.out; have := HPN.out.2.2; omega
        replace HW := Lib.hid (HW.out.trans HWr.out)
        replace HX0 := Lib.hid (HX0.out.kept HWr.out (.inl (by omega)))
        replace HX1 := Lib.hid (HX1.out.kept HWr.out (.inl (by omega)))
        replace HZ1 := Lib.hid (HZ1.out.kept HWr.out (.inr (by omega)))
        replace HZ2 := Lib.hid (HZ2.out.kept HWr.out (.inr (by omega)))
        replace HL3 := Lib.hid (HL3.out.within HWr.out (by omega))
        have hbz0 := HBX.out.lt
        clear HWr HOD HPN
        have z_0_0 := HX0.out.cell (i := 0) rfl
        have z_0_1 := HX0.out.cell (i := 1) rfl
        have z_0_2 := HX0.out.cell (i := 2) rfl
        have z_1_0 := HX1.out.cell (i := 0) rfl
        have z_1_1 := HX1.out.cell (i := 1) rfl
        have z_2_0 := HZ1.out.cell (i := 0) rfl
        have z_2_1 := HZ1.out.cell (i := 1) rfl
        have z_2_2 := HZ1.out.cell (i := 2) rfl
        have z_3_0 := HZ2.out.cell (i := 0) rfl
        have z_3_1 := HZ2.out.cell (i := 1) rfl
        have z_4_0 := HBX.out.cell (i := 0) rfl
        have z_4_1 := HBX.out.cell (i := 1) rfl
        have z_4_2 := HBX.out.cell (i := 2) rfl
        try (go_wp2_with fail)
        clear z_0_0 z_0_1 z_0_2 z_1_0 z_1_1 z_2_0 z_2_1 z_2_2 z_3_0 z_3_1 z_4_0 z_4_1 z_4_2
        refine (spec_one U g _ 6 _ HC.out (HW.out.belowOf HUC.out (Nat.le_of_eq HUS.out)) (by omega) ).mono ?_
        rintro e u8 ⟨⟨b8, rfl⟩, hc, hw⟩
        have hsz8 := hw.size
        replace HX0 := Lib.hid (HX0.out.kept hw (.inl (by omega)))
        replace HX1 := Lib.hid (HX1.out.kept hw (.inl (by omega)))
        replace HZ1 := Lib.hid (HZ1.out.kept hw (.inr (by omega)))
        replace HZ2 := Lib.hid (HZ2.out.kept hw (.inr (by omega)))
        replace HBX := Lib.hid (HBX.out.kept hw (.inr (by omega)))
        replace HL3 := Lib.hid (HL3.out.within hw (by omega))
        replace HLpa := Lib.hid (HLpa.out.within hw (by omega))
        replace HLpb := Lib.hid (HLpb.out.within hw (by omega))
        replace HLpc := Lib.hid (HLpc.out.within hw (by omega))
        replace HW := Lib.hid (HW.out.trans hw)
        replace HC := Lib.hid hc
        clear hc hw
        cases b8 with
        | false =>
          have z_0_0 := HX0.out.cell (i := 0) rfl
          have z_0_1 := HX0.out.cell (i := 1) rfl
          have z_0_2 := HX0.out.cell (i := 2) rfl
          have z_1_0 := HX1.out.cell (i := 0) rfl
          have z_1_1 := HX1.out.cell (i := 1) rfl
          have z_2_0 := HZ1.out.cell (i := 0) rfl
          have z_2_1 := HZ1.out.cell (i := 1) rfl
          have z_2_2 := HZ1.out.cell (i := 2) rfl
          have z_3_0 := HZ2.out.cell (i := 0) rfl
          have z_3_1 := HZ2.out.cell (i := 1) rfl
          have z_4_0 := HBX.out.cell (i := 0) rfl
          have z_4_1 := HBX.out.cell (i := 1) rfl
          have z_4_2 := HBX.out.cell (i := 2) rfl
          try (go_wp2_with fail)
          clear z_0_0 z_0_1 z_0_2 z_1_0 z_1_1 z_2_0 z_2_1 z_2_2 z_3_0 z_3_1 z_4_0 z_4_1 z_4_2
          refine (spec_one U g _ 20 _ HC.out (HW.out.belowOf HUC.out (Nat.le_of_eq HUS.out)) (by omega) ).mono ?_
          rintro e u9 ⟨⟨b9, rfl⟩, hc, hw⟩
          have hsz9 := hw.size
          replace HX0 := Lib.hid (HX0.out.kept hw (.inl (by omega)))
          replace HX1 := Lib.hid (HX1.out.kept hw (.inl (by omega)))
          replace HZ1 := Lib.hid (HZ1.out.kept hw (.inr (by omega)))
          replace HZ2 := Lib.hid (HZ2.out.kept hw (.inr (by omega)))
          replace HBX := Lib.hid (HBX.out.kept hw (.inr (by omega)))
          replace HL3 := Lib.hid (HL3.out.within hw (by omega))
          replace HLpa := Lib.hid (HLpa.out.within hw (by omega))
          replace HLpb := Lib.hid (HLpb.out.within hw (by omega))
          replace HLpc := Lib.hid (HLpc.out.within hw (by omega))
          replace HW := Lib.hid (HW.out.trans hw)
          replace HC := Lib.hid hc
          clear hc hw
          cases b9 with
          | false =>
            have z_0_0 := HX0.out.cell (i := 0) rfl
            have z_0_1 := HX0.out.cell (i := 1) rfl
            have z_0_2 := HX0.out.cell (i := 2) rfl
            have z_1_0 := HX1.out.cell (i := 0) rfl
            have z_1_1 := HX1.out.cell (i := 1) rfl
            have z_2_0 := HZ1.out.cell (i := 0) rfl
            have z_2_1 := HZ1.out.cell (i := 1) rfl
            have z_2_2 := HZ1.out.cell (i := 2) rfl
            have z_3_0 := HZ2.out.cell (i := 0) rfl
            have z_3_1 := HZ2.out.cell (i := 1) rfl
            have z_4_0 := HBX.out.cell (i := 0) rfl
            have z_4_1 := HBX.out.cell (i := 1) rfl
            have z_4_2 := HBX.out.cell (i := 2) rfl
            clear z_0_0 z_0_1 z_0_2 z_1_0 z_1_1 z_2_0 z_2_1 z_2_2 z_3_0 z_3_1 z_4_0 z_4_1 z_4_2
            have hsz16 : wr.heap.size ≤ u9.heap.size := HW.out.size
            have HZR := Lib.hid (HOc.out.withinR HW.out (by omega))
            have HQR := Lib.hid (HOl.out.within HW.out (by omega))
            have HXI : Hid (I64 r7a) := ⟨by omega, by omega⟩
            have P1 := Lib.hid (Parted.since (Y := wr) (HLpa.out.mono (by omega)) HOc.out)
            have P2 := Lib.hid (Parted.since (Y := wr) (HLpb.out.mono (by omega)) HOc.out)
            have P3 := Lib.hid (Parted.since (Y := wr) (HLpc.out.mono (by omega)) HOc.out)
            have M1 : Hid (OwnI u9 uE.heap.size _ _) := HLpa.out.mono (by omega)
            have M2 : Hid (OwnI u9 uE.heap.size _ _) := HLpb.out.mono (by omega)
            have M3 : Hid (OwnI u9 uE.heap.size _ _) := HLpc.out.mono (by omega)
            have HAX := Lib.hid (HZR.out.apart HBX.out (by decide))
            have hub : uE.heap.size ≤ u9.heap.size := by omega
            have b0 := HBX.out.cell (i := 0) rfl
            have b1 := HBX.out.cell (i := 1) rfl
            have b2 := HBX.out.cell (i := 2) rfl
            go_upto_region 17 with (at_builtin; refine wpList_append_oneX rfl _ _ rfl uE.heap.size (.slice ca cn cc) _ cl r7a (cn + 1) rfl (HZR.out.alloc _) rfl (Ints.lit1 _ HXI.out) (by rw [HCN.out]; omega) (by simp; omega) (by rw [HCN.out]) ?_; intro a5 c5 w5 hown5 hgr5 hn5; have hal : Below u9.heap.size u9 (u9.alloc (.cells #[.int .i64 r7a] 3)) := (Below.refl _ _).alloc (Nat.le_refl _) _; have hga := grownBy_trans (grownBy_of_below hal) hgr5; have HQ5 := Lib.hid ((HQR.out.below hal).ints (HZR.out.alloc _) hgr5 hn5); have HZ5 := Lib.hid hown5; have N1 := Lib.hid (M1.out.kept hga P1.out); have N2 := Lib.hid (M2.out.kept hga P2.out); have N3 := Lib.hid (M3.out.kept hga P3.out); have R1 := Lib.hid (P1.out.new (M1.out.alloc _) hn5); have R2 := Lib.hid (P2.out.new (M2.out.alloc _) hn5); have R3 := Lib.hid (P3.out.new (M3.out.alloc _) hn5); have NB := Lib.hid (HBX.out.grownR hga HAX.out); have hb5 := HZR.out.grown hga hub; have HB5 := Lib.hid hb5; have hs5 := hb5.size; clear hown5 hgr5 hn5 hal hga hb5 b0 b1 b2; have b0 := NB.out.cell (i := 0) rfl; have b1 := NB.out.cell (i := 1) rfl; have b2 := NB.out.cell (i := 2) rfl)
            go_wp2_with (at_builtin; refine wpList_append_Q (d := ⟨lpa, lpb, lpc⟩) (v := .slice pa cn pc) (z := .slice a5 (cn + 1) c5) (ds := pl) (l := cl ++ [r7a]) rfl _ _ rfl w5.heap.size (cn + 1) (.slice xa xn xc) (.slice ya yn yc) (.slice za zn zc) rfl (HQ5.out.below ((Below.refl _ _).alloc (Nat.le_refl _) _)) (HZ5.out.alloc _) (N1.out.alloc _) (N2.out.alloc _) (N3.out.alloc _) R1.out R2.out R3.out rfl ((BoxN.new w5 [.slice xa xn xc, .slice ya yn yc, .slice za zn zc] 115).cell (i := 0) rfl) ((BoxN.new w5 [.slice xa xn xc, .slice ya yn yc, .slice za zn zc] 115).cell (i := 1) rfl) ((BoxN.new w5 [.slice xa xn xc, .slice ya yn yc, .slice za zn zc] 115).cell (i := 2) rfl) (by simp; omega) (by rw [HPL.out]; omega) (by rw [HPL.out]) ?_; intro a7 c7 w7 hq7 hz7 hgr7; have hal7 : Below w5.heap.size w5 (w5.alloc (.cells #[.slice xa xn xc, .slice ya yn yc, .slice za zn zc] 115)) := (Below.refl _ _).alloc (Nat.le_refl _) _; have hb7 := (Below.refl uE.heap.size (w5.alloc (.cells #[.slice xa xn xc, .slice ya yn yc, .slice za zn zc] 115))).grown hgr7 (by simp; omega) (fun k hk => ((HQ5.out.below hal7).lt k hk).1); have HB7 := Lib.hid ((hal7.mono (show uE.heap.size ≤ w5.heap.size by omega)).trans hb7); have HQ7 := Lib.hid hq7; have HZ7 := Lib.hid hz7; clear hq7 hz7 hgr7 hal7 hb7 b0 b1 b2)
            have HB9 := Lib.hid (HB5.out.trans HB7.out)
            go_roundg (gk - 1)
            case measure => omega
            case rel => exact ⟨cl ++ [r7a], pl ++ [⟨lpa, lpb, lpc⟩], by first | rfl | (congr 1; omega), by rw [List.length_append, HCN.out]; simp only [List.length_cons, List.length_nil]; omega, by rw [List.length_append, List.length_append, HCN.out, HPL.out]; rfl, HZ7, HQ7, Lib.hid ((HC.out.belowB HB9.out (by omega)).mono (by omega)), Lib.hid ((HWz.out.trans HW.out).belowStep HB9.out)⟩
          | true =>
            have z_0_0 := HX0.out.cell (i := 0) rfl
            have z_0_1 := HX0.out.cell (i := 1) rfl
            have z_0_2 := HX0.out.cell (i := 2) rfl
            have z_1_0 := HX1.out.cell (i := 0) rfl
            have z_1_1 := HX1.out.cell (i := 1) rfl
            have z_2_0 := HZ1.out.cell (i := 0) rfl
            have z_2_1 := HZ1.out.cell (i := 1) rfl
            have z_2_2 := HZ1.out.cell (i := 2) rfl
            have z_3_0 := HZ2.out.cell (i := 0) rfl
            have z_3_1 := HZ2.out.cell (i := 1) rfl
            have z_4_0 := HBX.out.cell (i := 0) rfl
            have z_4_1 := HBX.out.cell (i := 1) rfl
            have z_4_2 := HBX.out.cell (i := 2) rfl
            try (go_wp2_with fail)
            clear z_0_0 z_0_1 z_0_2 z_1_0 z_1_1 z_2_0 z_2_1 z_2_2 z_3_0 z_3_1 z_4_0 z_4_1 z_4_2
            refine (spec_anyElement U g _ P Q G _ HC.out (HW.out.belowOf HUC.out (Nat.le_of_eq HUS.out)) (by omega) HGR.out).mono ?_
            rintro e u10 ⟨⟨x10, rfl, x10l, x10u⟩, hc, hw⟩
            have hsz10 := hw.size
            replace HX0 := Lib.hid (HX0.out.kept hw (.inl (by omega)))
            replace HX1 := Lib.hid (HX1.out.kept hw (.inl (by omega)))
            replace HZ1 := Lib.hid (HZ1.out.kept hw (.inr (by omega)))
            replace HZ2 := Lib.hid (HZ2.out.kept hw (.inr (by omega)))
            replace HBX := Lib.hid (HBX.out.kept hw (.inr (by omega)))
            replace HL3 := Lib.hid (HL3.out.within hw (by omega))
            replace HLpa := Lib.hid (HLpa.out.within hw (by omega))
            replace HLpb := Lib.hid (HLpb.out.within hw (by omega))
            replace HLpc := Lib.hid (HLpc.out.within hw (by omega))
            replace HW := Lib.hid (HW.out.trans hw)
            replace HC := Lib.hid hc
            clear hc hw
            have z_0_0 := HX0.out.cell (i := 0) rfl
            have z_0_1 := HX0.out.cell (i := 1) rfl
            have z_0_2 := HX0.out.cell (i := 2) rfl
            have z_1_0 := HX1.out.cell (i := 0) rfl
            have z_1_1 := HX1.out.cell (i := 1) rfl
            have z_2_0 := HZ1.out.cell (i := 0) rfl
            have z_2_1 := HZ1.out.cell (i := 1) rfl
            have z_2_2 := HZ1.out.cell (i := 2) rfl
            have z_3_0 := HZ2.out.cell (i := 0) rfl
            have z_3_1 := HZ2.out.cell (i := 1) rfl
            have z_4_0 := HBX.out.cell (i := 0) rfl
            have z_4_1 := HBX.out.cell (i := 1) rfl
            have z_4_2 := HBX.out.cell (i := 2) rfl
            clear z_0_0 z_0_1 z_0_2 z_1_0 z_1_1 z_2_0 z_2_1 z_2_2 z_3_0 z_3_1 z_4_0 z_4_1 z_4_2
            have hsz16 : wr.heap.size ≤ u10.heap.size := HW.out.size
            have HZR := Lib.hid (HOc.out.withinR HW.out (by omega))
            have HQR := Lib.hid (HOl.out.within HW.out (by omega))
            have HXI : Hid (I64 x10) := ⟨by omega, by omega⟩
            have P1 := Lib.hid (Parted.since (Y := wr) (HLpa.out.mono (by omega)) HOc.out)
            have P2 := Lib.hid (Parted.since (Y := wr) (HLpb.out.mono (by omega)) HOc.out)
            have P3 := Lib.hid (Parted.since (Y := wr) (HLpc.out.mono (by omega)) HOc.out)
            have M1 : Hid (OwnI u10 uE.heap.size _ _) := HLpa.out.mono (by omega)
            have M2 : Hid (OwnI u10 uE.heap.size _ _) := HLpb.out.mono (by omega)
            have M3 : Hid (OwnI u10 uE.heap.size _ _) := HLpc.out.mono (by omega)
            have HAX := Lib.hid (HZR.out.apart HBX.out (by decide))
            have hub : uE.heap.size ≤ u10.heap.size := by omega
            have b0 := HBX.out.cell (i := 0) rfl
            have b1 := HBX.out.cell (i := 1) rfl
            have b2 := HBX.out.cell (i := 2) rfl
            go_upto_region 17 with (at_builtin; refine wpList_append_oneX rfl _ _ rfl uE.heap.size (.slice ca cn cc) _ cl x10 (cn + 1) rfl (HZR.out.alloc _) rfl (Ints.lit1 _ HXI.out) (by rw [HCN.out]; omega) (by simp; omega) (by rw [HCN.out]) ?_; intro a5 c5 w5 hown5 hgr5 hn5; have hal : Below u10.heap.size u10 (u10.alloc (.cells #[.int .i64 x10] 3)) := (Below.refl _ _).alloc (Nat.le_refl _) _; have hga := grownBy_trans (grownBy_of_below hal) hgr5; have HQ5 := Lib.hid ((HQR.out.below hal).ints (HZR.out.alloc _) hgr5 hn5); have HZ5 := Lib.hid hown5; have N1 := Lib.hid (M1.out.kept hga P1.out); have N2 := Lib.hid (M2.out.kept hga P2.out); have N3 := Lib.hid (M3.out.kept hga P3.out); have R1 := Lib.hid (P1.out.new (M1.out.alloc _) hn5); have R2 := Lib.hid (P2.out.new (M2.out.alloc _) hn5); have R3 := Lib.hid (P3.out.new (M3.out.alloc _) hn5); have NB := Lib.hid (HBX.out.grownR hga HAX.out); have hb5 := HZR.out.grown hga hub; have HB5 := Lib.hid hb5; have hs5 := hb5.size; clear hown5 hgr5 hn5 hal hga hb5 b0 b1 b2; have b0 := NB.out.cell (i := 0) rfl; have b1 := NB.out.cell (i := 1) rfl; have b2 := NB.out.cell (i := 2) rfl)
            go_wp2_with (at_builtin; refine wpList_append_Q (d := ⟨lpa, lpb, lpc⟩) (v := .slice pa cn pc) (z := .slice a5 (cn + 1) c5) (ds := pl) (l := cl ++ [x10]) rfl _ _ rfl w5.heap.size (cn + 1) (.slice xa xn xc) (.slice ya yn yc) (.slice za zn zc) rfl (HQ5.out.below ((Below.refl _ _).alloc (Nat.le_refl _) _)) (HZ5.out.alloc _) (N1.out.alloc _) (N2.out.alloc _) (N3.out.alloc _) R1.out R2.out R3.out rfl ((BoxN.new w5 [.slice xa xn xc, .slice ya yn yc, .slice za zn zc] 115).cell (i := 0) rfl) ((BoxN.new w5 [.slice xa xn xc, .slice ya yn yc, .slice za zn zc] 115).cell (i := 1) rfl) ((BoxN.new w5 [.slice xa xn xc, .slice ya yn yc, .slice za zn zc] 115).cell (i := 2) rfl) (by simp; omega) (by rw [HPL.out]; omega) (by rw [HPL.out]) ?_; intro a7 c7 w7 hq7 hz7 hgr7; have hal7 : Below w5.heap.size w5 (w5.alloc (.cells #[.slice xa xn xc, .slice ya yn yc, .slice za zn zc] 115)) := (Below.refl _ _).alloc (Nat.le_refl _) _; have hb7 := (Below.refl uE.heap.size (w5.alloc (.cells #[.slice xa xn xc, .slice ya yn yc, .slice za zn zc] 115))).grown hgr7 (by simp; omega) (fun k hk => ((HQ5.out.below hal7).lt k hk).1); have HB7 := Lib.hid ((hal7.mono (show uE.heap.size ≤ w5.heap.size by omega)).trans hb7); have HQ7 := Lib.hid hq7; have HZ7 := Lib.hid hz7; clear hq7 hz7 hgr7 hal7 hb7 b0 b1 b2)
            have HB9 := Lib.hid (HB5.out.trans HB7.out)
            go_roundg (gk - 1)
            case measure => omega
            case rel => exact ⟨cl ++ [x10], pl ++ [⟨lpa, lpb, lpc⟩], by first | rfl | (congr 1; omega), by rw [List.length_append, HCN.out]; simp only [List.length_cons, List.length_nil]; omega, by rw [List.length_append, List.length_append, HCN.out, HPL.out]; rfl, HZ7, HQ7, Lib.hid ((HC.out.belowB HB9.out (by omega)).mono (by omega)), Lib.hid ((HWz.out.trans HW.out).belowStep HB9.out)⟩
        | true =>
          have hbz1 := HBX.out.lt
          have z_0_0 := HX0.out.cell (i := 0) rfl
          have z_0_1 := HX0.out.cell (i := 1) rfl
          have z_0_2 := HX0.out.cell (i := 2) rfl
          have z_1_0 := HX1.out.cell (i := 0) rfl
          have z_1_1 := HX1.out.cell (i := 1) rfl
          have z_2_0 := HZ1.out.cell (i := 0) rfl
          have z_2_1 := HZ1.out.cell (i := 1) rfl
          have z_2_2 := HZ1.out.cell (i := 2) rfl
          have z_3_0 := HZ2.out.cell (i := 0) rfl
          have z_3_1 := HZ2.out.cell (i := 1) rfl
          have z_4_0 := HBX.out.cell (i := 0) rfl
          have z_4_1 := HBX.out.cell (i := 1) rfl
          have z_4_2 := HBX.out.cell (i := 2) rfl
          try (go_wp2_with fail)
          clear z_0_0 z_0_1 z_0_2 z_1_0 z_1_1 z_2_0 z_2_1 z_2_2 z_3_0 z_3_1 z_4_0 z_4_1 z_4_2
          refine (spec_spoiltProofO U g _ P Q G _ _ _ lpa lpb lpc _ HC.out (HW.out.belowOf HUC.out (Nat.le_of_eq HUS.out)) (by omega) HGR.out HLpa.out.here HLpb.out.here HLpc.out.here (by have := HEpa.out; omega) (by have := HEpb.out; omega) (by have := HEpc.out; omega)).mono ?_
          rintro e u9 ⟨⟨v9a, v9b, v9c, l9a, l9b, l9c, rfl, ⟨hs9a, hl9a⟩, ⟨hs9b, hl9b⟩, ⟨hs9c, hl9c⟩⟩, hc, hw⟩
          have HL9a := Lib.hid hs9a
          obtain ⟨a9a, n9a, c9a, rfl⟩ := hs9a.here.shape
          have hn9a : n9a ≤ 31 := by have h1 := hs9a.here.len; omega
          have HE9a := Lib.hid hs9a.here.len
          clear hs9a
          have HL9b := Lib.hid hs9b
          obtain ⟨a9b, n9b, c9b, rfl⟩ := hs9b.here.shape
          have hn9b : n9b ≤ 31 := by have h1 := hs9b.here.len; omega
          have HE9b := Lib.hid hs9b.here.len
          clear hs9b
          have HL9c := Lib.hid hs9c
          obtain ⟨a9c, n9c, c9c, rfl⟩ := hs9c.here.shape
          have hn9c : n9c ≤ 31 := by have h1 := hs9c.here.len; omega
          have HE9c := Lib.hid hs9c.here.len
          clear hs9c
          have hsz9 := hw.size
          replace HX0 := Lib.hid (HX0.out.kept hw (.inl (by omega)))
          replace HX1 := Lib.hid (HX1.out.kept hw (.inl (by omega)))
          replace HZ1 := Lib.hid (HZ1.out.kept hw (.inr (by omega)))
          replace HZ2 := Lib.hid (HZ2.out.kept hw (.inr (by omega)))
          replace HBX := Lib.hid (HBX.out.kept hw (.inr (by omega)))
          replace HL3 := Lib.hid (HL3.out.within hw (by omega))
          replace HW := Lib.hid (HW.out.trans hw)
          replace HC := Lib.hid hc
          clear hc hw
          have z_0_0 := HX0.out.cell (i := 0) rfl
          have z_0_1 := HX0.out.cell (i := 1) rfl
          have z_0_2 := HX0.out.cell (i := 2) rfl
          have z_1_0 := HX1.out.cell (i := 0) rfl
          have z_1_1 := HX1.out.cell (i := 1) rfl
          have z_2_0 := HZ1.out.cell (i := 0) rfl
          have z_2_1 := HZ1.out.cell (i := 1) rfl
          have z_2_2 := HZ1.out.cell (i := 2) rfl
          have z_3_0 := HZ2.out.cell (i := 0) rfl
          have z_3_1 := HZ2.out.cell (i := 1) rfl
          have z_4_0 := HBX.out.cell (i := 0) rfl
          have z_4_1 := HBX.out.cell (i := 1) rfl
          have z_4_2 := HBX.out.cell (i := 2) rfl
          have frm := fun j => HBX.out.frozen j
          have ltm := HBX.out.lt
          go_wp2_with fail
          obtain ⟨Y10, hY⟩ : ∃ Y, Y = ((u9.setCell ⟨bz, 0, none⟩ (.slice a9a n9a c9a)).setCell ⟨bz, 1, none⟩ (.slice a9b n9b c9b)).setCell ⟨bz, 2, none⟩ (.slice a9c n9c c9c) := ⟨_, rfl⟩
          have hYl : Within (bz) (bz + 1) u9 Y10 := by rw [hY]; exact ((((Within.refl (bz) (bz + 1) u9).setCell (b := bz) (by omega) (by omega) 0 (.slice a9a n9a c9a)).setCell (b := bz) (by omega) (by omega) 1 (.slice a9b n9b c9b)).setCell (b := bz) (by omega) (by omega) 2 (.slice a9c n9c c9c))
          have hszY10 := hYl.size
          have NHBX : Hid (BoxN Y10 bz 115 [.slice a9a n9a c9a, .slice a9b n9b c9b, .slice a9c n9c c9c]) := by unfold Hid; rw [hY]; exact (((HBX.out.set 0 (.slice a9a n9a c9a)).set 1 (.slice a9b n9b c9b)).set 2 (.slice a9c n9c c9c))
          have NC := Lib.hid (((HC.out.setNew (b := bz) (by omega) 0 (.slice a9a n9a c9a)).setNew (b := bz) (by omega) 1 (.slice a9b n9b c9b)).setNew (b := bz) (by omega) 2 (.slice a9c n9c c9c))
          rw [← hY] at NC
          have NW := Lib.hid (((HW.out.setNew (b := bz) (by omega) 0 (.slice a9a n9a c9a)).setNew (b := bz) (by omega) 1 (.slice a9b n9b c9b)).setNew (b := bz) (by omega) 2 (.slice a9c n9c c9c))
          rw [← hY] at NW
          replace HX0 := Lib.hid (HX0.out.kept hYl (by omega))
          replace HX1 := Lib.hid (HX1.out.kept hYl (by omega))
          replace HZ1 := Lib.hid (HZ1.out.kept hYl (by omega))
          replace HZ2 := Lib.hid (HZ2.out.kept hYl (by omega))
          replace HL3 := Lib.hid (HL3.out.within hYl (by omega))
          replace HL9a := Lib.hid (HL9a.out.within hYl (by omega))
          replace HL9b := Lib.hid (HL9b.out.within hYl (by omega))
          replace HL9c := Lib.hid (HL9c.out.within hYl (by omega))
          rw [← hY]
          clear hY hYl frm ltm HBX HC HW
          have HBX := NHBX
          have HC := NC
          have HW := NW
          clear NHBX NC NW
          clear z_0_0 z_0_1 z_0_2 z_1_0 z_1_1 z_2_0 z_2_1 z_2_2 z_3_0 z_3_1 z_4_0 z_4_1 z_4_2
          have z_0_0 := HX0.out.cell (i := 0) rfl
          have z_0_1 := HX0.out.cell (i := 1) rfl
          have z_0_2 := HX0.out.cell (i := 2) rfl
          have z_1_0 := HX1.out.cell (i := 0) rfl
          have z_1_1 := HX1.out.cell (i := 1) rfl
          have z_2_0 := HZ1.out.cell (i := 0) rfl
          have z_2_1 := HZ1.out.cell (i := 1) rfl
          have z_2_2 := HZ1.out.cell (i := 2) rfl
          have z_3_0 := HZ2.out.cell (i := 0) rfl
          have z_3_1 := HZ2.out.cell (i := 1) rfl
          have z_4_0 := HBX.out.cell (i := 0) rfl
          have z_4_1 := HBX.out.cell (i := 1) rfl
          have z_4_2 := HBX.out.cell (i := 2) rfl
          try (go_wp2_with fail)
          clear z_0_0 z_0_1 z_0_2 z_1_0 z_1_1 z_2_0 z_2_1 z_2_2 z_3_0 z_3_1 z_4_0 z_4_1 z_4_2
          refine (spec_one U g _ 20 _ HC.out (HW.out.belowOf HUC.out (Nat.le_of_eq HUS.out)) (by omega) ).mono ?_
          rintro e u11 ⟨⟨b11, rfl⟩, hc, hw⟩
          have hsz11 := hw.size
          replace HX0 := Lib.hid (HX0.out.kept hw (.inl (by omega)))
          replace HX1 := Lib.hid (HX1.out.kept hw (.inl (by omega)))
          replace HZ1 := Lib.hid (HZ1.out.kept hw (.inr (by omega)))
          replace HZ2 := Lib.hid (HZ2.out.kept hw (.inr (by omega)))
          replace HBX := Lib.hid (HBX.out.kept hw (.inr (by omega)))
          replace HL3 := Lib.hid (HL3.out.within hw (by omega))
          replace HL9a := Lib.hid (HL9a.out.within hw (by omega))
          replace HL9b := Lib.hid (HL9b.out.within hw (by omega))
          replace HL9c := Lib.hid (HL9c.out.within hw (by omega))
          replace HW := Lib.hid (HW.out.trans hw)
          replace HC := Lib.hid hc
          clear hc hw
          cases b11 with
          | false =>
            have z_0_0 := HX0.out.cell (i := 0) rfl
            have z_0_1 := HX0.out.cell (i := 1) rfl
            have z_0_2 := HX0.out.cell (i := 2) rfl
            have z_1_0 := HX1.out.cell (i := 0) rfl
            have z_1_1 := HX1.out.cell (i := 1) rfl
            have z_2_0 := HZ1.out.cell (i := 0) rfl
            have z_2_1 := HZ1.out.cell (i := 1) rfl
            have z_2_2 := HZ1.out.cell (i := 2) rfl
            have z_3_0 := HZ2.out.cell (i := 0) rfl
            have z_3_1 := HZ2.out.cell (i := 1) rfl
            have z_4_0 := HBX.out.cell (i := 0) rfl
            have z_4_1 := HBX.out.cell (i := 1) rfl
            have z_4_2 := HBX.out.cell (i := 2) rfl
            clear z_0_0 z_0_1 z_0_2 z_1_0 z_1_1 z_2_0 z_2_1 z_2_2 z_3_0 z_3_1 z_4_0 z_4_1 z_4_2
            have hsz16 : wr.heap.size ≤ u11.heap.size := HW.out.size
            have HZR := Lib.hid (HOc.out.withinR HW.out (by omega))
            have HQR := Lib.hid (HOl.out.within HW.out (by omega))
            have HXI : Hid (I64 r7a) := ⟨by omega, by omega⟩
            have P1 := Lib.hid (Parted.since (Y := wr) (HL9a.out.mono (by omega)) HOc.out)
            have P2 := Lib.hid (Parted.since (Y := wr) (HL9b.out.mono (by omega)) HOc.out)
            have P3 := Lib.hid (Parted.since (Y := wr) (HL9c.out.mono (by omega)) HOc.out)
            have M1 : Hid (OwnI u11 uE.heap.size _ _) := HL9a.out.mono (by omega)
            have M2 : Hid (OwnI u11 uE.heap.size _ _) := HL9b.out.mono (by omega)
            have M3 : Hid (OwnI u11 uE.heap.size _ _) := HL9c.out.mono (by omega)
            have HAX := Lib.hid (HZR.out.apart HBX.out (by decide))
            have hub : uE.heap.size ≤ u11.heap.size := by omega
            have b0 := HBX.out.cell (i := 0) rfl
            have b1 := HBX.out.cell (i := 1) rfl
            have b2 := HBX.out.cell (i := 2) rfl
            go_upto_region 17 with (at_builtin; refine wpList_append_oneX rfl _ _ rfl uE.heap.size (.slice ca cn cc) _ cl r7a (cn + 1) rfl (HZR.out.alloc _) rfl (Ints.lit1 _ HXI.out) (by rw [HCN.out]; omega) (by simp; omega) (by rw [HCN.out]) ?_; intro a5 c5 w5 hown5 hgr5 hn5; have hal : Below u11.heap.size u11 (u11.alloc (.cells #[.int .i64 r7a] 3)) := (Below.refl _ _).alloc (Nat.le_refl _) _; have hga := grownBy_trans (grownBy_of_below hal) hgr5; have HQ5 := Lib.hid ((HQR.out.below hal).ints (HZR.out.alloc _) hgr5 hn5); have HZ5 := Lib.hid hown5; have N1 := Lib.hid (M1.out.kept hga P1.out); have N2 := Lib.hid (M2.out.kept hga P2.out); have N3 := Lib.hid (M3.out.kept hga P3.out); have R1 := Lib.hid (P1.out.new (M1.out.alloc _) hn5); have R2 := Lib.hid (P2.out.new (M2.out.alloc _) hn5); have R3 := Lib.hid (P3.out.new (M3.out.alloc _) hn5); have NB := Lib.hid (HBX.out.grownR hga HAX.out); have hb5 := HZR.out.grown hga hub; have HB5 := Lib.hid hb5; have hs5 := hb5.size; clear hown5 hgr5 hn5 hal hga hb5 b0 b1 b2; have b0 := NB.out.cell (i := 0) rfl; have b1 := NB.out.cell (i := 1) rfl; have b2 := NB.out.cell (i := 2) rfl)
            go_wp2_with (at_builtin; refine wpList_append_Q (d := ⟨l9a, l9b, l9c⟩) (v := .slice pa cn pc) (z := .slice a5 (cn + 1) c5) (ds := pl) (l := cl ++ [r7a]) rfl _ _ rfl w5.heap.size (cn + 1) (.slice a9a n9a c9a) (.slice a9b n9b c9b) (.slice a9c n9c c9c) rfl (HQ5.out.below ((Below.refl _ _).alloc (Nat.le_refl _) _)) (HZ5.out.alloc _) (N1.out.alloc _) (N2.out.alloc _) (N3.out.alloc _) R1.out R2.out R3.out rfl ((BoxN.new w5 [.slice a9a n9a c9a, .slice a9b n9b c9b, .slice a9c n9c c9c] 115).cell (i := 0) rfl) ((BoxN.new w5 [.slice a9a n9a c9a, .slice a9b n9b c9b, .slice a9c n9c c9c] 115).cell (i := 1) rfl) ((BoxN.new w5 [.slice a9a n9a c9a, .slice a9b n9b c9b, .slice a9c n9c c9c] 115).cell (i := 2) rfl) (by simp; omega) (by rw [HPL.out]; omega) (by rw [HPL.out]) ?_; intro a7 c7 w7 hq7 hz7 hgr7; have hal7 : Below w5.heap.size w5 (w5.alloc (.cells #[.slice a9a n9a c9a, .slice a9b n9b c9b, .slice a9c n9c c9c] 115)) := (Below.refl _ _).alloc (Nat.le_refl _) _; have hb7 := (Below.refl uE.heap.size (w5.alloc (.cells #[.slice a9a n9a c9a, .slice a9b n9b c9b, .slice a9c n9c c9c] 115))).grown hgr7 (by simp; omega) (fun k hk => ((HQ5.out.below hal7).lt k hk).1); have HB7 := Lib.hid ((hal7.mono (show uE.heap.size ≤ w5.heap.size by omega)).trans hb7); have HQ7 := Lib.hid hq7; have HZ7 := Lib.hid hz7; clear hq7 hz7 hgr7 hal7 hb7 b0 b1 b2)
            have HB9 := Lib.hid (HB5.out.trans HB7.out)
            go_roundg (gk - 1)
            case measure => omega
            case rel => exact ⟨cl ++ [r7a], pl ++ [⟨l9a, l9b, l9c⟩], by first | rfl | (congr 1; omega), by rw [List.length_append, HCN.out]; simp only [List.length_cons, List.length_nil]; omega, by rw [List.length_append, List.length_append, HCN.out, HPL.out]; rfl, HZ7, HQ7, Lib.hid ((HC.out.belowB HB9.out (by omega)).mono (by omega)), Lib.hid ((HWz.out.trans HW.out).belowStep HB9.out)⟩
          | true =>
            have z_0_0 := HX0.out.cell (i := 0) rfl
            have z_0_1 := HX0.out.cell (i := 1) rfl
            have z_0_2 := HX0.out.cell (i := 2) rfl
            have z_1_0 := HX1.out.cell (i := 0) rfl
            have z_1_1 := HX1.out.cell (i := 1) rfl
            have z_2_0 := HZ1.out.cell (i := 0) rfl
            have z_2_1 := HZ1.out.cell (i := 1) rfl
            have z_2_2 := HZ1.out.cell (i := 2) rfl
            have z_3_0 := HZ2.out.cell (i := 0) rfl
            have z_3_1 := HZ2.out.cell (i := 1) rfl
            have z_4_0 := HBX.out.cell (i := 0) rfl
            have z_4_1 := HBX.out.cell (i := 1) rfl
            have z_4_2 := HBX.out.cell (i := 2) rfl
            try (go_wp2_with fail)
            clear z_0_0 z_0_1 z_0_2 z_1_0 z_1_1 z_2_0 z_2_1 z_2_2 z_3_0 z_3_1 z_4_0 z_4_1 z_4_2
            refine (spec_anyElement U g _ P Q G _ HC.out (HW.out.belowOf HUC.out (Nat.le_of_eq HUS.out)) (by omega) HGR.out).mono ?_
            rintro e u12 ⟨⟨x12, rfl, x12l, x12u⟩, hc, hw⟩
            have hsz12 := hw.size
            replace HX0 := Lib.hid (HX0.out.kept hw (.inl (by omega)))
            replace HX1 := Lib.hid (HX1.out.kept hw (.inl (by omega)))
            replace HZ1 := Lib.hid (HZ1.out.kept hw (.inr (by omega)))
            replace HZ2 := Lib.hid (HZ2.out.kept hw (.inr (by omega)))
            replace HBX := Lib.hid (HBX.out.kept hw (.inr (by omega)))
            replace HL3 := Lib.hid (HL3.out.within hw (by omega))
            replace HL9a := Lib.hid (HL9a.out.within hw (by omega))
            replace HL9b := Lib.hid (HL9b.out.within hw (by omega))
            replace HL9c := Lib.hid (HL9c.out.within hw (by omega))
            replace HW := Lib.hid (HW.out.trans hw)
            replace HC := Lib.hid hc
            clear hc hw
            have z_0_0 := HX0.out.cell (i := 0) rfl
            have z_0_1 := HX0.out.cell (i := 1) rfl
            have z_0_2 := HX0.out.cell (i := 2) rfl
            have z_1_0 := HX1.out.cell (i := 0) rfl
            have z_1_1 := HX1.out.cell (i := 1) rfl
            have z_2_0 := HZ1.out.cell (i := 0) rfl
            have z_2_1 := HZ1.out.cell (i := 1) rfl
            have z_2_2 := HZ1.out.cell (i := 2) rfl
            have z_3_0 := HZ2.out.cell (i := 0) rfl
            have z_3_1 := HZ2.out.cell (i := 1) rfl
            have z_4_0 := HBX.out.cell (i := 0) rfl
            have z_4_1 := HBX.out.cell (i := 1) rfl
            have z_4_2 := HBX.out.cell (i := 2) rfl
            clear z_0_0 z_0_1 z_0_2 z_1_0 z_1_1 z_2_0 z_2_1 z_2_2 z_3_0 z_3_1 z_4_0 z_4_1 z_4_2
            have hsz16 : wr.heap.size ≤ u12.heap.size := HW.out.size
            have HZR := Lib.hid (HOc.out.withinR HW.out (by omega))
            have HQR := Lib.hid (HOl.out.within HW.out (by omega))
            have HXI : Hid (I64 x12) := ⟨by omega, by omega⟩
            have P1 := Lib.hid (Parted.since (Y := wr) (HL9a.out.mono (by omega)) HOc.out)
            have P2 := Lib.hid (Parted.since (Y := wr) (HL9b.out.mono (by omega)) HOc.out)
            have P3 := Lib.hid (Parted.since (Y := wr) (HL9c.out.mono (by omega)) HOc.out)
            have M1 : Hid (OwnI u12 uE.heap.size _ _) := HL9a.out.mono (by omega)
            have M2 : Hid (OwnI u12 uE.heap.size _ _) := HL9b.out.mono (by omega)
            have M3 : Hid (OwnI u12 uE.heap.size _ _) := HL9c.out.mono (by omega)
            have HAX := Lib.hid (HZR.out.apart HBX.out (by decide))
            have hub : uE.heap.size ≤ u12.heap.size := by omega
            have b0 := HBX.out.cell (i := 0) rfl
            have b1 := HBX.out.cell (i := 1) rfl
            have b2 := HBX.out.cell (i := 2) rfl
            go_upto_region 17 with (at_builtin; refine wpList_append_oneX rfl _ _ rfl uE.heap.size (.slice ca cn cc) _ cl x12 (cn + 1) rfl (HZR.out.alloc _) rfl (Ints.lit1 _ HXI.out) (by rw [HCN.out]; omega) (by simp; omega) (by rw [HCN.out]) ?_; intro a5 c5 w5 hown5 hgr5 hn5; have hal : Below u12.heap.size u12 (u12.alloc (.cells #[.int .i64 x12] 3)) := (Below.refl _ _).alloc (Nat.le_refl _) _; have hga := grownBy_trans (grownBy_of_below hal) hgr5; have HQ5 := Lib.hid ((HQR.out.below hal).ints (HZR.out.alloc _) hgr5 hn5); have HZ5 := Lib.hid hown5; have N1 := Lib.hid (M1.out.kept hga P1.out); have N2 := Lib.hid (M2.out.kept hga P2.out); have N3 := Lib.hid (M3.out.kept hga P3.out); have R1 := Lib.hid (P1.out.new (M1.out.alloc _) hn5); have R2 := Lib.hid (P2.out.new (M2.out.alloc _) hn5); have R3 := Lib.hid (P3.out.new (M3.out.alloc _) hn5); have NB := Lib.hid (HBX.out.grownR hga HAX.out); have hb5 := HZR.out.grown hga hub; have HB5 := Lib.hid hb5; have hs5 := hb5.size; clear hown5 hgr5 hn5 hal hga hb5 b0 b1 b2; have b0 := NB.out.cell (i := 0) rfl; have b1 := NB.out.cell (i := 1) rfl; have b2 := NB.out.cell (i := 2) rfl)
            go_wp2_with (at_builtin; refine wpList_append_Q (d := ⟨l9a, l9b, l9c⟩) (v := .slice pa cn pc) (z := .slice a5 (cn + 1) c5) (ds := pl) (l := cl ++ [x12]) rfl _ _ rfl w5.heap.size (cn + 1) (.slice a9a n9a c9a) (.slice a9b n9b c9b) (.slice a9c n9c c9c) rfl (HQ5.out.below ((Below.refl _ _).alloc (Nat.le_refl _) _)) (HZ5.out.alloc _) (N1.out.alloc _) (N2.out.alloc _) (N3.out.alloc _) R1.out R2.out R3.out rfl ((BoxN.new w5 [.slice a9a n9a c9a, .slice a9b n9b c9b, .slice a9c n9c c9c] 115).cell (i := 0) rfl) ((BoxN.new w5 [.slice a9a n9a c9a, .slice a9b n9b c9b, .slice a9c n9c c9c] 115).cell (i := 1) rfl) ((BoxN.new w5 [.slice a9a n9a c9a, .slice a9b n9b c9b, .slice a9c n9c c9c] 115).cell (i := 2) rfl) (by simp; omega) (by rw [HPL.out]; omega) (by rw [HPL.out]) ?_; intro a7 c7 w7 hq7 hz7 hgr7; have hal7 : Below w5.heap.size w5 (w5.alloc (.cells #[.slice a9a n9a c9a, .slice a9b n9b c9b, .slice a9c n9c c9c] 115)) := (Below.refl _ _).alloc (Nat.le_refl _) _; have hb7 := (Below.refl uE.heap.size (w5.alloc (.cells #[.slice a9a n9a c9a, .slice a9b n9b c9b, .slice a9c n9c c9c] 115))).grown hgr7 (by simp; omega) (fun k hk => ((HQ5.out.below hal7).lt k hk).1); have HB7 := Lib.hid ((hal7.mono (show uE.heap.size ≤ w5.heap.size by omega)).trans hb7); have HQ7 := Lib.hid hq7; have HZ7 := Lib.hid hz7; clear hq7 hz7 hgr7 hal7 hb7 b0 b1 b2)
            have HB9 := Lib.hid (HB5.out.trans HB7.out)
            go_roundg (gk - 1)
            case measure => omega
            case rel => exact ⟨cl ++ [x12], pl ++ [⟨l9a, l9b, l9c⟩], by first | rfl | (congr 1; omega), by rw [List.length_append, HCN.out]; simp only [List.length_cons, List.length_nil]; omega, by rw [List.length_append, List.length_append, HCN.out, HPL.out]; rfl, HZ7, HQ7, Lib.hid ((HC.out.belowB HB9.out (by omega)).mono (by omega)), Lib.hid ((HWz.out.trans HW.out).belowStep HB9.out)⟩
    · obtain rfl : gk = 0 := by omega
      have HLo1 : Hid (Since uE.heap.size wr (fun z => Ints z (.slice ca cn cc) cl)) := Since.of_ownI HOc.out (Nat.le_refl _)
      have HLo2 := HOl
      have HEo1 := HCN
      have HEo2 := HPL
      have HW := HWz
      replace HC := Lib.hid (HC.out.mono (n' := 2000000000) (by omega))
      clear HOc HOl HWz
      have hno1 : cn ≤ 4 := by omega
      have z_0_0 := HX0.out.cell (i := 0) rfl
      have z_0_1 := HX0.out.cell (i := 1) rfl
      have z_0_2 := HX0.out.cell (i := 2) rfl
      have z_1_0 := HX1.out.cell (i := 0) rfl
      have z_1_1 := HX1.out.cell (i := 1) rfl
      have z_2_0 := HZ1.out.cell (i := 0) rfl
      have z_2_1 := HZ1.out.cell (i := 1) rfl
      have z_2_2 := HZ1.out.cell (i := 2) rfl
      have z_3_0 := HZ2.out.cell (i := 0) rfl
      have z_3_1 := HZ2.out.cell (i := 1) rfl
      try (go_wp2_with fail)
      clear z_0_0
      clear z_0_1
      clear z_0_2
      clear z_1_0
      clear z_1_1
      refine wp_region_noPanic ?_
      refine wp_region_V (fun w' => w'.cell? ⟨u1.heap.size, 0, none⟩ = some (.int .i64 P) ∧ w'.cell? ⟨u1.heap.size, 1, none⟩ = some (.int .i64 Q) ∧ w'.cell? ⟨u1.heap.size, 2, none⟩ = some (.int .i64 G) ∧ w'.cell? ⟨u3.heap.size, 0, none⟩ = some (.int .i64 h3) ∧ w'.cell? ⟨u3.heap.size, 1, none⟩ = some (.slice a3 n3 c3)) 10 7 (.rd 0 (.rd 1 (.rd 2 (.rd 3 (.alt 4 (.alt 5 (.alt 6 .done .nil) .nil) .nil))))) [7] (by kernel_rfl) (by kernel_rfl) rfl (fun _ _ _ _ _ h => h) ⟨box_at z_2_0 (Below.refl _ _).drew, box_at z_2_1 (Below.refl _ _).drew, box_at z_2_2 (Below.refl _ _).drew, box_at z_3_0 (Below.refl _ _).drew, box_at z_3_1 (Below.refl _ _).drew⟩ ?_
      simp only [pickV, pickN, List.getElem?_cons_zero, List.getElem?_cons_succ]
      repeat (refine' wpV_read _ (by kernel_rfl) (fun w' hS' => ?_) ?_; rotate_left; (focus ((try dsimp only at hS'); go_simp; (try with_reducible rfl))); (try simp only [Act.put, List.setIfInBounds_toArray, List.set_cons_zero, List.set_cons_succ]))
      have hdr : Below wr.heap.size wr wr.drew := (Below.refl _ _).drew
      have hszd := hdr.size
      replace HX0 := Lib.hid (HX0.out.below hdr)
      replace HX1 := Lib.hid (HX1.out.below hdr)
      replace HZ1 := Lib.hid (HZ1.out.below hdr)
      replace HZ2 := Lib.hid (HZ2.out.below hdr)
      replace HL3 := Lib.hid (HL3.out.below hdr)
      replace HLo1 := Lib.hid (HLo1.out.below hdr)
      replace HLo2 := Lib.hid (HLo2.out.below hdr)
      replace HW := Lib.hid (HW.out.trans (Within.of_below hdr))
      replace HC := Lib.hid (HC.out.keep hdr)
      clear hdr
      refine wpV_do (by kernel_rfl) (fun K hK => ?_)
      -- 4: store
      have r0 := HX0.out.cell (i := 0) rfl
      have r1 := HX0.out.cell (i := 1) rfl
      have r2 := HX0.out.cell (i := 2) rfl
      have fr := fun j => HX0.out.frozen j
      have q0 : wr.cell? ⟨w.heap.size, 0, none⟩ = some (.int .i64 0) := r0
      have q1 : wr.cell? ⟨w.heap.size, 1, none⟩ = some (.int .i64 0) := r1
      have q2 : wr.cell? ⟨w.heap.size, 2, none⟩ = some (.int .i64 0) := r2
      have frd : ∀ j, wr.frozen? ⟨w.heap.size, j, none⟩ = false := fr
      obtain ⟨Y1, hY⟩ : ∃ Y, Y = (((wr.setCell ⟨w.heap.size, 0, none⟩ (.int .i64 P)).setCell ⟨w.heap.size, 1, none⟩ (.int .i64 Q)).setCell ⟨w.heap.size, 2, none⟩ (.int .i64 G)).drew := ⟨_, rfl⟩
      have hYG := hY
      replace hY : Y1 = ((wr.drew.setCell ⟨w.heap.size, 0, none⟩ (.int .i64 P)).setCell ⟨w.heap.size, 1, none⟩ (.int .i64 Q)).setCell ⟨w.heap.size, 2, none⟩ (.int .i64 G) := by rw [hY]; first | rfl | simp [go_sem]
      have hYl : Within (w.heap.size) (w.heap.size + 1) wr.drew Y1 := by rw [hY]; exact ((((Within.refl (w.heap.size) (w.heap.size + 1) wr.drew).setCell (b := w.heap.size) (by omega) (by omega) 0 (.int .i64 P)).setCell (b := w.heap.size) (by omega) (by omega) 1 (.int .i64 Q)).setCell (b := w.heap.size) (by omega) (by omega) 2 (.int .i64 G))
      have HYW : Hid (Within w.heap.size (w.heap.size + 2) wr.drew Y1) := hYl.mono (by omega) (by omega)
      have HYB : Hid (Below w.heap.size w Y1) := hYl.belowU (HW.out.belowOf HBW.out (by omega)) (by omega)
      have HCS : Hid (∀ w', Within w.heap.size (w.heap.size + 2) wr.drew w' → w'.cell? ⟨u1.heap.size, 0, none⟩ = some (.int .i64 P) ∧ w'.cell? ⟨u1.heap.size, 1, none⟩ = some (.int .i64 Q) ∧ w'.cell? ⟨u1.heap.size, 2, none⟩ = some (.int .i64 G) ∧ w'.cell? ⟨u3.heap.size, 0, none⟩ = some (.int .i64 h3) ∧ w'.cell? ⟨u3.heap.size, 1, none⟩ = some (.slice a3 n3 c3)) := fun w' h => ⟨within_at h z_2_0 (by omega), within_at h z_2_1 (by omega), within_at h z_2_2 (by omega), within_at h z_3_0 (by omega), within_at h z_3_1 (by omega)⟩
      go_simp
      refine hK.out _ _ ?_ (fun _ => ?_)
      · rw [← hYG]; exact HCS.out _ HYW.out
      rw [← hYG]
      clear hK K fr r0 r1 r2
      replace HX0 : Hid (BoxN Y1 w.heap.size 24 [.int .i64 P, .int .i64 Q, .int .i64 G]) := by unfold Hid; rw [hY]; exact (((HX0.out.set 0 (.int .i64 P)).set 1 (.int .i64 Q)).set 2 (.int .i64 G))
      replace HX1 := Lib.hid (HX1.out.kept hYl (by omega))
      clear hYG frd q0 q1 q2
      clear hY hYl
      (try simp only [Act.put, List.setIfInBounds_toArray, List.set_cons_zero, List.set_cons_succ])
      clear z_2_0 z_2_1 z_2_2 z_3_0 z_3_1
      obtain ⟨z_2_0, z_2_1, z_2_2, z_3_0, z_3_1⟩ := HCS.out _ HYW.out
      refine wpV_do (by kernel_rfl) (fun K hK => ?_)
      -- 5: store
      have r0 := HX1.out.cell (i := 0) rfl
      have r1 := HX1.out.cell (i := 1) rfl
      have fr := fun j => HX1.out.frozen j
      obtain ⟨Y2, hY⟩ : ∃ Y, Y = (Y1.setCell ⟨w.heap.size + 1, 0, none⟩ (.int .i64 h3)).setCell ⟨w.heap.size + 1, 1, none⟩ (.slice a3 n3 c3) := ⟨_, rfl⟩
      have hYl : Within (w.heap.size + 1) (w.heap.size + 1 + 1) Y1 Y2 := by rw [hY]; exact (((Within.refl (w.heap.size + 1) (w.heap.size + 1 + 1) Y1).setCell (b := w.heap.size + 1) (by omega) (by omega) 0 (.int .i64 h3)).setCell (b := w.heap.size + 1) (by omega) (by omega) 1 (.slice a3 n3 c3))
      replace HYW := Lib.hid (HYW.out.trans (hYl.mono (by omega) (by omega)))
      replace HYB := Lib.hid (hYl.belowU HYB.out (by omega))
      go_simp
      refine hK.out _ _ ?_ (fun _ => ?_)
      · rw [← hY]; exact HCS.out _ HYW.out
      rw [← hY]
      clear hK K fr r0 r1
      replace HX1 : Hid (BoxN Y2 (w.heap.size + 1) 49 [.int .i64 h3, .slice a3 n3 c3]) := by unfold Hid; rw [hY]; exact ((HX1.out.set 0 (.int .i64 h3)).set 1 (.slice a3 n3 c3))
      replace HX0 := Lib.hid (HX0.out.kept hYl (by omega))
      clear hY hYl
      (try simp only [Act.put, List.setIfInBounds_toArray, List.set_cons_zero, List.set_cons_succ])
      clear z_2_0 z_2_1 z_2_2 z_3_0 z_3_1
      obtain ⟨z_2_0, z_2_1, z_2_2, z_3_0, z_3_1⟩ := HCS.out _ HYW.out
      refine wpV_do (by kernel_rfl) (fun K hK => ?_)
      -- 6: load
      go_simp
      refine hK.out _ _ ⟨z_2_0, z_2_1, z_2_2, z_3_0, z_3_1⟩ (fun _ => ?_)
      clear hK K
      (try simp only [Act.put, List.setIfInBounds_toArray, List.set_cons_zero, List.set_cons_succ])
      refine wpV_done ?_
      go_wp2_with fail
      refine NoPanic.normal ?_
      clear z_2_0 z_2_1 z_2_2 z_3_0 z_3_1
      have t_HX0_0 := HX0.out.cell (i := 0) rfl
      have t_HX0_1 := HX0.out.cell (i := 1) rfl
      have t_HX0_2 := HX0.out.cell (i := 2) rfl
      have t_HX1_0 := HX1.out.cell (i := 0) rfl
      have t_HX1_1 := HX1.out.cell (i := 1) rfl
      try (go_wp2_with fail)
      refine bodyPost_ret (v := .tuple #[.agg #[.int .i64 P, .int .i64 Q, .int .i64 G], .agg #[.int .i64 h3, .slice a3 n3 c3], .slice ca cn cc, .slice pa cn pc]) (by simp [results, Try.results21, go_sem, t_HX0_0, t_HX0_1, t_HX0_2, t_HX1_0, t_HX1_1]) rfl ⟨⟨_, _, _, _, _, _, _, _, _, _, rfl, HGR.out, ⟨⟨by omega, by omega⟩, (HL3.out.within HYW.out (by omega)).here, by have := HE3.out; omega⟩, ⟨(HLo1.out.within HYW.out (by omega)).here, by have := HEo1.out; omega⟩, ⟨(HLo2.out.within HYW.out (by omega)).here, by have := HEo2.out; omega⟩⟩, HYB.out⟩
end Go.Proofs.Ytacpnphfopmofaa
