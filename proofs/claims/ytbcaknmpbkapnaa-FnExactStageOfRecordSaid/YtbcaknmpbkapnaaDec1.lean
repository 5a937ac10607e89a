/- Walks: proofs out of records. -/
import Derived.Test.YtbcaknmpbkapnaaDec0
import Derived.Test.YtbcaknmpbkapnaaSplit2
import Derived.Test.YtbcaknmpbkapnaaRegP
namespace Go.Proofs.Ytbcaknmpbkapnaa
open Go.RowKit
set_option linter.unusedSimpArgs false
set_option linter.unusedVariables false

theorem InI.keptG {w w' : World} {lo hi g : Nat} {v : Value} {l : List Int} (h : InI w lo hi v l) (hg : w.grownBy w' (some g)) (hlt : g < lo) : InI w' lo hi v l :=
  ⟨h.1.kept hg (.inr fun e => by have := (h.1.lt g e).1; omega), h.2⟩
theorem InI.oth {w : World} {lo hi b : Nat} {v : Value} {l : List Int} (h : InI w lo hi v l) (hb : b < lo) (j : Nat) (x : Value) : InI (w.setCell ⟨b, j, none⟩ x) lo hi v l :=
  h.keptG (grownBy_setCell _ b j x) hb
theorem BoxN.keptG {w w' : World} {g b : Nat} {t : TypeId} {cs : List Value} (h : BoxN w b t cs) (hg : w.grownBy w' (some g)) (hne : b ≠ g) : BoxN w' b t cs :=
  (hg.block b h.lt (fun e => hne (Option.some.inj e))).trans h
theorem own3 {w : World} {lo hi a b : Nat} {v1 v2 v3 : Value} {d : ProofD} (h1 : InI w lo a v1 d.c) (h2 : InI w a b v2 d.h) (h3 : InI w b hi v3 d.r) (q1 : lo ≤ a) (q2 : a ≤ b) (q3 : b ≤ hi) : rProof.own w lo hi [v1, v2, v3] d :=
  ⟨v1, _, lo, a, a, hi, rfl, h1, ⟨v2, _, a, b, b, hi, rfl, h2, ⟨v3, _, b, hi, hi, hi, rfl, h3, rfl, ⟨Nat.le_refl _, Nat.le_refl _⟩, ⟨q3, Nat.le_refl _⟩, .inl (Nat.le_refl _)⟩, ⟨Nat.le_refl _, by omega⟩, ⟨q2, Nat.le_refl _⟩, .inl (Nat.le_refl _)⟩, ⟨Nat.le_refl _, by omega⟩, ⟨q1, Nat.le_refl _⟩, .inl (Nat.le_refl _)⟩
theorem own0 (w : World) {lo hi : Nat} (h : lo ≤ hi) : rProof.own w lo hi [.slice none 0 0, .slice none 0 0, .slice none 0 0] zeroP :=
  have n : InI w lo lo (.slice none 0 0) [] := ⟨OwnI.nil _ _, fun k hk => by cases hk⟩
  have n2 : InI w lo hi (.slice none 0 0) [] := ⟨OwnI.nil _ _, fun k hk => by cases hk⟩
  own3 (d := zeroP) n n n2 (Nat.le_refl _) (Nat.le_refl _) h
theorem dpD_no {l : List Int} (h : dpB l = false) : dpD l = zeroP := by unfold dpD; rw [if_neg (by rw [h]; simp)]
theorem dpD_yes {l : List Int} (h : dpB l = true) : dpD l = dpV l := by unfold dpD; rw [if_pos h]
set_option maxRecDepth 100000 in
set_option maxHeartbeats 4000000 in
theorem impl_DecodeProof (v : Value) (l : List Int) (w : World) (hl : l.length ≤ 1000000) (h : Ints w v l) :
    Calls Try.prog 21 #[v] w fun e w' => ∃ vs, e = .returned (.tuple #[.agg vs.toArray, .bool (dpB l)]) ∧ rProof.own w' w.heap.size w'.heap.size vs (dpD l) ∧ Below w.heap.size w w' := by
  obtain ⟨a, n, c, rfl⟩ := h.shape
  have H := Lib.hid h; clear h
  obtain ⟨W, hW⟩ : ∃ W, W = w.alloc (.cells #[.slice none 0 0, .slice none 0 0, .slice none 0 0] 26) := ⟨_, rfl⟩
  have HB : Hid (Below w.heap.size w W) := by unfold Hid; rw [hW]; (repeat (first | exact Below.refl _ _ | assumption | refine Below.drew ?_ | refine Below.alloc ?_ (by first | (simp; done) | (simp; omega)) _ | refine Below.setCell ?_ (by first | (simp; done) | (simp; omega)) _))
  have HR : Hid (BoxN W w.heap.size 26 [.slice none 0 0, .slice none 0 0, .slice none 0 0]) := by unfold Hid; rw [hW]; exact BoxN.new w [.slice none 0 0, .slice none 0 0, .slice none 0 0] _
  have hsW : w.heap.size < W.heap.size := by rw [hW]; simp
  obtain ⟨q, hq⟩ : ∃ q, recB l = q := ⟨_, rfl⟩
  have HQ := Lib.hid hq; clear hq
  have HD1 : Hid (listR (l, q) = dq1 l) := by unfold Hid dq1; rw [HQ.out]
  have HLN := Lib.hid (dq_len l)
  go_enter Try.func21, Try.ntmps21
  go_wp2_with fail
  rw [← hW]
  clear hW
  refine (impl_isRecord _ l _ (H.out.below HB.out)).mono ?_
  rintro e w1 ⟨rfl, hb1⟩
  rw [HQ.out]
  have hs1 := hb1.size
  go_wp2_with fail
  obtain ⟨V, hV⟩ : ∃ V, V = w1.alloc (.cells #[.slice a n c, .bool q] 69) := ⟨_, rfl⟩
  rw [← hV]
  have hbV : Below w1.heap.size w1 V := by rw [hV]; exact (Below.refl _ _).alloc (Nat.le_refl _) _
  have hsV : w1.heap.size < V.heap.size := by rw [hV]; simp
  have hBx : Box2 V w1.heap.size 69 (.slice a n c) (.bool q) := by rw [hV]; exact heap_alloc_new _ _
  have HBV : Hid (Below w.heap.size w V) := (HB.out.trans (hb1.mono HB.out.size)).trans (hbV.mono (by omega))
  have HRV := Lib.hid ((HR.out.below hb1).below hbV)
  have HP0 : Hid (RdB w V w1.heap.size (l, q)) := ⟨by omega, _, hBx, H.out⟩
  clear hV hbV hBx hb1
  obtain ⟨g, hg⟩ : ∃ g, w1.heap.size = g := ⟨_, rfl⟩
  rw [hg] at hs1 hsV HP0 ⊢
  clear hg
  have hgw : w.heap.size < g := by omega
  refine (impl_list w g (l, q) V HP0.out HBV.out (by show l.length ≤ _; omega) (by omega)).mono ?_
  rintro e w2 ⟨v1, rfl, hX, hR, hG⟩
  rw [HD1.out] at hX hR
  have HX1 := Lib.hid (InI.of_own hX); clear hX
  have HP1 := Lib.hid hR; clear hR
  have HB2 := Lib.hid (below_grown HBV.out (by omega) hG)
  have HR2 := Lib.hid (HRV.out.keptG hG (by omega))
  have hs2 := hG.size; clear hG
  go_wp2_with fail
  refine (impl_list w g (dq1 l).2 w2 HP1.out HB2.out (by have := HLN.out; omega) (by omega)).mono ?_
  rintro e w3 ⟨v2, rfl, hX, hR, hG⟩
  have HX2 : Hid (InI w3 w2.heap.size w3.heap.size v2 (dq2 l).1) := InI.of_own hX; clear hX
  have HP2 : Hid (RdB w w3 g (dq2 l).2) := hR; clear hR
  have HY1 := Lib.hid (HX1.out.keptG hG (by omega))
  have HB3 := Lib.hid (below_grown HB2.out (by omega) hG)
  have HR3 := Lib.hid (HR2.out.keptG hG (by omega))
  have hs3 := hG.size; clear hG
  go_wp2_with fail
  refine (impl_list w g (dq2 l).2 w3 HP2.out HB3.out (by have := HLN.out; omega) (by omega)).mono ?_
  rintro e w4 ⟨v3, rfl, hX, hR, hG⟩
  have HX3 : Hid (InI w4 w3.heap.size w4.heap.size v3 (dq3 l).1) := InI.of_own hX; clear hX
  have HP3 : Hid (RdB w w4 g (dq3 l).2) := hR; clear hR
  have HZ1 := Lib.hid (HY1.out.keptG hG (by omega))
  have HZ2 := Lib.hid (HX2.out.keptG hG (by omega))
  have HB4 := Lib.hid (below_grown HB3.out (by omega) hG)
  have HR4 := Lib.hid (HR3.out.keptG hG (by omega))
  have hs4 := hG.size; clear hG
  obtain ⟨a1, n1, c1, rfl⟩ := HZ1.out.reads.shape
  obtain ⟨a2, n2, c2, rfl⟩ := HZ2.out.reads.shape
  obtain ⟨a3, n3, c3, rfl⟩ := HX3.out.reads.shape
  go_wp2_with fail
  obtain ⟨X, hX⟩ : ∃ X, X = w4.alloc (.cells #[.slice a1 n1 c1, .slice a2 n2 c2, .slice a3 n3 c3] 26) := ⟨_, rfl⟩
  rw [← hX]
  have hbX : Below w4.heap.size w4 X := by rw [hX]; exact (Below.refl _ _).alloc (Nat.le_refl _) _
  have hsX : w4.heap.size < X.heap.size := by rw [hX]; simp
  have HBX : Hid (Below w.heap.size w X) := HB4.out.trans (hbX.mono (by omega))
  have HRX := Lib.hid (HR4.out.below hbX)
  have HCX : Hid (BoxN X w4.heap.size 26 [.slice a1 n1 c1, .slice a2 n2 c2, .slice a3 n3 c3]) := by unfold Hid; rw [hX]; exact BoxN.new w4 [.slice a1 n1 c1, .slice a2 n2 c2, .slice a3 n3 c3] _
  have HPX : Hid (RdB w X g (dq3 l).2) := HP3.out.kept (hbX.block g (by omega))
  have HO1 := Lib.hid (HZ1.out.next hbX)
  have HO2 := Lib.hid (HZ2.out.next hbX)
  have HO3 := Lib.hid (HX3.out.next hbX)
  clear hX hbX
  refine (impl_ends w g (dq3 l).2 X HPX.out).mono ?_
  rintro e w5 ⟨rfl, rfl⟩
  have HE : Hid (((dq3 l).2.2 && decide ((dq3 l).2.1.length = 0)) = dpB l) := dqB_eq l
  rw [HE.out]
  have r0 := HRX.out.cell (i := 0) rfl
  have r1 := HRX.out.cell (i := 1) rfl
  have r2 := HRX.out.cell (i := 2) rfl
  have fr := fun j => HRX.out.frozen j
  have x0 := HCX.out.cell (i := 0) rfl
  have x1 := HCX.out.cell (i := 1) rfl
  have x2 := HCX.out.cell (i := 2) rfl
  cases hq : dpB l with
  | false =>
    have HV := Lib.hid (dpD_no hq)
    have HBQ := Lib.hid hq
    go_wp2_with fail
    have HRF := Lib.hid (((HRX.out.set 0 (.slice none 0 0)).set 1 (.slice none 0 0)).set 2 (.slice none 0 0))
    have HBF := Lib.hid (((HBX.out.setCell (p := ⟨w.heap.size, 0, none⟩) (Nat.le_refl _) (.slice none 0 0)).setCell (p := ⟨w.heap.size, 1, none⟩) (Nat.le_refl _) (.slice none 0 0)).setCell (p := ⟨w.heap.size, 2, none⟩) (Nat.le_refl _) (.slice none 0 0))
    clear r0 r1 r2 fr x0 x1 x2 hq
    have t0 := HRF.out.cell (i := 0) rfl
    have t1 := HRF.out.cell (i := 1) rfl
    have t2 := HRF.out.cell (i := 2) rfl
    try (go_wp2_with fail)
    refine bodyPost_ret (v := .tuple #[.agg #[.slice none 0 0, .slice none 0 0, .slice none 0 0], .bool false]) (by simp [results, Try.results21, go_sem, t0, t1, t2]) rfl ⟨[.slice none 0 0, .slice none 0 0, .slice none 0 0], by rw [HBQ.out], ?_, HBF.out⟩
    rw [HV.out]
    exact own0 _ HBF.out.size
  | true =>
    have HV := Lib.hid (dpD_yes hq)
    have HDP := Lib.hid (dq_parts hq)
    have HBQ := Lib.hid hq
    go_wp2_with fail
    have HRF := Lib.hid (((HRX.out.set 0 (.slice a1 n1 c1)).set 1 (.slice a2 n2 c2)).set 2 (.slice a3 n3 c3))
    have HBF := Lib.hid (((HBX.out.setCell (p := ⟨w.heap.size, 0, none⟩) (Nat.le_refl _) (.slice a1 n1 c1)).setCell (p := ⟨w.heap.size, 1, none⟩) (Nat.le_refl _) (.slice a2 n2 c2)).setCell (p := ⟨w.heap.size, 2, none⟩) (Nat.le_refl _) (.slice a3 n3 c3))
    clear r0 r1 r2 fr x0 x1 x2 hq
    have t0 := HRF.out.cell (i := 0) rfl
    have t1 := HRF.out.cell (i := 1) rfl
    have t2 := HRF.out.cell (i := 2) rfl
    try (go_wp2_with fail)
    have hsz := HBF.out.size
    refine bodyPost_ret (v := .tuple #[.agg #[.slice a1 n1 c1, .slice a2 n2 c2, .slice a3 n3 c3], .bool true]) (by simp [results, Try.results21, go_sem, t0, t1, t2]) rfl ⟨[.slice a1 n1 c1, .slice a2 n2 c2, .slice a3 n3 c3], by rw [HBQ.out], ?_, HBF.out⟩
    have k := fun {lo hi : Nat} {v : Value} {l : List Int} (h : InI X lo hi v l) (hlt : w.heap.size < lo) => ((h.oth hlt 0 (.slice a1 n1 c1)).oth hlt 1 (.slice a2 n2 c2)).oth hlt 2 (.slice a3 n3 c3)
    rw [HV.out]
    have o1 := k HO1.out (by omega)
    have o2 := k HO2.out (by omega)
    have o3 := k HO3.out (by omega)
    obtain ⟨p1, p2, p3⟩ := HDP.out
    rw [p1] at o1
    rw [p2] at o2
    rw [p3] at o3
    exact rProof.own_mono (own3 (d := dpV l) o1 o2 o3 hs2 hs3 hs4) (by omega) (by simp [size_setC]; omega)
/-- what is taken, what is left; nothing, if nothing may be taken -/
def tX (l : List Int) : List Int := if tokB l = true then takeX l else []
def tR (l : List Int) : List Int := if tokB l = true then takeR l else []
theorem tR_len (l : List Int) : (tR l).length ≤ l.length := by
  unfold tR takeR; split
  · rw [List.length_drop]; omega
  · simp
theorem spec_l4TakeG (w0 : World) (v : Value) (l : List Int) (w : World) (h : Ints w0 v l) (hb0 : Below w0.heap.size w0 w) (hl : l.length ≤ 1000000000) :
    Calls Try.prog 60 #[v] w fun e w' => ∃ v1 v2, e = .returned (.tuple #[v1, v2, .bool (tokB l)]) ∧ OwnI w' w.heap.size v1 (tX l) ∧ Ints w0 v2 (tR l) ∧ Below w.heap.size w w' := by
  cases ht : tokB l with
  | false =>
    refine (spec_l4Take_no v l w (h.below hb0) ht).mono ?_
    rintro e w' ⟨rfl, rfl⟩
    refine ⟨_, _, rfl, ?_, ?_, Below.refl _ _⟩
    · unfold tX; rw [if_neg (by rw [ht]; simp)]; exact OwnI.nil _ _
    · unfold tR; rw [if_neg (by rw [ht]; simp)]; exact Ints.nil _
  | true =>
    refine (spec_l4Take_yes w0 v l w h hb0 hl ht).mono ?_
    rintro e w' ⟨v1, v2, rfl, h1, h2, h3⟩
    refine ⟨_, _, rfl, ?_, ?_, h3⟩
    · unfold tX; rw [if_pos ht]; exact h1
    · unfold tR; rw [if_pos ht]; exact h2
theorem dp_spec {l : List Int} (h : recB l = true) (a b c d : Bool) (ha : tokB l = a) (hb : tokB (tR l) = b) (hc : tokB (tR (tR l)) = c) (hd : decide ((tR (tR (tR l))).length = 0) = d) : dpB l = (a && (b && (c && d))) := by
  unfold dpB
  rw [h, ha, Bool.true_and]
  cases a with
  | false => rfl
  | true =>
    have e1 : tR l = takeR l := by unfold tR; rw [if_pos ha]
    rw [e1] at hb hc hd
    rw [hb]
    cases b with
    | false => rfl
    | true =>
      have e2 : tR (takeR l) = takeR (takeR l) := by unfold tR; rw [if_pos hb]
      rw [e2] at hc hd
      rw [hc]
      cases c with
      | false => rfl
      | true =>
        have e3 : tR (takeR (takeR l)) = takeR (takeR (takeR l)) := by unfold tR; rw [if_pos hc]
        rw [e3] at hd
        rw [hd]
theorem dpV_t {l : List Int} (h : dpB l = true) : tX l = takeX l ∧ tX (tR l) = takeX (takeR l) ∧ tX (tR (tR l)) = takeX (takeR (takeR l)) := by
  unfold dpB at h; simp only [Bool.and_eq_true] at h
  obtain ⟨_, h1, h2, h3, _⟩ := h
  have e1 : tR l = takeR l := by unfold tR; rw [if_pos h1]
  have e2 : tR (takeR l) = takeR (takeR l) := by unfold tR; rw [if_pos h2]
  rw [e1, e2]
  unfold tX
  rw [if_pos h1, if_pos h2, if_pos h3]
  exact ⟨rfl, rfl, rfl⟩
set_option maxRecDepth 100000 in
set_option maxHeartbeats 4000000 in
theorem spec_cReadProof (v : Value) (l : List Int) (w : World) (hl : l.length ≤ 1000000) (h : Ints w v l) :
    Calls Try.prog 43 #[v] w fun e w' => ∃ vs, e = .returned (.tuple #[.agg vs.toArray, .bool (dpB l)]) ∧ rProof.own w' w.heap.size w'.heap.size vs (dpD l) ∧ Below w.heap.size w w' := by
  obtain ⟨a, n, c, rfl⟩ := h.shape
  have H := Lib.hid h; clear h
  obtain ⟨W, hW⟩ : ∃ W, W = w.alloc (.cells #[.slice none 0 0, .slice none 0 0, .slice none 0 0] 26) := ⟨_, rfl⟩
  have HB : Hid (Below w.heap.size w W) := by unfold Hid; rw [hW]; (repeat (first | exact Below.refl _ _ | assumption | refine Below.drew ?_ | refine Below.alloc ?_ (by first | (simp; done) | (simp; omega)) _ | refine Below.setCell ?_ (by first | (simp; done) | (simp; omega)) _))
  have HR : Hid (BoxN W w.heap.size 26 [.slice none 0 0, .slice none 0 0, .slice none 0 0]) := by unfold Hid; rw [hW]; exact BoxN.new w [.slice none 0 0, .slice none 0 0, .slice none 0 0] _
  have hsW : w.heap.size < W.heap.size := by rw [hW]; simp
  obtain ⟨q, hq⟩ : ∃ q, recB l = q := ⟨_, rfl⟩
  have HQ := Lib.hid hq; clear hq
  go_enter Try.func43, Try.ntmps43
  go_wp2_with fail
  rw [← hW]
  clear hW
  refine (spec_l4Record _ l _ (H.out.below HB.out)).mono ?_
  rintro e w1 ⟨rfl, hb1⟩
  rw [HQ.out]
  have hs1 := hb1.size
  have HB1 := Lib.hid (HB.out.trans (hb1.mono HB.out.size))
  have HR1 := Lib.hid (HR.out.below hb1)
  clear hb1
  cases q with
  | false =>
    have HBQ : Hid (dpB l = false) := by unfold Hid dpB; rw [HQ.out]; rfl
    have HV := Lib.hid (dpD_no HBQ.out)
    have r0 := HR1.out.cell (i := 0) rfl
    have r1 := HR1.out.cell (i := 1) rfl
    have r2 := HR1.out.cell (i := 2) rfl
    have fr := fun j => HR1.out.frozen j
    go_wp2_with fail
    have HRF := Lib.hid (((HR1.out.set 0 (.slice none 0 0)).set 1 (.slice none 0 0)).set 2 (.slice none 0 0))
    have HBF := Lib.hid (((HB1.out.setCell (p := ⟨w.heap.size, 0, none⟩) (Nat.le_refl _) (.slice none 0 0)).setCell (p := ⟨w.heap.size, 1, none⟩) (Nat.le_refl _) (.slice none 0 0)).setCell (p := ⟨w.heap.size, 2, none⟩) (Nat.le_refl _) (.slice none 0 0))
    clear r0 r1 r2 fr
    have t0 := HRF.out.cell (i := 0) rfl
    have t1 := HRF.out.cell (i := 1) rfl
    have t2 := HRF.out.cell (i := 2) rfl
    try (go_wp2_with fail)
    refine bodyPost_ret (v := .tuple #[.agg #[.slice none 0 0, .slice none 0 0, .slice none 0 0], .bool false]) (by simp [results, Try.results43, go_sem, t0, t1, t2]) rfl ⟨[.slice none 0 0, .slice none 0 0, .slice none 0 0], by rw [HBQ.out], ?_, HBF.out⟩
    rw [HV.out]
    exact own0 _ HBF.out.size
  | true =>
    have HTL := Lib.hid (tR_len l)
    have HTM := Lib.hid (tR_len (tR l))
    go_wp2_with fail
    refine (spec_l4TakeG w _ l w1 H.out HB1.out (by omega)).mono ?_
    rintro e w2 ⟨v1, u1, rfl, hX, hU, hb⟩
    have HX1 := Lib.hid (InI.of_own hX)
    have HU1 := Lib.hid hU
    have hs2 := hb.size
    have HB2 := Lib.hid (HB1.out.trans (hb.mono HB1.out.size))
    have HR2 := Lib.hid (HR1.out.below hb)
    clear hX hU hb
    obtain ⟨ua1, un1, uc1, rfl⟩ := HU1.out.shape
    obtain ⟨a1, n1, c1, rfl⟩ := HX1.out.reads.shape
    go_wp2_with fail
    refine (spec_l4TakeG w _ (tR l) w2 HU1.out HB2.out (by have := HTL.out; omega)).mono ?_
    rintro e w3 ⟨v2, u2, rfl, hX, hU, hb⟩
    have HX2 := Lib.hid (InI.of_own hX)
    have HU2 := Lib.hid hU
    have hs3 := hb.size
    have HY1 := Lib.hid (HX1.out.next hb)
    have HB3 := Lib.hid (HB2.out.trans (hb.mono HB2.out.size))
    have HR3 := Lib.hid (HR2.out.below hb)
    clear hX hU hb
    obtain ⟨ua2, un2, uc2, rfl⟩ := HU2.out.shape
    obtain ⟨a2, n2, c2, rfl⟩ := HX2.out.reads.shape
    go_wp2_with fail
    refine (spec_l4TakeG w _ (tR (tR l)) w3 HU2.out HB3.out (by have := HTL.out; have := HTM.out; omega)).mono ?_
    rintro e w4 ⟨v3, u3, rfl, hX, hU, hb⟩
    have HX3 := Lib.hid (InI.of_own hX)
    have HU3 := Lib.hid hU
    have hs4 := hb.size
    have HZ1 := Lib.hid (HY1.out.next hb)
    have HZ2 := Lib.hid (HX2.out.next hb)
    have HB4 := Lib.hid (HB3.out.trans (hb.mono HB3.out.size))
    have HR4 := Lib.hid (HR3.out.below hb)
    clear hX hU hb
    obtain ⟨ua3, un3, uc3, rfl⟩ := HU3.out.shape
    obtain ⟨a3, n3, c3, rfl⟩ := HX3.out.reads.shape
    have HUN := Lib.hid HU3.out.len
    have HSP := Lib.hid (dp_spec (l := l) HQ.out)
    obtain ⟨b1, hb1⟩ : ∃ b, tokB l = b := ⟨_, rfl⟩
    obtain ⟨b2, hb2⟩ : ∃ b, tokB (tR l) = b := ⟨_, rfl⟩
    obtain ⟨b3, hb3⟩ : ∃ b, tokB (tR (tR l)) = b := ⟨_, rfl⟩
    rw [hb1, hb2, hb3]
    have HSQ := Lib.hid (fun d hd => HSP.out b1 b2 b3 d hb1 hb2 hb3 hd)
    clear hb1 hb2 hb3
    obtain ⟨d, hd⟩ : ∃ d, decide ((tR (tR (tR l))).length = 0) = d := ⟨_, rfl⟩
    have HSV := Lib.hid (HSQ.out d hd)
    have hdn : decide (un3 = 0) = d := by rw [← hd]; congr 1; rw [HUN.out]
    clear hd
    have HLP : Hid (d = false → 0 < un3) := fun e => by rw [e] at hdn; have := of_decide_eq_false hdn; omega
    have HLQ : Hid (d = true → un3 = 0) := fun e => by rw [e] at hdn; exact of_decide_eq_true hdn
    clear hdn
    have r0 := HR4.out.cell (i := 0) rfl
    have r1 := HR4.out.cell (i := 1) rfl
    have r2 := HR4.out.cell (i := 2) rfl
    have fr := fun j => HR4.out.frozen j
    rcases cx4 b1 b2 b3 d with rfl | ⟨rfl, rfl⟩ | ⟨rfl, rfl, rfl⟩ | ⟨rfl, rfl, rfl, rfl⟩ | ⟨rfl, rfl, rfl, rfl⟩
    rotate_right
    · have HBQ : Hid (dpB l = true) := HSV.out
      have HV := Lib.hid (dpD_yes HBQ.out)
      have HDP := Lib.hid (dpV_t HBQ.out)
      obtain rfl := HLQ.out rfl
      go_wp2_with fail
      have HRF := Lib.hid (((HR4.out.set 0 (.slice a1 n1 c1)).set 1 (.slice a2 n2 c2)).set 2 (.slice a3 n3 c3))
      have HBF := Lib.hid (((HB4.out.setCell (p := ⟨w.heap.size, 0, none⟩) (Nat.le_refl _) (.slice a1 n1 c1)).setCell (p := ⟨w.heap.size, 1, none⟩) (Nat.le_refl _) (.slice a2 n2 c2)).setCell (p := ⟨w.heap.size, 2, none⟩) (Nat.le_refl _) (.slice a3 n3 c3))
      clear r0 r1 r2 fr
      have t0 := HRF.out.cell (i := 0) rfl
      have t1 := HRF.out.cell (i := 1) rfl
      have t2 := HRF.out.cell (i := 2) rfl
      try (go_wp2_with fail)
      have hsz := HBF.out.size
      refine bodyPost_ret (v := .tuple #[.agg #[.slice a1 n1 c1, .slice a2 n2 c2, .slice a3 n3 c3], .bool true]) (by simp [results, Try.results43, go_sem, t0, t1, t2]) rfl ⟨[.slice a1 n1 c1, .slice a2 n2 c2, .slice a3 n3 c3], by rw [HBQ.out], ?_, HBF.out⟩
      have k := fun {lo hi : Nat} {v : Value} {l : List Int} (h : InI w4 lo hi v l) (hlt : w.heap.size < lo) => ((h.oth hlt 0 (.slice a1 n1 c1)).oth hlt 1 (.slice a2 n2 c2)).oth hlt 2 (.slice a3 n3 c3)
      rw [HV.out]
      have o1 := k HZ1.out (by omega)
      have o2 := k HZ2.out (by omega)
      have o3 := k HX3.out (by omega)
      obtain ⟨p1, p2, p3⟩ := HDP.out
      rw [p1] at o1
      rw [p2] at o2
      rw [p3] at o3
      exact rProof.own_mono (own3 (d := dpV l) o1 o2 o3 hs2 hs3 hs4) (by omega) (by simp [size_setC])
    all_goals
      have HBQ : Hid (dpB l = false) := by have h9 := HSV.out; unfold Hid; simpa using h9
      have HV := Lib.hid (dpD_no HBQ.out)
      try (have hpos := HLP.out rfl; have hposi : (0 : Int) < (un3 : Int) := by omega)
      go_wp2_with fail
      have HRF := Lib.hid (((HR4.out.set 0 (.slice none 0 0)).set 1 (.slice none 0 0)).set 2 (.slice none 0 0))
      have HBF := Lib.hid (((HB4.out.setCell (p := ⟨w.heap.size, 0, none⟩) (Nat.le_refl _) (.slice none 0 0)).setCell (p := ⟨w.heap.size, 1, none⟩) (Nat.le_refl _) (.slice none 0 0)).setCell (p := ⟨w.heap.size, 2, none⟩) (Nat.le_refl _) (.slice none 0 0))
      clear r0 r1 r2 fr
      have t0 := HRF.out.cell (i := 0) rfl
      have t1 := HRF.out.cell (i := 1) rfl
      have t2 := HRF.out.cell (i := 2) rfl
      try (go_wp2_with fail)
      refine bodyPost_ret (v := .tuple #[.agg #[.slice none 0 0, .slice none 0 0, .slice none 0 0], .bool false]) (by simp [results, Try.results43, go_sem, t0, t1, t2]) rfl ⟨[.slice none 0 0, .slice none 0 0, .slice none 0 0], by rw [HBQ.out], ?_, HBF.out⟩
      rw [HV.out]
      exact own0 _ HBF.out.size
end Go.Proofs.Ytbcaknmpbkapnaa
