/- Groups: products of powers, powers, products: walks of ProductOfPowers, ExpOf, MulOf. -/
import Derived.Test.YtboahnklilmdpaaBg
namespace Go.Proofs.Ytboahnklilmdpaa
open Go.RowKit
set_option linter.unusedSimpArgs false
set_option linter.unusedVariables false

noncomputable def ppB (gr : GroupD) (l es : List Int) : Bool := goodG gr && (decide (l.length ≤ 24) && (decide (es.length = l.length) && (l.all (elB gr) && es.all (expB gr))))
noncomputable def ppR (gr : GroupD) (l es : List Int) : Int := if ppB gr l es = true then prodL gr l es else 0
noncomputable def exB (gr : GroupD) (x e : Int) : Bool := goodG gr && (elB gr x && expB gr e)
noncomputable def exR (gr : GroupD) (x e : Int) : Int := if exB gr x e = true then powE gr x e else 0
noncomputable def muB (gr : GroupD) (l : List Int) : Bool := goodG gr && (decide (l.length ≤ 24) && l.all (elB gr))
noncomputable def muR (gr : GroupD) (l : List Int) : Int := if muB gr l = true then mulL gr l else 0
set_option maxRecDepth 100000 in
set_option maxHeartbeats 2000000 in
theorem impl_ProductOfPowers (gr : GroupD) (v v2 : Value) (l es : List Int) (w : World) (h : Ints w v l) (h2 : Ints w v2 es) :
    Calls Try.prog 44 #[.agg #[.int .i64 gr.p, .int .i64 gr.q, .int .i64 gr.g], v, v2] w fun e w' => e = .returned (.tuple #[.int .i64 (ppR gr l es), .bool (ppB gr l es)]) ∧ Below w.heap.size w w' := by
  obtain ⟨p, q, g⟩ := gr
  obtain ⟨W, hW⟩ : ∃ W, W = w.alloc (.cells #[.int .i64 p, .int .i64 q, .int .i64 g] 39) := ⟨_, rfl⟩
  have HB : Hid (Below w.heap.size w W) := by unfold Hid; rw [hW]; exact (Below.refl _ _).alloc (Nat.le_refl _) _
  have HX : Hid (BoxN W w.heap.size 39 [.int .i64 p, .int .i64 q, .int .i64 g]) := by unfold Hid; rw [hW]; exact BoxN.new w _ _
  have HSW : Hid (W.heap.size = w.heap.size + 1) := by unfold Hid; rw [hW]; simp
  have HWW := Lib.hid hW
  clear hW
  obtain ⟨a, n, c, rfl⟩ := h.shape
  obtain ⟨a2, n2, c2', rfl⟩ := h2.shape
  have HE := Lib.hid h.len
  have HE2 := Lib.hid h2.len
  obtain ⟨k1, k2⟩ := h.capMax
  obtain ⟨k3, k4⟩ := h2.capMax
  unfold maxLen at k2 k4
  have HL := Lib.hid (h.below HB.out)
  have HL2 := Lib.hid (h2.below HB.out)
  clear h h2
  obtain ⟨b3, hb3⟩ : ∃ b, l.all (elB ⟨p, q, g⟩) = b := ⟨_, rfl⟩
  obtain ⟨b4, hb4⟩ : ∃ b, es.all (expB ⟨p, q, g⟩) = b := ⟨_, rfl⟩
  have H3 := Lib.hid hb3
  have H4 := Lib.hid hb4
  cases hgd : goodG ⟨p, q, g⟩ with
  | false =>
    have H1 := Lib.hid hgd
    have HR : Hid (ppB ⟨p, q, g⟩ l es = false) := by unfold Hid ppB; rw [hgd]; rfl
    have HV : Hid (ppR ⟨p, q, g⟩ l es = 0) := by unfold Hid ppR; rw [HR.out]; rfl
    rw [HR.out, HV.out]
    clear hgd hb3 hb4
    go_enter Try.func44, Try.ntmps44
    go_wp2_with fail
    rw [← HWW.out]
    try rw [← HSW.out]
    clear HWW
    refine (impl_IsValidGroup ⟨p, q, g⟩ _).mono ?_
    rintro e w1 ⟨rfl, hcum⟩
    rw [H1.out]
    have c0 := box_at (HX.out.cell (i := 0) rfl) hcum
    have c1 := box_at (HX.out.cell (i := 1) rfl) hcum
    have c2 := box_at (HX.out.cell (i := 2) rfl) hcum
    go_wp2_with fail
    go_ret2
    exact ⟨rfl, HB.out.trans (hcum.mono HB.out.size)⟩
  | true =>
    have H1 := Lib.hid hgd
    have HG := Lib.hid (goodG_ok hgd)
    clear hgd hb3 hb4
    rcases Nat.lt_or_ge 24 n with h24 | h24
    · have hd : decide ((24 : Int) < (n : Int)) = true := decide_eq_true (by omega)
      have HR : Hid (ppB ⟨p, q, g⟩ l es = false) := by unfold Hid ppB; rw [H1.out]; (try rw [HE.out]); (try rw [HE2.out]); simp; try omega
      have HV : Hid (ppR ⟨p, q, g⟩ l es = 0) := by unfold Hid ppR; rw [HR.out]; rfl
      rw [HR.out, HV.out]
      go_enter Try.func44, Try.ntmps44
      go_wp2_with fail
      rw [← HWW.out]
      try rw [← HSW.out]
      clear HWW
      refine (impl_IsValidGroup ⟨p, q, g⟩ _).mono ?_
      rintro e w1 ⟨rfl, hcum⟩
      rw [H1.out]
      have c0 := box_at (HX.out.cell (i := 0) rfl) hcum
      have c1 := box_at (HX.out.cell (i := 1) rfl) hcum
      have c2 := box_at (HX.out.cell (i := 2) rfl) hcum
      go_wp2_with (first
        | (go_at_call 166; refine (impl_hasAll ⟨p, q, g⟩ _ l _ HG.out (HL.out.below hcum)).mono ?_; rintro e wa ⟨rfl, hba⟩; rw [H3.out]; (replace hcum := Below.next hcum hba); (replace c0 := box_at c0 hba); (replace c1 := box_at c1 hba); (replace c2 := box_at c2 hba); clear hba)
        | (go_at_call 140; refine (impl_areExps ⟨p, q, g⟩ _ es _ HG.out (HL2.out.below hcum)).mono ?_; rintro e wa ⟨rfl, hba⟩; rw [H4.out]; (replace hcum := Below.next hcum hba); (replace c0 := box_at c0 hba); (replace c1 := box_at c1 hba); (replace c2 := box_at c2 hba); clear hba)
        | fail)
      go_ret2
      exact ⟨rfl, HB.out.trans (hcum.mono HB.out.size)⟩
    have hd : decide ((24 : Int) < (n : Int)) = false := decide_eq_false (by omega)
    by_cases hnn : n2 = n
    · subst hnn
      cases b3 with
      | false =>
        have HR : Hid (ppB ⟨p, q, g⟩ l es = false) := by unfold Hid ppB; rw [H1.out, H3.out]; (try rw [HE.out]); (try rw [HE2.out]); simp; try omega
        have HV : Hid (ppR ⟨p, q, g⟩ l es = 0) := by unfold Hid ppR; rw [HR.out]; rfl
        rw [HR.out, HV.out]
        go_enter Try.func44, Try.ntmps44
        go_wp2_with fail
        rw [← HWW.out]
        try rw [← HSW.out]
        clear HWW
        refine (impl_IsValidGroup ⟨p, q, g⟩ _).mono ?_
        rintro e w1 ⟨rfl, hcum⟩
        rw [H1.out]
        have c0 := box_at (HX.out.cell (i := 0) rfl) hcum
        have c1 := box_at (HX.out.cell (i := 1) rfl) hcum
        have c2 := box_at (HX.out.cell (i := 2) rfl) hcum
        go_wp2_with (first
          | (go_at_call 166; refine (impl_hasAll ⟨p, q, g⟩ _ l _ HG.out (HL.out.below hcum)).mono ?_; rintro e wa ⟨rfl, hba⟩; rw [H3.out]; (replace hcum := Below.next hcum hba); (replace c0 := box_at c0 hba); (replace c1 := box_at c1 hba); (replace c2 := box_at c2 hba); clear hba)
          | (go_at_call 140; refine (impl_areExps ⟨p, q, g⟩ _ es _ HG.out (HL2.out.below hcum)).mono ?_; rintro e wa ⟨rfl, hba⟩; rw [H4.out]; (replace hcum := Below.next hcum hba); (replace c0 := box_at c0 hba); (replace c1 := box_at c1 hba); (replace c2 := box_at c2 hba); clear hba)
          | fail)
        go_ret2
        exact ⟨rfl, HB.out.trans (hcum.mono HB.out.size)⟩
      | true =>
        cases b4 with
        | false =>
          have HR : Hid (ppB ⟨p, q, g⟩ l es = false) := by unfold Hid ppB; rw [H1.out, H3.out, H4.out]; (try rw [HE.out]); (try rw [HE2.out]); simp; try omega
          have HV : Hid (ppR ⟨p, q, g⟩ l es = 0) := by unfold Hid ppR; rw [HR.out]; rfl
          rw [HR.out, HV.out]
          go_enter Try.func44, Try.ntmps44
          go_wp2_with fail
          rw [← HWW.out]
          try rw [← HSW.out]
          clear HWW
          refine (impl_IsValidGroup ⟨p, q, g⟩ _).mono ?_
          rintro e w1 ⟨rfl, hcum⟩
          rw [H1.out]
          have c0 := box_at (HX.out.cell (i := 0) rfl) hcum
          have c1 := box_at (HX.out.cell (i := 1) rfl) hcum
          have c2 := box_at (HX.out.cell (i := 2) rfl) hcum
          go_wp2_with (first
            | (go_at_call 166; refine (impl_hasAll ⟨p, q, g⟩ _ l _ HG.out (HL.out.below hcum)).mono ?_; rintro e wa ⟨rfl, hba⟩; rw [H3.out]; (replace hcum := Below.next hcum hba); (replace c0 := box_at c0 hba); (replace c1 := box_at c1 hba); (replace c2 := box_at c2 hba); clear hba)
            | (go_at_call 140; refine (impl_areExps ⟨p, q, g⟩ _ es _ HG.out (HL2.out.below hcum)).mono ?_; rintro e wa ⟨rfl, hba⟩; rw [H4.out]; (replace hcum := Below.next hcum hba); (replace c0 := box_at c0 hba); (replace c1 := box_at c1 hba); (replace c2 := box_at c2 hba); clear hba)
            | fail)
          go_ret2
          exact ⟨rfl, HB.out.trans (hcum.mono HB.out.size)⟩
        | true =>
          have HR : Hid (ppB ⟨p, q, g⟩ l es = true) := by unfold Hid ppB; rw [H1.out, H3.out, H4.out, HE.out, HE2.out]; simp; omega
          have HV : Hid (ppR ⟨p, q, g⟩ l es = prodL ⟨p, q, g⟩ l es) := by unfold Hid ppR; rw [if_pos HR.out]
          have HSM := Lib.hid (all_small HG.out H3.out)
          have HLE : Hid (l.length ≤ es.length) := by unfold Hid; rw [HE.out, HE2.out]; exact Nat.le_refl _
          rw [HR.out, HV.out]
          go_enter Try.func44, Try.ntmps44
          go_wp2_with fail
          rw [← HWW.out]
          try rw [← HSW.out]
          clear HWW
          refine (impl_IsValidGroup ⟨p, q, g⟩ _).mono ?_
          rintro e w1 ⟨rfl, hcum⟩
          rw [H1.out]
          have c0 := box_at (HX.out.cell (i := 0) rfl) hcum
          have c1 := box_at (HX.out.cell (i := 1) rfl) hcum
          have c2 := box_at (HX.out.cell (i := 2) rfl) hcum
          go_wp2_with (first
            | (go_at_call 166; refine (impl_hasAll ⟨p, q, g⟩ _ l _ HG.out (HL.out.below hcum)).mono ?_; rintro e wa ⟨rfl, hba⟩; rw [H3.out]; (replace hcum := Below.next hcum hba); (replace c0 := box_at c0 hba); (replace c1 := box_at c1 hba); (replace c2 := box_at c2 hba); clear hba)
            | (go_at_call 140; refine (impl_areExps ⟨p, q, g⟩ _ es _ HG.out (HL2.out.below hcum)).mono ?_; rintro e wa ⟨rfl, hba⟩; rw [H4.out]; (replace hcum := Below.next hcum hba); (replace c0 := box_at c0 hba); (replace c1 := box_at c1 hba); (replace c2 := box_at c2 hba); clear hba)
            | fail)
          refine (impl_powers ⟨p, q, g⟩ _ _ l es _ HG.out (HL.out.below hcum) (HL2.out.below hcum) HSM.out HLE.out).mono ?_
          rintro e w9 ⟨rfl, hb9⟩
          have hfin := Below.next hcum hb9
          clear hb9 hcum c0 c1 c2
          go_wp2_with fail
          go_ret2
          exact ⟨rfl, HB.out.trans (hfin.mono HB.out.size)⟩
    · have hne : ¬ (n2 : Int) = (n : Int) := by omega
      have hne2 : ((n2 : Int) == (n : Int)) = false := by rw [beq_eq_false_iff_ne]; exact hne
      cases b3 with
      | false =>
        have HR : Hid (ppB ⟨p, q, g⟩ l es = false) := by unfold Hid ppB; rw [H1.out, H3.out]; (try rw [HE.out]); (try rw [HE2.out]); simp; try omega
        have HV : Hid (ppR ⟨p, q, g⟩ l es = 0) := by unfold Hid ppR; rw [HR.out]; rfl
        rw [HR.out, HV.out]
        go_enter Try.func44, Try.ntmps44
        go_wp2_with fail
        rw [← HWW.out]
        try rw [← HSW.out]
        clear HWW
        refine (impl_IsValidGroup ⟨p, q, g⟩ _).mono ?_
        rintro e w1 ⟨rfl, hcum⟩
        rw [H1.out]
        have c0 := box_at (HX.out.cell (i := 0) rfl) hcum
        have c1 := box_at (HX.out.cell (i := 1) rfl) hcum
        have c2 := box_at (HX.out.cell (i := 2) rfl) hcum
        go_wp2_with (first
          | (go_at_call 166; refine (impl_hasAll ⟨p, q, g⟩ _ l _ HG.out (HL.out.below hcum)).mono ?_; rintro e wa ⟨rfl, hba⟩; rw [H3.out]; (replace hcum := Below.next hcum hba); (replace c0 := box_at c0 hba); (replace c1 := box_at c1 hba); (replace c2 := box_at c2 hba); clear hba)
          | (go_at_call 140; refine (impl_areExps ⟨p, q, g⟩ _ es _ HG.out (HL2.out.below hcum)).mono ?_; rintro e wa ⟨rfl, hba⟩; rw [H4.out]; (replace hcum := Below.next hcum hba); (replace c0 := box_at c0 hba); (replace c1 := box_at c1 hba); (replace c2 := box_at c2 hba); clear hba)
          | fail)
        go_ret2
        exact ⟨rfl, HB.out.trans (hcum.mono HB.out.size)⟩
      | true =>
        have HR : Hid (ppB ⟨p, q, g⟩ l es = false) := by unfold Hid ppB; rw [H1.out, H3.out]; (try rw [HE.out]); (try rw [HE2.out]); simp; try omega
        have HV : Hid (ppR ⟨p, q, g⟩ l es = 0) := by unfold Hid ppR; rw [HR.out]; rfl
        rw [HR.out, HV.out]
        go_enter Try.func44, Try.ntmps44
        go_wp2_with fail
        rw [← HWW.out]
        try rw [← HSW.out]
        clear HWW
        refine (impl_IsValidGroup ⟨p, q, g⟩ _).mono ?_
        rintro e w1 ⟨rfl, hcum⟩
        rw [H1.out]
        have c0 := box_at (HX.out.cell (i := 0) rfl) hcum
        have c1 := box_at (HX.out.cell (i := 1) rfl) hcum
        have c2 := box_at (HX.out.cell (i := 2) rfl) hcum
        go_wp2_with (first
          | (go_at_call 166; refine (impl_hasAll ⟨p, q, g⟩ _ l _ HG.out (HL.out.below hcum)).mono ?_; rintro e wa ⟨rfl, hba⟩; rw [H3.out]; (replace hcum := Below.next hcum hba); (replace c0 := box_at c0 hba); (replace c1 := box_at c1 hba); (replace c2 := box_at c2 hba); clear hba)
          | (go_at_call 140; refine (impl_areExps ⟨p, q, g⟩ _ es _ HG.out (HL2.out.below hcum)).mono ?_; rintro e wa ⟨rfl, hba⟩; rw [H4.out]; (replace hcum := Below.next hcum hba); (replace c0 := box_at c0 hba); (replace c1 := box_at c1 hba); (replace c2 := box_at c2 hba); clear hba)
          | fail)
        go_ret2
        exact ⟨rfl, HB.out.trans (hcum.mono HB.out.size)⟩
set_option maxRecDepth 100000 in
set_option maxHeartbeats 2000000 in
theorem impl_ExpOf (gr : GroupD) (x e0 : Int) (w : World) (he0 : I64 e0) :
    Calls Try.prog 43 #[.agg #[.int .i64 gr.p, .int .i64 gr.q, .int .i64 gr.g], .int .i64 x, .int .i64 e0] w fun e w' => e = .returned (.tuple #[.int .i64 (exR gr x e0), .bool (exB gr x e0)]) ∧ Below w.heap.size w w' := by
  obtain ⟨p, q, g⟩ := gr
  obtain ⟨W, hW⟩ : ∃ W, W = w.alloc (.cells #[.int .i64 p, .int .i64 q, .int .i64 g] 39) := ⟨_, rfl⟩
  have HB : Hid (Below w.heap.size w W) := by unfold Hid; rw [hW]; exact (Below.refl _ _).alloc (Nat.le_refl _) _
  have HX : Hid (BoxN W w.heap.size 39 [.int .i64 p, .int .i64 q, .int .i64 g]) := by unfold Hid; rw [hW]; exact BoxN.new w _ _
  have HSW : Hid (W.heap.size = w.heap.size + 1) := by unfold Hid; rw [hW]; simp
  have HWW := Lib.hid hW
  clear hW
  have HE0 := Lib.hid he0; clear he0
  obtain ⟨b3, hb3⟩ : ∃ b, elB ⟨p, q, g⟩ x = b := ⟨_, rfl⟩
  obtain ⟨b4, hb4⟩ : ∃ b, expB ⟨p, q, g⟩ e0 = b := ⟨_, rfl⟩
  have H3 := Lib.hid hb3
  have H4 := Lib.hid hb4
  cases hgd : goodG ⟨p, q, g⟩ with
  | false =>
    have H1 := Lib.hid hgd
    have HR : Hid (exB ⟨p, q, g⟩ x e0 = false) := by unfold Hid exB; rw [hgd]; rfl
    have HV : Hid (exR ⟨p, q, g⟩ x e0 = 0) := by unfold Hid exR; rw [HR.out]; rfl
    rw [HR.out, HV.out]
    clear hgd hb3 hb4
    go_enter Try.func43, Try.ntmps43
    go_wp2_with fail
    rw [← HWW.out]
    try rw [← HSW.out]
    clear HWW
    refine (impl_IsValidGroup ⟨p, q, g⟩ _).mono ?_
    rintro e w1 ⟨rfl, hcum⟩
    rw [H1.out]
    have c0 := box_at (HX.out.cell (i := 0) rfl) hcum
    have c1 := box_at (HX.out.cell (i := 1) rfl) hcum
    have c2 := box_at (HX.out.cell (i := 2) rfl) hcum
    go_wp2_with fail
    go_ret2
    exact ⟨rfl, HB.out.trans (hcum.mono HB.out.size)⟩
  | true =>
    have H1 := Lib.hid hgd
    have HG := Lib.hid (goodG_ok hgd)
    have HRR : Hid (exB ⟨p, q, g⟩ x e0 = (b3 && b4)) := by unfold Hid exB; rw [hgd, hb3, hb4]; rfl
    have HVV : Hid (exR ⟨p, q, g⟩ x e0 = if (b3 && b4) = true then powE ⟨p, q, g⟩ x e0 else 0) := by unfold Hid exR; rw [HRR.out]
    rw [HRR.out, HVV.out]
    clear hgd hb3 hb4
    go_enter Try.func43, Try.ntmps43
    go_wp2_with fail
    rw [← HWW.out]
    try rw [← HSW.out]
    clear HWW
    refine (impl_IsValidGroup ⟨p, q, g⟩ _).mono ?_
    rintro e w1 ⟨rfl, hcum⟩
    rw [H1.out]
    have c0 := box_at (HX.out.cell (i := 0) rfl) hcum
    have c1 := box_at (HX.out.cell (i := 1) rfl) hcum
    have c2 := box_at (HX.out.cell (i := 2) rfl) hcum
    cases b3
    rotate_left
    all_goals cases b4
    all_goals
      go_wp2_with (first
        | (go_at_call 138; refine (impl_has ⟨p, q, g⟩ x _ HG.out).mono ?_; rintro e wa ⟨rfl, hba⟩; rw [H3.out]; (replace hcum := Below.next hcum hba); (replace c0 := box_at c0 hba); (replace c1 := box_at c1 hba); (replace c2 := box_at c2 hba); clear hba)
        | (go_at_call 149; refine (impl_isExp ⟨p, q, g⟩ e0 _ HG.out).mono ?_; rintro e wa ⟨rfl, hba⟩; rw [H4.out]; (replace hcum := Below.next hcum hba); (replace c0 := box_at c0 hba); (replace c1 := box_at c1 hba); (replace c2 := box_at c2 hba); clear hba)
        | (go_at_call 165; refine (impl_pow ⟨p, q, g⟩ x e0 _ HG.out (elB_small HG.out H3.out) HE0.out).mono ?_; rintro e wa ⟨rfl, hba⟩; (replace hcum := Below.next hcum hba); clear hba)
        | fail)
      go_ret2
      exact ⟨ret_int_bool (by first | rfl | simp) rfl, HB.out.trans (hcum.mono HB.out.size)⟩
end Go.Proofs.Ytboahnklilmdpaa
