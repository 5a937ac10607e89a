/- Own slices side by side: growth in a drawn region in any order. -/
import Derived.Test.YtacpnphfopmofaaGreatLag1S
import Derived.Test.YtacpnphfopmofaaGreatDrZ1S
import Derived.Test.YtacpnphfopmofaaGreatRegVS
namespace Go.Proofs.YtacpnphfopmofaaGreat
open Go.RowKit
set_option linter.unusedSimpArgs false
set_option linter.unusedVariables false

theorem RowsI.more {w : World} {B : Nat} {rs : List (Value × List Int)} (h : RowsI w B rs) : RowsI w B (rs ++ [(.slice none 0 0, [])]) := by
  have get : ∀ (j : Nat) y m, (rs ++ [((.slice none 0 0 : Value), ([] : List Int))])[j]? = some (y, m) → rs[j]? = some (y, m) ∨ (y = .slice none 0 0 ∧ m = []) := by
    intro j y m e
    by_cases hj : j < rs.length
    · rw [List.getElem?_append_left hj] at e; exact .inl e
    · rw [List.getElem?_append_right (Nat.le_of_not_lt hj)] at e
      cases hq : j - rs.length with
      | zero => rw [hq] at e; cases e; exact .inr ⟨rfl, rfl⟩
      | succ n => rw [hq] at e; simp at e
  refine ⟨?_, ?_⟩
  · intro j y m e
    rcases get j y m e with q | ⟨rfl, rfl⟩
    · exact h.own j y m q
    · exact OwnI.nil _ _
  · intro i j y m z n hne e1 e2 k hk
    rcases get i y m e1 with q1 | ⟨rfl, rfl⟩
    · rcases get j z n e2 with q2 | ⟨rfl, rfl⟩
      · exact h.ne i j y m z n hne q1 q2 k hk
      · intro q; cases q
    · cases hk
/-- rows that grow in a region: boxes stay -/
structure GrI (B : Nat) (u0 u : World) (rs : List (Value × List Int)) : Prop where
  rows : RowsI u B rs
  box : ∀ b t cs, t ≠ 3 → BoxN u0 b t cs → BoxN u b t cs
  bel : Below B u0 u
  hi : B ≤ u.heap.size
theorem GrI.lit1 {o : Oper} {a : Act} {u0 w : World} {K : Act → World → Prop} {Q : Exit → Act → World → Prop} (x : Operand)
    (ho : o.op = .buildSlice 25 1 #[(0, x)]) {B : Nat} {rs : List (Value × List Int)} (h : GrI B u0 w rs)
    (i : Nat) (hi : rs[i]? = some (.slice none 0 0, [])) {X : Int} (hX : I64 X) (hx : a.eval x = .int .i64 X)
    (hK : ∀ v' w', GrI B u0 w' (rs.set i (v', [X])) → K (a.put o.dst v') w') : Oper.wp Tryz.prog o a w K Q := by
  have hr := h.rows.lit h.hi hi (AllI64.cons hX AllI64.nil) (cs := #[.int .i64 X]) rfl (by simp [maxLen]) 1 rfl
  have hb : Below w.heap.size w (w.alloc (.cells #[.int .i64 X] 3)) := (Below.refl _ _).alloc (Nat.le_refl _) _
  have h2 := hK _ _ ⟨hr, fun b t cs ht q => (h.box b t cs ht q).below hb, h.bel.trans (hb.mono h.hi), Nat.le_trans h.hi hb.size⟩
  unfold Oper.wp execOp
  simp only [ho]
  generalize a.eval = ev at hx ⊢
  go_simp
  exact h2
theorem GrI.app {o : Oper} {a : Act} {u0 w : World} {K : Act → World → Prop} {Q : Exit → Act → World → Prop} (s x : Operand)
    (ho : o.op = .call { callee := .builtin .append, args := #[s, x], argTypes := #[25, 25] })
    {B : Nat} {rs : List (Value × List Int)} (h : GrI B u0 w rs)
    (i j : Nat) {v y : Value} {l m : List Int} (hi : rs[i]? = some (v, l)) (hj : rs[j]? = some (y, m)) (hm : m ≠ []) (N : Nat) (hN : l.length + m.length = N) (hlen : N ≤ 1000000000000) (hs : a.eval s = v) (hxx : a.eval x = y)
    (hK : ∀ a' c' w', GrI B u0 w' (rs.set i (.slice a' N c', l ++ m)) → K (a.put o.dst (.slice a' N c')) w') : Oper.wp Tryz.prog o a w K Q := by
  refine RowsI.do_app s x ho h.rows h.hi i j hi hj hm (by omega) hs hxx ?_
  intro v' w' h1 h2 h3
  have hil : i < rs.length := (List.getElem?_eq_some_iff.1 hi).1
  obtain ⟨a', c', e⟩ := (h1.own i v' (l ++ m) (List.getElem?_set_self hil)).shape
  rw [List.length_append, hN] at e
  subst e
  exact hK a' c' w' ⟨h1, fun b t cs ht q => h2 b t cs ht (h.box b t cs ht q), h.bel.trans h3, Nat.le_trans h.hi h3.size⟩
end Go.Proofs.YtacpnphfopmofaaGreat
namespace Go.Proofs.YtacpnphfopmofaaGreat
open Go.RowKit
set_option linter.unusedSimpArgs false
set_option linter.unusedVariables false
set_option maxRecDepth 100000 in
set_option maxHeartbeats 2000000 in
theorem impl_areSharesOf (gr : GroupD) (cv : Value) (cs : List Int) (iv : Value) (ix : List Int) (sv : Value) (ss : List Int) (w : World) (hcs : Ints w cv cs) (hix : Ints w iv ix) (hss : Ints w sv ss) :
    Calls Tryz.prog 67 #[.agg #[.int .i64 gr.p, .int .i64 gr.q, .int .i64 gr.g], cv, iv, sv] w fun e w' => e = .returned (.bool (asB gr cs ix ss)) ∧ Below w.heap.size w w' := by
  obtain ⟨cva, cvn, cvc, rfl⟩ := hcs.shape
  have Ecv := Lib.hid hcs.len
  have Kcv := Lib.hid hcs.capMax
  have Hcv := Lib.hid hcs
  clear hcs
  obtain ⟨iva, ivn, ivc, rfl⟩ := hix.shape
  have Eiv := Lib.hid hix.len
  have Kiv := Lib.hid hix.capMax
  have Hiv := Lib.hid hix
  clear hix
  obtain ⟨sva, svn, svc, rfl⟩ := hss.shape
  have Esv := Lib.hid hss.len
  have Ksv := Lib.hid hss.capMax
  have Hsv := Lib.hid hss
  clear hss
  cases hc1 : shG gr with
  | false =>
    have HV : Hid ((.bool (asB gr cs ix ss) : Value) = .bool false) := by unfold Hid; simp [asB, hc1]
    rw [HV.out]
    have Hhc1 := Lib.hid hc1
    clear hc1
    obtain ⟨W, hW⟩ : ∃ W, W = w.alloc (.cells #[.int .i64 gr.p, .int .i64 gr.q, .int .i64 gr.g] 24) := ⟨_, rfl⟩
    have HB : Hid (Below w.heap.size w W) := by unfold Hid; rw [hW]; (repeat (first | exact Below.refl _ _ | assumption | refine Below.drew ?_ | refine Below.alloc ?_ (by first | (simp; done) | (simp; omega)) _ | refine Below.setCell ?_ (by first | (simp; done) | (simp; omega)) _))
    have c0_0 : W.cell? ⟨w.heap.size, 0, none⟩ = some (.int .i64 gr.p) := by rw [hW]; simp [go_sem]
    have c0_1 : W.cell? ⟨w.heap.size, 1, none⟩ = some (.int .i64 gr.q) := by rw [hW]; simp [go_sem]
    have c0_2 : W.cell? ⟨w.heap.size, 2, none⟩ = some (.int .i64 gr.g) := by rw [hW]; simp [go_sem]
    have HSW : Hid (W.heap.size = w.heap.size + 1) := by unfold Hid; rw [hW]; simp
    go_enter Tryz.func67, Tryz.ntmps67
    go_wp2_with fail
    rw [← hW]
    have hse : w.heap.size + 1 = W.heap.size := by have := HSW.out; omega
    (try rw [hse])
    clear hse
    clear hW
    have hc : Below W.heap.size W W := Below.refl _ _
    go_wp2_with fail
    refine (impl_isSharing gr _).mono ?_
    rintro e u1 ⟨rfl, hq1⟩
    replace hc := Below.next hc hq1
    replace c0_0 := box_at c0_0 hq1
    replace c0_1 := box_at c0_1 hq1
    replace c0_2 := box_at c0_2 hq1
    clear hq1
    rw [Hhc1.out]
    go_wp2_with fail
    go_ret
    exact ⟨rfl, HB.out.trans (hc.mono HB.out.size)⟩
  | true =>
    have HG := Lib.hid (shG_ok hc1)
    cases hc2 : cmsB gr cs with
    | false =>
      have HV : Hid ((.bool (asB gr cs ix ss) : Value) = .bool false) := by unfold Hid; simp [asB, hc1, hc2]
      rw [HV.out]
      have Hhc1 := Lib.hid hc1
      clear hc1
      have Hhc2 := Lib.hid hc2
      clear hc2
      obtain ⟨W, hW⟩ : ∃ W, W = w.alloc (.cells #[.int .i64 gr.p, .int .i64 gr.q, .int .i64 gr.g] 24) := ⟨_, rfl⟩
      have HB : Hid (Below w.heap.size w W) := by unfold Hid; rw [hW]; (repeat (first | exact Below.refl _ _ | assumption | refine Below.drew ?_ | refine Below.alloc ?_ (by first | (simp; done) | (simp; omega)) _ | refine Below.setCell ?_ (by first | (simp; done) | (simp; omega)) _))
      have c0_0 : W.cell? ⟨w.heap.size, 0, none⟩ = some (.int .i64 gr.p) := by rw [hW]; simp [go_sem]
      have c0_1 : W.cell? ⟨w.heap.size, 1, none⟩ = some (.int .i64 gr.q) := by rw [hW]; simp [go_sem]
      have c0_2 : W.cell? ⟨w.heap.size, 2, none⟩ = some (.int .i64 gr.g) := by rw [hW]; simp [go_sem]
      have HSW : Hid (W.heap.size = w.heap.size + 1) := by unfold Hid; rw [hW]; simp
      go_enter Tryz.func67, Tryz.ntmps67
      go_wp2_with fail
      rw [← hW]
      have hse : w.heap.size + 1 = W.heap.size := by have := HSW.out; omega
      (try rw [hse])
      clear hse
      clear hW
      have hc : Below W.heap.size W W := Below.refl _ _
      go_wp2_with fail
      refine (impl_isSharing gr _).mono ?_
      rintro e u1 ⟨rfl, hq1⟩
      replace hc := Below.next hc hq1
      replace c0_0 := box_at c0_0 hq1
      replace c0_1 := box_at c0_1 hq1
      replace c0_2 := box_at c0_2 hq1
      clear hq1
      rw [Hhc1.out]
      go_wp2_with fail
      refine (impl_areCommits gr _ cs _ HG.out (Hcv.out.below (HB.out.trans (hc.mono HB.out.size)))).mono ?_
      rintro e u2 ⟨rfl, hq2⟩
      replace hc := Below.next hc hq2
      replace c0_0 := box_at c0_0 hq2
      replace c0_1 := box_at c0_1 hq2
      replace c0_2 := box_at c0_2 hq2
      clear hq2
      rw [Hhc2.out]
      go_wp2_with fail
      go_ret
      exact ⟨rfl, HB.out.trans (hc.mono HB.out.size)⟩
    | true =>
      cases hc3 : trL ix with
      | false =>
        have HV : Hid ((.bool (asB gr cs ix ss) : Value) = .bool false) := by unfold Hid; simp [asB, hc1, hc2, hc3]
        rw [HV.out]
        have Hhc1 := Lib.hid hc1
        clear hc1
        have Hhc2 := Lib.hid hc2
        clear hc2
        have Hhc3 := Lib.hid hc3
        clear hc3
        obtain ⟨W, hW⟩ : ∃ W, W = w.alloc (.cells #[.int .i64 gr.p, .int .i64 gr.q, .int .i64 gr.g] 24) := ⟨_, rfl⟩
        have HB : Hid (Below w.heap.size w W) := by unfold Hid; rw [hW]; (repeat (first | exact Below.refl _ _ | assumption | refine Below.drew ?_ | refine Below.alloc ?_ (by first | (simp; done) | (simp; omega)) _ | refine Below.setCell ?_ (by first | (simp; done) | (simp; omega)) _))
        have c0_0 : W.cell? ⟨w.heap.size, 0, none⟩ = some (.int .i64 gr.p) := by rw [hW]; simp [go_sem]
        have c0_1 : W.cell? ⟨w.heap.size, 1, none⟩ = some (.int .i64 gr.q) := by rw [hW]; simp [go_sem]
        have c0_2 : W.cell? ⟨w.heap.size, 2, none⟩ = some (.int .i64 gr.g) := by rw [hW]; simp [go_sem]
        have HSW : Hid (W.heap.size = w.heap.size + 1) := by unfold Hid; rw [hW]; simp
        go_enter Tryz.func67, Tryz.ntmps67
        go_wp2_with fail
        rw [← hW]
        have hse : w.heap.size + 1 = W.heap.size := by have := HSW.out; omega
        (try rw [hse])
        clear hse
        clear hW
        have hc : Below W.heap.size W W := Below.refl _ _
        go_wp2_with fail
        refine (impl_isSharing gr _).mono ?_
        rintro e u1 ⟨rfl, hq1⟩
        replace hc := Below.next hc hq1
        replace c0_0 := box_at c0_0 hq1
        replace c0_1 := box_at c0_1 hq1
        replace c0_2 := box_at c0_2 hq1
        clear hq1
        rw [Hhc1.out]
        go_wp2_with fail
        refine (impl_areCommits gr _ cs _ HG.out (Hcv.out.below (HB.out.trans (hc.mono HB.out.size)))).mono ?_
        rintro e u2 ⟨rfl, hq2⟩
        replace hc := Below.next hc hq2
        replace c0_0 := box_at c0_0 hq2
        replace c0_1 := box_at c0_1 hq2
        replace c0_2 := box_at c0_2 hq2
        clear hq2
        rw [Hhc2.out]
        go_wp2_with fail
        refine (impl_areTrustees _ ix _ (Hiv.out.below (HB.out.trans (hc.mono HB.out.size)))).mono ?_
        rintro e u3 ⟨rfl, hq3⟩
        replace hc := Below.next hc hq3
        replace c0_0 := box_at c0_0 hq3
        replace c0_1 := box_at c0_1 hq3
        replace c0_2 := box_at c0_2 hq3
        clear hq3
        rw [Hhc3.out]
        go_wp2_with fail
        go_ret
        exact ⟨rfl, HB.out.trans (hc.mono HB.out.size)⟩
      | true =>
        cases hc4 : ((svn : Int) == (ivn : Int)) with
        | false =>
          have HLT : Hid (decide (ss.length = ix.length) = false) := by have q := hc4; rw [beq_eq_false_iff_ne] at q; have := Eiv.out; have := Esv.out; unfold Hid; exact decide_eq_false (by omega)
          have HV : Hid ((.bool (asB gr cs ix ss) : Value) = .bool false) := by unfold Hid; simp [asB, hc1, hc2, hc3, hc4, HLT.out]
          rw [HV.out]
          have Hhc1 := Lib.hid hc1
          clear hc1
          have Hhc2 := Lib.hid hc2
          clear hc2
          have Hhc3 := Lib.hid hc3
          clear hc3
          obtain ⟨W, hW⟩ : ∃ W, W = w.alloc (.cells #[.int .i64 gr.p, .int .i64 gr.q, .int .i64 gr.g] 24) := ⟨_, rfl⟩
          have HB : Hid (Below w.heap.size w W) := by unfold Hid; rw [hW]; (repeat (first | exact Below.refl _ _ | assumption | refine Below.drew ?_ | refine Below.alloc ?_ (by first | (simp; done) | (simp; omega)) _ | refine Below.setCell ?_ (by first | (simp; done) | (simp; omega)) _))
          have c0_0 : W.cell? ⟨w.heap.size, 0, none⟩ = some (.int .i64 gr.p) := by rw [hW]; simp [go_sem]
          have c0_1 : W.cell? ⟨w.heap.size, 1, none⟩ = some (.int .i64 gr.q) := by rw [hW]; simp [go_sem]
          have c0_2 : W.cell? ⟨w.heap.size, 2, none⟩ = some (.int .i64 gr.g) := by rw [hW]; simp [go_sem]
          have HSW : Hid (W.heap.size = w.heap.size + 1) := by unfold Hid; rw [hW]; simp
          go_enter Tryz.func67, Tryz.ntmps67
          go_wp2_with fail
          rw [← hW]
          have hse : w.heap.size + 1 = W.heap.size := by have := HSW.out; omega
          (try rw [hse])
          clear hse
          clear hW
          have hc : Below W.heap.size W W := Below.refl _ _
          go_wp2_with fail
          refine (impl_isSharing gr _).mono ?_
          rintro e u1 ⟨rfl, hq1⟩
          replace hc := Below.next hc hq1
          replace c0_0 := box_at c0_0 hq1
          replace c0_1 := box_at c0_1 hq1
          replace c0_2 := box_at c0_2 hq1
          clear hq1
          rw [Hhc1.out]
          go_wp2_with fail
          refine (impl_areCommits gr _ cs _ HG.out (Hcv.out.below (HB.out.trans (hc.mono HB.out.size)))).mono ?_
          rintro e u2 ⟨rfl, hq2⟩
          replace hc := Below.next hc hq2
          replace c0_0 := box_at c0_0 hq2
          replace c0_1 := box_at c0_1 hq2
          replace c0_2 := box_at c0_2 hq2
          clear hq2
          rw [Hhc2.out]
          go_wp2_with fail
          refine (impl_areTrustees _ ix _ (Hiv.out.below (HB.out.trans (hc.mono HB.out.size)))).mono ?_
          rintro e u3 ⟨rfl, hq3⟩
          replace hc := Below.next hc hq3
          replace c0_0 := box_at c0_0 hq3
          replace c0_1 := box_at c0_1 hq3
          replace c0_2 := box_at c0_2 hq3
          clear hq3
          rw [Hhc3.out]
          go_wp2_with fail
          go_ret
          exact ⟨rfl, HB.out.trans (hc.mono HB.out.size)⟩
        | true =>
          have HLT : Hid (decide (ss.length = ix.length) = true) := by have q := hc4; rw [beq_iff_eq] at q; have := Eiv.out; have := Esv.out; unfold Hid; exact decide_eq_true (by omega)
          cases hc5 : ss.all (expB gr) with
          | false =>
            have HV : Hid ((.bool (asB gr cs ix ss) : Value) = .bool false) := by unfold Hid; simp [asB, hc1, hc2, hc3, hc4, hc5, HLT.out]
            rw [HV.out]
            have Hhc1 := Lib.hid hc1
            clear hc1
            have Hhc2 := Lib.hid hc2
            clear hc2
            have Hhc3 := Lib.hid hc3
            clear hc3
            have Hhc5 := Lib.hid hc5
            clear hc5
            obtain ⟨W, hW⟩ : ∃ W, W = w.alloc (.cells #[.int .i64 gr.p, .int .i64 gr.q, .int .i64 gr.g] 24) := ⟨_, rfl⟩
            have HB : Hid (Below w.heap.size w W) := by unfold Hid; rw [hW]; (repeat (first | exact Below.refl _ _ | assumption | refine Below.drew ?_ | refine Below.alloc ?_ (by first | (simp; done) | (simp; omega)) _ | refine Below.setCell ?_ (by first | (simp; done) | (simp; omega)) _))
            have c0_0 : W.cell? ⟨w.heap.size, 0, none⟩ = some (.int .i64 gr.p) := by rw [hW]; simp [go_sem]
            have c0_1 : W.cell? ⟨w.heap.size, 1, none⟩ = some (.int .i64 gr.q) := by rw [hW]; simp [go_sem]
            have c0_2 : W.cell? ⟨w.heap.size, 2, none⟩ = some (.int .i64 gr.g) := by rw [hW]; simp [go_sem]
            have HSW : Hid (W.heap.size = w.heap.size + 1) := by unfold Hid; rw [hW]; simp
            go_enter Tryz.func67, Tryz.ntmps67
            go_wp2_with fail
            rw [← hW]
            have hse : w.heap.size + 1 = W.heap.size := by have := HSW.out; omega
            (try rw [hse])
            clear hse
            clear hW
            have hc : Below W.heap.size W W := Below.refl _ _
            go_wp2_with fail
            refine (impl_isSharing gr _).mono ?_
            rintro e u1 ⟨rfl, hq1⟩
            replace hc := Below.next hc hq1
            replace c0_0 := box_at c0_0 hq1
            replace c0_1 := box_at c0_1 hq1
            replace c0_2 := box_at c0_2 hq1
            clear hq1
            rw [Hhc1.out]
            go_wp2_with fail
            refine (impl_areCommits gr _ cs _ HG.out (Hcv.out.below (HB.out.trans (hc.mono HB.out.size)))).mono ?_
            rintro e u2 ⟨rfl, hq2⟩
            replace hc := Below.next hc hq2
            replace c0_0 := box_at c0_0 hq2
            replace c0_1 := box_at c0_1 hq2
            replace c0_2 := box_at c0_2 hq2
            clear hq2
            rw [Hhc2.out]
            go_wp2_with fail
            refine (impl_areTrustees _ ix _ (Hiv.out.below (HB.out.trans (hc.mono HB.out.size)))).mono ?_
            rintro e u3 ⟨rfl, hq3⟩
            replace hc := Below.next hc hq3
            replace c0_0 := box_at c0_0 hq3
            replace c0_1 := box_at c0_1 hq3
            replace c0_2 := box_at c0_2 hq3
            clear hq3
            rw [Hhc3.out]
            go_wp2_with fail
            refine (impl_areExps gr _ ss _ HG.out (Hsv.out.below (HB.out.trans (hc.mono HB.out.size)))).mono ?_
            rintro e u4 ⟨rfl, hq4⟩
            replace hc := Below.next hc hq4
            replace c0_0 := box_at c0_0 hq4
            replace c0_1 := box_at c0_1 hq4
            replace c0_2 := box_at c0_2 hq4
            clear hq4
            rw [Hhc5.out]
            go_wp2_with fail
            go_ret
            exact ⟨rfl, HB.out.trans (hc.mono HB.out.size)⟩
          | true =>
            have HV : Hid ((.bool (asB gr cs ix ss) : Value) = .bool true) := by unfold Hid; simp [asB, hc1, hc2, hc3, hc4, hc5, HLT.out]
            rw [HV.out]
            have Hhc1 := Lib.hid hc1
            clear hc1
            have Hhc2 := Lib.hid hc2
            clear hc2
            have Hhc3 := Lib.hid hc3
            clear hc3
            have Hhc5 := Lib.hid hc5
            clear hc5
            obtain ⟨W, hW⟩ : ∃ W, W = w.alloc (.cells #[.int .i64 gr.p, .int .i64 gr.q, .int .i64 gr.g] 24) := ⟨_, rfl⟩
            have HB : Hid (Below w.heap.size w W) := by unfold Hid; rw [hW]; (repeat (first | exact Below.refl _ _ | assumption | refine Below.drew ?_ | refine Below.alloc ?_ (by first | (simp; done) | (simp; omega)) _ | refine Below.setCell ?_ (by first | (simp; done) | (simp; omega)) _))
            have c0_0 : W.cell? ⟨w.heap.size, 0, none⟩ = some (.int .i64 gr.p) := by rw [hW]; simp [go_sem]
            have c0_1 : W.cell? ⟨w.heap.size, 1, none⟩ = some (.int .i64 gr.q) := by rw [hW]; simp [go_sem]
            have c0_2 : W.cell? ⟨w.heap.size, 2, none⟩ = some (.int .i64 gr.g) := by rw [hW]; simp [go_sem]
            have HSW : Hid (W.heap.size = w.heap.size + 1) := by unfold Hid; rw [hW]; simp
            go_enter Tryz.func67, Tryz.ntmps67
            go_wp2_with fail
            rw [← hW]
            have hse : w.heap.size + 1 = W.heap.size := by have := HSW.out; omega
            (try rw [hse])
            clear hse
            clear hW
            have hc : Below W.heap.size W W := Below.refl _ _
            go_wp2_with fail
            refine (impl_isSharing gr _).mono ?_
            rintro e u1 ⟨rfl, hq1⟩
            replace hc := Below.next hc hq1
            replace c0_0 := box_at c0_0 hq1
            replace c0_1 := box_at c0_1 hq1
            replace c0_2 := box_at c0_2 hq1
            clear hq1
            rw [Hhc1.out]
            go_wp2_with fail
            refine (impl_areCommits gr _ cs _ HG.out (Hcv.out.below (HB.out.trans (hc.mono HB.out.size)))).mono ?_
            rintro e u2 ⟨rfl, hq2⟩
            replace hc := Below.next hc hq2
            replace c0_0 := box_at c0_0 hq2
            replace c0_1 := box_at c0_1 hq2
            replace c0_2 := box_at c0_2 hq2
            clear hq2
            rw [Hhc2.out]
            go_wp2_with fail
            refine (impl_areTrustees _ ix _ (Hiv.out.below (HB.out.trans (hc.mono HB.out.size)))).mono ?_
            rintro e u3 ⟨rfl, hq3⟩
            replace hc := Below.next hc hq3
            replace c0_0 := box_at c0_0 hq3
            replace c0_1 := box_at c0_1 hq3
            replace c0_2 := box_at c0_2 hq3
            clear hq3
            rw [Hhc3.out]
            go_wp2_with fail
            refine (impl_areExps gr _ ss _ HG.out (Hsv.out.below (HB.out.trans (hc.mono HB.out.size)))).mono ?_
            rintro e u4 ⟨rfl, hq4⟩
            replace hc := Below.next hc hq4
            replace c0_0 := box_at c0_0 hq4
            replace c0_1 := box_at c0_1 hq4
            replace c0_2 := box_at c0_2 hq4
            clear hq4
            rw [Hhc5.out]
            go_wp2_with fail
            go_ret
            exact ⟨rfl, HB.out.trans (hc.mono HB.out.size)⟩
theorem RowsI.two {w : World} {B : Nat} {x y : Value × List Int} {rs : List (Value × List Int)} (h : RowsI w B (x :: y :: rs)) : RowsI w B [x, y] := by
  have get : ∀ (j : Nat) v m, ([x, y] : List (Value × List Int))[j]? = some (v, m) → (x :: y :: rs)[j]? = some (v, m) := by
    intro j v m e
    match j, e with
    | 0, e => exact e
    | 1, e => exact e
    | j + 2, e => simp at e
  exact ⟨fun j v m e => h.own j v m (get j v m e), fun i j v m y n hne e1 e2 => h.ne i j v m y n hne (get i v m e1) (get j y n e2)⟩
theorem RowsI.mk2 {w : World} {B : Nat} {x y : Value} {lx ly : List Int} (h1 : OwnI w B x lx) (h2 : OwnI w B y ly) (hne : ∀ k, x.ownBlock = some k → y.ownBlock ≠ some k) : RowsI w B [(x, lx), (y, ly)] := by
  refine ⟨fun i v l e => ?_, fun i j v l y' m hij e1 e2 => ?_⟩
  · match i, e with
    | 0, e => simp at e; obtain ⟨rfl, rfl⟩ := e; exact h1
    | 1, e => simp at e; obtain ⟨rfl, rfl⟩ := e; exact h2
    | i + 2, e => simp at e
  · match i, j, e1, e2 with
    | 0, 0, e1, e2 => exact absurd rfl hij
    | 0, 1, e1, e2 => simp at e1 e2; obtain ⟨rfl, rfl⟩ := e1; obtain ⟨rfl, rfl⟩ := e2; exact hne
    | 1, 0, e1, e2 => simp at e1 e2; obtain ⟨rfl, rfl⟩ := e1; obtain ⟨rfl, rfl⟩ := e2; exact fun k q q2 => hne k q2 q
    | 1, 1, e1, e2 => exact absurd rfl hij
    | i + 2, j, e1, e2 => simp at e1
    | 0, j + 2, e1, e2 => simp at e2
    | 1, j + 2, e1, e2 => simp at e2
theorem RowsI.lits (W : World) : RowsI ((W.alloc (.cells #[] 3)).alloc (.cells #[] 3)) W.heap.size [(.slice (some ⟨W.heap.size, 0, none⟩) 0 0, []), (.slice (some ⟨W.heap.size + 1, 0, none⟩) 0 0, [])] := by
  have h1 : (W.alloc (.cells #[] 3)).heap.size = W.heap.size + 1 := by simp
  refine RowsI.mk2 ((OwnI.lit (B := W.heap.size) W (Nat.le_refl _) AllI64.nil rfl (by simp) 0 rfl).below ((Below.refl _ _).alloc (Nat.le_refl _) _)) ?_ ?_
  · have h := OwnI.lit (B := W.heap.size) (W.alloc (.cells #[] 3)) (by simp) AllI64.nil (l := []) (cs := #[]) rfl (by simp) 0 rfl
    rw [h1] at h; exact h
  · intro k e1 e2
    have e1 : some W.heap.size = some k := e1
    have e2 : some (W.heap.size + 1) = some k := e2
    injection e1 with e1; injection e2 with e2; omega
set_option maxRecDepth 100000 in
set_option maxHeartbeats 8000000 in
theorem impl_valueAt (gr : GroupD) (cv : Value) (cs : List Int) (iv : Value) (ix : List Int) (sv : Value) (ss : List Int) (x0 : Int) (w : World) (hcs : Ints w cv cs) (hix : Ints w iv ix) (hss : Ints w sv ss) (hG : shG gr = true) (hcm : cmsB gr cs = true) (htr : trL ix = true) (hl : ss.length = ix.length) (hel : ss.all (expB gr) = true) (hx : 0 ≤ x0 ∧ x0 ≤ 1000) :
    Calls Tryz.prog 68 #[.agg #[.int .i64 gr.p, .int .i64 gr.q, .int .i64 gr.g], cv, iv, sv, .int .i64 x0] w fun e w' => e = .returned (.tuple #[.int .i64 (vaR gr cs ix ss x0), .bool (vaB gr cs ix ss)]) ∧ Below w.heap.size w w' := by
  obtain ⟨cva, cvn, cvc, rfl⟩ := hcs.shape
  have Ecv := Lib.hid hcs.len
  have Kcv := Lib.hid hcs.capMax
  have Hcv := Lib.hid hcs
  clear hcs
  obtain ⟨iva, ivn, ivc, rfl⟩ := hix.shape
  have Eiv := Lib.hid hix.len
  have Kiv := Lib.hid hix.capMax
  have Hiv := Lib.hid hix
  clear hix
  obtain ⟨sva, svn, svc, rfl⟩ := hss.shape
  have Esv := Lib.hid hss.len
  have Ksv := Lib.hid hss.capMax
  have Hsv := Lib.hid hss
  clear hss
  obtain ⟨hpr, hq2, hq7⟩ := shG_prm hG
  have HPR := Lib.hid hpr
  have HQ7 := Lib.hid hq7
  have HG := Lib.hid (shG_ok hG)
  have HEL := Lib.hid (cmsB_small (shG_ok hG) hcm)
  have HCN : Hid (cs.length ≤ 1000) := cmsB_le hcm
  have HTR := Lib.hid (trL_parts htr)
  have HI7 := Lib.hid (tr_len htr)
  have HPF := Lib.hid (pk_f (cs := cs) hq7 htr hl hel)
  have HSL := Lib.hid hl
  have hq0 : 0 < gr.q := by omega
  clear hG hcm htr hl hel
  obtain ⟨W, hW⟩ : ∃ W, W = w.alloc (.cells #[.int .i64 gr.p, .int .i64 gr.q, .int .i64 gr.g] 24) := ⟨_, rfl⟩
  have HBW : Hid (Below w.heap.size w W) := by unfold Hid; rw [hW]; (repeat (first | exact Below.refl _ _ | assumption | refine Below.drew ?_ | refine Below.alloc ?_ (by first | (simp; done) | (simp; omega)) _ | refine Below.setCell ?_ (by first | (simp; done) | (simp; omega)) _))
  have HGX : Hid (BoxN W w.heap.size 24 [.int .i64 gr.p, .int .i64 gr.q, .int .i64 gr.g]) := by unfold Hid; rw [hW]; exact BoxN.new w _ _
  have C0 := Lib.hid (HGX.out.cell (i := 0) rfl)
  have C1 := Lib.hid (HGX.out.cell (i := 1) rfl)
  have C2 := Lib.hid (HGX.out.cell (i := 2) rfl)
  have HWZ : Hid (W.heap.size = w.heap.size + 1) := by unfold Hid; rw [hW]; simp
  obtain ⟨V, hV⟩ : ∃ V, V = (W.alloc (.cells #[] 3)).alloc (.cells #[] 3) := ⟨_, rfl⟩
  have HR0 : Hid (RowsI V W.heap.size [(.slice (some ⟨w.heap.size + 1, 0, none⟩) 0 0, []), (.slice (some ⟨w.heap.size + 1 + 1, 0, none⟩) 0 0, [])]) := by unfold Hid; rw [hV, ← HWZ.out]; exact RowsI.lits W
  have HB0 : Hid (Below W.heap.size W V) := by unfold Hid; rw [hV]; (repeat (first | exact Below.refl _ _ | assumption | refine Below.drew ?_ | refine Below.alloc ?_ (by first | (simp; done) | (simp; omega)) _ | refine Below.setCell ?_ (by first | (simp; done) | (simp; omega)) _))
  go_enter Tryz.func68, Tryz.ntmps68
  go_wp2_with fail
  rw [← hW]
  (try rw [← hV])
  clear hW
  try (go_wp2_with fail)
  (try rw [← hV])
  clear hV
  go_loopg [12, 13, 20] ivn (fun gk xv yv jv wr => ∃ (k : Nat) (xv' yv' : Value) (lx ly : List Int), k + gk = ivn ∧ jv = .int .i64 (k : Int) ∧ Hid (pk gr cs ix ss k = (lx, ly) ∧ xv = xv' ∧ yv = yv') ∧ Hid (RowsI wr W.heap.size [(xv', lx), (yv', ly)]) ∧ Hid (Below W.heap.size W wr))
  case atStart => exact ⟨0, _, _, [], [], by omega, rfl, Lib.hid ⟨rfl, rfl, rfl⟩, HR0, HB0⟩
  case round =>
    obtain ⟨k, xv', yv', lx, ly, hkg, rfl, HPK, HR, HB⟩ := hrel
    obtain ⟨HPE, rfl, rfl⟩ := HPK.out
    have HPE := Lib.hid HPE
    clear HPK
    have HOX := Lib.hid (HR.out.own 0 _ _ rfl)
    have HOY := Lib.hid (HR.out.own 1 _ _ rfl)
    obtain ⟨xa, xc, rfl⟩ := HOX.out.shape
    obtain ⟨ya, yc, rfl⟩ := HOY.out.shape
    have HPS : Hid (k ≤ ix.length → lx.length = ly.length ∧ lx.length ≤ k) := fun hk => by have h := pk_s gr cs ix ss HSL.out k hk; rw [HPE.out] at h; exact ⟨h.len, h.le⟩
    have hps := HPS.out (by have := Eiv.out; omega)
    obtain ⟨xn, hxn⟩ : ∃ z, lx.length = z := ⟨_, rfl⟩
    have hyn : ly.length = xn := by omega
    rw [hxn, hyn] at HR
    rw [hxn] at HOX
    rw [hyn] at HOY
    rw [hxn, hyn]
    have HXN := Lib.hid hxn
    have HYN := Lib.hid hyn
    have hxk : xn ≤ k := by omega
    have hi7 : ivn ≤ 7 := by have := HI7.out; have := Eiv.out; omega
    clear hxn hyn hps
    by_cases hlt : k < ivn
    · have hgk : ivn - (k + 1) < gk := by omega
      obtain ⟨b, o, hia, hcx⟩ := Hiv.out.at_ (by omega)
      have x1 := box_at (box_at (hcx k hlt) HBW.out) HB.out
      subst hia
      clear hcx
      obtain ⟨sb, so, hsa, hcy⟩ := Hsv.out.at_ (by have := Esv.out; have := HSL.out; have := Eiv.out; omega)
      have y1W := box_at (hcy k (by have := Esv.out; have := HSL.out; have := Eiv.out; omega)) HBW.out
      subst hsa
      clear hcy
      have hsn : (k : Int) < (svn : Int) := by have := Esv.out; have := HSL.out; have := Eiv.out; omega
      have hxb : 0 ≤ nth ix k ∧ nth ix k ≤ 1000 := by
        have := HTR.out.1 (nth ix k) (by rw [nthE (by rw [Eiv.out]; exact hlt)]; exact List.getElem_mem _)
        omega
      have HYI : Hid (I64 (nth ss k)) := nth_64 Hsv.out k
      have HPY : Hid (lx.length < cs.length → shrB gr cs (nth ix k) (nth ss k) = true → pk gr cs ix ss (k + 1) = (lx ++ [nth ix k], ly ++ [nth ss k])) := fun h1 h2 => pk_yes HPE.out h1 h2
      have HP1 : Hid (¬ lx.length < cs.length → pk gr cs ix ss (k + 1) = (lx, ly)) := fun h => pk_no1 HPE.out h
      have HP2 : Hid (shrB gr cs (nth ix k) (nth ss k) = false → pk gr cs ix ss (k + 1) = (lx, ly)) := fun h => pk_no2 HPE.out h
      obtain ⟨x, hx⟩ : ∃ z, nth ix k = z := ⟨_, rfl⟩
      obtain ⟨y, hy⟩ : ∃ z, nth ss k = z := ⟨_, rfl⟩
      rw [hx] at x1 hxb HPY HP2
      rw [hy] at y1W HYI HPY HP2
      clear hx hy
      have HXB := Lib.hid hxb
      have HXI : Hid (I64 x) := ⟨by omega, by omega⟩
      have b0 : (0 : Int) ≤ (k : Int) := by omega
      have bk1 : (k : Int) < (ivn : Int) := by omega
      have hwk : IntKind.i64.wrap ((k : Int) + 1) = (k : Int) + 1 := IntWalk.i64_in _ (by omega)
      have Hcvr : Hid (Ints wr (.slice cva cvn cvc) cs) := (Hcv.out.below HBW.out).below HB.out
      have c0 := box_at C0.out HB.out
      have c1 := box_at C1.out HB.out
      have c2 := box_at C2.out HB.out
      have y1 := box_at y1W HB.out
      go_wp2_with fail
      clear x1
      have hc : Below wr.heap.size wr wr := Below.refl _ _
      by_cases hcc : xn < cvn
      · have q1 : decide ((xn : Int) < (cvn : Int)) = true := decide_eq_true (by omega)
        have q1n : decide (xn < cvn) = true := decide_eq_true hcc
        have HCC : Hid (lx.length < cs.length) := by have := HXN.out; have := Ecv.out; unfold Hid; omega
        clear hcc
        obtain ⟨qs, hqs⟩ : ∃ z, shrB gr cs x y = z := ⟨_, rfl⟩
        have HQ := Lib.hid hqs
        clear hqs
        cases qs with
        | true =>
          have HNX : Hid (pk gr cs ix ss (k + 1) = (lx ++ [x], ly ++ [y])) := HPY.out HCC.out HQ.out
          try (go_wp2_with fail)
          refine wp_region_noPanic ?_
          refine wp_region_P (fun w' => w'.cell? ⟨w.heap.size, 0, none⟩ = some (.int .i64 gr.p) ∧ w'.cell? ⟨w.heap.size, 1, none⟩ = some (.int .i64 gr.q) ∧ w'.cell? ⟨w.heap.size, 2, none⟩ = some (.int .i64 gr.g) ∧ w'.cell? ⟨sb, so + k, none⟩ = some (.int .i64 y)) 17 [(0, []), (1, [0]), (2, []), (3, [0]), (4, [2, 0]), (5, [0]), (6, [0]), (7, [1]), (8, [2]), (9, [3]), (10, [4]), (11, [1, 0, 5]), (12, [0, 6]), (13, [6, 5, 4, 0, 7]), (14, [8, 0])] [] (by kernel_rfl) (by kernel_rfl) (by kernel_rfl) rfl (fun _ _ _ _ h => h) (fun w' h => ⟨box_at c0 h, box_at c1 h, box_at c2 h, box_at y1 h⟩) ?_
          simp only [pickP, pickN, List.getElem?_cons_zero, List.getElem?_cons_succ]
          iterate 6 (refine' chainP_read _ rfl rfl (fun w' hS' => ?_) ?_; rotate_left; · (simp only [lookP, allP, Act.put, List.getElem?_cons_zero, List.getElem?_cons_succ, List.setIfInBounds_toArray, List.set_cons_zero, List.set_cons_succ]; (try dsimp only at hS'); go_simp; (try with_reducible rfl)))
          -- 6: load 24 t5
          refine' chainP_readG (d := (some 31)) _ rfl (fun w' hS' => ?_) ?_; rotate_left
          · simp only [lookP, allP, Act.put, List.getElem?_cons_zero, List.getElem?_cons_succ, List.setIfInBounds_toArray, List.set_cons_zero, List.set_cons_succ]
            refine ⟨by kernel_rfl, ?_⟩
            (try dsimp only at hS')
            go_simp
            (try with_reducible rfl)
          -- 7: move t1
          refine' chainP_readG (d := (some 32)) _ rfl (fun w' hS' => ?_) ?_; rotate_left
          · simp only [lookP, allP, Act.put, List.getElem?_cons_zero, List.getElem?_cons_succ, List.setIfInBounds_toArray, List.set_cons_zero, List.set_cons_succ]
            refine ⟨by kernel_rfl, ?_⟩
            (try dsimp only at hS')
            go_simp
            (try with_reducible rfl)
          -- 8: move t15
          refine' chainP_readG (d := (some 33)) _ rfl (fun w' hS' => ?_) ?_; rotate_left
          · simp only [lookP, allP, Act.put, List.getElem?_cons_zero, List.getElem?_cons_succ, List.setIfInBounds_toArray, List.set_cons_zero, List.set_cons_succ]
            refine ⟨by kernel_rfl, ?_⟩
            (try dsimp only at hS')
            go_simp
            (try with_reducible rfl)
          -- 9: move t3
          refine' chainP_readG (d := (some 34)) _ rfl (fun w' hS' => ?_) ?_; rotate_left
          · simp only [lookP, allP, Act.put, List.getElem?_cons_zero, List.getElem?_cons_succ, List.setIfInBounds_toArray, List.set_cons_zero, List.set_cons_succ]
            refine ⟨by kernel_rfl, ?_⟩
            (try dsimp only at hS')
            go_simp
            (try with_reducible rfl)
          -- 10: move t14
          refine' chainP_readG (d := (some 35)) _ rfl (fun w' hS' => ?_) ?_; rotate_left
          · simp only [lookP, allP, Act.put, List.getElem?_cons_zero, List.getElem?_cons_succ, List.setIfInBounds_toArray, List.set_cons_zero, List.set_cons_succ]
            refine ⟨by kernel_rfl, ?_⟩
            (try dsimp only at hS')
            go_simp
            (try with_reducible rfl)
          -- 11: indexAddr 43 t34 t35
          refine' chainP_readG (d := (some 36)) _ rfl (fun w' hS' => ?_) ?_; rotate_left
          · simp only [lookP, allP, Act.put, List.getElem?_cons_zero, List.getElem?_cons_succ, List.setIfInBounds_toArray, List.set_cons_zero, List.set_cons_succ]
            refine ⟨by kernel_rfl, ?_⟩
            (try dsimp only at hS')
            go_simp
            (try with_reducible rfl)
          -- 12: load 3 t36
          refine' chainP_readG (d := (some 37)) _ rfl (fun w' hS' => ?_) ?_; rotate_left
          · simp only [lookP, allP, Act.put, List.getElem?_cons_zero, List.getElem?_cons_succ, List.setIfInBounds_toArray, List.set_cons_zero, List.set_cons_succ]
            refine ⟨by kernel_rfl, ?_⟩
            (try dsimp only at hS')
            go_simp
            (try with_reducible rfl)
          -- 13: call { callee := value (func 127), args := #[t31, t32, t33, t37], argTypes := #[24, 43, 3, 3] }
          refine chainP_callG (d := (some 38)) (.bool true) rfl (fun w' hS' => ?_) ?_
          · simp only [lookP, allP, Act.put, List.getElem?_cons_zero, List.getElem?_cons_succ, List.setIfInBounds_toArray, List.set_cons_zero, List.set_cons_succ]
            refine ⟨by kernel_rfl, ?_⟩
            intro K hK
            go_simp
            go_at_call 72
            refine (impl_isShare gr _ cs x y _ HG.out (Hcvr.out.below hS'.1) HEL.out HCN.out HXB.out HYI.out).mono ?_
            rintro e u ⟨rfl, hq⟩
            rw [HQ.out]
            exact hK.out _ hq
          -- 14: pick t30 t38 (const (bool false))
          refine' chainP_read (d := (some 39)) _ rfl rfl (fun w' hS' => ?_) ?_; rotate_left
          · simp only [lookP, allP, Act.put, List.getElem?_cons_zero, List.getElem?_cons_succ, List.setIfInBounds_toArray, List.set_cons_zero, List.set_cons_succ]
            (try dsimp only at hS')
            go_simp
            (try with_reducible rfl)
          refine chainP_nil (fun ua hS' => ?_)
          simp only [allP, Act.put, List.setIfInBounds_toArray, List.set_cons_zero, List.set_cons_succ]
          have hq1 := hS'.1
          clear hS'
          replace hc := Below.next hc hq1
          replace c0 := box_at c0 hq1
          replace c1 := box_at c1 hq1
          replace c2 := box_at c2 hq1
          replace y1 := box_at y1 hq1
          clear hq1
          have HR5 := Lib.hid ((HR.out.below hc).below ((Below.refl _ _).drew : Below ua.heap.size ua ua.drew))
          have HB5 := Lib.hid (Below.next (Below.next HB.out hc) ((Below.refl _ _).drew : Below ua.heap.size ua ua.drew))
          have hsb : sb < W.heap.size := World.block_lt_of_cell? _ _ y1W
          have HYW := Lib.hid y1W
          clear hc c0 c1 c2 y1 y1W
          obtain ⟨ud, hud⟩ : ∃ u, u = ua.drew := ⟨_, rfl⟩
          have HSD : Hid (W.heap.size ≤ ud.heap.size) := by unfold Hid; rw [hud]; exact HB5.out.size
          rw [← hud] at HR5 HB5
          try (go_wp2_with fail)
          try (refine NoPanic.normal ?_)
          go_upto_region 6 with fail
          refine wp_region_noPanic ?_
          refine wp_region_V (fun w' => w'.cell? ⟨sb, so + k, none⟩ = some (.int .i64 y)) 15 11 (.rd 0 (.rd 1 (.rd 4 (.rd 5 (.rd 6 (.rd 7 (.rd 8 (.alt 2 (.alt 3 (.alt 9 (.alt 10 .done .nil) .nil) (.alt 9 (.alt 3 (.alt 10 .done .nil) .nil) .nil)) (.alt 9 (.alt 2 (.alt 3 (.alt 10 .done .nil) .nil) .nil) .nil))))))))) [11, 12] (by kernel_rfl) (by kernel_rfl) rfl (fun _ _ _ _ _ h => h) (by rw [← hud]; exact Below.cell' HB5.out hsb HYW.out) ?_
          simp only [pickV, pickN, List.getElem?_cons_zero, List.getElem?_cons_succ]
          rw [← hud]
          clear hud
          repeat (refine' wpV_read _ (by kernel_rfl) (fun w' hS' => ?_) ?_; rotate_left; (focus ((try dsimp only at hS'); go_simp; (try with_reducible rfl))); (try simp only [Act.put, List.setIfInBounds_toArray, List.set_cons_zero, List.set_cons_succ]))
          have G0 : GrI W.heap.size ud ud [(.slice xa xn xc, lx), (.slice ya xn yc, ly), (.slice none 0 0, []), (.slice none 0 0, [])] := ⟨HR5.out.more.more, fun _ _ _ _ h => h, Below.refl _ _, HSD.out⟩
          have HSS : ∀ u rs, GrI W.heap.size ud u rs → u.cell? ⟨sb, so + k, none⟩ = some (.int .i64 y) := fun u rs g => Below.cell' (HB5.out.trans g.bel) hsb HYW.out
          refine wpV_or (by kernel_rfl) (fun K hK => ?_) ?_
          · refine GrI.lit1 _ rfl G0 2 rfl HXI.out rfl ?_
            intro v2 w2_ G1
            refine hK.out _ _ (HSS _ _ G1) (fun _ => ?_)
            clear hK K
            (try simp only [Act.put, List.setIfInBounds_toArray, List.set_cons_zero, List.set_cons_succ])
            refine wpV_or (by kernel_rfl) (fun K hK => ?_) ?_
            · refine GrI.app _ _ rfl G1 0 2 rfl rfl (by simp) (xn + 1) (by have := HXN.out; simp only [List.length_cons, List.length_nil]; omega) (by omega) rfl rfl ?_
              intro a3 c3 w3_ G2
              refine hK.out _ _ (HSS _ _ G2) (fun _ => ?_)
              clear hK K
              (try simp only [Act.put, List.setIfInBounds_toArray, List.set_cons_zero, List.set_cons_succ])
              refine wpV_do (by kernel_rfl) (fun K hK => ?_)
              refine GrI.lit1 _ rfl G2 3 rfl HYI.out rfl ?_
              intro v9 w9_ G3
              refine hK.out _ _ (HSS _ _ G3) (fun _ => ?_)
              clear hK K
              (try simp only [Act.put, List.setIfInBounds_toArray, List.set_cons_zero, List.set_cons_succ])
              refine wpV_do (by kernel_rfl) (fun K hK => ?_)
              refine GrI.app _ _ rfl G3 1 3 rfl rfl (by simp) (xn + 1) (by have := HYN.out; simp only [List.length_cons, List.length_nil]; omega) (by omega) rfl rfl ?_
              intro a10 c10 w10_ G4
              refine hK.out _ _ (HSS _ _ G4) (fun _ => ?_)
              clear hK K
              (try simp only [Act.put, List.setIfInBounds_toArray, List.set_cons_zero, List.set_cons_succ])
              refine wpV_done ?_
              have HR9 := Lib.hid G4.rows.two
              have HB9 : Hid (Below W.heap.size W w10_) := Below.trans HB5.out G4.bel
              go_wp2_with fail
              refine NoPanic.normal ?_
              go_wp2_with fail
              go_roundg (ivn - (k + 1))
              case measure => exact hgk
              case rel => exact ⟨k + 1, _, _, lx ++ [x], ly ++ [y], by omega, by go_num, Lib.hid ⟨HNX.out, rfl, rfl⟩, HR9, HB9⟩
            refine wpV_do (by kernel_rfl) (fun K hK => ?_)
            refine GrI.lit1 _ rfl G1 3 rfl HYI.out rfl ?_
            intro v9 w9_ G2
            refine hK.out _ _ (HSS _ _ G2) (fun _ => ?_)
            clear hK K
            (try simp only [Act.put, List.setIfInBounds_toArray, List.set_cons_zero, List.set_cons_succ])
            refine wpV_do (by kernel_rfl) (fun K hK => ?_)
            refine GrI.app _ _ rfl G2 0 2 rfl rfl (by simp) (xn + 1) (by have := HXN.out; simp only [List.length_cons, List.length_nil]; omega) (by omega) rfl rfl ?_
            intro a3 c3 w3_ G3
            refine hK.out _ _ (HSS _ _ G3) (fun _ => ?_)
            clear hK K
            (try simp only [Act.put, List.setIfInBounds_toArray, List.set_cons_zero, List.set_cons_succ])
            refine wpV_do (by kernel_rfl) (fun K hK => ?_)
            refine GrI.app _ _ rfl G3 1 3 rfl rfl (by simp) (xn + 1) (by have := HYN.out; simp only [List.length_cons, List.length_nil]; omega) (by omega) rfl rfl ?_
            intro a10 c10 w10_ G4
            refine hK.out _ _ (HSS _ _ G4) (fun _ => ?_)
            clear hK K
            (try simp only [Act.put, List.setIfInBounds_toArray, List.set_cons_zero, List.set_cons_succ])
            refine wpV_done ?_
            have HR9 := Lib.hid G4.rows.two
            have HB9 : Hid (Below W.heap.size W w10_) := Below.trans HB5.out G4.bel
            go_wp2_with fail
            refine NoPanic.normal ?_
            go_wp2_with fail
            go_roundg (ivn - (k + 1))
            case measure => exact hgk
            case rel => exact ⟨k + 1, _, _, lx ++ [x], ly ++ [y], by omega, by go_num, Lib.hid ⟨HNX.out, rfl, rfl⟩, HR9, HB9⟩
          refine wpV_do (by kernel_rfl) (fun K hK => ?_)
          refine GrI.lit1 _ rfl G0 3 rfl HYI.out rfl ?_
          intro v9 w9_ G1
          refine hK.out _ _ (HSS _ _ G1) (fun _ => ?_)
          clear hK K
          (try simp only [Act.put, List.setIfInBounds_toArray, List.set_cons_zero, List.set_cons_succ])
          refine wpV_do (by kernel_rfl) (fun K hK => ?_)
          refine GrI.lit1 _ rfl G1 2 rfl HXI.out rfl ?_
          intro v2 w2_ G2
          refine hK.out _ _ (HSS _ _ G2) (fun _ => ?_)
          clear hK K
          (try simp only [Act.put, List.setIfInBounds_toArray, List.set_cons_zero, List.set_cons_succ])
          refine wpV_do (by kernel_rfl) (fun K hK => ?_)
          refine GrI.app _ _ rfl G2 0 2 rfl rfl (by simp) (xn + 1) (by have := HXN.out; simp only [List.length_cons, List.length_nil]; omega) (by omega) rfl rfl ?_
          intro a3 c3 w3_ G3
          refine hK.out _ _ (HSS _ _ G3) (fun _ => ?_)
          clear hK K
          (try simp only [Act.put, List.setIfInBounds_toArray, List.set_cons_zero, List.set_cons_succ])
          refine wpV_do (by kernel_rfl) (fun K hK => ?_)
          refine GrI.app _ _ rfl G3 1 3 rfl rfl (by simp) (xn + 1) (by have := HYN.out; simp only [List.length_cons, List.length_nil]; omega) (by omega) rfl rfl ?_
          intro a10 c10 w10_ G4
          refine hK.out _ _ (HSS _ _ G4) (fun _ => ?_)
          clear hK K
          (try simp only [Act.put, List.setIfInBounds_toArray, List.set_cons_zero, List.set_cons_succ])
          refine wpV_done ?_
          have HR9 := Lib.hid G4.rows.two
          have HB9 : Hid (Below W.heap.size W w10_) := Below.trans HB5.out G4.bel
          go_wp2_with fail
          refine NoPanic.normal ?_
          go_wp2_with fail
          go_roundg (ivn - (k + 1))
          case measure => exact hgk
          case rel => exact ⟨k + 1, _, _, lx ++ [x], ly ++ [y], by omega, by go_num, Lib.hid ⟨HNX.out, rfl, rfl⟩, HR9, HB9⟩
        | false =>
          have HNX : Hid (pk gr cs ix ss (k + 1) = (lx, ly)) := HP2.out HQ.out
          try (go_wp2_with fail)
          refine wp_region_noPanic ?_
          refine wp_region_P (fun w' => w'.cell? ⟨w.heap.size, 0, none⟩ = some (.int .i64 gr.p) ∧ w'.cell? ⟨w.heap.size, 1, none⟩ = some (.int .i64 gr.q) ∧ w'.cell? ⟨w.heap.size, 2, none⟩ = some (.int .i64 gr.g) ∧ w'.cell? ⟨sb, so + k, none⟩ = some (.int .i64 y)) 17 [(0, []), (1, [0]), (2, []), (3, [0]), (4, [2, 0]), (5, [0]), (6, [0]), (7, [1]), (8, [2]), (9, [3]), (10, [4]), (11, [1, 0, 5]), (12, [0, 6]), (13, [6, 5, 4, 0, 7]), (14, [8, 0])] [] (by kernel_rfl) (by kernel_rfl) (by kernel_rfl) rfl (fun _ _ _ _ h => h) (fun w' h => ⟨box_at c0 h, box_at c1 h, box_at c2 h, box_at y1 h⟩) ?_
          simp only [pickP, pickN, List.getElem?_cons_zero, List.getElem?_cons_succ]
          iterate 6 (refine' chainP_read _ rfl rfl (fun w' hS' => ?_) ?_; rotate_left; · (simp only [lookP, allP, Act.put, List.getElem?_cons_zero, List.getElem?_cons_succ, List.setIfInBounds_toArray, List.set_cons_zero, List.set_cons_succ]; (try dsimp only at hS'); go_simp; (try with_reducible rfl)))
          -- 6: load 24 t5
          refine' chainP_readG (d := (some 31)) _ rfl (fun w' hS' => ?_) ?_; rotate_left
          · simp only [lookP, allP, Act.put, List.getElem?_cons_zero, List.getElem?_cons_succ, List.setIfInBounds_toArray, List.set_cons_zero, List.set_cons_succ]
            refine ⟨by kernel_rfl, ?_⟩
            (try dsimp only at hS')
            go_simp
            (try with_reducible rfl)
          -- 7: move t1
          refine' chainP_readG (d := (some 32)) _ rfl (fun w' hS' => ?_) ?_; rotate_left
          · simp only [lookP, allP, Act.put, List.getElem?_cons_zero, List.getElem?_cons_succ, List.setIfInBounds_toArray, List.set_cons_zero, List.set_cons_succ]
            refine ⟨by kernel_rfl, ?_⟩
            (try dsimp only at hS')
            go_simp
            (try with_reducible rfl)
          -- 8: move t15
          refine' chainP_readG (d := (some 33)) _ rfl (fun w' hS' => ?_) ?_; rotate_left
          · simp only [lookP, allP, Act.put, List.getElem?_cons_zero, List.getElem?_cons_succ, List.setIfInBounds_toArray, List.set_cons_zero, List.set_cons_succ]
            refine ⟨by kernel_rfl, ?_⟩
            (try dsimp only at hS')
            go_simp
            (try with_reducible rfl)
          -- 9: move t3
          refine' chainP_readG (d := (some 34)) _ rfl (fun w' hS' => ?_) ?_; rotate_left
          · simp only [lookP, allP, Act.put, List.getElem?_cons_zero, List.getElem?_cons_succ, List.setIfInBounds_toArray, List.set_cons_zero, List.set_cons_succ]
            refine ⟨by kernel_rfl, ?_⟩
            (try dsimp only at hS')
            go_simp
            (try with_reducible rfl)
          -- 10: move t14
          refine' chainP_readG (d := (some 35)) _ rfl (fun w' hS' => ?_) ?_; rotate_left
          · simp only [lookP, allP, Act.put, List.getElem?_cons_zero, List.getElem?_cons_succ, List.setIfInBounds_toArray, List.set_cons_zero, List.set_cons_succ]
            refine ⟨by kernel_rfl, ?_⟩
            (try dsimp only at hS')
            go_simp
            (try with_reducible rfl)
          -- 11: indexAddr 43 t34 t35
          refine' chainP_readG (d := (some 36)) _ rfl (fun w' hS' => ?_) ?_; rotate_left
          · simp only [lookP, allP, Act.put, List.getElem?_cons_zero, List.getElem?_cons_succ, List.setIfInBounds_toArray, List.set_cons_zero, List.set_cons_succ]
            refine ⟨by kernel_rfl, ?_⟩
            (try dsimp only at hS')
            go_simp
            (try with_reducible rfl)
          -- 12: load 3 t36
          refine' chainP_readG (d := (some 37)) _ rfl (fun w' hS' => ?_) ?_; rotate_left
          · simp only [lookP, allP, Act.put, List.getElem?_cons_zero, List.getElem?_cons_succ, List.setIfInBounds_toArray, List.set_cons_zero, List.set_cons_succ]
            refine ⟨by kernel_rfl, ?_⟩
            (try dsimp only at hS')
            go_simp
            (try with_reducible rfl)
          -- 13: call { callee := value (func 127), args := #[t31, t32, t33, t37], argTypes := #[24, 43, 3, 3] }
          refine chainP_callG (d := (some 38)) (.bool false) rfl (fun w' hS' => ?_) ?_
          · simp only [lookP, allP, Act.put, List.getElem?_cons_zero, List.getElem?_cons_succ, List.setIfInBounds_toArray, List.set_cons_zero, List.set_cons_succ]
            refine ⟨by kernel_rfl, ?_⟩
            intro K hK
            go_simp
            go_at_call 72
            refine (impl_isShare gr _ cs x y _ HG.out (Hcvr.out.below hS'.1) HEL.out HCN.out HXB.out HYI.out).mono ?_
            rintro e u ⟨rfl, hq⟩
            rw [HQ.out]
            exact hK.out _ hq
          -- 14: pick t30 t38 (const (bool false))
          refine' chainP_read (d := (some 39)) _ rfl rfl (fun w' hS' => ?_) ?_; rotate_left
          · simp only [lookP, allP, Act.put, List.getElem?_cons_zero, List.getElem?_cons_succ, List.setIfInBounds_toArray, List.set_cons_zero, List.set_cons_succ]
            (try dsimp only at hS')
            go_simp
            (try with_reducible rfl)
          refine chainP_nil (fun ua hS' => ?_)
          simp only [allP, Act.put, List.setIfInBounds_toArray, List.set_cons_zero, List.set_cons_succ]
          have hq1 := hS'.1
          clear hS'
          replace hc := Below.next hc hq1
          replace c0 := box_at c0 hq1
          replace c1 := box_at c1 hq1
          replace c2 := box_at c2 hq1
          replace y1 := box_at y1 hq1
          clear hq1
          clear c0 c1 c2 y1
          have HR2 := Lib.hid (HR.out.below hc)
          have HB2 := Lib.hid (Below.next HB.out hc)
          clear hc
          try (go_wp2_with fail)
          try (refine NoPanic.normal ?_)
          go_wp2_with fail
          go_roundg (ivn - (k + 1))
          case measure => exact hgk
          case rel => exact ⟨k + 1, _, _, lx, ly, by omega, by go_num, Lib.hid ⟨HNX.out, rfl, rfl⟩, HR2, HB2⟩
      · have q1 : decide ((xn : Int) < (cvn : Int)) = false := decide_eq_false (by omega)
        have q1n : decide (xn < cvn) = false := decide_eq_false hcc
        have HNX : Hid (pk gr cs ix ss (k + 1) = (lx, ly)) := HP1.out (by have := HXN.out; have := Ecv.out; omega)
        clear hcc
        try (go_wp2_with fail)
        refine wp_region_noPanic ?_
        refine wp_region_P (fun w' => w'.cell? ⟨w.heap.size, 0, none⟩ = some (.int .i64 gr.p) ∧ w'.cell? ⟨w.heap.size, 1, none⟩ = some (.int .i64 gr.q) ∧ w'.cell? ⟨w.heap.size, 2, none⟩ = some (.int .i64 gr.g) ∧ w'.cell? ⟨sb, so + k, none⟩ = some (.int .i64 y)) 17 [(0, []), (1, [0]), (2, []), (3, [0]), (4, [2, 0]), (5, [0]), (6, [0]), (7, [1]), (8, [2]), (9, [3]), (10, [4]), (11, [1, 0, 5]), (12, [0, 6]), (13, [6, 5, 4, 0, 7]), (14, [8, 0])] [] (by kernel_rfl) (by kernel_rfl) (by kernel_rfl) rfl (fun _ _ _ _ h => h) (fun w' h => ⟨box_at c0 h, box_at c1 h, box_at c2 h, box_at y1 h⟩) ?_
        simp only [pickP, pickN, List.getElem?_cons_zero, List.getElem?_cons_succ]
        iterate 6 (refine' chainP_read _ rfl rfl (fun w' hS' => ?_) ?_; rotate_left; · (simp only [lookP, allP, Act.put, List.getElem?_cons_zero, List.getElem?_cons_succ, List.setIfInBounds_toArray, List.set_cons_zero, List.set_cons_succ]; (try dsimp only at hS'); go_simp; (try with_reducible rfl)))
        -- 6: load 24 t5
        refine chainP_skip (d := (some 31)) rfl (fun w' hS' => ?_) ?_
        · simp only [lookP, allP, Act.put, List.getElem?_cons_zero, List.getElem?_cons_succ, List.setIfInBounds_toArray, List.set_cons_zero, List.set_cons_succ]
          kernel_rfl
        -- 7: move t1
        refine chainP_skip (d := (some 32)) rfl (fun w' hS' => ?_) ?_
        · simp only [lookP, allP, Act.put, List.getElem?_cons_zero, List.getElem?_cons_succ, List.setIfInBounds_toArray, List.set_cons_zero, List.set_cons_succ]
          kernel_rfl
        -- 8: move t15
        refine chainP_skip (d := (some 33)) rfl (fun w' hS' => ?_) ?_
        · simp only [lookP, allP, Act.put, List.getElem?_cons_zero, List.getElem?_cons_succ, List.setIfInBounds_toArray, List.set_cons_zero, List.set_cons_succ]
          kernel_rfl
        -- 9: move t3
        refine chainP_skip (d := (some 34)) rfl (fun w' hS' => ?_) ?_
        · simp only [lookP, allP, Act.put, List.getElem?_cons_zero, List.getElem?_cons_succ, List.setIfInBounds_toArray, List.set_cons_zero, List.set_cons_succ]
          kernel_rfl
        -- 10: move t14
        refine chainP_skip (d := (some 35)) rfl (fun w' hS' => ?_) ?_
        · simp only [lookP, allP, Act.put, List.getElem?_cons_zero, List.getElem?_cons_succ, List.setIfInBounds_toArray, List.set_cons_zero, List.set_cons_succ]
          kernel_rfl
        -- 11: indexAddr 43 t34 t35
        refine chainP_skip (d := (some 36)) rfl (fun w' hS' => ?_) ?_
        · simp only [lookP, allP, Act.put, List.getElem?_cons_zero, List.getElem?_cons_succ, List.setIfInBounds_toArray, List.set_cons_zero, List.set_cons_succ]
          kernel_rfl
        -- 12: load 3 t36
        refine chainP_skip (d := (some 37)) rfl (fun w' hS' => ?_) ?_
        · simp only [lookP, allP, Act.put, List.getElem?_cons_zero, List.getElem?_cons_succ, List.setIfInBounds_toArray, List.set_cons_zero, List.set_cons_succ]
          kernel_rfl
        -- 13: call { callee := value (func 127), args := #[t31, t32, t33, t37], argTypes := #[24, 43, 3, 3] }
        refine chainP_skip (d := (some 38)) rfl (fun w' hS' => ?_) ?_
        · simp only [lookP, allP, Act.put, List.getElem?_cons_zero, List.getElem?_cons_succ, List.setIfInBounds_toArray, List.set_cons_zero, List.set_cons_succ]
          kernel_rfl
        -- 14: pick t30 t38 (const (bool false))
        refine' chainP_read (d := (some 39)) _ rfl rfl (fun w' hS' => ?_) ?_; rotate_left
        · simp only [lookP, allP, Act.put, List.getElem?_cons_zero, List.getElem?_cons_succ, List.setIfInBounds_toArray, List.set_cons_zero, List.set_cons_succ]
          (try dsimp only at hS')
          go_simp
          (try with_reducible rfl)
        refine chainP_nil (fun ua hS' => ?_)
        simp only [allP, Act.put, List.setIfInBounds_toArray, List.set_cons_zero, List.set_cons_succ]
        have hq1 := hS'.1
        clear hS'
        replace hc := Below.next hc hq1
        replace c0 := box_at c0 hq1
        replace c1 := box_at c1 hq1
        replace c2 := box_at c2 hq1
        replace y1 := box_at y1 hq1
        clear hq1
        clear c0 c1 c2 y1
        have HR2 := Lib.hid (HR.out.below hc)
        have HB2 := Lib.hid (Below.next HB.out hc)
        clear hc
        try (go_wp2_with fail)
        try (refine NoPanic.normal ?_)
        go_wp2_with fail
        go_roundg (ivn - (k + 1))
        case measure => exact hgk
        case rel => exact ⟨k + 1, _, _, lx, ly, by omega, by go_num, Lib.hid ⟨HNX.out, rfl, rfl⟩, HR2, HB2⟩
    · obtain rfl : ivn = k := by omega
      have HPX : Hid (pkX gr cs ix ss = lx) := by unfold Hid pkX; rw [Eiv.out, HPE.out]
      have HPYL : Hid (pkY gr cs ix ss = ly) := by unfold Hid pkY; rw [Eiv.out, HPE.out]
      rw [HPX.out, HPYL.out] at HPF
      have HIX : Hid (Ints wr (.slice xa xn xc) lx) := HOX.out.ints
      have HIY : Hid (Ints wr (.slice ya xn yc) ly) := HOY.out.ints
      have HBZ := Lib.hid (HBW.out.trans (HB.out.mono HBW.out.size))
      by_cases hcc : xn < cvn
      · have q1 : decide ((xn : Int) < (cvn : Int)) = true := decide_eq_true (by omega)
        have q1n : decide (xn < cvn) = true := decide_eq_true hcc
        have HVF : Hid (vaB gr cs ix ss = false) := by unfold Hid vaB; rw [HPX.out, HXN.out, decide_eq_true (by have := Ecv.out; omega)]; rfl
        clear hcc
        go_wp2_with fail
        go_ret2
        exact ⟨by unfold vaR; rw [HVF.out]; rfl, HBZ.out⟩
      · have q1 : decide ((xn : Int) < (cvn : Int)) = false := decide_eq_false (by omega)
        have q1n : decide (xn < cvn) = false := decide_eq_false hcc
        have HVT : Hid (vaB gr cs ix ss = true) := by unfold Hid vaB; rw [HPX.out, HXN.out, decide_eq_false (by have := Ecv.out; omega)]; rfl
        have HVV : Hid (vaV gr cs ix ss x0 = dotM gr.q (lagL gr.q lx x0) ly (lagL gr.q lx x0).length) := by unfold Hid vaV; rw [HPX.out, HPYL.out]
        have HX0 : Hid ((0 : Int) ≤ x0 ∧ (x0 : Int) ≤ 1000) := hx
        clear hcc
        have c0 := box_at C0.out HB.out
        have c1 := box_at C1.out HB.out
        have c2 := box_at C2.out HB.out
        go_upto_region 10 with fail
        refine wp_region_noPanic ?_
        refine wp_region_V (fun w' => w'.cell? ⟨w.heap.size, 0, none⟩ = some (.int .i64 gr.p) ∧ w'.cell? ⟨w.heap.size, 1, none⟩ = some (.int .i64 gr.q) ∧ w'.cell? ⟨w.heap.size, 2, none⟩ = some (.int .i64 gr.g)) 13 9 (.rd 0 (.rd 1 (.rd 2 (.rd 3 (.rd 5 (.rd 6 (.rd 7 (.alt 4 (.alt 8 .done .nil) .nil)))))))) [9, 10] (by kernel_rfl) (by kernel_rfl) rfl (fun _ _ _ _ _ h => h) ⟨box_at c0 (Below.refl _ _).drew, box_at c1 (Below.refl _ _).drew, box_at c2 (Below.refl _ _).drew⟩ ?_
        simp only [pickV, pickN, List.getElem?_cons_zero, List.getElem?_cons_succ]
        repeat (refine' wpV_read _ (by kernel_rfl) (fun w' hS' => ?_) ?_; rotate_left; (focus ((try dsimp only at hS'); go_simp; (try with_reducible rfl))); (try simp only [Act.put, List.setIfInBounds_toArray, List.set_cons_zero, List.set_cons_succ]))
        have hb1 : Below wr.heap.size wr wr.drew := (Below.refl _ _).drew
        refine wpV_do (by kernel_rfl) (fun K hK => ?_)
        go_simp
        go_at_call 53
        refine (impl_lagrange gr.q _ lx x0 _ HPR.out hq2 (HIX.out.below hb1) (by have := HPF.out.l7; omega) (fun y hy => by have := HPF.out.bx y hy; omega) HPF.out.df HX0.out).mono ?_
        rintro e u1 ⟨⟨v1, rfl, ho1⟩, hb2⟩
        obtain ⟨l1, hl1⟩ : ∃ z, lagL gr.q lx x0 = z := ⟨_, rfl⟩
        have HL1 : Hid (∀ y ∈ l1, 0 ≤ y ∧ y < gr.q) := by rw [← hl1]; exact lagL_bd hq0 _ _
        have HL2 : Hid (l1.length = lx.length) := by rw [← hl1]; exact lagL_len _ _ _
        rw [hl1] at ho1 HVV
        have HO1 := Lib.hid ho1.ints
        have HB3 : Hid (Below wr.heap.size wr u1) := Below.next hb1 hb2
        clear hb1 hb2 ho1 hl1
        refine hK.out _ _ ⟨box_at c0 HB3.out, box_at c1 HB3.out, box_at c2 HB3.out⟩ (fun _ => ?_)
        clear hK K
        (try simp only [Act.put, List.setIfInBounds_toArray, List.set_cons_zero, List.set_cons_succ])
        refine wpV_do (by kernel_rfl) (fun K hK => ?_)
        go_simp
        go_at_call 108
        refine (impl_dot gr.q _ _ l1 ly _ ⟨by omega, hq2⟩ HO1.out (HIY.out.below HB3.out) HL1.out HPF.out.by_ (by have := HL2.out; have := HPF.out.len; omega)).mono ?_
        rintro e u2 ⟨rfl, hb4⟩
        have HB5 : Hid (Below wr.heap.size wr u2) := Below.next HB3.out hb4
        clear hb4
        refine hK.out _ _ ⟨box_at c0 HB5.out, box_at c1 HB5.out, box_at c2 HB5.out⟩ (fun _ => ?_)
        clear hK K c0 c1 c2
        (try simp only [Act.put, List.setIfInBounds_toArray, List.set_cons_zero, List.set_cons_succ])
        refine wpV_done ?_
        go_wp2_with fail
        refine NoPanic.normal ?_
        go_wp2_with fail
        go_ret2
        exact ⟨by unfold vaR; rw [if_pos HVT.out, HVT.out, HVV.out]; rfl, HBZ.out.trans (HB5.out.mono HBZ.out.size)⟩
end Go.Proofs.YtacpnphfopmofaaGreat
