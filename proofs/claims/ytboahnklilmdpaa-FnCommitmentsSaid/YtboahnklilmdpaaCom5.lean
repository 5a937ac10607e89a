/- Equivocations: walks (printed by gen_com5.py). -/
import Derived.Test.YtboahnklilmdpaaComL
import Derived.Test.YtboahnklilmdpaaEu
namespace Go.Proofs.Ytboahnklilmdpaa
open Go.RowKit
set_option linter.unusedSimpArgs false
set_option linter.unusedVariables false

noncomputable def eqR (gr : GroupD) (t m r o : Int) : Int := if eqB gr t m r o = true then (r + (m - o) % gr.q * invQ t gr.q) % gr.q else 0
theorem four_exp {gr : GroupD} {t m r o : Int} (h : [t, m, r, o].all (expB gr) = true) : expB gr t = true ∧ expB gr m = true ∧ expB gr r = true ∧ expB gr o = true := by
  simpa using h
theorem mul_bound {a b : Int} (h1 : 0 ≤ a) (h2 : a ≤ 2000000000) (h3 : 0 ≤ b) (h4 : b ≤ 2000000000) : 0 ≤ a * b ∧ a * b ≤ 4000000000000000000 :=
  ⟨Int.mul_nonneg h1 h3, Int.le_trans (Int.mul_le_mul h2 h4 h3 (by omega)) (by decide)⟩
set_option maxRecDepth 100000 in
set_option maxHeartbeats 2000000 in
theorem impl_Equivocate (gr : GroupD) (t m r o : Int) (w : World) (it : I64 t) (im0 : I64 m) (ir : I64 r) (io : I64 o) :
    Calls Try.prog 57 #[.agg #[.int .i64 gr.p, .int .i64 gr.q, .int .i64 gr.g], .int .i64 t, .int .i64 m, .int .i64 r, .int .i64 o] w fun e w' => e = .returned (.tuple #[.int .i64 (eqR gr t m r o), .bool (eqB gr t m r o)]) ∧ Below w.heap.size w w' := by
  cases hc1 : goodG gr with
  | false =>
    have HV : Hid ((.tuple #[.int .i64 (eqR gr t m r o), .bool (eqB gr t m r o)] : Value) = .tuple #[.int .i64 0, .bool false]) := by unfold Hid; simp [eqR, eqB, hc1]
    rw [HV.out]
    have Hhc1 := Lib.hid hc1
    clear hc1
    obtain ⟨W, hW⟩ : ∃ W, W = w.alloc (.cells #[.int .i64 gr.p, .int .i64 gr.q, .int .i64 gr.g] 39) := ⟨_, rfl⟩
    have HB : Hid (Below w.heap.size w W) := by unfold Hid; rw [hW]; (repeat (first | exact Below.refl _ _ | assumption | refine Below.drew ?_ | refine Below.alloc ?_ (by first | (simp; done) | (simp; omega)) _ | refine Below.setCell ?_ (by first | (simp; done) | (simp; omega)) _))
    have c0_0 : W.cell? ⟨w.heap.size, 0, none⟩ = some (.int .i64 gr.p) := by rw [hW]; simp [go_sem]
    have c0_1 : W.cell? ⟨w.heap.size, 1, none⟩ = some (.int .i64 gr.q) := by rw [hW]; simp [go_sem]
    have c0_2 : W.cell? ⟨w.heap.size, 2, none⟩ = some (.int .i64 gr.g) := by rw [hW]; simp [go_sem]
    have HSW : Hid (W.heap.size = w.heap.size + 1) := by unfold Hid; rw [hW]; simp
    go_enter Try.func57, Try.ntmps57
    go_wp2_with fail
    rw [← hW]
    clear hW
    have hc : Below W.heap.size W W := Below.refl _ _
    go_wp2_with fail
    refine (impl_IsValidGroup gr _).mono ?_
    rintro e u1 ⟨rfl, hq1⟩
    replace hc := Below.next hc hq1
    replace c0_0 := box_at c0_0 hq1
    replace c0_1 := box_at c0_1 hq1
    replace c0_2 := box_at c0_2 hq1
    clear hq1
    rw [Hhc1.out]
    go_wp2_with fail
    go_ret2
    exact ⟨rfl, HB.out.trans (hc.mono HB.out.size)⟩
  | true =>
    have HG := Lib.hid (goodG_ok hc1)
    cases hc2 : [t, m, r, o].all (expB gr) with
    | false =>
      have HV : Hid ((.tuple #[.int .i64 (eqR gr t m r o), .bool (eqB gr t m r o)] : Value) = .tuple #[.int .i64 0, .bool false]) := by unfold Hid; have qhc2 := hc2; simp only [List.all_cons, List.all_nil, Bool.and_true] at qhc2; simp [eqR, eqB, hc1, qhc2]
      rw [HV.out]
      have Hhc1 := Lib.hid hc1
      clear hc1
      have Hhc2 := Lib.hid hc2
      clear hc2
      obtain ⟨W, hW⟩ : ∃ W, W = w.alloc (.cells #[.int .i64 gr.p, .int .i64 gr.q, .int .i64 gr.g] 39) := ⟨_, rfl⟩
      have HB : Hid (Below w.heap.size w W) := by unfold Hid; rw [hW]; (repeat (first | exact Below.refl _ _ | assumption | refine Below.drew ?_ | refine Below.alloc ?_ (by first | (simp; done) | (simp; omega)) _ | refine Below.setCell ?_ (by first | (simp; done) | (simp; omega)) _))
      have c0_0 : W.cell? ⟨w.heap.size, 0, none⟩ = some (.int .i64 gr.p) := by rw [hW]; simp [go_sem]
      have c0_1 : W.cell? ⟨w.heap.size, 1, none⟩ = some (.int .i64 gr.q) := by rw [hW]; simp [go_sem]
      have c0_2 : W.cell? ⟨w.heap.size, 2, none⟩ = some (.int .i64 gr.g) := by rw [hW]; simp [go_sem]
      have HSW : Hid (W.heap.size = w.heap.size + 1) := by unfold Hid; rw [hW]; simp
      go_enter Try.func57, Try.ntmps57
      go_wp2_with fail
      rw [← hW]
      clear hW
      have hc : Below W.heap.size W W := Below.refl _ _
      go_wp2_with fail
      refine (impl_IsValidGroup gr _).mono ?_
      rintro e u1 ⟨rfl, hq1⟩
      replace hc := Below.next hc hq1
      replace c0_0 := box_at c0_0 hq1
      replace c0_1 := box_at c0_1 hq1
      replace c0_2 := box_at c0_2 hq1
      clear hq1
      rw [Hhc1.out]
      go_wp2_with fail
      refine (impl_areExps gr _ [t, m, r, o] _ HG.out (OwnI.lit (B := 0) _ (Nat.zero_le _) (l := [t, m, r, o]) (AllI64.cons it (AllI64.cons im0 (AllI64.cons ir (AllI64.cons io AllI64.nil)))) rfl (by simp [maxLen]) 4 rfl).ints).mono ?_
      rintro e u2 ⟨rfl, hq2⟩
      replace hq2 := Below.next (keep_al (Below.refl _ _) _) hq2
      replace hc := Below.next hc hq2
      replace c0_0 := box_at c0_0 hq2
      replace c0_1 := box_at c0_1 hq2
      replace c0_2 := box_at c0_2 hq2
      clear hq2
      rw [Hhc2.out]
      go_wp2_with fail
      go_ret2
      exact ⟨rfl, HB.out.trans (hc.mono HB.out.size)⟩
    | true =>
      have HFE := Lib.hid (four_exp hc2)
      have ZQ := HG.out
      have zq1 := HG.out.q1
      have zq2 := HG.out.q2
      have zp2 := HG.out.p2
      clear ZQ
      have zq3 : gr.q ≤ 2000000000 := by omega
      have zq0 : 0 < gr.q := by omega
      have zq4 : gr.q ≤ 4000000000 := by omega
      obtain ⟨b1, b2⟩ := expB_bd HFE.out.1
      obtain ⟨b3, b4⟩ := expB_bd HFE.out.2.1
      obtain ⟨b5, b6⟩ := expB_bd HFE.out.2.2.1
      obtain ⟨b7, b8⟩ := expB_bd HFE.out.2.2.2
      cases hc3 : (t == 0) with
      | false =>
        have HT0 : Hid (¬ t = 0) := by unfold Hid; simpa using hc3
        have ht0 : 0 < t := by have q : ¬ t = 0 := (by simpa using hc3); omega
        have ht1 : t < gr.q := by omega
        have HIV := Lib.hid (invQ_is HG.out.qp ht0 ht1)
        obtain ⟨⟨v1, v2⟩, _⟩ := HIV.out
        have m1 : 0 ≤ (m - o) % gr.q := Int.emod_nonneg _ (by omega)
        have m2 : (m - o) % gr.q < gr.q := Int.emod_lt_of_pos _ zq0
        obtain ⟨m3, m4⟩ := mul_bound m1 (by omega) v1 (by omega)
        have im : I64 (m - o) := ⟨by omega, by omega⟩
        have is : I64 (r + (m - o) % gr.q * invQ t gr.q) := ⟨by omega, by omega⟩
        have ew1 : IntKind.i64.wrap (m - o) = m - o := IntWalk.i64_in _ (by omega)
        have ew2 : IntKind.i64.wrap ((m - o) % gr.q * invQ t gr.q) = (m - o) % gr.q * invQ t gr.q := IntWalk.i64_in _ (by omega)
        have ew3 : IntKind.i64.wrap (r + (m - o) % gr.q * invQ t gr.q) = r + (m - o) % gr.q * invQ t gr.q := IntWalk.i64_in _ (by omega)
        have HTM : Hid (invQ (t % gr.q) gr.q = invQ t gr.q) := by unfold Hid; rw [Int.emod_eq_of_lt b1 ht1]
        have hte : 0 < t % gr.q := by rw [Int.emod_eq_of_lt b1 ht1]; exact ht0
        clear m3 m4 v1 v2 m1 m2
        have HV : Hid ((.tuple #[.int .i64 (eqR gr t m r o), .bool (eqB gr t m r o)] : Value) = .tuple #[.int .i64 ((r + (m - o) % gr.q * invQ t gr.q) % gr.q), .bool true]) := by unfold Hid; have qhc2 := hc2; simp only [List.all_cons, List.all_nil, Bool.and_true] at qhc2; simp [eqR, eqB, hc1, qhc2, hc3, HT0.out]
        rw [HV.out]
        have Hhc1 := Lib.hid hc1
        clear hc1
        have Hhc2 := Lib.hid hc2
        clear hc2
        obtain ⟨W, hW⟩ : ∃ W, W = w.alloc (.cells #[.int .i64 gr.p, .int .i64 gr.q, .int .i64 gr.g] 39) := ⟨_, rfl⟩
        have HB : Hid (Below w.heap.size w W) := by unfold Hid; rw [hW]; (repeat (first | exact Below.refl _ _ | assumption | refine Below.drew ?_ | refine Below.alloc ?_ (by first | (simp; done) | (simp; omega)) _ | refine Below.setCell ?_ (by first | (simp; done) | (simp; omega)) _))
        have c0_0 : W.cell? ⟨w.heap.size, 0, none⟩ = some (.int .i64 gr.p) := by rw [hW]; simp [go_sem]
        have c0_1 : W.cell? ⟨w.heap.size, 1, none⟩ = some (.int .i64 gr.q) := by rw [hW]; simp [go_sem]
        have c0_2 : W.cell? ⟨w.heap.size, 2, none⟩ = some (.int .i64 gr.g) := by rw [hW]; simp [go_sem]
        have HSW : Hid (W.heap.size = w.heap.size + 1) := by unfold Hid; rw [hW]; simp
        go_enter Try.func57, Try.ntmps57
        go_wp2_with fail
        rw [← hW]
        clear hW
        have hc : Below W.heap.size W W := Below.refl _ _
        go_wp2_with fail
        refine (impl_IsValidGroup gr _).mono ?_
        rintro e u1 ⟨rfl, hq1⟩
        replace hc := Below.next hc hq1
        replace c0_0 := box_at c0_0 hq1
        replace c0_1 := box_at c0_1 hq1
        replace c0_2 := box_at c0_2 hq1
        clear hq1
        rw [Hhc1.out]
        go_wp2_with fail
        refine (impl_areExps gr _ [t, m, r, o] _ HG.out (OwnI.lit (B := 0) _ (Nat.zero_le _) (l := [t, m, r, o]) (AllI64.cons it (AllI64.cons im0 (AllI64.cons ir (AllI64.cons io AllI64.nil)))) rfl (by simp [maxLen]) 4 rfl).ints).mono ?_
        rintro e u2 ⟨rfl, hq2⟩
        replace hq2 := Below.next (keep_al (Below.refl _ _) _) hq2
        replace hc := Below.next hc hq2
        replace c0_0 := box_at c0_0 hq2
        replace c0_1 := box_at c0_1 hq2
        replace c0_2 := box_at c0_2 hq2
        clear hq2
        rw [Hhc2.out]
        try (go_wp2_with fail)
        refine wp_region_noPanic ?_
        refine wp_region_P (fun w' => w'.cell? ⟨w.heap.size, 0, none⟩ = some (.int .i64 gr.p) ∧ w'.cell? ⟨w.heap.size, 1, none⟩ = some (.int .i64 gr.q) ∧ w'.cell? ⟨w.heap.size, 2, none⟩ = some (.int .i64 gr.g)) 18 [(0, []), (1, []), (2, []), (3, []), (4, []), (5, [1, 0]), (6, [3, 0]), (7, []), (8, []), (9, [0]), (10, [2, 0]), (11, [4, 0]), (12, [10, 0]), (13, [12, 0]), (14, [0]), (15, [])] [] (by kernel_rfl) (by kernel_rfl) (by kernel_rfl) rfl (fun _ _ _ _ h => h) (fun w' h => ⟨box_at c0_0 h, box_at c0_1 h, box_at c0_2 h⟩) ?_
        simp only [pickP, pickN, List.getElem?_cons_zero, List.getElem?_cons_succ]
        iterate 6 (refine' chainP_read _ rfl rfl (fun w' hS' => ?_) ?_; rotate_left; · (simp only [lookP, allP, Act.put, List.getElem?_cons_zero, List.getElem?_cons_succ, List.setIfInBounds_toArray, List.set_cons_zero, List.set_cons_succ]; (try dsimp only at hS'); go_simp; (try with_reducible rfl)))
        -- 6: call { callee := value (func 177), args := #[t31, t34], argTypes := #[39, 3] }
        refine chainP_call (d := (some 35)) (.int .i64 ((m - o) % gr.q)) rfl rfl (fun w' hS' => ?_) ?_
        · simp only [lookP, allP, Act.put, List.getElem?_cons_zero, List.getElem?_cons_succ, List.setIfInBounds_toArray, List.set_cons_zero, List.set_cons_succ]
          intro K hK
          go_simp
          go_at_call 177
          refine (impl_exp gr (m - o) _ HG.out im).mono ?_
          rintro e u ⟨rfl, hq⟩
          exact hK.out _ hq
        iterate 3 (refine' chainP_read _ rfl rfl (fun w' hS' => ?_) ?_; rotate_left; · (simp only [lookP, allP, Act.put, List.getElem?_cons_zero, List.getElem?_cons_succ, List.setIfInBounds_toArray, List.set_cons_zero, List.set_cons_succ]; (try dsimp only at hS'); go_simp; (try with_reducible rfl)))
        -- 10: call { callee := value (func 178), args := #[t36, t38], argTypes := #[3, 3] }
        refine chainP_call (d := (some 39)) (.int .i64 (invQ t gr.q)) rfl rfl (fun w' hS' => ?_) ?_
        · simp only [lookP, allP, Act.put, List.getElem?_cons_zero, List.getElem?_cons_succ, List.setIfInBounds_toArray, List.set_cons_zero, List.set_cons_succ]
          intro K hK
          go_simp
          go_at_call 178
          refine (impl_inverse t gr.q _ HG.out.qp ht0 ht1 zq3).mono ?_
          rintro e u ⟨rfl, rfl⟩
          exact hK.out _ (Below.refl _ _)
        iterate 2 (refine' chainP_read _ rfl rfl (fun w' hS' => ?_) ?_; rotate_left; · (simp only [lookP, allP, Act.put, List.getElem?_cons_zero, List.getElem?_cons_succ, List.setIfInBounds_toArray, List.set_cons_zero, List.set_cons_succ]; (try dsimp only at hS'); go_simp; (try with_reducible rfl)))
        -- 13: call { callee := value (func 177), args := #[t29, t41], argTypes := #[39, 3] }
        refine chainP_call (d := (some 42)) (.int .i64 ((r + (m - o) % gr.q * invQ t gr.q) % gr.q)) rfl rfl (fun w' hS' => ?_) ?_
        · simp only [lookP, allP, Act.put, List.getElem?_cons_zero, List.getElem?_cons_succ, List.setIfInBounds_toArray, List.set_cons_zero, List.set_cons_succ]
          intro K hK
          go_simp
          go_at_call 177
          refine (impl_exp gr (r + (m - o) % gr.q * invQ t gr.q) _ HG.out is).mono ?_
          rintro e u ⟨rfl, hq⟩
          exact hK.out _ hq
        iterate 2 (refine' chainP_read _ rfl rfl (fun w' hS' => ?_) ?_; rotate_left; · (simp only [lookP, allP, Act.put, List.getElem?_cons_zero, List.getElem?_cons_succ, List.setIfInBounds_toArray, List.set_cons_zero, List.set_cons_succ]; (try dsimp only at hS'); go_simp; (try with_reducible rfl)))
        refine chainP_nil (fun u3 hS' => ?_)
        simp only [allP, Act.put, List.setIfInBounds_toArray, List.set_cons_zero, List.set_cons_succ]
        have hq3 := hS'.1
        clear hS'
        replace hc := Below.next hc hq3
        replace c0_0 := box_at c0_0 hq3
        replace c0_1 := box_at c0_1 hq3
        replace c0_2 := box_at c0_2 hq3
        clear hq3
        go_wp2_with fail
        refine NoPanic.normal ?_
        go_wp2_with fail
        go_ret2
        exact ⟨rfl, HB.out.trans (hc.mono HB.out.size)⟩
      | true =>
        have HT0 : Hid (t = 0) := by unfold Hid; simpa using hc3
        have HV : Hid ((.tuple #[.int .i64 (eqR gr t m r o), .bool (eqB gr t m r o)] : Value) = .tuple #[.int .i64 0, .bool false]) := by unfold Hid; have qhc2 := hc2; simp only [List.all_cons, List.all_nil, Bool.and_true] at qhc2; simp [eqR, eqB, hc1, qhc2, hc3, HT0.out]
        rw [HV.out]
        have Hhc1 := Lib.hid hc1
        clear hc1
        have Hhc2 := Lib.hid hc2
        clear hc2
        obtain ⟨W, hW⟩ : ∃ W, W = w.alloc (.cells #[.int .i64 gr.p, .int .i64 gr.q, .int .i64 gr.g] 39) := ⟨_, rfl⟩
        have HB : Hid (Below w.heap.size w W) := by unfold Hid; rw [hW]; (repeat (first | exact Below.refl _ _ | assumption | refine Below.drew ?_ | refine Below.alloc ?_ (by first | (simp; done) | (simp; omega)) _ | refine Below.setCell ?_ (by first | (simp; done) | (simp; omega)) _))
        have c0_0 : W.cell? ⟨w.heap.size, 0, none⟩ = some (.int .i64 gr.p) := by rw [hW]; simp [go_sem]
        have c0_1 : W.cell? ⟨w.heap.size, 1, none⟩ = some (.int .i64 gr.q) := by rw [hW]; simp [go_sem]
        have c0_2 : W.cell? ⟨w.heap.size, 2, none⟩ = some (.int .i64 gr.g) := by rw [hW]; simp [go_sem]
        have HSW : Hid (W.heap.size = w.heap.size + 1) := by unfold Hid; rw [hW]; simp
        go_enter Try.func57, Try.ntmps57
        go_wp2_with fail
        rw [← hW]
        clear hW
        have hc : Below W.heap.size W W := Below.refl _ _
        go_wp2_with fail
        refine (impl_IsValidGroup gr _).mono ?_
        rintro e u1 ⟨rfl, hq1⟩
        replace hc := Below.next hc hq1
        replace c0_0 := box_at c0_0 hq1
        replace c0_1 := box_at c0_1 hq1
        replace c0_2 := box_at c0_2 hq1
        clear hq1
        rw [Hhc1.out]
        go_wp2_with fail
        refine (impl_areExps gr _ [t, m, r, o] _ HG.out (OwnI.lit (B := 0) _ (Nat.zero_le _) (l := [t, m, r, o]) (AllI64.cons it (AllI64.cons im0 (AllI64.cons ir (AllI64.cons io AllI64.nil)))) rfl (by simp [maxLen]) 4 rfl).ints).mono ?_
        rintro e u2 ⟨rfl, hq2⟩
        replace hq2 := Below.next (keep_al (Below.refl _ _) _) hq2
        replace hc := Below.next hc hq2
        replace c0_0 := box_at c0_0 hq2
        replace c0_1 := box_at c0_1 hq2
        replace c0_2 := box_at c0_2 hq2
        clear hq2
        rw [Hhc2.out]
        go_wp2_with fail
        go_ret2
        exact ⟨rfl, HB.out.trans (hc.mono HB.out.size)⟩
set_option maxRecDepth 100000 in
set_option maxHeartbeats 2000000 in
theorem spec_Equivocate (gr : GroupD) (t m r o : Int) (w : World) (it : I64 t) (im0 : I64 m) (ir : I64 r) (io : I64 o) :
    Calls Try.prog 58 #[.agg #[.int .i64 gr.p, .int .i64 gr.q, .int .i64 gr.g], .int .i64 t, .int .i64 m, .int .i64 r, .int .i64 o] w fun e w' => e = .returned (.tuple #[.int .i64 (eqR gr t m r o), .bool (eqB gr t m r o)]) ∧ Below w.heap.size w w' := by
  cases hc1 : goodG gr with
  | false =>
    have HV : Hid ((.tuple #[.int .i64 (eqR gr t m r o), .bool (eqB gr t m r o)] : Value) = .tuple #[.int .i64 0, .bool false]) := by unfold Hid; simp [eqR, eqB, hc1]
    rw [HV.out]
    have Hhc1 := Lib.hid hc1
    clear hc1
    obtain ⟨W, hW⟩ : ∃ W, W = w.alloc (.cells #[.int .i64 gr.p, .int .i64 gr.q, .int .i64 gr.g] 39) := ⟨_, rfl⟩
    have HB : Hid (Below w.heap.size w W) := by unfold Hid; rw [hW]; (repeat (first | exact Below.refl _ _ | assumption | refine Below.drew ?_ | refine Below.alloc ?_ (by first | (simp; done) | (simp; omega)) _ | refine Below.setCell ?_ (by first | (simp; done) | (simp; omega)) _))
    have c0_0 : W.cell? ⟨w.heap.size, 0, none⟩ = some (.int .i64 gr.p) := by rw [hW]; simp [go_sem]
    have c0_1 : W.cell? ⟨w.heap.size, 1, none⟩ = some (.int .i64 gr.q) := by rw [hW]; simp [go_sem]
    have c0_2 : W.cell? ⟨w.heap.size, 2, none⟩ = some (.int .i64 gr.g) := by rw [hW]; simp [go_sem]
    have HSW : Hid (W.heap.size = w.heap.size + 1) := by unfold Hid; rw [hW]; simp
    go_enter Try.func58, Try.ntmps58
    go_wp2_with fail
    rw [← hW]
    clear hW
    have hc : Below W.heap.size W W := Below.refl _ _
    go_wp2_with fail
    refine (spec_l2Good gr _).mono ?_
    rintro e u1 ⟨rfl, hq1⟩
    replace hc := Below.next hc hq1
    replace c0_0 := box_at c0_0 hq1
    replace c0_1 := box_at c0_1 hq1
    replace c0_2 := box_at c0_2 hq1
    clear hq1
    rw [Hhc1.out]
    go_wp2_with fail
    go_ret2
    exact ⟨rfl, HB.out.trans (hc.mono HB.out.size)⟩
  | true =>
    have HG := Lib.hid (goodG_ok hc1)
    cases hc2 : [t, m, r, o].all (expB gr) with
    | false =>
      have HV : Hid ((.tuple #[.int .i64 (eqR gr t m r o), .bool (eqB gr t m r o)] : Value) = .tuple #[.int .i64 0, .bool false]) := by unfold Hid; have qhc2 := hc2; simp only [List.all_cons, List.all_nil, Bool.and_true] at qhc2; simp [eqR, eqB, hc1, qhc2]
      rw [HV.out]
      have Hhc1 := Lib.hid hc1
      clear hc1
      have Hhc2 := Lib.hid hc2
      clear hc2
      obtain ⟨W, hW⟩ : ∃ W, W = w.alloc (.cells #[.int .i64 gr.p, .int .i64 gr.q, .int .i64 gr.g] 39) := ⟨_, rfl⟩
      have HB : Hid (Below w.heap.size w W) := by unfold Hid; rw [hW]; (repeat (first | exact Below.refl _ _ | assumption | refine Below.drew ?_ | refine Below.alloc ?_ (by first | (simp; done) | (simp; omega)) _ | refine Below.setCell ?_ (by first | (simp; done) | (simp; omega)) _))
      have c0_0 : W.cell? ⟨w.heap.size, 0, none⟩ = some (.int .i64 gr.p) := by rw [hW]; simp [go_sem]
      have c0_1 : W.cell? ⟨w.heap.size, 1, none⟩ = some (.int .i64 gr.q) := by rw [hW]; simp [go_sem]
      have c0_2 : W.cell? ⟨w.heap.size, 2, none⟩ = some (.int .i64 gr.g) := by rw [hW]; simp [go_sem]
      have HSW : Hid (W.heap.size = w.heap.size + 1) := by unfold Hid; rw [hW]; simp
      go_enter Try.func58, Try.ntmps58
      go_wp2_with fail
      rw [← hW]
      clear hW
      have hc : Below W.heap.size W W := Below.refl _ _
      go_wp2_with fail
      refine (spec_l2Good gr _).mono ?_
      rintro e u1 ⟨rfl, hq1⟩
      replace hc := Below.next hc hq1
      replace c0_0 := box_at c0_0 hq1
      replace c0_1 := box_at c0_1 hq1
      replace c0_2 := box_at c0_2 hq1
      clear hq1
      rw [Hhc1.out]
      go_wp2_with fail
      refine (spec_gExps gr _ [t, m, r, o] _ HG.out (OwnI.lit (B := 0) _ (Nat.zero_le _) (l := [t, m, r, o]) (AllI64.cons it (AllI64.cons im0 (AllI64.cons ir (AllI64.cons io AllI64.nil)))) rfl (by simp [maxLen]) 4 rfl).ints).mono ?_
      rintro e u2 ⟨rfl, hq2⟩
      replace hq2 := Below.next (keep_al (Below.refl _ _) _) hq2
      replace hc := Below.next hc hq2
      replace c0_0 := box_at c0_0 hq2
      replace c0_1 := box_at c0_1 hq2
      replace c0_2 := box_at c0_2 hq2
      clear hq2
      rw [Hhc2.out]
      go_wp2_with fail
      go_ret2
      exact ⟨rfl, HB.out.trans (hc.mono HB.out.size)⟩
    | true =>
      have HFE := Lib.hid (four_exp hc2)
      have ZQ := HG.out
      have zq1 := HG.out.q1
      have zq2 := HG.out.q2
      have zp2 := HG.out.p2
      clear ZQ
      have zq3 : gr.q ≤ 2000000000 := by omega
      have zq0 : 0 < gr.q := by omega
      have zq4 : gr.q ≤ 4000000000 := by omega
      obtain ⟨b1, b2⟩ := expB_bd HFE.out.1
      obtain ⟨b3, b4⟩ := expB_bd HFE.out.2.1
      obtain ⟨b5, b6⟩ := expB_bd HFE.out.2.2.1
      obtain ⟨b7, b8⟩ := expB_bd HFE.out.2.2.2
      cases hc3 : (t == 0) with
      | false =>
        have HT0 : Hid (¬ t = 0) := by unfold Hid; simpa using hc3
        have ht0 : 0 < t := by have q : ¬ t = 0 := (by simpa using hc3); omega
        have ht1 : t < gr.q := by omega
        have HIV := Lib.hid (invQ_is HG.out.qp ht0 ht1)
        obtain ⟨⟨v1, v2⟩, _⟩ := HIV.out
        have m1 : 0 ≤ (m - o) % gr.q := Int.emod_nonneg _ (by omega)
        have m2 : (m - o) % gr.q < gr.q := Int.emod_lt_of_pos _ zq0
        obtain ⟨m3, m4⟩ := mul_bound m1 (by omega) v1 (by omega)
        have im : I64 (m - o) := ⟨by omega, by omega⟩
        have is : I64 (r + (m - o) % gr.q * invQ t gr.q) := ⟨by omega, by omega⟩
        have ew1 : IntKind.i64.wrap (m - o) = m - o := IntWalk.i64_in _ (by omega)
        have ew2 : IntKind.i64.wrap ((m - o) % gr.q * invQ t gr.q) = (m - o) % gr.q * invQ t gr.q := IntWalk.i64_in _ (by omega)
        have ew3 : IntKind.i64.wrap (r + (m - o) % gr.q * invQ t gr.q) = r + (m - o) % gr.q * invQ t gr.q := IntWalk.i64_in _ (by omega)
        have HTM : Hid (invQ (t % gr.q) gr.q = invQ t gr.q) := by unfold Hid; rw [Int.emod_eq_of_lt b1 ht1]
        have hte : 0 < t % gr.q := by rw [Int.emod_eq_of_lt b1 ht1]; exact ht0
        clear m3 m4 v1 v2 m1 m2
        have HV : Hid ((.tuple #[.int .i64 (eqR gr t m r o), .bool (eqB gr t m r o)] : Value) = .tuple #[.int .i64 ((r + (m - o) % gr.q * invQ t gr.q) % gr.q), .bool true]) := by unfold Hid; have qhc2 := hc2; simp only [List.all_cons, List.all_nil, Bool.and_true] at qhc2; simp [eqR, eqB, hc1, qhc2, hc3, HT0.out]
        rw [HV.out]
        have Hhc1 := Lib.hid hc1
        clear hc1
        have Hhc2 := Lib.hid hc2
        clear hc2
        obtain ⟨W, hW⟩ : ∃ W, W = w.alloc (.cells #[.int .i64 gr.p, .int .i64 gr.q, .int .i64 gr.g] 39) := ⟨_, rfl⟩
        have HB : Hid (Below w.heap.size w W) := by unfold Hid; rw [hW]; (repeat (first | exact Below.refl _ _ | assumption | refine Below.drew ?_ | refine Below.alloc ?_ (by first | (simp; done) | (simp; omega)) _ | refine Below.setCell ?_ (by first | (simp; done) | (simp; omega)) _))
        have c0_0 : W.cell? ⟨w.heap.size, 0, none⟩ = some (.int .i64 gr.p) := by rw [hW]; simp [go_sem]
        have c0_1 : W.cell? ⟨w.heap.size, 1, none⟩ = some (.int .i64 gr.q) := by rw [hW]; simp [go_sem]
        have c0_2 : W.cell? ⟨w.heap.size, 2, none⟩ = some (.int .i64 gr.g) := by rw [hW]; simp [go_sem]
        have HSW : Hid (W.heap.size = w.heap.size + 1) := by unfold Hid; rw [hW]; simp
        go_enter Try.func58, Try.ntmps58
        go_wp2_with fail
        rw [← hW]
        clear hW
        have hc : Below W.heap.size W W := Below.refl _ _
        go_wp2_with fail
        refine (spec_l2Good gr _).mono ?_
        rintro e u1 ⟨rfl, hq1⟩
        replace hc := Below.next hc hq1
        replace c0_0 := box_at c0_0 hq1
        replace c0_1 := box_at c0_1 hq1
        replace c0_2 := box_at c0_2 hq1
        clear hq1
        rw [Hhc1.out]
        go_wp2_with fail
        refine (spec_gExps gr _ [t, m, r, o] _ HG.out (OwnI.lit (B := 0) _ (Nat.zero_le _) (l := [t, m, r, o]) (AllI64.cons it (AllI64.cons im0 (AllI64.cons ir (AllI64.cons io AllI64.nil)))) rfl (by simp [maxLen]) 4 rfl).ints).mono ?_
        rintro e u2 ⟨rfl, hq2⟩
        replace hq2 := Below.next (keep_al (Below.refl _ _) _) hq2
        replace hc := Below.next hc hq2
        replace c0_0 := box_at c0_0 hq2
        replace c0_1 := box_at c0_1 hq2
        replace c0_2 := box_at c0_2 hq2
        clear hq2
        rw [Hhc2.out]
        go_wp2_with fail
        refine (spec_nInverse t gr.q _ HG.out.qp it hte zq3).mono ?_
        rintro e u3 ⟨rfl, rfl⟩
        rw [HTM.out]
        try (go_wp2_with fail)
        refine wp_region_noPanic ?_
        refine wp_region_P (fun w' => w'.cell? ⟨w.heap.size, 0, none⟩ = some (.int .i64 gr.p) ∧ w'.cell? ⟨w.heap.size, 1, none⟩ = some (.int .i64 gr.q) ∧ w'.cell? ⟨w.heap.size, 2, none⟩ = some (.int .i64 gr.g)) 17 [(0, []), (1, []), (2, []), (3, [1, 0]), (4, []), (5, [0]), (6, [2, 0]), (7, []), (8, [1, 0]), (9, [8, 0]), (10, []), (11, [0]), (12, [2, 0]), (13, [0]), (14, [])] [] (by kernel_rfl) (by kernel_rfl) (by kernel_rfl) rfl (fun _ _ _ _ h => h) (fun w' h => ⟨box_at c0_0 h, box_at c0_1 h, box_at c0_2 h⟩) ?_
        simp only [pickP, pickN, List.getElem?_cons_zero, List.getElem?_cons_succ]
        iterate 6 (refine' chainP_read _ rfl rfl (fun w' hS' => ?_) ?_; rotate_left; · (simp only [lookP, allP, Act.put, List.getElem?_cons_zero, List.getElem?_cons_succ, List.setIfInBounds_toArray, List.set_cons_zero, List.set_cons_succ]; (try dsimp only at hS'); go_simp; (try with_reducible rfl)))
        -- 6: call { callee := value (func 180), args := #[t41, t43], argTypes := #[3, 3] }
        refine chainP_call (d := (some 44)) (.int .i64 ((m - o) % gr.q)) rfl rfl (fun w' hS' => ?_) ?_
        · simp only [lookP, allP, Act.put, List.getElem?_cons_zero, List.getElem?_cons_succ, List.setIfInBounds_toArray, List.set_cons_zero, List.set_cons_succ]
          intro K hK
          go_simp
          go_at_call 180
          refine (spec_nMod (m - o) gr.q _ im zq0 zq4).mono ?_
          rintro e u ⟨rfl, rfl⟩
          exact hK.out _ (Below.refl _ _)
        iterate 5 (refine' chainP_read _ rfl rfl (fun w' hS' => ?_) ?_; rotate_left; · (simp only [lookP, allP, Act.put, List.getElem?_cons_zero, List.getElem?_cons_succ, List.setIfInBounds_toArray, List.set_cons_zero, List.set_cons_succ]; (try dsimp only at hS'); go_simp; (try with_reducible rfl)))
        -- 12: call { callee := value (func 180), args := #[t47, t49], argTypes := #[3, 3] }
        refine chainP_call (d := (some 50)) (.int .i64 ((r + (m - o) % gr.q * invQ t gr.q) % gr.q)) rfl rfl (fun w' hS' => ?_) ?_
        · simp only [lookP, allP, Act.put, List.getElem?_cons_zero, List.getElem?_cons_succ, List.setIfInBounds_toArray, List.set_cons_zero, List.set_cons_succ]
          intro K hK
          go_simp
          go_at_call 180
          refine (spec_nMod (r + (m - o) % gr.q * invQ t gr.q) gr.q _ is zq0 zq4).mono ?_
          rintro e u ⟨rfl, rfl⟩
          exact hK.out _ (Below.refl _ _)
        iterate 2 (refine' chainP_read _ rfl rfl (fun w' hS' => ?_) ?_; rotate_left; · (simp only [lookP, allP, Act.put, List.getElem?_cons_zero, List.getElem?_cons_succ, List.setIfInBounds_toArray, List.set_cons_zero, List.set_cons_succ]; (try dsimp only at hS'); go_simp; (try with_reducible rfl)))
        refine chainP_nil (fun u4 hS' => ?_)
        simp only [allP, Act.put, List.setIfInBounds_toArray, List.set_cons_zero, List.set_cons_succ]
        have hq4 := hS'.1
        clear hS'
        replace hc := Below.next hc hq4
        replace c0_0 := box_at c0_0 hq4
        replace c0_1 := box_at c0_1 hq4
        replace c0_2 := box_at c0_2 hq4
        clear hq4
        go_wp2_with fail
        refine NoPanic.normal ?_
        go_wp2_with fail
        go_ret2
        exact ⟨rfl, HB.out.trans (hc.mono HB.out.size)⟩
      | true =>
        have HT0 : Hid (t = 0) := by unfold Hid; simpa using hc3
        have HV : Hid ((.tuple #[.int .i64 (eqR gr t m r o), .bool (eqB gr t m r o)] : Value) = .tuple #[.int .i64 0, .bool false]) := by unfold Hid; have qhc2 := hc2; simp only [List.all_cons, List.all_nil, Bool.and_true] at qhc2; simp [eqR, eqB, hc1, qhc2, hc3, HT0.out]
        rw [HV.out]
        have Hhc1 := Lib.hid hc1
        clear hc1
        have Hhc2 := Lib.hid hc2
        clear hc2
        obtain ⟨W, hW⟩ : ∃ W, W = w.alloc (.cells #[.int .i64 gr.p, .int .i64 gr.q, .int .i64 gr.g] 39) := ⟨_, rfl⟩
        have HB : Hid (Below w.heap.size w W) := by unfold Hid; rw [hW]; (repeat (first | exact Below.refl _ _ | assumption | refine Below.drew ?_ | refine Below.alloc ?_ (by first | (simp; done) | (simp; omega)) _ | refine Below.setCell ?_ (by first | (simp; done) | (simp; omega)) _))
        have c0_0 : W.cell? ⟨w.heap.size, 0, none⟩ = some (.int .i64 gr.p) := by rw [hW]; simp [go_sem]
        have c0_1 : W.cell? ⟨w.heap.size, 1, none⟩ = some (.int .i64 gr.q) := by rw [hW]; simp [go_sem]
        have c0_2 : W.cell? ⟨w.heap.size, 2, none⟩ = some (.int .i64 gr.g) := by rw [hW]; simp [go_sem]
        have HSW : Hid (W.heap.size = w.heap.size + 1) := by unfold Hid; rw [hW]; simp
        go_enter Try.func58, Try.ntmps58
        go_wp2_with fail
        rw [← hW]
        clear hW
        have hc : Below W.heap.size W W := Below.refl _ _
        go_wp2_with fail
        refine (spec_l2Good gr _).mono ?_
        rintro e u1 ⟨rfl, hq1⟩
        replace hc := Below.next hc hq1
        replace c0_0 := box_at c0_0 hq1
        replace c0_1 := box_at c0_1 hq1
        replace c0_2 := box_at c0_2 hq1
        clear hq1
        rw [Hhc1.out]
        go_wp2_with fail
        refine (spec_gExps gr _ [t, m, r, o] _ HG.out (OwnI.lit (B := 0) _ (Nat.zero_le _) (l := [t, m, r, o]) (AllI64.cons it (AllI64.cons im0 (AllI64.cons ir (AllI64.cons io AllI64.nil)))) rfl (by simp [maxLen]) 4 rfl).ints).mono ?_
        rintro e u2 ⟨rfl, hq2⟩
        replace hq2 := Below.next (keep_al (Below.refl _ _) _) hq2
        replace hc := Below.next hc hq2
        replace c0_0 := box_at c0_0 hq2
        replace c0_1 := box_at c0_1 hq2
        replace c0_2 := box_at c0_2 hq2
        clear hq2
        rw [Hhc2.out]
        go_wp2_with fail
        go_ret2
        exact ⟨rfl, HB.out.trans (hc.mono HB.out.size)⟩
end Go.Proofs.Ytboahnklilmdpaa
