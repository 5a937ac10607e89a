/- Ballots: forms of casts, fake credentials: walks (printed by gen_bal2.py). -/
import Derived.Test.YtboahnklilmdpaaBal1V
namespace Go.Proofs.Ytboahnklilmdpaa
open Go.RowKit
set_option linter.unusedSimpArgs false
set_option linter.unusedVariables false
set_option maxRecDepth 100000 in
set_option maxHeartbeats 2000000 in
theorem impl_hasCast (gr : GroupD) (pv : Value) (x : CastD) (w : World) (hg : OkG gr) (hp : CaR w pv x) :
    Calls Try.prog 194 #[.agg #[.int .i64 gr.p, .int .i64 gr.q, .int .i64 gr.g], pv] w fun e w' => e = .returned (.bool (ciB gr x.c && ciB gr x.v)) ∧ Below w.heap.size w w' := by
  have HG := Lib.hid hg
  clear hg
  obtain ⟨xcv, xhv, xrv, rfl, ⟨⟨ia, ib⟩, ⟨ic, id⟩⟩, hxc, hxh, hxr⟩ := hp
  obtain ⟨xca, xcn, xcc, rfl⟩ := hxc.shape
  have Exc := Lib.hid hxc.len
  have Kxc := Lib.hid hxc.capMax
  have Hxc := Lib.hid hxc
  clear hxc
  obtain ⟨xha, xhn, xhc, rfl⟩ := hxh.shape
  have Exh := Lib.hid hxh.len
  have Kxh := Lib.hid hxh.capMax
  have Hxh := Lib.hid hxh
  clear hxh
  obtain ⟨xra, xrn, xrc, rfl⟩ := hxr.shape
  have Exr := Lib.hid hxr.len
  have Kxr := Lib.hid hxr.capMax
  have Hxr := Lib.hid hxr
  clear hxr
  obtain ⟨W, hW⟩ : ∃ W, W = (w.alloc (.cells #[.int .i64 gr.p, .int .i64 gr.q, .int .i64 gr.g] 39)).alloc (.cells #[.int .i64 x.c.a, .int .i64 x.c.b, .int .i64 x.v.a, .int .i64 x.v.b, (.slice xca xcn xcc), (.slice xha xhn xhc), (.slice xra xrn xrc)] 104) := ⟨_, rfl⟩
  have HB : Hid (Below w.heap.size w W) := by unfold Hid; rw [hW]; (repeat (first | exact Below.refl _ _ | assumption | refine Below.drew ?_ | refine Below.alloc ?_ (by first | (simp; done) | (simp; omega)) _ | refine Below.setCell ?_ (by first | (simp; done) | (simp; omega)) _))
  have c0_0 : W.cell? ⟨w.heap.size, 0, none⟩ = some (.int .i64 gr.p) := by rw [hW]; simp [go_sem]
  have c0_1 : W.cell? ⟨w.heap.size, 1, none⟩ = some (.int .i64 gr.q) := by rw [hW]; simp [go_sem]
  have c0_2 : W.cell? ⟨w.heap.size, 2, none⟩ = some (.int .i64 gr.g) := by rw [hW]; simp [go_sem]
  have c1_0 : W.cell? ⟨w.heap.size + 1, 0, none⟩ = some (.int .i64 x.c.a) := by rw [hW]; simp [go_sem]
  have c1_1 : W.cell? ⟨w.heap.size + 1, 1, none⟩ = some (.int .i64 x.c.b) := by rw [hW]; simp [go_sem]
  have c1_2 : W.cell? ⟨w.heap.size + 1, 2, none⟩ = some (.int .i64 x.v.a) := by rw [hW]; simp [go_sem]
  have c1_3 : W.cell? ⟨w.heap.size + 1, 3, none⟩ = some (.int .i64 x.v.b) := by rw [hW]; simp [go_sem]
  have c1_4 : W.cell? ⟨w.heap.size + 1, 4, none⟩ = some ((.slice xca xcn xcc)) := by rw [hW]; simp [go_sem]
  have c1_5 : W.cell? ⟨w.heap.size + 1, 5, none⟩ = some ((.slice xha xhn xhc)) := by rw [hW]; simp [go_sem]
  have c1_6 : W.cell? ⟨w.heap.size + 1, 6, none⟩ = some ((.slice xra xrn xrc)) := by rw [hW]; simp [go_sem]
  have HSW : Hid (W.heap.size = w.heap.size + 2) := by unfold Hid; rw [hW]; simp
  go_enter Try.func194, Try.ntmps194
  go_wp2_with fail
  rw [← hW]
  have hse : w.heap.size + 1 + 1 = W.heap.size := by have := HSW.out; omega
  (try rw [hse])
  clear hse
  clear hW
  have hc : Below W.heap.size W W := Below.refl _ _
  have HCC : Hid (∀ u, Below W.heap.size W u → u.cell? ⟨w.heap.size, 0, none⟩ = some (.int .i64 gr.p) ∧ u.cell? ⟨w.heap.size, 1, none⟩ = some (.int .i64 gr.q) ∧ u.cell? ⟨w.heap.size, 2, none⟩ = some (.int .i64 gr.g) ∧ u.cell? ⟨w.heap.size + 1, 0, none⟩ = some (.int .i64 x.c.a) ∧ u.cell? ⟨w.heap.size + 1, 1, none⟩ = some (.int .i64 x.c.b) ∧ u.cell? ⟨w.heap.size + 1, 2, none⟩ = some (.int .i64 x.v.a) ∧ u.cell? ⟨w.heap.size + 1, 3, none⟩ = some (.int .i64 x.v.b) ∧ u.cell? ⟨w.heap.size + 1, 4, none⟩ = some ((.slice xca xcn xcc)) ∧ u.cell? ⟨w.heap.size + 1, 5, none⟩ = some ((.slice xha xhn xhc)) ∧ u.cell? ⟨w.heap.size + 1, 6, none⟩ = some ((.slice xra xrn xrc))) := fun u h => ⟨box_at c0_0 h, box_at c0_1 h, box_at c0_2 h, box_at c1_0 h, box_at c1_1 h, box_at c1_2 h, box_at c1_3 h, box_at c1_4 h, box_at c1_5 h, box_at c1_6 h⟩
  go_wp2_with fail
  refine (impl_hasCipher gr ⟨x.c.a, x.c.b⟩ _ HG.out).mono ?_
  rintro e u1 ⟨rfl, hq1⟩
  replace hc := Below.next hc hq1
  clear hq1 c0_0 c0_1 c0_2 c1_0 c1_1 c1_2 c1_3 c1_4 c1_5 c1_6
  obtain ⟨c0_0, c0_1, c0_2, c1_0, c1_1, c1_2, c1_3, c1_4, c1_5, c1_6⟩ := HCC.out _ hc
  cases hc1 : ciB gr ⟨x.c.a, x.c.b⟩ with
  | false =>
    have Hhc1 := Lib.hid hc1
    clear hc1
    go_wp2_with fail
    have HV : Hid ((.bool (ciB gr x.c && ciB gr x.v) : Value) = .bool false) := by unfold Hid; simp [Hhc1.out]
    go_ret
    exact ⟨congrArg Ending.returned HV.out.symm, HB.out.trans (hc.mono HB.out.size)⟩
  | true =>
    have Hhc1 := Lib.hid hc1
    clear hc1
    go_wp2_with fail
    refine (impl_hasCipher gr x.v _ HG.out).mono ?_
    rintro e u2 ⟨rfl, hq2⟩
    replace hc := Below.next hc hq2
    clear hq2 c0_0 c0_1 c0_2 c1_0 c1_1 c1_2 c1_3 c1_4 c1_5 c1_6
    obtain ⟨c0_0, c0_1, c0_2, c1_0, c1_1, c1_2, c1_3, c1_4, c1_5, c1_6⟩ := HCC.out _ hc
    cases hc2 : ciB gr x.v with
    | false =>
      have Hhc2 := Lib.hid hc2
      clear hc2
      go_wp2_with fail
      have HV : Hid ((.bool (ciB gr x.c && ciB gr x.v) : Value) = .bool false) := by unfold Hid; simp [Hhc1.out, Hhc2.out]
      go_ret
      exact ⟨congrArg Ending.returned HV.out.symm, HB.out.trans (hc.mono HB.out.size)⟩
    | true =>
      have Hhc2 := Lib.hid hc2
      clear hc2
      go_wp2_with fail
      have HV : Hid ((.bool (ciB gr x.c && ciB gr x.v) : Value) = .bool true) := by unfold Hid; simp [Hhc1.out, Hhc2.out]
      go_ret
      exact ⟨congrArg Ending.returned HV.out.symm, HB.out.trans (hc.mono HB.out.size)⟩
set_option maxRecDepth 100000 in
set_option maxHeartbeats 2000000 in
theorem impl_FakeCredential (gr : GroupD) (x f : Int) (w : World) (hx : I64 x) (hf : I64 f) :
    Calls Try.prog 76 #[.agg #[.int .i64 gr.p, .int .i64 gr.q, .int .i64 gr.g], .int .i64 x, .int .i64 f] w fun e w' => e = .returned (.tuple #[.int .i64 (fkR gr x f), .bool (fkB gr x f)]) ∧ Below w.heap.size w w' := by
  obtain ⟨W, hW⟩ : ∃ W, W = w.alloc (.cells #[.int .i64 gr.p, .int .i64 gr.q, .int .i64 gr.g] 39) := ⟨_, rfl⟩
  have HB : Hid (Below w.heap.size w W) := by unfold Hid; rw [hW]; (repeat (first | exact Below.refl _ _ | assumption | refine Below.drew ?_ | refine Below.alloc ?_ (by first | (simp; done) | (simp; omega)) _ | refine Below.setCell ?_ (by first | (simp; done) | (simp; omega)) _))
  have c0_0 : W.cell? ⟨w.heap.size, 0, none⟩ = some (.int .i64 gr.p) := by rw [hW]; simp [go_sem]
  have c0_1 : W.cell? ⟨w.heap.size, 1, none⟩ = some (.int .i64 gr.q) := by rw [hW]; simp [go_sem]
  have c0_2 : W.cell? ⟨w.heap.size, 2, none⟩ = some (.int .i64 gr.g) := by rw [hW]; simp [go_sem]
  have HSW : Hid (W.heap.size = w.heap.size + 1) := by unfold Hid; rw [hW]; simp
  go_enter Try.func76, Try.ntmps76
  go_wp2_with fail
  rw [← hW]
  have hse : w.heap.size + 1 = W.heap.size := by have := HSW.out; omega
  (try rw [hse])
  clear hse
  clear hW
  have hc : Below W.heap.size W W := Below.refl _ _
  have HCC : Hid (∀ u, Below W.heap.size W u → u.cell? ⟨w.heap.size, 0, none⟩ = some (.int .i64 gr.p) ∧ u.cell? ⟨w.heap.size, 1, none⟩ = some (.int .i64 gr.q) ∧ u.cell? ⟨w.heap.size, 2, none⟩ = some (.int .i64 gr.g)) := fun u h => ⟨box_at c0_0 h, box_at c0_1 h, box_at c0_2 h⟩
  go_wp2_with fail
  refine (impl_IsValidGroup gr _).mono ?_
  rintro e u1 ⟨rfl, hq1⟩
  replace hc := Below.next hc hq1
  clear hq1 c0_0 c0_1 c0_2
  obtain ⟨c0_0, c0_1, c0_2⟩ := HCC.out _ hc
  cases hc1 : goodG gr with
  | false =>
    have Hhc1 := Lib.hid hc1
    clear hc1
    go_wp2_with fail
    have HV : Hid ((.tuple #[.int .i64 (fkR gr x f), .bool (fkB gr x f)] : Value) = .tuple #[.int .i64 0, .bool false]) := by unfold Hid; simp [fkR, fkB, Hhc1.out]
    go_ret2
    exact ⟨congrArg Ending.returned HV.out.symm, HB.out.trans (hc.mono HB.out.size)⟩
  | true =>
    have HGD := Lib.hid hc1
    have HG := Lib.hid (goodG_ok hc1)
    have Hhc1 := Lib.hid hc1
    clear hc1
    go_wp2_with fail
    refine (impl_isCredential gr x _ HG.out hx).mono ?_
    rintro e u2 ⟨rfl, hq2⟩
    replace hc := Below.next hc hq2
    clear hq2 c0_0 c0_1 c0_2
    obtain ⟨c0_0, c0_1, c0_2⟩ := HCC.out _ hc
    cases hc2 : crB gr x with
    | false =>
      have Hhc2 := Lib.hid hc2
      clear hc2
      go_wp2_with fail
      have HV : Hid ((.tuple #[.int .i64 (fkR gr x f), .bool (fkB gr x f)] : Value) = .tuple #[.int .i64 0, .bool false]) := by unfold Hid; simp [fkR, fkB, Hhc1.out, Hhc2.out]
      go_ret2
      exact ⟨congrArg Ending.returned HV.out.symm, HB.out.trans (hc.mono HB.out.size)⟩
    | true =>
      have HCR := Lib.hid hc2
      have sx : Small x := elB_small HG.out (crB_el hc2)
      have Hhc2 := Lib.hid hc2
      clear hc2
      go_wp2_with fail
      refine (impl_isExp gr f _ HG.out).mono ?_
      rintro e u3 ⟨rfl, hq3⟩
      replace hc := Below.next hc hq3
      clear hq3 c0_0 c0_1 c0_2
      obtain ⟨c0_0, c0_1, c0_2⟩ := HCC.out _ hc
      cases hc3 : expB gr f with
      | false =>
        have Hhc3 := Lib.hid hc3
        clear hc3
        go_wp2_with fail
        have HV : Hid ((.tuple #[.int .i64 (fkR gr x f), .bool (fkB gr x f)] : Value) = .tuple #[.int .i64 0, .bool false]) := by unfold Hid; simp [fkR, fkB, Hhc1.out, Hhc2.out, Hhc3.out]
        go_ret2
        exact ⟨congrArg Ending.returned HV.out.symm, HB.out.trans (hc.mono HB.out.size)⟩
      | true =>
        have Hhc3 := Lib.hid hc3
        clear hc3
        cases hc4 : (f == 0) with
        | false =>
          have HF0 : Hid ((f != 0) = true) := by have q := hc4; rw [beq_eq_false_iff_ne] at q; exact bne_iff_ne.2 q
          have zq1 := HG.out.g1
          have zq2 := HG.out.g2
          have zp2 := HG.out.p2
          have sgg : Small gr.g := ⟨by omega, by omega⟩
          obtain ⟨P1, hP1⟩ : ∃ z, powE gr gr.g f = z := ⟨_, rfl⟩
          have HP1 := Lib.hid hP1
          have sP1 : Small P1 := hP1 ▸ powE_small HG.out gr.g f
          obtain ⟨M1, hM1⟩ : ∃ z, mulL gr [x, P1] = z := ⟨_, rfl⟩
          have HM1 := Lib.hid hM1
          have sM1 : Small M1 := hM1 ▸ mulL_small HG.out [x, P1]
          have HM0 : Hid (mulL gr [x, powE gr gr.g f] = M1) := by unfold Hid; rw [hP1, hM1]
          clear hP1 hM1
          try (go_wp2_with fail)
          refine wp_region_noPanic ?_
          refine wp_region_P (fun w' => w'.cell? ⟨w.heap.size, 0, none⟩ = some (.int .i64 gr.p) ∧ w'.cell? ⟨w.heap.size, 1, none⟩ = some (.int .i64 gr.q) ∧ w'.cell? ⟨w.heap.size, 2, none⟩ = some (.int .i64 gr.g)) 12 [(0, []), (1, []), (2, []), (3, []), (4, [0]), (5, []), (6, [3, 1, 0]), (7, [5, 0]), (8, [7, 0]), (9, [0])] [] (by kernel_rfl) (by kernel_rfl) (by kernel_rfl) rfl (fun _ _ _ _ h => h) (fun w' h => ⟨box_at c0_0 h, box_at c0_1 h, box_at c0_2 h⟩) ?_
          simp only [pickP, pickN, List.getElem?_cons_zero, List.getElem?_cons_succ]
          iterate 6 (refine' chainP_read _ rfl rfl (fun w' hS' => ?_) ?_; rotate_left; · (simp only [lookP, allP, Act.put, List.getElem?_cons_zero, List.getElem?_cons_succ, List.setIfInBounds_toArray, List.set_cons_zero, List.set_cons_succ]; (try dsimp only at hS'); go_simp; (try with_reducible rfl)))
          -- 6: call { callee := value (func 165), args := #[t30, t32, t33], argTypes := #[39, 3, 3] }
          refine chainP_call (d := (some 34)) (.int .i64 P1) rfl rfl (fun w' hS' => ?_) ?_
          · simp only [lookP, allP, Act.put, List.getElem?_cons_zero, List.getElem?_cons_succ, List.setIfInBounds_toArray, List.set_cons_zero, List.set_cons_succ]
            intro K hK
            go_simp
            go_at_call 165
            refine (impl_pow gr gr.g f _ HG.out sgg hf).mono ?_
            rintro e u ⟨rfl, hq⟩
            rw [HP1.out]
            exact hK.out _ hq
          -- 7: buildSlice 24 2 #[(0, t29), (1, t34)]
          refine chainP_do (d := (some 35)) (fun v w => Ints w v [x, P1]) (fun v w w' hb h => Ints.below h hb) rfl rfl (fun w' hS' => ?_) ?_
          · simp only [lookP, allP, Act.put, List.getElem?_cons_zero, List.getElem?_cons_succ, List.setIfInBounds_toArray, List.set_cons_zero, List.set_cons_succ]
            intro K hK
            go_simp
            refine hK.out _ _ ((Below.refl _ _).alloc (Nat.le_refl _) _) ?_
            exact (OwnI.lit (B := w'.heap.size) w' (Nat.le_refl _) (l := [x, P1]) (AllI64.cons hx (AllI64.cons (small_64 sP1) AllI64.nil)) rfl (by simp [maxLen]) 2 rfl).ints
          -- 8: call { callee := value (func 197), args := #[t28, t35], argTypes := #[39, 24] }
          refine chainP_call (d := (some 36)) (.int .i64 M1) rfl rfl (fun w' hS' => ?_) ?_
          · simp only [lookP, allP, Act.put, List.getElem?_cons_zero, List.getElem?_cons_succ, List.setIfInBounds_toArray, List.set_cons_zero, List.set_cons_succ]
            intro x7 hx7
            intro K hK
            go_simp
            go_at_call 197
            refine (impl_mul gr _ [x, P1] _ HG.out hx7 (AllSmall.cons sx (AllSmall.cons sP1 AllSmall.nil))).mono ?_
            rintro e u ⟨rfl, hq⟩
            rw [HM1.out]
            exact hK.out _ hq
          -- 9: assign t36
          refine' chainP_read (d := (some 8)) _ rfl rfl (fun w' hS' => ?_) ?_; rotate_left
          · simp only [lookP, allP, Act.put, List.getElem?_cons_zero, List.getElem?_cons_succ, List.setIfInBounds_toArray, List.set_cons_zero, List.set_cons_succ]
            (try dsimp only at hS')
            go_simp
            (try with_reducible rfl)
          refine chainP_nil (fun u4 hS' => ?_)
          simp only [allP, Act.put, List.setIfInBounds_toArray, List.set_cons_zero, List.set_cons_succ]
          intro x7 hx7
          have hq4 := hS'.1
          clear hS'
          replace hc := Below.next hc hq4
          clear hq4 c0_0 c0_1 c0_2
          obtain ⟨c0_0, c0_1, c0_2⟩ := HCC.out _ hc
          go_wp2_with fail
          refine NoPanic.normal ?_
          cases hc5 : (M1 == 1) with
          | false =>
            have HM2 : Hid ((M1 != 1) = true) := by have q := hc5; rw [beq_eq_false_iff_ne] at q; exact bne_iff_ne.2 q
            go_wp2_with fail
            have HV : Hid ((.tuple #[.int .i64 (fkR gr x f), .bool (fkB gr x f)] : Value) = .tuple #[.int .i64 M1, .bool true]) := by unfold Hid; simp [fkR, fkB, Hhc1.out, Hhc2.out, Hhc3.out, hc4, hc5, HF0.out, HM0.out, HM2.out]
            go_ret2
            exact ⟨congrArg Ending.returned HV.out.symm, HB.out.trans (hc.mono HB.out.size)⟩
          | true =>
            have HM2 : Hid ((M1 != 1) = false) := by have q := hc5; rw [beq_iff_eq] at q; exact bne_eq_false_iff_eq.2 q
            go_wp2_with fail
            have HV : Hid ((.tuple #[.int .i64 (fkR gr x f), .bool (fkB gr x f)] : Value) = .tuple #[.int .i64 0, .bool false]) := by unfold Hid; simp [fkR, fkB, Hhc1.out, Hhc2.out, Hhc3.out, hc4, hc5, HF0.out, HM0.out, HM2.out]
            go_ret2
            exact ⟨congrArg Ending.returned HV.out.symm, HB.out.trans (hc.mono HB.out.size)⟩
        | true =>
          have HF0 : Hid ((f != 0) = false) := by have q := hc4; rw [beq_iff_eq] at q; exact bne_eq_false_iff_eq.2 q
          have HM0 : Hid True := trivial
          go_wp2_with fail
          have HV : Hid ((.tuple #[.int .i64 (fkR gr x f), .bool (fkB gr x f)] : Value) = .tuple #[.int .i64 0, .bool false]) := by unfold Hid; simp [fkR, fkB, Hhc1.out, Hhc2.out, Hhc3.out, hc4, HF0.out, HM0.out]
          go_ret2
          exact ⟨congrArg Ending.returned HV.out.symm, HB.out.trans (hc.mono HB.out.size)⟩
end Go.Proofs.Ytboahnklilmdpaa
