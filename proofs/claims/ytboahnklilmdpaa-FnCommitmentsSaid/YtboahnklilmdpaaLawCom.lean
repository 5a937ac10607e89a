/- The walk of FnCommitments (printed by gen_lawcom.py). -/
import Derived.Test.YtboahnklilmdpaaDrB
import Derived.Test.YtboahnklilmdpaaCom3
import Derived.Test.YtboahnklilmdpaaCom5
import Derived.Test.YtboahnklilmdpaaRegR
import Derived.Deep.Cut
namespace Go.Proofs.Ytboahnklilmdpaa
open Go.RowKit
set_option linter.unusedSimpArgs false
set_option linter.unusedVariables false

theorem coB_el {gr : GroupD} {bh : Int} {bl : List Int} {c m r : Int} (h : coB gr bh bl c m r = true) : elB gr c = true := by
  unfold coB at h; rw [Bool.and_eq_true] at h; exact h.2
theorem laws_pMod (n m : Int) (w : World) (hn : I64 n) (h1 : 0 < m) (h2 : m ≤ 4000000000) :
    Calls Try.prog 59 #[.int .i64 n, .int .i64 m] w fun e w' => e = .returned (.int .i64 (n % m)) ∧ w = w' := by
  have ht := tmod_bd n m h1
  have HM := Lib.hid (tmod_mod n m h1)
  have hn1 := hn.1; have hn2 := hn.2
  clear hn
  go_enter Try.func59, Try.ntmps59
  go_wp2
  go_ret
  exact ⟨ret_int (by first | exact HM.out | (have := HM.out; simpa using this)), rfl⟩
def bigB (m m' : Nat) : Bool := decide ((1048576 : Int) < (m : Int)) || decide ((1048576 : Int) - (m : Int) < (m' : Int))
theorem laws_big (a a' : Option Addr) (m c m' c' : Nat) (w : World) (hm : (m : Int) ≤ 9223372036854775807) :
    Calls Try.prog 47 #[.slice a m c, .slice a' m' c'] w fun e w' => e = .returned (.bool (bigB m m')) ∧ w = w' := by
  have ew : IntKind.i64.wrap ((1048576 : Int) - (m : Int)) = (1048576 : Int) - (m : Int) := IntWalk.i64_in _ (by omega)
  by_cases h : (1048576 : Int) < (m : Int)
  · have HB : Hid (bigB m m' = true) := by unfold Hid bigB; rw [decide_eq_true h]; rfl
    rw [HB.out]
    have hd : decide ((1048576 : Int) < (m : Int)) = true := decide_eq_true h
    go_enter Try.func47, Try.ntmps47
    go_wp2_with fail
    go_ret
    exact ⟨rfl, rfl⟩
  · obtain ⟨q, hq⟩ : ∃ q, decide ((1048576 : Int) - (m : Int) < (m' : Int)) = q := ⟨_, rfl⟩
    have HB : Hid (bigB m m' = q) := by unfold Hid bigB; rw [decide_eq_false h, hq]; rfl
    rw [HB.out]
    have hd : decide ((1048576 : Int) < (m : Int)) = false := decide_eq_false h
    have HQ := Lib.hid hq
    clear hq
    go_enter Try.func47, Try.ntmps47
    go_wp2_with fail
    go_ret
    exact ⟨ret_bool HQ.out, rfl⟩
set_option maxRecDepth 100000 in
set_option maxHeartbeats 8000000 in
theorem law_Commitments (va vb : Value) (w : World) (h1 : Bytes w va) (h2 : Bytes w vb) :
    Calls Try.prog 6 #[va, vb] w fun e w' => e = .returned (.bool true) ∧ Below w.heap.size w w' := by
  obtain ⟨a, m, c, rfl, k1, k2, hv⟩ := h1
  obtain ⟨a', m', c', rfl, k3, k4, hv'⟩ := h2
  have H1 : Hid (Bytes w (.slice a m c)) := ⟨a, m, c, rfl, k1, k2, hv⟩
  have H2 : Hid (Bytes w (.slice a' m' c')) := ⟨a', m', c', rfl, k3, k4, hv'⟩
  clear hv hv'
  unfold maxLen at k2 k4
  rcases (by cases bigB m m' <;> simp : bigB m m' = true ∨ bigB m m' = false) with hbig | hbig
  · go_enter Try.func6, Try.ntmps6
    go_wp2_with fail
    refine (laws_big _ _ _ _ _ _ _ (by omega)).mono ?_
    rintro e w1 ⟨rfl, rfl⟩
    rw [hbig]
    go_wp2_with fail
    go_ret
    exact ⟨rfl, Below.refl _ _⟩
  have HBG := Lib.hid hbig
  clear hbig
  have HB : Hid (Below w.heap.size w w) := Below.refl _ _
  go_enter Try.func6, Try.ntmps6
  go_wp2_with fail
  refine (laws_big _ _ _ _ _ _ _ (by omega)).mono ?_
  rintro e w1 ⟨rfl, rfl⟩
  rw [HBG.out]
  clear HBG
  go_wp2_with fail
  try (go_wp2_with fail)
  refine (spec_DrawCommit _ _ (H1.out.below HB.out)).mono ?_
  rintro e u1 ⟨⟨P1a, Q1a, G1a, h1b, v1b, l1b, x1c, x1d, rfl, hgr1a, ⟨⟨h1bl, h1bu⟩, hs1b, hl1b⟩, ⟨x1cl, x1cu⟩, ⟨x1dl, x1du⟩⟩, hb⟩
  clear hgr1a
  have HL1b := Lib.hid hs1b
  obtain ⟨a1b, n1b, c1b, rfl⟩ := hs1b.shape
  have HE1b := Lib.hid hs1b.len
  clear hs1b
  replace HB := Lib.hid (Below.next HB.out hb)
  clear hb
  obtain ⟨V2, hV⟩ : ∃ V, V = (u1.alloc (.cells #[.int .i64 P1a, .int .i64 Q1a, .int .i64 G1a] 39)).alloc (.cells #[.int .i64 h1b, .slice a1b n1b c1b] 79) := ⟨_, rfl⟩
  have hbV : Below u1.heap.size u1 V2 := by rw [hV]; (repeat (first | exact Below.refl _ _ | assumption | refine Below.drew ?_ | refine Below.alloc ?_ (by first | (simp; done) | (simp; omega)) _ | refine Below.setCell ?_ (by first | (simp; done) | (simp; omega)) _))
  have HZ1 : Hid (BoxN V2 u1.heap.size 39 [.int .i64 P1a, .int .i64 Q1a, .int .i64 G1a]) := by unfold Hid; rw [hV]; have h := ((BoxN.new u1 [.int .i64 P1a, .int .i64 Q1a, .int .i64 G1a] 39).alloc (.cells #[.int .i64 h1b, .slice a1b n1b c1b] 79)); simpa using h
  have HZ2 : Hid (BoxN V2 (u1.heap.size + 1) 79 [.int .i64 h1b, .slice a1b n1b c1b]) := by unfold Hid; rw [hV]; have h := (BoxN.new (u1.alloc (.cells #[.int .i64 P1a, .int .i64 Q1a, .int .i64 G1a] 39)) [.int .i64 h1b, .slice a1b n1b c1b] 79); simpa using h
  try (go_wp2_with fail)
  rw [← hV]
  clear hV
  replace HB := Lib.hid (Below.next HB.out hbV)
  replace HL1b := Lib.hid (HL1b.out.below hbV)
  clear hbV
  have z_0_0 := HZ1.out.cell (i := 0) rfl
  have z_0_1 := HZ1.out.cell (i := 1) rfl
  have z_0_2 := HZ1.out.cell (i := 2) rfl
  have z_1_0 := HZ2.out.cell (i := 0) rfl
  have z_1_1 := HZ2.out.cell (i := 1) rfl
  try (go_wp2_with fail)
  clear z_0_0 z_0_1 z_0_2 z_1_0 z_1_1
  refine (impl_Commit ⟨P1a, Q1a, G1a⟩ h1b _ l1b x1c x1d _ HL1b.out ⟨by omega, by omega⟩ ⟨by omega, by omega⟩ ⟨by omega, by omega⟩).mono ?_
  rintro e u3 ⟨rfl, hb⟩
  obtain ⟨r3a, hr3a⟩ : ∃ r, cmR ⟨P1a, Q1a, G1a⟩ h1b l1b x1c x1d = r := ⟨_, rfl⟩
  have Hr3a := Lib.hid hr3a
  rw [hr3a]
  clear hr3a
  obtain ⟨q3b, hq3b⟩ : ∃ r, cmB ⟨P1a, Q1a, G1a⟩ h1b l1b x1c x1d = r := ⟨_, rfl⟩
  have Hq3b := Lib.hid hq3b
  rw [hq3b]
  clear hq3b
  replace HB := Lib.hid (Below.next HB.out hb)
  replace HZ1 := Lib.hid (HZ1.out.below hb)
  replace HZ2 := Lib.hid (HZ2.out.below hb)
  replace HL1b := Lib.hid (HL1b.out.below hb)
  clear hb
  have z_0_0 := HZ1.out.cell (i := 0) rfl
  have z_0_1 := HZ1.out.cell (i := 1) rfl
  have z_0_2 := HZ1.out.cell (i := 2) rfl
  have z_1_0 := HZ2.out.cell (i := 0) rfl
  have z_1_1 := HZ2.out.cell (i := 1) rfl
  try (go_wp2_with fail)
  clear z_0_0 z_0_1 z_0_2 z_1_0 z_1_1
  refine (spec_Commit ⟨P1a, Q1a, G1a⟩ h1b _ l1b x1c x1d _ HL1b.out ⟨by omega, by omega⟩ ⟨by omega, by omega⟩ ⟨by omega, by omega⟩).mono ?_
  rintro e u4 ⟨rfl, hb⟩
  rw [Hr3a.out]
  rw [Hq3b.out]
  replace HB := Lib.hid (Below.next HB.out hb)
  replace HZ1 := Lib.hid (HZ1.out.below hb)
  replace HZ2 := Lib.hid (HZ2.out.below hb)
  replace HL1b := Lib.hid (HL1b.out.below hb)
  clear hb
  have eq_q3b : (q3b == q3b) = true := by simp
  have eq_r3a : (r3a == r3a) = true := by simp
  have z_0_0 := HZ1.out.cell (i := 0) rfl
  have z_0_1 := HZ1.out.cell (i := 1) rfl
  have z_0_2 := HZ1.out.cell (i := 2) rfl
  have z_1_0 := HZ2.out.cell (i := 0) rfl
  have z_1_1 := HZ2.out.cell (i := 1) rfl
  go_upto_if 70 with fail
  clear z_0_0 z_0_1 z_0_2 z_1_0 z_1_1
  go_cut [] from 36 (fun wx => Hid (Below u4.heap.size u4 wx))
  case first =>
    have HCB : Hid (Below u4.heap.size u4 u4) := Below.refl _ _
    cases q3b with
    | false =>
      have z_0_0 := HZ1.out.cell (i := 0) rfl
      have z_0_1 := HZ1.out.cell (i := 1) rfl
      have z_0_2 := HZ1.out.cell (i := 2) rfl
      have z_1_0 := HZ2.out.cell (i := 0) rfl
      have z_1_1 := HZ2.out.cell (i := 1) rfl
      try (go_wp2_with fail)
      clear z_0_0 z_0_1 z_0_2 z_1_0 z_1_1
      go_meet
      exact HCB
    | true =>
      have ht := com_tail Hq3b.out
      rw [Hr3a.out] at ht
      have HT := Lib.hid ht
      have HCP := Lib.hid (cmB_parts Hq3b.out)
      have HG := Lib.hid (goodG_ok (baB_parts HCP.out.1).1)
      have HCI : Hid (I64 r3a) := small_64 (elB_small HG.out (coB_el HT.out.1))
      clear ht
      obtain ⟨rC, hrC⟩ : ∃ r, ccR ⟨P1a, Q1a, G1a⟩ [r3a, r3a] [1, 1] = r := ⟨_, rfl⟩
      have HRC := Lib.hid hrC
      clear hrC
      have z_0_0 := HZ1.out.cell (i := 0) rfl
      have z_0_1 := HZ1.out.cell (i := 1) rfl
      have z_0_2 := HZ1.out.cell (i := 2) rfl
      have z_1_0 := HZ2.out.cell (i := 0) rfl
      have z_1_1 := HZ2.out.cell (i := 1) rfl
      try (go_wp2_with fail)
      clear z_0_0 z_0_1 z_0_2 z_1_0 z_1_1
      refine (impl_CheckOpening ⟨P1a, Q1a, G1a⟩ h1b _ l1b r3a x1c x1d _ HL1b.out ⟨by omega, by omega⟩ ⟨by omega, by omega⟩ ⟨by omega, by omega⟩).mono ?_
      rintro e u5 ⟨rfl, hb⟩
      rw [HT.out.2.1, HT.out.1]
      replace HB := Lib.hid (Below.next HB.out hb)
      replace HCB := Lib.hid (Below.next HCB.out hb)
      replace HZ1 := Lib.hid (HZ1.out.below hb)
      replace HZ2 := Lib.hid (HZ2.out.below hb)
      replace HL1b := Lib.hid (HL1b.out.below hb)
      clear hb
      have z_0_0 := HZ1.out.cell (i := 0) rfl
      have z_0_1 := HZ1.out.cell (i := 1) rfl
      have z_0_2 := HZ1.out.cell (i := 2) rfl
      have z_1_0 := HZ2.out.cell (i := 0) rfl
      have z_1_1 := HZ2.out.cell (i := 1) rfl
      have HI1 : Hid (Ints ((u5.alloc (.cells #[.int .i64 r3a, .int .i64 r3a] 3)).alloc (.cells #[.int .i64 1, .int .i64 1] 3)) (.slice (some ⟨u5.heap.size, 0, none⟩) 2 2) [r3a, r3a]) := (Ints.lit2 u5 HCI.out HCI.out).below ((Below.refl _ _).alloc (Nat.le_refl _) _)
      have HI2 : Hid (Ints ((u5.alloc (.cells #[.int .i64 r3a, .int .i64 r3a] 3)).alloc (.cells #[.int .i64 1, .int .i64 1] 3)) (.slice (some ⟨u5.heap.size + 1, 0, none⟩) 2 2) [1, 1]) := by unfold Hid; have h := Ints.lit2 (u5.alloc (.cells #[.int .i64 r3a, .int .i64 r3a] 3)) (x := 1) (y := 1) ⟨by decide, by decide⟩ ⟨by decide, by decide⟩; simpa using h
      have hlz1 := HZ1.out.lt
      go_wp2_with fail
      refine (impl_CombineCommits ⟨P1a, Q1a, G1a⟩ _ [r3a, r3a] _ [1, 1] _ HI1.out HI2.out).mono ?_
      rintro e uC ⟨rfl, hb⟩
      rw [HT.out.2.2.1, HRC.out]
      replace hb := Below.next (keep_al (keep_al (Below.refl _ _) _) _) hb
      clear HI1 HI2 hlz1
      clear z_0_0 z_0_1 z_0_2 z_1_0 z_1_1
      replace HB := Lib.hid (Below.next HB.out hb)
      replace HCB := Lib.hid (Below.next HCB.out hb)
      replace HZ1 := Lib.hid (HZ1.out.below hb)
      replace HZ2 := Lib.hid (HZ2.out.below hb)
      replace HL1b := Lib.hid (HL1b.out.below hb)
      clear hb
      have z_0_0 := HZ1.out.cell (i := 0) rfl
      have z_0_1 := HZ1.out.cell (i := 1) rfl
      have z_0_2 := HZ1.out.cell (i := 2) rfl
      have z_1_0 := HZ2.out.cell (i := 0) rfl
      have z_1_1 := HZ2.out.cell (i := 1) rfl
      try (go_wp2_with fail)
      clear z_0_0 z_0_1 z_0_2 z_1_0 z_1_1
      have c0 := HZ1.out.cell (i := 0) rfl
      have c1 := HZ1.out.cell (i := 1) rfl
      have c2 := HZ1.out.cell (i := 2) rfl
      have d0 := HZ2.out.cell (i := 0) rfl
      have d1 := HZ2.out.cell (i := 1) rfl
      have zq1 : 2 ≤ Q1a := HG.out.q1
      have zq2 : Q1a ≤ P1a - 1 := HG.out.q2
      have zp2 : P1a ≤ 2000000000 := HG.out.p2
      have hqz : ¬ Q1a = 0 := by omega
      have hqz2 : (Q1a == 0) = false := by rw [beq_eq_false_iff_ne]; omega
      have em0 := expB_bd HCP.out.2.1
      obtain ⟨em1, em2⟩ := em0
      have er0 := expB_bd HCP.out.2.2
      obtain ⟨er1, er2⟩ := er0
      replace em2 : x1c ≤ Q1a - 1 := em2
      replace er2 : x1d ≤ Q1a - 1 := er2
      have et1 : Int.tmod (2 * x1c) Q1a = 2 * x1c % Q1a := Int.tmod_eq_emod_of_nonneg (by omega)
      have et2 : Int.tmod (2 * x1d) Q1a = 2 * x1d % Q1a := Int.tmod_eq_emod_of_nonneg (by omega)
      have ew1 : IntKind.i64.wrap (2 * x1c) = 2 * x1c := IntWalk.i64_in _ (by omega)
      have ew2 : IntKind.i64.wrap (2 * x1d) = 2 * x1d := IntWalk.i64_in _ (by omega)
      have z1 : 0 ≤ 2 * x1c % Q1a := Int.emod_nonneg _ (by omega)
      have z2 : 2 * x1c % Q1a < Q1a := Int.emod_lt_of_pos _ (by omega)
      have z3 : 0 ≤ 2 * x1d % Q1a := Int.emod_nonneg _ (by omega)
      have z4 : 2 * x1d % Q1a < Q1a := Int.emod_lt_of_pos _ (by omega)
      have ew3 : IntKind.i64.wrap (2 * x1c % Q1a) = 2 * x1c % Q1a := IntWalk.i64_in _ (by omega)
      have ew4 : IntKind.i64.wrap (2 * x1d % Q1a) = 2 * x1d % Q1a := IntWalk.i64_in _ (by omega)
      have HD1 : Hid (I64 (2 * x1c % Q1a)) := ⟨by omega, by omega⟩
      have HD2 : Hid (I64 (2 * x1d % Q1a)) := ⟨by omega, by omega⟩
      clear z1 z2 z3 z4
      have hc : Below uC.heap.size uC uC := Below.refl _ _
      go_wp2_with fail
      try (go_wp2_with fail)
      refine wp_region_noPanic ?_
      refine wp_region_P (fun w' => w'.cell? ⟨u1.heap.size, 0, none⟩ = some (.int .i64 P1a) ∧ w'.cell? ⟨u1.heap.size, 1, none⟩ = some (.int .i64 Q1a) ∧ w'.cell? ⟨u1.heap.size, 2, none⟩ = some (.int .i64 G1a) ∧ w'.cell? ⟨u1.heap.size + 1, 0, none⟩ = some (.int .i64 h1b) ∧ w'.cell? ⟨u1.heap.size + 1, 1, none⟩ = some (.slice a1b n1b c1b)) 20 [(0, []), (1, []), (2, []), (3, [0]), (4, []), (5, [0]), (6, [2, 0]), (7, []), (8, [0]), (9, []), (10, [0]), (11, [2, 0]), (12, [11, 10, 5, 0]), (13, [0]), (14, [0]), (15, [1]), (16, [1]), (17, [1])] [] (by kernel_rfl) (by kernel_rfl) (by kernel_rfl) rfl (fun _ _ _ _ h => h) (fun w' h => ⟨box_at c0 h, box_at c1 h, box_at c2 h, box_at d0 h, box_at d1 h⟩) ?_
      simp only [pickP, pickN, List.getElem?_cons_zero, List.getElem?_cons_succ]
      iterate 12 (refine' chainP_read _ rfl rfl (fun w' hS' => ?_) ?_; rotate_left; · (simp only [lookP, allP, Act.put, List.getElem?_cons_zero, List.getElem?_cons_succ, List.setIfInBounds_toArray, List.set_cons_zero, List.set_cons_succ]; (try dsimp only at hS'); go_simp; (try with_reducible rfl)))
      -- 12: call { callee := value (func 49), args := #[t90, t91, t96, t101], argTypes := #[39, 79, 3, 3] }
      refine chainP_call (d := (some 102)) (.tuple #[.int .i64 rC, .bool true]) rfl rfl (fun w' hS' => ?_) ?_
      · simp only [lookP, allP, Act.put, List.getElem?_cons_zero, List.getElem?_cons_succ, List.setIfInBounds_toArray, List.set_cons_zero, List.set_cons_succ]
        intro K hK
        go_simp
        go_at_call 49
        refine (impl_Commit ⟨P1a, Q1a, G1a⟩ h1b _ l1b (2 * x1c % Q1a) (2 * x1d % Q1a) _ (HL1b.out.below hS'.1) ⟨by omega, by omega⟩ HD1.out HD2.out).mono ?_
        rintro e u ⟨rfl, hq⟩
        rw [HT.out.2.2.2.1, HT.out.2.2.2.2, HRC.out]
        exact hK.out _ hq
      iterate 5 (refine' chainP_read _ rfl rfl (fun w' hS' => ?_) ?_; rotate_left; · (simp only [lookP, allP, Act.put, List.getElem?_cons_zero, List.getElem?_cons_succ, List.setIfInBounds_toArray, List.set_cons_zero, List.set_cons_succ]; (try dsimp only at hS'); go_simp; (try with_reducible rfl)))
      refine chainP_nil (fun ux hS' => ?_)
      simp only [allP, Act.put, List.setIfInBounds_toArray, List.set_cons_zero, List.set_cons_succ]
      have hq1 := hS'.1
      clear hS'
      replace hc := Below.next hc hq1
      replace c0 := box_at c0 hq1
      replace c1 := box_at c1 hq1
      replace c2 := box_at c2 hq1
      replace d0 := box_at d0 hq1
      replace d1 := box_at d1 hq1
      clear hq1
      clear c0 c1 c2 d0 d1
      replace HB := Lib.hid (Below.next HB.out hc)
      replace HCB := Lib.hid (Below.next HCB.out hc)
      replace HZ1 := Lib.hid (HZ1.out.below hc)
      replace HZ2 := Lib.hid (HZ2.out.below hc)
      replace HL1b := Lib.hid (HL1b.out.below hc)
      clear hc
      go_wp2_with fail
      refine NoPanic.normal ?_
      have eq_rC : (rC == rC) = true := by simp
      have z_0_0 := HZ1.out.cell (i := 0) rfl
      have z_0_1 := HZ1.out.cell (i := 1) rfl
      have z_0_2 := HZ1.out.cell (i := 2) rfl
      have z_1_0 := HZ2.out.cell (i := 0) rfl
      have z_1_1 := HZ2.out.cell (i := 1) rfl
      try (go_wp2_with fail)
      clear z_0_0 z_0_1 z_0_2 z_1_0 z_1_1
      go_meet
      exact HCB
  case rest =>
    have hct := hcut.out
    clear hcut
    replace HB := Lib.hid (Below.next HB.out hct)
    replace HZ1 := Lib.hid (HZ1.out.below hct)
    replace HZ2 := Lib.hid (HZ2.out.below hct)
    replace HL1b := Lib.hid (HL1b.out.below hct)
    clear hct
    have z_0_0 := HZ1.out.cell (i := 0) rfl
    have z_0_1 := HZ1.out.cell (i := 1) rfl
    have z_0_2 := HZ1.out.cell (i := 2) rfl
    have z_1_0 := HZ2.out.cell (i := 0) rfl
    have z_1_1 := HZ2.out.cell (i := 1) rfl
    try (go_wp2_with fail)
    clear z_0_0 z_0_1 z_0_2 z_1_0 z_1_1
    refine (spec_DrawCommitVector _ _ (H2.out.below HB.out)).mono ?_
    rintro e u5 ⟨⟨P5a, Q5a, G5a, h5b, v5b, l5b, v5c, l5c, x5d, rfl, hgr5a, ⟨⟨h5bl, h5bu⟩, hs5b, hl5b⟩, ⟨hs5c, hl5c⟩, ⟨x5dl, x5du⟩⟩, hb⟩
    clear hgr5a
    have HL5b := Lib.hid hs5b
    obtain ⟨a5b, n5b, c5b, rfl⟩ := hs5b.shape
    have HE5b := Lib.hid hs5b.len
    clear hs5b
    have HL5c := Lib.hid hs5c
    obtain ⟨a5c, n5c, c5c, rfl⟩ := hs5c.shape
    have HE5c := Lib.hid hs5c.len
    clear hs5c
    replace HB := Lib.hid (Below.next HB.out hb)
    replace HZ1 := Lib.hid (HZ1.out.below hb)
    replace HZ2 := Lib.hid (HZ2.out.below hb)
    replace HL1b := Lib.hid (HL1b.out.below hb)
    clear hb
    have z_0_0 := HZ1.out.cell (i := 0) rfl
    have z_0_1 := HZ1.out.cell (i := 1) rfl
    have z_0_2 := HZ1.out.cell (i := 2) rfl
    have z_1_0 := HZ2.out.cell (i := 0) rfl
    have z_1_1 := HZ2.out.cell (i := 1) rfl
    have lt_HZ1 := HZ1.out.lt
    have lt_HZ2 := HZ2.out.lt
    obtain ⟨V6, hV⟩ : ∃ V, V = (u5.alloc (.cells #[.int .i64 P5a, .int .i64 Q5a, .int .i64 G5a] 39)).alloc (.cells #[.int .i64 h5b, .slice a5b n5b c5b] 79) := ⟨_, rfl⟩
    have hbV : Below u5.heap.size u5 V6 := by rw [hV]; (repeat (first | exact Below.refl _ _ | assumption | refine Below.drew ?_ | refine Below.alloc ?_ (by first | (simp; done) | (simp; omega)) _ | refine Below.setCell ?_ (by first | (simp; done) | (simp; omega)) _))
    have HZ3 : Hid (BoxN V6 u5.heap.size 39 [.int .i64 P5a, .int .i64 Q5a, .int .i64 G5a]) := by unfold Hid; rw [hV]; have h := ((BoxN.new u5 [.int .i64 P5a, .int .i64 Q5a, .int .i64 G5a] 39).alloc (.cells #[.int .i64 h5b, .slice a5b n5b c5b] 79)); simpa using h
    have HZ4 : Hid (BoxN V6 (u5.heap.size + 1) 79 [.int .i64 h5b, .slice a5b n5b c5b]) := by unfold Hid; rw [hV]; have h := (BoxN.new (u5.alloc (.cells #[.int .i64 P5a, .int .i64 Q5a, .int .i64 G5a] 39)) [.int .i64 h5b, .slice a5b n5b c5b] 79); simpa using h
    try (go_wp2_with fail)
    rw [← hV]
    clear hV
    clear lt_HZ1
    clear lt_HZ2
    clear z_0_0 z_0_1 z_0_2 z_1_0 z_1_1
    replace HB := Lib.hid (Below.next HB.out hbV)
    replace HZ1 := Lib.hid (HZ1.out.below hbV)
    replace HZ2 := Lib.hid (HZ2.out.below hbV)
    replace HL1b := Lib.hid (HL1b.out.below hbV)
    replace HL5b := Lib.hid (HL5b.out.below hbV)
    replace HL5c := Lib.hid (HL5c.out.below hbV)
    clear hbV
    have z_0_0 := HZ1.out.cell (i := 0) rfl
    have z_0_1 := HZ1.out.cell (i := 1) rfl
    have z_0_2 := HZ1.out.cell (i := 2) rfl
    have z_1_0 := HZ2.out.cell (i := 0) rfl
    have z_1_1 := HZ2.out.cell (i := 1) rfl
    have z_2_0 := HZ3.out.cell (i := 0) rfl
    have z_2_1 := HZ3.out.cell (i := 1) rfl
    have z_2_2 := HZ3.out.cell (i := 2) rfl
    have z_3_0 := HZ4.out.cell (i := 0) rfl
    have z_3_1 := HZ4.out.cell (i := 1) rfl
    try (go_wp2_with fail)
    clear z_0_0 z_0_1 z_0_2 z_1_0 z_1_1 z_2_0 z_2_1 z_2_2 z_3_0 z_3_1
    refine (impl_CommitVector ⟨P5a, Q5a, G5a⟩ h5b _ l5b _ l5c x5d _ HL5b.out HL5c.out ⟨by omega, by omega⟩ ⟨by omega, by omega⟩).mono ?_
    rintro e u7 ⟨rfl, hb⟩
    obtain ⟨r7a, hr7a⟩ : ∃ r, cvR ⟨P5a, Q5a, G5a⟩ h5b l5b l5c x5d = r := ⟨_, rfl⟩
    have Hr7a := Lib.hid hr7a
    rw [hr7a]
    clear hr7a
    obtain ⟨q7b, hq7b⟩ : ∃ r, cvB ⟨P5a, Q5a, G5a⟩ h5b l5b l5c x5d = r := ⟨_, rfl⟩
    have Hq7b := Lib.hid hq7b
    rw [hq7b]
    clear hq7b
    replace HB := Lib.hid (Below.next HB.out hb)
    replace HZ1 := Lib.hid (HZ1.out.below hb)
    replace HZ2 := Lib.hid (HZ2.out.below hb)
    replace HZ3 := Lib.hid (HZ3.out.below hb)
    replace HZ4 := Lib.hid (HZ4.out.below hb)
    replace HL1b := Lib.hid (HL1b.out.below hb)
    replace HL5b := Lib.hid (HL5b.out.below hb)
    replace HL5c := Lib.hid (HL5c.out.below hb)
    clear hb
    have z_0_0 := HZ1.out.cell (i := 0) rfl
    have z_0_1 := HZ1.out.cell (i := 1) rfl
    have z_0_2 := HZ1.out.cell (i := 2) rfl
    have z_1_0 := HZ2.out.cell (i := 0) rfl
    have z_1_1 := HZ2.out.cell (i := 1) rfl
    have z_2_0 := HZ3.out.cell (i := 0) rfl
    have z_2_1 := HZ3.out.cell (i := 1) rfl
    have z_2_2 := HZ3.out.cell (i := 2) rfl
    have z_3_0 := HZ4.out.cell (i := 0) rfl
    have z_3_1 := HZ4.out.cell (i := 1) rfl
    try (go_wp2_with fail)
    clear z_0_0 z_0_1 z_0_2 z_1_0 z_1_1 z_2_0 z_2_1 z_2_2 z_3_0 z_3_1
    refine (spec_CommitVector ⟨P5a, Q5a, G5a⟩ h5b _ l5b _ l5c x5d _ HL5b.out HL5c.out ⟨by omega, by omega⟩ ⟨by omega, by omega⟩).mono ?_
    rintro e u8 ⟨rfl, hb⟩
    rw [Hr7a.out]
    rw [Hq7b.out]
    replace HB := Lib.hid (Below.next HB.out hb)
    replace HZ1 := Lib.hid (HZ1.out.below hb)
    replace HZ2 := Lib.hid (HZ2.out.below hb)
    replace HZ3 := Lib.hid (HZ3.out.below hb)
    replace HZ4 := Lib.hid (HZ4.out.below hb)
    replace HL1b := Lib.hid (HL1b.out.below hb)
    replace HL5b := Lib.hid (HL5b.out.below hb)
    replace HL5c := Lib.hid (HL5c.out.below hb)
    clear hb
    have eq_q7b : (q7b == q7b) = true := by simp
    have eq_r7a : (r7a == r7a) = true := by simp
    have z_0_0 := HZ1.out.cell (i := 0) rfl
    have z_0_1 := HZ1.out.cell (i := 1) rfl
    have z_0_2 := HZ1.out.cell (i := 2) rfl
    have z_1_0 := HZ2.out.cell (i := 0) rfl
    have z_1_1 := HZ2.out.cell (i := 1) rfl
    have z_2_0 := HZ3.out.cell (i := 0) rfl
    have z_2_1 := HZ3.out.cell (i := 1) rfl
    have z_2_2 := HZ3.out.cell (i := 2) rfl
    have z_3_0 := HZ4.out.cell (i := 0) rfl
    have z_3_1 := HZ4.out.cell (i := 1) rfl
    try (go_wp2_with fail)
    clear z_0_0 z_0_1 z_0_2 z_1_0 z_1_1 z_2_0 z_2_1 z_2_2 z_3_0 z_3_1
    refine (spec_DrawEquivocate _ _ (H2.out.below HB.out)).mono ?_
    rintro e u9 ⟨⟨P9a, Q9a, G9a, x9b, x9c, x9d, x9e, rfl, hgr9a, ⟨x9bl, x9bu⟩, ⟨x9cl, x9cu⟩, ⟨x9dl, x9du⟩, ⟨x9el, x9eu⟩⟩, hb⟩
    clear hgr9a
    replace HB := Lib.hid (Below.next HB.out hb)
    replace HZ1 := Lib.hid (HZ1.out.below hb)
    replace HZ2 := Lib.hid (HZ2.out.below hb)
    replace HZ3 := Lib.hid (HZ3.out.below hb)
    replace HZ4 := Lib.hid (HZ4.out.below hb)
    replace HL1b := Lib.hid (HL1b.out.below hb)
    replace HL5b := Lib.hid (HL5b.out.below hb)
    replace HL5c := Lib.hid (HL5c.out.below hb)
    clear hb
    have z_0_0 := HZ1.out.cell (i := 0) rfl
    have z_0_1 := HZ1.out.cell (i := 1) rfl
    have z_0_2 := HZ1.out.cell (i := 2) rfl
    have z_1_0 := HZ2.out.cell (i := 0) rfl
    have z_1_1 := HZ2.out.cell (i := 1) rfl
    have z_2_0 := HZ3.out.cell (i := 0) rfl
    have z_2_1 := HZ3.out.cell (i := 1) rfl
    have z_2_2 := HZ3.out.cell (i := 2) rfl
    have z_3_0 := HZ4.out.cell (i := 0) rfl
    have z_3_1 := HZ4.out.cell (i := 1) rfl
    have lt_HZ1 := HZ1.out.lt
    have lt_HZ2 := HZ2.out.lt
    have lt_HZ3 := HZ3.out.lt
    have lt_HZ4 := HZ4.out.lt
    obtain ⟨V10, hV⟩ : ∃ V, V = u9.alloc (.cells #[.int .i64 P9a, .int .i64 Q9a, .int .i64 G9a] 39) := ⟨_, rfl⟩
    have hbV : Below u9.heap.size u9 V10 := by rw [hV]; (repeat (first | exact Below.refl _ _ | assumption | refine Below.drew ?_ | refine Below.alloc ?_ (by first | (simp; done) | (simp; omega)) _ | refine Below.setCell ?_ (by first | (simp; done) | (simp; omega)) _))
    have HZ5 : Hid (BoxN V10 u9.heap.size 39 [.int .i64 P9a, .int .i64 Q9a, .int .i64 G9a]) := by unfold Hid; rw [hV]; have h := (BoxN.new u9 [.int .i64 P9a, .int .i64 Q9a, .int .i64 G9a] 39); simpa using h
    try (go_wp2_with fail)
    rw [← hV]
    clear hV
    clear lt_HZ1
    clear lt_HZ2
    clear lt_HZ3
    clear lt_HZ4
    clear z_0_0 z_0_1 z_0_2 z_1_0 z_1_1 z_2_0 z_2_1 z_2_2 z_3_0 z_3_1
    replace HB := Lib.hid (Below.next HB.out hbV)
    replace HZ1 := Lib.hid (HZ1.out.below hbV)
    replace HZ2 := Lib.hid (HZ2.out.below hbV)
    replace HZ3 := Lib.hid (HZ3.out.below hbV)
    replace HZ4 := Lib.hid (HZ4.out.below hbV)
    replace HL1b := Lib.hid (HL1b.out.below hbV)
    replace HL5b := Lib.hid (HL5b.out.below hbV)
    replace HL5c := Lib.hid (HL5c.out.below hbV)
    clear hbV
    have z_0_0 := HZ1.out.cell (i := 0) rfl
    have z_0_1 := HZ1.out.cell (i := 1) rfl
    have z_0_2 := HZ1.out.cell (i := 2) rfl
    have z_1_0 := HZ2.out.cell (i := 0) rfl
    have z_1_1 := HZ2.out.cell (i := 1) rfl
    have z_2_0 := HZ3.out.cell (i := 0) rfl
    have z_2_1 := HZ3.out.cell (i := 1) rfl
    have z_2_2 := HZ3.out.cell (i := 2) rfl
    have z_3_0 := HZ4.out.cell (i := 0) rfl
    have z_3_1 := HZ4.out.cell (i := 1) rfl
    have z_4_0 := HZ5.out.cell (i := 0) rfl
    have z_4_1 := HZ5.out.cell (i := 1) rfl
    have z_4_2 := HZ5.out.cell (i := 2) rfl
    try (go_wp2_with fail)
    clear z_0_0 z_0_1 z_0_2 z_1_0 z_1_1 z_2_0 z_2_1 z_2_2 z_3_0 z_3_1 z_4_0 z_4_1 z_4_2
    refine (impl_Equivocate ⟨P9a, Q9a, G9a⟩ x9b x9c x9d x9e _ ⟨by omega, by omega⟩ ⟨by omega, by omega⟩ ⟨by omega, by omega⟩ ⟨by omega, by omega⟩).mono ?_
    rintro e u11 ⟨rfl, hb⟩
    obtain ⟨r11a, hr11a⟩ : ∃ r, eqR ⟨P9a, Q9a, G9a⟩ x9b x9c x9d x9e = r := ⟨_, rfl⟩
    have Hr11a := Lib.hid hr11a
    rw [hr11a]
    clear hr11a
    obtain ⟨q11b, hq11b⟩ : ∃ r, eqB ⟨P9a, Q9a, G9a⟩ x9b x9c x9d x9e = r := ⟨_, rfl⟩
    have Hq11b := Lib.hid hq11b
    rw [hq11b]
    clear hq11b
    replace HB := Lib.hid (Below.next HB.out hb)
    replace HZ1 := Lib.hid (HZ1.out.below hb)
    replace HZ2 := Lib.hid (HZ2.out.below hb)
    replace HZ3 := Lib.hid (HZ3.out.below hb)
    replace HZ4 := Lib.hid (HZ4.out.below hb)
    replace HZ5 := Lib.hid (HZ5.out.below hb)
    replace HL1b := Lib.hid (HL1b.out.below hb)
    replace HL5b := Lib.hid (HL5b.out.below hb)
    replace HL5c := Lib.hid (HL5c.out.below hb)
    clear hb
    have z_0_0 := HZ1.out.cell (i := 0) rfl
    have z_0_1 := HZ1.out.cell (i := 1) rfl
    have z_0_2 := HZ1.out.cell (i := 2) rfl
    have z_1_0 := HZ2.out.cell (i := 0) rfl
    have z_1_1 := HZ2.out.cell (i := 1) rfl
    have z_2_0 := HZ3.out.cell (i := 0) rfl
    have z_2_1 := HZ3.out.cell (i := 1) rfl
    have z_2_2 := HZ3.out.cell (i := 2) rfl
    have z_3_0 := HZ4.out.cell (i := 0) rfl
    have z_3_1 := HZ4.out.cell (i := 1) rfl
    have z_4_0 := HZ5.out.cell (i := 0) rfl
    have z_4_1 := HZ5.out.cell (i := 1) rfl
    have z_4_2 := HZ5.out.cell (i := 2) rfl
    try (go_wp2_with fail)
    clear z_0_0 z_0_1 z_0_2 z_1_0 z_1_1 z_2_0 z_2_1 z_2_2 z_3_0 z_3_1 z_4_0 z_4_1 z_4_2
    refine (spec_Equivocate ⟨P9a, Q9a, G9a⟩ x9b x9c x9d x9e _ ⟨by omega, by omega⟩ ⟨by omega, by omega⟩ ⟨by omega, by omega⟩ ⟨by omega, by omega⟩).mono ?_
    rintro e u12 ⟨rfl, hb⟩
    rw [Hr11a.out]
    rw [Hq11b.out]
    replace HB := Lib.hid (Below.next HB.out hb)
    replace HZ1 := Lib.hid (HZ1.out.below hb)
    replace HZ2 := Lib.hid (HZ2.out.below hb)
    replace HZ3 := Lib.hid (HZ3.out.below hb)
    replace HZ4 := Lib.hid (HZ4.out.below hb)
    replace HZ5 := Lib.hid (HZ5.out.below hb)
    replace HL1b := Lib.hid (HL1b.out.below hb)
    replace HL5b := Lib.hid (HL5b.out.below hb)
    replace HL5c := Lib.hid (HL5c.out.below hb)
    clear hb
    have eq_q11b : (q11b == q11b) = true := by simp
    have z_0_0 := HZ1.out.cell (i := 0) rfl
    have z_0_1 := HZ1.out.cell (i := 1) rfl
    have z_0_2 := HZ1.out.cell (i := 2) rfl
    have z_1_0 := HZ2.out.cell (i := 0) rfl
    have z_1_1 := HZ2.out.cell (i := 1) rfl
    have z_2_0 := HZ3.out.cell (i := 0) rfl
    have z_2_1 := HZ3.out.cell (i := 1) rfl
    have z_2_2 := HZ3.out.cell (i := 2) rfl
    have z_3_0 := HZ4.out.cell (i := 0) rfl
    have z_3_1 := HZ4.out.cell (i := 1) rfl
    have z_4_0 := HZ5.out.cell (i := 0) rfl
    have z_4_1 := HZ5.out.cell (i := 1) rfl
    have z_4_2 := HZ5.out.cell (i := 2) rfl
    try (go_wp2_with fail)
    clear z_0_0 z_0_1 z_0_2 z_1_0 z_1_1 z_2_0 z_2_1 z_2_2 z_3_0 z_3_1 z_4_0 z_4_1 z_4_2
    cases q11b with
    | false =>
      have c0 := HZ5.out.cell (i := 0) rfl
      have c1 := HZ5.out.cell (i := 1) rfl
      have c2 := HZ5.out.cell (i := 2) rfl
      have hc : Below u12.heap.size u12 u12 := Below.refl _ _
      try (go_wp2_with fail)
      refine wp_region_noPanic ?_
      refine wp_region_P (fun w' => w'.cell? ⟨u9.heap.size, 0, none⟩ = some (.int .i64 P9a) ∧ w'.cell? ⟨u9.heap.size, 1, none⟩ = some (.int .i64 Q9a) ∧ w'.cell? ⟨u9.heap.size, 2, none⟩ = some (.int .i64 G9a)) 24 [(0, []), (1, [0]), (2, [0]), (3, [0]), (4, [1]), (5, [2]), (6, [1, 0, 3]), (7, [3, 0, 4]), (8, [5]), (9, [0, 6]), (10, [2, 0, 7]), (11, [8]), (12, [9]), (13, [10]), (14, [1, 0, 11]), (15, [3, 0, 12]), (16, [13]), (17, [0, 14]), (18, [2, 0, 15]), (19, [8, 0, 16]), (20, [17, 0]), (21, [0])] [] (by kernel_rfl) (by kernel_rfl) (by kernel_rfl) rfl (fun _ _ _ _ h => h) (fun w' h => ⟨box_at c0 h, box_at c1 h, box_at c2 h⟩) ?_
      simp only [pickP, pickN, List.getElem?_cons_zero, List.getElem?_cons_succ]
      iterate 3 (refine' chainP_read _ rfl rfl (fun w' hS' => ?_) ?_; rotate_left; · (simp only [lookP, allP, Act.put, List.getElem?_cons_zero, List.getElem?_cons_succ, List.setIfInBounds_toArray, List.set_cons_zero, List.set_cons_succ]; (try dsimp only at hS'); go_simp; (try with_reducible rfl)))
      -- 3: move t29
      refine chainP_skip (d := (some 187)) rfl (fun w' hS' => ?_) ?_
      · simp only [lookP, allP, Act.put, List.getElem?_cons_zero, List.getElem?_cons_succ, List.setIfInBounds_toArray, List.set_cons_zero, List.set_cons_succ]
        kernel_rfl
      -- 4: move t28
      refine chainP_skip (d := (some 188)) rfl (fun w' hS' => ?_) ?_
      · simp only [lookP, allP, Act.put, List.getElem?_cons_zero, List.getElem?_cons_succ, List.setIfInBounds_toArray, List.set_cons_zero, List.set_cons_succ]
        kernel_rfl
      -- 5: move t30
      refine chainP_skip (d := (some 189)) rfl (fun w' hS' => ?_) ?_
      · simp only [lookP, allP, Act.put, List.getElem?_cons_zero, List.getElem?_cons_succ, List.setIfInBounds_toArray, List.set_cons_zero, List.set_cons_succ]
        kernel_rfl
      -- 6: binOp Binmul 3 t188 t189 3
      refine chainP_skip (d := (some 190)) rfl (fun w' hS' => ?_) ?_
      · simp only [lookP, allP, Act.put, List.getElem?_cons_zero, List.getElem?_cons_succ, List.setIfInBounds_toArray, List.set_cons_zero, List.set_cons_succ]
        kernel_rfl
      -- 7: binOp Binadd 3 t187 t190 3
      refine chainP_skip (d := (some 191)) rfl (fun w' hS' => ?_) ?_
      · simp only [lookP, allP, Act.put, List.getElem?_cons_zero, List.getElem?_cons_succ, List.setIfInBounds_toArray, List.set_cons_zero, List.set_cons_succ]
        kernel_rfl
      -- 8: fieldAddr 39 t27 1
      refine chainP_skip (d := (some 192)) rfl (fun w' hS' => ?_) ?_
      · simp only [lookP, allP, Act.put, List.getElem?_cons_zero, List.getElem?_cons_succ, List.setIfInBounds_toArray, List.set_cons_zero, List.set_cons_succ]
        kernel_rfl
      -- 9: load 3 t192
      refine chainP_skip (d := (some 193)) rfl (fun w' hS' => ?_) ?_
      · simp only [lookP, allP, Act.put, List.getElem?_cons_zero, List.getElem?_cons_succ, List.setIfInBounds_toArray, List.set_cons_zero, List.set_cons_succ]
        kernel_rfl
      -- 10: call { callee := value (func 59), args := #[t191, t193], argTypes := #[3, 3] }
      refine chainP_skip (d := (some 194)) rfl (fun w' hS' => ?_) ?_
      · simp only [lookP, allP, Act.put, List.getElem?_cons_zero, List.getElem?_cons_succ, List.setIfInBounds_toArray, List.set_cons_zero, List.set_cons_succ]
        kernel_rfl
      -- 11: move t31
      refine chainP_skip (d := (some 195)) rfl (fun w' hS' => ?_) ?_
      · simp only [lookP, allP, Act.put, List.getElem?_cons_zero, List.getElem?_cons_succ, List.setIfInBounds_toArray, List.set_cons_zero, List.set_cons_succ]
        kernel_rfl
      -- 12: move t28
      refine chainP_skip (d := (some 196)) rfl (fun w' hS' => ?_) ?_
      · simp only [lookP, allP, Act.put, List.getElem?_cons_zero, List.getElem?_cons_succ, List.setIfInBounds_toArray, List.set_cons_zero, List.set_cons_succ]
        kernel_rfl
      -- 13: move t32
      refine chainP_skip (d := (some 197)) rfl (fun w' hS' => ?_) ?_
      · simp only [lookP, allP, Act.put, List.getElem?_cons_zero, List.getElem?_cons_succ, List.setIfInBounds_toArray, List.set_cons_zero, List.set_cons_succ]
        kernel_rfl
      -- 14: binOp Binmul 3 t196 t197 3
      refine chainP_skip (d := (some 198)) rfl (fun w' hS' => ?_) ?_
      · simp only [lookP, allP, Act.put, List.getElem?_cons_zero, List.getElem?_cons_succ, List.setIfInBounds_toArray, List.set_cons_zero, List.set_cons_succ]
        kernel_rfl
      -- 15: binOp Binadd 3 t195 t198 3
      refine chainP_skip (d := (some 199)) rfl (fun w' hS' => ?_) ?_
      · simp only [lookP, allP, Act.put, List.getElem?_cons_zero, List.getElem?_cons_succ, List.setIfInBounds_toArray, List.set_cons_zero, List.set_cons_succ]
        kernel_rfl
      -- 16: fieldAddr 39 t27 1
      refine chainP_skip (d := (some 200)) rfl (fun w' hS' => ?_) ?_
      · simp only [lookP, allP, Act.put, List.getElem?_cons_zero, List.getElem?_cons_succ, List.setIfInBounds_toArray, List.set_cons_zero, List.set_cons_succ]
        kernel_rfl
      -- 17: load 3 t200
      refine chainP_skip (d := (some 201)) rfl (fun w' hS' => ?_) ?_
      · simp only [lookP, allP, Act.put, List.getElem?_cons_zero, List.getElem?_cons_succ, List.setIfInBounds_toArray, List.set_cons_zero, List.set_cons_succ]
        kernel_rfl
      -- 18: call { callee := value (func 59), args := #[t199, t201], argTypes := #[3, 3] }
      refine chainP_skip (d := (some 202)) rfl (fun w' hS' => ?_) ?_
      · simp only [lookP, allP, Act.put, List.getElem?_cons_zero, List.getElem?_cons_succ, List.setIfInBounds_toArray, List.set_cons_zero, List.set_cons_succ]
        kernel_rfl
      -- 19: binOp Bineql 3 t194 t202 3
      refine chainP_skip (d := (some 203)) rfl (fun w' hS' => ?_) ?_
      · simp only [lookP, allP, Act.put, List.getElem?_cons_zero, List.getElem?_cons_succ, List.setIfInBounds_toArray, List.set_cons_zero, List.set_cons_succ]
        kernel_rfl
      iterate 2 (refine' chainP_read _ rfl rfl (fun w' hS' => ?_) ?_; rotate_left; · (simp only [lookP, allP, Act.put, List.getElem?_cons_zero, List.getElem?_cons_succ, List.setIfInBounds_toArray, List.set_cons_zero, List.set_cons_succ]; (try dsimp only at hS'); go_simp; (try with_reducible rfl)))
      refine chainP_nil (fun ux hS' => ?_)
      simp only [allP, Act.put, List.setIfInBounds_toArray, List.set_cons_zero, List.set_cons_succ]
      have hq1 := hS'.1
      clear hS'
      replace hc := Below.next hc hq1
      replace c0 := box_at c0 hq1
      replace c1 := box_at c1 hq1
      replace c2 := box_at c2 hq1
      clear hq1
      go_wp2_with fail
      refine NoPanic.normal ?_
      go_wp2_with fail
      go_ret
      exact ⟨rfl, HB.out.trans (hc.mono HB.out.size)⟩
    | true =>
      have c0 := HZ5.out.cell (i := 0) rfl
      have c1 := HZ5.out.cell (i := 1) rfl
      have c2 := HZ5.out.cell (i := 2) rfl
      have hc : Below u12.heap.size u12 u12 := Below.refl _ _
      have HEP := Lib.hid (eqB_parts Hq11b.out)
      have HG := Lib.hid (goodG_ok HEP.out.1)
      have zq1 : 2 ≤ Q9a := HG.out.q1
      have zq2 : Q9a ≤ P9a - 1 := HG.out.q2
      have zp2 : P9a ≤ 2000000000 := HG.out.p2
      have hqz : ¬ Q9a = 0 := by omega
      have hqz2 : (Q9a == 0) = false := by rw [beq_eq_false_iff_ne]; omega
      obtain ⟨t1, t2⟩ := expB_bd HEP.out.2.1
      obtain ⟨a1, a2⟩ := expB_bd HEP.out.2.2.1
      obtain ⟨k1, k2⟩ := expB_bd HEP.out.2.2.2.1
      obtain ⟨o1, o2⟩ := expB_bd HEP.out.2.2.2.2.1
      replace t2 : x9b ≤ Q9a - 1 := t2
      replace a2 : x9c ≤ Q9a - 1 := a2
      replace k2 : x9d ≤ Q9a - 1 := k2
      replace o2 : x9e ≤ Q9a - 1 := o2
      have hzr : eqR ⟨P9a, Q9a, G9a⟩ x9b x9c x9d x9e = r11a := Hr11a.out
      unfold eqR at hzr
      rw [if_pos Hq11b.out] at hzr
      have hz1 : 0 ≤ r11a := by rw [← hzr]; exact Int.emod_nonneg _ (by show Q9a ≠ 0; omega)
      have hz2 : r11a < Q9a := by rw [← hzr]; exact Int.emod_lt_of_pos _ (by show 0 < Q9a; omega)
      have HEQ : Hid ((x9e + x9b * r11a) % Q9a = (x9c + x9b * x9d) % Q9a) := by
        unfold Hid
        have h := eq_tail Hq11b.out (invQ_is HG.out.qp HEP.out.2.2.2.2.2.1 HEP.out.2.2.2.2.2.2).2
        rw [hzr] at h
        exact h.symm
      obtain ⟨m1, m2⟩ := mul_bound t1 (by omega) k1 (by omega)
      obtain ⟨m3, m4⟩ := mul_bound t1 (by omega) hz1 (by omega)
      have ew1 : IntKind.i64.wrap (x9b * x9d) = x9b * x9d := IntWalk.i64_in _ (by omega)
      have ew2 : IntKind.i64.wrap (x9c + x9b * x9d) = x9c + x9b * x9d := IntWalk.i64_in _ (by omega)
      have ew3 : IntKind.i64.wrap (x9b * r11a) = x9b * r11a := IntWalk.i64_in _ (by omega)
      have ew4 : IntKind.i64.wrap (x9e + x9b * r11a) = x9e + x9b * r11a := IntWalk.i64_in _ (by omega)
      have HD1 : Hid (I64 (x9c + x9b * x9d)) := ⟨by omega, by omega⟩
      have HD2 : Hid (I64 (x9e + x9b * r11a)) := ⟨by omega, by omega⟩
      obtain ⟨E, hE⟩ : ∃ E, (x9c + x9b * x9d) % Q9a = E := ⟨_, rfl⟩
      have HE1 : Hid ((x9c + x9b * x9d) % Q9a = E) := hE
      have HE2 : Hid ((x9e + x9b * r11a) % Q9a = E) := HEQ.out.trans hE
      have eq_E : (E == E) = true := by simp
      have zq0 : 0 < Q9a := by omega
      have zq4 : Q9a ≤ 4000000000 := by omega
      clear hE hzr m1 m2 m3 m4
      try (go_wp2_with fail)
      refine wp_region_noPanic ?_
      refine wp_region_P (fun w' => w'.cell? ⟨u9.heap.size, 0, none⟩ = some (.int .i64 P9a) ∧ w'.cell? ⟨u9.heap.size, 1, none⟩ = some (.int .i64 Q9a) ∧ w'.cell? ⟨u9.heap.size, 2, none⟩ = some (.int .i64 G9a)) 24 [(0, []), (1, [0]), (2, [0]), (3, [0]), (4, [1]), (5, [2]), (6, [1, 0, 3]), (7, [3, 0, 4]), (8, [5]), (9, [0, 6]), (10, [2, 0, 7]), (11, [8]), (12, [9]), (13, [10]), (14, [1, 0, 11]), (15, [3, 0, 12]), (16, [13]), (17, [0, 14]), (18, [2, 0, 15]), (19, [8, 0, 16]), (20, [17, 0]), (21, [0])] [] (by kernel_rfl) (by kernel_rfl) (by kernel_rfl) rfl (fun _ _ _ _ h => h) (fun w' h => ⟨box_at c0 h, box_at c1 h, box_at c2 h⟩) ?_
      simp only [pickP, pickN, List.getElem?_cons_zero, List.getElem?_cons_succ]
      iterate 3 (refine' chainP_read _ rfl rfl (fun w' hS' => ?_) ?_; rotate_left; · (simp only [lookP, allP, Act.put, List.getElem?_cons_zero, List.getElem?_cons_succ, List.setIfInBounds_toArray, List.set_cons_zero, List.set_cons_succ]; (try dsimp only at hS'); go_simp; (try with_reducible rfl)))
      -- 3: move t29
      refine' chainP_readG (d := (some 187)) _ rfl (fun w' hS' => ?_) ?_; rotate_left
      · simp only [lookP, allP, Act.put, List.getElem?_cons_zero, List.getElem?_cons_succ, List.setIfInBounds_toArray, List.set_cons_zero, List.set_cons_succ]
        refine ⟨by kernel_rfl, ?_⟩
        (try dsimp only at hS')
        go_simp
        (try with_reducible rfl)
      -- 4: move t28
      refine' chainP_readG (d := (some 188)) _ rfl (fun w' hS' => ?_) ?_; rotate_left
      · simp only [lookP, allP, Act.put, List.getElem?_cons_zero, List.getElem?_cons_succ, List.setIfInBounds_toArray, List.set_cons_zero, List.set_cons_succ]
        refine ⟨by kernel_rfl, ?_⟩
        (try dsimp only at hS')
        go_simp
        (try with_reducible rfl)
      -- 5: move t30
      refine' chainP_readG (d := (some 189)) _ rfl (fun w' hS' => ?_) ?_; rotate_left
      · simp only [lookP, allP, Act.put, List.getElem?_cons_zero, List.getElem?_cons_succ, List.setIfInBounds_toArray, List.set_cons_zero, List.set_cons_succ]
        refine ⟨by kernel_rfl, ?_⟩
        (try dsimp only at hS')
        go_simp
        (try with_reducible rfl)
      -- 6: binOp Binmul 3 t188 t189 3
      refine' chainP_readG (d := (some 190)) _ rfl (fun w' hS' => ?_) ?_; rotate_left
      · simp only [lookP, allP, Act.put, List.getElem?_cons_zero, List.getElem?_cons_succ, List.setIfInBounds_toArray, List.set_cons_zero, List.set_cons_succ]
        refine ⟨by kernel_rfl, ?_⟩
        (try dsimp only at hS')
        go_simp
        (try with_reducible rfl)
      -- 7: binOp Binadd 3 t187 t190 3
      refine' chainP_readG (d := (some 191)) _ rfl (fun w' hS' => ?_) ?_; rotate_left
      · simp only [lookP, allP, Act.put, List.getElem?_cons_zero, List.getElem?_cons_succ, List.setIfInBounds_toArray, List.set_cons_zero, List.set_cons_succ]
        refine ⟨by kernel_rfl, ?_⟩
        (try dsimp only at hS')
        go_simp
        (try with_reducible rfl)
      -- 8: fieldAddr 39 t27 1
      refine' chainP_readG (d := (some 192)) _ rfl (fun w' hS' => ?_) ?_; rotate_left
      · simp only [lookP, allP, Act.put, List.getElem?_cons_zero, List.getElem?_cons_succ, List.setIfInBounds_toArray, List.set_cons_zero, List.set_cons_succ]
        refine ⟨by kernel_rfl, ?_⟩
        (try dsimp only at hS')
        go_simp
        (try with_reducible rfl)
      -- 9: load 3 t192
      refine' chainP_readG (d := (some 193)) _ rfl (fun w' hS' => ?_) ?_; rotate_left
      · simp only [lookP, allP, Act.put, List.getElem?_cons_zero, List.getElem?_cons_succ, List.setIfInBounds_toArray, List.set_cons_zero, List.set_cons_succ]
        refine ⟨by kernel_rfl, ?_⟩
        (try dsimp only at hS')
        go_simp
        (try with_reducible rfl)
      -- 10: call { callee := value (func 59), args := #[t191, t193], argTypes := #[3, 3] }
      refine chainP_callG (d := (some 194)) (.int .i64 E) rfl (fun w' hS' => ?_) ?_
      · simp only [lookP, allP, Act.put, List.getElem?_cons_zero, List.getElem?_cons_succ, List.setIfInBounds_toArray, List.set_cons_zero, List.set_cons_succ]
        refine ⟨by kernel_rfl, ?_⟩
        intro K hK
        go_simp
        go_at_call 59
        refine (laws_pMod (x9c + x9b * x9d) Q9a _ HD1.out zq0 zq4).mono ?_
        rintro e u ⟨rfl, rfl⟩
        rw [HE1.out]
        exact hK.out _ (Below.refl _ _)
      -- 11: move t31
      refine' chainP_readG (d := (some 195)) _ rfl (fun w' hS' => ?_) ?_; rotate_left
      · simp only [lookP, allP, Act.put, List.getElem?_cons_zero, List.getElem?_cons_succ, List.setIfInBounds_toArray, List.set_cons_zero, List.set_cons_succ]
        refine ⟨by kernel_rfl, ?_⟩
        (try dsimp only at hS')
        go_simp
        (try with_reducible rfl)
      -- 12: move t28
      refine' chainP_readG (d := (some 196)) _ rfl (fun w' hS' => ?_) ?_; rotate_left
      · simp only [lookP, allP, Act.put, List.getElem?_cons_zero, List.getElem?_cons_succ, List.setIfInBounds_toArray, List.set_cons_zero, List.set_cons_succ]
        refine ⟨by kernel_rfl, ?_⟩
        (try dsimp only at hS')
        go_simp
        (try with_reducible rfl)
      -- 13: move t32
      refine' chainP_readG (d := (some 197)) _ rfl (fun w' hS' => ?_) ?_; rotate_left
      · simp only [lookP, allP, Act.put, List.getElem?_cons_zero, List.getElem?_cons_succ, List.setIfInBounds_toArray, List.set_cons_zero, List.set_cons_succ]
        refine ⟨by kernel_rfl, ?_⟩
        (try dsimp only at hS')
        go_simp
        (try with_reducible rfl)
      -- 14: binOp Binmul 3 t196 t197 3
      refine' chainP_readG (d := (some 198)) _ rfl (fun w' hS' => ?_) ?_; rotate_left
      · simp only [lookP, allP, Act.put, List.getElem?_cons_zero, List.getElem?_cons_succ, List.setIfInBounds_toArray, List.set_cons_zero, List.set_cons_succ]
        refine ⟨by kernel_rfl, ?_⟩
        (try dsimp only at hS')
        go_simp
        (try with_reducible rfl)
      -- 15: binOp Binadd 3 t195 t198 3
      refine' chainP_readG (d := (some 199)) _ rfl (fun w' hS' => ?_) ?_; rotate_left
      · simp only [lookP, allP, Act.put, List.getElem?_cons_zero, List.getElem?_cons_succ, List.setIfInBounds_toArray, List.set_cons_zero, List.set_cons_succ]
        refine ⟨by kernel_rfl, ?_⟩
        (try dsimp only at hS')
        go_simp
        (try with_reducible rfl)
      -- 16: fieldAddr 39 t27 1
      refine' chainP_readG (d := (some 200)) _ rfl (fun w' hS' => ?_) ?_; rotate_left
      · simp only [lookP, allP, Act.put, List.getElem?_cons_zero, List.getElem?_cons_succ, List.setIfInBounds_toArray, List.set_cons_zero, List.set_cons_succ]
        refine ⟨by kernel_rfl, ?_⟩
        (try dsimp only at hS')
        go_simp
        (try with_reducible rfl)
      -- 17: load 3 t200
      refine' chainP_readG (d := (some 201)) _ rfl (fun w' hS' => ?_) ?_; rotate_left
      · simp only [lookP, allP, Act.put, List.getElem?_cons_zero, List.getElem?_cons_succ, List.setIfInBounds_toArray, List.set_cons_zero, List.set_cons_succ]
        refine ⟨by kernel_rfl, ?_⟩
        (try dsimp only at hS')
        go_simp
        (try with_reducible rfl)
      -- 18: call { callee := value (func 59), args := #[t199, t201], argTypes := #[3, 3] }
      refine chainP_callG (d := (some 202)) (.int .i64 E) rfl (fun w' hS' => ?_) ?_
      · simp only [lookP, allP, Act.put, List.getElem?_cons_zero, List.getElem?_cons_succ, List.setIfInBounds_toArray, List.set_cons_zero, List.set_cons_succ]
        refine ⟨by kernel_rfl, ?_⟩
        intro K hK
        go_simp
        go_at_call 59
        refine (laws_pMod (x9e + x9b * r11a) Q9a _ HD2.out zq0 zq4).mono ?_
        rintro e u ⟨rfl, rfl⟩
        rw [HE2.out]
        exact hK.out _ (Below.refl _ _)
      -- 19: binOp Bineql 3 t194 t202 3
      refine' chainP_readG (d := (some 203)) _ rfl (fun w' hS' => ?_) ?_; rotate_left
      · simp only [lookP, allP, Act.put, List.getElem?_cons_zero, List.getElem?_cons_succ, List.setIfInBounds_toArray, List.set_cons_zero, List.set_cons_succ]
        refine ⟨by kernel_rfl, ?_⟩
        (try dsimp only at hS')
        go_simp
        (try with_reducible rfl)
      iterate 2 (refine' chainP_read _ rfl rfl (fun w' hS' => ?_) ?_; rotate_left; · (simp only [lookP, allP, Act.put, List.getElem?_cons_zero, List.getElem?_cons_succ, List.setIfInBounds_toArray, List.set_cons_zero, List.set_cons_succ]; (try dsimp only at hS'); go_simp; (try with_reducible rfl)))
      refine chainP_nil (fun ux hS' => ?_)
      simp only [allP, Act.put, List.setIfInBounds_toArray, List.set_cons_zero, List.set_cons_succ]
      have hq1 := hS'.1
      clear hS'
      replace hc := Below.next hc hq1
      replace c0 := box_at c0 hq1
      replace c1 := box_at c1 hq1
      replace c2 := box_at c2 hq1
      clear hq1
      go_wp2_with fail
      refine NoPanic.normal ?_
      go_wp2_with fail
      go_ret
      exact ⟨rfl, HB.out.trans (hc.mono HB.out.size)⟩
end Go.Proofs.Ytboahnklilmdpaa
