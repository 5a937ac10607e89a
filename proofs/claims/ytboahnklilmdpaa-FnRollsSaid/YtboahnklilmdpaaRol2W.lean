/- Tags, groups of equal messages: walks (printed by gen_rol2.py). -/
import Derived.Test.YtboahnklilmdpaaRol1W
import Derived.Deep.Cut
namespace Go.Proofs.Ytboahnklilmdpaa
open Go.RowKit
set_option linter.unusedSimpArgs false
set_option linter.unusedVariables false

theorem tgL_succ {gr : GroupD} {s z : Int} {l : List CipherD} {k : Nat} (h : k < l.length) : (tgL gr s z l).take (k + 1) = (tgL gr s z l).take k ++ [powE gr (deC gr s l[k]) z] := by
  unfold tgL
  rw [List.take_succ_eq_append_getElem (by rw [List.length_map]; exact h), List.getElem_map]
theorem tgL_length (gr : GroupD) (s z : Int) (l : List CipherD) : (tgL gr s z l).length = l.length := by unfold tgL; rw [List.length_map]
theorem egM_succ {gr : GroupD} {s : Int} {l : List CipherD} {k : Nat} (h : k < l.length) : (egM gr s l).take (k + 1) = (egM gr s l).take k ++ [deC gr s l[k]] := by
  unfold egM
  rw [List.take_succ_eq_append_getElem (by rw [List.length_map]; exact h), List.getElem_map]
theorem egM_length (gr : GroupD) (s : Int) (l : List CipherD) : (egM gr s l).length = l.length := by unfold egM; rw [List.length_map]
theorem egL_length (gr : GroupD) (s : Int) (l : List CipherD) : (egL gr s l).length = l.length := by unfold egL; rw [List.length_map, egM_length]
theorem egL_succ {gr : GroupD} {s : Int} {l : List CipherD} {k : Nat} (h : k < l.length) : (egL gr s l).take (k + 1) = (egL gr s l).take k ++ [(((egM gr s l).take (k + 1)).idxOf (deC gr s l[k]) : Int)] := by
  have hk : k < (egM gr s l).length := by rw [egM_length]; exact h
  have e : (egM gr s l)[k] = deC gr s l[k] := by simp [egM]
  rw [← e, idx_take hk]
  unfold egL
  rw [List.take_succ_eq_append_getElem (by rw [List.length_map]; exact hk), List.getElem_map]
noncomputable def tkB (gr : GroupD) (s z : Int) : Bool := goodG gr && ((expB gr s && expB gr z) && (z != 0))
noncomputable def tgB (gr : GroupD) (s z : Int) (l : List CipherD) : Bool := tkB gr s z && cisB gr l
noncomputable def tgR (gr : GroupD) (s z : Int) (l : List CipherD) : List Int := if tgB gr s z l = true then tgL gr s z l else []
noncomputable def egB (gr : GroupD) (s : Int) (l : List CipherD) : Bool := goodG gr && (expB gr s && cisB gr l)
noncomputable def egR (gr : GroupD) (s : Int) (l : List CipherD) : List Int := if egB gr s l = true then egL gr s l else []
theorem tkB_parts {gr : GroupD} {s z : Int} (h : tkB gr s z = true) : goodG gr = true ∧ expB gr s = true ∧ expB gr z = true ∧ z ≠ 0 := by
  unfold tkB at h
  simp only [Bool.and_eq_true, bne_iff_ne] at h
  exact ⟨h.1, h.2.1.1, h.2.1.2, h.2.2⟩
theorem tgB_eg {gr : GroupD} {s z : Int} {l : List CipherD} (h : tgB gr s z l = true) : egB gr s l = true := by
  unfold tgB at h
  rw [Bool.and_eq_true] at h
  obtain ⟨h1, h2, _, _⟩ := tkB_parts h.1
  unfold egB
  rw [h1, h2, h.2]; rfl
theorem idx_not {l : List Int} {x : Int} {k : Nat} (hk : k < l.length) (q : k < l.idxOf x) (h : nth l k = x) : False := by
  induction l generalizing k with
  | nil => simp at hk
  | cons a l ih =>
    by_cases e : a = x
    · subst e; rw [List.idxOf_cons_self] at q; omega
    · have e2 : (a == x) = false := beq_eq_false_iff_ne.2 e
      have q' : k < l.idxOf x + 1 := by rw [List.idxOf_cons, e2] at q; exact q
      cases k with
      | zero => exact e h
      | succ k => exact ih (k := k) (by simpa using hk) (by omega) h
/-- the place of the first element that equals x, or its length -/
theorem idx_here {l : List Int} {x : Int} {k : Nat} (hk : k < l.length) (hb : ∀ i, i < k → nth l i ≠ x) (h : nth l k = x) : l.idxOf x = k := by
  have hm : x ∈ l := by rw [← h, show nth l k = l[k] by simp [nth, hk]]; exact List.getElem_mem _
  have h1 := List.idxOf_lt_length_of_mem hm
  have h2 : nth l (l.idxOf x) = x := by rw [show nth l (l.idxOf x) = l[l.idxOf x] by simp [nth, h1]]; exact List.getElem_idxOf h1
  have h3 : ¬ l.idxOf x < k := fun q => hb _ q h2
  have h4 : ¬ k < l.idxOf x := fun q => idx_not (by omega) q h
  omega
set_option maxRecDepth 100000 in
set_option maxHeartbeats 2000000 in
theorem impl_isTagging (gr : GroupD) (s z : Int) (w : World) (hs : I64 s) (hz : I64 z) :
    Calls Try.prog 186 #[.agg #[.int .i64 gr.p, .int .i64 gr.q, .int .i64 gr.g], .int .i64 s, .int .i64 z] w fun e w' => e = .returned (.bool (tkB gr s z)) ∧ Below w.heap.size w w' := by
  obtain ⟨W, hW⟩ : ∃ W, W = w.alloc (.cells #[.int .i64 gr.p, .int .i64 gr.q, .int .i64 gr.g] 39) := ⟨_, rfl⟩
  have HB : Hid (Below w.heap.size w W) := by unfold Hid; rw [hW]; (repeat (first | exact Below.refl _ _ | assumption | refine Below.drew ?_ | refine Below.alloc ?_ (by first | (simp; done) | (simp; omega)) _ | refine Below.setCell ?_ (by first | (simp; done) | (simp; omega)) _))
  have c0_0 : W.cell? ⟨w.heap.size, 0, none⟩ = some (.int .i64 gr.p) := by rw [hW]; simp [go_sem]
  have c0_1 : W.cell? ⟨w.heap.size, 1, none⟩ = some (.int .i64 gr.q) := by rw [hW]; simp [go_sem]
  have c0_2 : W.cell? ⟨w.heap.size, 2, none⟩ = some (.int .i64 gr.g) := by rw [hW]; simp [go_sem]
  have HSW : Hid (W.heap.size = w.heap.size + 1) := by unfold Hid; rw [hW]; simp
  go_enter Try.func186, Try.ntmps186
  go_wp2_with fail
  rw [← hW]
  have hse : w.heap.size + 1 = W.heap.size := by have := HSW.out; omega
  (try rw [hse])
  clear hse
  clear hW
  have hc : Below W.heap.size W W := Below.refl _ _
  have HCC : Hid (∀ u, Below W.heap.size W u → u.cell? ⟨w.heap.size, 0, none⟩ = some (.int .i64 gr.p) ∧ u.cell? ⟨w.heap.size, 1, none⟩ = some (.int .i64 gr.q) ∧ u.cell? ⟨w.heap.size, 2, none⟩ = some (.int .i64 gr.g)) := fun u h => ⟨box_at c0_0 h, box_at c0_1 h, box_at c0_2 h⟩
  go_wp2_with fail
  refine (impl_IsValidGroup gr _).mono ?_
  rintro e u1 ⟨rfl, hq1⟩
  replace hc := Below.next hc hq1
  clear hq1 c0_0 c0_1 c0_2
  obtain ⟨c0_0, c0_1, c0_2⟩ := HCC.out _ hc
  cases hc1 : goodG gr with
  | false =>
    have Hhc1 := Lib.hid hc1
    clear hc1
    go_wp2_with fail
    have HV : Hid ((.bool (tkB gr s z) : Value) = .bool false) := by unfold Hid; simp [tkB, Hhc1.out]
    go_ret
    exact ⟨congrArg Ending.returned HV.out.symm, HB.out.trans (hc.mono HB.out.size)⟩
  | true =>
    have HG := Lib.hid (goodG_ok hc1)
    have Hhc1 := Lib.hid hc1
    clear hc1
    go_wp2_with fail
    refine (impl_areExps gr _ [s, z] _ HG.out (OwnI.lit (B := 0) _ (Nat.zero_le _) (l := [s, z]) (AllI64.cons hs (AllI64.cons hz AllI64.nil)) rfl (by simp [maxLen]) 2 rfl).ints).mono ?_
    rintro e u2 ⟨rfl, hq2⟩
    replace hq2 := Below.next (keep_al (Below.refl _ _) _) hq2
    replace hc := Below.next hc hq2
    clear hq2 c0_0 c0_1 c0_2
    obtain ⟨c0_0, c0_1, c0_2⟩ := HCC.out _ hc
    cases hc2 : [s, z].all (expB gr) with
    | false =>
      have Hhc2 := Lib.hid hc2
      clear hc2
      go_wp2_with fail
      have HV : Hid ((.bool (tkB gr s z) : Value) = .bool false) := by unfold Hid; have qhc2 := Hhc2.out; simp only [List.all_cons, List.all_nil, Bool.and_true] at qhc2; simp [tkB, Hhc1.out, qhc2]
      go_ret
      exact ⟨congrArg Ending.returned HV.out.symm, HB.out.trans (hc.mono HB.out.size)⟩
    | true =>
      have Hhc2 := Lib.hid hc2
      clear hc2
      cases hc3 : (z != 0) with
      | false =>
        go_wp2_with fail
        have HV : Hid ((.bool (tkB gr s z) : Value) = .bool false) := by unfold Hid; have qhc2 := Hhc2.out; simp only [List.all_cons, List.all_nil, Bool.and_true] at qhc2; simp [tkB, Hhc1.out, qhc2, hc3]
        go_ret
        exact ⟨congrArg Ending.returned HV.out.symm, HB.out.trans (hc.mono HB.out.size)⟩
      | true =>
        go_wp2_with fail
        have HV : Hid ((.bool (tkB gr s z) : Value) = .bool true) := by unfold Hid; have qhc2 := Hhc2.out; simp only [List.all_cons, List.all_nil, Bool.and_true] at qhc2; simp [tkB, Hhc1.out, qhc2, hc3]
        go_ret
        exact ⟨congrArg Ending.returned HV.out.symm, HB.out.trans (hc.mono HB.out.size)⟩
set_option maxRecDepth 100000 in
set_option maxHeartbeats 2000000 in
theorem spec_dSecrets (gr : GroupD) (s z : Int) (w : World) (hs : I64 s) (hz : I64 z) :
    Calls Try.prog 188 #[.agg #[.int .i64 gr.p, .int .i64 gr.q, .int .i64 gr.g], .int .i64 s, .int .i64 z] w fun e w' => e = .returned (.bool (tkB gr s z)) ∧ Below w.heap.size w w' := by
  obtain ⟨W, hW⟩ : ∃ W, W = w.alloc (.cells #[.int .i64 gr.p, .int .i64 gr.q, .int .i64 gr.g] 39) := ⟨_, rfl⟩
  have HB : Hid (Below w.heap.size w W) := by unfold Hid; rw [hW]; (repeat (first | exact Below.refl _ _ | assumption | refine Below.drew ?_ | refine Below.alloc ?_ (by first | (simp; done) | (simp; omega)) _ | refine Below.setCell ?_ (by first | (simp; done) | (simp; omega)) _))
  have c0_0 : W.cell? ⟨w.heap.size, 0, none⟩ = some (.int .i64 gr.p) := by rw [hW]; simp [go_sem]
  have c0_1 : W.cell? ⟨w.heap.size, 1, none⟩ = some (.int .i64 gr.q) := by rw [hW]; simp [go_sem]
  have c0_2 : W.cell? ⟨w.heap.size, 2, none⟩ = some (.int .i64 gr.g) := by rw [hW]; simp [go_sem]
  have HSW : Hid (W.heap.size = w.heap.size + 1) := by unfold Hid; rw [hW]; simp
  go_enter Try.func188, Try.ntmps188
  go_wp2_with fail
  rw [← hW]
  have hse : w.heap.size + 1 = W.heap.size := by have := HSW.out; omega
  (try rw [hse])
  clear hse
  clear hW
  have hc : Below W.heap.size W W := Below.refl _ _
  have HCC : Hid (∀ u, Below W.heap.size W u → u.cell? ⟨w.heap.size, 0, none⟩ = some (.int .i64 gr.p) ∧ u.cell? ⟨w.heap.size, 1, none⟩ = some (.int .i64 gr.q) ∧ u.cell? ⟨w.heap.size, 2, none⟩ = some (.int .i64 gr.g)) := fun u h => ⟨box_at c0_0 h, box_at c0_1 h, box_at c0_2 h⟩
  go_wp2_with fail
  refine (spec_l2Good gr _).mono ?_
  rintro e u1 ⟨rfl, hq1⟩
  replace hc := Below.next hc hq1
  clear hq1 c0_0 c0_1 c0_2
  obtain ⟨c0_0, c0_1, c0_2⟩ := HCC.out _ hc
  cases hc1 : goodG gr with
  | false =>
    have Hhc1 := Lib.hid hc1
    clear hc1
    go_wp2_with fail
    have HV : Hid ((.bool (tkB gr s z) : Value) = .bool false) := by unfold Hid; simp [tkB, Hhc1.out]
    go_ret
    exact ⟨congrArg Ending.returned HV.out.symm, HB.out.trans (hc.mono HB.out.size)⟩
  | true =>
    have HG := Lib.hid (goodG_ok hc1)
    have Hhc1 := Lib.hid hc1
    clear hc1
    go_wp2_with fail
    refine (spec_gExps gr _ [s, z] _ HG.out (OwnI.lit (B := 0) _ (Nat.zero_le _) (l := [s, z]) (AllI64.cons hs (AllI64.cons hz AllI64.nil)) rfl (by simp [maxLen]) 2 rfl).ints).mono ?_
    rintro e u2 ⟨rfl, hq2⟩
    replace hq2 := Below.next (keep_al (Below.refl _ _) _) hq2
    replace hc := Below.next hc hq2
    clear hq2 c0_0 c0_1 c0_2
    obtain ⟨c0_0, c0_1, c0_2⟩ := HCC.out _ hc
    cases hc2 : [s, z].all (expB gr) with
    | false =>
      have Hhc2 := Lib.hid hc2
      clear hc2
      go_wp2_with fail
      have HV : Hid ((.bool (tkB gr s z) : Value) = .bool false) := by unfold Hid; have qhc2 := Hhc2.out; simp only [List.all_cons, List.all_nil, Bool.and_true] at qhc2; simp [tkB, Hhc1.out, qhc2]
      go_ret
      exact ⟨congrArg Ending.returned HV.out.symm, HB.out.trans (hc.mono HB.out.size)⟩
    | true =>
      have Hhc2 := Lib.hid hc2
      clear hc2
      cases hc3 : (z != 0) with
      | false =>
        go_wp2_with fail
        have HV : Hid ((.bool (tkB gr s z) : Value) = .bool false) := by unfold Hid; have qhc2 := Hhc2.out; simp only [List.all_cons, List.all_nil, Bool.and_true] at qhc2; simp [tkB, Hhc1.out, qhc2, hc3]
        go_ret
        exact ⟨congrArg Ending.returned HV.out.symm, HB.out.trans (hc.mono HB.out.size)⟩
      | true =>
        go_wp2_with fail
        have HV : Hid ((.bool (tkB gr s z) : Value) = .bool true) := by unfold Hid; have qhc2 := Hhc2.out; simp only [List.all_cons, List.all_nil, Bool.and_true] at qhc2; simp [tkB, Hhc1.out, qhc2, hc3]
        go_ret
        exact ⟨congrArg Ending.returned HV.out.symm, HB.out.trans (hc.mono HB.out.size)⟩
set_option maxRecDepth 100000 in
set_option maxHeartbeats 2000000 in
theorem spec_dTag (gr : GroupD) (s z : Int) (c : CipherD) (w : World) (hg : OkG gr) (hs : I64 s) (hz : I64 z) (hc0 : SmallC c) :
    Calls Try.prog 189 #[.agg #[.int .i64 gr.p, .int .i64 gr.q, .int .i64 gr.g], .int .i64 s, .int .i64 z, .agg #[.int .i64 c.a, .int .i64 c.b]] w fun e w' => e = .returned (.int .i64 (powE gr (deC gr s c) z)) ∧ Below w.heap.size w w' := by
  have HG := Lib.hid hg
  clear hg
  obtain ⟨W, hW⟩ : ∃ W, W = (w.alloc (.cells #[.int .i64 gr.p, .int .i64 gr.q, .int .i64 gr.g] 39)).alloc (.cells #[.int .i64 c.a, .int .i64 c.b] 58) := ⟨_, rfl⟩
  have HB : Hid (Below w.heap.size w W) := by unfold Hid; rw [hW]; (repeat (first | exact Below.refl _ _ | assumption | refine Below.drew ?_ | refine Below.alloc ?_ (by first | (simp; done) | (simp; omega)) _ | refine Below.setCell ?_ (by first | (simp; done) | (simp; omega)) _))
  have c0_0 : W.cell? ⟨w.heap.size, 0, none⟩ = some (.int .i64 gr.p) := by rw [hW]; simp [go_sem]
  have c0_1 : W.cell? ⟨w.heap.size, 1, none⟩ = some (.int .i64 gr.q) := by rw [hW]; simp [go_sem]
  have c0_2 : W.cell? ⟨w.heap.size, 2, none⟩ = some (.int .i64 gr.g) := by rw [hW]; simp [go_sem]
  have c1_0 : W.cell? ⟨w.heap.size + 1, 0, none⟩ = some (.int .i64 c.a) := by rw [hW]; simp [go_sem]
  have c1_1 : W.cell? ⟨w.heap.size + 1, 1, none⟩ = some (.int .i64 c.b) := by rw [hW]; simp [go_sem]
  have HSW : Hid (W.heap.size = w.heap.size + 2) := by unfold Hid; rw [hW]; simp
  go_enter Try.func189, Try.ntmps189
  go_wp2_with fail
  rw [← hW]
  have hse : w.heap.size + 1 + 1 = W.heap.size := by have := HSW.out; omega
  (try rw [hse])
  clear hse
  clear hW
  have hc : Below W.heap.size W W := Below.refl _ _
  have HCC : Hid (∀ u, Below W.heap.size W u → u.cell? ⟨w.heap.size, 0, none⟩ = some (.int .i64 gr.p) ∧ u.cell? ⟨w.heap.size, 1, none⟩ = some (.int .i64 gr.q) ∧ u.cell? ⟨w.heap.size, 2, none⟩ = some (.int .i64 gr.g) ∧ u.cell? ⟨w.heap.size + 1, 0, none⟩ = some (.int .i64 c.a) ∧ u.cell? ⟨w.heap.size + 1, 1, none⟩ = some (.int .i64 c.b)) := fun u h => ⟨box_at c0_0 h, box_at c0_1 h, box_at c0_2 h, box_at c1_0 h, box_at c1_1 h⟩
  try (go_wp2_with fail)
  refine wp_region_noPanic ?_
  refine wp_region_P (fun w' => w'.cell? ⟨w.heap.size, 0, none⟩ = some (.int .i64 gr.p) ∧ w'.cell? ⟨w.heap.size, 1, none⟩ = some (.int .i64 gr.q) ∧ w'.cell? ⟨w.heap.size, 2, none⟩ = some (.int .i64 gr.g) ∧ w'.cell? ⟨w.heap.size + 1, 0, none⟩ = some (.int .i64 c.a) ∧ w'.cell? ⟨w.heap.size + 1, 1, none⟩ = some (.int .i64 c.b)) 10 [(0, []), (1, []), (2, []), (3, []), (4, [2, 1, 0]), (5, []), (6, [5, 1, 0]), (7, [0])] [] (by kernel_rfl) (by kernel_rfl) (by kernel_rfl) rfl (fun _ _ _ _ h => h) (fun w' h => ⟨box_at c0_0 h, box_at c0_1 h, box_at c0_2 h, box_at c1_0 h, box_at c1_1 h⟩) ?_
  simp only [pickP, pickN, List.getElem?_cons_zero, List.getElem?_cons_succ]
  iterate 4 (refine' chainP_read _ rfl rfl (fun w' hS' => ?_) ?_; rotate_left; · (simp only [lookP, allP, Act.put, List.getElem?_cons_zero, List.getElem?_cons_succ, List.setIfInBounds_toArray, List.set_cons_zero, List.set_cons_succ]; (try dsimp only at hS'); go_simp; (try with_reducible rfl)))
  -- 4: call { callee := value (func 268), args := #[t10, t11, t12], argTypes := #[39, 3, 58] }
  refine chainP_call (d := (some 13)) (.int .i64 (deC gr s c)) rfl rfl (fun w' hS' => ?_) ?_
  · simp only [lookP, allP, Act.put, List.getElem?_cons_zero, List.getElem?_cons_succ, List.setIfInBounds_toArray, List.set_cons_zero, List.set_cons_succ]
    intro K hK
    go_simp
    go_at_call 268
    refine (spec_eDec gr s c _ HG.out hs hc0).mono ?_
    rintro e u ⟨rfl, hq⟩
    exact hK.out _ hq
  -- 5: move t2
  refine' chainP_read (d := (some 14)) _ rfl rfl (fun w' hS' => ?_) ?_; rotate_left
  · simp only [lookP, allP, Act.put, List.getElem?_cons_zero, List.getElem?_cons_succ, List.setIfInBounds_toArray, List.set_cons_zero, List.set_cons_succ]
    (try dsimp only at hS')
    go_simp
    (try with_reducible rfl)
  -- 6: call { callee := value (func 156), args := #[t9, t13, t14], argTypes := #[39, 3, 3] }
  refine chainP_call (d := (some 15)) (.int .i64 (powE gr (deC gr s c) z)) rfl rfl (fun w' hS' => ?_) ?_
  · simp only [lookP, allP, Act.put, List.getElem?_cons_zero, List.getElem?_cons_succ, List.setIfInBounds_toArray, List.set_cons_zero, List.set_cons_succ]
    intro K hK
    go_simp
    go_at_call 156
    refine (spec_gExp gr (deC gr s c) z _ HG.out (deC_small HG.out _ _) hz).mono ?_
    rintro e u ⟨rfl, hq⟩
    exact hK.out _ hq
  -- 7: assign t15
  refine' chainP_read (d := (some 8)) _ rfl rfl (fun w' hS' => ?_) ?_; rotate_left
  · simp only [lookP, allP, Act.put, List.getElem?_cons_zero, List.getElem?_cons_succ, List.setIfInBounds_toArray, List.set_cons_zero, List.set_cons_succ]
    (try dsimp only at hS')
    go_simp
    (try with_reducible rfl)
  refine chainP_nil (fun u1 hS' => ?_)
  simp only [allP, Act.put, List.setIfInBounds_toArray, List.set_cons_zero, List.set_cons_succ]
  have hq1 := hS'.1
  clear hS'
  replace hc := Below.next hc hq1
  clear hq1 c0_0 c0_1 c0_2 c1_0 c1_1
  obtain ⟨c0_0, c0_1, c0_2, c1_0, c1_1⟩ := HCC.out _ hc
  go_wp2_with fail
  refine NoPanic.normal ?_
  go_wp2_with fail
  go_ret
  exact ⟨rfl, HB.out.trans (hc.mono HB.out.size)⟩
set_option maxRecDepth 100000 in
set_option maxHeartbeats 2000000 in
theorem slices_IndexI (v : Value) (l : List Int) (x : Int) (w : World) (h : Ints w v l) (hx : x ∈ l) :
    Calls Try.prog 190 #[v, .int .i64 x] w fun e w' => e = .returned (.int .i64 (l.idxOf x : Int)) ∧ w = w' := by
  obtain ⟨a, n, c, rfl⟩ := h.shape
  have HE := Lib.hid h.len
  have HH := Lib.hid h
  have HX := Lib.hid hx
  obtain ⟨k1, k2⟩ := h.capMax
  unfold maxLen at k2
  clear h hx
  go_enter Try.func190, Try.ntmps190
  go_wp2_with fail
  go_loopg [8] n (fun gk iv wr => ∃ k : Nat, k + gk = n ∧ iv = .int .i64 k ∧ (∀ i, i < k → nth l i ≠ x) ∧ w = wr)
  case atStart => exact ⟨0, by omega, rfl, fun i h => absurd h (by omega), rfl⟩
  case round =>
    obtain ⟨k, hkg, rfl, hb, rfl⟩ := hrel
    have HB := Lib.hid hb
    clear hb
    by_cases hlt : k < n
    · obtain ⟨b, o, rfl, hc⟩ := HH.out.at_ (by omega)
      have y0 := hc k hlt
      clear hc
      have b0 : (0 : Int) ≤ (k : Int) := by omega
      have bk1 : (k : Int) < (n : Int) := by omega
      have hwk : IntKind.i64.wrap ((k : Int) + 1) = (k : Int) + 1 := IntWalk.i64_in _ (by omega)
      by_cases he : nth l k = x
      · have HI := Lib.hid (idx_here (by have := HE.out; omega) HB.out he)
        rw [he] at y0
        clear he
        go_wp2_with fail
        rw [HI.out]
        go_ret
        exact ⟨rfl, rfl⟩
      · have HN := Lib.hid he
        have hq : (x == nth l k) = false := beq_eq_false_iff_ne.2 (fun q => he q.symm)
        have hq2 : ¬ x = nth l k := fun q => he q.symm
        clear he
        have HNk : Hid (nth l k ≠ x) := HN.out
        clear HN
        generalize nth l k = y at y0 hq hq2
        go_wp2_with fail
        go_roundg (n - (k + 1))
        case measure => omega
        case rel =>
          refine ⟨k + 1, by omega, by go_num, fun i hi => ?_, rfl⟩
          by_cases e : i = k
          · subst e; exact HNk.out
          · exact HB.out i (by omega)
    · exfalso
      obtain rfl : n = k := by omega
      have hm := HX.out
      obtain ⟨i, hi, e⟩ := List.getElem_of_mem hm
      exact HB.out i (by have := HE.out; omega) (by rw [show nth l i = l[i] by simp [nth, hi]]; exact e)
set_option maxRecDepth 100000 in
set_option maxHeartbeats 2000000 in
theorem impl_tags (gr : GroupD) (s z : Int) (v : Value) (l : List CipherD) (w : World) (hg : OkG gr) (hs : I64 s) (hz : I64 z) (h : RdR rCipher w v l) (hl : cisB gr l = true) :
    Calls Try.prog 187 #[.agg #[.int .i64 gr.p, .int .i64 gr.q, .int .i64 gr.g], .int .i64 s, .int .i64 z, v] w fun e w' => ∃ v', e = .returned v' ∧ Ints w' v' (tgL gr s z l) ∧ Below w.heap.size w w' := by
  have HG := Lib.hid hg
  have HIS := Lib.hid hs
  have HIZ := Lib.hid hz
  have Hl := Lib.hid hl
  clear hg hs hz hl
  obtain ⟨va, vn, vc, rfl⟩ := h.shape
  have Ev := Lib.hid h.len
  have Kv := Lib.hid h.capMax
  have Hv := Lib.hid h
  clear h
  obtain ⟨W, hW⟩ : ∃ W, W = w.alloc (.cells #[.int .i64 gr.p, .int .i64 gr.q, .int .i64 gr.g] 39) := ⟨_, rfl⟩
  have HB : Hid (Below w.heap.size w W) := by unfold Hid; rw [hW]; (repeat (first | exact Below.refl _ _ | assumption | refine Below.drew ?_ | refine Below.alloc ?_ (by first | (simp; done) | (simp; omega)) _ | refine Below.setCell ?_ (by first | (simp; done) | (simp; omega)) _))
  have c0_0 : W.cell? ⟨w.heap.size, 0, none⟩ = some (.int .i64 gr.p) := by rw [hW]; simp [go_sem]
  have c0_1 : W.cell? ⟨w.heap.size, 1, none⟩ = some (.int .i64 gr.q) := by rw [hW]; simp [go_sem]
  have c0_2 : W.cell? ⟨w.heap.size, 2, none⟩ = some (.int .i64 gr.g) := by rw [hW]; simp [go_sem]
  have HSW : Hid (W.heap.size = w.heap.size + 1) := by unfold Hid; rw [hW]; simp
  go_enter Try.func187, Try.ntmps187
  go_wp2_with fail
  rw [← hW]
  have hse : w.heap.size + 1 = W.heap.size := by have := HSW.out; omega
  (try rw [hse])
  clear hse
  clear hW
  have hc : Below W.heap.size W W := Below.refl _ _
  have HCC : Hid (∀ u, Below W.heap.size W u → u.cell? ⟨w.heap.size, 0, none⟩ = some (.int .i64 gr.p) ∧ u.cell? ⟨w.heap.size, 1, none⟩ = some (.int .i64 gr.q) ∧ u.cell? ⟨w.heap.size, 2, none⟩ = some (.int .i64 gr.g)) := fun u h => ⟨box_at c0_0 h, box_at c0_1 h, box_at c0_2 h⟩
  go_wp2_with fail
  have HC := Lib.hid hc
  have C0 := Lib.hid c0_0
  have C1 := Lib.hid c0_1
  have C2 := Lib.hid c0_2
  clear hc c0_0 c0_1 c0_2
  have HU := Lib.hid (OwnI.lit W (Nat.le_refl _) (l := []) AllI64.nil rfl (by simp [maxLen]) 0 rfl : OwnI _ W.heap.size (.slice (some ⟨W.heap.size, 0, none⟩) 0 0) ((tgL gr s z l).take 0))
  have HUB := Lib.hid ((Below.refl W.heap.size W).alloc (Nat.le_refl _) (.cells #[] 3) : Below W.heap.size W _)
  go_loopg [9, 15] vn (fun gh ov iv wr => ∃ k : Nat, k + gh = vn ∧ iv = .int .i64 k ∧ OwnI wr W.heap.size ov ((tgL gr s z l).take k) ∧ Below W.heap.size W wr)
  case atStart => exact ⟨0, by omega, rfl, HU.out, HUB.out⟩
  case round =>
    obtain ⟨k, hkg, rfl, hown, hbu⟩ := hrel
    clear HU HUB
    obtain ⟨oa, oc, hsh⟩ := hown.shape
    obtain ⟨on, hon⟩ : ∃ n, n = ((tgL gr s z l).take k).length := ⟨_, rfl⟩
    rw [← hon] at hsh
    subst hsh
    have HON := Lib.hid hon
    clear hon
    have HOW := Lib.hid hown
    clear hown
    have HBU := Lib.hid hbu
    clear hbu
    have HBW := Lib.hid (HB.out.trans ((Below.next HC.out HBU.out).mono HB.out.size))
    by_cases hlt : k < vn
    · have HK : Hid (k < l.length) := by unfold Hid; have := Ev.out; omega
      have HS := Lib.hid (tgL_succ (gr := gr) (s := s) (z := z) HK.out)
      have HLEN : Hid (((tgL gr s z l).take k).length ≤ 100000000) := by have h := Hl.out; unfold cisB at h; rw [Bool.and_eq_true, decide_eq_true_iff] at h; have h1 := h.1; have h2 := List.length_take_le k (tgL gr s z l); have h3 := HK.out; unfold Hid; omega
      have HSX : Hid (SmallC (l[k]'HK.out)) := cisB_small HG.out Hl.out _ (List.getElem_mem _)
      have hb := HBW.out
      obtain ⟨b_x, o_x, rfl, hcx⟩ := Hv.out.at_ (by omega)
      obtain ⟨us, hcell, hrd⟩ := hcx k HK.out
      clear hcx
      generalize l[k]'HK.out = x at hrd HS HSX
      obtain ⟨ers, jx_0, jx_1⟩ := rdCipher.1 ⟨us, rfl, hrd⟩
      obtain rfl : us = [.int .i64 x.a, .int .i64 x.b] := by have h := Value.agg.inj ers; simpa using congrArg Array.toList h
      clear ers hrd
      have y_x_0 : wr.cell? ⟨b_x, o_x + k * 2, none⟩ = some (.int .i64 x.a) := box_at (hcell 0 (by decide)) hb
      have y_x_1 : wr.cell? ⟨b_x, o_x + k * 2 + 1, none⟩ = some (.int .i64 x.b) := box_at (hcell 1 (by decide)) hb
      clear hcell
      have HR_x := Lib.hid ((kS rCipher).rd_below (rdCipher.2 ⟨rfl, jx_0, jx_1⟩ : (kS rCipher).rd w (.agg #[.int .i64 x.a, .int .i64 x.b]) x) hb)
      have J_x_0 := Lib.hid jx_0
      have J_x_1 := Lib.hid jx_1
      clear jx_0 jx_1
      have hwk : IntKind.i64.wrap ((k : Int) + 1) = (k : Int) + 1 := IntWalk.i64_in _ (by have := Kv.out.1; have := Kv.out.2; unfold maxLen at this; omega)
      clear hb
      obtain ⟨V, hV⟩ : ∃ V, V = wr.alloc (.cells #[.int .i64 x.a, .int .i64 x.b] 58) := ⟨_, rfl⟩
      have hc : Below wr.heap.size wr V := by rw [hV]; exact (Below.refl _ _).alloc (Nat.le_refl _) _
      have hcV : Below W.heap.size W V := Below.next HBU.out hc
      have c0_0 := box_at C0.out hcV
      have c0_1 := box_at C1.out hcV
      have c0_2 := box_at C2.out hcV
      clear hcV
      have c2_0 : V.cell? ⟨wr.heap.size, 0, none⟩ = some (.int .i64 x.a) := by rw [hV]; simp [go_sem]
      have c2_1 : V.cell? ⟨wr.heap.size, 1, none⟩ = some (.int .i64 x.b) := by rw [hV]; simp [go_sem]
      go_wp2_with fail
      rw [← hV]
      clear hV
      try (go_wp2_with fail)
      refine wp_region_noPanic ?_
      refine wp_region_P (fun w' => w'.cell? ⟨w.heap.size, 0, none⟩ = some (.int .i64 gr.p) ∧ w'.cell? ⟨w.heap.size, 1, none⟩ = some (.int .i64 gr.q) ∧ w'.cell? ⟨w.heap.size, 2, none⟩ = some (.int .i64 gr.g) ∧ w'.cell? ⟨wr.heap.size, 0, none⟩ = some (.int .i64 x.a) ∧ w'.cell? ⟨wr.heap.size, 1, none⟩ = some (.int .i64 x.b)) 13 [(0, []), (1, []), (2, []), (3, []), (4, []), (5, [2, 1, 0]), (6, []), (7, [5, 1, 0]), (8, [0])] [9, 10] (by kernel_rfl) (by kernel_rfl) (by kernel_rfl) rfl (fun _ _ _ _ h => h) (fun w' h => ⟨box_at c0_0 h, box_at c0_1 h, box_at c0_2 h, box_at c2_0 h, box_at c2_1 h⟩) ?_
      simp only [pickP, pickN, List.getElem?_cons_zero, List.getElem?_cons_succ]
      iterate 5 (refine' chainP_read _ rfl rfl (fun w' hS' => ?_) ?_; rotate_left; · (simp only [lookP, allP, Act.put, List.getElem?_cons_zero, List.getElem?_cons_succ, List.setIfInBounds_toArray, List.set_cons_zero, List.set_cons_succ]; (try dsimp only at hS'); go_simp; (try with_reducible rfl)))
      -- 5: call { callee := value (func 164), args := #[t21, t22, t23], argTypes := #[39, 3, 58] }
      refine chainP_call (d := (some 24)) (.int .i64 (deC gr s x)) rfl rfl (fun w' hS' => ?_) ?_
      · simp only [lookP, allP, Act.put, List.getElem?_cons_zero, List.getElem?_cons_succ, List.setIfInBounds_toArray, List.set_cons_zero, List.set_cons_succ]
        intro K hK
        go_simp
        go_at_call 164
        refine (impl_decrypt gr s x _ HG.out HIS.out HSX.out).mono ?_
        rintro e u ⟨rfl, hq⟩
        exact hK.out _ hq
      -- 6: move t2
      refine' chainP_read (d := (some 25)) _ rfl rfl (fun w' hS' => ?_) ?_; rotate_left
      · simp only [lookP, allP, Act.put, List.getElem?_cons_zero, List.getElem?_cons_succ, List.setIfInBounds_toArray, List.set_cons_zero, List.set_cons_succ]
        (try dsimp only at hS')
        go_simp
        (try with_reducible rfl)
      -- 7: call { callee := value (func 165), args := #[t20, t24, t25], argTypes := #[39, 3, 3] }
      refine chainP_call (d := (some 26)) (.int .i64 (powE gr (deC gr s x) z)) rfl rfl (fun w' hS' => ?_) ?_
      · simp only [lookP, allP, Act.put, List.getElem?_cons_zero, List.getElem?_cons_succ, List.setIfInBounds_toArray, List.set_cons_zero, List.set_cons_succ]
        intro K hK
        go_simp
        go_at_call 165
        refine (impl_pow gr (deC gr s x) z _ HG.out (deC_small HG.out _ _) HIZ.out).mono ?_
        rintro e u ⟨rfl, hq⟩
        exact hK.out _ hq
      -- 8: buildSlice 24 1 #[(0, t26)]
      refine chainP_do (d := (some 27)) (fun v w => Ints w v [powE gr (deC gr s x) z]) (fun v w w' hb h => Ints.below h hb) rfl rfl (fun w' hS' => ?_) ?_
      · simp only [lookP, allP, Act.put, List.getElem?_cons_zero, List.getElem?_cons_succ, List.setIfInBounds_toArray, List.set_cons_zero, List.set_cons_succ]
        intro K hK
        go_simp
        refine hK.out _ _ ((Below.refl _ _).alloc (Nat.le_refl _) _) ?_
        exact (OwnI.lit (B := w'.heap.size) w' (Nat.le_refl _) (l := [powE gr (deC gr s x) z]) (AllI64.cons (small_64 (powE_small HG.out _ _)) AllI64.nil) rfl (by simp [maxLen]) 1 rfl).ints
      refine chainP_nil (fun u1 hS' => ?_)
      simp only [allP, Act.put, List.setIfInBounds_toArray, List.set_cons_zero, List.set_cons_succ]
      intro x8 hx8
      have hq1 := hS'.1
      clear hS'
      replace hc := Below.next hc hq1
      replace c0_0 := box_at c0_0 hq1
      replace c0_1 := box_at c0_1 hq1
      replace c0_2 := box_at c0_2 hq1
      replace c2_0 := box_at c2_0 hq1
      replace c2_1 := box_at c2_1 hq1
      clear hq1
      clear c0_0 c0_1 c0_2 c2_0 c2_1
      have HOU := Lib.hid (HOW.out.below hc)
      have HX8 := Lib.hid hx8
      obtain ⟨xa, xn, xc, rfl⟩ := hx8.shape
      clear hx8
      have HWU := Lib.hid (Below.next HBU.out hc)
      have HCC := Lib.hid hc
      clear hc
      go_wp2_with (at_builtin; refine wpList_append_ints rfl _ _ rfl W.heap.size _ _ ((tgL gr s z l).take k) [powE gr (deC gr s x) z] rfl HOU.out rfl HX8.out (by have := HLEN.out; simp only [List.length_cons, List.length_nil]; omega) HWU.out.size ?_; intro v2' w2 hown2 hgr2)
      have HO2 := Lib.hid hown2
      have HG2 := Lib.hid (HOU.out.grown hgr2 (by have := HWU.out.size; simp; omega))
      clear hown2 hgr2
      go_wp2_with fail
      refine NoPanic.normal ?_
      go_wp2_with fail
      go_roundg (vn - (k + 1))
      case measure => omega
      case rel => exact ⟨k + 1, by omega, by go_num, by rw [HS.out]; exact HO2.out, HWU.out.trans HG2.out⟩
    · obtain rfl : vn = k := by omega
      have HFL : Hid ((tgL gr s z l).take vn = tgL gr s z l) := by unfold Hid; rw [List.take_of_length_le (by rw [tgL_length, Ev.out]; exact Nat.le_refl _)]
      go_wp2_with fail
      go_ret
      exact ⟨_, rfl, by rw [← HFL.out]; exact HOW.out.ints, HBW.out⟩
set_option maxRecDepth 100000 in
set_option maxHeartbeats 2000000 in
theorem impl_TagsOf (gr : GroupD) (s z : Int) (v : Value) (l : List CipherD) (w : World) (hs : I64 s) (hz : I64 z) (h : RdR rCipher w v l) :
    Calls Try.prog 64 #[.agg #[.int .i64 gr.p, .int .i64 gr.q, .int .i64 gr.g], .int .i64 s, .int .i64 z, v] w fun e w' => ∃ v', e = .returned (.tuple #[v', .bool (tgB gr s z l)]) ∧ Ints w' v' (tgR gr s z l) ∧ Below w.heap.size w w' := by
  obtain ⟨va, vn, vc, rfl⟩ := h.shape
  have Ev := Lib.hid h.len
  have Kv := Lib.hid h.capMax
  have Hv := Lib.hid h
  clear h
  obtain ⟨W, hW⟩ : ∃ W, W = w.alloc (.cells #[.int .i64 gr.p, .int .i64 gr.q, .int .i64 gr.g] 39) := ⟨_, rfl⟩
  have HB : Hid (Below w.heap.size w W) := by unfold Hid; rw [hW]; (repeat (first | exact Below.refl _ _ | assumption | refine Below.drew ?_ | refine Below.alloc ?_ (by first | (simp; done) | (simp; omega)) _ | refine Below.setCell ?_ (by first | (simp; done) | (simp; omega)) _))
  have c0_0 : W.cell? ⟨w.heap.size, 0, none⟩ = some (.int .i64 gr.p) := by rw [hW]; simp [go_sem]
  have c0_1 : W.cell? ⟨w.heap.size, 1, none⟩ = some (.int .i64 gr.q) := by rw [hW]; simp [go_sem]
  have c0_2 : W.cell? ⟨w.heap.size, 2, none⟩ = some (.int .i64 gr.g) := by rw [hW]; simp [go_sem]
  have HSW : Hid (W.heap.size = w.heap.size + 1) := by unfold Hid; rw [hW]; simp
  go_enter Try.func64, Try.ntmps64
  go_wp2_with fail
  rw [← hW]
  have hse : w.heap.size + 1 = W.heap.size := by have := HSW.out; omega
  (try rw [hse])
  clear hse
  clear hW
  have hc : Below W.heap.size W W := Below.refl _ _
  have HCC : Hid (∀ u, Below W.heap.size W u → u.cell? ⟨w.heap.size, 0, none⟩ = some (.int .i64 gr.p) ∧ u.cell? ⟨w.heap.size, 1, none⟩ = some (.int .i64 gr.q) ∧ u.cell? ⟨w.heap.size, 2, none⟩ = some (.int .i64 gr.g)) := fun u h => ⟨box_at c0_0 h, box_at c0_1 h, box_at c0_2 h⟩
  go_wp2_with fail
  refine (impl_isTagging gr s z _ hs hz).mono ?_
  rintro e u1 ⟨rfl, hq1⟩
  replace hc := Below.next hc hq1
  clear hq1 c0_0 c0_1 c0_2
  obtain ⟨c0_0, c0_1, c0_2⟩ := HCC.out _ hc
  cases hc1 : tkB gr s z with
  | false =>
    have Hhc1 := Lib.hid hc1
    clear hc1
    go_wp2_with fail
    have HVB : Hid (tgB gr s z l = false) := by unfold Hid; simp [tgB, Hhc1.out]
    have HPR : Hid (tgR gr s z l = []) := by unfold Hid tgR; rw [if_neg (by rw [HVB.out]; simp)]
    go_ret2
    rw [HVB.out, HPR.out]
    exact ⟨.slice none 0 0, rfl, Ints.nil _, HB.out.trans (hc.mono HB.out.size)⟩
  | true =>
    have HTK := Lib.hid (tkB_parts hc1)
    have HG := Lib.hid (goodG_ok HTK.out.1)
    have Hhc1 := Lib.hid hc1
    clear hc1
    go_wp2_with fail
    refine (impl_hasCiphers gr _ l _ HG.out (Hv.out.below (HB.out.trans (hc.mono HB.out.size)))).mono ?_
    rintro e u2 ⟨rfl, hq2⟩
    replace hc := Below.next hc hq2
    clear hq2 c0_0 c0_1 c0_2
    obtain ⟨c0_0, c0_1, c0_2⟩ := HCC.out _ hc
    cases hc2 : cisB gr l with
    | false =>
      have Hhc2 := Lib.hid hc2
      clear hc2
      go_wp2_with fail
      have HVB : Hid (tgB gr s z l = false) := by unfold Hid; simp [tgB, Hhc1.out, Hhc2.out]
      have HPR : Hid (tgR gr s z l = []) := by unfold Hid tgR; rw [if_neg (by rw [HVB.out]; simp)]
      go_ret2
      rw [HVB.out, HPR.out]
      exact ⟨.slice none 0 0, rfl, Ints.nil _, HB.out.trans (hc.mono HB.out.size)⟩
    | true =>
      have Hl := Lib.hid hc2
      have Hhc2 := Lib.hid hc2
      clear hc2
      go_wp2_with fail
      refine (impl_tags gr s z _ l _ HG.out hs hz (Hv.out.below (HB.out.trans (hc.mono HB.out.size))) Hl.out).mono ?_
      rintro e u3 ⟨vt, rfl, hvt, hq3⟩
      have HVT := Lib.hid hvt
      clear hvt
      replace hc := Below.next hc hq3
      clear hq3 c0_0 c0_1 c0_2
      obtain ⟨c0_0, c0_1, c0_2⟩ := HCC.out _ hc
      go_wp2_with fail
      have HVB : Hid (tgB gr s z l = true) := by unfold Hid; simp [tgB, Hhc1.out, Hhc2.out]
      have HPR : Hid (tgR gr s z l = tgL gr s z l) := by unfold Hid tgR; rw [if_pos HVB.out]
      go_ret2
      rw [HVB.out, HPR.out]
      exact ⟨_, rfl, HVT.out, HB.out.trans (hc.mono HB.out.size)⟩
set_option maxRecDepth 100000 in
set_option maxHeartbeats 2000000 in
theorem spec_TagsOf (gr : GroupD) (s z : Int) (v : Value) (l : List CipherD) (w : World) (hs : I64 s) (hz : I64 z) (h : RdR rCipher w v l) :
    Calls Try.prog 65 #[.agg #[.int .i64 gr.p, .int .i64 gr.q, .int .i64 gr.g], .int .i64 s, .int .i64 z, v] w fun e w' => ∃ v', e = .returned (.tuple #[v', .bool (tgB gr s z l)]) ∧ Ints w' v' (tgR gr s z l) ∧ Below w.heap.size w w' := by
  obtain ⟨va, vn, vc, rfl⟩ := h.shape
  have Ev := Lib.hid h.len
  have Kv := Lib.hid h.capMax
  have Hv := Lib.hid h
  clear h
  have HIS := Lib.hid hs
  have HIZ := Lib.hid hz
  obtain ⟨W, hW⟩ : ∃ W, W = w.alloc (.cells #[.int .i64 gr.p, .int .i64 gr.q, .int .i64 gr.g] 39) := ⟨_, rfl⟩
  have HB : Hid (Below w.heap.size w W) := by unfold Hid; rw [hW]; (repeat (first | exact Below.refl _ _ | assumption | refine Below.drew ?_ | refine Below.alloc ?_ (by first | (simp; done) | (simp; omega)) _ | refine Below.setCell ?_ (by first | (simp; done) | (simp; omega)) _))
  have c0_0 : W.cell? ⟨w.heap.size, 0, none⟩ = some (.int .i64 gr.p) := by rw [hW]; simp [go_sem]
  have c0_1 : W.cell? ⟨w.heap.size, 1, none⟩ = some (.int .i64 gr.q) := by rw [hW]; simp [go_sem]
  have c0_2 : W.cell? ⟨w.heap.size, 2, none⟩ = some (.int .i64 gr.g) := by rw [hW]; simp [go_sem]
  have HSW : Hid (W.heap.size = w.heap.size + 1) := by unfold Hid; rw [hW]; simp
  go_enter Try.func65, Try.ntmps65
  go_wp2_with fail
  rw [← hW]
  have hse : w.heap.size + 1 = W.heap.size := by have := HSW.out; omega
  (try rw [hse])
  clear hse
  clear hW
  have hc : Below W.heap.size W W := Below.refl _ _
  have HCC : Hid (∀ u, Below W.heap.size W u → u.cell? ⟨w.heap.size, 0, none⟩ = some (.int .i64 gr.p) ∧ u.cell? ⟨w.heap.size, 1, none⟩ = some (.int .i64 gr.q) ∧ u.cell? ⟨w.heap.size, 2, none⟩ = some (.int .i64 gr.g)) := fun u h => ⟨box_at c0_0 h, box_at c0_1 h, box_at c0_2 h⟩
  go_wp2_with fail
  refine (spec_dSecrets gr s z _ hs hz).mono ?_
  rintro e u1 ⟨rfl, hq1⟩
  replace hc := Below.next hc hq1
  clear hq1 c0_0 c0_1 c0_2
  obtain ⟨c0_0, c0_1, c0_2⟩ := HCC.out _ hc
  cases hc1 : tkB gr s z with
  | false =>
    have Hhc1 := Lib.hid hc1
    clear hc1
    go_wp2_with fail
    have HVB : Hid (tgB gr s z l = false) := by unfold Hid; simp [tgB, Hhc1.out]
    have HPR : Hid (tgR gr s z l = []) := by unfold Hid tgR; rw [if_neg (by rw [HVB.out]; simp)]
    go_ret2
    rw [HVB.out, HPR.out]
    exact ⟨.slice none 0 0, rfl, Ints.nil _, HB.out.trans (hc.mono HB.out.size)⟩
  | true =>
    have HTK := Lib.hid (tkB_parts hc1)
    have HG := Lib.hid (goodG_ok HTK.out.1)
    have Hhc1 := Lib.hid hc1
    clear hc1
    go_wp2_with fail
    refine (spec_eGoodC gr _ l _ HG.out (Hv.out.below (HB.out.trans (hc.mono HB.out.size)))).mono ?_
    rintro e u2 ⟨rfl, hq2⟩
    replace hc := Below.next hc hq2
    clear hq2 c0_0 c0_1 c0_2
    obtain ⟨c0_0, c0_1, c0_2⟩ := HCC.out _ hc
    cases hc2 : cisB gr l with
    | false =>
      have Hhc2 := Lib.hid hc2
      clear hc2
      go_wp2_with fail
      have HVB : Hid (tgB gr s z l = false) := by unfold Hid; simp [tgB, Hhc1.out, Hhc2.out]
      have HPR : Hid (tgR gr s z l = []) := by unfold Hid tgR; rw [if_neg (by rw [HVB.out]; simp)]
      go_ret2
      rw [HVB.out, HPR.out]
      exact ⟨.slice none 0 0, rfl, Ints.nil _, HB.out.trans (hc.mono HB.out.size)⟩
    | true =>
      have Hl := Lib.hid hc2
      have Hhc2 := Lib.hid hc2
      clear hc2
      have HVB : Hid (tgB gr s z l = true) := by unfold Hid; simp [tgB, Hhc1.out, Hhc2.out]
      have HPR : Hid (tgR gr s z l = tgL gr s z l) := by unfold Hid tgR; rw [if_pos HVB.out]
      go_wp2_with fail
      have HC := Lib.hid hc
      have C0 := Lib.hid c0_0
      have C1 := Lib.hid c0_1
      have C2 := Lib.hid c0_2
      clear hc c0_0 c0_1 c0_2
      have HU := Lib.hid (OwnI.nil u2 _ : OwnI _ u2.heap.size (.slice none 0 0) ((tgL gr s z l).take 0))
      have HUB := Lib.hid (Below.refl _ _ : Below u2.heap.size u2 _)
      go_loopg [10, 26] vn (fun gh ov iv wr => ∃ k : Nat, k + gh = vn ∧ iv = .int .i64 k ∧ OwnI wr u2.heap.size ov ((tgL gr s z l).take k) ∧ Below u2.heap.size u2 wr)
      case atStart => exact ⟨0, by omega, rfl, HU.out, HUB.out⟩
      case round =>
        obtain ⟨k, hkg, rfl, hown, hbu⟩ := hrel
        clear HU HUB
        obtain ⟨oa, oc, hsh⟩ := hown.shape
        obtain ⟨on, hon⟩ : ∃ n, n = ((tgL gr s z l).take k).length := ⟨_, rfl⟩
        rw [← hon] at hsh
        subst hsh
        have HON := Lib.hid hon
        clear hon
        have HOW := Lib.hid hown
        clear hown
        have HBU := Lib.hid hbu
        clear hbu
        have HBW := Lib.hid (HB.out.trans ((Below.next HC.out HBU.out).mono HB.out.size))
        by_cases hlt : k < vn
        · have HK : Hid (k < l.length) := by unfold Hid; have := Ev.out; omega
          have HS := Lib.hid (tgL_succ (gr := gr) (s := s) (z := z) HK.out)
          have HLEN : Hid (((tgL gr s z l).take k).length ≤ 100000000) := by have h := Hl.out; unfold cisB at h; rw [Bool.and_eq_true, decide_eq_true_iff] at h; have h1 := h.1; have h2 := List.length_take_le k (tgL gr s z l); have h3 := HK.out; unfold Hid; omega
          have HSX : Hid (SmallC (l[k]'HK.out)) := cisB_small HG.out Hl.out _ (List.getElem_mem _)
          have hb := HBW.out
          obtain ⟨b_x, o_x, rfl, hcx⟩ := Hv.out.at_ (by omega)
          obtain ⟨us, hcell, hrd⟩ := hcx k HK.out
          clear hcx
          generalize l[k]'HK.out = x at hrd HS HSX
          obtain ⟨ers, jx_0, jx_1⟩ := rdCipher.1 ⟨us, rfl, hrd⟩
          obtain rfl : us = [.int .i64 x.a, .int .i64 x.b] := by have h := Value.agg.inj ers; simpa using congrArg Array.toList h
          clear ers hrd
          have y_x_0 : wr.cell? ⟨b_x, o_x + k * 2, none⟩ = some (.int .i64 x.a) := box_at (hcell 0 (by decide)) hb
          have y_x_1 : wr.cell? ⟨b_x, o_x + k * 2 + 1, none⟩ = some (.int .i64 x.b) := box_at (hcell 1 (by decide)) hb
          clear hcell
          have HR_x := Lib.hid ((kS rCipher).rd_below (rdCipher.2 ⟨rfl, jx_0, jx_1⟩ : (kS rCipher).rd w (.agg #[.int .i64 x.a, .int .i64 x.b]) x) hb)
          have J_x_0 := Lib.hid jx_0
          have J_x_1 := Lib.hid jx_1
          clear jx_0 jx_1
          have hwk : IntKind.i64.wrap ((k : Int) + 1) = (k : Int) + 1 := IntWalk.i64_in _ (by have := Kv.out.1; have := Kv.out.2; unfold maxLen at this; omega)
          clear hb
          obtain ⟨V, hV⟩ : ∃ V, V = wr.alloc (.cells #[.int .i64 x.a, .int .i64 x.b] 58) := ⟨_, rfl⟩
          have hc : Below wr.heap.size wr V := by rw [hV]; exact (Below.refl _ _).alloc (Nat.le_refl _) _
          have hcV : Below u2.heap.size u2 V := Below.next HBU.out hc
          have c0_0 := box_at C0.out hcV
          have c0_1 := box_at C1.out hcV
          have c0_2 := box_at C2.out hcV
          clear hcV
          have c2_0 : V.cell? ⟨wr.heap.size, 0, none⟩ = some (.int .i64 x.a) := by rw [hV]; simp [go_sem]
          have c2_1 : V.cell? ⟨wr.heap.size, 1, none⟩ = some (.int .i64 x.b) := by rw [hV]; simp [go_sem]
          go_upto_region 7 with fail
          rw [← hV]
          clear hV
          go_wp2_with fail
          refine (spec_dTag gr s z x _ HG.out HIS.out HIZ.out HSX.out).mono ?_
          rintro e V2 ⟨rfl, hq⟩
          replace hc := Below.next hc hq
          clear hq c0_0 c0_1 c0_2 c2_0 c2_1
          have HOU := Lib.hid ((HOW.out.below hc).alloc (.cells #[.int .i64 (powE gr (deC gr s x) z)] 3))
          have HIT : Hid (I64 (powE gr (deC gr s x) z)) := small_64 (powE_small HG.out _ _)
          have HWU := Lib.hid (Below.next HBU.out hc)
          have HCC := Lib.hid hc
          clear hc
          go_wp2_with (at_builtin; refine wpList_append_ints rfl _ _ rfl u2.heap.size _ _ ((tgL gr s z l).take k) [powE gr (deC gr s x) z] rfl HOU.out rfl (Ints.lit1 _ HIT.out) (by have := HLEN.out; simp only [List.length_cons, List.length_nil]; omega) (by have := HWU.out.size; simp; omega) ?_; intro v2' w2 hown2 hgr2)
          have HO2 := Lib.hid hown2
          have HG2 := Lib.hid (HOU.out.grown hgr2 (by have := HWU.out.size; simp; omega))
          clear hown2 hgr2
          go_wp2_with fail
          go_roundg (vn - (k + 1))
          case measure => omega
          case rel => exact ⟨k + 1, by omega, by go_num, by rw [HS.out]; exact HO2.out, HWU.out.trans (((Below.refl _ _).alloc HWU.out.size _).trans HG2.out)⟩
        · obtain rfl : vn = k := by omega
          have HFL : Hid ((tgL gr s z l).take vn = tgL gr s z l) := by unfold Hid; rw [List.take_of_length_le (by rw [tgL_length, Ev.out]; exact Nat.le_refl _)]
          go_wp2_with fail
          go_ret2
          rw [HVB.out, HPR.out]
          exact ⟨_, rfl, by rw [← HFL.out]; exact HOW.out.ints, HBW.out⟩
end Go.Proofs.Ytboahnklilmdpaa
