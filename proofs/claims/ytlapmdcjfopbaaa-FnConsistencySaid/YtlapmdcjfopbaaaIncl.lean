/- Walks: VerifyInclusion, RootOf; helpers of the laws on Merkle trees. -/
import Derived.Test.YtlapmdcjfopbaaaMerkM
import Derived.Test.YtlapmdcjfopbaaaCur
namespace Go.Proofs.Ytlapmdcjfopbaaa
open Go.RowKit
set_option linter.unusedSimpArgs false
set_option linter.unusedVariables false

theorem incN_zero {f : Nat} {x : Int} {i n : Nat} {l : List Int} (h : n ≠ 1) (hl : l.length = 0) : incN f x i n l = none := by
  cases f with
  | zero => rfl
  | succ f => rw [incN, if_neg h, if_pos hl]
theorem map_some_eq {o : Option Int} {f : Int → Int} {y : Int} (h : ∀ d, o = some d → d = y) : ∀ d, o.map f = some d → d = f y := fun d hd => by
  cases o with
  | none => cases hd
  | some u => rw [h u rfl] at hd; simpa using hd.symm
theorem map_isSome {o : Option Int} {f : Int → Int} : (o.map f).isSome = o.isSome := by cases o <;> rfl
/-- the answer of VerifyInclusion -/
def viB (x i n : Int) (l : List Int) (r : Int) : Bool := decide (1 ≤ n ∧ n ≤ 64) && (decide (0 ≤ i ∧ i ≤ n - 1) && (digestB x && (digestB r && l.all digestB)))
def viR (x i n : Int) (l : List Int) (r : Int) : Bool := viB x i n l r && decide (incN 65 x i.toNat n.toNat l = some r)
set_option maxRecDepth 100000 in
set_option maxHeartbeats 2000000 in
theorem impl_included (f : Nat) : ∀ (x i n : Int) (v : Value) (l : List Int) (o : Option Int) (w : World), Ints w v l → n < f → n ≤ 64 → 0 ≤ i → i ≤ n - 1 → l.all digestB = true → digestB x = true → f ≤ 65 →
    incN f x i.toNat n.toNat l = o →
    Calls Try.prog 156 #[.int .i64 x, .int .i64 i, .int .i64 n, v] w fun e w' => (∃ y, e = .returned (.tuple #[.int .i64 y, .bool o.isSome]) ∧ digestB y = true ∧ ∀ d, o = some d → d = y) ∧ Below w.heap.size w w' := by
  induction f with
  | zero => intro x i n v l o w _ h; omega
  | succ f ih =>
    intro x i n v l o w h hf hn hi0 hi1 hd hx hf65 hr
    obtain ⟨N, rfl⟩ : ∃ N : Nat, n = N := ⟨n.toNat, by omega⟩
    obtain ⟨a, p, c, rfl⟩ := h.shape
    have e := h.len
    obtain ⟨k1, k2⟩ := h.capMax
    unfold maxLen at k2
    rw [Int.toNat_natCast] at hr
    have H := Lib.hid h; clear h
    have HE := Lib.hid e
    have IH := Lib.hid ih; clear ih
    have ew : IntKind.i64.wrap ((p : Int) - 1) = (p : Int) - 1 := IntWalk.i64_in _ (by omega)
    rw [incN] at hr
    by_cases h1 : N = 1
    · rw [if_pos h1] at hr
      subst h1
      have HX := Lib.hid hx; clear hd hx
      by_cases h2 : p = 0
      · rw [if_pos (by omega)] at hr
        subst hr; subst h2
        clear e
        go_enter Try.func156, Try.ntmps156
        go_wp2_with fail
        go_ret2
        exact ⟨⟨_, rfl, HX.out, fun d hd => by cases hd; rfl⟩, Below.refl _ _⟩
      · rw [if_neg (by omega)] at hr
        subst hr
        have h3 : ¬ (p : Int) = 0 := by omega
        have h4 : ((p : Int) == 0) = false := by rw [beq_eq_false_iff_ne]; exact h3
        have h5 : decide ((p : Int) - 1 < 0) = false := decide_eq_false (by omega)
        clear e
        go_enter Try.func156, Try.ntmps156
        go_wp2_with fail
        go_ret2
        exact ⟨⟨_, by first | rfl | (simp [h3, h2]; done), HX.out, fun d hd => by cases hd⟩, Below.refl _ _⟩
    · rw [if_neg h1] at hr
      have hmn : ((N : Int) == 1) = false := by rw [beq_eq_false_iff_ne]; omega
      by_cases h2 : p = 0
      · rw [if_pos (by omega)] at hr
        subst hr; subst h2
        have HX := Lib.hid hx; clear hd hx e
        go_enter Try.func156, Try.ntmps156
        go_wp2_with fail
        go_ret2
        exact ⟨⟨_, rfl, by first | exact HX.out | rfl, fun d hd => by cases hd⟩, Below.refl _ _⟩
      · rw [if_neg (by omega)] at hr
        have hp1 : 1 ≤ p := by omega
        have hz : ((p : Int) == 0) = false := by rw [beq_eq_false_iff_ne]; omega
        obtain ⟨s1, s2, s3⟩ := splitN_bd N (by omega) (by omega)
        obtain ⟨bk, o', rfl, hcx⟩ := H.out.at_ (by omega)
        have hy := hcx (p - 1) (by omega)
        clear hcx
        rw [e] at hr
        have HD := Lib.hid hd; clear hd
        have HX := Lib.hid hx; clear hx
        have HN := Lib.hid (nth_digest HD.out (p - 1))
        have het : (((p : Int) - 1).toNat) = p - 1 := by omega
        have z1 : (0 : Int) ≤ (p : Int) - 1 := by omega
        have z2 : (p : Int) - 1 < (p : Int) := by omega
        have h2N : 2 ≤ N := by omega
        by_cases hlt : i < (splitN N : Nat)
        · rw [if_pos (by omega)] at hr
          obtain ⟨t, ht⟩ : ∃ t, incN f x i.toNat (splitN N) (l.take (p - 1)) = t := ⟨_, rfl⟩
          rw [ht] at hr
          subst hr
          have HT := Lib.hid ht; clear ht
          clear h1 e
          generalize hnl : nth l (p - 1) = z at *
          clear hnl
          go_enter Try.func156, Try.ntmps156
          go_wp2_with fail
          refine (impl_half N _ (by omega) (by omega)).mono ?_
          rintro e w' ⟨rfl, rfl⟩
          generalize hsn : splitN N = sn at *
          have HSN := Lib.hid hsn; clear hsn
          go_wp2_with fail
          refine (IH.out x i sn _ (l.take (p - 1)) t _ (H.out.take (by omega)) (by omega) (by omega) hi0 (by omega) (all_take HD.out _) HX.out (by omega) (by rw [Int.toNat_natCast]; exact HT.out)).mono ?_
          rintro e w1 ⟨⟨y, rfl, hyd, hyr⟩, hb1⟩
          have HYD := Lib.hid hyd; have HYR := Lib.hid hyr; clear hyd hyr
          rw [← hb1.cell (p := ⟨bk, o' + (p - 1), none⟩) (World.block_lt_of_cell? w _ hy)] at hy
          go_wp2_with fail
          refine (impl_nodeOf y z _ HYD.out HN.out).mono ?_
          rintro e w2 ⟨rfl, hb2⟩
          go_wp2_with fail
          go_ret2
          exact ⟨⟨_, by (rw [map_isSome]; rfl), digestB_node _ _, map_some_eq HYR.out⟩, hb1.trans (hb2.mono hb1.size)⟩
        · rw [if_neg (by omega)] at hr
          obtain ⟨t, ht⟩ : ∃ t, incN f x (i.toNat - splitN N) (N - splitN N) (l.take (p - 1)) = t := ⟨_, rfl⟩
          rw [ht] at hr
          subst hr
          have HT := Lib.hid ht; clear ht
          clear h1 e
          generalize hnl : nth l (p - 1) = z at *
          clear hnl
          go_enter Try.func156, Try.ntmps156
          go_wp2_with fail
          refine (impl_half N _ (by omega) (by omega)).mono ?_
          rintro e w' ⟨rfl, rfl⟩
          generalize hsn : splitN N = sn at *
          have HSN := Lib.hid hsn; clear hsn
          have e1 : IntKind.i64.wrap (i - (sn : Int)) = i - (sn : Int) := IntWalk.i64_in _ (by omega)
          have e2 : IntKind.i64.wrap ((N : Int) - (sn : Int)) = (N : Int) - (sn : Int) := IntWalk.i64_in _ (by omega)
          go_wp2_with fail
          refine (IH.out x (i - (sn : Int)) ((N : Int) - (sn : Int)) _ (l.take (p - 1)) t _ (H.out.take (by omega)) (by omega) (by omega) (by omega) (by omega) (all_take HD.out _) HX.out (by omega) (by rw [show (i - (sn : Int)).toNat = i.toNat - sn by omega, show ((N : Int) - (sn : Int)).toNat = N - sn by omega]; exact HT.out)).mono ?_
          rintro e w1 ⟨⟨y, rfl, hyd, hyr⟩, hb1⟩
          have HYD := Lib.hid hyd; have HYR := Lib.hid hyr; clear hyd hyr
          rw [← hb1.cell (p := ⟨bk, o' + (p - 1), none⟩) (World.block_lt_of_cell? w _ hy)] at hy
          go_wp2_with fail
          refine (impl_nodeOf z y _ HN.out HYD.out).mono ?_
          rintro e w2 ⟨rfl, hb2⟩
          go_wp2_with fail
          go_ret2
          exact ⟨⟨_, by (rw [map_isSome]; rfl), digestB_node _ _, map_some_eq HYR.out⟩, hb1.trans (hb2.mono hb1.size)⟩
set_option maxRecDepth 100000 in
set_option maxHeartbeats 2000000 in
theorem spec_kFold (f : Nat) : ∀ (x i n : Int) (v : Value) (l : List Int) (o : Option Int) (w : World), Ints w v l → n < f → n ≤ 64 → 0 ≤ i → i ≤ n - 1 → l.all digestB = true → digestB x = true → f ≤ 65 →
    incN f x i.toNat n.toNat l = o →
    Calls Try.prog 237 #[.int .i64 x, .int .i64 i, .int .i64 n, v] w fun e w' => (∃ y, e = .returned (.tuple #[.int .i64 y, .bool o.isSome]) ∧ digestB y = true ∧ ∀ d, o = some d → d = y) ∧ Below w.heap.size w w' := by
  induction f with
  | zero => intro x i n v l o w _ h; omega
  | succ f ih =>
    intro x i n v l o w h hf hn hi0 hi1 hd hx hf65 hr
    obtain ⟨N, rfl⟩ : ∃ N : Nat, n = N := ⟨n.toNat, by omega⟩
    obtain ⟨a, p, c, rfl⟩ := h.shape
    have e := h.len
    obtain ⟨k1, k2⟩ := h.capMax
    unfold maxLen at k2
    rw [Int.toNat_natCast] at hr
    have H := Lib.hid h; clear h
    have HE := Lib.hid e
    have IH := Lib.hid ih; clear ih
    have ew : IntKind.i64.wrap ((p : Int) - 1) = (p : Int) - 1 := IntWalk.i64_in _ (by omega)
    rw [incN] at hr
    by_cases h1 : N = 1
    · rw [if_pos h1] at hr
      subst h1
      have HX := Lib.hid hx; clear hd hx
      by_cases h2 : p = 0
      · rw [if_pos (by omega)] at hr
        subst hr; subst h2
        clear e
        go_enter Try.func237, Try.ntmps237
        go_wp2_with fail
        go_ret2
        exact ⟨⟨_, rfl, HX.out, fun d hd => by cases hd; rfl⟩, Below.refl _ _⟩
      · rw [if_neg (by omega)] at hr
        subst hr
        have h3 : ¬ (p : Int) = 0 := by omega
        have h4 : ((p : Int) == 0) = false := by rw [beq_eq_false_iff_ne]; exact h3
        have h5 : decide ((p : Int) - 1 < 0) = false := decide_eq_false (by omega)
        clear e
        go_enter Try.func237, Try.ntmps237
        go_wp2_with fail
        go_ret2
        exact ⟨⟨_, by first | rfl | (simp [h3, h2]; done), HX.out, fun d hd => by cases hd⟩, Below.refl _ _⟩
    · rw [if_neg h1] at hr
      have hmn : ((N : Int) == 1) = false := by rw [beq_eq_false_iff_ne]; omega
      by_cases h2 : p = 0
      · rw [if_pos (by omega)] at hr
        subst hr; subst h2
        have HX := Lib.hid hx; clear hd hx e
        go_enter Try.func237, Try.ntmps237
        go_wp2_with fail
        go_ret2
        exact ⟨⟨_, rfl, by first | exact HX.out | rfl, fun d hd => by cases hd⟩, Below.refl _ _⟩
      · rw [if_neg (by omega)] at hr
        have hp1 : 1 ≤ p := by omega
        have hz : ((p : Int) == 0) = false := by rw [beq_eq_false_iff_ne]; omega
        obtain ⟨s1, s2, s3⟩ := splitN_bd N (by omega) (by omega)
        obtain ⟨bk, o', rfl, hcx⟩ := H.out.at_ (by omega)
        have hy := hcx (p - 1) (by omega)
        clear hcx
        rw [e] at hr
        have HD := Lib.hid hd; clear hd
        have HX := Lib.hid hx; clear hx
        have HN := Lib.hid (nth_digest HD.out (p - 1))
        have het : (((p : Int) - 1).toNat) = p - 1 := by omega
        have z1 : (0 : Int) ≤ (p : Int) - 1 := by omega
        have z2 : (p : Int) - 1 < (p : Int) := by omega
        have h2N : 2 ≤ N := by omega
        by_cases hlt : i < (splitN N : Nat)
        · rw [if_pos (by omega)] at hr
          obtain ⟨t, ht⟩ : ∃ t, incN f x i.toNat (splitN N) (l.take (p - 1)) = t := ⟨_, rfl⟩
          rw [ht] at hr
          subst hr
          have HT := Lib.hid ht; clear ht
          clear h1 e
          generalize hnl : nth l (p - 1) = z at *
          clear hnl
          go_enter Try.func237, Try.ntmps237
          go_wp2_with fail
          refine (spec_kSplit N _ (by omega) (by omega)).mono ?_
          rintro e w' ⟨rfl, rfl⟩
          generalize hsn : splitN N = sn at *
          have HSN := Lib.hid hsn; clear hsn
          go_wp2_with fail
          refine (IH.out x i sn _ (l.take (p - 1)) t _ (H.out.take (by omega)) (by omega) (by omega) hi0 (by omega) (all_take HD.out _) HX.out (by omega) (by rw [Int.toNat_natCast]; exact HT.out)).mono ?_
          rintro e w1 ⟨⟨y, rfl, hyd, hyr⟩, hb1⟩
          have HYD := Lib.hid hyd; have HYR := Lib.hid hyr; clear hyd hyr
          rw [← hb1.cell (p := ⟨bk, o' + (p - 1), none⟩) (World.block_lt_of_cell? w _ hy)] at hy
          go_wp2_with fail
          refine (spec_kNode y z _ HYD.out HN.out).mono ?_
          rintro e w2 ⟨rfl, hb2⟩
          go_wp2_with fail
          go_ret2
          exact ⟨⟨_, by (rw [map_isSome]; rfl), digestB_node _ _, map_some_eq HYR.out⟩, hb1.trans (hb2.mono hb1.size)⟩
        · rw [if_neg (by omega)] at hr
          obtain ⟨t, ht⟩ : ∃ t, incN f x (i.toNat - splitN N) (N - splitN N) (l.take (p - 1)) = t := ⟨_, rfl⟩
          rw [ht] at hr
          subst hr
          have HT := Lib.hid ht; clear ht
          clear h1 e
          generalize hnl : nth l (p - 1) = z at *
          clear hnl
          go_enter Try.func237, Try.ntmps237
          go_wp2_with fail
          refine (spec_kSplit N _ (by omega) (by omega)).mono ?_
          rintro e w' ⟨rfl, rfl⟩
          generalize hsn : splitN N = sn at *
          have HSN := Lib.hid hsn; clear hsn
          have e1 : IntKind.i64.wrap (i - (sn : Int)) = i - (sn : Int) := IntWalk.i64_in _ (by omega)
          have e2 : IntKind.i64.wrap ((N : Int) - (sn : Int)) = (N : Int) - (sn : Int) := IntWalk.i64_in _ (by omega)
          go_wp2_with fail
          refine (IH.out x (i - (sn : Int)) ((N : Int) - (sn : Int)) _ (l.take (p - 1)) t _ (H.out.take (by omega)) (by omega) (by omega) (by omega) (by omega) (all_take HD.out _) HX.out (by omega) (by rw [show (i - (sn : Int)).toNat = i.toNat - sn by omega, show ((N : Int) - (sn : Int)).toNat = N - sn by omega]; exact HT.out)).mono ?_
          rintro e w1 ⟨⟨y, rfl, hyd, hyr⟩, hb1⟩
          have HYD := Lib.hid hyd; have HYR := Lib.hid hyr; clear hyd hyr
          rw [← hb1.cell (p := ⟨bk, o' + (p - 1), none⟩) (World.block_lt_of_cell? w _ hy)] at hy
          go_wp2_with fail
          refine (spec_kNode z y _ HN.out HYD.out).mono ?_
          rintro e w2 ⟨rfl, hb2⟩
          go_wp2_with fail
          go_ret2
          exact ⟨⟨_, by (rw [map_isSome]; rfl), digestB_node _ _, map_some_eq HYR.out⟩, hb1.trans (hb2.mono hb1.size)⟩
theorem viR_eq {x i n : Int} {l : List Int} {r y : Int} {o : Option Int} (h : viB x i n l r = true) (ho : incN 65 x i.toNat n.toNat l = o) (hy : ∀ d, o = some d → d = y) : viR x i n l r = (o.isSome && decide (y = r)) := by
  unfold viR
  rw [h, ho, Bool.true_and]
  cases o with
  | none => rfl
  | some d => rw [hy d rfl, Option.isSome_some, Bool.true_and, decide_eq_decide]; simp
theorem viR_no {x i n : Int} {l : List Int} {r : Int} (h : viB x i n l r = false) : viR x i n l r = false := by unfold viR; rw [h]; rfl
theorem ret_bb {a a' b b' : Bool} (h : a = a') (h' : b = b') : Ending.returned (.tuple #[.bool a, .bool b]) = .returned (.tuple #[.bool a', .bool b']) := by rw [h, h']
set_option maxHeartbeats 4000000 in
theorem impl_VerifyInclusion (x i n : Int) (v : Value) (l : List Int) (r : Int) (w : World) (hx : I64 x) (hr : I64 r) (h : Ints w v l) :
    Calls Try.prog 56 #[.int .i64 x, .int .i64 i, .int .i64 n, v, .int .i64 r] w fun e w' => e = .returned (.tuple #[.bool (viR x i n l r), .bool (viB x i n l r)]) ∧ Below w.heap.size w w' := by
  have H := Lib.hid h; clear h
  by_cases hn : 1 ≤ n ∧ n ≤ 64
  · obtain ⟨hn1, hn2⟩ := hn
    (obtain ⟨q2, h_q⟩ : ∃ q, decide (0 ≤ i ∧ i ≤ n - 1) = q := ⟨_, rfl⟩); have H2 := Lib.hid h_q; clear h_q
    (obtain ⟨q3, h_q⟩ : ∃ q, digestB x = q := ⟨_, rfl⟩); have H3 := Lib.hid h_q; clear h_q
    (obtain ⟨q4, h_q⟩ : ∃ q, digestB r = q := ⟨_, rfl⟩); have H4 := Lib.hid h_q; clear h_q
    (obtain ⟨q5, h_q⟩ : ∃ q, l.all digestB = q := ⟨_, rfl⟩); have H5 := Lib.hid h_q; clear h_q
    have HB : Hid (viB x i n l r = (q2 && (q3 && (q4 && q5)))) := by unfold Hid viB; rw [H2.out, H3.out, H4.out, H5.out, decide_eq_true ⟨hn1, hn2⟩]; rfl
    have H1 : Hid (decide (1 ≤ n ∧ n ≤ 64) = true) := decide_eq_true ⟨hn1, hn2⟩
    have HI : Hid (q2 = true → 0 ≤ i ∧ i ≤ n - 1) := fun e => by have := H2.out; rw [e, decide_eq_true_iff] at this; exact this
    obtain ⟨o, ho⟩ : ∃ o, incN 65 x i.toNat n.toNat l = o := ⟨_, rfl⟩
    have HO := Lib.hid ho; clear ho
    (obtain ⟨q6, h_q⟩ : ∃ q, o.isSome = q := ⟨_, rfl⟩); have H6 := Lib.hid h_q; clear h_q
    have HR : Hid (∀ y, (∀ d, o = some d → d = y) → viR x i n l r = (q2 && (q3 && (q4 && (q5 && (q6 && decide (y = r))))))) := fun y hy => by
      rw [← H6.out]
      have hB := HB.out
      cases hh : (q2 && (q3 && (q4 && q5))) with
      | true =>
        rw [hh] at hB
        simp only [Bool.and_eq_true] at hh
        obtain ⟨e2, e3, e4, e5⟩ := hh
        rw [viR_eq hB HO.out hy, e2, e3, e4, e5]; rfl
      | false =>
        rw [hh] at hB
        rw [viR_no hB]
        cases q2 <;> cases q3 <;> cases q4 <;> cases q5 <;> simp at hh ⊢
    have HR0 : Hid ((q2 && (q3 && (q4 && q5))) = false → viR x i n l r = false) := fun e => viR_no (HB.out.trans e)

    go_enter Try.func56, Try.ntmps56
    go_wp2_with (first
      | (go_at_call 149; refine (impl_within _ _ _ _).mono ?_; rintro e w1 ⟨rfl, rfl⟩; first | rw [H1.out] | (rw [H2.out]; cases q2))
      | (go_at_call_of 154 (Value.int .i64 x); refine (impl_isDigest _ _).mono ?_; rintro e w1 ⟨rfl, rfl⟩; rw [H3.out]; cases q3)
      | (go_at_call_of 154 (Value.int .i64 r); refine (impl_isDigest _ _).mono ?_; rintro e w1 ⟨rfl, rfl⟩; rw [H4.out]; cases q4)
      | (go_at_call 155; refine (impl_areAll _ l 154 #[] digestB _ H.out (decides_isDigest _)).mono ?_; rintro e w1 ⟨rfl, hb1⟩; rw [H5.out]; cases q5) 
      | (go_at_call 156; refine (impl_included 65 x i n v l o _ (H.out.below hb1) (by omega) hn2 (by first | omega | exact (of_decide_eq_true H2.out).1) (by first | omega | exact (of_decide_eq_true H2.out).2) H5.out H3.out (by omega) HO.out).mono ?_; rintro e w2 ⟨⟨y, rfl, hyd, hy⟩, hb2⟩; (have HY := Lib.hid hy); (have HBB := Lib.hid (Below.next hb1 hb2)); clear hy hyd hb1 hb2; rw [H6.out]; cases q6)
      | fail)
    all_goals go_ret2
    all_goals first
      | exact ⟨ret_bb (HR0.out rfl).symm (by rw [HB.out]; rfl), (by first | exact Below.refl _ _ | assumption | exact HBB.out)⟩
      | exact ⟨ret_bb (by rw [HR.out _ HY.out]; rfl) (by rw [HB.out]; rfl), (by first | exact Below.refl _ _ | assumption | exact HBB.out)⟩
      | fail
  · have HB : Hid (viB x i n l r = false) := by unfold Hid viB; rw [decide_eq_false hn]; rfl
    have H1 : Hid (decide (1 ≤ n ∧ n ≤ 64) = false) := decide_eq_false hn
    have HR := Lib.hid (viR_no HB.out)
    clear hn
    go_enter Try.func56, Try.ntmps56
    go_wp2_with (first
      | (go_at_call 149; refine (impl_within _ _ _ _).mono ?_; rintro e w1 ⟨rfl, rfl⟩; rw [H1.out])
      | fail)
    go_ret2
    exact ⟨ret_bb (by first | (rw [HR.out]; done) | (rw [HR.out]; rfl) | exact HR.out.symm) (by first | (rw [HB.out]; done) | (rw [HB.out]; rfl) | exact HB.out.symm), Below.refl _ _⟩
set_option maxHeartbeats 1000000 in
theorem spec_kIncluded (x i n : Int) (v : Value) (l : List Int) (r : Int) (o : Option Int) (w : World) (h : Ints w v l) (hn : n ≤ 64) (hi0 : 0 ≤ i) (hi1 : i ≤ n - 1) (hd : l.all digestB = true) (hx : digestB x = true) (ho : incN 65 x i.toNat n.toNat l = o) :
    Calls Try.prog 162 #[.int .i64 x, .int .i64 i, .int .i64 n, v, .int .i64 r] w fun e w' => e = .returned (.bool (decide (o = some r))) ∧ Below w.heap.size w w' := by
  have H := Lib.hid h; clear h
  have HD := Lib.hid hd; have HX := Lib.hid hx; have HO := Lib.hid ho
  clear hd hx ho
  cases o with
  | none =>
    go_enter Try.func162, Try.ntmps162
    go_wp2_with fail
    refine (spec_kFold 65 x i n v l none _ H.out (by omega) hn hi0 hi1 HD.out HX.out (by omega) HO.out).mono ?_
    rintro e w2 ⟨⟨y, rfl, _, _⟩, hb2⟩
    go_wp2_with fail
    go_ret
    exact ⟨ret_bool (by simp), hb2⟩
  | some d =>
    go_enter Try.func162, Try.ntmps162
    go_wp2_with fail
    refine (spec_kFold 65 x i n v l (some d) _ H.out (by omega) hn hi0 hi1 HD.out HX.out (by omega) HO.out).mono ?_
    rintro e w2 ⟨⟨y, rfl, _, hy⟩, hb2⟩
    obtain rfl := hy d rfl
    clear hy
    go_wp2_with fail
    go_ret
    exact ⟨ret_bool (by rw [Bool.eq_iff_iff]; simp), hb2⟩
set_option maxHeartbeats 4000000 in
theorem spec_VerifyInclusion (x i n : Int) (v : Value) (l : List Int) (r : Int) (w : World) (hx : I64 x) (hr : I64 r) (h : Ints w v l) :
    Calls Try.prog 58 #[.int .i64 x, .int .i64 i, .int .i64 n, v, .int .i64 r] w fun e w' => e = .returned (.tuple #[.bool (viR x i n l r), .bool (viB x i n l r)]) ∧ Below w.heap.size w w' := by
  have H := Lib.hid h; clear h
  have HL2 : Hid (Ints (w.alloc (.cells #[.int .i64 x, .int .i64 r] 3)) (.slice (some ⟨w.heap.size, 0, none⟩) 2 2) [x, r]) := (OwnI.lit w (Nat.le_refl _) (AllI64.cons hx (AllI64.one hr)) rfl (by simp [maxLen]) 2 rfl).ints
  clear hx hr
  by_cases hn : 1 ≤ n ∧ n ≤ 64
  · obtain ⟨hn1, hn2⟩ := hn
    (obtain ⟨q2, h_q⟩ : ∃ q, decide (0 ≤ i ∧ i ≤ n - 1) = q := ⟨_, rfl⟩); have H2 := Lib.hid h_q; clear h_q
    (obtain ⟨q3, h_q⟩ : ∃ q, digestB x = q := ⟨_, rfl⟩); have H3 := Lib.hid h_q; clear h_q
    (obtain ⟨q4, h_q⟩ : ∃ q, digestB r = q := ⟨_, rfl⟩); have H4 := Lib.hid h_q; clear h_q
    (obtain ⟨q5, h_q⟩ : ∃ q, l.all digestB = q := ⟨_, rfl⟩); have H5 := Lib.hid h_q; clear h_q
    have HB : Hid (viB x i n l r = (q2 && (q3 && (q4 && q5)))) := by unfold Hid viB; rw [H2.out, H3.out, H4.out, H5.out, decide_eq_true ⟨hn1, hn2⟩]; rfl
    have H1 : Hid (decide (1 ≤ n ∧ n ≤ 64) = true) := decide_eq_true ⟨hn1, hn2⟩
    obtain ⟨o, ho⟩ : ∃ o, incN 65 x i.toNat n.toNat l = o := ⟨_, rfl⟩
    have HO := Lib.hid ho; clear ho
    have HR : Hid (viR x i n l r = (q2 && (q3 && (q4 && (q5 && decide (o = some r)))))) := by
      unfold Hid viR
      rw [HB.out, HO.out]
      cases q2 <;> cases q3 <;> cases q4 <;> cases q5 <;> rfl
    have H34 : Hid (([x, r].all fun z => decide (0 ≤ z ∧ z ≤ 4611686018427387903)) = (q3 && q4)) := by unfold Hid; rw [← H3.out, ← H4.out]; simp [digestB]
    have H5b : Hid ((l.all fun z => decide (0 ≤ z ∧ z ≤ 4611686018427387903)) = q5) := H5.out
    go_enter Try.func58, Try.ntmps58
    go_wp2_with (first
      | (go_at_call 109; refine (spec_l1In _ _ _ _).mono ?_; rintro e w1 ⟨rfl, rfl⟩; first | rw [H1.out] | (rw [H2.out]; cases q2))
      | (go_at_call_of 161 (Value.slice (some ⟨w.heap.size, 0, none⟩) 2 2); refine (spec_l1All _ [x, r] _ _ _ HL2.out).mono ?_; rintro e w1 ⟨rfl, rfl⟩; rw [H34.out]; cases q3 <;> cases q4)
      | (go_at_call 161; refine (spec_l1All _ l _ _ _ (H.out.alloc _)).mono ?_; rintro e w1 ⟨rfl, rfl⟩; rw [H5b.out]; cases q5)
      | (go_at_call 162; refine (spec_kIncluded x i n v l r o _ (H.out.alloc _) hn2 (by first | omega | exact (of_decide_eq_true H2.out).1) (by first | omega | exact (of_decide_eq_true H2.out).2) H5.out H3.out HO.out).mono ?_; rintro e w2 ⟨rfl, hb2⟩; (have HBB := Lib.hid (((Below.refl w.heap.size w).alloc (Nat.le_refl _) _).trans (hb2.mono (by simp)))); clear hb2)
      | fail)
    all_goals go_ret2
    all_goals exact ⟨ret_bb (by rw [HR.out]; rfl) (by rw [HB.out]; rfl), by first | exact Below.refl _ _ | exact (Below.refl _ _).alloc (Nat.le_refl _) _ | exact HBB.out⟩
  · have HB : Hid (viB x i n l r = false) := by unfold Hid viB; rw [decide_eq_false hn]; rfl
    have H1 : Hid (decide (1 ≤ n ∧ n ≤ 64) = false) := decide_eq_false hn
    have HR := Lib.hid (viR_no HB.out)
    clear hn
    go_enter Try.func58, Try.ntmps58
    go_wp2_with (first
      | (go_at_call 109; refine (spec_l1In _ _ _ _).mono ?_; rintro e w1 ⟨rfl, rfl⟩; rw [H1.out])
      | fail)
    go_ret2
    exact ⟨ret_bb (by first | (rw [HR.out]; done) | (rw [HR.out]; rfl) | exact HR.out.symm) (by first | (rw [HB.out]; done) | (rw [HB.out]; rfl) | exact HB.out.symm), Below.refl _ _⟩
theorem impl_RootOf (v : Value) (l : List Int) (w : World) (h : Ints w v l) :
    Calls Try.prog 55 #[v] w fun e w' => e = .returned (.tuple #[.int .i64 (if goodL l = true then root l else 0), .bool (goodL l)]) ∧ Below w.heap.size w w' := by
  have H := Lib.hid h; clear h
  (obtain ⟨q, h_q⟩ : ∃ q, goodL l = q := ⟨_, rfl⟩); have HQ := Lib.hid h_q; clear h_q
  rw [HQ.out]
  go_enter Try.func55, Try.ntmps55
  go_wp2_with (first
    | (go_at_call 148; refine (impl_areLeaves _ l _ H.out).mono ?_; rintro e w1 ⟨rfl, hb1⟩; rw [HQ.out]; cases q)
    | (go_at_call 153; refine (impl_rootOf 65 _ l _ (H.out.below hb1) (by have := (goodL_yes HQ.out).1; omega) (goodL_yes HQ.out).1 (goodL_yes HQ.out).2).mono ?_; rintro e w2 ⟨rfl, hb2⟩; (have HBB := Lib.hid (Below.next hb1 hb2)); clear hb1 hb2)
    | fail)
  all_goals go_ret2
  all_goals exact ⟨rfl, by first | assumption | exact HBB.out⟩
def AnyB (e : Ending) : Prop := ∃ b, e = .returned (.bool b)
theorem laws_big (v1 v2 : Value) (w : World) (h1 : Bytes w v1) (h2 : Bytes w v2) :
    Calls Try.prog 50 #[v1, v2] w fun e w' => AnyB e ∧ w = w' := by
  obtain ⟨a1, n1, c1, rfl, k1, k2, _⟩ := h1
  obtain ⟨a2, n2, c2, rfl, k3, k4, _⟩ := h2
  unfold maxLen at k2 k4
  go_enter Try.func50, Try.ntmps50
  go_wp2
  all_goals go_ret
  all_goals exact ⟨⟨_, rfl⟩, rfl⟩
set_option maxHeartbeats 400000 in
theorem laws_sameInts (v1 v2 : Value) (l1 l2 : List Int) (w : World) (h1 : Ints w v1 l1) (h2 : Ints w v2 l2) :
    Calls Try.prog 54 #[v1, v2] w fun e w' => e = .returned (.bool (decide (l1 = l2))) ∧ Below w.heap.size w w' := by
  obtain ⟨a1, n1, c1, rfl⟩ := h1.shape
  obtain ⟨a2, n2, c2, rfl⟩ := h2.shape
  have k1 := h1.capMax
  have k2 := h2.capMax
  unfold maxLen at k1 k2
  obtain ⟨k1, k1'⟩ := k1
  obtain ⟨k2, k2'⟩ := k2
  by_cases hn : n1 = n2
  · subst hn
    go_enter Try.func54, Try.ntmps54
    go_wp2
    go_loopg [13] n1 (fun g i wr => ∃ k m : Nat, k + g = n1 ∧ i = .int .i64 k ∧ Hid (∀ i, i < k → nth l1 i = nth l2 i) ∧ wr = w.drewN m)
    case atStart => exact ⟨0, 0, by omega, rfl, fun i h => by omega, rfl⟩
    case round =>
      obtain ⟨k, m, hk, rfl, H, rfl⟩ := hrel
      by_cases hlt : k < n1
      · obtain ⟨b1, o1, rfl, hc1⟩ := h1.at_ (by omega)
        obtain ⟨b2, o2, rfl, hc2⟩ := h2.at_ (by omega)
        have hx1 := hc1 k hlt
        have hx2 := hc2 k hlt
        clear hc1 hc2
        by_cases hx : nth l1 k = nth l2 k
        · have H' : Hid (∀ i, i < k + 1 → nth l1 i = nth l2 i) := fun i hi => by
            rcases Nat.lt_succ_iff_lt_or_eq.1 hi with h | rfl
            · exact H.out i h
            · exact hx
          have hxb : (nth l1 k != nth l2 k) = false := by simpa using hx
          clear hx H
          go_wp2
          go_quiet (fail)
          go_wp2
          go_roundg (n1 - (k + 1))
          case measure => omega
          case rel => exact ⟨k + 1, m + nq, by omega, by go_num, H', (by first | rfl | exact World.drewN_drewN _ _ _)⟩
        · have hxb : (nth l1 k != nth l2 k) = true := by simpa using hx
          have HR : Hid (decide (l1 = l2) = false) := by
            refine decide_eq_false fun e => hx (by rw [e])
          clear hx H
          go_wp2
          go_quiet (fail)
          go_wp2
          go_ret
          exact ⟨ret_bool (by first | (rw [HR.out]; done) | (rw [HR.out]; rfl) | exact HR.out.symm), below_drewN (below_drewN (Below.refl _ _) _) _⟩
      · have e1 := h1.len
        have e2 := h2.len
        have HR : Hid (decide (l1 = l2) = true) := decide_eq_true (eq_of_nth (e1.trans e2.symm) fun i hi => H.out i (by omega))
        clear e1 e2 H
        go_wp2
        go_ret
        exact ⟨ret_bool (by first | (rw [HR.out]; done) | (rw [HR.out]; rfl) | exact HR.out.symm), below_drewN (Below.refl _ _) _⟩
  · have HR : Hid (decide (l1 = l2) = false) := by
      refine decide_eq_false fun e => hn ?_
      rw [← h1.len, ← h2.len, e]
    have hb : ((n1 : Int) != (n2 : Int)) = true := by rw [bne_iff_ne]; omega
    clear hn
    go_enter Try.func54, Try.ntmps54
    go_wp2
    go_ret
    exact ⟨ret_bool (by first | (rw [HR.out]; done) | (rw [HR.out]; rfl) | exact HR.out.symm), Below.refl _ _⟩
end Go.Proofs.Ytlapmdcjfopbaaa
