/- Walks: VerifyConsistency (printed by gen_merkle4.py). -/
import Derived.Test.YtlapmdcjfopbaaaMerkle3
namespace Go.Proofs.Ytlapmdcjfopbaaa
open Go.RowKit
set_option linter.unusedSimpArgs false
set_option linter.unusedVariables false

/-- both roots that result from a path, and whether it has the right length -/
def bothN : Nat → Nat → Nat → Int → Bool → List Int → Int × Int × Bool
  | 0, _, _, _, _, _ => (0, 0, false)
  | f + 1, m, n, x, b, l =>
    if m = n then (if b = true then (x, x, decide (l.length = 0)) else if l.length = 1 then (nth l 0, nth l 0, true) else (0, 0, false))
    else if l.length = 0 then (0, 0, false)
    else if m ≤ splitN n then
      ((bothN f m (splitN n) x b (l.take (l.length - 1))).1, node (bothN f m (splitN n) x b (l.take (l.length - 1))).2.1 (nth l (l.length - 1)), (bothN f m (splitN n) x b (l.take (l.length - 1))).2.2)
    else
      (node (nth l (l.length - 1)) (bothN f (m - splitN n) (n - splitN n) x false (l.take (l.length - 1))).1, node (nth l (l.length - 1)) (bothN f (m - splitN n) (n - splitN n) x false (l.take (l.length - 1))).2.1, (bothN f (m - splitN n) (n - splitN n) x false (l.take (l.length - 1))).2.2)
theorem bothN_digest {f : Nat} : ∀ {m n : Nat} {x : Int} {b : Bool} {l : List Int}, digestB x = true → l.all digestB = true →
    digestB (bothN f m n x b l).1 = true ∧ digestB (bothN f m n x b l).2.1 = true := by
  induction f with
  | zero => intro m n x b l _ _; exact ⟨rfl, rfl⟩
  | succ f ih =>
    intro m n x b l hx hl
    unfold bothN
    split
    · split
      · exact ⟨hx, hx⟩
      · split
        · exact ⟨nth_digest hl _, nth_digest hl _⟩
        · exact ⟨rfl, rfl⟩
    · split
      · exact ⟨rfl, rfl⟩
      · split
        · exact ⟨(ih hx (all_take hl _)).1, digestB_node _ _⟩
        · exact ⟨digestB_node _ _, digestB_node _ _⟩
theorem keep_c {w wa w' : World} {b o : Nat} {x : Value} (hS : Below w.heap.size w wa ∧ wa.cell? ⟨b, o, none⟩ = some x) (hb : Below wa.heap.size wa w') :
    Below w.heap.size w w' ∧ w'.cell? ⟨b, o, none⟩ = some x :=
  ⟨keep_b hb hS.1, (hb.cell (p := ⟨b, o, none⟩) (World.block_lt_of_cell? wa _ hS.2)).trans hS.2⟩
theorem ret_iib {a a' b b' : Int} {c c' : Bool} (h1 : a = a') (h2 : b = b') (h3 : c = c') : Ending.returned (.tuple #[.int .i64 a, .int .i64 b, .bool c]) = .returned (.tuple #[.int .i64 a', .int .i64 b', .bool c']) := by rw [h1, h2, h3]
/-- VerifyConsistency -/
def vcB (m n x y : Int) (l : List Int) : Bool := decide (1 ≤ n ∧ n ≤ 64) && (decide (1 ≤ m ∧ m ≤ n) && (digestB x && (digestB y && l.all digestB)))
def vcR (m n x y : Int) (l : List Int) : Bool := vcB m n x y l && ((bothN 65 m.toNat n.toNat x true l).2.2 && (decide ((bothN 65 m.toNat n.toNat x true l).1 = x) && decide ((bothN 65 m.toNat n.toNat x true l).2.1 = y)))
set_option maxRecDepth 100000 in
set_option maxHeartbeats 2000000 in
theorem impl_consistent (f : Nat) : ∀ (m n x : Int) (b : Bool) (v : Value) (l : List Int) (r1 r2 : Int) (r3 : Bool) (w : World), Ints w v l → n < f → n ≤ 64 → 1 ≤ m → m ≤ n → l.all digestB = true → digestB x = true → f ≤ 65 →
    bothN f m.toNat n.toNat x b l = (r1, r2, r3) →
    Calls Try.prog 165 #[.int .i64 m, .int .i64 n, .int .i64 x, .bool b, v] w fun e w' => e = .returned (.tuple #[.int .i64 r1, .int .i64 r2, .bool r3]) ∧ Below w.heap.size w w' := by
  induction f with
  | zero => intro m n x b v l r1 r2 r3 w _ h; omega
  | succ f ih =>
    intro m n x b v l r1 r2 r3 w h hf hn hm1 hm2 hd hx hf65 hr
    obtain ⟨N, rfl⟩ : ∃ N : Nat, n = N := ⟨n.toNat, by omega⟩
    obtain ⟨a, p, c, rfl⟩ := h.shape
    have e := h.len
    obtain ⟨k1, k2⟩ := h.capMax
    unfold maxLen at k2
    rw [Int.toNat_natCast] at hr
    have H := Lib.hid h; clear h
    have HE := Lib.hid e
    have IH := Lib.hid ih; clear ih
    have ew : IntKind.i64.wrap ((p : Int) - 1) = (p : Int) - 1 := IntWalk.i64_in _ (by omega)
    rw [bothN] at hr
    by_cases h1 : m = (N : Int)
    · rw [if_pos (by omega)] at hr
      cases b with
      | true =>
        rw [if_pos rfl] at hr
        cases hr
        clear hd hx
        subst h1
        rw [e]; clear e
        go_enter Try.func165, Try.ntmps165
        go_wp2_with fail
        go_ret3
        exact ⟨ret_iib rfl rfl (by first | rfl | (rw [Bool.eq_iff_iff]; simp; done) | first | (rw [decide_eq_decide]; omega) | (rw [eq_comm, decide_eq_false_iff_not]; omega) | (rw [eq_comm, decide_eq_true_iff]; omega) | (rw [Bool.eq_iff_iff]; simp; omega)), Below.refl _ _⟩
      | false =>
        rw [if_neg (by simp)] at hr
        by_cases h2 : p = 1
        · rw [if_pos (by omega)] at hr
          cases hr
          obtain ⟨bk, o, rfl, hcx⟩ := H.out.at_ (by omega)
          have hy := hcx 0 (by omega)
          rw [Nat.add_zero] at hy
          clear hcx hd hx e
          subst h1
          subst h2
          go_enter Try.func165, Try.ntmps165
          go_wp2_with fail
          go_quiet (fail)
          go_wp2_with fail
          go_ret3
          exact ⟨ret_iib rfl rfl rfl, below_drewN (Below.refl _ _) _⟩
        · rw [if_neg (by omega)] at hr
          cases hr
          have hz : ((p : Int) - 1 == 0) = false := by rw [beq_eq_false_iff_ne]; omega
          clear hd hx e
          subst h1
          go_enter Try.func165, Try.ntmps165
          go_wp2_with fail
          go_ret3
          exact ⟨ret_iib rfl rfl rfl, Below.refl _ _⟩
    · rw [if_neg (by omega)] at hr
      have hmn : (m == (N : Int)) = false := by rw [beq_eq_false_iff_ne]; exact h1
      by_cases h2 : p = 0
      · rw [if_pos (by omega)] at hr
        cases hr
        clear hd hx e
        subst h2
        go_enter Try.func165, Try.ntmps165
        go_wp2_with fail
        go_ret3
        exact ⟨ret_iib rfl rfl rfl, Below.refl _ _⟩
      · rw [if_neg (by omega)] at hr
        have hp1 : 1 ≤ p := by omega
        have hz : ((p : Int) == 0) = false := by rw [beq_eq_false_iff_ne]; omega
        obtain ⟨s1, s2, s3⟩ := splitN_bd N (by omega) (by omega)
        obtain ⟨bk, o, rfl, hcx⟩ := H.out.at_ (by omega)
        have hy := hcx (p - 1) (by omega)
        clear hcx
        rw [e] at hr
        have HD := Lib.hid hd; clear hd
        have HX := Lib.hid hx; clear hx
        have HN := Lib.hid (nth_digest HD.out (p - 1))
        have het : (((p : Int) - 1).toNat) = p - 1 := by omega
        have z1 : (0 : Int) ≤ (p : Int) - 1 := by omega
        have z2 : (p : Int) - 1 < (p : Int) := by omega
        have h2N : 2 ≤ N := by omega
        by_cases hlt : m ≤ (splitN N : Nat)
        · rw [if_pos (by omega)] at hr
          have hdig := bothN_digest (f := f) (m := m.toNat) (n := splitN N) (x := x) (b := b) (l := l.take (p - 1)) HX.out (all_take HD.out _)
          obtain ⟨⟨t1, t2, t3⟩, ht⟩ : ∃ t, bothN f m.toNat (splitN N) x b (l.take (p - 1)) = t := ⟨_, rfl⟩
          rw [ht] at hr hdig
          simp only at hr hdig
          obtain ⟨hd1, hd2⟩ := hdig
          have HT := Lib.hid ht; clear ht
          have HD1 := Lib.hid hd1; clear hd1
          have HD2 := Lib.hid hd2; clear hd2
          rw [Prod.mk.injEq, Prod.mk.injEq] at hr
          obtain ⟨rfl, rfl, rfl⟩ := hr
          clear h1 e
          generalize hnl : nth l (p - 1) = z at *
          clear hnl
          go_enter Try.func165, Try.ntmps165
          go_wp2_with fail
          refine (impl_half N _ h2N (by omega)).mono ?_
          rintro e w' ⟨rfl, rfl⟩
          generalize hsn : splitN N = sn at *
          have HSN := Lib.hid hsn; clear hsn
          go_wp2_with fail
          refine (IH.out m sn x b _ (l.take (p - 1)) t1 t2 t3 _ (H.out.take (by omega)) (by omega) (by omega) hm1 hlt (all_take HD.out _) HX.out (by omega) (by rw [Int.toNat_natCast]; exact HT.out)).mono ?_
          rintro e w1 ⟨rfl, hb1⟩
          rw [← hb1.cell (p := ⟨bk, o + (p - 1), none⟩) (World.block_lt_of_cell? w _ hy)] at hy
          go_wp2_with fail
          refine (impl_nodeOf t2 _ _ HD2.out HN.out).mono ?_
          rintro e w2 ⟨rfl, hb2⟩
          go_wp2_with fail
          go_ret3
          exact ⟨ret_iib rfl rfl rfl, hb1.trans (hb2.mono hb1.size)⟩
        · rw [if_neg (by omega)] at hr
          have hdig := bothN_digest (f := f) (m := m.toNat - splitN N) (n := N - splitN N) (x := x) (b := false) (l := l.take (p - 1)) HX.out (all_take HD.out _)
          obtain ⟨⟨t1, t2, t3⟩, ht⟩ : ∃ t, bothN f (m.toNat - splitN N) (N - splitN N) x false (l.take (p - 1)) = t := ⟨_, rfl⟩
          rw [ht] at hr hdig
          simp only at hr hdig
          obtain ⟨hd1, hd2⟩ := hdig
          have HT := Lib.hid ht; clear ht
          have HD1 := Lib.hid hd1; clear hd1
          have HD2 := Lib.hid hd2; clear hd2
          rw [Prod.mk.injEq, Prod.mk.injEq] at hr
          obtain ⟨rfl, rfl, rfl⟩ := hr
          clear h1 e
          generalize hnl : nth l (p - 1) = z at *
          clear hnl
          go_enter Try.func165, Try.ntmps165
          go_wp2_with fail
          refine (impl_half N _ h2N (by omega)).mono ?_
          rintro e w' ⟨rfl, rfl⟩
          generalize hsn : splitN N = sn at *
          have HSN := Lib.hid hsn; clear hsn
          have e1 : IntKind.i64.wrap (m - (sn : Int)) = m - (sn : Int) := IntWalk.i64_in _ (by omega)
          have e2 : IntKind.i64.wrap ((N : Int) - (sn : Int)) = (N : Int) - (sn : Int) := IntWalk.i64_in _ (by omega)
          go_wp2_with fail
          refine (IH.out (m - (sn : Int)) ((N : Int) - (sn : Int)) x false _ (l.take (p - 1)) t1 t2 t3 _ (H.out.take (by omega)) (by omega) (by omega) (by omega) (by omega) (all_take HD.out _) HX.out (by omega) (by rw [show (m - (sn : Int)).toNat = m.toNat - sn by omega, show ((N : Int) - (sn : Int)).toNat = N - sn by omega]; exact HT.out)).mono ?_
          rintro e w1 ⟨rfl, hb1⟩
          rw [← hb1.cell (p := ⟨bk, o + (p - 1), none⟩) (World.block_lt_of_cell? w _ hy)] at hy
          go_wp2_with fail
          generalize hq : (p : Int) - 1 = q at *
          clear hq
          go_region_held3 (fun w' => Below w1.heap.size w1 w' ∧ w'.cell? ⟨bk, o + (p - 1), none⟩ = some (.int .i64 z)) (first | exact ⟨(Below.refl _ _).drew, hy⟩ | exact keep_c (by assumption) (by assumption)) ((first | (go_at_call 172; (with_reducible refine (impl_nodeOf z t1 _ HN.out HD1.out).mono ?_); rintro e w2 ⟨rfl, hb2⟩) | (go_at_call 172; (with_reducible refine (impl_nodeOf z t2 _ HN.out HD2.out).mono ?_); rintro e w3 ⟨rfl, hb3⟩)))
          go_wp2_with fail
          go_ret3
          exact ⟨ret_iib rfl rfl rfl, keep_b (‹Below w1.heap.size w1 _ ∧ _›).1 hb1⟩
set_option maxRecDepth 100000 in
set_option maxHeartbeats 2000000 in
theorem spec_kBoth (f : Nat) : ∀ (m n x : Int) (b : Bool) (v : Value) (l : List Int) (r1 r2 : Int) (r3 : Bool) (w : World), Ints w v l → n < f → n ≤ 64 → 1 ≤ m → m ≤ n → l.all digestB = true → digestB x = true → f ≤ 65 →
    bothN f m.toNat n.toNat x b l = (r1, r2, r3) →
    Calls Try.prog 238 #[.int .i64 m, .int .i64 n, .int .i64 x, .bool b, v] w fun e w' => e = .returned (.tuple #[.int .i64 r1, .int .i64 r2, .bool r3]) ∧ Below w.heap.size w w' := by
  induction f with
  | zero => intro m n x b v l r1 r2 r3 w _ h; omega
  | succ f ih =>
    intro m n x b v l r1 r2 r3 w h hf hn hm1 hm2 hd hx hf65 hr
    obtain ⟨N, rfl⟩ : ∃ N : Nat, n = N := ⟨n.toNat, by omega⟩
    obtain ⟨a, p, c, rfl⟩ := h.shape
    have e := h.len
    obtain ⟨k1, k2⟩ := h.capMax
    unfold maxLen at k2
    rw [Int.toNat_natCast] at hr
    have H := Lib.hid h; clear h
    have HE := Lib.hid e
    have IH := Lib.hid ih; clear ih
    have ew : IntKind.i64.wrap ((p : Int) - 1) = (p : Int) - 1 := IntWalk.i64_in _ (by omega)
    rw [bothN] at hr
    by_cases h1 : m = (N : Int)
    · rw [if_pos (by omega)] at hr
      cases b with
      | true =>
        rw [if_pos rfl] at hr
        cases hr
        clear hd hx
        subst h1
        rw [e]; clear e
        go_enter Try.func238, Try.ntmps238
        go_wp2_with fail
        go_ret3
        exact ⟨ret_iib rfl rfl (by first | rfl | (rw [Bool.eq_iff_iff]; simp; done) | first | (rw [decide_eq_decide]; omega) | (rw [eq_comm, decide_eq_false_iff_not]; omega) | (rw [eq_comm, decide_eq_true_iff]; omega) | (rw [Bool.eq_iff_iff]; simp; omega)), Below.refl _ _⟩
      | false =>
        rw [if_neg (by simp)] at hr
        by_cases h2 : p = 1
        · rw [if_pos (by omega)] at hr
          cases hr
          obtain ⟨bk, o, rfl, hcx⟩ := H.out.at_ (by omega)
          have hy := hcx 0 (by omega)
          rw [Nat.add_zero] at hy
          clear hcx hd hx e
          subst h1
          subst h2
          go_enter Try.func238, Try.ntmps238
          go_wp2_with fail
          go_quiet (fail)
          go_wp2_with fail
          go_ret3
          exact ⟨ret_iib rfl rfl rfl, below_drewN (Below.refl _ _) _⟩
        · rw [if_neg (by omega)] at hr
          cases hr
          have hz : ((p : Int) == 1) = false := by rw [beq_eq_false_iff_ne]; omega
          clear hd hx e
          subst h1
          go_enter Try.func238, Try.ntmps238
          go_wp2_with fail
          go_ret3
          exact ⟨ret_iib rfl rfl rfl, Below.refl _ _⟩
    · rw [if_neg (by omega)] at hr
      have hmn : (m == (N : Int)) = false := by rw [beq_eq_false_iff_ne]; exact h1
      by_cases h2 : p = 0
      · rw [if_pos (by omega)] at hr
        cases hr
        clear hd hx e
        subst h2
        go_enter Try.func238, Try.ntmps238
        go_wp2_with fail
        go_ret3
        exact ⟨ret_iib rfl rfl rfl, Below.refl _ _⟩
      · rw [if_neg (by omega)] at hr
        have hp1 : 1 ≤ p := by omega
        have hz : ((p : Int) == 0) = false := by rw [beq_eq_false_iff_ne]; omega
        obtain ⟨s1, s2, s3⟩ := splitN_bd N (by omega) (by omega)
        obtain ⟨bk, o, rfl, hcx⟩ := H.out.at_ (by omega)
        have hy := hcx (p - 1) (by omega)
        clear hcx
        rw [e] at hr
        have HD := Lib.hid hd; clear hd
        have HX := Lib.hid hx; clear hx
        have HN := Lib.hid (nth_digest HD.out (p - 1))
        have het : (((p : Int) - 1).toNat) = p - 1 := by omega
        have z1 : (0 : Int) ≤ (p : Int) - 1 := by omega
        have z2 : (p : Int) - 1 < (p : Int) := by omega
        have h2N : 2 ≤ N := by omega
        by_cases hlt : m ≤ (splitN N : Nat)
        · rw [if_pos (by omega)] at hr
          have hdig := bothN_digest (f := f) (m := m.toNat) (n := splitN N) (x := x) (b := b) (l := l.take (p - 1)) HX.out (all_take HD.out _)
          obtain ⟨⟨t1, t2, t3⟩, ht⟩ : ∃ t, bothN f m.toNat (splitN N) x b (l.take (p - 1)) = t := ⟨_, rfl⟩
          rw [ht] at hr hdig
          simp only at hr hdig
          obtain ⟨hd1, hd2⟩ := hdig
          have HT := Lib.hid ht; clear ht
          have HD1 := Lib.hid hd1; clear hd1
          have HD2 := Lib.hid hd2; clear hd2
          rw [Prod.mk.injEq, Prod.mk.injEq] at hr
          obtain ⟨rfl, rfl, rfl⟩ := hr
          clear h1 e
          generalize hnl : nth l (p - 1) = z at *
          clear hnl
          go_enter Try.func238, Try.ntmps238
          go_wp2_with fail
          refine (spec_kSplit N _ (by omega) (by omega)).mono ?_
          rintro e w' ⟨rfl, rfl⟩
          generalize hsn : splitN N = sn at *
          have HSN := Lib.hid hsn; clear hsn
          go_wp2_with fail
          refine (IH.out m sn x b _ (l.take (p - 1)) t1 t2 t3 _ (H.out.take (by omega)) (by omega) (by omega) hm1 hlt (all_take HD.out _) HX.out (by omega) (by rw [Int.toNat_natCast]; exact HT.out)).mono ?_
          rintro e w1 ⟨rfl, hb1⟩
          rw [← hb1.cell (p := ⟨bk, o + (p - 1), none⟩) (World.block_lt_of_cell? w _ hy)] at hy
          go_wp2_with fail
          refine (spec_kNode t2 _ _ HD2.out HN.out).mono ?_
          rintro e w2 ⟨rfl, hb2⟩
          go_wp2_with fail
          go_ret3
          exact ⟨ret_iib rfl rfl rfl, hb1.trans (hb2.mono hb1.size)⟩
        · rw [if_neg (by omega)] at hr
          have hdig := bothN_digest (f := f) (m := m.toNat - splitN N) (n := N - splitN N) (x := x) (b := false) (l := l.take (p - 1)) HX.out (all_take HD.out _)
          obtain ⟨⟨t1, t2, t3⟩, ht⟩ : ∃ t, bothN f (m.toNat - splitN N) (N - splitN N) x false (l.take (p - 1)) = t := ⟨_, rfl⟩
          rw [ht] at hr hdig
          simp only at hr hdig
          obtain ⟨hd1, hd2⟩ := hdig
          have HT := Lib.hid ht; clear ht
          have HD1 := Lib.hid hd1; clear hd1
          have HD2 := Lib.hid hd2; clear hd2
          rw [Prod.mk.injEq, Prod.mk.injEq] at hr
          obtain ⟨rfl, rfl, rfl⟩ := hr
          clear h1 e
          generalize hnl : nth l (p - 1) = z at *
          clear hnl
          go_enter Try.func238, Try.ntmps238
          go_wp2_with fail
          refine (spec_kSplit N _ (by omega) (by omega)).mono ?_
          rintro e w' ⟨rfl, rfl⟩
          generalize hsn : splitN N = sn at *
          have HSN := Lib.hid hsn; clear hsn
          have e1 : IntKind.i64.wrap (m - (sn : Int)) = m - (sn : Int) := IntWalk.i64_in _ (by omega)
          have e2 : IntKind.i64.wrap ((N : Int) - (sn : Int)) = (N : Int) - (sn : Int) := IntWalk.i64_in _ (by omega)
          go_wp2_with fail
          refine (IH.out (m - (sn : Int)) ((N : Int) - (sn : Int)) x false _ (l.take (p - 1)) t1 t2 t3 _ (H.out.take (by omega)) (by omega) (by omega) (by omega) (by omega) (all_take HD.out _) HX.out (by omega) (by rw [show (m - (sn : Int)).toNat = m.toNat - sn by omega, show ((N : Int) - (sn : Int)).toNat = N - sn by omega]; exact HT.out)).mono ?_
          rintro e w1 ⟨rfl, hb1⟩
          rw [← hb1.cell (p := ⟨bk, o + (p - 1), none⟩) (World.block_lt_of_cell? w _ hy)] at hy
          go_wp2_with fail
          refine (spec_kNode _ t1 _ HN.out HD1.out).mono ?_
          rintro e w2 ⟨rfl, hb2⟩
          go_wp2_with fail
          refine (spec_kNode _ t2 _ HN.out HD2.out).mono ?_
          rintro e w3 ⟨rfl, hb3⟩
          go_wp2_with fail
          go_ret3
          exact ⟨ret_iib rfl rfl rfl, keep_b hb3 (keep_b hb2 hb1)⟩
set_option maxHeartbeats 1000000 in
theorem impl_VerifyConsistency (m n x y : Int) (v : Value) (l : List Int) (w : World) (h1 : I64 x) (h2 : I64 y) (h : Ints w v l) :
    Calls Try.prog 62 #[.int .i64 m, .int .i64 n, .int .i64 x, .int .i64 y, v] w fun e w' => e = .returned (.tuple #[.bool (vcR m n x y l), .bool (vcB m n x y l)]) ∧ Below w.heap.size w w' := by
  have no (hb : vcB m n x y l = false) : vcR m n x y l = false := by unfold vcR; rw [hb]; rfl
  have H := Lib.hid h; clear h
  have NO := Lib.hid no; clear no
  cases hn : decide (1 ≤ n ∧ n ≤ 64) with
  | false =>
    have HB : Hid (vcB m n x y l = false) := by unfold Hid vcB; rw [hn]; rfl
    have HN := Lib.hid hn; clear hn
    go_enter Try.func62, Try.ntmps62
    go_wp2_with fail
    refine (impl_within _ _ _ _).mono ?_; rintro e w1 ⟨rfl, rfl⟩
    rw [HN.out]
    go_wp2_with fail
    go_ret2
    exact ⟨by rw [NO.out HB.out, HB.out]; rfl, Below.refl _ _⟩
  | true =>
  cases hm : decide (1 ≤ m ∧ m ≤ n) with
  | false =>
    have HB : Hid (vcB m n x y l = false) := by unfold Hid vcB; rw [hn, hm]; rfl
    have HN := Lib.hid hn; clear hn
    have HM := Lib.hid hm; clear hm
    go_enter Try.func62, Try.ntmps62
    go_wp2_with fail
    refine (impl_within _ _ _ _).mono ?_; rintro e w1 ⟨rfl, rfl⟩
    rw [HN.out]
    go_wp2_with fail
    refine (impl_within _ _ _ _).mono ?_; rintro e w1 ⟨rfl, rfl⟩
    rw [HM.out]
    go_wp2_with fail
    go_ret2
    exact ⟨by rw [NO.out HB.out, HB.out]; rfl, Below.refl _ _⟩
  | true =>
  obtain ⟨n1, n2⟩ := of_decide_eq_true hn
  obtain ⟨m1, m2⟩ := of_decide_eq_true hm
  have HN := Lib.hid hn
  have HM := Lib.hid hm
  clear h1 h2
  cases hx : digestB x with
  | false =>
    have HB : Hid (vcB m n x y l = false) := by unfold Hid vcB; rw [hn, hm, hx]; rfl
    have HX := Lib.hid hx; clear hx hn hm
    go_enter Try.func62, Try.ntmps62
    go_wp2_with fail
    refine (impl_within _ _ _ _).mono ?_; rintro e w1 ⟨rfl, rfl⟩
    rw [HN.out]
    go_wp2_with fail
    refine (impl_within _ _ _ _).mono ?_; rintro e w1 ⟨rfl, rfl⟩
    rw [HM.out]
    go_wp2_with fail
    refine (impl_isDigest _ _).mono ?_; rintro e w1 ⟨rfl, rfl⟩
    rw [HX.out]
    go_wp2_with fail
    go_ret2
    exact ⟨by rw [NO.out HB.out, HB.out]; rfl, Below.refl _ _⟩
  | true =>
  cases hy : digestB y with
  | false =>
    have HB : Hid (vcB m n x y l = false) := by unfold Hid vcB; rw [hn, hm, hx, hy]; rfl
    have HX := Lib.hid hx; clear hx hn hm
    have HY := Lib.hid hy; clear hy
    go_enter Try.func62, Try.ntmps62
    go_wp2_with fail
    refine (impl_within _ _ _ _).mono ?_; rintro e w1 ⟨rfl, rfl⟩
    rw [HN.out]
    go_wp2_with fail
    refine (impl_within _ _ _ _).mono ?_; rintro e w1 ⟨rfl, rfl⟩
    rw [HM.out]
    go_wp2_with fail
    refine (impl_isDigest _ _).mono ?_; rintro e w1 ⟨rfl, rfl⟩
    rw [HX.out]
    go_wp2_with fail
    refine (impl_isDigest _ _).mono ?_; rintro e w1 ⟨rfl, rfl⟩
    rw [HY.out]
    go_wp2_with fail
    go_ret2
    exact ⟨by rw [NO.out HB.out, HB.out]; rfl, Below.refl _ _⟩
  | true =>
  obtain ⟨⟨t1, t2, t3⟩, ht⟩ : ∃ t, bothN 65 m.toNat n.toNat x true l = t := ⟨_, rfl⟩
  cases hl : l.all digestB with
  | false =>
    have HB : Hid (vcB m n x y l = false) := by unfold Hid vcB; rw [hn, hm, hx, hy, hl]; rfl
    have HX := Lib.hid hx; clear hx hn hm
    have HY := Lib.hid hy; clear hy
    have HL := Lib.hid hl; clear hl
    go_enter Try.func62, Try.ntmps62
    go_wp2_with fail
    refine (impl_within _ _ _ _).mono ?_; rintro e w1 ⟨rfl, rfl⟩
    rw [HN.out]
    go_wp2_with fail
    refine (impl_within _ _ _ _).mono ?_; rintro e w1 ⟨rfl, rfl⟩
    rw [HM.out]
    go_wp2_with fail
    refine (impl_isDigest _ _).mono ?_; rintro e w1 ⟨rfl, rfl⟩
    rw [HX.out]
    go_wp2_with fail
    refine (impl_isDigest _ _).mono ?_; rintro e w1 ⟨rfl, rfl⟩
    rw [HY.out]
    go_wp2_with fail
    refine (impl_areAll _ l 154 #[] digestB _ H.out (decides_isDigest _)).mono ?_; rintro e w1 ⟨rfl, hb1⟩
    rw [HL.out]
    go_wp2_with fail
    go_ret2
    exact ⟨by rw [NO.out HB.out, HB.out]; rfl, hb1⟩
  | true =>
    have HB : Hid (vcB m n x y l = true) := by unfold Hid vcB; rw [hn, hm, hx, hy, hl]; rfl
    have HR : Hid (vcR m n x y l = (t3 && (decide (t1 = x) && decide (t2 = y)))) := by unfold Hid vcR; rw [HB.out, ht]; rfl
    have HX := Lib.hid hx; clear hx hn hm
    have HY := Lib.hid hy; clear hy
    have HL := Lib.hid hl; clear hl
    have HT := Lib.hid ht; clear ht
    go_enter Try.func62, Try.ntmps62
    go_wp2_with fail
    refine (impl_within _ _ _ _).mono ?_; rintro e w1 ⟨rfl, rfl⟩
    rw [HN.out]
    go_wp2_with fail
    refine (impl_within _ _ _ _).mono ?_; rintro e w1 ⟨rfl, rfl⟩
    rw [HM.out]
    go_wp2_with fail
    refine (impl_isDigest _ _).mono ?_; rintro e w1 ⟨rfl, rfl⟩
    rw [HX.out]
    go_wp2_with fail
    refine (impl_isDigest _ _).mono ?_; rintro e w1 ⟨rfl, rfl⟩
    rw [HY.out]
    go_wp2_with fail
    refine (impl_areAll _ l 154 #[] digestB _ H.out (decides_isDigest _)).mono ?_; rintro e w1 ⟨rfl, hb1⟩
    rw [HL.out]
    go_wp2_with fail
    refine (impl_consistent 65 m n x true _ l t1 t2 t3 _ (H.out.below hb1) (by omega) (by omega) m1 m2 HL.out HX.out (by omega) HT.out).mono ?_
    rintro e w2 ⟨rfl, hb2⟩
    by_cases c1 : t1 = x <;> by_cases c2 : t2 = y <;> cases t3 <;>
    (have d1 : (t1 == x) = decide (t1 = x) := by (first | (rw [decide_eq_true c1, beq_iff_eq]; exact c1) | (rw [decide_eq_false c1, beq_eq_false_iff_ne]; exact c1))
     have d2 : (t2 == y) = decide (t2 = y) := by (first | (rw [decide_eq_true c2, beq_iff_eq]; exact c2) | (rw [decide_eq_false c2, beq_eq_false_iff_ne]; exact c2))
     first | rw [decide_eq_true c1] at d1 HR | rw [decide_eq_false c1] at d1 HR
     first | rw [decide_eq_true c2] at d2 HR | rw [decide_eq_false c2] at d2 HR
     clear c1 c2
     go_wp2_with fail
     go_ret2
     exact ⟨by rw [HR.out, HB.out]; rfl, keep_b hb2 hb1⟩)

theorem spec_kConsistent (m n x y : Int) (v : Value) (l : List Int) (t1 t2 : Int) (t3 : Bool) (w : World) (h : Ints w v l) (hn : n ≤ 64) (hm1 : 1 ≤ m) (hm2 : m ≤ n) (hd : l.all digestB = true) (hx : digestB x = true)
    (ht : bothN 65 m.toNat n.toNat x true l = (t1, t2, t3)) :
    Calls Try.prog 166 #[.int .i64 m, .int .i64 n, .int .i64 x, .int .i64 y, v] w fun e w' => e = .returned (.bool (t3 && (decide (t1 = x) && decide (t2 = y)))) ∧ Below w.heap.size w w' := by
  go_enter Try.func166, Try.ntmps166
  go_wp2_with fail
  refine (spec_kBoth 65 m n x true _ l t1 t2 t3 _ h (by omega) hn hm1 hm2 hd hx (by omega) ht).mono ?_
  rintro e w2 ⟨rfl, hb2⟩
  clear ht hd hx
  by_cases c1 : t1 = x <;> by_cases c2 : t2 = y <;> cases t3 <;>
  (have d1 : (t1 == x) = decide (t1 = x) := by (first | (rw [decide_eq_true c1, beq_iff_eq]; exact c1) | (rw [decide_eq_false c1, beq_eq_false_iff_ne]; exact c1))
   have d2 : (t2 == y) = decide (t2 = y) := by (first | (rw [decide_eq_true c2, beq_iff_eq]; exact c2) | (rw [decide_eq_false c2, beq_eq_false_iff_ne]; exact c2))
   first | rw [decide_eq_true c1] at d1 | rw [decide_eq_false c1] at d1
   first | rw [decide_eq_true c2] at d2 | rw [decide_eq_false c2] at d2
   have C1 := Lib.hid c1
   have C2 := Lib.hid c2
   clear c1 c2
   go_wp2_with fail
   go_ret
   exact ⟨ret_bool (by simp [C1.out, C2.out]), hb2⟩)
set_option maxHeartbeats 1000000 in
theorem spec_VerifyConsistency (m n x y : Int) (v : Value) (l : List Int) (w : World) (h1 : I64 x) (h2 : I64 y) (h : Ints w v l) :
    Calls Try.prog 64 #[.int .i64 m, .int .i64 n, .int .i64 x, .int .i64 y, v] w fun e w' => e = .returned (.tuple #[.bool (vcR m n x y l), .bool (vcB m n x y l)]) ∧ Below w.heap.size w w' := by
  have no (hb : vcB m n x y l = false) : vcR m n x y l = false := by unfold vcR; rw [hb]; rfl
  have H := Lib.hid h; clear h
  have NO := Lib.hid no; clear no
  cases hn : decide (1 ≤ n ∧ n ≤ 64) with
  | false =>
    have HB : Hid (vcB m n x y l = false) := by unfold Hid vcB; rw [hn]; rfl
    have HN := Lib.hid hn; clear hn
    go_enter Try.func64, Try.ntmps64
    go_wp2_with fail
    refine (spec_l1In _ _ _ _).mono ?_; rintro e w1 ⟨rfl, rfl⟩
    rw [HN.out]
    go_wp2_with fail
    go_ret2
    exact ⟨by rw [NO.out HB.out, HB.out]; rfl, Below.refl _ _⟩
  | true =>
  cases hm : decide (1 ≤ m ∧ m ≤ n) with
  | false =>
    have HB : Hid (vcB m n x y l = false) := by unfold Hid vcB; rw [hn, hm]; rfl
    have HN := Lib.hid hn; clear hn
    have HM := Lib.hid hm; clear hm
    go_enter Try.func64, Try.ntmps64
    go_wp2_with fail
    refine (spec_l1In _ _ _ _).mono ?_; rintro e w1 ⟨rfl, rfl⟩
    rw [HN.out]
    go_wp2_with fail
    refine (spec_l1In _ _ _ _).mono ?_; rintro e w1 ⟨rfl, rfl⟩
    rw [HM.out]
    go_wp2_with fail
    go_ret2
    exact ⟨by rw [NO.out HB.out, HB.out]; rfl, Below.refl _ _⟩
  | true =>
  obtain ⟨n1, n2⟩ := of_decide_eq_true hn
  obtain ⟨m1, m2⟩ := of_decide_eq_true hm
  have HN := Lib.hid hn
  have HM := Lib.hid hm
  have hO : Hid (OwnI (w.alloc (.cells #[.int .i64 x, .int .i64 y] 3)) w.heap.size (.slice (some ⟨w.heap.size, 0, none⟩) 2 2) [x, y]) :=
    OwnI.lit w (Nat.le_refl _) (AllI64.cons h1 (AllI64.one h2)) rfl (by simp [maxLen]) 2 rfl
  have HBA : Hid (Below w.heap.size w (w.alloc (.cells #[.int .i64 x, .int .i64 y] 3))) := by unfold Hid; (repeat (first | exact Below.refl _ _ | assumption | refine Below.drew ?_ | refine Below.alloc ?_ (by first | (simp; done) | (simp; omega)) _ | refine Below.setCell ?_ (by first | (simp; done) | (simp; omega)) _))
  clear h1 h2
  cases hxy : (digestB x && digestB y) with
  | false =>
    have HB : Hid (vcB m n x y l = false) := by unfold Hid vcB; rw [hn, hm, ← Bool.and_assoc (digestB x), hxy]; rfl
    have HX : Hid ((([x, y] : List Int).all fun z => decide (0 ≤ z ∧ z ≤ 4611686018427387903)) = false) := by
      unfold Hid; show ([x, y] : List Int).all digestB = false; simpa using hxy
    clear hxy hn hm
    go_enter Try.func64, Try.ntmps64
    go_wp2_with fail
    refine (spec_l1In _ _ _ _).mono ?_; rintro e w1 ⟨rfl, rfl⟩
    rw [HN.out]
    go_wp2_with fail
    refine (spec_l1In _ _ _ _).mono ?_; rintro e w1 ⟨rfl, rfl⟩
    rw [HM.out]
    go_wp2_with fail
    refine (spec_l1All _ [x, y] _ _ _ hO.out.ints).mono ?_; rintro e w1 ⟨rfl, rfl⟩
    rw [HX.out]
    go_wp2_with fail
    go_ret2
    exact ⟨by rw [NO.out HB.out, HB.out]; rfl, HBA.out⟩
  | true =>
  obtain ⟨hx, hy⟩ := Bool.and_eq_true_iff.1 hxy
  have HX : Hid ((([x, y] : List Int).all fun z => decide (0 ≤ z ∧ z ≤ 4611686018427387903)) = true) := by
    unfold Hid; show ([x, y] : List Int).all digestB = true; simp [hx, hy]
  have HDX := Lib.hid hx
  clear hxy
  obtain ⟨⟨t1, t2, t3⟩, ht⟩ : ∃ t, bothN 65 m.toNat n.toNat x true l = t := ⟨_, rfl⟩
  cases hl : l.all digestB with
  | false =>
    have HB : Hid (vcB m n x y l = false) := by unfold Hid vcB; rw [hn, hm, hx, hy, hl]; rfl
    have HL : Hid ((l.all fun z => decide (0 ≤ z ∧ z ≤ 4611686018427387903)) = false) := hl
    clear hx hy hl hn hm ht
    go_enter Try.func64, Try.ntmps64
    go_wp2_with fail
    refine (spec_l1In _ _ _ _).mono ?_; rintro e w1 ⟨rfl, rfl⟩
    rw [HN.out]
    go_wp2_with fail
    refine (spec_l1In _ _ _ _).mono ?_; rintro e w1 ⟨rfl, rfl⟩
    rw [HM.out]
    go_wp2_with fail
    refine (spec_l1All _ [x, y] _ _ _ hO.out.ints).mono ?_; rintro e w1 ⟨rfl, rfl⟩
    rw [HX.out]
    go_wp2_with fail
    refine (spec_l1All _ l _ _ _ (H.out.below HBA.out)).mono ?_; rintro e w1 ⟨rfl, rfl⟩
    rw [HL.out]
    go_wp2_with fail
    go_ret2
    exact ⟨by rw [NO.out HB.out, HB.out]; rfl, HBA.out⟩
  | true =>
    have HB : Hid (vcB m n x y l = true) := by unfold Hid vcB; rw [hn, hm, hx, hy, hl]; rfl
    have HR : Hid (vcR m n x y l = (t3 && (decide (t1 = x) && decide (t2 = y)))) := by unfold Hid vcR; rw [HB.out, ht]; rfl
    have HL : Hid ((l.all fun z => decide (0 ≤ z ∧ z ≤ 4611686018427387903)) = true) := hl
    have HLD := Lib.hid hl
    have HT := Lib.hid ht; clear ht
    clear hx hy hl hn hm
    go_enter Try.func64, Try.ntmps64
    go_wp2_with fail
    refine (spec_l1In _ _ _ _).mono ?_; rintro e w1 ⟨rfl, rfl⟩
    rw [HN.out]
    go_wp2_with fail
    refine (spec_l1In _ _ _ _).mono ?_; rintro e w1 ⟨rfl, rfl⟩
    rw [HM.out]
    go_wp2_with fail
    refine (spec_l1All _ [x, y] _ _ _ hO.out.ints).mono ?_; rintro e w1 ⟨rfl, rfl⟩
    rw [HX.out]
    go_wp2_with fail
    refine (spec_l1All _ l _ _ _ (H.out.below HBA.out)).mono ?_; rintro e w1 ⟨rfl, rfl⟩
    rw [HL.out]
    go_wp2_with fail
    refine (spec_kConsistent m n x y _ l t1 t2 t3 _ (H.out.below HBA.out) n2 m1 m2 HLD.out HDX.out HT.out).mono ?_
    rintro e w2 ⟨rfl, hb2⟩
    rw [← HR.out]
    go_wp2_with fail
    go_ret2
    exact ⟨by rw [HB.out]; rfl, keep_b hb2 HBA.out⟩

end Go.Proofs.Ytlapmdcjfopbaaa
