/- Walks: paths of Merkle trees (printed by gen_merkle2.py). -/
import Derived.Test.YtlapmdcjfopbaaaMerkle
namespace Go.Proofs.Ytlapmdcjfopbaaa
open Go.RowKit
set_option linter.unusedSimpArgs false
set_option linter.unusedVariables false

/-- append as a step of a region that draws its order -/
theorem step_append_ints {ops : Array Oper} {o : Oper} {a : Act} {w : World} {K : Act → World → Prop} {Q : Exit → Act → World → Prop} {E : Prop} (hg : o.guard = none) (s x : Operand)
    (ho : o.op = .call { callee := .builtin .append, args := #[s, x], argTypes := #[37, 37] })
    (B : Nat) (v y : Value) (l m : List Int) (hs : a.eval s = v) (hown : OwnI w B v l) (hx : a.eval x = y) (hy : Ints w y m) (hlen : l.length + m.length ≤ 1000000000000) (hB : B ≤ w.heap.size)
    (hK : ∀ v' w', OwnI w' B v' (l ++ m) → Below B w w' → K (a.put o.dst v') w') : if Region.wanted o (yielded ops a.tmps) = true then Oper.wp Try.prog o a w K Q else E := by
  rw [if_pos (by simp [Region.wanted, hg])]
  obtain ⟨v', w', hr, h1, h2⟩ := run_append_ints (t := 37) rfl hown hy hlen hB o.type
  unfold Oper.wp execOp
  simp only [ho, resolve, invoke, builtin, Sem.run_bind, Sem.run_pure, Result.andThen_ok, List.map_toArray, List.map_cons, List.map_nil, hs, hx, hr]
  exact hK v' w' h1 (hown.grown h2 hB)
theorem keep_t {B : Nat} {w wa w' : World} (hb : Below B wa w') (h : Below B w wa) : Below B w w' := h.trans hb
theorem keep_a {w wa : World} (h : Below w.heap.size w wa) (o : Obj) : Below w.heap.size w (wa.alloc o) := h.alloc h.size o
theorem digest_I64 {x : Int} (h : digestB x = true) : I64 x := by
  simp only [digestB, decide_eq_true_iff] at h; exact ⟨by omega, by omega⟩

/-- the path of a leaf -/
def pathN : Nat → List Int → Nat → List Int
  | 0, _, _ => []
  | f + 1, l, i => if l.length = 1 then [] else if i < splitN l.length then pathN f (l.take (splitN l.length)) i ++ [rootN 65 (l.drop (splitN l.length))] else pathN f (l.drop (splitN l.length)) (i - splitN l.length) ++ [rootN 65 (l.take (splitN l.length))]
theorem pathN_length {f : Nat} : ∀ {l : List Int} {i : Nat}, (pathN f l i).length ≤ f := by
  induction f with
  | zero => intro l i; exact Nat.le_refl _
  | succ f ih =>
    intro l i
    unfold pathN
    split
    · simp
    · split
      · simp; exact ih
      · simp; exact ih
/-- the proof that the first m leaves are the beginning -/
def consN : Nat → Nat → List Int → Bool → List Int
  | 0, _, _, _ => []
  | f + 1, m, l, b => if m = l.length then (if b = true then [] else [rootN 65 l]) else if m ≤ splitN l.length then consN f m (l.take (splitN l.length)) b ++ [rootN 65 (l.drop (splitN l.length))] else consN f (m - splitN l.length) (l.drop (splitN l.length)) false ++ [rootN 65 (l.take (splitN l.length))]
theorem consN_length {f : Nat} : ∀ {m : Nat} {l : List Int} {b : Bool}, (consN f m l b).length ≤ f := by
  induction f with
  | zero => intro m l b; exact Nat.le_refl _
  | succ f ih =>
    intro m l b
    unfold consN
    split
    · split <;> simp
    · split
      · simp; exact ih
      · simp; exact ih
set_option maxRecDepth 100000 in
set_option maxHeartbeats 1000000 in
theorem impl_pathOf (f : Nat) : ∀ (v : Value) (l : List Int) (i : Int) (w : World), Ints w v l → l.length < f → l.length ≤ 64 → l.all digestB = true → 0 ≤ i → i < l.length → f ≤ 65 →
    Calls Try.prog 150 #[v, .int .i64 i] w fun e w' => ∃ v', e = .returned v' ∧ OwnI w' w.heap.size v' (pathN f l i.toNat) ∧ Below w.heap.size w w' := by
  induction f with
  | zero => intro v l i w _ h; omega
  | succ f ih =>
    intro v l i w h hf hl hd hi0 hi1 hf65
    obtain ⟨a, n, c, rfl⟩ := h.shape
    have e := h.len
    obtain ⟨k1, k2⟩ := h.capMax
    unfold maxLen at k2
    rw [e] at hf hl hi1
    have H := Lib.hid h
    have HD := Lib.hid hd; clear hd
    have HE := Lib.hid e
    have IH := Lib.hid ih; clear ih
    by_cases h1 : n = 1
    · have HR : Hid (pathN (f + 1) l i.toNat = []) := by unfold Hid; rw [pathN, if_pos (by omega)]
      subst h1
      clear h e
      go_enter Try.func150, Try.ntmps150
      go_wp2_with fail
      go_ret
      exact ⟨_, rfl, by rw [HR.out]; exact OwnI.nil _ _, Below.refl _ _⟩
    · obtain ⟨s1, s2, s3⟩ := splitN_bd n (by omega) (by omega)
      have h2 : 2 ≤ n := by omega
      have hz : ((n : Int) == 1) = false := by rw [beq_eq_false_iff_ne]; omega
      by_cases hlt : i < (splitN n : Nat)
      · have HR : Hid (pathN (f + 1) l i.toNat = pathN f (l.take (splitN n)) i.toNat ++ [rootN 65 (l.drop (splitN n))]) := by
          unfold Hid; rw [pathN, if_neg (by omega), e, if_pos (by omega)]
        clear h1 h e
        go_enter Try.func150, Try.ntmps150
        go_wp2_with fail
        refine (impl_half n _ h2 (by omega)).mono ?_
        rintro e w' ⟨rfl, rfl⟩
        generalize hsn : splitN n = sn at *
        have HSN := Lib.hid hsn; clear hsn
        have z1 : (0 : Int) ≤ (sn : Int) := by omega
        have z2 : (sn : Int) ≤ (c : Int) := by omega
        have z3 : (sn : Int) ≤ (n : Int) := by omega
        have z4 : ¬ (c = sn) := by omega
        go_wp2_with fail
        go_region_held3 (fun w' => Below w.heap.size w w') (first | exact (Below.refl _ _).drew | exact keep_a (by assumption) _ | exact keep_b (by assumption) (by assumption) | exact keep_t (by assumption) (by assumption)) ((first | (refine step_append_ints rfl _ _ rfl w.heap.size _ _ (pathN f (l.take sn) i.toNat) [rootN 65 (l.drop sn)] rfl ((hO1.below hb2).alloc _) rfl (Ints.lit1 _ (digest_I64 (rootN_digest (all_drop HD.out _)))) (by have := pathN_length (f := f) (l := l.take sn) (i := i.toNat); simp only [List.length_cons, List.length_nil]; omega) (by have := (‹Below w.heap.size w _› : Below w.heap.size w _).size; simp at this ⊢; omega) ?_; intro v3 w3 hown3 hb3) | (go_at_call 150; (with_reducible refine (IH.out (.slice a sn c) (l.take sn) i _ ((H.out.take (by omega)).below (by assumption)) (by simp [HE.out]; omega) (by simp [HE.out]; omega) (all_take HD.out _) hi0 (by rw [List.length_take, HE.out]; omega) (by omega)).mono ?_); rintro e w1 ⟨v1, rfl, hO1, hb1⟩) | (go_at_call 153; (with_reducible refine (impl_rootOf 65 (.slice (a.map (fun x => x.add sn)) (n - sn) (c - sn)) (l.drop sn) _ ((H.out.drop' (by omega) (by omega)).below (by assumption)) (by simp [HE.out]; omega) (by simp [HE.out]; omega) (all_drop HD.out _)).mono ?_); rintro e w2 ⟨rfl, hb2⟩)))
        go_wp2_with fail
        go_ret
        exact ⟨_, rfl, by rw [HR.out]; exact hown3, by assumption⟩
      · have HR : Hid (pathN (f + 1) l i.toNat = pathN f (l.drop (splitN n)) (i - (splitN n : Nat)).toNat ++ [rootN 65 (l.take (splitN n))]) := by
          unfold Hid; rw [pathN, if_neg (by omega), e, if_neg (by omega), show (i - (splitN n : Nat)).toNat = i.toNat - splitN n by omega]
        clear h1 h e
        go_enter Try.func150, Try.ntmps150
        go_wp2_with fail
        refine (impl_half n _ h2 (by omega)).mono ?_
        rintro e w' ⟨rfl, rfl⟩
        generalize hsn : splitN n = sn at *
        have HSN := Lib.hid hsn; clear hsn
        have z1 : (0 : Int) ≤ (sn : Int) := by omega
        have z2 : (sn : Int) ≤ (c : Int) := by omega
        have z3 : (sn : Int) ≤ (n : Int) := by omega
        have z4 : ¬ (c = sn) := by omega
        have e1 : IntKind.i64.wrap (i - (sn : Int)) = i - (sn : Int) := IntWalk.i64_in _ (by omega)
        go_wp2_with fail
        go_region_held3 (fun w' => Below w.heap.size w w') (first | exact (Below.refl _ _).drew | exact keep_a (by assumption) _ | exact keep_b (by assumption) (by assumption) | exact keep_t (by assumption) (by assumption)) ((first | (refine step_append_ints rfl _ _ rfl w.heap.size _ _ (pathN f (l.drop sn) (i - (sn : Int)).toNat) [rootN 65 (l.take sn)] rfl ((hO1.below hb2).alloc _) rfl (Ints.lit1 _ (digest_I64 (rootN_digest (all_take HD.out _)))) (by have := pathN_length (f := f) (l := l.drop sn) (i := (i - (sn : Int)).toNat); simp only [List.length_cons, List.length_nil]; omega) (by have := (‹Below w.heap.size w _› : Below w.heap.size w _).size; simp at this ⊢; omega) ?_; intro v3 w3 hown3 hb3) | (go_at_call 150; (with_reducible refine (IH.out (.slice (a.map (fun x => x.add sn)) (n - sn) (c - sn)) (l.drop sn) (i - (sn : Int)) _ ((H.out.drop' (by omega) (by omega)).below (by assumption)) (by simp [HE.out]; omega) (by simp [HE.out]; omega) (all_drop HD.out _) (by omega) (by rw [List.length_drop, HE.out]; omega) (by omega)).mono ?_); rintro e w1 ⟨v1, rfl, hO1, hb1⟩) | (go_at_call 153; (with_reducible refine (impl_rootOf 65 (.slice a sn c) (l.take sn) _ ((H.out.take (by omega)).below (by assumption)) (by simp [HE.out]; omega) (by simp [HE.out]; omega) (all_take HD.out _)).mono ?_); rintro e w2 ⟨rfl, hb2⟩)))
        go_wp2_with fail
        go_ret
        exact ⟨_, rfl, by rw [HR.out]; exact hown3, by assumption⟩
set_option maxRecDepth 100000 in
set_option maxHeartbeats 1000000 in
theorem spec_kPath (f : Nat) : ∀ (v : Value) (l : List Int) (i : Int) (w : World), Ints w v l → l.length < f → l.length ≤ 64 → l.all digestB = true → 0 ≤ i → i < l.length → f ≤ 65 →
    Calls Try.prog 152 #[v, .int .i64 i] w fun e w' => ∃ v', e = .returned v' ∧ OwnI w' w.heap.size v' (pathN f l i.toNat) ∧ Below w.heap.size w w' := by
  induction f with
  | zero => intro v l i w _ h; omega
  | succ f ih =>
    intro v l i w h hf hl hd hi0 hi1 hf65
    obtain ⟨a, n, c, rfl⟩ := h.shape
    have e := h.len
    obtain ⟨k1, k2⟩ := h.capMax
    unfold maxLen at k2
    rw [e] at hf hl hi1
    have H := Lib.hid h
    have HD := Lib.hid hd; clear hd
    have HE := Lib.hid e
    have IH := Lib.hid ih; clear ih
    by_cases h1 : n = 1
    · have HR : Hid (pathN (f + 1) l i.toNat = []) := by unfold Hid; rw [pathN, if_pos (by omega)]
      subst h1
      clear h e
      go_enter Try.func152, Try.ntmps152
      go_wp2_with fail
      go_ret
      exact ⟨_, rfl, by rw [HR.out]; exact OwnI.nil _ _, Below.refl _ _⟩
    · obtain ⟨s1, s2, s3⟩ := splitN_bd n (by omega) (by omega)
      have h2 : 2 ≤ n := by omega
      have hz : ((n : Int) == 1) = false := by rw [beq_eq_false_iff_ne]; omega
      by_cases hlt : i < (splitN n : Nat)
      · have HR : Hid (pathN (f + 1) l i.toNat = pathN f (l.take (splitN n)) i.toNat ++ [rootN 65 (l.drop (splitN n))]) := by
          unfold Hid; rw [pathN, if_neg (by omega), e, if_pos (by omega)]
        clear h1 h e
        go_enter Try.func152, Try.ntmps152
        go_wp2_with fail
        refine (spec_kSplit n _ (by omega) (by omega)).mono ?_
        rintro e w' ⟨rfl, rfl⟩
        generalize hsn : splitN n = sn at *
        have HSN := Lib.hid hsn; clear hsn
        have z1 : (0 : Int) ≤ (sn : Int) := by omega
        have z2 : (sn : Int) ≤ (c : Int) := by omega
        have z3 : (sn : Int) ≤ (n : Int) := by omega
        have z4 : ¬ (c = sn) := by omega
        go_wp2_with fail
        go_region_held3 (fun w' => Below w.heap.size w w') (first | exact (Below.refl _ _).drew | exact keep_a (by assumption) _ | exact keep_b (by assumption) (by assumption) | exact keep_t (by assumption) (by assumption)) ((first | (refine step_append_ints rfl _ _ rfl w.heap.size _ _ (pathN f (l.take sn) i.toNat) [rootN 65 (l.drop sn)] rfl ((hO1.below hb2).alloc _) rfl (Ints.lit1 _ (digest_I64 (rootN_digest (all_drop HD.out _)))) (by have := pathN_length (f := f) (l := l.take sn) (i := i.toNat); simp only [List.length_cons, List.length_nil]; omega) (by have := (‹Below w.heap.size w _› : Below w.heap.size w _).size; simp at this ⊢; omega) ?_; intro v3 w3 hown3 hb3) | (go_at_call 152; (with_reducible refine (IH.out (.slice a sn c) (l.take sn) i _ ((H.out.take (by omega)).below (by assumption)) (by simp [HE.out]; omega) (by simp [HE.out]; omega) (all_take HD.out _) hi0 (by rw [List.length_take, HE.out]; omega) (by omega)).mono ?_); rintro e w1 ⟨v1, rfl, hO1, hb1⟩) | (go_at_call 158; (with_reducible refine (spec_kRoot 65 (.slice (a.map (fun x => x.add sn)) (n - sn) (c - sn)) (l.drop sn) _ ((H.out.drop' (by omega) (by omega)).below (by assumption)) (by simp [HE.out]; omega) (by simp [HE.out]; omega) (all_drop HD.out _)).mono ?_); rintro e w2 ⟨rfl, hb2⟩)))
        go_wp2_with fail
        go_ret
        exact ⟨_, rfl, by rw [HR.out]; exact hown3, by assumption⟩
      · have HR : Hid (pathN (f + 1) l i.toNat = pathN f (l.drop (splitN n)) (i - (splitN n : Nat)).toNat ++ [rootN 65 (l.take (splitN n))]) := by
          unfold Hid; rw [pathN, if_neg (by omega), e, if_neg (by omega), show (i - (splitN n : Nat)).toNat = i.toNat - splitN n by omega]
        clear h1 h e
        go_enter Try.func152, Try.ntmps152
        go_wp2_with fail
        refine (spec_kSplit n _ (by omega) (by omega)).mono ?_
        rintro e w' ⟨rfl, rfl⟩
        generalize hsn : splitN n = sn at *
        have HSN := Lib.hid hsn; clear hsn
        have z1 : (0 : Int) ≤ (sn : Int) := by omega
        have z2 : (sn : Int) ≤ (c : Int) := by omega
        have z3 : (sn : Int) ≤ (n : Int) := by omega
        have z4 : ¬ (c = sn) := by omega
        have e1 : IntKind.i64.wrap (i - (sn : Int)) = i - (sn : Int) := IntWalk.i64_in _ (by omega)
        go_wp2_with fail
        go_region_held3 (fun w' => Below w.heap.size w w') (first | exact (Below.refl _ _).drew | exact keep_a (by assumption) _ | exact keep_b (by assumption) (by assumption) | exact keep_t (by assumption) (by assumption)) ((first | (refine step_append_ints rfl _ _ rfl w.heap.size _ _ (pathN f (l.drop sn) (i - (sn : Int)).toNat) [rootN 65 (l.take sn)] rfl ((hO1.below hb2).alloc _) rfl (Ints.lit1 _ (digest_I64 (rootN_digest (all_take HD.out _)))) (by have := pathN_length (f := f) (l := l.drop sn) (i := (i - (sn : Int)).toNat); simp only [List.length_cons, List.length_nil]; omega) (by have := (‹Below w.heap.size w _› : Below w.heap.size w _).size; simp at this ⊢; omega) ?_; intro v3 w3 hown3 hb3) | (go_at_call 152; (with_reducible refine (IH.out (.slice (a.map (fun x => x.add sn)) (n - sn) (c - sn)) (l.drop sn) (i - (sn : Int)) _ ((H.out.drop' (by omega) (by omega)).below (by assumption)) (by simp [HE.out]; omega) (by simp [HE.out]; omega) (all_drop HD.out _) (by omega) (by rw [List.length_drop, HE.out]; omega) (by omega)).mono ?_); rintro e w1 ⟨v1, rfl, hO1, hb1⟩) | (go_at_call 158; (with_reducible refine (spec_kRoot 65 (.slice a sn c) (l.take sn) _ ((H.out.take (by omega)).below (by assumption)) (by simp [HE.out]; omega) (by simp [HE.out]; omega) (all_take HD.out _)).mono ?_); rintro e w2 ⟨rfl, hb2⟩)))
        go_wp2_with fail
        go_ret
        exact ⟨_, rfl, by rw [HR.out]; exact hown3, by assumption⟩
set_option maxRecDepth 100000 in
set_option maxHeartbeats 1000000 in
theorem impl_prefixPath (f : Nat) : ∀ (m : Int) (v : Value) (l : List Int) (b : Bool) (w : World), Ints w v l → l.length < f → l.length ≤ 64 → l.all digestB = true → 1 ≤ m → m ≤ l.length → f ≤ 65 →
    Calls Try.prog 163 #[.int .i64 m, v, .bool b] w fun e w' => ∃ v', e = .returned v' ∧ OwnI w' w.heap.size v' (consN f m.toNat l b) ∧ Below w.heap.size w w' := by
  induction f with
  | zero => intro m v l b w _ h; omega
  | succ f ih =>
    intro m v l b w h hf hl hd hm1 hm2 hf65
    obtain ⟨a, n, c, rfl⟩ := h.shape
    have e := h.len
    obtain ⟨k1, k2⟩ := h.capMax
    unfold maxLen at k2
    rw [e] at hf hl hm2
    have H := Lib.hid h
    have HD := Lib.hid hd; clear hd
    have HE := Lib.hid e
    have IH := Lib.hid ih; clear ih
    by_cases h1 : m = (n : Int)
    · have HR : Hid (consN (f + 1) m.toNat l b = if b = true then [] else [rootN 65 l]) := by unfold Hid; rw [consN, if_pos (by omega)]
      subst h1
      have HR' : Hid (consN (f + 1) n l b = if b = true then [] else [rootN 65 l]) := by have := HR.out; rwa [Int.toNat_natCast] at this
      have HL2 : Hid (l.length < 65) := by unfold Hid; omega
      have HL3 : Hid (l.length ≤ 64) := by unfold Hid; omega
      clear h e
      cases b with
      | true =>
        go_enter Try.func163, Try.ntmps163
        go_wp2_with fail
        go_ret
        exact ⟨_, rfl, by (first | rw [HR'.out] | rw [HR.out]); exact OwnI.nil _ _, Below.refl _ _⟩
      | false =>
        go_enter Try.func163, Try.ntmps163
        go_wp2_with fail
        refine (impl_rootOf 65 _ l _ H.out HL2.out HL3.out HD.out).mono ?_
        rintro e w1 ⟨rfl, hb1⟩
        go_wp2_with fail
        go_ret
        exact ⟨_, rfl, by (first | rw [HR'.out] | rw [HR.out]); exact (OwnI.lit1 _ hb1.size (digest_I64 (rootN_digest HD.out))), hb1.alloc hb1.size _⟩
    · obtain ⟨s1, s2, s3⟩ := splitN_bd n (by omega) (by omega)
      have h2 : 2 ≤ n := by omega
      have hz : (m == (n : Int)) = false := by rw [beq_eq_false_iff_ne]; omega
      by_cases hlt : m ≤ (splitN n : Nat)
      · have HR : Hid (consN (f + 1) m.toNat l b = consN f m.toNat (l.take (splitN n)) b ++ [rootN 65 (l.drop (splitN n))]) := by
          unfold Hid; rw [consN, if_neg (by omega), e, if_pos (by omega)]
        clear h1 h e
        go_enter Try.func163, Try.ntmps163
        go_wp2_with fail
        refine (impl_half n _ h2 (by omega)).mono ?_
        rintro e w' ⟨rfl, rfl⟩
        generalize hsn : splitN n = sn at *
        have HSN := Lib.hid hsn; clear hsn
        have z1 : (0 : Int) ≤ (sn : Int) := by omega
        have z2 : (sn : Int) ≤ (c : Int) := by omega
        have z3 : (sn : Int) ≤ (n : Int) := by omega
        have z4 : ¬ (c = sn) := by omega
        go_wp2_with fail
        go_region_held3 (fun w' => Below w.heap.size w w') (first | exact (Below.refl _ _).drew | exact keep_a (by assumption) _ | exact keep_b (by assumption) (by assumption) | exact keep_t (by assumption) (by assumption)) ((first | (refine step_append_ints rfl _ _ rfl w.heap.size _ _ (consN f m.toNat (l.take sn) b) [rootN 65 (l.drop sn)] rfl ((hO1.below hb2).alloc _) rfl (Ints.lit1 _ (digest_I64 (rootN_digest (all_drop HD.out _)))) (by have := consN_length (f := f) (m := m.toNat) (l := l.take sn) (b := b); simp only [List.length_cons, List.length_nil]; omega) (by have := (‹Below w.heap.size w _› : Below w.heap.size w _).size; simp at this ⊢; omega) ?_; intro v3 w3 hown3 hb3) | (go_at_call 163; (with_reducible refine (IH.out m (.slice a sn c) (l.take sn) b _ ((H.out.take (by omega)).below (by assumption)) (by simp [HE.out]; omega) (by simp [HE.out]; omega) (all_take HD.out _) hm1 (by rw [List.length_take, HE.out]; omega) (by omega)).mono ?_); rintro e w1 ⟨v1, rfl, hO1, hb1⟩) | (go_at_call 153; (with_reducible refine (impl_rootOf 65 (.slice (a.map (fun x => x.add sn)) (n - sn) (c - sn)) (l.drop sn) _ ((H.out.drop' (by omega) (by omega)).below (by assumption)) (by simp [HE.out]; omega) (by simp [HE.out]; omega) (all_drop HD.out _)).mono ?_); rintro e w2 ⟨rfl, hb2⟩)))
        go_wp2_with fail
        go_ret
        exact ⟨_, rfl, by rw [HR.out]; exact hown3, by assumption⟩
      · have HR : Hid (consN (f + 1) m.toNat l b = consN f (m - (splitN n : Nat)).toNat (l.drop (splitN n)) false ++ [rootN 65 (l.take (splitN n))]) := by
          unfold Hid; rw [consN, if_neg (by omega), e, if_neg (by omega), show (m - (splitN n : Nat)).toNat = m.toNat - splitN n by omega]
        clear h1 h e
        go_enter Try.func163, Try.ntmps163
        go_wp2_with fail
        refine (impl_half n _ h2 (by omega)).mono ?_
        rintro e w' ⟨rfl, rfl⟩
        generalize hsn : splitN n = sn at *
        have HSN := Lib.hid hsn; clear hsn
        have z1 : (0 : Int) ≤ (sn : Int) := by omega
        have z2 : (sn : Int) ≤ (c : Int) := by omega
        have z3 : (sn : Int) ≤ (n : Int) := by omega
        have z4 : ¬ (c = sn) := by omega
        have e1 : IntKind.i64.wrap (m - (sn : Int)) = m - (sn : Int) := IntWalk.i64_in _ (by omega)
        go_wp2_with fail
        go_region_held3 (fun w' => Below w.heap.size w w') (first | exact (Below.refl _ _).drew | exact keep_a (by assumption) _ | exact keep_b (by assumption) (by assumption) | exact keep_t (by assumption) (by assumption)) ((first | (refine step_append_ints rfl _ _ rfl w.heap.size _ _ (consN f (m - (sn : Int)).toNat (l.drop sn) false) [rootN 65 (l.take sn)] rfl ((hO1.below hb2).alloc _) rfl (Ints.lit1 _ (digest_I64 (rootN_digest (all_take HD.out _)))) (by have := consN_length (f := f) (m := (m - (sn : Int)).toNat) (l := l.drop sn) (b := false); simp only [List.length_cons, List.length_nil]; omega) (by have := (‹Below w.heap.size w _› : Below w.heap.size w _).size; simp at this ⊢; omega) ?_; intro v3 w3 hown3 hb3) | (go_at_call 163; (with_reducible refine (IH.out (m - (sn : Int)) (.slice (a.map (fun x => x.add sn)) (n - sn) (c - sn)) (l.drop sn) false _ ((H.out.drop' (by omega) (by omega)).below (by assumption)) (by simp [HE.out]; omega) (by simp [HE.out]; omega) (all_drop HD.out _) (by omega) (by rw [List.length_drop, HE.out]; omega) (by omega)).mono ?_); rintro e w1 ⟨v1, rfl, hO1, hb1⟩) | (go_at_call 153; (with_reducible refine (impl_rootOf 65 (.slice a sn c) (l.take sn) _ ((H.out.take (by omega)).below (by assumption)) (by simp [HE.out]; omega) (by simp [HE.out]; omega) (all_take HD.out _)).mono ?_); rintro e w2 ⟨rfl, hb2⟩)))
        go_wp2_with fail
        go_ret
        exact ⟨_, rfl, by rw [HR.out]; exact hown3, by assumption⟩
set_option maxRecDepth 100000 in
set_option maxHeartbeats 1000000 in
theorem spec_kConsistency (f : Nat) : ∀ (m : Int) (v : Value) (l : List Int) (b : Bool) (w : World), Ints w v l → l.length < f → l.length ≤ 64 → l.all digestB = true → 1 ≤ m → m ≤ l.length → f ≤ 65 →
    Calls Try.prog 164 #[.int .i64 m, v, .bool b] w fun e w' => ∃ v', e = .returned v' ∧ OwnI w' w.heap.size v' (consN f m.toNat l b) ∧ Below w.heap.size w w' := by
  induction f with
  | zero => intro m v l b w _ h; omega
  | succ f ih =>
    intro m v l b w h hf hl hd hm1 hm2 hf65
    obtain ⟨a, n, c, rfl⟩ := h.shape
    have e := h.len
    obtain ⟨k1, k2⟩ := h.capMax
    unfold maxLen at k2
    rw [e] at hf hl hm2
    have H := Lib.hid h
    have HD := Lib.hid hd; clear hd
    have HE := Lib.hid e
    have IH := Lib.hid ih; clear ih
    by_cases h1 : m = (n : Int)
    · have HR : Hid (consN (f + 1) m.toNat l b = if b = true then [] else [rootN 65 l]) := by unfold Hid; rw [consN, if_pos (by omega)]
      subst h1
      have HR' : Hid (consN (f + 1) n l b = if b = true then [] else [rootN 65 l]) := by have := HR.out; rwa [Int.toNat_natCast] at this
      have HL2 : Hid (l.length < 65) := by unfold Hid; omega
      have HL3 : Hid (l.length ≤ 64) := by unfold Hid; omega
      clear h e
      cases b with
      | true =>
        go_enter Try.func164, Try.ntmps164
        go_wp2_with fail
        go_ret
        exact ⟨_, rfl, by (first | rw [HR'.out] | rw [HR.out]); exact OwnI.nil _ _, Below.refl _ _⟩
      | false =>
        go_enter Try.func164, Try.ntmps164
        go_wp2_with fail
        refine (spec_kRoot 65 _ l _ H.out HL2.out HL3.out HD.out).mono ?_
        rintro e w1 ⟨rfl, hb1⟩
        go_wp2_with fail
        go_ret
        exact ⟨_, rfl, by (first | rw [HR'.out] | rw [HR.out]); exact (OwnI.lit1 _ hb1.size (digest_I64 (rootN_digest HD.out))), hb1.alloc hb1.size _⟩
    · obtain ⟨s1, s2, s3⟩ := splitN_bd n (by omega) (by omega)
      have h2 : 2 ≤ n := by omega
      have hz : (m == (n : Int)) = false := by rw [beq_eq_false_iff_ne]; omega
      by_cases hlt : m ≤ (splitN n : Nat)
      · have HR : Hid (consN (f + 1) m.toNat l b = consN f m.toNat (l.take (splitN n)) b ++ [rootN 65 (l.drop (splitN n))]) := by
          unfold Hid; rw [consN, if_neg (by omega), e, if_pos (by omega)]
        clear h1 h e
        go_enter Try.func164, Try.ntmps164
        go_wp2_with fail
        refine (spec_kSplit n _ (by omega) (by omega)).mono ?_
        rintro e w' ⟨rfl, rfl⟩
        generalize hsn : splitN n = sn at *
        have HSN := Lib.hid hsn; clear hsn
        have z1 : (0 : Int) ≤ (sn : Int) := by omega
        have z2 : (sn : Int) ≤ (c : Int) := by omega
        have z3 : (sn : Int) ≤ (n : Int) := by omega
        have z4 : ¬ (c = sn) := by omega
        go_wp2_with fail
        go_region_held3 (fun w' => Below w.heap.size w w') (first | exact (Below.refl _ _).drew | exact keep_a (by assumption) _ | exact keep_b (by assumption) (by assumption) | exact keep_t (by assumption) (by assumption)) ((first | (refine step_append_ints rfl _ _ rfl w.heap.size _ _ (consN f m.toNat (l.take sn) b) [rootN 65 (l.drop sn)] rfl ((hO1.below hb2).alloc _) rfl (Ints.lit1 _ (digest_I64 (rootN_digest (all_drop HD.out _)))) (by have := consN_length (f := f) (m := m.toNat) (l := l.take sn) (b := b); simp only [List.length_cons, List.length_nil]; omega) (by have := (‹Below w.heap.size w _› : Below w.heap.size w _).size; simp at this ⊢; omega) ?_; intro v3 w3 hown3 hb3) | (go_at_call 164; (with_reducible refine (IH.out m (.slice a sn c) (l.take sn) b _ ((H.out.take (by omega)).below (by assumption)) (by simp [HE.out]; omega) (by simp [HE.out]; omega) (all_take HD.out _) hm1 (by rw [List.length_take, HE.out]; omega) (by omega)).mono ?_); rintro e w1 ⟨v1, rfl, hO1, hb1⟩) | (go_at_call 158; (with_reducible refine (spec_kRoot 65 (.slice (a.map (fun x => x.add sn)) (n - sn) (c - sn)) (l.drop sn) _ ((H.out.drop' (by omega) (by omega)).below (by assumption)) (by simp [HE.out]; omega) (by simp [HE.out]; omega) (all_drop HD.out _)).mono ?_); rintro e w2 ⟨rfl, hb2⟩)))
        go_wp2_with fail
        go_ret
        exact ⟨_, rfl, by rw [HR.out]; exact hown3, by assumption⟩
      · have HR : Hid (consN (f + 1) m.toNat l b = consN f (m - (splitN n : Nat)).toNat (l.drop (splitN n)) false ++ [rootN 65 (l.take (splitN n))]) := by
          unfold Hid; rw [consN, if_neg (by omega), e, if_neg (by omega), show (m - (splitN n : Nat)).toNat = m.toNat - splitN n by omega]
        clear h1 h e
        go_enter Try.func164, Try.ntmps164
        go_wp2_with fail
        refine (spec_kSplit n _ (by omega) (by omega)).mono ?_
        rintro e w' ⟨rfl, rfl⟩
        generalize hsn : splitN n = sn at *
        have HSN := Lib.hid hsn; clear hsn
        have z1 : (0 : Int) ≤ (sn : Int) := by omega
        have z2 : (sn : Int) ≤ (c : Int) := by omega
        have z3 : (sn : Int) ≤ (n : Int) := by omega
        have z4 : ¬ (c = sn) := by omega
        have e1 : IntKind.i64.wrap (m - (sn : Int)) = m - (sn : Int) := IntWalk.i64_in _ (by omega)
        go_wp2_with fail
        go_region_held3 (fun w' => Below w.heap.size w w') (first | exact (Below.refl _ _).drew | exact keep_a (by assumption) _ | exact keep_b (by assumption) (by assumption) | exact keep_t (by assumption) (by assumption)) ((first | (refine step_append_ints rfl _ _ rfl w.heap.size _ _ (consN f (m - (sn : Int)).toNat (l.drop sn) false) [rootN 65 (l.take sn)] rfl ((hO1.below hb2).alloc _) rfl (Ints.lit1 _ (digest_I64 (rootN_digest (all_take HD.out _)))) (by have := consN_length (f := f) (m := (m - (sn : Int)).toNat) (l := l.drop sn) (b := false); simp only [List.length_cons, List.length_nil]; omega) (by have := (‹Below w.heap.size w _› : Below w.heap.size w _).size; simp at this ⊢; omega) ?_; intro v3 w3 hown3 hb3) | (go_at_call 164; (with_reducible refine (IH.out (m - (sn : Int)) (.slice (a.map (fun x => x.add sn)) (n - sn) (c - sn)) (l.drop sn) false _ ((H.out.drop' (by omega) (by omega)).below (by assumption)) (by simp [HE.out]; omega) (by simp [HE.out]; omega) (all_drop HD.out _) (by omega) (by rw [List.length_drop, HE.out]; omega) (by omega)).mono ?_); rintro e w1 ⟨v1, rfl, hO1, hb1⟩) | (go_at_call 158; (with_reducible refine (spec_kRoot 65 (.slice a sn c) (l.take sn) _ ((H.out.take (by omega)).below (by assumption)) (by simp [HE.out]; omega) (by simp [HE.out]; omega) (all_take HD.out _)).mono ?_); rintro e w2 ⟨rfl, hb2⟩)))
        go_wp2_with fail
        go_ret
        exact ⟨_, rfl, by rw [HR.out]; exact hown3, by assumption⟩
end Go.Proofs.Ytlapmdcjfopbaaa
