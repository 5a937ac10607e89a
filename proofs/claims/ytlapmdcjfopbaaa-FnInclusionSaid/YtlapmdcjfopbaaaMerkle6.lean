/- Walks: PushLeaf (printed by gen_merkle6.py). -/
import Derived.Test.YtlapmdcjfopbaaaMerkle5
import Derived.Test.YtlapmdcjfopbaaaStdI
import Derived.Lib.SliceRun
namespace Go.Proofs.Ytlapmdcjfopbaaa
open Go.RowKit
set_option linter.unusedSimpArgs false
set_option linter.unusedVariables false

/-- the frontier with one more leaf -/
def pushN : Nat → Nat → List Int → Int → List Int
  | 0, _, l, x => l ++ [x]
  | f + 1, n, l, x => if n % 2 = 1 then pushN f (n / 2) (l.take (l.length - 1)) (node (nth l (l.length - 1)) x) else l ++ [x]
theorem pushN_length {f : Nat} : ∀ {n : Nat} {l : List Int} {x : Int}, (pushN f n l x).length ≤ l.length + 1 := by
  induction f with
  | zero => intro n l x; simp [pushN]
  | succ f ih =>
    intro n l x; unfold pushN; split
    · have := ih (n := n / 2) (l := l.take (l.length - 1)) (x := node (nth l (l.length - 1)) x)
      simp at this ⊢; omega
    · simp
theorem onesF_le : ∀ f n, onesF f n ≤ f := by
  intro f; induction f with
  | zero => intro n; exact Nat.le_refl _
  | succ f ih => intro n; have := ih (n / 2); unfold onesF; omega
theorem onesF_zero : ∀ f, onesF f 0 = 0 := by
  intro f; induction f with
  | zero => rfl
  | succ f ih => unfold onesF; simp [ih]
theorem and1 (x : Int) (h0 : 0 ≤ x) (h1 : x ≤ 63) : bits .and .i64 x 1 = x % 2 := by
  obtain ⟨j, rfl⟩ : ∃ j : Fin 64, x = (j.val : Int) := ⟨⟨x.toNat, by omega⟩, by simp; omega⟩
  clear h0 h1
  revert j
  decide +kernel
def psB (n : Int) (l : List Int) (x : Int) : Bool := decide (0 ≤ n ∧ n ≤ 63) && (decide (l.length = ones n.toNat) && (l.all digestB && digestB x))
def psL (n : Int) (l : List Int) (x : Int) : List Int := if psB n l x = true then pushN 7 n.toNat l x else []
theorem psL_length (n : Int) (l : List Int) (x : Int) : (psL n l x).length ≤ 8 := by
  unfold psL; split
  · rename_i h
    have h1 := pushN_length (f := 7) (n := n.toNat) (l := l) (x := x)
    unfold psB at h
    rw [Bool.and_eq_true, Bool.and_eq_true, decide_eq_true_iff, decide_eq_true_iff] at h
    have h2 := onesF_le 7 n.toNat
    have h3 := h.2.1
    unfold ones at h3
    omega
  · simp
set_option maxHeartbeats 1000000 in
theorem bits_OnesCount64 (x : Int) (w : World) (h2 : 0 ≤ x) (h : x ≤ 63) :
    Calls Try.prog 242 #[.int .u64 x] w fun e w' => e = .returned (.int .i64 (ones x.toNat : Nat)) ∧ w = w' := by
  go_enter Try.func242, Try.ntmps242
  go_wp2_with fail
  go_ret
  refine ⟨ret_int ?_, rfl⟩
  obtain ⟨j, rfl⟩ : ∃ j : Fin 64, x = (j.val : Int) := ⟨⟨x.toNat, by omega⟩, by simp; omega⟩
  clear h2 h
  revert j
  decide +kernel
theorem bits_OnesCount (x : Int) (w : World) (h2 : 0 ≤ x) (h : x ≤ 63) :
    Calls Try.prog 170 #[.int .u64 x] w fun e w' => e = .returned (.int .i64 (ones x.toNat : Nat)) ∧ w = w' := by
  go_enter Try.func170, Try.ntmps170
  go_wp2_with fail
  refine (bits_OnesCount64 x _ h2 h).mono ?_
  rintro e w' ⟨rfl, rfl⟩
  go_wp2_with fail
  go_ret
  exact ⟨rfl, rfl⟩
theorem spec_kOnes (n : Int) (w : World) (h0 : 0 ≤ n) (h1 : n ≤ 63) :
    Calls Try.prog 174 #[.int .i64 n] w fun e w' => e = .returned (.int .i64 (ones n.toNat : Nat)) ∧ w = w' := by
  obtain ⟨T, hT⟩ : ∃ T, ones n.toNat = T := ⟨_, rfl⟩
  have HT := Lib.hid hT
  have hT7 : T ≤ 7 := by rw [← hT]; exact onesF_le 7 _
  rw [hT]; clear hT
  go_enter Try.func174, Try.ntmps174
  go_wp2_with fail
  go_loopg [0, 3] 7 (fun g nv kv wr => ∃ m k : Nat, nv = .int .i64 m ∧ kv = .int .i64 k ∧ Hid (m < 2 ^ g) ∧ m ≤ 63 ∧ Hid (k + onesF g m = T) ∧ k ≤ 7 ∧ w = wr)
  case atStart => exact ⟨n.toNat, 0, by rw [Int.toNat_of_nonneg h0], rfl, by unfold Hid; omega, by omega, by unfold Hid; rw [Nat.zero_add]; exact HT.out, by omega, rfl⟩
  case round =>
    obtain ⟨m, k, rfl, rfl, hm, hm63, hk, hk7, rfl⟩ := hrel
    by_cases hz : m = 0
    · have HK : Hid (k = T) := by have := hk.out; rw [hz, onesF_zero] at this; exact this
      subst hz
      go_wp2_with fail
      go_ret
      exact ⟨ret_int (by rw [HK.out]), rfl⟩
    · have hg : gk ≠ 0 := by
        intro h; have := hm.out; rw [h] at this; omega
      obtain ⟨f, rfl⟩ : ∃ f, gk = f + 1 := ⟨gk - 1, by omega⟩
      have HK : Hid ((k + m % 2) + onesF f (m / 2) = T) := by have := hk.out; unfold onesF at this; unfold Hid; omega
      have HM : Hid (m / 2 < 2 ^ f) := by have := hm.out; rw [Nat.pow_succ] at this; unfold Hid; omega
      have HT7 : Hid (k + m % 2 ≤ 7) := by have := HK.out; unfold Hid; omega
      go_wp2_with fail
      go_roundg f
      case measure => omega
      case rel => exact ⟨m / 2, k + m % 2, by first | rfl | (congr 1; omega), by first | rfl | (congr 1; omega), HM.out, by omega, HK.out, HT7.out, rfl⟩
set_option maxRecDepth 100000 in
set_option maxHeartbeats 2000000 in
theorem spec_kPush (n : Int) (v : Value) (l : List Int) (x : Int) (w : World) (h : Ints w v l) (h0 : 0 ≤ n) (h1 : n ≤ 63) (hlen : l.length = ones n.toNat) (hd : l.all digestB = true) (hx : digestB x = true) :
    Calls Try.prog 176 #[.int .i64 n, v, .int .i64 x] w fun e w' => ∃ v', e = .returned v' ∧ OwnI w' w.heap.size v' (pushN 7 n.toNat l x) ∧ Below w.heap.size w w' := by
  obtain ⟨T, hT⟩ : ∃ T, pushN 7 n.toNat l x = T := ⟨_, rfl⟩
  have HT := Lib.hid hT
  have hl7 := onesF_le 7 n.toNat
  have HLN : Hid (l.length = onesF 7 n.toNat) := hlen
  have hl8 : l.length ≤ 7 := by unfold ones at hlen; omega
  rw [hT]; clear hT hlen
  have H := Lib.hid h; clear h
  have HD := Lib.hid hd; clear hd
  have HX := Lib.hid hx; clear hx
  go_enter Try.func176, Try.ntmps176
  go_wp2_with fail
  refine (spec_l1Own _ l _ H.out (by omega)).mono ?_
  rintro e w1 ⟨v1, rfl, hO1, hb1⟩
  go_wp2_with fail
  go_loopg [0, 2, 7] 7 (fun g nv xv ov wr => ∃ (k : Nat) (ol : List Int) (y : Int), nv = .int .i64 k ∧ xv = .int .i64 y ∧ Hid (k < 2 ^ g) ∧ k ≤ 63 ∧ Hid (ol.length = onesF g k) ∧ ol.length ≤ 7 ∧ Hid (pushN g k ol y = T) ∧ Hid (ol.all digestB = true) ∧ Hid (digestB y = true) ∧ OwnI wr w.heap.size ov ol ∧ Below w.heap.size w wr)
  case atStart => exact ⟨n.toNat, l, x, by rw [Int.toNat_of_nonneg h0], rfl, by unfold Hid; omega, by omega, HLN.out, hl8, HT.out, HD.out, HX.out, hO1, hb1⟩
  case round =>
    obtain ⟨k, ol, y, rfl, rfl, hk, hk63, hol, hol7, hP, hd2, hy2, hO, hb⟩ := hrel
    have HO := Lib.hid hO
    have HB := Lib.hid hb
    have hB := hb.size
    by_cases hz : k % 2 = 1
    · have hg : gk ≠ 0 := by
        intro h; have := hk.out; rw [h] at this; omega
      obtain ⟨f, rfl⟩ : ∃ f, gk = f + 1 := ⟨gk - 1, by omega⟩
      have HP : Hid (pushN f (k / 2) (ol.take (ol.length - 1)) (node (nth ol (ol.length - 1)) y) = T) := by have := hP.out; rw [pushN, if_pos hz] at this; exact this
      have HK : Hid (k / 2 < 2 ^ f) := by have := hk.out; rw [Nat.pow_succ] at this; unfold Hid; omega
      have HL : Hid (ol.length = 1 + onesF f (k / 2)) := by have := hol.out; unfold onesF at this; rw [hz] at this; exact this
      have h1 : 1 ≤ ol.length := by have := HL.out; omega
      obtain ⟨a, c, rfl⟩ := hO.shape
      obtain ⟨m, hm⟩ : ∃ m, ol.length = m := ⟨_, rfl⟩
      obtain ⟨k1, k2⟩ := hO.ints.capMax
      unfold maxLen at k2
      rw [hm] at hO h1 hol7 k1
      obtain ⟨gg, rfl, hgB, _, hcx⟩ := hO.at_ (by omega)
      have hy := (hcx (m - 1) (by omega)).1
      clear hcx
      have HOm := Lib.hid hO; clear hO
      have HM := Lib.hid hm
      rw [hm] at HP
      have HN := Lib.hid (nth_digest hd2.out (m - 1))
      clear hk hol hP
      generalize hnl : nth ol (m - 1) = z at *
      clear hnl
      have ew : IntKind.i64.wrap ((m : Int) - 1) = (m : Int) - 1 := IntWalk.i64_in _ (by omega)
      have het : (((m : Int) - 1).toNat) = m - 1 := by omega
      have z1 : (0 : Int) ≤ (m : Int) - 1 := by omega
      have z2 : (m : Int) - 1 < (m : Int) := by omega
      have hq : (((k : Int) % 2) == 1) = true := by rw [beq_iff_eq]; omega
      try rw [hm]
      clear hm
      go_wp2_with fail
      refine (spec_kNode z y _ HN.out hy2.out).mono ?_
      rintro e w2 ⟨rfl, hb2⟩
      go_wp2_with fail
      go_roundg f
      case measure => omega
      case rel => exact ⟨k / 2, ol.take (m - 1), node z y, by first | rfl | (congr 1; omega), rfl, HK.out, by omega, by have := HL.out; have := HM.out; unfold Hid; simp; omega, by have := HM.out; simp; omega, HP.out, all_take hd2.out _, digestB_node _ _, (HOm.out.below hb2).take' (by omega) HM.out, keep_b hb2 HB.out⟩
    · have HF : Hid (ol ++ [y] = T) := by
        have := hP.out
        cases gk with
        | zero => exact this
        | succ g => rw [pushN, if_neg hz] at this; exact this
      have hq : (((k : Int) % 2) == 1) = false := by rw [beq_eq_false_iff_ne]; omega
      obtain ⟨a, c, rfl⟩ := hO.shape
      clear hO hb hol
      go_wp2_with (at_builtin; refine wpList_append_ints rfl _ _ rfl w.heap.size _ _ ol [y] rfl (HO.out.alloc _) rfl (Ints.lit1 _ (digest_I64 hy2.out)) (by simp; omega) (by simp; omega) ?_; intro v3 w3 hown3 hgr3)
      have hb3 : Below w.heap.size w w3 := (HB.out.alloc hB _).trans ((HO.out.alloc _).grown hgr3 (by simp; omega))
      go_ret
      exact ⟨_, rfl, by rw [← HF.out]; exact hown3, hb3⟩
set_option maxRecDepth 100000 in
set_option maxHeartbeats 2000000 in
theorem spec_PushLeaf (n : Int) (v : Value) (l : List Int) (x : Int) (w : World) (h : Ints w v l) :
    Calls Try.prog 71 #[.int .i64 n, v, .int .i64 x] w fun e w' => ∃ v', e = .returned (.tuple #[v', .bool (psB n l x)]) ∧ InI w' w.heap.size w'.heap.size v' (psL n l x) ∧ Below w.heap.size w w' := by
  have no (hb : psB n l x = false) : psL n l x = [] := by unfold psL; rw [hb, if_neg (by simp)]
  obtain ⟨a, p, c, rfl⟩ := h.shape
  have e := h.len
  obtain ⟨k1, k2⟩ := h.capMax
  unfold maxLen at k2
  have H := Lib.hid h; clear h
  have NO := Lib.hid no; clear no
  cases hq : decide (0 ≤ n ∧ n ≤ 63) with
  | false =>
    have HB : Hid (psB n l x = false) := by unfold Hid psB; rw [hq]; rfl
    have HL : Hid (psL n l x = []) := NO.out HB.out
    have HQ := Lib.hid hq; clear hq e
    go_enter Try.func71, Try.ntmps71
    go_wp2_with fail
    refine (spec_l1In _ _ _ _).mono ?_; rintro e w1 ⟨rfl, rfl⟩
    rw [HQ.out]
    go_wp2_with fail
    go_ret2
    exact ⟨.slice none 0 0, (by rw [HB.out]; rfl), by rw [HL.out]; exact InI.of_own (OwnI.nil _ _), Below.refl _ _⟩
  | true =>
  obtain ⟨q1, q2⟩ := of_decide_eq_true hq
  have HQ := Lib.hid hq
  by_cases hn : p = ones n.toNat
  · have hlen : l.length = ones n.toNat := by omega
    have HZ := Lib.hid hlen
    subst hn
    cases hd : l.all digestB with
    | false =>
    have HB : Hid (psB n l x = false) := by unfold Hid psB; rw [hq, decide_eq_true hlen, hd]; rfl
    have HL : Hid (psL n l x = []) := NO.out HB.out
    have HD := Lib.hid hd; clear hd hq e hlen
    go_enter Try.func71, Try.ntmps71
    go_wp2_with fail
    refine (spec_l1In _ _ _ _).mono ?_; rintro e w1 ⟨rfl, rfl⟩
    rw [HQ.out]
    go_wp2_with fail
    refine (spec_kOnes _ _ q1 q2).mono ?_; rintro e w1 ⟨rfl, rfl⟩
    go_wp2_with fail
    refine (spec_l1All _ l _ _ _ H.out).mono ?_; rintro e w1 ⟨rfl, rfl⟩
    rw [show (l.all fun x => decide (0 ≤ x ∧ x ≤ 4611686018427387903)) = _ from HD.out]
    go_wp2_with fail
    have hb1 : Below w.heap.size w w := Below.refl _ _
    go_ret2
    exact ⟨.slice none 0 0, (by rw [HB.out]; rfl), by rw [HL.out]; exact InI.of_own (OwnI.nil _ _), hb1⟩
    | true =>
    cases hx : digestB x with
    | false =>
    have HB : Hid (psB n l x = false) := by unfold Hid psB; rw [hq, decide_eq_true hlen, hd, hx]; rfl
    have HL : Hid (psL n l x = []) := NO.out HB.out
    have HD := Lib.hid hd; clear hd hq e hlen
    have HX := Lib.hid hx; clear hx
    go_enter Try.func71, Try.ntmps71
    go_wp2_with fail
    refine (spec_l1In _ _ _ _).mono ?_; rintro e w1 ⟨rfl, rfl⟩
    rw [HQ.out]
    go_wp2_with fail
    refine (spec_kOnes _ _ q1 q2).mono ?_; rintro e w1 ⟨rfl, rfl⟩
    go_wp2_with fail
    refine (spec_l1All _ l _ _ _ H.out).mono ?_; rintro e w1 ⟨rfl, rfl⟩
    rw [show (l.all fun x => decide (0 ≤ x ∧ x ≤ 4611686018427387903)) = _ from HD.out]
    go_wp2_with fail
    have hb1 : Below w.heap.size w w := Below.refl _ _
    refine (spec_l3Digest _ _).mono ?_; rintro e w2 ⟨rfl, rfl⟩
    rw [HX.out]
    go_wp2_with fail
    go_ret2
    exact ⟨.slice none 0 0, (by rw [HB.out]; rfl), by rw [HL.out]; exact InI.of_own (OwnI.nil _ _), hb1⟩
    | true =>
    have HB : Hid (psB n l x = true) := by unfold Hid psB; rw [hq, decide_eq_true hlen, hd, hx]; rfl
    have HLL : Hid (psL n l x = pushN 7 n.toNat l x) := by unfold Hid psL; rw [HB.out, if_pos rfl]
    have HD := Lib.hid hd; clear hd hq e
    have HX := Lib.hid hx; clear hx
    clear hlen
    go_enter Try.func71, Try.ntmps71
    go_wp2_with fail
    refine (spec_l1In _ _ _ _).mono ?_; rintro e w1 ⟨rfl, rfl⟩
    rw [HQ.out]
    go_wp2_with fail
    refine (spec_kOnes _ _ q1 q2).mono ?_; rintro e w1 ⟨rfl, rfl⟩
    go_wp2_with fail
    refine (spec_l1All _ l _ _ _ H.out).mono ?_; rintro e w1 ⟨rfl, rfl⟩
    rw [show (l.all fun x => decide (0 ≤ x ∧ x ≤ 4611686018427387903)) = _ from HD.out]
    go_wp2_with fail
    have hb1 : Below w.heap.size w w := Below.refl _ _
    refine (spec_l3Digest _ _).mono ?_; rintro e w2 ⟨rfl, rfl⟩
    rw [HX.out]
    go_wp2_with fail
    refine (spec_kPush n _ l x _ (H.out.below hb1) q1 q2 HZ.out HD.out HX.out).mono ?_
    rintro e w3 ⟨v', rfl, hO, hb3⟩
    go_wp2_with fail
    go_ret2
    exact ⟨v', (by rw [HB.out]; rfl), by rw [HLL.out]; exact InI.of_own (hO.mono hb1.size), keep_b hb3 hb1⟩
  · have hz : ((p : Int) == ((ones n.toNat : Nat) : Int)) = false := by rw [beq_eq_false_iff_ne]; omega
    have HB : Hid (psB n l x = false) := by unfold Hid psB; rw [decide_eq_false (by omega : ¬ l.length = ones n.toNat)]; simp
    have HL : Hid (psL n l x = []) := NO.out HB.out
    have hz1 : ¬ ((p : Int) = ((ones n.toNat : Nat) : Int)) := by omega
    have hz2 : decide ((p : Int) = ((ones n.toNat : Nat) : Int)) = false := decide_eq_false hz1
    clear hq e
    go_enter Try.func71, Try.ntmps71
    go_wp2_with fail
    refine (spec_l1In _ _ _ _).mono ?_; rintro e w1 ⟨rfl, rfl⟩
    rw [HQ.out]
    go_wp2_with fail
    refine (spec_kOnes _ _ q1 q2).mono ?_; rintro e w1 ⟨rfl, rfl⟩
    go_wp2_with fail
    go_ret2
    exact ⟨.slice none 0 0, (by rw [HB.out]; rfl), by rw [HL.out]; exact InI.of_own (OwnI.nil _ _), Below.refl _ _⟩
set_option maxRecDepth 100000 in
set_option maxHeartbeats 2000000 in
theorem impl_PushLeaf (n : Int) (v : Value) (l : List Int) (x : Int) (w : World) (h : Ints w v l) :
    Calls Try.prog 68 #[.int .i64 n, v, .int .i64 x] w fun e w' => ∃ v', e = .returned (.tuple #[v', .bool (psB n l x)]) ∧ InI w' w.heap.size w'.heap.size v' (psL n l x) ∧ Below w.heap.size w w' := by
  have no (hb : psB n l x = false) : psL n l x = [] := by unfold psL; rw [hb, if_neg (by simp)]
  obtain ⟨a, p, c, rfl⟩ := h.shape
  have e := h.len
  obtain ⟨k1, k2⟩ := h.capMax
  unfold maxLen at k2
  have H := Lib.hid h; clear h
  have NO := Lib.hid no; clear no
  cases hq : decide (0 ≤ n ∧ n ≤ 63) with
  | false =>
    have HB : Hid (psB n l x = false) := by unfold Hid psB; rw [hq]; rfl
    have HL : Hid (psL n l x = []) := NO.out HB.out
    have HQ := Lib.hid hq; clear hq e
    go_enter Try.func68, Try.ntmps68
    go_wp2_with fail
    refine (impl_within _ _ _ _).mono ?_; rintro e w1 ⟨rfl, rfl⟩
    rw [HQ.out]
    go_wp2_with fail
    go_ret2
    exact ⟨.slice none 0 0, (by rw [HB.out]; rfl), by rw [HL.out]; exact InI.of_own (OwnI.nil _ _), Below.refl _ _⟩
  | true =>
  obtain ⟨q1, q2⟩ := of_decide_eq_true hq
  have HQ := Lib.hid hq
  by_cases hn : p = ones n.toNat
  · have hlen : l.length = ones n.toNat := by omega
    have HZ := Lib.hid hlen
    subst hn
    cases hd : l.all digestB with
    | false =>
    have HB : Hid (psB n l x = false) := by unfold Hid psB; rw [hq, decide_eq_true hlen, hd]; rfl
    have HL : Hid (psL n l x = []) := NO.out HB.out
    have HD := Lib.hid hd; clear hd hq e hlen
    go_enter Try.func68, Try.ntmps68
    go_wp2_with fail
    refine (impl_within _ _ _ _).mono ?_; rintro e w1 ⟨rfl, rfl⟩
    rw [HQ.out]
    go_wp2_with fail
    refine (bits_OnesCount _ _ q1 q2).mono ?_; rintro e w1 ⟨rfl, rfl⟩
    go_wp2_with fail
    refine (impl_areAll _ l 154 #[] digestB _ H.out (decides_isDigest _)).mono ?_; rintro e w1 ⟨rfl, hb1⟩
    rw [HD.out]
    go_wp2_with fail
    go_ret2
    exact ⟨.slice none 0 0, (by rw [HB.out]; rfl), by rw [HL.out]; exact InI.of_own (OwnI.nil _ _), hb1⟩
    | true =>
    cases hx : digestB x with
    | false =>
    have HB : Hid (psB n l x = false) := by unfold Hid psB; rw [hq, decide_eq_true hlen, hd, hx]; rfl
    have HL : Hid (psL n l x = []) := NO.out HB.out
    have HD := Lib.hid hd; clear hd hq e hlen
    have HX := Lib.hid hx; clear hx
    go_enter Try.func68, Try.ntmps68
    go_wp2_with fail
    refine (impl_within _ _ _ _).mono ?_; rintro e w1 ⟨rfl, rfl⟩
    rw [HQ.out]
    go_wp2_with fail
    refine (bits_OnesCount _ _ q1 q2).mono ?_; rintro e w1 ⟨rfl, rfl⟩
    go_wp2_with fail
    refine (impl_areAll _ l 154 #[] digestB _ H.out (decides_isDigest _)).mono ?_; rintro e w1 ⟨rfl, hb1⟩
    rw [HD.out]
    go_wp2_with fail
    refine (impl_isDigest _ _).mono ?_; rintro e w2 ⟨rfl, rfl⟩
    rw [HX.out]
    go_wp2_with fail
    go_ret2
    exact ⟨.slice none 0 0, (by rw [HB.out]; rfl), by rw [HL.out]; exact InI.of_own (OwnI.nil _ _), hb1⟩
    | true =>
    have HB : Hid (psB n l x = true) := by unfold Hid psB; rw [hq, decide_eq_true hlen, hd, hx]; rfl
    have HB0 := Lib.hid HB.out
    have HLL : Hid (psL n l x = pushN 7 n.toNat l x) := by unfold Hid psL; rw [HB.out, if_pos rfl]
    have HD := Lib.hid hd; clear hd hq e
    have HX := Lib.hid hx; clear hx
    have h0 := q1
    obtain ⟨T, hT⟩ : ∃ T, pushN 7 n.toNat l x = T := ⟨_, rfl⟩
    have HT := Lib.hid hT
    have hl7 := onesF_le 7 n.toNat
    have HLN : Hid (l.length = onesF 7 n.toNat) := hlen
    have hl8 : l.length ≤ 7 := by unfold ones at hlen; omega
    rw [hT] at HLL; clear hT hlen
    go_enter Try.func68, Try.ntmps68
    go_wp2_with fail
    refine (impl_within _ _ _ _).mono ?_; rintro e w1 ⟨rfl, rfl⟩
    rw [HQ.out]
    go_wp2_with fail
    refine (bits_OnesCount _ _ q1 q2).mono ?_; rintro e w1 ⟨rfl, rfl⟩
    go_wp2_with fail
    refine (impl_areAll _ l 154 #[] digestB _ H.out (decides_isDigest _)).mono ?_; rintro e w1 ⟨rfl, hb1⟩
    rw [HD.out]
    go_wp2_with fail
    refine (impl_isDigest _ _).mono ?_; rintro e w2 ⟨rfl, rfl⟩
    rw [HX.out]
    go_wp2_with fail
    refine (slices_Clone _ l _ (H.out.below hb1) (by omega)).mono ?_
    rintro e w3 ⟨v1, rfl, hO1, hb3⟩
    go_wp2_with fail
    go_loopg [0, 2, 8] 7 (fun g nv xv ov wr => ∃ (k : Nat) (ol : List Int) (y : Int), nv = .int .i64 k ∧ xv = .int .i64 y ∧ Hid (k < 2 ^ g) ∧ k ≤ 63 ∧ Hid (ol.length = onesF g k) ∧ ol.length ≤ 7 ∧ Hid (pushN g k ol y = T) ∧ Hid (ol.all digestB = true) ∧ Hid (digestB y = true) ∧ OwnI wr w.heap.size ov ol ∧ Below w.heap.size w wr)
    case atStart => exact ⟨n.toNat, l, x, by rw [Int.toNat_of_nonneg h0], rfl, by unfold Hid; omega, by omega, HLN.out, hl8, HT.out, HD.out, HX.out, hO1.mono hb1.size, keep_b hb3 hb1⟩
    case round =>
      obtain ⟨k, ol, y, rfl, rfl, hk, hk63, hol, hol7, hP, hd2, hy2, hO, hb⟩ := hrel
      have HO := Lib.hid hO
      have HB := Lib.hid hb
      have hB := hb.size
      by_cases hz : k % 2 = 1
      · have hg : gk ≠ 0 := by
          intro h; have := hk.out; rw [h] at this; omega
        obtain ⟨f, rfl⟩ : ∃ f, gk = f + 1 := ⟨gk - 1, by omega⟩
        have HP : Hid (pushN f (k / 2) (ol.take (ol.length - 1)) (node (nth ol (ol.length - 1)) y) = T) := by have := hP.out; rw [pushN, if_pos hz] at this; exact this
        have HK : Hid (k / 2 < 2 ^ f) := by have := hk.out; rw [Nat.pow_succ] at this; unfold Hid; omega
        have HL : Hid (ol.length = 1 + onesF f (k / 2)) := by have := hol.out; unfold onesF at this; rw [hz] at this; exact this
        have h1 : 1 ≤ ol.length := by have := HL.out; omega
        obtain ⟨a, c, rfl⟩ := hO.shape
        obtain ⟨m, hm⟩ : ∃ m, ol.length = m := ⟨_, rfl⟩
        obtain ⟨k1, k2⟩ := hO.ints.capMax
        unfold maxLen at k2
        rw [hm] at hO h1 hol7 k1
        obtain ⟨gg, rfl, hgB, _, hcx⟩ := hO.at_ (by omega)
        have hy := (hcx (m - 1) (by omega)).1
        clear hcx
        have HOm := Lib.hid hO; clear hO
        have HM := Lib.hid hm
        rw [hm] at HP
        have HN := Lib.hid (nth_digest hd2.out (m - 1))
        clear hk hol hP
        generalize hnl : nth ol (m - 1) = z at *
        clear hnl
        have ew : IntKind.i64.wrap ((m : Int) - 1) = (m : Int) - 1 := IntWalk.i64_in _ (by omega)
        have het : (((m : Int) - 1).toNat) = m - 1 := by omega
        have z1 : (0 : Int) ≤ (m : Int) - 1 := by omega
        have z2 : (m : Int) - 1 < (m : Int) := by omega
        have ha : bits .and .i64 (k : Int) 1 = 1 := by rw [and1 _ (by omega) (by omega)]; omega
        try rw [hm]
        clear hm
        go_wp2_with fail
        generalize hq : (m : Int) - 1 = q at *
        clear hq
        have z3 : q ≤ (c : Int) := by omega
        go_region_held3 (fun w' => Below wr.heap.size wr w' ∧ w'.cell? ⟨gg, m - 1, none⟩ = some (.int .i64 z)) (first | exact ⟨(Below.refl _ _).drew, hy⟩ | exact keep_c (by assumption) (by assumption)) ((go_at_call 172; (with_reducible refine (impl_nodeOf z y _ HN.out hy2.out).mono ?_); rintro e w2 ⟨rfl, hb2⟩))
        go_wp2_with fail
        go_roundg f
        case measure => omega
        case rel => exact ⟨k / 2, ol.take (m - 1), node z y, by first | rfl | (congr 1; omega), rfl, HK.out, by omega, by have := HL.out; have := HM.out; unfold Hid; simp; omega, by have := HM.out; simp; omega, HP.out, all_take hd2.out _, digestB_node _ _, (HOm.out.below (‹Below wr.heap.size wr _ ∧ _›).1).take' (by omega) HM.out, keep_b (‹Below wr.heap.size wr _ ∧ _›).1 HB.out⟩
      · have HF : Hid (ol ++ [y] = T) := by
          have := hP.out
          cases gk with
          | zero => exact this
          | succ g => rw [pushN, if_neg hz] at this; exact this
        have ha : bits .and .i64 (k : Int) 1 = 0 := by rw [and1 _ (by omega) (by omega)]; omega
        obtain ⟨a, c, rfl⟩ := hO.shape
        clear hO hb hol
        go_wp2_with (at_builtin; refine wpList_append_ints rfl _ _ rfl w.heap.size _ _ ol [y] rfl (HO.out.alloc _) rfl (Ints.lit1 _ (digest_I64 hy2.out)) (by simp; omega) (by simp; omega) ?_; intro v3 w3 hown3 hgr3)
        have hb3 : Below w.heap.size w w3 := (HB.out.alloc hB _).trans ((HO.out.alloc _).grown hgr3 (by simp; omega))
        go_ret2
        exact ⟨_, (by rw [HB0.out]; rfl), by rw [HLL.out, ← HF.out]; exact InI.of_own hown3, hb3⟩
  · have hz : ((p : Int) == ((ones n.toNat : Nat) : Int)) = false := by rw [beq_eq_false_iff_ne]; omega
    have HB : Hid (psB n l x = false) := by unfold Hid psB; rw [decide_eq_false (by omega : ¬ l.length = ones n.toNat)]; simp
    have HL : Hid (psL n l x = []) := NO.out HB.out
    have hz1 : ¬ ((p : Int) = ((ones n.toNat : Nat) : Int)) := by omega
    have hz2 : decide ((p : Int) = ((ones n.toNat : Nat) : Int)) = false := decide_eq_false hz1
    clear hq e
    go_enter Try.func68, Try.ntmps68
    go_wp2_with fail
    refine (impl_within _ _ _ _).mono ?_; rintro e w1 ⟨rfl, rfl⟩
    rw [HQ.out]
    go_wp2_with fail
    refine (bits_OnesCount _ _ q1 q2).mono ?_; rintro e w1 ⟨rfl, rfl⟩
    go_wp2_with fail
    go_ret2
    exact ⟨.slice none 0 0, (by rw [HB.out]; rfl), by rw [HL.out]; exact InI.of_own (OwnI.nil _ _), Below.refl _ _⟩
end Go.Proofs.Ytlapmdcjfopbaaa
