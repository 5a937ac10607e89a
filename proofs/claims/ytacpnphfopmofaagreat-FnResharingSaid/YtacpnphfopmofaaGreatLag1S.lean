/- Lists of different numbers: walks (Go's slices.Index, slices.Contains; areDifferent, areTrustees; spec.yPoints). -/
import Derived.Test.YtacpnphfopmofaaGreatFindRS
import Derived.Test.YtacpnphfopmofaaGreatBmS
import Derived.Test.YtacpnphfopmofaaGreatBaS
import Derived.Test.YtacpnphfopmofaaGreatCom1S
import Derived.Test.YtacpnphfopmofaaGreatSh2S
import Derived.Test.YtacpnphfopmofaaGreatPow2S
import Derived.Test.YtacpnphfopmofaaGreatRegVS
import Derived.Test.YtacpnphfopmofaaGreatDrSh3S
import Derived.Deep.QuietTactic
import Derived.BigQuiet
namespace Go.Proofs.YtacpnphfopmofaaGreat
open Go.RowKit
set_option linter.unusedSimpArgs false
set_option linter.unusedVariables false

theorem nthE {l : List Int} {k : Nat} (h : k < l.length) : nth l k = l[k] := by simp [nth, List.getD, h]
/-- the numbers are different -/
def ptsB (l : List Int) : Bool := decide l.Nodup
def trL (l : List Int) : Bool := (l.all fun i => decide (1 ≤ i ∧ i ≤ 7)) && ptsB l
theorem nodup_step {l : List Int} {k : Nat} (hk : k < l.length) (h : (l.take k).Nodup) (hn : nth l k ∉ l.take k) : (l.take (k + 1)).Nodup := by
  rw [List.take_succ_eq_append_getElem hk, List.nodup_append]
  refine ⟨h, by simp, fun a ha b hb => ?_⟩
  rw [List.mem_singleton] at hb
  rw [hb, ← nthE hk]
  rintro rfl
  exact hn ha
theorem nodup_not {l : List Int} {k : Nat} (hk : k < l.length) (h : nth l k ∈ l.take k) : ¬ l.Nodup := by
  intro hn
  have h2 : (l.take (k + 1)).Nodup := hn.sublist (List.take_sublist _ _)
  rw [List.take_succ_eq_append_getElem hk, List.nodup_append] at h2
  exact h2.2.2 _ h (l[k]) (by simp) (nthE hk)
theorem mem_nth {l : List Int} {x : Int} (h : x ∈ l) : ∃ i, i < l.length ∧ nth l i = x := by
  obtain ⟨i, hi, e⟩ := List.getElem_of_mem h
  exact ⟨i, hi, by rw [nthE hi]; exact e⟩
set_option maxRecDepth 100000 in
set_option maxHeartbeats 2000000 in
theorem slices_IndexF (v : Value) (l : List Int) (x : Int) (w : World) (h : Ints w v l) :
    Calls Tryz.prog 125 #[v, .int .i64 x] w fun e w' => (∃ r : Int, e = .returned (.int .i64 r) ∧ decide (0 ≤ r) = decide (x ∈ l)) ∧ w = w' := by
  obtain ⟨a, n, c, rfl⟩ := h.shape
  have HE := Lib.hid h.len
  have HH := Lib.hid h
  obtain ⟨k1, k2⟩ := h.capMax
  unfold maxLen at k2
  clear h
  go_enter Tryz.func125, Tryz.ntmps125
  go_wp2_with fail
  go_loopg [8] n (fun gk iv wr => ∃ k : Nat, k + gk = n ∧ iv = .int .i64 k ∧ (∀ i, i < k → nth l i ≠ x) ∧ w = wr)
  case atStart => exact ⟨0, by omega, rfl, fun i h => absurd h (by omega), rfl⟩
  case round =>
    obtain ⟨k, hkg, rfl, hb, rfl⟩ := hrel
    have HB := Lib.hid hb
    clear hb
    by_cases hlt : k < n
    · obtain ⟨b, o, rfl, hc⟩ := HH.out.at_ (by omega)
      have y0 := hc k hlt
      clear hc
      have b0 : (0 : Int) ≤ (k : Int) := by omega
      have bk1 : (k : Int) < (n : Int) := by omega
      have hwk : IntKind.i64.wrap ((k : Int) + 1) = (k : Int) + 1 := IntWalk.i64_in _ (by omega)
      by_cases he : nth l k = x
      · have HI : Hid (decide ((0 : Int) ≤ (k : Int)) = decide (x ∈ l)) := by
          unfold Hid
          rw [decide_eq_true (show (0 : Int) ≤ (k : Int) by omega), decide_eq_true (show x ∈ l by rw [← he, nthE (by rw [HE.out]; exact hlt)]; exact List.getElem_mem _)]
        rw [he] at y0
        clear he
        go_wp2_with fail
        go_ret
        exact ⟨⟨_, rfl, HI.out⟩, rfl⟩
      · have HN := Lib.hid he
        have hq : (x == nth l k) = false := beq_eq_false_iff_ne.2 (fun q => he q.symm)
        have hq2 : ¬ x = nth l k := fun q => he q.symm
        clear he
        have HNk : Hid (nth l k ≠ x) := HN.out
        clear HN
        generalize nth l k = y at y0 hq hq2
        go_wp2_with fail
        go_roundg (n - (k + 1))
        case measure => omega
        case rel =>
          refine ⟨k + 1, by omega, by go_num, fun i hi => ?_, rfl⟩
          by_cases e : i = k
          · subst e; exact HNk.out
          · exact HB.out i (by omega)
    · obtain rfl : n = k := by omega
      have HI : Hid (decide ((0 : Int) ≤ -1) = decide (x ∈ l)) := by
        unfold Hid
        rw [decide_eq_false (show ¬ (0 : Int) ≤ -1 by omega), decide_eq_false]
        intro hm
        obtain ⟨i, hi, e⟩ := mem_nth hm
        exact HB.out i (by have := HE.out; omega) e
      go_wp2_with fail
      go_ret
      exact ⟨⟨_, rfl, HI.out⟩, rfl⟩
set_option maxHeartbeats 2000000 in
theorem slices_Contains (v : Value) (l : List Int) (x : Int) (w : World) (h : Ints w v l) :
    Calls Tryz.prog 117 #[v, .int .i64 x] w fun e w' => e = .returned (.bool (decide (x ∈ l))) ∧ w = w' := by
  have H := Lib.hid h; clear h
  go_enter Tryz.func117, Tryz.ntmps117
  go_wp2_with fail
  refine (slices_IndexF v l x _ H.out).mono ?_
  rintro e w1 ⟨⟨r, rfl, hr⟩, rfl⟩
  have HR := Lib.hid hr
  clear hr
  go_wp2_with fail
  go_ret
  exact ⟨ret_bool (by first | (rw [HR.out]; done) | (rw [HR.out]; rfl) | exact HR.out.symm), rfl⟩
set_option maxRecDepth 100000 in
set_option maxHeartbeats 4000000 in
theorem impl_areDifferent (v : Value) (l : List Int) (w : World) (h : Ints w v l) :
    Calls Tryz.prog 94 #[v] w fun e w' => e = .returned (.bool (ptsB l)) ∧ w = w' := by
  obtain ⟨a, n, c, rfl⟩ := h.shape
  have HE := Lib.hid h.len
  have H := Lib.hid h
  obtain ⟨k1, k2⟩ := h.capMax
  unfold maxLen at k2
  clear h
  go_enter Tryz.func94, Tryz.ntmps94
  go_wp2_with fail
  go_loopg [7] n (fun gk iv wr => ∃ k : Nat, k + gk = n ∧ iv = .int .i64 k ∧ Hid ((l.take k).Nodup) ∧ w = wr)
  case atStart => exact ⟨0, by omega, rfl, by unfold Hid; simp, rfl⟩
  case round =>
    obtain ⟨k, hkg, rfl, HB, rfl⟩ := hrel
    by_cases hlt : k < n
    · obtain ⟨b, o, rfl, hc⟩ := H.out.at_ (by omega)
      have y0 := hc k hlt
      clear hc
      have b0 : (0 : Int) ≤ (k : Int) := by omega
      have bk1 : (k : Int) < (n : Int) := by omega
      have hwk : IntKind.i64.wrap ((k : Int) + 1) = (k : Int) + 1 := IntWalk.i64_in _ (by omega)
      obtain ⟨hsl, hti⟩ := sl_take H.out (x := (k : Int)) (k := k) rfl (by omega)
      have HT := Lib.hid hti
      have HK : Hid (k < l.length) := by unfold Hid; rw [HE.out]; exact hlt
      clear hti
      obtain ⟨q, hq⟩ : ∃ q, decide (nth l k ∈ l.take k) = q := ⟨_, rfl⟩
      have HQ := Lib.hid hq
      clear hq
      go_wp2_with fail
      refine (slices_Contains _ (l.take k) (nth l k) _ HT.out).mono ?_
      rintro e w1 ⟨rfl, rfl⟩
      rw [HQ.out]
      cases q with
      | true =>
        have HR : Hid (false = ptsB l) := (decide_eq_false (nodup_not HK.out (of_decide_eq_true HQ.out))).symm
        clear hsl
        go_wp2_with fail
        go_ret
        exact ⟨ret_bool HR.out, rfl⟩
      | false =>
        have HN : Hid ((l.take (k + 1)).Nodup) := nodup_step HK.out HB.out (of_decide_eq_false HQ.out)
        clear hsl
        go_wp2_with fail
        go_roundg (n - (k + 1))
        case measure => omega
        case rel => exact ⟨k + 1, by omega, by go_num, HN, rfl⟩
    · obtain rfl : n = k := by omega
      have HR : Hid (true = ptsB l) := by
        refine (decide_eq_true ?_).symm
        have := HB.out
        rwa [List.take_of_length_le (by rw [HE.out]; exact Nat.le_refl _)] at this
      go_wp2_with fail
      go_ret
      exact ⟨ret_bool HR.out, rfl⟩
set_option maxRecDepth 100000 in
set_option maxHeartbeats 4000000 in
theorem spec_yPoints (v : Value) (l : List Int) (w : World) (h : Ints w v l) :
    Calls Tryz.prog 59 #[v] w fun e w' => e = .returned (.bool (ptsB l)) ∧ w = w' := by
  obtain ⟨a, n, c, rfl⟩ := h.shape
  have HE := Lib.hid h.len
  have H := Lib.hid h
  obtain ⟨k1, k2⟩ := h.capMax
  unfold maxLen at k2
  clear h
  go_enter Tryz.func59, Tryz.ntmps59
  go_wp2_with fail
  go_loopg [7] n (fun gk iv wr => ∃ k : Nat, k + gk = n ∧ iv = .int .i64 k ∧ Hid ((l.take k).Nodup) ∧ w = wr)
  case atStart => exact ⟨0, by omega, rfl, by unfold Hid; simp, rfl⟩
  case round =>
    obtain ⟨k, hkg, rfl, HB, rfl⟩ := hrel
    by_cases hlt : k < n
    · obtain ⟨b, o, rfl, hc⟩ := H.out.at_ (by omega)
      have y0 := hc k hlt
      clear hc
      have b0 : (0 : Int) ≤ (k : Int) := by omega
      have bk1 : (k : Int) < (n : Int) := by omega
      have hwk : IntKind.i64.wrap ((k : Int) + 1) = (k : Int) + 1 := IntWalk.i64_in _ (by omega)
      obtain ⟨hsl, hti⟩ := sl_take H.out (x := (k : Int)) (k := k) rfl (by omega)
      have HT := Lib.hid hti
      have HK : Hid (k < l.length) := by unfold Hid; rw [HE.out]; exact hlt
      clear hti
      obtain ⟨q, hq⟩ : ∃ q, decide (nth l k ∈ l.take k) = q := ⟨_, rfl⟩
      have HQ := Lib.hid hq
      clear hq
      go_wp2_with fail
      refine (spec_l1Has _ (l.take k) (nth l k) _ HT.out).mono ?_
      rintro e w1 ⟨rfl, rfl⟩
      rw [HQ.out]
      cases q with
      | true =>
        have HR : Hid (false = ptsB l) := (decide_eq_false (nodup_not HK.out (of_decide_eq_true HQ.out))).symm
        clear hsl
        go_wp2_with fail
        go_ret
        exact ⟨ret_bool HR.out, rfl⟩
      | false =>
        have HN : Hid ((l.take (k + 1)).Nodup) := nodup_step HK.out HB.out (of_decide_eq_false HQ.out)
        clear hsl
        go_wp2_with fail
        go_roundg (n - (k + 1))
        case measure => omega
        case rel => exact ⟨k + 1, by omega, by go_num, HN, rfl⟩
    · obtain rfl : n = k := by omega
      have HR : Hid (true = ptsB l) := by
        refine (decide_eq_true ?_).symm
        have := HB.out
        rwa [List.take_of_length_le (by rw [HE.out]; exact Nat.le_refl _)] at this
      go_wp2_with fail
      go_ret
      exact ⟨ret_bool HR.out, rfl⟩
theorem decides_isTrustee (w : World) : Decides w 40 #[] (fun i => decide (1 ≤ i ∧ i ≤ 7)) :=
  ⟨Tryz.call40, fun x wr hx hb => (impl_isTrustee x wr).mono fun e w' ⟨h1, h2⟩ => ⟨h1, h2⟩⟩
set_option maxHeartbeats 2000000 in
theorem impl_areTrustees (v : Value) (l : List Int) (w : World) (h : Ints w v l) :
    Calls Tryz.prog 51 #[v] w fun e w' => e = .returned (.bool (trL l)) ∧ Below w.heap.size w w' := by
  have H := Lib.hid h; clear h
  obtain ⟨q, hq⟩ : ∃ q, (l.all fun i => decide (1 ≤ i ∧ i ≤ 7)) = q := ⟨_, rfl⟩
  obtain ⟨r, hr⟩ : ∃ q, ptsB l = q := ⟨_, rfl⟩
  have HE : Hid (trL l = (q && r)) := by unfold Hid trL; rw [hq, hr]
  have HQ := Lib.hid hq
  have HR := Lib.hid hr
  clear hq hr
  go_enter Tryz.func51, Tryz.ntmps51
  go_wp2_with fail
  refine (impl_areAll v l 40 _ _ _ H.out (decides_isTrustee _)).mono ?_
  rintro e w1 ⟨rfl, hb⟩
  have HB := Lib.hid hb
  clear hb
  rw [HQ.out]
  cases q with
  | false =>
    go_wp2_with fail
    go_ret
    exact ⟨ret_bool (by rw [HE.out]; rfl), HB.out⟩
  | true =>
    go_wp2_with fail
    refine (impl_areDifferent v l _ (H.out.below HB.out)).mono ?_
    rintro e w2 ⟨rfl, rfl⟩
    rw [HR.out]
    go_wp2_with fail
    go_ret
    exact ⟨ret_bool (by rw [HE.out]; rfl), HB.out⟩
end Go.Proofs.YtacpnphfopmofaaGreat
namespace Go.Proofs.YtacpnphfopmofaaGreat
open Go.RowKit
set_option linter.unusedSimpArgs false
set_option linter.unusedVariables false

/-- the value of a polynomial over the integers -/
def evI (f : List Int) (x : Int) : Int := f.foldr (fun a o => o * x + a) 0
theorem evI_cons (a : Int) (f : List Int) (x : Int) : evI (a :: f) x = evI f x * x + a := rfl
/-- a function that is a polynomial with at most n coefficients -/
def IsP (n : Nat) (F : Int → Int) : Prop := ∃ f : List Int, f.length = n ∧ ∀ x, F x = evI f x
theorem IsP.zero (n : Nat) : IsP n (fun _ => 0) := by
  refine ⟨List.replicate n 0, by simp, fun x => ?_⟩
  induction n with
  | zero => rfl
  | succ n ih => rw [List.replicate_succ, evI_cons, ← ih]; simp
theorem evI_add (f g : List Int) (h : f.length = g.length) (x : Int) : evI (List.zipWith (· + ·) f g) x = evI f x + evI g x := by
  induction f generalizing g with
  | nil => cases g with
    | nil => rfl
    | cons b g => simp at h
  | cons a f ih => cases g with
    | nil => simp at h
    | cons b g =>
      rw [List.zipWith_cons_cons, evI_cons, evI_cons, evI_cons, ih g (by simpa using h), Int.add_mul]; omega
theorem IsP.add {n : Nat} {F G : Int → Int} (hF : IsP n F) (hG : IsP n G) : IsP n (fun x => F x + G x) := by
  obtain ⟨f, hf, hF⟩ := hF
  obtain ⟨g, hg, hG⟩ := hG
  exact ⟨List.zipWith (· + ·) f g, by simp [hf, hg], fun x => by show F x + G x = _; rw [evI_add f g (by omega), hF, hG]⟩
theorem evI_smul (c : Int) (f : List Int) (x : Int) : evI (f.map (c * ·)) x = c * evI f x := by
  induction f with
  | nil => simp [evI]
  | cons a f ih => rw [List.map_cons, evI_cons, evI_cons, ih, Int.mul_add, Int.mul_assoc]
theorem IsP.smul {n : Nat} {F : Int → Int} (c : Int) (hF : IsP n F) : IsP n (fun x => c * F x) := by
  obtain ⟨f, hf, hF⟩ := hF
  exact ⟨f.map (c * ·), by simp [hf], fun x => by show c * F x = _; rw [evI_smul, hF]⟩
theorem IsP.up {n : Nat} {F : Int → Int} (hF : IsP n F) : IsP (n + 1) F := by
  obtain ⟨f, hf, hF⟩ := hF
  refine ⟨f ++ [0], by simp [hf], fun x => ?_⟩
  rw [hF]
  unfold evI
  rw [List.foldr_append]; simp
theorem IsP.le {n m : Nat} {F : Int → Int} (hF : IsP n F) (h : n ≤ m) : IsP m F := by
  obtain ⟨k, rfl⟩ : ∃ k, m = n + k := ⟨m - n, by omega⟩
  induction k with
  | zero => exact hF
  | succ k ih => exact (ih (by omega)).up
theorem IsP.shift {n : Nat} {F : Int → Int} (hF : IsP n F) : IsP (n + 1) (fun x => F x * x) := by
  obtain ⟨f, hf, hF⟩ := hF
  exact ⟨0 :: f, by simp [hf], fun x => by show F x * x = _; rw [evI_cons, hF]; omega⟩
theorem IsP.root {n : Nat} {F : Int → Int} (hF : IsP n F) (r : Int) : IsP (n + 1) (fun x => F x * (x - r)) := by
  have h := hF.shift.add (hF.up.smul (-r))
  obtain ⟨f, hf, h⟩ := h
  refine ⟨f, hf, fun x => ?_⟩
  rw [← h x]
  show F x * (x - r) = F x * x + -r * F x
  rw [Int.mul_sub, Int.neg_mul, Int.mul_comm r]; omega
theorem IsP.one : IsP 1 (fun _ => 1) := ⟨[1], rfl, fun x => by simp [evI]⟩
theorem IsP.ev (f : List Int) : IsP f.length (evI f) := ⟨f, rfl, fun _ => rfl⟩
/-- division by a root -/
theorem evI_div (f : List Int) (a : Int) : f ≠ [] → ∃ g : List Int, g.length + 1 = f.length ∧ ∀ x, evI f x = (x - a) * evI g x + evI f a := by
  induction f with
  | nil => intro h; exact absurd rfl h
  | cons b f ih =>
    intro _
    cases f with
    | nil => exact ⟨[], rfl, fun x => by simp [evI]⟩
    | cons c f =>
      obtain ⟨g, hg, h⟩ := ih (by simp)
      refine ⟨evI (c :: f) a :: g, by simp at hg ⊢; omega, fun x => ?_⟩
      rw [evI_cons b, evI_cons b, evI_cons (evI (c :: f) a), h x]
      generalize evI (c :: f) a = u
      generalize evI g x = v
      simp only [Int.sub_mul, Int.mul_sub, Int.add_mul, Int.mul_add, Int.mul_assoc, Int.mul_comm, Int.mul_left_comm]
      omega
/-- a product that a prime divides -/
theorem prm_mul {q a b : Int} (hq : Prm q) (h : a * b % q = 0) : a % q = 0 ∨ b % q = 0 := by
  by_cases ha : a % q = 0
  · exact .inl ha
  · refine .inr ?_
    have h2 := hq.1
    have h0 := Int.emod_nonneg a (show q ≠ 0 by omega)
    have h1 := Int.emod_lt_of_pos a (show 0 < q by omega)
    obtain ⟨z, hz⟩ := inverse_is hq (show 0 < a % q by omega) h1
    have e : z * (a * b) % q = b % q := by
      rw [emod_mul_left] at hz
      rw [← Int.mul_assoc, Int.mul_comm z, Int.mul_emod, hz, Int.one_mul, Int.emod_emod]
    rw [← e, Int.mul_emod, h, Int.mul_zero, Int.zero_emod]
/-- points that are different modulo q -/
def Diff (q : Int) (xs : List Int) : Prop := xs.Pairwise fun a b => (a - b) % q ≠ 0
/-- a polynomial with as many roots as coefficients is zero -/
theorem roots_zero {q : Int} (hq : Prm q) : ∀ (n : Nat) (F : Int → Int) (xs : List Int), IsP n F → xs.length = n → Diff q xs → (∀ a ∈ xs, F a % q = 0) → ∀ x, F x % q = 0 := by
  intro n
  induction n with
  | zero =>
    intro F xs hF _ _ _ x
    obtain ⟨f, hf, hF⟩ := hF
    have : f = [] := List.length_eq_zero_iff.1 hf
    rw [hF, this]; rfl
  | succ n ih =>
    intro F xs hF hl hd hr x
    obtain ⟨f, hf, hF⟩ := hF
    cases xs with
    | nil => simp at hl
    | cons a xs =>
      obtain ⟨g, hg, h⟩ := evI_div f a (by intro e; rw [e] at hf; simp at hf)
      have ha : evI f a % q = 0 := by rw [← hF]; exact hr a (by simp)
      have hd' := List.pairwise_cons.1 hd
      have k := ih (evI g) xs ⟨g, by omega, fun _ => rfl⟩ (by simpa using hl) hd'.2 (fun b hb => by
        have hb0 : F b % q = 0 := hr b (by simp [hb])
        rw [hF, h b, Int.add_emod, ha, Int.add_zero, Int.emod_emod] at hb0
        rcases prm_mul hq hb0 with h1 | h1
        · exfalso
          refine hd'.1 b hb ?_
          rw [show a - b = -(b - a) by omega]
          obtain ⟨t, ht⟩ := Int.dvd_of_emod_eq_zero h1
          rw [ht, show -(q * t) = q * -t by rw [Int.mul_neg]]
          exact Int.mul_emod_right _ _
        · exact h1) x
      rw [hF, h x, Int.add_emod, ha, Int.add_zero, Int.emod_emod, Int.mul_emod, k, Int.mul_zero, Int.zero_emod]
/-- the product of the distances to the points -/
def disI (xs : List Int) (x : Int) : Int := xs.foldl (fun o b => o * (x - b)) 1
theorem disI_fold (xs : List Int) (x : Int) : ∀ o : Int, xs.foldl (fun o b => o * (x - b)) o = o * disI xs x := by
  induction xs with
  | nil => intro o; simp [disI]
  | cons b xs ih =>
    intro o
    unfold disI
    rw [List.foldl_cons, List.foldl_cons, ih, ih (1 * (x - b)), Int.one_mul, Int.mul_assoc]
theorem disI_cons (b : Int) (xs : List Int) (x : Int) : disI (b :: xs) x = (x - b) * disI xs x := by
  show List.foldl _ (1 * (x - b)) xs = _
  rw [disI_fold, Int.one_mul]
theorem disI_isP (xs : List Int) : IsP (xs.length + 1) (disI xs) := by
  induction xs with
  | nil => exact IsP.one
  | cons b xs ih =>
    obtain ⟨f, hf, h⟩ := ih.root b
    exact ⟨f, hf, fun x => by rw [disI_cons, ← h x, Int.mul_comm]⟩
theorem disI_root {xs : List Int} {a : Int} (h : a ∈ xs) : disI xs a = 0 := by
  induction xs with
  | nil => simp at h
  | cons b xs ih =>
    rw [disI_cons]
    rcases List.mem_cons.1 h with h | h
    · rw [h]; simp
    · rw [ih h]; simp
theorem disI_ne {q : Int} (hq : Prm q) {xs : List Int} {a : Int} (h : ∀ b ∈ xs, (a - b) % q ≠ 0) : disI xs a % q ≠ 0 := by
  have h2 := hq.1
  induction xs with
  | nil => show (1 : Int) % q ≠ 0; rw [Int.emod_eq_of_lt (by omega) (by omega)]; omega
  | cons b xs ih =>
    rw [disI_cons]
    intro h0
    rcases prm_mul hq h0 with h1 | h1
    · exact h b (by simp) h1
    · exact ih (fun c hc => h c (by simp [hc])) h1
/-- the other points -/
def restL (xs : List Int) (i : Nat) : List Int := xs.take i ++ xs.drop (i + 1)
theorem restL_len {xs : List Int} {i : Nat} (h : i < xs.length) : (restL xs i).length = xs.length - 1 := by
  unfold restL; simp; omega
/-- the coefficient of a point -/
noncomputable def lagI (q : Int) (xs : List Int) (x : Int) (i : Nat) : Int := disI (restL xs i) x % q * invQ (disI (restL xs i) (nth xs i) % q) q % q
noncomputable def lagL (q : Int) (xs : List Int) (x : Int) : List Int := (List.range xs.length).map (lagI q xs x)
theorem diff_rest {q : Int} {xs : List Int} (h : Diff q xs) {i : Nat} (hi : i < xs.length) : ∀ b ∈ restL xs i, (nth xs i - b) % q ≠ 0 := by
  have hn : nth xs i = xs[i] := by simp [nth, List.getD, hi]
  intro b hb
  unfold restL at hb
  rw [hn]
  rcases List.mem_append.1 hb with hb | hb
  · obtain ⟨j, hj, rfl⟩ := List.mem_take_iff_getElem.1 hb
    have hj' : j < i := by omega
    have := (List.pairwise_iff_getElem.1 h) j i (by omega) hi hj'
    intro h0
    refine this ?_
    rw [show xs[j] - xs[i] = -(xs[i] - xs[j]) by omega]
    obtain ⟨t, ht⟩ := Int.dvd_of_emod_eq_zero h0
    rw [ht, show -(q * t) = q * -t by rw [Int.mul_neg]]
    exact Int.mul_emod_right _ _
  · obtain ⟨j, hj, rfl⟩ := List.mem_drop_iff_getElem.1 hb
    have := (List.pairwise_iff_getElem.1 h) i (i + 1 + j) hi (by omega) (by omega)
    exact this
theorem mem_rest {xs : List Int} {i j : Nat} (hj : j < xs.length) (h : j ≠ i) : nth xs j ∈ restL xs i := by
  have hn : nth xs j = xs[j] := by simp [nth, List.getD, hj]
  rw [hn]; unfold restL
  rcases Nat.lt_or_gt_of_ne h with h | h
  · exact List.mem_append.2 (.inl (List.mem_take_iff_getElem.2 ⟨j, by omega, rfl⟩))
  · refine List.mem_append.2 (.inr (List.mem_drop_iff_getElem.2 ⟨j - (i + 1), by omega, ?_⟩))
    congr 1; omega
theorem lag_den {q : Int} (hq : Prm q) {xs : List Int} (h : Diff q xs) {i : Nat} (hi : i < xs.length) : 0 < disI (restL xs i) (nth xs i) % q ∧ disI (restL xs i) (nth xs i) % q < q := by
  have h2 := hq.1
  have h0 := Int.emod_nonneg (disI (restL xs i) (nth xs i)) (show q ≠ 0 by omega)
  have := disI_ne hq (diff_rest h hi)
  exact ⟨by omega, Int.emod_lt_of_pos _ (by omega)⟩
theorem lag_at {q : Int} (hq : Prm q) {xs : List Int} (h : Diff q xs) {i j : Nat} (hi : i < xs.length) (hj : j < xs.length) : lagI q xs (nth xs j) i = if j = i then 1 else 0 := by
  have h2 := hq.1
  unfold lagI
  by_cases e : j = i
  · subst e
    obtain ⟨d1, d2⟩ := lag_den hq h hi
    rw [if_pos rfl]
    exact (invQ_is hq d1 d2).2
  · rw [if_neg e, disI_root (mem_rest hj e)]; simp
/-- the sum that interpolates -/
def dotI (n : Nat) (f g : Nat → Int) : Int := ((List.range n).map fun i => f i * g i).sum
theorem dotI_succ (n : Nat) (f g : Nat → Int) : dotI (n + 1) f g = dotI n f g + f n * g n := by
  unfold dotI; rw [List.range_succ, List.map_append, List.sum_append]; simp
theorem dotI_isP {m : Nat} (c : Nat → Int) (F : Nat → Int → Int) (n : Nat) (h : ∀ i, i < n → IsP m (F i)) : IsP m (fun x => dotI n c (fun i => F i x)) := by
  induction n with
  | zero => exact IsP.zero m
  | succ n ih =>
    obtain ⟨f, hf, hF⟩ := (ih fun i hi => h i (by omega)).add ((h n (by omega)).smul (c n))
    exact ⟨f, hf, fun x => by rw [← hF x]; exact dotI_succ n c (fun i => F i x)⟩
theorem dotI_mod {q : Int} (n : Nat) {f f' g g' : Nat → Int} (h : ∀ i, i < n → (f i * g i) % q = (f' i * g' i) % q) : dotI n f g % q = dotI n f' g' % q := by
  induction n with
  | zero => rfl
  | succ n ih =>
    rw [dotI_succ, dotI_succ, Int.add_emod, ih (fun i hi => h i (by omega)), h n (by omega), ← Int.add_emod]
theorem dotI_single {n j : Nat} (hj : j < n) (f : Nat → Int) : dotI n f (fun i => if j = i then 1 else 0) = f j := by
  induction n with
  | zero => omega
  | succ n ih =>
    rw [dotI_succ]
    by_cases e : j = n
    · subst e
      rw [if_pos rfl]
      have : dotI j f (fun i => if j = i then 1 else 0) = 0 := by
        clear ih hj
        have : ∀ m, m ≤ j → dotI m f (fun i => if j = i then 1 else 0) = 0 := by
          intro m
          induction m with
          | zero => intro _; rfl
          | succ m ihm => intro hm; rw [dotI_succ, ihm (by omega), if_neg (by omega)]; simp
        exact this j (Nat.le_refl _)
      rw [this]; simp
    · rw [ih (by omega), if_neg e]; simp
/-- interpolation: a polynomial with at most as many coefficients as points -/
theorem interp {q : Int} (hq : Prm q) {xs : List Int} (hd : Diff q xs) {F : Int → Int} (hF : IsP xs.length F) (x : Int) (vs : Nat → Int) (hv : ∀ i, i < xs.length → vs i % q = F (nth xs i) % q) :
    dotI xs.length vs (lagI q xs x) % q = F x % q := by
  have h2 := hq.1
  -- the sum as a polynomial
  let c : Nat → Int := fun i => vs i * invQ (disI (restL xs i) (nth xs i) % q) q
  have hG : IsP xs.length (fun y => dotI xs.length c (fun i => disI (restL xs i) y) + (-1) * F y) := by
    refine IsP.add (dotI_isP c _ _ fun i hi => ?_) (hF.smul (-1))
    refine (disI_isP (restL xs i)).le ?_
    rw [restL_len hi]; omega
  have key : ∀ y, dotI xs.length vs (lagI q xs y) % q = dotI xs.length c (fun i => disI (restL xs i) y) % q := fun y => by
    refine dotI_mod _ fun i hi => ?_
    show (vs i * lagI q xs y i) % q = (vs i * invQ (disI (restL xs i) (nth xs i) % q) q * disI (restL xs i) y) % q
    unfold lagI
    rw [emod_mul_right, ← Int.mul_assoc, Int.mul_assoc (vs i) (disI (restL xs i) y % q), Int.mul_comm (disI (restL xs i) y % q), ← Int.mul_assoc, emod_mul_right]
  have z := roots_zero hq _ _ xs hG rfl hd (fun a ha => by
    obtain ⟨j, hj, rfl⟩ := List.getElem_of_mem ha
    have hn : nth xs j = xs[j] := by simp [nth, List.getD, hj]
    rw [← hn]
    show (dotI xs.length c (fun i => disI (restL xs i) (nth xs j)) + (-1) * F (nth xs j)) % q = 0
    rw [Int.add_emod, ← key (nth xs j), dotI_mod (f' := vs) (g' := fun i => if j = i then 1 else 0) _ (fun i hi => by rw [lag_at hq hd hi hj]), dotI_single hj, hv j hj, ← Int.add_emod]
    rw [show F (nth xs j) + -1 * F (nth xs j) = 0 by omega]; simp) x
  rw [key]
  have z' : (dotI xs.length c (fun i => disI (restL xs i) x) + (-1) * F x) % q = 0 := z
  have e : (dotI xs.length c (fun i => disI (restL xs i) x) - F x) % q = 0 := by rw [← z']; congr 1; omega
  exact Int.emod_eq_emod_iff_emod_sub_eq_zero.2 e
end Go.Proofs.YtacpnphfopmofaaGreat
namespace Go.Proofs.YtacpnphfopmofaaGreat
open Go.RowKit
set_option linter.unusedSimpArgs false
set_option linter.unusedVariables false

theorem tdiv_pos {a b : Int} (h : 0 ≤ a) : Int.tdiv a b = a / b := Int.tdiv_eq_ediv_of_nonneg h
set_option maxHeartbeats 1000000 in
theorem impl_inverse (a m : Int) (w : World) (hm : Prm m) (h0 : 0 < a) (h1 : a < m) (h2 : m ≤ 2000000000) :
    Calls Tryz.prog 121 #[.int .i64 a, .int .i64 m] w fun e w' => e = .returned (.int .i64 (invQ a m)) ∧ w = w' := by
  have HM := Lib.hid hm
  clear hm
  go_enter Tryz.func121, Tryz.ntmps121
  go_wp2
  go_loopg [5, 6, 7, 8] a.toNat (fun g rv nv xv yv wr => ∃ (r n x y : Int), rv = .int .i64 r ∧ nv = .int .i64 n ∧ xv = .int .i64 x ∧ yv = .int .i64 y ∧ n ≤ (g : Int) ∧ Hid (EuInv a m r n x y) ∧ w = wr)
  case atStart => exact ⟨m, a, 0, 1, rfl, rfl, rfl, rfl, by omega, EuInv.start (by omega) (by omega) (by omega), rfl⟩
  case round =>
    obtain ⟨r, n, x, y, rfl, rfl, rfl, rfl, hg, HI, rfl⟩ := hrel
    have hn0 : 0 ≤ n := HI.out.1
    have hr1 : 1 ≤ r := HI.out.2.1
    have hrm : r ≤ m := HI.out.2.2.1
    have hnm : n ≤ m := HI.out.2.2.2.1
    obtain ⟨hx1, hx2, hy1, hy2⟩ := HI.out.bd
    by_cases hz : n = 0
    · subst hz
      obtain ⟨e1, e2⟩ := HI.out.inv HM.out h0 h1
      have HE := Lib.hid e2
      subst e1
      clear e2
      go_wp2_with fail
      refine (impl_mod x m _ ⟨by omega, by omega⟩ (by omega) (by omega)).mono ?_
      rintro e w1 ⟨rfl, rfl⟩
      go_wp2_with fail
      go_ret
      exact ⟨ret_int HE.out, rfl⟩
    · have hz2 : (n == 0) = false := beq_eq_false_iff_ne.2 hz
      have hz3 : (n != 0) = true := by rw [bne_iff_ne]; exact hz
      obtain ⟨HN, s1, s2⟩ := HI.out.step (by omega)
      obtain ⟨q0, q1, q2, q3, q4, q5⟩ := HI.out.quo (by omega)
      have hd : Int.tdiv r n = r / n := tdiv_pos (by omega)
      obtain ⟨t1, t2, t3, t4⟩ := HN.bd
      have HN := Lib.hid HN
      obtain ⟨q, hq⟩ : ∃ q, r / n = q := ⟨_, rfl⟩
      rw [hq] at HN s1 s2 q0 q1 q2 q3 q4 q5 hd t3 t4
      clear hq
      have w1 : IntKind.i64.wrap q = q := IntWalk.i64_in _ (by omega)
      have w2 : IntKind.i64.wrap (q * n) = q * n := IntWalk.i64_in _ (by omega)
      have w3 : IntKind.i64.wrap (r - q * n) = r - q * n := IntWalk.i64_in _ (by omega)
      have w4 : IntKind.i64.wrap (q * y) = q * y := IntWalk.i64_in _ (by omega)
      have w5 : IntKind.i64.wrap (x - q * y) = x - q * y := IntWalk.i64_in _ (by omega)
      go_wp2_with fail
      go_roundg (r - q * n).toNat
      case measure => omega
      case rel => exact ⟨n, r - q * n, y, x - q * y, rfl, rfl, rfl, rfl, by omega, HN.out, rfl⟩
set_option maxHeartbeats 1000000 in
theorem spec_nInverse (a m : Int) (w : World) (hm : Prm m) (ha : I64 a) (h0 : 0 < a % m) (h2 : m ≤ 2000000000) :
    Calls Tryz.prog 105 #[.int .i64 a, .int .i64 m] w fun e w' => e = .returned (.tuple #[.int .i64 (invQ (a % m) m), .bool true]) ∧ w = w' := by
  have hm2 := hm.1
  have HM := Lib.hid hm
  clear hm
  have h1 : a % m < m := Int.emod_lt_of_pos _ (by omega)
  have HA := Lib.hid ha
  clear ha
  go_enter Tryz.func105, Tryz.ntmps105
  go_wp2_with fail
  refine (spec_nMod a m _ HA.out (by omega) (by omega)).mono ?_
  rintro e w1 ⟨rfl, rfl⟩
  clear HA
  obtain ⟨c, hcc⟩ : ∃ c, a % m = c := ⟨_, rfl⟩
  rw [hcc] at h0 h1 ⊢
  have HCC := Lib.hid hcc
  clear hcc
  go_wp2_with fail
  go_loopg [6, 7, 8, 9] m.toNat (fun g rv nv xv yv wr => ∃ (r n x y : Int), rv = .int .i64 r ∧ nv = .int .i64 n ∧ xv = .int .i64 x ∧ yv = .int .i64 y ∧ n ≤ (g : Int) ∧ Hid (EuInv c m r n x y) ∧ w = wr)
  case atStart => exact ⟨c, m, 1, 0, rfl, rfl, rfl, rfl, by omega, EuInv.start2 (by omega) (by omega), rfl⟩
  case round =>
    obtain ⟨r, n, x, y, rfl, rfl, rfl, rfl, hg, HI, rfl⟩ := hrel
    have hn0 : 0 ≤ n := HI.out.1
    have hr1 : 1 ≤ r := HI.out.2.1
    have hrm : r ≤ m := HI.out.2.2.1
    have hnm : n ≤ m := HI.out.2.2.2.1
    obtain ⟨hx1, hx2, hy1, hy2⟩ := HI.out.bd
    by_cases hz : n = 0
    · subst hz
      obtain ⟨e1, e2⟩ := HI.out.inv HM.out h0 h1
      have HE := Lib.hid e2
      subst e1
      clear e2
      go_wp2_with fail
      refine (spec_nMod x m _ ⟨by omega, by omega⟩ (by omega) (by omega)).mono ?_
      rintro e w1 ⟨rfl, rfl⟩
      go_wp2_with fail
      go_ret2
      exact ⟨by rw [HCC.out, HE.out]; rfl, rfl⟩
    · have hz2 : (n == 0) = false := beq_eq_false_iff_ne.2 hz
      have hz3 : (n != 0) = true := by rw [bne_iff_ne]; exact hz
      obtain ⟨HN, s1, s2⟩ := HI.out.step (by omega)
      obtain ⟨q0, q1, q2, q3, q4, q5⟩ := HI.out.quo (by omega)
      have hd : Int.tdiv r n = r / n := tdiv_pos (by omega)
      obtain ⟨t1, t2, t3, t4⟩ := HN.bd
      have HN := Lib.hid HN
      obtain ⟨q, hq⟩ : ∃ q, r / n = q := ⟨_, rfl⟩
      rw [hq] at HN s1 s2 q0 q1 q2 q3 q4 q5 hd t3 t4
      clear hq
      have w1 : IntKind.i64.wrap q = q := IntWalk.i64_in _ (by omega)
      have w2 : IntKind.i64.wrap (q * n) = q * n := IntWalk.i64_in _ (by omega)
      have w3 : IntKind.i64.wrap (r - q * n) = r - q * n := IntWalk.i64_in _ (by omega)
      have w4 : IntKind.i64.wrap (q * y) = q * y := IntWalk.i64_in _ (by omega)
      have w5 : IntKind.i64.wrap (x - q * y) = x - q * y := IntWalk.i64_in _ (by omega)
      go_wp2_with fail
      go_roundg (r - q * n).toNat
      case measure => omega
      case rel => exact ⟨n, r - q * n, y, x - q * y, rfl, rfl, rfl, rfl, by omega, HN.out, rfl⟩
end Go.Proofs.YtacpnphfopmofaaGreat
namespace Go.Proofs.YtacpnphfopmofaaGreat
open Go.RowKit
set_option linter.unusedSimpArgs false
set_option linter.unusedVariables false

/-- append to an own slice: the new slice stands in the old block or in a new one -/
theorem run_append_intsB {w : World} {B : Nat} {v y : Value} {l m : List Int} (hown : OwnI w B v l) (hy : Ints w y m) (hm : m ≠ []) (hlen : l.length + m.length ≤ 1000000000000) (hB : B ≤ w.heap.size) (ty : TypeId) :
    ∃ v' w', (Builtin.append_ #[25, 25] ty #[v, y]).run Tryz.prog w = .ok v' w' ∧ OwnI w' B v' (l ++ m) ∧ w.grownBy w' v.ownBlock ∧ ∀ k, v'.ownBlock = some k → v.ownBlock = some k ∨ w.heap.size ≤ k := by
  obtain ⟨v', w', hr, h1, h2⟩ := run_append_ints (t := 25) rfl hown hy hlen hB ty
  refine ⟨v', w', hr, h1, h2, ?_⟩
  obtain ⟨i, hi, hz, hsz, hby⟩ := info_parts info_int
  obtain ⟨a', n', c', rfl, hn, hnc, hcm, hall, hc⟩ := hy
  have hml : 0 < m.length := List.length_pos_iff.2 hm
  rcases hc with ⟨rfl, rfl, rfl⟩ | ⟨ad, rfl, rfl⟩ | ⟨b, off, rfl, hc⟩
  · omega
  · omega
  have hnews : ∀ j u, (m.map (Value.int .i64))[j]? = some u → w.cell? ((⟨b, off, none⟩ : Addr).add j) = some u := by
    intro j u hu
    have hj : j < m.length := by simpa using (List.getElem?_eq_some_iff.1 hu).1
    rw [Addr.add_lit, hc j (by omega)]
    rw [List.getElem?_map, List.getElem?_eq_getElem hj] at hu
    rw [nth_eq hj]; simpa using hu
  have hol := hown.2.1
  rcases hown.2.2 with ⟨hv, hl0⟩ | ⟨g, cap, cur, hv, hbg, hg, hcap, hcm2, hcs, htake⟩
  · have hl : l = [] := by
      have := hl0
      simpa using this
    subst hl
    subst hv
    obtain ⟨v2, w2, hr2, h12, h22, _⟩ := run_append_own (P := Tryz.prog) w w.heap.size 25 ty 3 i (.int .i64 0) 1 8 Tryz.underlying25 hi hz hsz hby rfl (by decide) (.slice none 0 0) 0 [] (World.ownsRow_nil w _ _ 1) ⟨b, off, none⟩ n' c' (m.map (Value.int .i64)) (by simp [hn]) hnews (ints_oneCell .i64 m) (by unfold maxLen; simp at hlen; omega) (by simp at hlen; omega) (Nat.le_refl _)
    rw [hr] at hr2
    injection hr2 with e1 e2
    intro k hk
    rw [e1] at hk
    exact .inr (h12.lt k hk).1
  · subst hv
    by_cases hroom : l.length + n' ≤ cap
    · have hr2 := run_append_room (P := Tryz.prog) w 25 ty 3 i Tryz.underlying25 hi g l.length cap cur hg ⟨b, off, none⟩ n' c' (m.map (Value.int .i64)) (by simp [hn, hsz]) hnews (ints_oneCell .i64 m) hroom (by simp [hcs, hsz, ← hn]; omega)
      rw [hr] at hr2
      injection hr2 with e1 e2
      intro k hk
      rw [e1] at hk
      exact .inl hk
    · have hr2 := run_append_grow (P := Tryz.prog) w 25 ty 3 i (.int .i64 0) Tryz.underlying25 hi hz ⟨g, 0, none⟩ l.length cap (l.map (Value.int .i64)) (by simp [hsz]) (hown.2.cells (g := g) rfl) ⟨b, off, none⟩ n' c' (m.map (Value.int .i64)) (by simp [hn, hsz]) hnews (by omega) (by omega) (growslice_fits (by omega) (by rw [hby]; omega))
      rw [hr] at hr2
      injection hr2 with e1 e2
      intro k hk
      rw [e1] at hk
      have hk : some w.heap.size = some k := hk
      injection hk with hk
      exact .inr (Nat.le_of_eq hk)

/-- own slices in blocks apart -/
structure RowsI (w : World) (B : Nat) (rs : List (Value × List Int)) : Prop where
  own : ∀ (i : Nat) v l, rs[i]? = some (v, l) → OwnI w B v l
  ne : ∀ (i j : Nat) v l y m, i ≠ j → rs[i]? = some (v, l) → rs[j]? = some (y, m) → ∀ k, v.ownBlock = some k → y.ownBlock ≠ some k
theorem RowsI.keep {w w' : World} {B : Nat} {rs : List (Value × List Int)} (h : RowsI w B rs) (hk : ∀ v l, OwnI w B v l → OwnI w' B v l) : RowsI w' B rs :=
  ⟨fun i v l e => hk v l (h.own i v l e), h.ne⟩
theorem RowsI.below {w w' : World} {B : Nat} {rs : List (Value × List Int)} (h : RowsI w B rs) (hb : Below w.heap.size w w') : RowsI w' B rs := h.keep fun _ _ q => q.below hb
theorem RowsI.mono {w : World} {B B' : Nat} {rs : List (Value × List Int)} (h : RowsI w B rs) (hb : B' ≤ B) : RowsI w B' rs := ⟨fun i v l e => (h.own i v l e).mono hb, h.ne⟩
theorem RowsI.put {w w' : World} {B : Nat} {rs : List (Value × List Int)} (h : RowsI w B rs) {i : Nat} {v v' : Value} {l l' : List Int} (hi : rs[i]? = some (v, l))
    (hg : w.grownBy w' v.ownBlock) (ho : OwnI w' B v' l') (hf : ∀ k, v'.ownBlock = some k → v.ownBlock = some k ∨ w.heap.size ≤ k) : RowsI w' B (rs.set i (v', l')) := by
  have hil : i < rs.length := (List.getElem?_eq_some_iff.1 hi).1
  have get : ∀ (j : Nat) y m, (rs.set i (v', l'))[j]? = some (y, m) → (j = i ∧ y = v' ∧ m = l') ∨ (j ≠ i ∧ rs[j]? = some (y, m)) := by
    intro j y m e
    by_cases hj : j = i
    · subst hj
      rw [List.getElem?_set_self hil] at e
      injection e with e
      injection e with e1 e2
      exact .inl ⟨rfl, e1.symm, e2.symm⟩
    · rw [List.getElem?_set_ne (Ne.symm hj)] at e
      exact .inr ⟨hj, e⟩
  have far : ∀ (j : Nat) y m, j ≠ i → rs[j]? = some (y, m) → ∀ k, v'.ownBlock = some k → y.ownBlock ≠ some k := by
    intro j y m hj e k hk hy
    rcases hf k hk with q | q
    · exact h.ne i j v l y m (Ne.symm hj) hi e k q hy
    · have := ((h.own j y m e).lt k hy).2; omega
  refine ⟨?_, ?_⟩
  · intro j y m e
    rcases get j y m e with ⟨rfl, rfl, rfl⟩ | ⟨hj, e⟩
    · exact ho
    · refine (h.own j y m e).kept hg ?_
      cases hy : y.ownBlock with
      | none => exact .inl rfl
      | some k => exact .inr fun q => h.ne i j v l y m (Ne.symm hj) hi e k q.symm hy
  · intro j1 j2 y1 m1 y2 m2 hne e1 e2 k hk
    rcases get j1 y1 m1 e1 with ⟨rfl, rfl, rfl⟩ | ⟨hj1, e1'⟩
    · rcases get j2 y2 m2 e2 with ⟨rfl, _, _⟩ | ⟨hj2, e2'⟩
      · exact absurd rfl hne
      · exact far j2 y2 m2 hj2 e2' k hk
    · rcases get j2 y2 m2 e2 with ⟨rfl, rfl, rfl⟩ | ⟨hj2, e2'⟩
      · intro q
        exact far j1 y1 m1 hj1 e1' k q hk
      · exact h.ne j1 j2 y1 m1 y2 m2 hne e1' e2' k hk
/-- a literal takes an empty place -/
theorem RowsI.lit {w : World} {B : Nat} {rs : List (Value × List Int)} (h : RowsI w B rs) (hB : B ≤ w.heap.size) {i : Nat} {l : List Int} {cs : Array Value} (hi : rs[i]? = some (.slice none 0 0, [])) (hl : AllI64 l) (hc : cs = (l.map (Value.int .i64)).toArray) (hn : l.length ≤ maxLen) (n : Nat) (hnn : n = l.length) :
    RowsI (w.alloc (.cells cs 3)) B (rs.set i (.slice (some ⟨w.heap.size, 0, none⟩) n n, l)) :=
  h.put hi (grownBy_of_below ((Below.refl _ _).alloc (Nat.le_refl _) _)) (OwnI.lit w hB hl hc hn n hnn) (fun k hk => .inr (by have hk : some w.heap.size = some k := hk; injection hk with hk; exact Nat.le_of_eq hk))
theorem OwnI.notbox {w : World} {B b : Nat} {t : TypeId} {v : Value} {l : List Int} {cs : List Value} (ht : t ≠ 3) (h : OwnI w B v l) (hx : BoxN w b t cs) : ∀ k, v.ownBlock = some k → b ≠ k := by
  rintro k hk rfl
  rcases h.2.2 with h2 | ⟨g, cap, cur, rfl, hg, hr, r⟩
  · rw [h2.1] at hk; cases hk
  · cases hk
    unfold BoxN at hx
    rw [hx] at hr
    injection hr with hr
    injection hr with h1 h2 h3
    exact ht h2
theorem RowsI.boxkept {w w' : World} {B b : Nat} {t : TypeId} {v : Value} {l : List Int} {cs : List Value} (ht : t ≠ 3) (h : OwnI w B v l) (hx : BoxN w b t cs) (hg : w.grownBy w' v.ownBlock) : BoxN w' b t cs :=
  (hg.block b hx.lt (fun e => h.notbox ht hx b e.symm rfl)).trans hx
/-- append of one of the rows to another, as an operation of a drawn region -/
theorem RowsI.do_app {o : Oper} {a : Act} {w : World} {K : Act → World → Prop} {Q : Exit → Act → World → Prop} (s x : Operand)
    (ho : o.op = .call { callee := .builtin .append, args := #[s, x], argTypes := #[25, 25] })
    {B : Nat} {rs : List (Value × List Int)} (h : RowsI w B rs) (hB : B ≤ w.heap.size)
    (i j : Nat) {v y : Value} {l m : List Int} (hi : rs[i]? = some (v, l)) (hj : rs[j]? = some (y, m)) (hm : m ≠ []) (hlen : l.length + m.length ≤ 1000000000000) (hs : a.eval s = v) (hxx : a.eval x = y)
    (hK : ∀ v' w', RowsI w' B (rs.set i (v', l ++ m)) → (∀ b t cs, t ≠ 3 → BoxN w b t cs → BoxN w' b t cs) → Below B w w' → K (a.put o.dst v') w') : Oper.wp Tryz.prog o a w K Q := by
  obtain ⟨v', w', hr, h1, h2, h3⟩ := run_append_intsB (h.own i v l hi) (h.own j y m hj).ints hm hlen hB o.type
  unfold Oper.wp execOp
  simp only [ho, resolve, invoke, builtin, Sem.run_bind, Sem.run_pure, Result.andThen_ok, List.map_toArray, List.map_cons, List.map_nil, hs, hxx, hr]
  exact hK v' w' (h.put hi h2 h1 h3) (fun b t cs ht hx => RowsI.boxkept ht (h.own i v l hi) hx h2) ((h.own i v l hi).grown h2 hB)
/-- append of a slice that is only read to one of the rows, as an operation of a plain region -/
theorem RowsI.list_app {ops : Array Oper} {rest : List Oper} {o : Oper} {a : Act} {w : World} {Q : Exit → Act → World → Prop} (hgd : o.guard = none) (s x : Operand)
    (ho : o.op = .call { callee := .builtin .append, args := #[s, x], argTypes := #[25, 25] })
    {B : Nat} {rs : List (Value × List Int)} (h : RowsI w B rs) (hB : B ≤ w.heap.size)
    (i : Nat) {v y : Value} {l m : List Int} (hi : rs[i]? = some (v, l)) (hy : Ints w y m) (hm : m ≠ []) (hlen : l.length + m.length ≤ 1000000000000) (hs : a.eval s = v) (hxx : a.eval x = y)
    (hK : ∀ v' w', RowsI w' B (rs.set i (v', l ++ m)) → (∀ b t cs, t ≠ 3 → BoxN w b t cs → BoxN w' b t cs) → Below B w w' → wpList Tryz.prog ops Q rest (a.put o.dst v') w') : wpList Tryz.prog ops Q (o :: rest) a w := by
  obtain ⟨v', w', hr, h1, h2, h3⟩ := run_append_intsB (h.own i v l hi) hy hm hlen hB o.type
  refine wpList_plain hgd fun K hK' => ?_
  unfold Oper.wp execOp
  simp only [ho, resolve, invoke, builtin, Sem.run_bind, Sem.run_pure, Result.andThen_ok, List.map_toArray, List.map_cons, List.map_nil, hs, hxx, hr]
  exact hK' _ _ (hK v' w' (h.put hi h2 h1 h3) (fun b t cs ht hx => RowsI.boxkept ht (h.own i v l hi) hx h2) ((h.own i v l hi).grown h2 hB))
theorem RowsI.list_appN {ops : Array Oper} {rest : List Oper} {o : Oper} {a : Act} {w : World} {Q : Exit → Act → World → Prop} (hgd : o.guard = none) (s x : Operand)
    (ho : o.op = .call { callee := .builtin .append, args := #[s, x], argTypes := #[25, 25] })
    {B : Nat} {rs : List (Value × List Int)} (h : RowsI w B rs) (hB : B ≤ w.heap.size)
    (i : Nat) {v y : Value} {l m : List Int} (hi : rs[i]? = some (v, l)) (hy : Ints w y m) (hm : m ≠ []) (N : Nat) (hN : l.length + m.length = N) (hlen : N ≤ 1000000000000) (hs : a.eval s = v) (hxx : a.eval x = y)
    (hK : ∀ a' c' w', RowsI w' B (rs.set i (.slice a' N c', l ++ m)) → (∀ b t cs, t ≠ 3 → BoxN w b t cs → BoxN w' b t cs) → Below B w w' → wpList Tryz.prog ops Q rest (a.put o.dst (.slice a' N c')) w') : wpList Tryz.prog ops Q (o :: rest) a w := by
  refine RowsI.list_app hgd s x ho h hB i hi hy hm (by omega) hs hxx ?_
  intro v' w' h1 h2 h3
  have hil : i < rs.length := (List.getElem?_eq_some_iff.1 hi).1
  obtain ⟨a', c', e⟩ := (h1.own i v' (l ++ m) (List.getElem?_set_self hil)).shape
  rw [List.length_append, hN] at e
  subst e
  exact hK a' c' w' h1 h2 h3
/-- a store into a row -/
theorem RowsI.store {w : World} {B g n c : Nat} {rs : List (Value × List Int)} (h : RowsI w B rs) {i : Nat} {l : List Int} (hi : rs[i]? = some (.slice (some ⟨g, 0, none⟩) n c, l)) (hn : l.length = n) (k : Nat) {x : Int} (hx : I64 x) :
    RowsI (w.setCell ⟨g, k, none⟩ (.int .i64 x)) B (rs.set i (.slice (some ⟨g, 0, none⟩) n c, l.set k x)) :=
  h.put hi (grownBy_setCell _ g k _) ((h.own i _ _ hi).stored hn k hx).1 (fun k' hk => .inl hk)
section
variable {w0 w w' : World} {gb rb pb B : Nat} {gr : GroupD} {c h r v' : Value} {lc lh lr l' : List Int}
end
end Go.Proofs.YtacpnphfopmofaaGreat
namespace Go.Proofs.YtacpnphfopmofaaGreat
open Go.RowKit
set_option linter.unusedSimpArgs false
set_option linter.unusedVariables false

theorem hornE_ev {q : Int} (x : Int) (l : List Int) : hornE q x l = if l = [] then 0 else evI l x % q := by
  induction l with
  | nil => rfl
  | cons a l ih =>
    rw [if_neg (by simp)]
    show (hornE q x l * x + a) % q = _
    rw [ih, evI_cons]
    split
    · rename_i h; subst h; simp [evI]
    · rw [Int.add_emod, Int.mul_emod, Int.emod_emod, ← Int.mul_emod, ← Int.add_emod]
theorem hornE_evI {q : Int} (hq : 0 < q) (x : Int) (l : List Int) : hornE q x l = evI l x % q := by
  rw [hornE_ev]; split
  · rename_i h; subst h; simp [evI]
  · rfl
set_option maxHeartbeats 2000000 in
theorem impl_evalPolyE (q : Int) (v : Value) (L : List Int) (x : Int) (w : World) (hq : 2 ≤ q ∧ q ≤ 2000000000) (h : Ints w v L) (hL : ∀ y ∈ L, 0 ≤ y ∧ y < q) (hx : 0 ≤ x ∧ x ≤ 1000) :
    Calls Tryz.prog 96 #[.int .i64 q, v, .int .i64 x] w fun e w' => e = .returned (.int .i64 (hornE q x L)) ∧ Below w.heap.size w w' := by
  obtain ⟨hq1, hq2⟩ := hq
  obtain ⟨hx0, hx1⟩ := hx
  obtain ⟨a, n, c, rfl⟩ := h.shape
  have e := h.len
  obtain ⟨k1, k2⟩ := h.capMax
  unfold maxLen at k2
  have HE := Lib.hid e
  have HL := Lib.hid hL; clear hL
  have H := Lib.hid h; clear h
  have e1 : IntKind.i64.wrap ((n : Int) - 1) = (n : Int) - 1 := IntWalk.i64_in _ (by omega)
  have HN : Hid (hornE q x (L.drop n) = 0) := by unfold Hid; rw [← e, List.drop_length]; rfl
  clear e
  go_enter Tryz.func96, Tryz.ntmps96
  go_wp2_with fail
  go_loopg [7, 8] n (fun gg ov iv wr => ∃ (j : Nat) (o : Int), j = gg ∧ j ≤ n ∧ iv = .int .i64 ((j : Int) - 1) ∧ ov = .int .i64 o ∧ Hid (hornE q x (L.drop j) = o) ∧ 0 ≤ o ∧ o < q ∧ Below w.heap.size w wr)
  case atStart => exact ⟨n, 0, rfl, Nat.le_refl _, rfl, rfl, HN.out, by omega, by omega, Below.refl _ _⟩
  case round =>
    obtain ⟨j, o, hjg, hjn, rfl, rfl, HO, ho0, ho1, hb⟩ := hrel
    cases j with
    | zero =>
      have HR : Hid (hornE q x L = o) := HO.out
      have HB := Lib.hid hb; clear hb
      go_wp2_with fail
      go_ret
      exact ⟨ret_int HR.out.symm, HB.out⟩
    | succ j =>
      have ej : ((j + 1 : Nat) : Int) - 1 = (j : Int) := by omega
      rw [ej]
      clear ej
      have HK : Hid (j < L.length) := by unfold Hid; rw [HE.out]; omega
      obtain ⟨bk, oo, rfl, hcx⟩ := (H.out.below hb).at_ (by omega)
      have hy := hcx j (by omega)
      have hyb : 0 ≤ nth L j ∧ nth L j < q := by rw [nthE HK.out]; exact HL.out _ (List.getElem_mem _)
      have HS : Hid (hornE q x (L.drop j) = (o * x + nth L j) % q) := by unfold Hid; rw [hornE_drop HK.out, HO.out]
      clear hcx
      obtain ⟨y, hyy⟩ : ∃ y, nth L j = y := ⟨_, rfl⟩
      rw [hyy] at hy hyb HS
      clear hyy
      obtain ⟨y0, y1⟩ := hyb
      obtain ⟨m0, m1⟩ := mulE_bd ho0 ho1 hq2 hx0 hx1
      have r0 : 0 ≤ o * x % q := Int.emod_nonneg _ (by omega)
      have r1 : o * x % q < q := Int.emod_lt_of_pos _ (by omega)
      have s0 : 0 ≤ (o * x + y) % q := Int.emod_nonneg _ (by omega)
      have s1 : (o * x + y) % q < q := Int.emod_lt_of_pos _ (by omega)
      have et1 : Int.tmod (o * x) q = o * x % q := Int.tmod_eq_emod_of_nonneg m0
      have et2 : Int.tmod (o * x % q + y) q = (o * x + y) % q := by rw [Int.tmod_eq_emod_of_nonneg (by omega), Int.emod_add_emod]
      have ew1 : IntKind.i64.wrap (o * x) = o * x := IntWalk.i64_in _ (by omega)
      have ew2 : IntKind.i64.wrap (o * x % q) = o * x % q := IntWalk.i64_in _ (by omega)
      have ew3 : IntKind.i64.wrap (o * x % q + y) = o * x % q + y := IntWalk.i64_in _ (by omega)
      have ew4 : IntKind.i64.wrap ((o * x + y) % q) = (o * x + y) % q := IntWalk.i64_in _ (by omega)
      have ew5 : IntKind.i64.wrap ((j : Int) - 1) = (j : Int) - 1 := IntWalk.i64_in _ (by omega)
      have hpz : ¬ q = 0 := by omega
      have hpz2 : (q == 0) = false := by rw [beq_eq_false_iff_ne]; omega
      have hj0 : (0 : Int) ≤ (j : Int) := by omega
      have hj1 : (j : Int) < (n : Int) := by omega
      have HB := Lib.hid hb; clear hb
      go_wp2_with fail
      go_quiet (fail)
      go_wp2_with fail
      go_roundg j
      case measure => omega
      case rel => exact ⟨j, _, rfl, by omega, by go_num, rfl, HS.out, s0, s1, below_drewN HB.out _⟩
/-- a store behind the row's end -/
theorem OwnI.beyond {w : World} {B g n c : Nat} {l : List Int} (h : OwnI w B (.slice (some ⟨g, 0, none⟩) n c) l) (hn : l.length = n) {k : Nat} (hk : n ≤ k) (x : Value) :
    OwnI (w.setCell ⟨g, k, none⟩ x) B (.slice (some ⟨g, 0, none⟩) n c) l ∧ w.grownBy (w.setCell ⟨g, k, none⟩ x) (some g) := by
  subst hn
  have h2 := h.2.stored k x
  refine ⟨⟨h.1, ?_⟩, h2.2⟩
  have e : (l.map (Value.int .i64)).set k x = l.map (Value.int .i64) := List.set_eq_of_length_le (by simpa using hk)
  rw [e] at h2
  exact h2.1
theorem OwnI.room {w : World} {B g n c : Nat} {l : List Int} (h : OwnI w B (.slice (some ⟨g, 0, none⟩) n c) l) (hn : l.length = n) {k : Nat} (hk : k < c) :
    (w.cell? ⟨g, k, none⟩).isSome = true ∧ w.frozen? ⟨g, k, none⟩ = false := by
  subst hn
  have hf := World.ownsRow.frozenAt h.2 k
  refine ⟨?_, hf⟩
  rcases h.2.2 with ⟨hv, _⟩ | ⟨g', cap, cur, hv, hbg, hg, hcap, hcm2, hcs, htake⟩
  · cases hv
  · cases hv
    have hs : k < cur.size := by omega
    simp [World.cell?, hg, hs]
/-- 's[:i]' and 's[i+1:]' of an own row put together in its own block -/
theorem run_append_in {w : World} {B g n c i : Nat} {A : Addr} {l : List Int} (h : OwnI w B (.slice (some ⟨g, 0, none⟩) n c) l) (hn : l.length = n) (hi : i < n) (hB : B ≤ w.heap.size) (hmax : n ≤ 1000000) (hy : Ints w (.slice (some A) (n - (i + 1)) (c - (i + 1))) (l.drop (i + 1))) (hA : ∀ j u, ((l.drop (i + 1)).map (Value.int .i64))[j]? = some u → w.cell? (A.add j) = some u) :
    ∃ w', (∀ ty, (Builtin.append_ #[25, 25] ty #[.slice (some ⟨g, 0, none⟩) i c, .slice (some A) (n - (i + 1)) (c - (i + 1))]).run Tryz.prog w = .ok (.slice (some ⟨g, 0, none⟩) (n - 1) c) w') ∧ OwnI w' B (.slice (some ⟨g, 0, none⟩) (n - 1) c) (restL l i) ∧ w.grownBy w' (some g) := by
  have ht := h.takeS (k := i) (by omega) hn
  have hl1 : (l.take i).length = i := by rw [List.length_take]; omega
  have hl2 : (l.drop (i + 1)).length = n - (i + 1) := by rw [List.length_drop]; omega
  have hcn := h.ints.capMax.1
  obtain ⟨v', w', hr, h1, h2⟩ := run_append_ints (t := 25) rfl ht hy (by rw [hl1, hl2]; omega) hB 25
  obtain ⟨ii, hii, hz, hsz, hby⟩ := info_parts info_int
  rcases ht.2.2 with ⟨hv, _⟩ | ⟨g', cap, cur, hv, hbg, hg, hcap, hcm2, hcs, htake⟩
  · cases hv
  · rw [hl1] at hv
    cases hv
    have hr2 := fun ty => run_append_room (P := Tryz.prog) w 25 ty 3 ii Tryz.underlying25 hii g i c cur hg A (n - (i + 1)) (c - (i + 1)) ((l.drop (i + 1)).map (Value.int .i64)) (by simp [hsz]; omega) hA (ints_oneCell .i64 _) (by omega) (by simp [hcs, hsz]; omega)
    rw [show i + (n - (i + 1)) = n - 1 by omega] at hr2
    have hr3 := hr
    rw [hr2] at hr3
    injection hr3 with e1 e2
    rw [← e1] at h1
    exact ⟨w', fun ty => by rw [hr2 ty, e2], h1, h2⟩
theorem sl_dropS {w : World} {g n c k : Nat} {l : List Int} (h : Ints w (.slice (some ⟨g, 0, none⟩) n c) l) (hk : k ≤ n) (hl : l.length = n) (hcell : ∀ j, j < n → w.cell? ⟨g, j, none⟩ = some (.int .i64 (nth l j))) :
    ∃ A, (∀ W, (Instr.slice 25 (.slice (some ⟨g, 0, none⟩) n c) (some (.int .i64 (k : Int))) none none).run Tryz.prog W = .ok (.slice (some A) (n - k) (c - k)) W) ∧ Ints w (.slice (some A) (n - k) (c - k)) (l.drop k) ∧ (∀ j u, ((l.drop k).map (Value.int .i64))[j]? = some u → w.cell? (A.add j) = some u) := by
  have hd := h.drop hk
  by_cases hc : c = k
  · refine ⟨⟨g, 0, none⟩, fun W => ?_, ?_, fun j u hu => ?_⟩
    · simp [Tryz.underlying25, go_sem, hk, run_slice_l, run_underlying, hc]
    · rw [if_pos hc] at hd; exact hd
    · have hcn := h.capMax.1
      rw [List.drop_eq_nil_of_le (by omega)] at hu
      simp at hu
  · refine ⟨⟨g, k, none⟩, fun W => ?_, ?_, fun j u hu => ?_⟩
    · simp [Tryz.underlying25, go_sem, hk, run_slice_l, run_underlying, hc]
    · rw [if_neg hc] at hd; simpa [Addr.add_lit] using hd
    · have hj : j < (l.drop k).length := by simpa using (List.getElem?_eq_some_iff.1 hu).1
      rw [List.length_drop] at hj
      rw [Addr.add_lit, hcell (k + j) (by omega), nthE (by omega)]
      rw [List.getElem?_map, List.getElem?_drop, List.getElem?_eq_getElem (by omega)] at hu
      simpa using hu
/-- an append, a clear whose outcome is known -/
theorem wpList_append_known {ops : Array Oper} {rest : List Oper} {o : Oper} {a : Act} {w w' : World} {v y v' : Value} {Q : Exit → Act → World → Prop} (hg : o.guard = none) (s y0 : Operand)
    (ho : o.op = .call { callee := .builtin .append, args := #[s, y0], argTypes := #[25, 25] })
    (hs : a.eval s = v) (he : a.eval y0 = y) (hr : ∀ ty, (Builtin.append_ #[25, 25] ty #[v, y]).run Tryz.prog w = .ok v' w')
    (hK : wpList Tryz.prog ops Q rest (a.put o.dst v') w') : wpList Tryz.prog ops Q (o :: rest) a w := by
  refine wpList_plain hg fun K hK' => ?_
  unfold Oper.wp execOp
  simp only [ho, resolve, invoke, builtin, Sem.run_bind, Sem.run_pure, Result.andThen_ok, List.map_toArray, List.map_cons, List.map_nil, hs, he, hr]
  exact hK' _ _ hK
theorem wpList_clear_known {ops : Array Oper} {rest : List Oper} {o : Oper} {a : Act} {w w' : World} {v : Value} {Q : Exit → Act → World → Prop} (hg : o.guard = none) (s : Operand)
    (ho : o.op = .call { callee := .builtin .clear, args := #[s], argTypes := #[25] })
    (hs : a.eval s = v) (hr : ∀ ty, (Builtin.clear_ #[25] ty #[v]).run Tryz.prog w = .ok (.tuple #[]) w')
    (hK : wpList Tryz.prog ops Q rest (a.put o.dst (.tuple #[])) w') : wpList Tryz.prog ops Q (o :: rest) a w := by
  refine wpList_plain hg fun K hK' => ?_
  unfold Oper.wp execOp
  simp only [ho, resolve, invoke, builtin, Sem.run_bind, Sem.run_pure, Result.andThen_ok, List.map_toArray, List.map_cons, List.map_nil, hs, hr]
  exact hK' _ _ hK
set_option maxRecDepth 100000 in
set_option maxHeartbeats 4000000 in
theorem slices_Delete (v : Value) (l : List Int) (B i : Nat) (w : World) (h : OwnI w B v l) (hi : i < l.length) (hB : B ≤ w.heap.size) (hl : l.length ≤ 1000000) :
    Calls Tryz.prog 118 #[v, .int .i64 (i : Int), .int .i64 ((i : Int) + 1)] w fun e w' => (∃ v', e = .returned v' ∧ OwnI w' B v' (restL l i)) ∧ Below B w w' := by
  obtain ⟨a, c, rfl⟩ := h.shape
  obtain ⟨g, e, hgB, hgl, hcf⟩ := h.at_ (by omega)
  cases e
  obtain ⟨n, hn⟩ : ∃ n, l.length = n := ⟨_, rfl⟩
  rw [hn] at h hi hl hcf ⊢
  have hnc := h.ints.capMax
  obtain ⟨k1, k2⟩ := hnc
  unfold maxLen at k2
  have HO := Lib.hid h
  have HN := Lib.hid hn
  have HCF := Lib.hid hcf
  have hgw := (h.lt g rfl).2
  clear h hn hcf hgl
  have ha1 : (i : Int) + 1 = ((i + 1 : Nat) : Int) := by omega
  obtain ⟨A, hsd, hid, hca⟩ := sl_dropS HO.out.ints (k := i + 1) (by omega) HN.out (fun j hj => (HCF.out j hj).1)
  have HID := Lib.hid (hid.below ((Below.refl _ _).drew : Below w.heap.size w w.drew))
  have HCA : Hid (∀ j u, ((l.drop (i + 1)).map (Value.int .i64))[j]? = some u → w.drew.cell? (A.add j) = some u) := hca
  have hst := (sl_take HO.out.ints (x := (i : Int)) (k := i) rfl (by omega)).1
  have HOD := Lib.hid (HO.out.below ((Below.refl _ _).drew : Below w.heap.size w w.drew))
  obtain ⟨w1, hr1, ho1, hg1⟩ := run_append_in HOD.out HN.out hi hB hl HID.out HCA.out
  have hs1 : w.heap.size ≤ w1.heap.size := hg1.size
  have HB1 : Hid (Below B w w1) := ((Below.refl _ _).drew.mono hB).trans ((Below.refl B w.drew).grown hg1 hB (fun k hk => by cases hk; exact hgB))
  have HO1 := Lib.hid ho1
  have hln : (restL l i).length = n - 1 := by rw [restL_len (by rw [HN.out]; exact hi), HN.out]
  have HO2 := Lib.hid (HO1.out.beyond hln (k := n - 1) (Nat.le_refl _) (.int .i64 0))
  have HB2 : Hid (Below B w (w1.setCell ⟨g, n - 1, none⟩ (.int .i64 0))) := HB1.out.trans ((Below.refl B w1).setCell (p := ⟨g, n - 1, none⟩) hgB _)
  obtain ⟨hcl1, hfz⟩ := ho1.room hln (k := n - 1) (by omega)
  have hcl : ∀ ty, (Builtin.clear_ #[25] ty #[.slice (some ⟨g, n - 1, none⟩) 1 (c - (n - 1))]).run Tryz.prog w1 = .ok (.tuple #[]) (w1.setCell ⟨g, n - 1, none⟩ (.int .i64 0)) := fun ty =>
    Lib.run_clear_slice w1 25 3 ty (.int .i64 0) Tryz.underlying25 (fun w => rfl) rfl rfl g (n - 1) 1 (c - (n - 1)) (by omega) (fun j hj => by have e : j = 0 := (by omega); subst e; exact hcl1) (fun j hj => by have e : j = 0 := (by omega); subst e; exact hfz)
  have hsd1 : ∀ W, (Instr.slice 25 (.slice (some ⟨g, 0, none⟩) n c) (some (.int .i64 ((i : Int) + 1))) none none).run Tryz.prog W = .ok (.slice (some A) (n - (i + 1)) (c - (i + 1))) W := by rw [ha1]; exact hsd
  obtain ⟨x3, hs3⟩ : ∃ x, ∀ W, (Instr.slice 25 (.slice (some ⟨g, 0, none⟩) n c) (some (.int .i64 (i : Int))) (some (.int .i64 ((i : Int) + 1))) (some (.int .i64 (n : Int)))).run Tryz.prog W = .ok x W := by
    have h2 : (n : Int) ≤ (c : Int) := by omega
    have h3 : (i : Int) + 1 ≤ (n : Int) := by omega
    have h4 : (i : Int) ≤ (i : Int) + 1 := by omega
    exact ⟨sliced (some ⟨g, 0, none⟩) (i : Int).toNat ((i : Int) + 1).toNat (n : Int).toNat 1, fun W => by simp [Tryz.underlying25, go_sem, h2, h3, h4, run_slice_lhm, run_underlying]⟩
  have hs6 : ∀ W, (Instr.slice 25 (.slice (some ⟨g, 0, none⟩) (n - 1) c) (some (.int .i64 ((n - 1 : Nat) : Int))) (some (.int .i64 (n : Int))) none).run Tryz.prog W = .ok (.slice (some ⟨g, n - 1, none⟩) 1 (c - (n - 1))) W := by
    intro W
    have h2 : (n : Int) ≤ (c : Int) := by omega
    have h4 : ((n - 1 : Nat) : Int) ≤ (n : Int) := by omega
    have e1 : ¬ c = n - 1 := by omega
    have e2 : n - (n - 1) = 1 := by omega
    simp [Tryz.underlying25, go_sem, h2, h4, e1, e2, run_slice_lh, run_underlying]
  have hij : ((i : Int) == (i : Int) + 1) = false := by rw [beq_eq_false_iff_ne]; omega
  have hij2 : ¬ (i : Int) = (i : Int) + 1 := by omega
  clear hid hca ho1 hg1 hln hsd ha1 hcl1 hfz
  go_enter Tryz.func118, Tryz.ntmps118
  go_wp2_with fail
  refine wp_region_noPanic ?_
  refine wp_region_V (fun _ => True) 10 6 (.rd 0 (.rd 1 (.rd 2 (.rd 3 (.rd 4 (.rd 5 .done)))))) [6, 7] (by kernel_rfl) (by kernel_rfl) rfl (fun _ _ _ _ _ h => h) trivial ?_
  simp only [pickV, pickN, List.getElem?_cons_zero, List.getElem?_cons_succ]
  repeat (refine' wpV_read _ (by kernel_rfl) (fun w' hS' => ?_) ?_; rotate_left; (focus ((try dsimp only at hS'); go_simp; (try with_reducible rfl))); (try simp only [Act.put, List.setIfInBounds_toArray, List.set_cons_zero, List.set_cons_succ]))
  refine wpV_done ?_
  go_wp2_with (at_builtin; refine wpList_append_known rfl _ _ rfl rfl rfl hr1 ?_)
  refine NoPanic.normal ?_
  go_wp2_with (at_builtin; refine wpList_clear_known rfl _ rfl rfl hcl ?_)
  go_ret
  exact ⟨⟨_, rfl, HO2.out.1⟩, HB2.out⟩
end Go.Proofs.YtacpnphfopmofaaGreat
