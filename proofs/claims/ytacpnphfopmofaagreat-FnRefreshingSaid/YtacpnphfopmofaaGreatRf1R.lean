/- Refreshing of shares: what is computed, and its plain laws. -/
import Derived.Test.YtacpnphfopmofaaGreatMixR
namespace Go.Proofs.YtacpnphfopmofaaGreat
open Go.RowKit
set_option linter.unusedSimpArgs false
set_option linter.unusedVariables false

/-- the value at a trustee is zero, and all shares are right -/
def zeB (gr : GroupD) (d : DealingD) (i : Int) : Bool := (atE gr d.c i == 1) && decide ((badE gr d).length = 0)
noncomputable def rkB (gr : GroupD) (k : DealingD) (l : List DealingD) : Bool := vdB gr k && dsB gr l
def rfU (gr : GroupD) (k : DealingD) (l : List DealingD) : Nat → List DealingD
  | 0 => []
  | n + 1 => if (smB (atD l n) k && zeB gr (atD l n) 0) = true then rfU gr k l n ++ [atD l n] else rfU gr k l n
def rfO (gr : GroupD) (k : DealingD) (l : List DealingD) : Nat → List Int
  | 0 => []
  | n + 1 => if (smB (atD l n) k && zeB gr (atD l n) 0) = true then rfO gr k l n else rfO gr k l n ++ [(n : Int)]
def rfD (gr : GroupD) (k : DealingD) (l : List DealingD) : DealingD := smD gr (k :: rfU gr k l l.length)
noncomputable def ssB (gr : GroupD) (k : DealingD) (l : List DealingD) : Bool := rkB gr k l && l.all (fun d => smB d k)
noncomputable def mkB (gr : GroupD) (k : DealingD) (i : Int) (l : List DealingD) : Bool := ssB gr k l && (decide (1 ≤ i ∧ i ≤ 7) && l.all (fun d => zeB gr d i))
def mkD (gr : GroupD) (k : DealingD) (l : List DealingD) : DealingD := smD gr (k :: l)
/-- the other trustees and their shares -/
def otX (i lost : Int) : Nat → List Int
  | 0 => []
  | n + 1 => if (decide ((n : Int) + 1 ≠ i) && decide ((n : Int) + 1 ≠ lost)) = true then otX i lost n ++ [(n : Int) + 1] else otX i lost n
def otY (s : List Int) (i lost : Int) : Nat → List Int
  | 0 => []
  | n + 1 => if (decide ((n : Int) + 1 ≠ i) && decide ((n : Int) + 1 ≠ lost)) = true then otY s i lost n ++ [nth s n] else otY s i lost n
theorem rfU_len (gr : GroupD) (k : DealingD) (l : List DealingD) (n : Nat) : (rfU gr k l n).length ≤ n := by
  induction n with
  | zero => exact Nat.le_refl _
  | succ n ih =>
    unfold rfU; split
    · rw [List.length_append, List.length_singleton]; omega
    · omega
theorem rfO_len (gr : GroupD) (k : DealingD) (l : List DealingD) (n : Nat) : (rfO gr k l n).length ≤ n := by
  induction n with
  | zero => exact Nat.le_refl _
  | succ n ih =>
    unfold rfO; split
    · omega
    · rw [List.length_append, List.length_singleton]; omega
theorem rfU_mem {gr : GroupD} {k : DealingD} {l : List DealingD} {d : DealingD} : ∀ n, n ≤ l.length → d ∈ rfU gr k l n → d ∈ l ∧ smB d k = true ∧ zeB gr d 0 = true := by
  intro n
  induction n with
  | zero => intro _ h; simp [rfU] at h
  | succ n ih =>
    intro hn h
    unfold rfU at h
    split at h
    · rename_i hc
      rcases List.mem_append.1 h with h1 | h1
      · exact ih (by omega) h1
      · rw [List.mem_singleton] at h1
        subst h1
        rw [Bool.and_eq_true] at hc
        exact ⟨by rw [atD_eq (by omega)]; exact List.getElem_mem _, hc⟩
    · exact ih (by omega) h
theorem otX_len (s : List Int) (i lost : Int) (n : Nat) : (otX i lost n).length = (otY s i lost n).length ∧ (otX i lost n).length ≤ n := by
  induction n with
  | zero => exact ⟨rfl, Nat.le_refl _⟩
  | succ n ih =>
    unfold otX otY; split
    · rw [List.length_append, List.length_append, List.length_singleton, List.length_singleton]; omega
    · omega
theorem otX_mem {i lost y : Int} : ∀ n, y ∈ otX i lost n → 1 ≤ y ∧ y ≤ n := by
  intro n
  induction n with
  | zero => intro h; simp [otX] at h
  | succ n ih =>
    intro h
    unfold otX at h
    split at h
    · rcases List.mem_append.1 h with h1 | h1
      · have := ih h1; omega
      · rw [List.mem_singleton] at h1; omega
    · have := ih h; omega
theorem otX_nodup (i lost : Int) (n : Nat) : (otX i lost n).Nodup := by
  induction n with
  | zero => exact List.nodup_nil
  | succ n ih =>
    unfold otX; split
    · rw [List.nodup_append]
      refine ⟨ih, by simp, fun a ha b hb => ?_⟩
      rw [List.mem_singleton] at hb
      have := otX_mem _ ha
      omega
    · exact ih
theorem otX_tr {i lost : Int} {n : Nat} (h : n ≤ 7) : trL (otX i lost n) = true := by
  unfold trL ptsB
  rw [Bool.and_eq_true, decide_eq_true_iff, List.all_eq_true]
  exact ⟨fun y hy => by have := otX_mem _ hy; exact decide_eq_true (by omega), otX_nodup ..⟩
theorem otY_mem {P : Int → Prop} {s : List Int} {i lost : Int} (h : ∀ x ∈ s, P x) : ∀ n, n ≤ s.length → ∀ x ∈ otY s i lost n, P x := by
  intro n
  induction n with
  | zero => intro _ x hx; simp [otY] at hx
  | succ n ih =>
    intro hn x hx
    unfold otY at hx
    split at hx
    · rcases List.mem_append.1 hx with h1 | h1
      · exact ih (by omega) x h1
      · rw [List.mem_singleton] at h1; rw [h1]; exact h _ (nth_mem' (by omega))
    · exact ih (by omega) x hx
/-- each pair is a trustee and its share -/
theorem ot_at {s : List Int} {i lost : Int} : ∀ n, ∀ j, j < (otX i lost n).length → ∃ m : Nat, m < n ∧ nth (otX i lost n) j = (m : Int) + 1 ∧ nth (otY s i lost n) j = nth s m := by
  intro n
  induction n with
  | zero => intro j hj; simp [otX] at hj
  | succ n ih =>
    intro j hj
    have hl := (otX_len s i lost n).1
    by_cases hc : (decide ((n : Int) + 1 ≠ i) && decide ((n : Int) + 1 ≠ lost)) = true
    · have e1 : otX i lost (n + 1) = otX i lost n ++ [(n : Int) + 1] := if_pos hc
      have e2 : otY s i lost (n + 1) = otY s i lost n ++ [nth s n] := if_pos hc
      rw [e1] at hj
      rw [e1, e2]
      simp only [List.length_append, List.length_singleton] at hj
      rcases Nat.lt_or_ge j (otX i lost n).length with h1 | h1
      · obtain ⟨m, h2, h3⟩ := ih j h1
        refine ⟨m, by omega, ?_⟩
        rw [nth_app h1, nth_app (by omega)]; exact h3
      · obtain rfl : j = (otX i lost n).length := by omega
        refine ⟨n, by omega, nth_app', ?_⟩
        rw [hl]; exact nth_app'
    · have e1 : otX i lost (n + 1) = otX i lost n := if_neg hc
      have e2 : otY s i lost (n + 1) = otY s i lost n := if_neg hc
      rw [e1] at hj
      rw [e1, e2]
      obtain ⟨m, h2, h3⟩ := ih j hj
      exact ⟨m, by omega, h3⟩
theorem otX_many (i : Int) : ∀ n : Nat, n ≤ (otX i 0 n).length + (if 1 ≤ i ∧ i ≤ n then 1 else 0) := by
  intro n
  induction n with
  | zero => exact Nat.zero_le _
  | succ n ih =>
    unfold otX
    split
    · rw [List.length_append, List.length_singleton]
      split at ih
      · rw [if_pos (by omega)]; omega
      · split <;> omega
    · rename_i hc
      simp only [Bool.and_eq_true, decide_eq_true_iff, not_and, Decidable.not_not] at hc
      by_cases e : (n : Int) + 1 = i
      · rw [if_neg (by omega)] at ih
        rw [if_pos (by omega)]; omega
      · have := hc e; omega
theorem atS_el {gr : GroupD} (hg : OkG gr) {cs : List Int} (hc : ∀ x ∈ cs, elB gr x = true) (x : Int) : ∀ k, k ≤ cs.length → elB gr (atS gr x cs k).1 = true := by
  intro k
  induction k with
  | zero => intro _; exact elT_one hg
  | succ k ih =>
    intro hk
    show elB gr (mulL gr [_, _]) = true
    rw [mulT]
    exact elT_mul hg (ih (by omega)) (elT_pow hg (hc _ (nth_mem' (by omega))) _)
theorem atE_el {gr : GroupD} (hg : OkG gr) {cs : List Int} (hc : ∀ x ∈ cs, elB gr x = true) (x : Int) : elB gr (atE gr cs x) = true := atS_el hg hc x _ (Nat.le_refl _)
theorem shrB_sum' {gr : GroupD} (hG : shG gr = true) {a b : List Int} (ha : ∀ x ∈ a, elB gr x = true) (hl : a.length = b.length) {i s t : Int} (h1 : shrB gr (smL (mulF gr) a b b.length) i (addF gr s t) = true) (h2 : shrB gr b i t = true) : shrB gr a i s = true := by
  have hg := shG_ok hG
  have hgen := shG_gen hG
  unfold shrB at *
  rw [beq_iff_eq] at *
  rw [atE_sum hg i hl, ← h2] at h1
  unfold addF at h1
  rw [powE_emod, powE_add hg hgen] at h1
  have e1 := mul_cancel hg (elT_pow hg hgen s) hgen t
  have e2 := mul_cancel hg (atE_el hg ha i) hgen t
  rw [← e1, ← e2, h1]
theorem suX_bad' {gr : GroupD} {f a d : DealingD} (hG : shG gr = true) (h1 : SameD gr f a) (h2 : SameD gr f d) (ha : badE gr (suX gr a d) = []) (hd : badE gr d = []) : badE gr a = [] := by
  have hlc : a.c.length = d.c.length := by rw [h1.lc, h2.lc]
  have hls : a.s.length = d.s.length := by rw [h1.ls, h2.ls]
  unfold badE at *
  rw [bad_nil] at *
  intro k hk
  have h3 := ha k (by rw [show (suX gr a d).s.length = a.s.length from smL_len _ _ _ _]; exact hk)
  change shrB gr (smL (mulF gr) a.c d.c d.c.length) _ (nth (smL (addF gr) a.s d.s d.s.length) k) = true at h3
  rw [smL_all_nth _ hls (by omega)] at h3
  exact shrB_sum' hG h1.ec hlc h3 (hd k (by omega))
theorem one_el_mod {gr : GroupD} (hg : OkG gr) {x : Int} (h : elB gr x = true) : x * 1 % gr.p = x := by rw [Int.mul_one, elT_mod hg h]
/-- sums with dealings of zero -/
structure SumZ (gr : GroupD) (k a : DealingD) (i : Int) : Prop where
  same : SameD gr k a
  bad : badE gr k = [] ↔ badE gr a = []
  at_ : atE gr a.c i = atE gr k.c i
theorem sumZ {gr : GroupD} {k : DealingD} {l : List DealingD} {i : Int} (hG : shG gr = true) (hk : SameD gr k k) (hl : ∀ d ∈ l, SameD gr k d ∧ badE gr d = [] ∧ atE gr d.c i = 1) : ∀ j, j ≤ l.length → SumZ gr k (smF gr (k :: l) j) i := by
  have hg := shG_ok hG
  intro j
  induction j with
  | zero => intro _; exact ⟨hk, Iff.rfl, rfl⟩
  | succ j ih =>
    intro hj
    have h := ih (by omega)
    have e : atD (k :: l) (j + 1) = l[j] := by rw [atD_eq (by simp; omega)]; simp
    obtain ⟨d1, d2, d3⟩ := hl _ (List.getElem_mem (show j < l.length by omega))
    rw [show smF gr (k :: l) (j + 1) = suX gr (smF gr (k :: l) j) (atD (k :: l) (j + 1)) from rfl, e]
    refine ⟨SameD.sum hg h.same d1, ⟨fun q => suX_bad hG h.same d1 (h.bad.1 q) d2, fun q => h.bad.2 (suX_bad' hG h.same d1 q d2)⟩, ?_⟩
    show atE gr (smL (mulF gr) (smF gr (k :: l) j).c (l[j]).c (l[j]).c.length) i = _
    rw [atE_sum hg i (by rw [h.same.lc, d1.lc]), d3, h.at_, one_el_mod hg (atE_el hg hk.ec i)]
theorem de_same {gr : GroupD} {k d : DealingD} (hd : deB gr d = true) (hs : smB d k = true) : SameD gr k d := by
  obtain ⟨_, p1, p2⟩ := deB_parts hd
  unfold smB at hs
  simp only [Bool.and_eq_true, decide_eq_true_iff] at hs
  exact ⟨hs.1, hs.2, fun x hx => List.all_eq_true.1 p1 x hx, fun x hx => List.all_eq_true.1 p2 x hx⟩
theorem smB_self (k : DealingD) : smB k k = true := by unfold smB; simp
theorem vdB_p {gr : GroupD} {d : DealingD} (h : vdB gr d = true) : shG gr = true ∧ deB gr d = true := by unfold vdB at h; rwa [Bool.and_eq_true] at h
theorem rkB_parts {gr : GroupD} {k : DealingD} {l : List DealingD} (h : rkB gr k l = true) : shG gr = true ∧ deB gr k = true ∧ l.length ≤ 7 ∧ ∀ d ∈ l, deB gr d = true := by
  unfold rkB dsB at h
  simp only [Bool.and_eq_true, decide_eq_true_iff] at h
  exact ⟨(vdB_p h.1).1, (vdB_p h.1).2, by omega, fun d hd => List.all_eq_true.1 h.2.2 d hd⟩
theorem zeB_p {gr : GroupD} {d : DealingD} {i : Int} (h : zeB gr d i = true) : atE gr d.c i = 1 ∧ badE gr d = [] := by
  unfold zeB at h
  rw [Bool.and_eq_true, beq_iff_eq, decide_eq_true_iff] at h
  exact ⟨h.1, List.length_eq_zero_iff.1 h.2⟩
/-- a key and dealings of its shape can be summed -/
theorem kl_al {gr : GroupD} {k : DealingD} {l : List DealingD} (hk : deB gr k = true) (hl : ∀ d ∈ l, deB gr d = true ∧ smB d k = true) (hn : l.length ≤ 6) : alB gr (k :: l) = true := by
  unfold alB
  rw [decide_eq_true (by simp; omega), Bool.true_and, List.all_eq_true]
  intro d hd
  show (deB gr d && smB d k) = true
  rcases List.mem_cons.1 hd with h | h
  · rw [h, hk, smB_self]; rfl
  · obtain ⟨h1, h2⟩ := hl d h; rw [h1, h2]; rfl
theorem rfU_al {gr : GroupD} {k : DealingD} {l : List DealingD} (h : rkB gr k l = true) (hn : l.length ≤ 6) {n : Nat} (hk : n ≤ l.length) : alB gr (k :: rfU gr k l n) = true := by
  obtain ⟨hG, h1, _, h2⟩ := rkB_parts h
  refine kl_al h1 (fun d hd => ?_) (by have := rfU_len gr k l n; omega)
  obtain ⟨q1, q2, _⟩ := rfU_mem _ hk hd
  exact ⟨h2 d q1, q2⟩
/-- refreshing keeps the key, and right shares right -/
theorem rf_right {gr : GroupD} {k : DealingD} {l : List DealingD} (h : rkB gr k l = true) : vdB gr k = true ∧ vdB gr (rfD gr k l) = true ∧ (badE gr k = [] ↔ badE gr (rfD gr k l) = []) ∧ nth (rfD gr k l).c 0 = nth k.c 0 ∧ 0 < (rfD gr k l).c.length ∧ 0 < k.c.length := by
  obtain ⟨hG, h1, _, h2⟩ := rkB_parts h
  have hg := shG_ok hG
  have hz := sumZ (i := 0) hG (de_same h1 (smB_self k)) (l := rfU gr k l l.length) (fun d hd => by
    obtain ⟨q1, q2, q3⟩ := rfU_mem _ (Nat.le_refl _) hd
    obtain ⟨z1, z2⟩ := zeB_p q3
    exact ⟨de_same (h2 d q1) q2, z2, z1⟩) _ (Nat.le_refl _)
  have e : rfD gr k l = smF gr (k :: rfU gr k l l.length) (rfU gr k l l.length).length := by
    unfold rfD smD; rw [List.length_cons, Nat.add_sub_cancel]
  rw [← e] at hz
  obtain ⟨p1, p2, p3⟩ := deB_parts h1
  have hde := deB_same h1 hz.same
  obtain ⟨r1, r2, r3⟩ := deB_parts hde
  refine ⟨by unfold vdB; rw [hG, h1]; rfl, by unfold vdB; rw [hG, hde]; rfl, hz.bad, ?_, by omega, by omega⟩
  have h3 := hz.at_
  rwa [atE_zero hg r2 (by omega), atE_zero hg p2 (by omega)] at h3
/-- powers of the generator are different -/
theorem gen_inj {gr : GroupD} (hG : shG gr = true) {a b : Int} (ha : expB gr a = true) (hb : expB gr b = true) (h : powE gr gr.g a = powE gr gr.g b) : a = b := by
  have hg := shG_ok hG
  have hgen := shG_gen hG
  obtain ⟨hpr, _, hq7⟩ := shG_prm hG
  have a1 := expB_bd ha
  have b1 := expB_bd hb
  have h0 : powE gr gr.g (a - b) = 1 := by
    have e : powE gr gr.g (a + -b) = 1 := by
      rw [powE_add hg hgen, h]; exact powE_neg hg hgen b
    rwa [← Int.sub_eq_add_neg] at e
  by_cases hz : (a - b) % gr.q = 0
  · obtain ⟨t, ht⟩ := Int.dvd_of_emod_eq_zero hz
    rcases Int.lt_trichotomy t 0 with h3 | h3 | h3
    · have : gr.q * t ≤ gr.q * (-1) := Int.mul_le_mul_of_nonneg_left (by omega) (by omega)
      omega
    · subst h3; simp at ht; omega
    · have : gr.q * 1 ≤ gr.q * t := Int.mul_le_mul_of_nonneg_left (by omega) (by omega)
      omega
  · exfalso
    have n0 := Int.emod_nonneg (a - b) (show gr.q ≠ 0 by omega)
    have n1 := Int.emod_lt_of_pos (a - b) (show 0 < gr.q by omega)
    obtain ⟨z, hz1⟩ := inverse_is hpr (show 0 < (a - b) % gr.q by omega) n1
    have e : powE gr gr.g ((a - b) % gr.q * z % gr.q) = 1 := by
      rw [powE_emod, ← powE_pow hg hgen, powE_emod, h0]
      show (1 : Int) ^ _ % gr.p = 1
      rw [Int.one_pow, one_mod hg]
    rw [hz1, powE_single hg hgen] at e
    have := hg.g1
    omega
theorem mkB_parts {gr : GroupD} {k : DealingD} {i : Int} {l : List DealingD} (h : mkB gr k i l = true) : rkB gr k l = true ∧ (1 ≤ i ∧ i ≤ 7) ∧ ∀ d ∈ l, smB d k = true ∧ zeB gr d i = true := by
  unfold mkB ssB at h
  simp only [Bool.and_eq_true, decide_eq_true_iff] at h
  exact ⟨h.1.1, h.2.1, fun d hd => ⟨List.all_eq_true.1 h.1.2 d hd, List.all_eq_true.1 h.2.2 d hd⟩⟩
noncomputable def rmB (gr : GroupD) (m : DealingD) (i lost : Int) : Bool := vdB gr m && (decide (1 ≤ i ∧ i ≤ 7) && (decide (0 ≤ lost ∧ lost ≤ 7) && vaB gr m.c (otX i lost m.s.length) (otY m.s i lost m.s.length)))
noncomputable def rmR (gr : GroupD) (m : DealingD) (i lost : Int) : Int := if rmB gr m i lost = true then vaV gr m.c (otX i lost m.s.length) (otY m.s i lost m.s.length) i else 0
/-- masked shares recover a lost one -/
theorem mask_right {gr : GroupD} {k : DealingD} {i : Int} {l : List DealingD} (h : mkB gr k i l = true) (hi : i ≤ k.s.length) (hn : k.c.length < k.s.length) : vdB gr k = true ∧ (badE gr k = [] → rmB gr (mkD gr k l) i 0 = true ∧ rmR gr (mkD gr k l) i 0 = nth k.s (i - 1).toNat) := by
  obtain ⟨h0, hi7, hz⟩ := mkB_parts h
  obtain ⟨hG, h1, _, h2⟩ := rkB_parts h0
  have hg := shG_ok hG
  have hs := sumZ (i := i) hG (de_same h1 (smB_self k)) (l := l) (fun d hd => by
    obtain ⟨z1, z2⟩ := zeB_p (hz d hd).2
    exact ⟨de_same (h2 d hd) (hz d hd).1, z2, z1⟩) _ (Nat.le_refl _)
  have e : mkD gr k l = smF gr (k :: l) l.length := by
    unfold mkD smD; rw [List.length_cons, Nat.add_sub_cancel]
  rw [← e] at hs
  have hv : vdB gr k = true := by unfold vdB; rw [hG, h1]; rfl
  refine ⟨hv, fun hb => ?_⟩
  have hde := deB_same h1 hs.same
  have hmb := hs.bad.1 hb
  obtain ⟨r1, r2, r3⟩ := deB_parts hde
  obtain ⟨p1, p2, p3⟩ := deB_parts h1
  have hn7 : (mkD gr k l).s.length ≤ 7 := r1.2.2
  have hls := hs.same.ls
  have hlc := hs.same.lc
  have hfit : ∀ j, j < (otX i 0 (mkD gr k l).s.length).length → shrB gr (mkD gr k l).c (nth (otX i 0 (mkD gr k l).s.length) j) (nth (otY (mkD gr k l).s i 0 (mkD gr k l).s.length) j) = true := fun j hj => by
    obtain ⟨m, m1, m2, m3⟩ := ot_at (s := (mkD gr k l).s) _ j hj
    rw [m2, m3]
    unfold badE at hmb
    exact (bad_nil gr _ _).1 hmb m m1
  have hmany := otX_many i (mkD gr k l).s.length
  have hva : vaB gr (mkD gr k l).c (otX i 0 (mkD gr k l).s.length) (otY (mkD gr k l).s i 0 (mkD gr k l).s.length) = true := by
    unfold vaB pkX
    rw [pk_all hfit _ (Nat.le_refl _)]
    have : (if 1 ≤ i ∧ i ≤ ((mkD gr k l).s.length : Int) then 1 else 0) ≤ 1 := by split <;> omega
    rw [decide_eq_false (by omega)]; rfl
  have hvd : vdB gr (mkD gr k l) = true := by unfold vdB; rw [hG, hde]; rfl
  have hrm : rmB gr (mkD gr k l) i 0 = true := by
    unfold rmB; rw [hvd, hva, decide_eq_true hi7]; rfl
  refine ⟨hrm, ?_⟩
  unfold rmR
  rw [if_pos hrm]
  have hcm : cmsB gr (mkD gr k l).c = true := by unfold deB at hde; rw [Bool.and_eq_true] at hde; exact hde.1
  have hye : (otY (mkD gr k l).s i 0 (mkD gr k l).s.length).all (expB gr) = true := by
    rw [List.all_eq_true]
    exact otY_mem (P := fun x => expB gr x = true) (fun x hx => List.all_eq_true.1 r3 x hx) _ (Nat.le_refl _)
  have hvr := va_right (x := i) hG hcm (otX_tr hn7) (otX_len _ _ _ _).1.symm hye hva
  refine gen_inj hG (vaV_bd hG ..) (List.all_eq_true.1 p3 _ (nth_mem' (by omega))) ?_
  rw [hvr, hs.at_]
  unfold badE at hb
  have := (bad_nil gr k _).1 hb (i - 1).toNat (by omega)
  unfold shrB at this
  rw [beq_iff_eq] at this
  rw [this]
  congr 1; omega
end Go.Proofs.YtacpnphfopmofaaGreat
namespace Go.Proofs.YtacpnphfopmofaaGreat
open Go.RowKit
set_option linter.unusedSimpArgs false
set_option linter.unusedVariables false
set_option maxRecDepth 100000 in
set_option maxHeartbeats 2000000 in
theorem impl_isZero (gr : GroupD) (pv : Value) (d : DealingD) (i : Int) (w : World) (hg : OkG gr) (hp : DlR w pv d) (hd : deB gr d = true) (hi : 0 ≤ i ∧ i ≤ 1000) :
    Calls Tryz.prog 29 #[.agg #[.int .i64 gr.p, .int .i64 gr.q, .int .i64 gr.g], pv, .int .i64 i] w fun e w' => e = .returned (.bool (zeB gr d i)) ∧ Below w.heap.size w w' := by
  have HG := Lib.hid hg
  clear hg
  have HDB := Lib.hid hd
  have HEL := Lib.hid (cms_small HG.out (deB_parts hd).2.1)
  have HCL : Hid (d.c.length ≤ 1000) := by have := (deB_parts hd).1; unfold Hid; omega
  clear hd
  have HIB := Lib.hid hi
  clear hi
  obtain ⟨xcv, xsv, rfl, hxc, hxs⟩ := hp
  obtain ⟨xca, xcn, xcc, rfl⟩ := hxc.shape
  have Exc := Lib.hid hxc.len
  have Kxc := Lib.hid hxc.capMax
  have Hxc := Lib.hid hxc
  clear hxc
  obtain ⟨xsa, xsn, xsc, rfl⟩ := hxs.shape
  have Exs := Lib.hid hxs.len
  have Kxs := Lib.hid hxs.capMax
  have Hxs := Lib.hid hxs
  clear hxs
  obtain ⟨W, hW⟩ : ∃ W, W = (w.alloc (.cells #[.int .i64 gr.p, .int .i64 gr.q, .int .i64 gr.g] 24)).alloc (.cells #[(.slice xca xcn xcc), (.slice xsa xsn xsc)] 61) := ⟨_, rfl⟩
  have HB : Hid (Below w.heap.size w W) := by unfold Hid; rw [hW]; (repeat (first | exact Below.refl _ _ | assumption | refine Below.drew ?_ | refine Below.alloc ?_ (by first | (simp; done) | (simp; omega)) _ | refine Below.setCell ?_ (by first | (simp; done) | (simp; omega)) _))
  have c0_0 : W.cell? ⟨w.heap.size, 0, none⟩ = some (.int .i64 gr.p) := by rw [hW]; simp [go_sem]
  have c0_1 : W.cell? ⟨w.heap.size, 1, none⟩ = some (.int .i64 gr.q) := by rw [hW]; simp [go_sem]
  have c0_2 : W.cell? ⟨w.heap.size, 2, none⟩ = some (.int .i64 gr.g) := by rw [hW]; simp [go_sem]
  have c1_0 : W.cell? ⟨w.heap.size + 1, 0, none⟩ = some ((.slice xca xcn xcc)) := by rw [hW]; simp [go_sem]
  have c1_1 : W.cell? ⟨w.heap.size + 1, 1, none⟩ = some ((.slice xsa xsn xsc)) := by rw [hW]; simp [go_sem]
  have HSW : Hid (W.heap.size = w.heap.size + 2) := by unfold Hid; rw [hW]; simp
  go_enter Tryz.func29, Tryz.ntmps29
  go_wp2_with fail
  rw [← hW]
  have hse : w.heap.size + 1 + 1 = W.heap.size := by have := HSW.out; omega
  (try rw [hse])
  clear hse
  clear hW
  have hc : Below W.heap.size W W := Below.refl _ _
  have HCC : Hid (∀ u, Below W.heap.size W u → u.cell? ⟨w.heap.size, 0, none⟩ = some (.int .i64 gr.p) ∧ u.cell? ⟨w.heap.size, 1, none⟩ = some (.int .i64 gr.q) ∧ u.cell? ⟨w.heap.size, 2, none⟩ = some (.int .i64 gr.g) ∧ u.cell? ⟨w.heap.size + 1, 0, none⟩ = some ((.slice xca xcn xcc)) ∧ u.cell? ⟨w.heap.size + 1, 1, none⟩ = some ((.slice xsa xsn xsc))) := fun u h => ⟨box_at c0_0 h, box_at c0_1 h, box_at c0_2 h, box_at c1_0 h, box_at c1_1 h⟩
  go_wp2_with fail
  refine (impl_commitAt gr _ d.c i _ HG.out (Hxc.out.below (HB.out.trans (hc.mono HB.out.size))) HEL.out HCL.out HIB.out).mono ?_
  rintro e u1 ⟨rfl, hq1⟩
  replace hc := Below.next hc hq1
  clear hq1 c0_0 c0_1 c0_2 c1_0 c1_1
  obtain ⟨c0_0, c0_1, c0_2, c1_0, c1_1⟩ := HCC.out _ hc
  cases hc1 : (atE gr d.c i == 1) with
  | false =>
    go_wp2_with fail
    have HV : Hid ((.bool (zeB gr d i) : Value) = .bool false) := by unfold Hid; simp [zeB, hc1]
    go_ret
    exact ⟨congrArg Ending.returned HV.out.symm, HB.out.trans (hc.mono HB.out.size)⟩
  | true =>
    go_wp2_with fail
    refine (impl_bad gr _ d _ HG.out (DlR.mk (Hxc.out.below (HB.out.trans (hc.mono HB.out.size))) (Hxs.out.below (HB.out.trans (hc.mono HB.out.size)))) HDB.out).mono ?_
    rintro e u2 ⟨⟨vb, rfl, hob⟩, hq2⟩
    obtain ⟨ba, bc, rfl⟩ := OwnI.shapeN (n := (badE gr d).length) hob rfl
    have HOB := Lib.hid hob.ints
    clear hob
    obtain ⟨bn, hbn⟩ : ∃ z, (badE gr d).length = z := ⟨_, rfl⟩
    have HBN := Lib.hid hbn
    rw [hbn]
    rw [hbn] at HOB
    clear hbn
    replace hc := Below.next hc hq2
    clear hq2 c0_0 c0_1 c0_2 c1_0 c1_1
    obtain ⟨c0_0, c0_1, c0_2, c1_0, c1_1⟩ := HCC.out _ hc
    cases hc2 : ((bn : Int) == 0) with
    | false =>
      have HT1 : Hid (decide ((badE gr d).length = 0) = false) := by have q := hc2; rw [beq_eq_false_iff_ne] at q; have := HBN.out; unfold Hid; exact decide_eq_false (by omega)
      have HT2n : Hid (¬ badE gr d = []) := fun e => of_decide_eq_false HT1.out (by rw [e]; rfl)
      have hcp1 : ¬ bn = 0 := by have q := hc2; rw [beq_eq_false_iff_ne] at q; omega
      have hcn1 : decide (bn = 0) = false := decide_eq_false hcp1
      have hcq1 : (bn == 0) = false := by rw [beq_eq_false_iff_ne]; exact hcp1
      go_wp2_with fail
      have HV : Hid ((.bool (zeB gr d i) : Value) = .bool false) := by unfold Hid; simp [zeB, hc1, HT2n.out]
      go_ret
      exact ⟨congrArg Ending.returned HV.out.symm, HB.out.trans (hc.mono HB.out.size)⟩
    | true =>
      have HT1 : Hid (decide ((badE gr d).length = 0) = true) := by have q := hc2; rw [beq_iff_eq] at q; have := HBN.out; unfold Hid; exact decide_eq_true (by omega)
      have HT2n : Hid (badE gr d = []) := List.length_eq_zero_iff.1 (of_decide_eq_true HT1.out)
      have hcp1 : bn = 0 := by have q := hc2; rw [beq_iff_eq] at q; omega
      have hcn1 : decide (bn = 0) = true := decide_eq_true hcp1
      have hcq1 : (bn == 0) = true := by rw [beq_iff_eq]; exact hcp1
      go_wp2_with fail
      have HV : Hid ((.bool (zeB gr d i) : Value) = .bool true) := by unfold Hid; simp [zeB, hc1, HT2n.out]
      go_ret
      exact ⟨congrArg Ending.returned HV.out.symm, HB.out.trans (hc.mono HB.out.size)⟩
set_option maxRecDepth 100000 in
set_option maxHeartbeats 2000000 in
theorem spec_rZero (gr : GroupD) (pv : Value) (d : DealingD) (i : Int) (w : World) (hg : OkG gr) (hp : DlR w pv d) (hd : deB gr d = true) (hi : 0 ≤ i ∧ i ≤ 1000) :
    Calls Tryz.prog 34 #[.agg #[.int .i64 gr.p, .int .i64 gr.q, .int .i64 gr.g], pv, .int .i64 i] w fun e w' => e = .returned (.bool (zeB gr d i)) ∧ Below w.heap.size w w' := by
  have HG := Lib.hid hg
  clear hg
  have HDB := Lib.hid hd
  have HEL := Lib.hid (cms_small HG.out (deB_parts hd).2.1)
  have HCL : Hid (d.c.length ≤ 1000) := by have := (deB_parts hd).1; unfold Hid; omega
  clear hd
  have HIB := Lib.hid hi
  clear hi
  obtain ⟨xcv, xsv, rfl, hxc, hxs⟩ := hp
  obtain ⟨xca, xcn, xcc, rfl⟩ := hxc.shape
  have Exc := Lib.hid hxc.len
  have Kxc := Lib.hid hxc.capMax
  have Hxc := Lib.hid hxc
  clear hxc
  obtain ⟨xsa, xsn, xsc, rfl⟩ := hxs.shape
  have Exs := Lib.hid hxs.len
  have Kxs := Lib.hid hxs.capMax
  have Hxs := Lib.hid hxs
  clear hxs
  obtain ⟨W, hW⟩ : ∃ W, W = (w.alloc (.cells #[.int .i64 gr.p, .int .i64 gr.q, .int .i64 gr.g] 24)).alloc (.cells #[(.slice xca xcn xcc), (.slice xsa xsn xsc)] 61) := ⟨_, rfl⟩
  have HB : Hid (Below w.heap.size w W) := by unfold Hid; rw [hW]; (repeat (first | exact Below.refl _ _ | assumption | refine Below.drew ?_ | refine Below.alloc ?_ (by first | (simp; done) | (simp; omega)) _ | refine Below.setCell ?_ (by first | (simp; done) | (simp; omega)) _))
  have c0_0 : W.cell? ⟨w.heap.size, 0, none⟩ = some (.int .i64 gr.p) := by rw [hW]; simp [go_sem]
  have c0_1 : W.cell? ⟨w.heap.size, 1, none⟩ = some (.int .i64 gr.q) := by rw [hW]; simp [go_sem]
  have c0_2 : W.cell? ⟨w.heap.size, 2, none⟩ = some (.int .i64 gr.g) := by rw [hW]; simp [go_sem]
  have c1_0 : W.cell? ⟨w.heap.size + 1, 0, none⟩ = some ((.slice xca xcn xcc)) := by rw [hW]; simp [go_sem]
  have c1_1 : W.cell? ⟨w.heap.size + 1, 1, none⟩ = some ((.slice xsa xsn xsc)) := by rw [hW]; simp [go_sem]
  have HSW : Hid (W.heap.size = w.heap.size + 2) := by unfold Hid; rw [hW]; simp
  go_enter Tryz.func34, Tryz.ntmps34
  go_wp2_with fail
  rw [← hW]
  have hse : w.heap.size + 1 + 1 = W.heap.size := by have := HSW.out; omega
  (try rw [hse])
  clear hse
  clear hW
  have hc : Below W.heap.size W W := Below.refl _ _
  have HCC : Hid (∀ u, Below W.heap.size W u → u.cell? ⟨w.heap.size, 0, none⟩ = some (.int .i64 gr.p) ∧ u.cell? ⟨w.heap.size, 1, none⟩ = some (.int .i64 gr.q) ∧ u.cell? ⟨w.heap.size, 2, none⟩ = some (.int .i64 gr.g) ∧ u.cell? ⟨w.heap.size + 1, 0, none⟩ = some ((.slice xca xcn xcc)) ∧ u.cell? ⟨w.heap.size + 1, 1, none⟩ = some ((.slice xsa xsn xsc))) := fun u h => ⟨box_at c0_0 h, box_at c0_1 h, box_at c0_2 h, box_at c1_0 h, box_at c1_1 h⟩
  go_wp2_with fail
  refine (spec_sAt gr _ d.c i _ HG.out (Hxc.out.below (HB.out.trans (hc.mono HB.out.size))) HEL.out HCL.out HIB.out).mono ?_
  rintro e u1 ⟨rfl, hq1⟩
  replace hc := Below.next hc hq1
  clear hq1 c0_0 c0_1 c0_2 c1_0 c1_1
  obtain ⟨c0_0, c0_1, c0_2, c1_0, c1_1⟩ := HCC.out _ hc
  cases hc1 : (atE gr d.c i == 1) with
  | false =>
    go_wp2_with fail
    have HV : Hid ((.bool (zeB gr d i) : Value) = .bool false) := by unfold Hid; simp [zeB, hc1]
    go_ret
    exact ⟨congrArg Ending.returned HV.out.symm, HB.out.trans (hc.mono HB.out.size)⟩
  | true =>
    go_wp2_with fail
    refine (spec_sBadD gr _ d _ HG.out (DlR.mk (Hxc.out.below (HB.out.trans (hc.mono HB.out.size))) (Hxs.out.below (HB.out.trans (hc.mono HB.out.size)))) HDB.out).mono ?_
    rintro e u2 ⟨⟨vb, rfl, hob⟩, hq2⟩
    obtain ⟨ba, bc, rfl⟩ := OwnI.shapeN (n := (badE gr d).length) hob rfl
    have HOB := Lib.hid hob.ints
    clear hob
    obtain ⟨bn, hbn⟩ : ∃ z, (badE gr d).length = z := ⟨_, rfl⟩
    have HBN := Lib.hid hbn
    rw [hbn]
    rw [hbn] at HOB
    clear hbn
    replace hc := Below.next hc hq2
    clear hq2 c0_0 c0_1 c0_2 c1_0 c1_1
    obtain ⟨c0_0, c0_1, c0_2, c1_0, c1_1⟩ := HCC.out _ hc
    cases hc2 : ((bn : Int) == 0) with
    | false =>
      have HT1 : Hid (decide ((badE gr d).length = 0) = false) := by have q := hc2; rw [beq_eq_false_iff_ne] at q; have := HBN.out; unfold Hid; exact decide_eq_false (by omega)
      have HT2n : Hid (¬ badE gr d = []) := fun e => of_decide_eq_false HT1.out (by rw [e]; rfl)
      have hcp1 : ¬ bn = 0 := by have q := hc2; rw [beq_eq_false_iff_ne] at q; omega
      have hcn1 : decide (bn = 0) = false := decide_eq_false hcp1
      have hcq1 : (bn == 0) = false := by rw [beq_eq_false_iff_ne]; exact hcp1
      go_wp2_with fail
      have HV : Hid ((.bool (zeB gr d i) : Value) = .bool false) := by unfold Hid; simp [zeB, hc1, HT2n.out]
      go_ret
      exact ⟨congrArg Ending.returned HV.out.symm, HB.out.trans (hc.mono HB.out.size)⟩
    | true =>
      have HT1 : Hid (decide ((badE gr d).length = 0) = true) := by have q := hc2; rw [beq_iff_eq] at q; have := HBN.out; unfold Hid; exact decide_eq_true (by omega)
      have HT2n : Hid (badE gr d = []) := List.length_eq_zero_iff.1 (of_decide_eq_true HT1.out)
      have hcp1 : bn = 0 := by have q := hc2; rw [beq_iff_eq] at q; omega
      have hcn1 : decide (bn = 0) = true := decide_eq_true hcp1
      have hcq1 : (bn == 0) = true := by rw [beq_iff_eq]; exact hcp1
      go_wp2_with fail
      have HV : Hid ((.bool (zeB gr d i) : Value) = .bool true) := by unfold Hid; simp [zeB, hc1, HT2n.out]
      go_ret
      exact ⟨congrArg Ending.returned HV.out.symm, HB.out.trans (hc.mono HB.out.size)⟩
set_option maxRecDepth 100000 in
set_option maxHeartbeats 2000000 in
theorem impl_hasKey (gr : GroupD) (pv : Value) (d : DealingD) (w : World) (hp : DlR w pv d) :
    Calls Tryz.prog 26 #[.agg #[.int .i64 gr.p, .int .i64 gr.q, .int .i64 gr.g], pv] w fun e w' => e = .returned (.bool (vdB gr d)) ∧ Below w.heap.size w w' := by
  obtain ⟨xcv, xsv, rfl, hxc, hxs⟩ := hp
  obtain ⟨xca, xcn, xcc, rfl⟩ := hxc.shape
  have Exc := Lib.hid hxc.len
  have Kxc := Lib.hid hxc.capMax
  have Hxc := Lib.hid hxc
  clear hxc
  obtain ⟨xsa, xsn, xsc, rfl⟩ := hxs.shape
  have Exs := Lib.hid hxs.len
  have Kxs := Lib.hid hxs.capMax
  have Hxs := Lib.hid hxs
  clear hxs
  obtain ⟨W, hW⟩ : ∃ W, W = (w.alloc (.cells #[.int .i64 gr.p, .int .i64 gr.q, .int .i64 gr.g] 24)).alloc (.cells #[(.slice xca xcn xcc), (.slice xsa xsn xsc)] 27) := ⟨_, rfl⟩
  have HB : Hid (Below w.heap.size w W) := by unfold Hid; rw [hW]; (repeat (first | exact Below.refl _ _ | assumption | refine Below.drew ?_ | refine Below.alloc ?_ (by first | (simp; done) | (simp; omega)) _ | refine Below.setCell ?_ (by first | (simp; done) | (simp; omega)) _))
  have c0_0 : W.cell? ⟨w.heap.size, 0, none⟩ = some (.int .i64 gr.p) := by rw [hW]; simp [go_sem]
  have c0_1 : W.cell? ⟨w.heap.size, 1, none⟩ = some (.int .i64 gr.q) := by rw [hW]; simp [go_sem]
  have c0_2 : W.cell? ⟨w.heap.size, 2, none⟩ = some (.int .i64 gr.g) := by rw [hW]; simp [go_sem]
  have c1_0 : W.cell? ⟨w.heap.size + 1, 0, none⟩ = some ((.slice xca xcn xcc)) := by rw [hW]; simp [go_sem]
  have c1_1 : W.cell? ⟨w.heap.size + 1, 1, none⟩ = some ((.slice xsa xsn xsc)) := by rw [hW]; simp [go_sem]
  have HSW : Hid (W.heap.size = w.heap.size + 2) := by unfold Hid; rw [hW]; simp
  go_enter Tryz.func26, Tryz.ntmps26
  go_wp2_with fail
  rw [← hW]
  have hse : w.heap.size + 1 + 1 = W.heap.size := by have := HSW.out; omega
  (try rw [hse])
  clear hse
  clear hW
  have hc : Below W.heap.size W W := Below.refl _ _
  have HCC : Hid (∀ u, Below W.heap.size W u → u.cell? ⟨w.heap.size, 0, none⟩ = some (.int .i64 gr.p) ∧ u.cell? ⟨w.heap.size, 1, none⟩ = some (.int .i64 gr.q) ∧ u.cell? ⟨w.heap.size, 2, none⟩ = some (.int .i64 gr.g) ∧ u.cell? ⟨w.heap.size + 1, 0, none⟩ = some ((.slice xca xcn xcc)) ∧ u.cell? ⟨w.heap.size + 1, 1, none⟩ = some ((.slice xsa xsn xsc))) := fun u h => ⟨box_at c0_0 h, box_at c0_1 h, box_at c0_2 h, box_at c1_0 h, box_at c1_1 h⟩
  go_wp2_with fail
  refine (impl_IsValidDealing gr _ d _ (DlR.mk (Hxc.out.below (HB.out.trans (hc.mono HB.out.size))) (Hxs.out.below (HB.out.trans (hc.mono HB.out.size))))).mono ?_
  rintro e u1 ⟨rfl, hq1⟩
  replace hc := Below.next hc hq1
  clear hq1 c0_0 c0_1 c0_2 c1_0 c1_1
  obtain ⟨c0_0, c0_1, c0_2, c1_0, c1_1⟩ := HCC.out _ hc
  cases hc1 : vdB gr d with
  | false =>
    have Hhc1 := Lib.hid hc1
    clear hc1
    go_wp2_with fail
    have HV : Hid ((.bool (vdB gr d) : Value) = .bool false) := by unfold Hid; simp [Hhc1.out]
    go_ret
    exact ⟨congrArg Ending.returned HV.out.symm, HB.out.trans (hc.mono HB.out.size)⟩
  | true =>
    have Hhc1 := Lib.hid hc1
    clear hc1
    go_wp2_with fail
    have HV : Hid ((.bool (vdB gr d) : Value) = .bool true) := by unfold Hid; simp [Hhc1.out]
    go_ret
    exact ⟨congrArg Ending.returned HV.out.symm, HB.out.trans (hc.mono HB.out.size)⟩
set_option maxRecDepth 100000 in
set_option maxHeartbeats 2000000 in
theorem impl_IsRightKey (gr : GroupD) (pv : Value) (d : DealingD) (w : World) (hp : DlR w pv d) :
    Calls Tryz.prog 12 #[.agg #[.int .i64 gr.p, .int .i64 gr.q, .int .i64 gr.g], pv] w fun e w' => e = .returned (.tuple #[.bool (vdB gr d && decide ((badE gr d).length = 0)), .bool (vdB gr d)]) ∧ Below w.heap.size w w' := by
  obtain ⟨xcv, xsv, rfl, hxc, hxs⟩ := hp
  obtain ⟨xca, xcn, xcc, rfl⟩ := hxc.shape
  have Exc := Lib.hid hxc.len
  have Kxc := Lib.hid hxc.capMax
  have Hxc := Lib.hid hxc
  clear hxc
  obtain ⟨xsa, xsn, xsc, rfl⟩ := hxs.shape
  have Exs := Lib.hid hxs.len
  have Kxs := Lib.hid hxs.capMax
  have Hxs := Lib.hid hxs
  clear hxs
  obtain ⟨W, hW⟩ : ∃ W, W = (w.alloc (.cells #[.int .i64 gr.p, .int .i64 gr.q, .int .i64 gr.g] 24)).alloc (.cells #[(.slice xca xcn xcc), (.slice xsa xsn xsc)] 27) := ⟨_, rfl⟩
  have HB : Hid (Below w.heap.size w W) := by unfold Hid; rw [hW]; (repeat (first | exact Below.refl _ _ | assumption | refine Below.drew ?_ | refine Below.alloc ?_ (by first | (simp; done) | (simp; omega)) _ | refine Below.setCell ?_ (by first | (simp; done) | (simp; omega)) _))
  have c0_0 : W.cell? ⟨w.heap.size, 0, none⟩ = some (.int .i64 gr.p) := by rw [hW]; simp [go_sem]
  have c0_1 : W.cell? ⟨w.heap.size, 1, none⟩ = some (.int .i64 gr.q) := by rw [hW]; simp [go_sem]
  have c0_2 : W.cell? ⟨w.heap.size, 2, none⟩ = some (.int .i64 gr.g) := by rw [hW]; simp [go_sem]
  have c1_0 : W.cell? ⟨w.heap.size + 1, 0, none⟩ = some ((.slice xca xcn xcc)) := by rw [hW]; simp [go_sem]
  have c1_1 : W.cell? ⟨w.heap.size + 1, 1, none⟩ = some ((.slice xsa xsn xsc)) := by rw [hW]; simp [go_sem]
  have HSW : Hid (W.heap.size = w.heap.size + 2) := by unfold Hid; rw [hW]; simp
  go_enter Tryz.func12, Tryz.ntmps12
  go_wp2_with fail
  rw [← hW]
  have hse : w.heap.size + 1 + 1 = W.heap.size := by have := HSW.out; omega
  (try rw [hse])
  clear hse
  clear hW
  have hc : Below W.heap.size W W := Below.refl _ _
  have HCC : Hid (∀ u, Below W.heap.size W u → u.cell? ⟨w.heap.size, 0, none⟩ = some (.int .i64 gr.p) ∧ u.cell? ⟨w.heap.size, 1, none⟩ = some (.int .i64 gr.q) ∧ u.cell? ⟨w.heap.size, 2, none⟩ = some (.int .i64 gr.g) ∧ u.cell? ⟨w.heap.size + 1, 0, none⟩ = some ((.slice xca xcn xcc)) ∧ u.cell? ⟨w.heap.size + 1, 1, none⟩ = some ((.slice xsa xsn xsc))) := fun u h => ⟨box_at c0_0 h, box_at c0_1 h, box_at c0_2 h, box_at c1_0 h, box_at c1_1 h⟩
  go_wp2_with fail
  refine (impl_hasKey gr _ d _ (DlR.mk (Hxc.out.below (HB.out.trans (hc.mono HB.out.size))) (Hxs.out.below (HB.out.trans (hc.mono HB.out.size))))).mono ?_
  rintro e u1 ⟨rfl, hq1⟩
  replace hc := Below.next hc hq1
  clear hq1 c0_0 c0_1 c0_2 c1_0 c1_1
  obtain ⟨c0_0, c0_1, c0_2, c1_0, c1_1⟩ := HCC.out _ hc
  cases hc1 : vdB gr d with
  | false =>
    have Hhc1 := Lib.hid hc1
    clear hc1
    go_wp2_with fail
    have HV : Hid ((.tuple #[.bool (vdB gr d && decide ((badE gr d).length = 0)), .bool (vdB gr d)] : Value) = .tuple #[.bool false, .bool false]) := by unfold Hid; simp [Hhc1.out]
    go_ret2
    exact ⟨congrArg Ending.returned HV.out.symm, HB.out.trans (hc.mono HB.out.size)⟩
  | true =>
    have HG := Lib.hid (vdB_parts hc1).1
    have HDB := Lib.hid (vdB_parts hc1).2
    have Hhc1 := Lib.hid hc1
    clear hc1
    go_wp2_with fail
    refine (impl_bad gr _ d _ HG.out (DlR.mk (Hxc.out.below (HB.out.trans (hc.mono HB.out.size))) (Hxs.out.below (HB.out.trans (hc.mono HB.out.size)))) HDB.out).mono ?_
    rintro e u2 ⟨⟨vb, rfl, hob⟩, hq2⟩
    obtain ⟨ba, bc, rfl⟩ := OwnI.shapeN (n := (badE gr d).length) hob rfl
    have HOB := Lib.hid hob.ints
    clear hob
    obtain ⟨bn, hbn⟩ : ∃ z, (badE gr d).length = z := ⟨_, rfl⟩
    have HBN := Lib.hid hbn
    rw [hbn]
    rw [hbn] at HOB
    clear hbn
    replace hc := Below.next hc hq2
    clear hq2 c0_0 c0_1 c0_2 c1_0 c1_1
    obtain ⟨c0_0, c0_1, c0_2, c1_0, c1_1⟩ := HCC.out _ hc
    cases hc2 : ((bn : Int) == 0) with
    | false =>
      have HT1 : Hid (decide ((badE gr d).length = 0) = false) := by have q := hc2; rw [beq_eq_false_iff_ne] at q; have := HBN.out; unfold Hid; exact decide_eq_false (by omega)
      have HT2n : Hid (¬ badE gr d = []) := fun e => of_decide_eq_false HT1.out (by rw [e]; rfl)
      have hcp1 : ¬ bn = 0 := by have q := hc2; rw [beq_eq_false_iff_ne] at q; omega
      have hcn1 : decide (bn = 0) = false := decide_eq_false hcp1
      have hcq1 : (bn == 0) = false := by rw [beq_eq_false_iff_ne]; exact hcp1
      go_wp2_with fail
      have HV : Hid ((.tuple #[.bool (vdB gr d && decide ((badE gr d).length = 0)), .bool (vdB gr d)] : Value) = .tuple #[.bool false, .bool true]) := by unfold Hid; simp [Hhc1.out, HT2n.out]
      go_ret2
      exact ⟨congrArg Ending.returned HV.out.symm, HB.out.trans (hc.mono HB.out.size)⟩
    | true =>
      have HT1 : Hid (decide ((badE gr d).length = 0) = true) := by have q := hc2; rw [beq_iff_eq] at q; have := HBN.out; unfold Hid; exact decide_eq_true (by omega)
      have HT2n : Hid (badE gr d = []) := List.length_eq_zero_iff.1 (of_decide_eq_true HT1.out)
      have hcp1 : bn = 0 := by have q := hc2; rw [beq_iff_eq] at q; omega
      have hcn1 : decide (bn = 0) = true := decide_eq_true hcp1
      have hcq1 : (bn == 0) = true := by rw [beq_iff_eq]; exact hcp1
      go_wp2_with fail
      have HV : Hid ((.tuple #[.bool (vdB gr d && decide ((badE gr d).length = 0)), .bool (vdB gr d)] : Value) = .tuple #[.bool true, .bool true]) := by unfold Hid; simp [Hhc1.out, HT2n.out]
      go_ret2
      exact ⟨congrArg Ending.returned HV.out.symm, HB.out.trans (hc.mono HB.out.size)⟩
set_option maxHeartbeats 2000000 in
theorem spec_rKey (pv : Value) (d : DealingD) (w : World) (hp : DlR w pv d) :
    Calls Tryz.prog 82 #[pv] w fun e w' => e = .returned pv ∧ Below w.heap.size w w' := by
  obtain ⟨xcv, xsv, rfl, hxc, hxs⟩ := hp
  obtain ⟨xca, xcn, xcc, rfl⟩ := hxc.shape
  obtain ⟨xsa, xsn, xsc, rfl⟩ := hxs.shape
  clear hxc hxs
  go_enter Tryz.func82, Tryz.ntmps82
  go_wp2_with fail
  refine bodyPost_ret (v := .agg #[.slice xca xcn xcc, .slice xsa xsn xsc]) (by simp [results, Tryz.results82, go_sem]) rfl ⟨rfl, by (repeat (first | exact Below.refl _ _ | assumption | refine Below.drew ?_ | refine Below.alloc ?_ (by first | (simp; done) | (simp; omega)) _ | refine Below.setCell ?_ (by first | (simp; done) | (simp; omega)) _))⟩
set_option maxRecDepth 100000 in
set_option maxHeartbeats 2000000 in
theorem spec_rAlike (pv qv : Value) (d f : DealingD) (w : World) (hp : DlR w pv d) (hq : DlR w qv f) :
    Calls Tryz.prog 33 #[pv, qv] w fun e w' => e = .returned (.bool (smB f d)) ∧ Below w.heap.size w w' := by
  obtain ⟨xcv, xsv, rfl, hxc, hxs⟩ := hp
  obtain ⟨xca, xcn, xcc, rfl⟩ := hxc.shape
  have Exc := Lib.hid hxc.len
  have Kxc := Lib.hid hxc.capMax
  have Hxc := Lib.hid hxc
  clear hxc
  obtain ⟨xsa, xsn, xsc, rfl⟩ := hxs.shape
  have Exs := Lib.hid hxs.len
  have Kxs := Lib.hid hxs.capMax
  have Hxs := Lib.hid hxs
  clear hxs
  obtain ⟨ycv, ysv, rfl, hyc, hys⟩ := hq
  obtain ⟨yca, ycn, ycc, rfl⟩ := hyc.shape
  have Eyc := Lib.hid hyc.len
  have Kyc := Lib.hid hyc.capMax
  have Hyc := Lib.hid hyc
  clear hyc
  obtain ⟨ysa, ysn, ysc, rfl⟩ := hys.shape
  have Eys := Lib.hid hys.len
  have Kys := Lib.hid hys.capMax
  have Hys := Lib.hid hys
  clear hys
  cases hc1 : ((ycn : Int) == (xcn : Int)) with
  | false =>
    have HS1 : Hid (decide (f.c.length = d.c.length) = false) := by have q := hc1; rw [beq_eq_false_iff_ne] at q; have := Exc.out; have := Eyc.out; unfold Hid; exact decide_eq_false (by omega)
    have HV : Hid ((.bool (smB f d) : Value) = .bool false) := by unfold Hid; simp [smB, hc1, HS1.out]
    rw [HV.out]
    go_enter Tryz.func33, Tryz.ntmps33
    go_wp2_with fail
    go_ret
    exact ⟨rfl, by (repeat (first | exact Below.refl _ _ | assumption | refine Below.drew ?_ | refine Below.alloc ?_ (by first | (simp; done) | (simp; omega)) _ | refine Below.setCell ?_ (by first | (simp; done) | (simp; omega)) _))⟩
  | true =>
    have HS1 : Hid (decide (f.c.length = d.c.length) = true) := by have q := hc1; rw [beq_iff_eq] at q; have := Exc.out; have := Eyc.out; unfold Hid; exact decide_eq_true (by omega)
    cases hc2 : ((ysn : Int) == (xsn : Int)) with
    | false =>
      have HS2 : Hid (decide (f.s.length = d.s.length) = false) := by have q := hc2; rw [beq_eq_false_iff_ne] at q; have := Exs.out; have := Eys.out; unfold Hid; exact decide_eq_false (by omega)
      have HV : Hid ((.bool (smB f d) : Value) = .bool false) := by unfold Hid; simp [smB, hc1, hc2, HS1.out, HS2.out]
      rw [HV.out]
      go_enter Tryz.func33, Tryz.ntmps33
      go_wp2_with fail
      go_ret
      exact ⟨rfl, by (repeat (first | exact Below.refl _ _ | assumption | refine Below.drew ?_ | refine Below.alloc ?_ (by first | (simp; done) | (simp; omega)) _ | refine Below.setCell ?_ (by first | (simp; done) | (simp; omega)) _))⟩
    | true =>
      have HS2 : Hid (decide (f.s.length = d.s.length) = true) := by have q := hc2; rw [beq_iff_eq] at q; have := Exs.out; have := Eys.out; unfold Hid; exact decide_eq_true (by omega)
      have HV : Hid ((.bool (smB f d) : Value) = .bool true) := by unfold Hid; simp [smB, hc1, hc2, HS1.out, HS2.out]
      rw [HV.out]
      go_enter Tryz.func33, Tryz.ntmps33
      go_wp2_with fail
      go_ret
      exact ⟨rfl, by (repeat (first | exact Below.refl _ _ | assumption | refine Below.drew ?_ | refine Below.alloc ?_ (by first | (simp; done) | (simp; omega)) _ | refine Below.setCell ?_ (by first | (simp; done) | (simp; omega)) _))⟩
set_option maxRecDepth 100000 in
set_option maxHeartbeats 2000000 in
theorem spec_rGood (gr : GroupD) (pv : Value) (d : DealingD) (w : World) (hp : DlR w pv d) :
    Calls Tryz.prog 31 #[.agg #[.int .i64 gr.p, .int .i64 gr.q, .int .i64 gr.g], pv] w fun e w' => e = .returned (.bool (vdB gr d)) ∧ Below w.heap.size w w' := by
  obtain ⟨xcv, xsv, rfl, hxc, hxs⟩ := hp
  obtain ⟨xca, xcn, xcc, rfl⟩ := hxc.shape
  have Exc := Lib.hid hxc.len
  have Kxc := Lib.hid hxc.capMax
  have Hxc := Lib.hid hxc
  clear hxc
  obtain ⟨xsa, xsn, xsc, rfl⟩ := hxs.shape
  have Exs := Lib.hid hxs.len
  have Kxs := Lib.hid hxs.capMax
  have Hxs := Lib.hid hxs
  clear hxs
  obtain ⟨W, hW⟩ : ∃ W, W = (w.alloc (.cells #[.int .i64 gr.p, .int .i64 gr.q, .int .i64 gr.g] 24)).alloc (.cells #[(.slice xca xcn xcc), (.slice xsa xsn xsc)] 27) := ⟨_, rfl⟩
  have HB : Hid (Below w.heap.size w W) := by unfold Hid; rw [hW]; (repeat (first | exact Below.refl _ _ | assumption | refine Below.drew ?_ | refine Below.alloc ?_ (by first | (simp; done) | (simp; omega)) _ | refine Below.setCell ?_ (by first | (simp; done) | (simp; omega)) _))
  have c0_0 : W.cell? ⟨w.heap.size, 0, none⟩ = some (.int .i64 gr.p) := by rw [hW]; simp [go_sem]
  have c0_1 : W.cell? ⟨w.heap.size, 1, none⟩ = some (.int .i64 gr.q) := by rw [hW]; simp [go_sem]
  have c0_2 : W.cell? ⟨w.heap.size, 2, none⟩ = some (.int .i64 gr.g) := by rw [hW]; simp [go_sem]
  have c1_0 : W.cell? ⟨w.heap.size + 1, 0, none⟩ = some ((.slice xca xcn xcc)) := by rw [hW]; simp [go_sem]
  have c1_1 : W.cell? ⟨w.heap.size + 1, 1, none⟩ = some ((.slice xsa xsn xsc)) := by rw [hW]; simp [go_sem]
  have HSW : Hid (W.heap.size = w.heap.size + 2) := by unfold Hid; rw [hW]; simp
  go_enter Tryz.func31, Tryz.ntmps31
  go_wp2_with fail
  rw [← hW]
  have hse : w.heap.size + 1 + 1 = W.heap.size := by have := HSW.out; omega
  (try rw [hse])
  clear hse
  clear hW
  have hc : Below W.heap.size W W := Below.refl _ _
  have HCC : Hid (∀ u, Below W.heap.size W u → u.cell? ⟨w.heap.size, 0, none⟩ = some (.int .i64 gr.p) ∧ u.cell? ⟨w.heap.size, 1, none⟩ = some (.int .i64 gr.q) ∧ u.cell? ⟨w.heap.size, 2, none⟩ = some (.int .i64 gr.g) ∧ u.cell? ⟨w.heap.size + 1, 0, none⟩ = some ((.slice xca xcn xcc)) ∧ u.cell? ⟨w.heap.size + 1, 1, none⟩ = some ((.slice xsa xsn xsc))) := fun u h => ⟨box_at c0_0 h, box_at c0_1 h, box_at c0_2 h, box_at c1_0 h, box_at c1_1 h⟩
  cases hc1 : shG gr with
  | false =>
    have Hhc1 := Lib.hid hc1
    clear hc1
    try (go_wp2_with fail)
    refine wp_region_noPanic ?_
    refine wp_region_P (fun w' => w'.cell? ⟨w.heap.size, 0, none⟩ = some (.int .i64 gr.p) ∧ w'.cell? ⟨w.heap.size, 1, none⟩ = some (.int .i64 gr.q) ∧ w'.cell? ⟨w.heap.size, 2, none⟩ = some (.int .i64 gr.g) ∧ w'.cell? ⟨w.heap.size + 1, 0, none⟩ = some ((.slice xca xcn xcc)) ∧ w'.cell? ⟨w.heap.size + 1, 1, none⟩ = some ((.slice xsa xsn xsc))) 11 [(0, []), (1, [0]), (2, [0]), (3, [0]), (4, [1]), (5, [0, 2]), (6, [2, 0, 3]), (7, [4, 0]), (8, [0])] [] (by kernel_rfl) (by kernel_rfl) (by kernel_rfl) rfl (fun _ _ _ _ h => h) (fun w' h => ⟨box_at c0_0 h, box_at c0_1 h, box_at c0_2 h, box_at c1_0 h, box_at c1_1 h⟩) ?_
    simp only [pickP, pickN, List.getElem?_cons_zero, List.getElem?_cons_succ]
    -- 0: load 24 t2
    refine' chainP_read (d := (some 5)) _ rfl rfl (fun w' hS' => ?_) ?_; rotate_left
    · simp only [lookP, allP, Act.put, List.getElem?_cons_zero, List.getElem?_cons_succ, List.setIfInBounds_toArray, List.set_cons_zero, List.set_cons_succ]
      (try dsimp only at hS')
      go_simp
      (try with_reducible rfl)
    -- 1: call { callee := value (func 46), args := #[t5], argTypes := #[24] }
    refine chainP_call (d := (some 6)) (.bool false) rfl rfl (fun w' hS' => ?_) ?_
    · simp only [lookP, allP, Act.put, List.getElem?_cons_zero, List.getElem?_cons_succ, List.setIfInBounds_toArray, List.set_cons_zero, List.set_cons_succ]
      intro K hK
      go_simp
      go_at_call 46
      refine (spec_sGroup gr _).mono ?_
      rintro e u ⟨rfl, hq⟩
      rw [Hhc1.out]
      exact hK.out _ hq
    -- 2: move t6
    refine' chainP_read (d := (some 7)) _ rfl rfl (fun w' hS' => ?_) ?_; rotate_left
    · simp only [lookP, allP, Act.put, List.getElem?_cons_zero, List.getElem?_cons_succ, List.setIfInBounds_toArray, List.set_cons_zero, List.set_cons_succ]
      (try dsimp only at hS')
      go_simp
      (try with_reducible rfl)
    -- 3: load 24 t2
    refine chainP_skip (d := (some 8)) rfl (fun w' hS' => ?_) ?_
    · simp only [lookP, allP, Act.put, List.getElem?_cons_zero, List.getElem?_cons_succ, List.setIfInBounds_toArray, List.set_cons_zero, List.set_cons_succ]
      kernel_rfl
    -- 4: load 27 t3
    refine chainP_skip (d := (some 9)) rfl (fun w' hS' => ?_) ?_
    · simp only [lookP, allP, Act.put, List.getElem?_cons_zero, List.getElem?_cons_succ, List.setIfInBounds_toArray, List.set_cons_zero, List.set_cons_succ]
      kernel_rfl
    -- 5: call { callee := value (func 82), args := #[t9], argTypes := #[27] }
    refine chainP_skip (d := (some 10)) rfl (fun w' hS' => ?_) ?_
    · simp only [lookP, allP, Act.put, List.getElem?_cons_zero, List.getElem?_cons_succ, List.setIfInBounds_toArray, List.set_cons_zero, List.set_cons_succ]
      kernel_rfl
    -- 6: call { callee := value (func 81), args := #[t8, t10], argTypes := #[24, 61] }
    refine chainP_skip (d := (some 11)) rfl (fun w' hS' => ?_) ?_
    · simp only [lookP, allP, Act.put, List.getElem?_cons_zero, List.getElem?_cons_succ, List.setIfInBounds_toArray, List.set_cons_zero, List.set_cons_succ]
      kernel_rfl
    iterate 2 (refine' chainP_read _ rfl rfl (fun w' hS' => ?_) ?_; rotate_left; · (simp only [lookP, allP, Act.put, List.getElem?_cons_zero, List.getElem?_cons_succ, List.setIfInBounds_toArray, List.set_cons_zero, List.set_cons_succ]; (try dsimp only at hS'); go_simp; (try with_reducible rfl)))
    refine chainP_nil (fun u1 hS' => ?_)
    simp only [allP, Act.put, List.setIfInBounds_toArray, List.set_cons_zero, List.set_cons_succ]
    have hq1 := hS'.1
    clear hS'
    replace hc := Below.next hc hq1
    clear hq1 c0_0 c0_1 c0_2 c1_0 c1_1
    obtain ⟨c0_0, c0_1, c0_2, c1_0, c1_1⟩ := HCC.out _ hc
    go_wp2_with fail
    refine NoPanic.normal ?_
    go_wp2_with fail
    have HV : Hid ((.bool (vdB gr d) : Value) = .bool false) := by unfold Hid; simp [vdB, Hhc1.out]
    go_ret
    exact ⟨congrArg Ending.returned HV.out.symm, HB.out.trans (hc.mono HB.out.size)⟩
  | true =>
    have Hhc1 := Lib.hid hc1
    clear hc1
    try (go_wp2_with fail)
    refine wp_region_noPanic ?_
    refine wp_region_P (fun w' => w'.cell? ⟨w.heap.size, 0, none⟩ = some (.int .i64 gr.p) ∧ w'.cell? ⟨w.heap.size, 1, none⟩ = some (.int .i64 gr.q) ∧ w'.cell? ⟨w.heap.size, 2, none⟩ = some (.int .i64 gr.g) ∧ w'.cell? ⟨w.heap.size + 1, 0, none⟩ = some ((.slice xca xcn xcc)) ∧ w'.cell? ⟨w.heap.size + 1, 1, none⟩ = some ((.slice xsa xsn xsc))) 11 [(0, []), (1, [0]), (2, [0]), (3, [0]), (4, [1]), (5, [0, 2]), (6, [2, 0, 3]), (7, [4, 0]), (8, [0])] [] (by kernel_rfl) (by kernel_rfl) (by kernel_rfl) rfl (fun _ _ _ _ h => h) (fun w' h => ⟨box_at c0_0 h, box_at c0_1 h, box_at c0_2 h, box_at c1_0 h, box_at c1_1 h⟩) ?_
    simp only [pickP, pickN, List.getElem?_cons_zero, List.getElem?_cons_succ]
    -- 0: load 24 t2
    refine' chainP_read (d := (some 5)) _ rfl rfl (fun w' hS' => ?_) ?_; rotate_left
    · simp only [lookP, allP, Act.put, List.getElem?_cons_zero, List.getElem?_cons_succ, List.setIfInBounds_toArray, List.set_cons_zero, List.set_cons_succ]
      (try dsimp only at hS')
      go_simp
      (try with_reducible rfl)
    -- 1: call { callee := value (func 46), args := #[t5], argTypes := #[24] }
    refine chainP_call (d := (some 6)) (.bool true) rfl rfl (fun w' hS' => ?_) ?_
    · simp only [lookP, allP, Act.put, List.getElem?_cons_zero, List.getElem?_cons_succ, List.setIfInBounds_toArray, List.set_cons_zero, List.set_cons_succ]
      intro K hK
      go_simp
      go_at_call 46
      refine (spec_sGroup gr _).mono ?_
      rintro e u ⟨rfl, hq⟩
      rw [Hhc1.out]
      exact hK.out _ hq
    -- 2: move t6
    refine' chainP_read (d := (some 7)) _ rfl rfl (fun w' hS' => ?_) ?_; rotate_left
    · simp only [lookP, allP, Act.put, List.getElem?_cons_zero, List.getElem?_cons_succ, List.setIfInBounds_toArray, List.set_cons_zero, List.set_cons_succ]
      (try dsimp only at hS')
      go_simp
      (try with_reducible rfl)
    -- 3: load 24 t2
    refine' chainP_readG (d := (some 8)) _ rfl (fun w' hS' => ?_) ?_; rotate_left
    · simp only [lookP, allP, Act.put, List.getElem?_cons_zero, List.getElem?_cons_succ, List.setIfInBounds_toArray, List.set_cons_zero, List.set_cons_succ]
      refine ⟨by kernel_rfl, ?_⟩
      (try dsimp only at hS')
      go_simp
      (try with_reducible rfl)
    -- 4: load 27 t3
    refine' chainP_readG (d := (some 9)) _ rfl (fun w' hS' => ?_) ?_; rotate_left
    · simp only [lookP, allP, Act.put, List.getElem?_cons_zero, List.getElem?_cons_succ, List.setIfInBounds_toArray, List.set_cons_zero, List.set_cons_succ]
      refine ⟨by kernel_rfl, ?_⟩
      (try dsimp only at hS')
      go_simp
      (try with_reducible rfl)
    -- 5: call { callee := value (func 82), args := #[t9], argTypes := #[27] }
    refine chainP_callG (d := (some 10)) (.agg #[(.slice xca xcn xcc), (.slice xsa xsn xsc)]) rfl (fun w' hS' => ?_) ?_
    · simp only [lookP, allP, Act.put, List.getElem?_cons_zero, List.getElem?_cons_succ, List.setIfInBounds_toArray, List.set_cons_zero, List.set_cons_succ]
      refine ⟨by kernel_rfl, ?_⟩
      intro K hK
      go_simp
      go_at_call 82
      refine (spec_rKey _ d _ (DlR.mk ((Hxc.out.below (HB.out.trans (hc.mono HB.out.size))).below hS'.1) ((Hxs.out.below (HB.out.trans (hc.mono HB.out.size))).below hS'.1))).mono ?_
      rintro e u ⟨rfl, hq⟩
      exact hK.out _ hq
    -- 6: call { callee := value (func 81), args := #[t8, t10], argTypes := #[24, 61] }
    refine chainP_callG (d := (some 11)) (.bool (deB gr d)) rfl (fun w' hS' => ?_) ?_
    · simp only [lookP, allP, Act.put, List.getElem?_cons_zero, List.getElem?_cons_succ, List.setIfInBounds_toArray, List.set_cons_zero, List.set_cons_succ]
      refine ⟨by kernel_rfl, ?_⟩
      intro K hK
      go_simp
      go_at_call 81
      refine (spec_sDealing gr _ d _ (shG_ok Hhc1.out) (DlR.mk ((Hxc.out.below (HB.out.trans (hc.mono HB.out.size))).below hS'.1) ((Hxs.out.below (HB.out.trans (hc.mono HB.out.size))).below hS'.1))).mono ?_
      rintro e u ⟨rfl, hq⟩
      exact hK.out _ hq
    iterate 2 (refine' chainP_read _ rfl rfl (fun w' hS' => ?_) ?_; rotate_left; · (simp only [lookP, allP, Act.put, List.getElem?_cons_zero, List.getElem?_cons_succ, List.setIfInBounds_toArray, List.set_cons_zero, List.set_cons_succ]; (try dsimp only at hS'); go_simp; (try with_reducible rfl)))
    refine chainP_nil (fun u1 hS' => ?_)
    simp only [allP, Act.put, List.setIfInBounds_toArray, List.set_cons_zero, List.set_cons_succ]
    have hq1 := hS'.1
    clear hS'
    replace hc := Below.next hc hq1
    clear hq1 c0_0 c0_1 c0_2 c1_0 c1_1
    obtain ⟨c0_0, c0_1, c0_2, c1_0, c1_1⟩ := HCC.out _ hc
    go_wp2_with fail
    refine NoPanic.normal ?_
    cases hc2 : deB gr d with
    | false =>
      have Hhc2 := Lib.hid hc2
      clear hc2
      go_wp2_with fail
      have HV : Hid ((.bool (vdB gr d) : Value) = .bool false) := by unfold Hid; simp [vdB, Hhc1.out, Hhc2.out]
      go_ret
      exact ⟨congrArg Ending.returned HV.out.symm, HB.out.trans (hc.mono HB.out.size)⟩
    | true =>
      have Hhc2 := Lib.hid hc2
      clear hc2
      go_wp2_with fail
      have HV : Hid ((.bool (vdB gr d) : Value) = .bool true) := by unfold Hid; simp [vdB, Hhc1.out, Hhc2.out]
      go_ret
      exact ⟨congrArg Ending.returned HV.out.symm, HB.out.trans (hc.mono HB.out.size)⟩
end Go.Proofs.YtacpnphfopmofaaGreat
