/- Products of polynomials: walks (impl.mulPolys). -/
import Derived.Test.YtacpnphfopmofaaPolLKG
import Derived.Test.YtacpnphfopmofaaSh2KG
import Derived.Test.YtacpnphfopmofaaRowIKG
import Derived.Deep.QuietTactic
import Derived.BigQuiet
import Derived.Test.YtacpnphfopmofaaDrG0KG
import Derived.Test.YtacpnphfopmofaaSh3KG
import Derived.Test.YtacpnphfopmofaaFrKG
namespace Go.Proofs.Ytacpnphfopmofaa
open Go.RowKit
set_option linter.unusedSimpArgs false
set_option linter.unusedVariables false

theorem evI_append (a b : List Int) (x : Int) : evI (a ++ b) x = evI a x + evI b x * x ^ a.length := by
  induction a with
  | nil => simp [evI]
  | cons c a ih => rw [List.cons_append, evI_cons, evI_cons, ih, List.length_cons, Int.pow_succ]; grind
theorem evI_one (a x : Int) : evI [a] x = a := by simp [evI]
theorem evI_take_succ {l : List Int} {k : Nat} (hk : k < l.length) (x : Int) : evI (l.take (k + 1)) x = evI (l.take k) x + nth l k * x ^ k := by
  rw [List.take_succ_eq_append_getElem hk, evI_append, evI_one, List.length_take, Nat.min_eq_left (by omega), nthE hk]
theorem evI_set {l : List Int} {k : Nat} (hk : k < l.length) (v x : Int) : evI (l.set k v) x = evI l x + (v - nth l k) * x ^ k := by
  have h1 : l.set k v = l.take k ++ ([v] ++ l.drop (k + 1)) := by
    rw [List.set_eq_take_append_cons_drop, if_pos hk]; rfl
  have h2 : l = l.take k ++ ([l[k]] ++ l.drop (k + 1)) := by
    simp
  have hl : (l.take k).length = k := by rw [List.length_take]; omega
  rw [h1, evI_append, evI_append, hl, evI_one]
  conv => rhs; lhs; rw [h2, evI_append, evI_append, hl, evI_one]
  rw [nthE hk]
  simp only [List.length_singleton]
  grind
theorem evI_zeros (n : Nat) (x : Int) : evI (List.replicate n 0) x = 0 := by
  induction n with
  | zero => rfl
  | succ n ih => rw [List.replicate_succ, evI_cons, ih]; simp
/-- residues -/
def ResL (q : Int) (l : List Int) : Prop := ∀ y ∈ l, 0 ≤ y ∧ y < q
theorem ResL.at_ {q : Int} {l : List Int} (h : ResL q l) {k : Nat} (hk : k < l.length) : 0 ≤ nth l k ∧ nth l k < q := by rw [nthE hk]; exact h _ (List.getElem_mem hk)
theorem ResL.set {q : Int} {l : List Int} (h : ResL q l) (k : Nat) {v : Int} (hv : 0 ≤ v ∧ v < q) : ResL q (l.set k v) := fun y hy => by
  rcases List.mem_or_eq_of_mem_set hy with h1 | rfl
  · exact h y h1
  · exact hv
/-- what the product holds when i rows and k cells of the next are done -/
structure MulS (q : Int) (f g o : List Int) (i k : Nat) : Prop where
  len : o.length = f.length + g.length - 1
  res : ResL q o
  ev : ∀ x, evI o x % q = (evI (f.take i) x * evI g x + nth f i * x ^ i * evI (g.take k) x) % q
theorem MulS.step {q : Int} {f g o : List Int} {i k : Nat} (h : MulS q f g o i k) (hq : 0 < q) (hi : i < f.length) (hk : k < g.length) :
    MulS q f g (o.set (i + k) ((nth o (i + k) + nth f i * nth g k) % q)) i (k + 1) := by
  have hl : i + k < o.length := by rw [h.len]; omega
  refine ⟨by rw [List.length_set]; exact h.len, h.res.set _ ⟨Int.emod_nonneg _ (by omega), Int.emod_lt_of_pos _ hq⟩, fun x => ?_⟩
  rw [evI_set hl, evI_take_succ hk]
  have hx := h.ev x
  have e1 := Int.mul_ediv_add_emod (evI o x) q
  have e2 := Int.mul_ediv_add_emod (nth o (i + k) + nth f i * nth g k) q
  rw [Int.emod_eq_emod_iff_emod_sub_eq_zero] at hx ⊢
  obtain ⟨c, hc⟩ := Int.dvd_of_emod_eq_zero hx
  apply Int.emod_eq_zero_of_dvd
  refine ⟨c - (nth o (i + k) + nth f i * nth g k) / q * x ^ (i + k), ?_⟩
  have e3 : (nth o (i + k) + nth f i * nth g k) % q = nth o (i + k) + nth f i * nth g k - q * ((nth o (i + k) + nth f i * nth g k) / q) := by omega
  rw [e3, Int.pow_add]
  grind
theorem MulS.row {q : Int} {f g o : List Int} {i : Nat} (h : MulS q f g o i g.length) (hi : i < f.length) : MulS q f g o (i + 1) 0 := by
  refine ⟨h.len, h.res, fun x => ?_⟩
  rw [h.ev x, List.take_length, evI_take_succ hi]
  congr 1
  simp only [List.take_zero]
  rw [show evI [] x = 0 from rfl]
  grind
theorem MulS.start {q : Int} {f g : List Int} (hq : 0 < q) : MulS q f g (List.replicate (f.length + g.length - 1) 0) 0 0 := by
  refine ⟨by simp, fun y hy => by rw [List.eq_of_mem_replicate hy]; omega, fun x => ?_⟩
  rw [evI_zeros]; simp only [List.take_zero]; rw [show evI [] x = 0 from rfl]; simp
end Go.Proofs.Ytacpnphfopmofaa
namespace Go.Proofs.Ytacpnphfopmofaa
open Go.RowKit
set_option linter.unusedSimpArgs false
set_option linter.unusedVariables false

theorem shG_gen {gr : GroupD} (hG : shG gr = true) : elB gr gr.g = true := elT_gen (by unfold shG at hG; rw [Bool.and_eq_true] at hG; exact hG.2)
end Go.Proofs.Ytacpnphfopmofaa
namespace Go.Proofs.Ytacpnphfopmofaa
open Go.RowKit
set_option linter.unusedSimpArgs false
set_option linter.unusedVariables false

/-- the answers to the first complaints are right -/
def fitN (gr : GroupD) (c bad own : List Int) : Nat → Bool
  | 0 => true
  | k + 1 => fitN gr c bad own k && shrB gr c (nth bad k) (nth own k)
/-- a dealer is qualified -/
def qdB (gr : GroupD) (d : DealingD) (own : List Int) : Bool := (!decide (d.c.length ≤ (badE gr d).length) && decide (own.length = (badE gr d).length)) && fitN gr d.c (badE gr d) own (badE gr d).length
/-- shares with the first answers in their places -/
def mnN (s bad own : List Int) : Nat → List Int
  | 0 => s
  | k + 1 => (mnN s bad own k).set (nth bad k - 1).toNat (nth own k)
def mnD (gr : GroupD) (d : DealingD) (own : List Int) : DealingD := ⟨d.c, mnN d.s (badE gr d) own (badE gr d).length⟩
def atR (an : List (List Int)) (k : Nat) : List Int := an.getD k []
def kqL (gr : GroupD) (l : List DealingD) (an : List (List Int)) : Nat → List Int
  | 0 => []
  | k + 1 => if qdB gr (atD l k) (atR an k) = true then kqL gr l an k ++ [(k : Int) + 1] else kqL gr l an k
def kmL (gr : GroupD) (l : List DealingD) (an : List (List Int)) : Nat → List DealingD
  | 0 => []
  | k + 1 => if qdB gr (atD l k) (atR an k) = true then kmL gr l an k ++ [mnD gr (atD l k) (atR an k)] else kmL gr l an k
def kqE (gr : GroupD) (l : List DealingD) (an : List (List Int)) : List Int := kqL gr l an l.length
def kmE (gr : GroupD) (l : List DealingD) (an : List (List Int)) : List DealingD := kmL gr l an l.length
noncomputable def kiB (gr : GroupD) (l : List DealingD) : Bool := shG gr && (alB gr l && decide ((hdD l).s.length = l.length))
def anB (gr : GroupD) (an : List (List Int)) : Bool := an.all fun own => decide ((own.length : Int) ≤ 7) && own.all (expB gr)
noncomputable def kaB (gr : GroupD) (l : List DealingD) (an : List (List Int)) : Bool := kiB gr l && (decide (an.length = l.length) && anB gr an)
noncomputable def kaR (gr : GroupD) (l : List DealingD) (an : List (List Int)) : List Int := if kaB gr l an = true then kqE gr l an else []
noncomputable def cbB (gr : GroupD) (l : List DealingD) (an : List (List Int)) : Bool := kaB gr l an && !decide (kqE gr l an = [])
def cbD (gr : GroupD) (l : List DealingD) (an : List (List Int)) : DealingD := smD gr (kmE gr l an)
theorem kml_kql (gr : GroupD) (l : List DealingD) (an : List (List Int)) (k : Nat) : (kmL gr l an k).length = (kqL gr l an k).length := by
  induction k with
  | zero => rfl
  | succ k ih => unfold kmL kqL; split <;> simp [ih]
theorem kql_len (gr : GroupD) (l : List DealingD) (an : List (List Int)) (k : Nat) : (kqL gr l an k).length ≤ k := by
  induction k with
  | zero => exact Nat.le_refl _
  | succ k ih =>
    unfold kqL; split
    · rw [List.length_append, List.length_singleton]; omega
    · omega
theorem kql_mem {gr : GroupD} {l : List DealingD} {an : List (List Int)} {y : Int} : ∀ k, y ∈ kqL gr l an k → ∃ j : Nat, j < k ∧ y = (j : Int) + 1 ∧ qdB gr (atD l j) (atR an j) = true := by
  intro k
  induction k with
  | zero => intro h; simp [kqL] at h
  | succ k ih =>
    intro h
    unfold kqL at h
    split at h
    · rename_i hq
      rcases List.mem_append.1 h with h1 | h1
      · obtain ⟨j, h2, h3⟩ := ih h1; exact ⟨j, by omega, h3⟩
      · rw [List.mem_singleton] at h1; exact ⟨k, by omega, h1, hq⟩
    · obtain ⟨j, h2, h3⟩ := ih h; exact ⟨j, by omega, h3⟩
/-- the mended dealings, dealer by dealer -/
theorem kml_map (gr : GroupD) (l : List DealingD) (an : List (List Int)) (k : Nat) : kmL gr l an k = (kqL gr l an k).map fun y => mnD gr (atD l (y - 1).toNat) (atR an (y - 1).toNat) := by
  induction k with
  | zero => rfl
  | succ k ih =>
    unfold kmL kqL
    split
    · rw [List.map_append, ← ih]
      have : ((k : Int) + 1 - 1).toNat = k := by omega
      simp [this]
    · exact ih
theorem kml_mem {gr : GroupD} {l : List DealingD} {an : List (List Int)} {d : DealingD} {k : Nat} (h : d ∈ kmL gr l an k) : ∃ j : Nat, j < k ∧ d = mnD gr (atD l j) (atR an j) ∧ qdB gr (atD l j) (atR an j) = true := by
  rw [kml_map] at h
  obtain ⟨y, hy, rfl⟩ := List.mem_map.1 h
  obtain ⟨j, h1, rfl, h2⟩ := kql_mem _ hy
  refine ⟨j, h1, ?_, h2⟩
  rw [show ((j : Int) + 1 - 1).toNat = j by omega]
theorem mnN_len (s bad own : List Int) (k : Nat) : (mnN s bad own k).length = s.length := by
  induction k with
  | zero => rfl
  | succ k ih => unfold mnN; rw [List.length_set, ih]
theorem mnN_mem {P : Int → Prop} {s bad own : List Int} (hs : ∀ x ∈ s, P x) (ho : ∀ x ∈ own, P x) : ∀ k, k ≤ own.length → ∀ x ∈ mnN s bad own k, P x := by
  intro k
  induction k with
  | zero => exact fun _ => hs
  | succ k ih =>
    intro hk x hx
    unfold mnN at hx
    rcases List.mem_or_eq_of_mem_set hx with h | rfl
    · exact ih (by omega) x h
    · exact ho _ (nth_mem' (by omega))
theorem bdL_mem {gr : GroupD} {d : DealingD} {y : Int} : ∀ k, y ∈ bdL gr d k → 1 ≤ y ∧ y ≤ k := by
  intro k
  induction k with
  | zero => intro h; simp [bdL] at h
  | succ k ih =>
    intro h
    unfold bdL at h
    split at h
    · have := ih h; omega
    · rcases List.mem_append.1 h with h1 | h1
      · have := ih h1; omega
      · rw [List.mem_singleton] at h1; omega
theorem bdL_has {gr : GroupD} {d : DealingD} {j : Nat} (h : shrB gr d.c ((j : Int) + 1) (nth d.s j) = false) : ∀ k, j < k → ((j : Int) + 1) ∈ bdL gr d k := by
  intro k
  induction k with
  | zero => intro h; omega
  | succ k ih =>
    intro hk
    unfold bdL
    by_cases e : j = k
    · subst e
      rw [if_neg (by rw [h]; simp)]; simp
    · split
      · exact ih (by omega)
      · exact List.mem_append.2 (.inl (ih (by omega)))
theorem fitN_at {gr : GroupD} {c bad own : List Int} : ∀ k, fitN gr c bad own k = true → ∀ j, j < k → shrB gr c (nth bad j) (nth own j) = true := by
  intro k
  induction k with
  | zero => intro _ j hj; omega
  | succ k ih =>
    intro h j hj
    unfold fitN at h
    rw [Bool.and_eq_true] at h
    by_cases e : j = k
    · subst e; exact h.2
    · exact ih h.1 j (by omega)
theorem fitN_no {gr : GroupD} {c bad own : List Int} {j : Nat} (h : shrB gr c (nth bad j) (nth own j) = false) : ∀ k, j < k → fitN gr c bad own k = false := by
  intro k
  induction k with
  | zero => intro h; omega
  | succ k ih =>
    intro hk
    unfold fitN
    by_cases e : j = k
    · subst e; rw [h, Bool.and_false]
    · rw [ih (by omega), Bool.false_and]
theorem nth_set_same {l : List Int} {k : Nat} {v : Int} (h : k < l.length) : nth (l.set k v) k = v := by simp [nth, List.getD, h]
theorem nth_set_ne {l : List Int} {k j : Nat} {v : Int} (h : k ≠ j) : nth (l.set k v) j = nth l j := by simp [nth, List.getD, List.getElem?_set_ne h]
/-- a mended dealing has no wrong share -/
theorem mend_bad {gr : GroupD} {d : DealingD} {own : List Int} (h : qdB gr d own = true) : badE gr (mnD gr d own) = [] := by
  unfold qdB at h
  simp only [Bool.and_eq_true, decide_eq_true_iff] at h
  obtain ⟨⟨_, ho⟩, hf⟩ := h
  have key : ∀ m, m ≤ (badE gr d).length → ∀ j, j < d.s.length → shrB gr d.c ((j : Int) + 1) (nth (mnN d.s (badE gr d) own m) j) = true ∨ ((j : Int) + 1) ∈ (badE gr d).drop m := by
    intro m
    induction m with
    | zero =>
      intro _ j hj
      rw [List.drop_zero]
      cases e : shrB gr d.c ((j : Int) + 1) (nth d.s j) with
      | true => exact .inl (by show shrB gr d.c _ (nth d.s j) = true; exact e)
      | false => exact .inr (bdL_has e _ hj)
    | succ m ih =>
      intro hm j hj
      have hb := bdL_mem _ (show nth (badE gr d) m ∈ bdL gr d d.s.length from nth_mem' (by show m < (badE gr d).length; omega))
      by_cases e : (nth (badE gr d) m - 1).toNat = j
      · left
        unfold mnN
        rw [e, nth_set_same (by rw [mnN_len]; exact hj)]
        have := fitN_at _ hf m (by omega)
        rwa [show nth (badE gr d) m = (j : Int) + 1 by omega] at this
      · unfold mnN
        rw [nth_set_ne e]
        rcases ih (by omega) j hj with h1 | h1
        · exact .inl h1
        · right
          rw [List.drop_eq_getElem_cons (by omega)] at h1
          rcases List.mem_cons.1 h1 with h2 | h2
          · exfalso; rw [← nthE (by omega)] at h2; omega
          · exact h2
  unfold badE
  rw [bad_nil]
  intro k hk
  rw [show (mnD gr d own).s.length = d.s.length from mnN_len ..] at hk
  rcases key _ (Nat.le_refl _) k hk with h1 | h1
  · exact h1
  · rw [List.drop_length] at h1; simp at h1
theorem kaB_parts {gr : GroupD} {l : List DealingD} {an : List (List Int)} (h : kaB gr l an = true) : shG gr = true ∧ alB gr l = true ∧ (hdD l).s.length = l.length ∧ an.length = l.length ∧ anB gr an = true := by
  unfold kaB kiB at h
  simp only [Bool.and_eq_true, decide_eq_true_iff] at h
  exact ⟨h.1.1, h.1.2.1, h.1.2.2, h.2.1, h.2.2⟩
theorem atR_mem {an : List (List Int)} {k : Nat} (h : k < an.length) : atR an k ∈ an := by
  have e : atR an k = an[k] := by simp [atR, List.getD, h]
  rw [e]; exact List.getElem_mem h
theorem atD_mem {l : List DealingD} {k : Nat} (h : k < l.length) : atD l k ∈ l := by rw [atD_eq h]; exact List.getElem_mem h
theorem mend_same {gr : GroupD} {f d : DealingD} {own : List Int} (hs : SameD gr f d) (ho : own.all (expB gr) = true) (hq : qdB gr d own = true) : SameD gr f (mnD gr d own) := by
  unfold qdB at hq
  simp only [Bool.and_eq_true, decide_eq_true_iff] at hq
  exact ⟨hs.lc, by rw [show (mnD gr d own).s.length = d.s.length from mnN_len ..]; exact hs.ls, hs.ec, mnN_mem (P := fun x => expB gr x = true) hs.es (fun x hx => List.all_eq_true.1 ho x hx) _ (by omega)⟩
/-- the mended dealings can be summed -/
theorem km_al {gr : GroupD} {l : List DealingD} {an : List (List Int)} (h : kaB gr l an = true) (k : Nat) (hk : k ≤ l.length) (hne : kqL gr l an k ≠ []) : alB gr (kmL gr l an k) = true ∧ ∀ d ∈ kmL gr l an k, SameD gr (hdD (kmL gr l an k)) d ∧ badE gr d = [] ∧ deB gr d = true := by
  obtain ⟨hG, ha, hh, hal, han⟩ := kaB_parts h
  obtain ⟨⟨n1, n2⟩, hd⟩ := alB_parts ha
  have hlen : 0 < (kmL gr l an k).length := by
    rw [kml_kql]; exact List.length_pos_iff.2 hne
  have hle : (kmL gr l an k).length ≤ 7 := by
    rw [kml_kql]; have := kql_len gr l an k; omega
  have one : ∀ d ∈ kmL gr l an k, SameD gr (hdD l) d ∧ badE gr d = [] := fun d hdm => by
    obtain ⟨j, h1, rfl, h2⟩ := kml_mem hdm
    have hj : j < l.length := by omega
    have ho := List.all_eq_true.1 han _ (atR_mem (an := an) (k := j) (by omega))
    rw [Bool.and_eq_true] at ho
    exact ⟨mend_same (hd _ (atD_mem hj)).2 ho.2 h2, mend_bad h2⟩
  have hhd : SameD gr (hdD l) (hdD (kmL gr l an k)) := (one _ (hdD_mem hlen)).1
  have hde : deB gr (hdD l) = true := (hd _ (hdD_mem (by omega))).1
  have all : ∀ d ∈ kmL gr l an k, SameD gr (hdD (kmL gr l an k)) d ∧ badE gr d = [] ∧ deB gr d = true := fun d hdm => by
    obtain ⟨s1, s2⟩ := one d hdm
    exact ⟨⟨by rw [s1.lc, hhd.lc], by rw [s1.ls, hhd.ls], s1.ec, s1.es⟩, s2, deB_same hde s1⟩
  refine ⟨?_, all⟩
  unfold alB
  rw [decide_eq_true (by omega), Bool.true_and, List.all_eq_true]
  intro d hdm
  obtain ⟨s1, _, s2⟩ := all d hdm
  rw [s2, Bool.true_and]
  unfold smB
  rw [decide_eq_true s1.lc, decide_eq_true s1.ls]; rfl
theorem cbB_parts {gr : GroupD} {l : List DealingD} {an : List (List Int)} (h : cbB gr l an = true) : kaB gr l an = true ∧ kqE gr l an ≠ [] := by
  unfold cbB at h
  rw [Bool.and_eq_true, Bool.not_eq_true', decide_eq_false_iff_not] at h
  exact h
/-- the outcome of a key generation -/
theorem kg_right {gr : GroupD} {l : List DealingD} {an : List (List Int)} (h : cbB gr l an = true) :
    vdB gr (cbD gr l an) = true ∧ bsR gr (cbD gr l an) = [] ∧ caB' gr (cbD gr l an).c 1 = true ∧ exB gr gr.g (nth (cbD gr l an).s 0) = true ∧ caR' gr (cbD gr l an).c 1 = exR gr gr.g (nth (cbD gr l an).s 0) ∧ 0 < (cbD gr l an).s.length ∧ 0 < (cbD gr l an).c.length := by
  obtain ⟨hka, hne⟩ := cbB_parts h
  obtain ⟨hG, ha, hh, hal, han⟩ := kaB_parts hka
  obtain ⟨m1, m2⟩ := km_al hka l.length (Nat.le_refl _) hne
  obtain ⟨⟨n1, n2⟩, hd⟩ := alB_parts m1
  obtain ⟨s1, s2⟩ := smF_bad hG (fun d hd' => (m2 d hd').1) (fun d hd' => (m2 d hd').2.1) ((kmL gr l an l.length).length - 1) (by omega)
  have hs1 : SameD gr (hdD (kmE gr l an)) (cbD gr l an) := s1
  have hs2 : badE gr (cbD gr l an) = [] := s2
  have hde := deB_same (m2 _ (hdD_mem (by omega))).2.2 hs1
  obtain ⟨p1, p2, p3⟩ := deB_parts hde
  have hv : vdB gr (cbD gr l an) = true := by unfold vdB; rw [hG, hde]; rfl
  have hgood : goodG gr = true := by unfold shG at hG; rw [Bool.and_eq_true] at hG; exact hG.2
  have hcm : cmsB gr (cbD gr l an).c = true := by unfold deB at hde; rw [Bool.and_eq_true] at hde; exact hde.1
  have hca : caB' gr (cbD gr l an).c 1 = true := by unfold caB'; rw [hG, hcm]; rfl
  have hex : exB gr gr.g (nth (cbD gr l an).s 0) = true := by
    unfold exB; rw [hgood, shG_gen hG, List.all_eq_true.1 p3 _ (nth_mem' (by omega))]; rfl
  refine ⟨hv, by unfold bsR; rw [if_pos hv]; exact hs2, hca, hex, ?_, by omega, by omega⟩
  unfold caR' exR
  rw [if_pos hca, if_pos hex]
  unfold badE at hs2
  rw [bad_nil] at hs2
  have := hs2 0 (by omega)
  unfold shrB at this
  rw [beq_iff_eq] at this
  exact this.symm
end Go.Proofs.Ytacpnphfopmofaa
namespace Go.Proofs.Ytacpnphfopmofaa
open Go.RowKit
set_option linter.unusedSimpArgs false
set_option linter.unusedVariables false
set_option maxRecDepth 100000 in
set_option maxHeartbeats 2000000 in
theorem spec_sBad (gr : GroupD) (pv : Value) (d : DealingD) (w : World) (hg : OkG gr) (hp : DlR w pv d) (hel : AllSmall d.c) (hd : d.c.length ≤ 1000 ∧ d.s.length ≤ 7) :
    Calls Try.prog 202 #[.agg #[.int .i64 gr.p, .int .i64 gr.q, .int .i64 gr.g], pv] w fun e w' => (∃ v', e = .returned v' ∧ OwnI w' w.heap.size v' (badE gr d)) ∧ Below w.heap.size w w' := by
  have HG := Lib.hid hg
  have HD := Lib.hid hd
  have HEL := Lib.hid hel
  clear hg hd hel
  obtain ⟨xcv, xsv, rfl, hxc, hxs⟩ := hp
  obtain ⟨xca, xcn, xcc, rfl⟩ := hxc.shape
  have Exc := Lib.hid hxc.len
  have Kxc := Lib.hid hxc.capMax
  have Hxc := Lib.hid hxc
  clear hxc
  obtain ⟨xsa, xsn, xsc, rfl⟩ := hxs.shape
  have Exs := Lib.hid hxs.len
  have Kxs := Lib.hid hxs.capMax
  have Hxs := Lib.hid hxs
  clear hxs
  obtain ⟨W, hW⟩ : ∃ W, W = (w.alloc (.cells #[.int .i64 gr.p, .int .i64 gr.q, .int .i64 gr.g] 24)).alloc (.cells #[.slice xca xcn xcc, .slice xsa xsn xsc] 57) := ⟨_, rfl⟩
  have HB : Hid (Below w.heap.size w W) := by unfold Hid; rw [hW]; (repeat (first | exact Below.refl _ _ | assumption | refine Below.drew ?_ | refine Below.alloc ?_ (by first | (simp; done) | (simp; omega)) _ | refine Below.setCell ?_ (by first | (simp; done) | (simp; omega)) _))
  have HBG : Hid (BoxN W w.heap.size 24 [.int .i64 gr.p, .int .i64 gr.q, .int .i64 gr.g]) := by unfold Hid; rw [hW]; have h := (BoxN.new w [.int .i64 gr.p, .int .i64 gr.q, .int .i64 gr.g] 24).alloc (.cells #[.slice xca xcn xcc, .slice xsa xsn xsc] 57); simpa using h
  have HBD : Hid (BoxN W (w.heap.size + 1) 57 [.slice xca xcn xcc, .slice xsa xsn xsc]) := by unfold Hid; rw [hW]; have h := BoxN.new (w.alloc (.cells #[.int .i64 gr.p, .int .i64 gr.q, .int .i64 gr.g] 24)) [.slice xca xcn xcc, .slice xsa xsn xsc] 57; simpa using h
  have HSW : w.heap.size ≤ W.heap.size := HB.out.size
  have HW2 : Hid (W.heap.size = w.heap.size + 1 + 1) := by unfold Hid; rw [hW]; simp
  have d0 := HBD.out.cell (i := 0) rfl
  have d1 := HBD.out.cell (i := 1) rfl
  go_enter Try.func202, Try.ntmps202
  go_wp2_with fail
  rw [← hW]
  clear hW d0 d1
  have HO0 : Hid (OwnI W W.heap.size (.slice none 0 0) []) := OwnI.nil _ _
  have hbV : Below W.heap.size W W := Below.refl _ _
  have d1 := HBD.out.cell (i := 1) rfl
  have d0 := HBD.out.cell (i := 0) rfl
  (try (go_wp2_with fail))
  clear d0 d1
  go_loopg [5, 11] xsn (fun gk ov iv wr => ∃ k : Nat, k + gk = xsn ∧ iv = .int .i64 (k : Int) ∧ OwnI wr W.heap.size ov (bdL gr d k) ∧ Below W.heap.size W wr)
  case atStart => exact ⟨0, by omega, rfl, HO0.out, hbV⟩
  case round =>
    obtain ⟨k, hkg, rfl, hO, hbr⟩ := hrel
    have HKG := Lib.hid hkg
    have HBR := Lib.hid hbr
    have hgl : k < xsn → xsn - (k + 1) < gk := by omega
    have hsr := hbr.size
    have HLB := Lib.hid (bdL_len gr d k)
    obtain ⟨LB, hLB⟩ : ∃ l, bdL gr d k = l := ⟨_, rfl⟩
    rw [hLB] at hO HLB
    have HLe := Lib.hid hLB
    obtain ⟨ao, co, rfl⟩ := hO.shape
    have HO := Lib.hid hO
    clear hkg hbr hO hLB
    have hN7 : xsn ≤ 7 := by have := HD.out; have := Exs.out; omega
    by_cases hlt : k < xsn
    · obtain ⟨b, o, e, hcx⟩ := Hxs.out.at_ (by have := Exs.out; omega)
      cases e
      have yk := box_at (box_at (hcx k hlt) HB.out) HBR.out
      clear hcx
      have HXI : Hid (I64 (nth d.s k)) := nth_64 Hxs.out k
      obtain ⟨x, hx⟩ : ∃ z, nth d.s k = z := ⟨_, rfl⟩
      rw [hx] at yk HXI
      have HXe := Lib.hid hx
      clear hx
      have kk0 : (0 : Int) ≤ (k : Int) := by omega
      have kk1 : (k : Int) < (xsn : Int) := by omega
      have hwk : IntKind.i64.wrap ((k : Int) + 1) = (k : Int) + 1 := IntWalk.i64_in _ (by omega)
      have HKI : Hid (0 ≤ (k : Int) + 1 ∧ (k : Int) + 1 ≤ 1000) := ⟨by omega, by omega⟩
      have c0 := (HBG.out.below HBR.out).cell (i := 0) rfl
      have c1 := (HBG.out.below HBR.out).cell (i := 1) rfl
      have c2 := (HBG.out.below HBR.out).cell (i := 2) rfl
      have d0 := (HBD.out.below HBR.out).cell (i := 0) rfl
      have d1 := (HBD.out.below HBR.out).cell (i := 1) rfl
      go_wp2_with fail
      refine (spec_sFits gr _ d.c ((k : Int) + 1) x _ HG.out ((Hxc.out.below HB.out).below HBR.out) HEL.out (by have := HD.out; omega) HKI.out HXI.out).mono ?_
      rintro e w1 ⟨rfl, hb1⟩
      have hs1 := hb1.size
      have HO1 := Lib.hid (HO.out.below hb1)
      have HB1 := Lib.hid (HBR.out.trans (hb1.mono HBR.out.size))
      clear hb1 c0 c1 c2 d0 d1 yk
      obtain ⟨q, hq⟩ : ∃ q, shrB gr d.c ((k : Int) + 1) x = q := ⟨_, rfl⟩
      have HQ := Lib.hid hq
      rw [hq]
      clear hq
      cases q with
      | true =>
        have HN : Hid (bdL gr d (k + 1) = LB) := by unfold Hid bdL; rw [HXe.out, if_pos HQ.out]; exact HLe.out
        go_wp2_with fail
        go_roundg (xsn - (k + 1))
        case measure => exact hgl hlt
        case rel => exact ⟨k + 1, by have := HKG.out; omega, by go_num, by rw [HN.out]; exact HO1.out, HB1.out⟩
      | false =>
        have HN : Hid (bdL gr d (k + 1) = LB ++ [(k : Int) + 1]) := by unfold Hid bdL; rw [HXe.out, if_neg (by rw [HQ.out]; simp), HLe.out]
        go_wp2_with (at_builtin; refine wpList_append_ints rfl _ _ rfl W.heap.size _ _ LB [(k : Int) + 1] rfl (HO1.out.alloc _) rfl (Ints.lit1 _ ⟨by omega, by omega⟩) (by have := HLB.out; simp; omega) (by simp; omega) ?_; intro v4 w4 hown4 hgr4)
        have hb4 := (HO1.out.alloc _).grown hgr4 (by simp; omega)
        have hb5 := ((Below.refl W.heap.size w1).alloc (by omega) _).trans hb4
        go_roundg (xsn - (k + 1))
        case measure => exact hgl hlt
        case rel => exact ⟨k + 1, by have := HKG.out; omega, by go_num, by rw [HN.out]; exact hown4, HB1.out.trans hb5⟩
    · obtain rfl : k = xsn := by have := HKG.out; omega
      have HV : Hid (badE gr d = LB) := by unfold Hid badE; rw [Exs.out]; exact HLe.out
      go_wp2_with fail
      go_ret
      exact ⟨⟨_, rfl, by rw [HV.out]; exact HO.out.mono HSW⟩, HB.out.trans (HBR.out.mono HB.out.size)⟩
theorem spec_sBadD (gr : GroupD) (pv : Value) (d : DealingD) (w : World) (hg : OkG gr) (hp : DlR w pv d) (hd : deB gr d = true) :
    Calls Try.prog 202 #[.agg #[.int .i64 gr.p, .int .i64 gr.q, .int .i64 gr.g], pv] w fun e w' => (∃ v', e = .returned v' ∧ OwnI w' w.heap.size v' (badE gr d)) ∧ Below w.heap.size w w' :=
  spec_sBad gr pv d w hg hp (cms_small hg (deB_parts hd).2.1) (by have := (deB_parts hd).1; omega)
end Go.Proofs.Ytacpnphfopmofaa
namespace Go.Proofs.Ytacpnphfopmofaa
open Go.RowKit
set_option linter.unusedSimpArgs false
set_option linter.unusedVariables false

theorem infoDl : ∃ i, Try.prog.info? 57 = some i ∧ i.zero = some (.agg #[.slice none 0 0, .slice none 0 0]) ∧ i.size = 2 ∧ i.bytes ≤ 1000 := by
  have h : (Try.prog.info? 57).map (fun i => (i.zero, i.size, decide (i.bytes ≤ 1000))) = some (some (.agg #[.slice none 0 0, .slice none 0 0]), 2, true) := by kernel_rfl
  obtain ⟨i, hi, hz⟩ := Option.map_eq_some_iff.1 h
  simp only [Prod.mk.injEq] at hz
  exact ⟨i, hi, hz.1, hz.2.1, of_decide_eq_true hz.2.2⟩
/-- a row of dealings: each in rows of its own -/
def OwnDs (w : World) (B : Nat) (v : Value) (ds : List DealingD) : Prop :=
  ∃ css : List (List Value), css.length = ds.length ∧ w.ownsRow B 57 2 v ds.length css.flatten ∧
    ∀ i (h1 : i < css.length) (h2 : i < ds.length), ∃ x y, css[i] = [x, y] ∧ OwnI w B x ds[i].c ∧ OwnI w B y ds[i].s
section
variable {w w' : World} {B : Nat} {v : Value} {ds : List DealingD} {d : DealingD}
theorem OwnDs.nil (w : World) (B : Nat) : OwnDs w B (.slice none 0 0) [] :=
  ⟨[], rfl, by simpa using World.ownsRow_nil w B 57 2, fun i h1 _ => by simp at h1⟩
theorem OwnDs.lens {css : List (List Value)} (hl : css.length = ds.length)
    (hel : ∀ i (h1 : i < css.length) (h2 : i < ds.length), ∃ x y, css[i] = [x, y] ∧ OwnI w B x ds[i].c ∧ OwnI w B y ds[i].s) : ∀ c ∈ css, c.length = 2 := by
  intro c hc
  obtain ⟨i, hi, rfl⟩ := List.getElem_of_mem hc
  obtain ⟨x, y, e, _⟩ := hel i hi (by omega)
  rw [e]; rfl
theorem rowDl {x y : Value} (h1 : Ints w x d.c) (h2 : Ints w y d.s) : rDealing.rd w [x, y] d := by
  obtain ⟨a1, n1, c1, rfl⟩ := h1.shape
  obtain ⟨a2, n2, c2, rfl⟩ := h2.shape
  obtain ⟨vs, e, h⟩ := rdDealing.2 ⟨_, _, _, _, _, _, rfl, h1, h2⟩
  obtain rfl : vs = [.slice a1 n1 c1, .slice a2 n2 c2] := by have h := Value.agg.inj e; simpa using (congrArg Array.toList h).symm
  exact h
theorem OwnDs.rd (h : OwnDs w B v ds) : RdR rDealing w v ds := by
  obtain ⟨css, hl, hO, hel⟩ := h
  refine FrR.rd (e := 57) (w0 := w) (B := B) ⟨css, hl, hO, fun i h1 h2 => ?_⟩ (Below.refl _ _)
  obtain ⟨x, y, e, q1, q2⟩ := hel i h1 h2
  rw [e]
  exact rowDl q1.ints q2.ints
theorem OwnDs.frame (h : OwnDs w B v ds) (hs : w.heap.size ≤ w'.heap.size) (hb : ∀ k, B ≤ k → k < w.heap.size → w'.heap[k]? = w.heap[k]?) : OwnDs w' B v ds := by
  obtain ⟨css, hl, hO, hel⟩ := h
  refine ⟨css, hl, ownsRow_frame hO fun g hg => hb g (hO.lt g hg).1 (hO.lt g hg).2, fun i h1 h2 => ?_⟩
  obtain ⟨x, y, e, q1, q2⟩ := hel i h1 h2
  exact ⟨x, y, e, q1.since hs hb, q2.since hs hb⟩
theorem OwnDs.below (h : OwnDs w B v ds) (hb : Below w.heap.size w w') : OwnDs w' B v ds := h.frame hb.size fun k _ hk => hb.block k hk
theorem OwnDs.within {lo hi : Nat} (h : OwnDs w B v ds) (hw : Within lo hi w w') (hd : hi ≤ B) : OwnDs w' B v ds := h.frame hw.size fun k hk hlt => hw.block k hlt (.inr (by omega))
theorem OwnI.apartDs {l : List Int} {n : Nat} {xs : List Value} {q : Value} (h : OwnI w B q l) (hO : w.ownsRow B 57 2 v n xs) : q.ownBlock = none ∨ q.ownBlock ≠ v.ownBlock := by
  cases e : q.ownBlock with
  | none => exact .inl rfl
  | some k =>
    refine .inr fun e2 => ?_
    rcases hO.2 with ⟨rfl, _⟩ | ⟨g, c, cur, rfl, hb, hg, _⟩
    · cases e2
    · have hk : some k = some g := e2
      cases hk
      rcases h.2.2 with h2 | ⟨g', c', cur', rfl, hb', hg', _⟩
      · rw [h2.1] at e; cases e
      · cases e
        rw [hg] at hg'
        injection hg' with hg'
        injection hg' with h1 h2 h3
        exact absurd h2 (by decide)
end
end Go.Proofs.Ytacpnphfopmofaa
namespace Go.Proofs.Ytacpnphfopmofaa
open Go.RowKit
set_option linter.unusedSimpArgs false
set_option linter.unusedVariables false

/-- a list of the call's own (not in block u), or one of before (in W) -/
def MemI (W w : World) (B : Nat) (u : Option Nat) (x : Value) (l : List Int) : Prop := (OwnI w B x l ∧ ∀ k, u = some k → x.ownBlock ≠ some k) ∨ Ints W x l
/-- a row of dealings with such lists -/
structure MixDs (W w : World) (B : Nat) (u : Option Nat) (v : Value) (ds : List DealingD) : Prop where
  bel : Below W.heap.size W w
  le : W.heap.size ≤ B
  row : ∃ css : List (List Value), css.length = ds.length ∧ w.ownsRow B 57 2 v ds.length css.flatten ∧
    ∀ i (h1 : i < css.length) (h2 : i < ds.length), ∃ x y, css[i] = [x, y] ∧ MemI W w B u x ds[i].c ∧ MemI W w B u y ds[i].s
section
variable {W w w' : World} {B : Nat} {u : Option Nat} {v : Value} {ds : List DealingD} {d : DealingD}
theorem MemI.ints {x : Value} {l : List Int} (h : MemI W w B u x l) (hb : Below W.heap.size W w) : Ints w x l := by
  rcases h with h | h
  · exact h.1.ints
  · exact h.below hb
theorem MemI.shape {x : Value} {l : List Int} (h : MemI W w B u x l) : ∃ a n c, x = .slice a n c := by
  rcases h with h | h
  · obtain ⟨a, c, e⟩ := h.1.shape; exact ⟨a, _, c, e⟩
  · exact h.shape
theorem MemI.below {x : Value} {l : List Int} (h : MemI W w B u x l) (hb : Below w.heap.size w w') : MemI W w' B u x l := by
  rcases h with h | h
  · exact .inl ⟨h.1.below hb, h.2⟩
  · exact .inr h
theorem MixDs.nil (hb : Below W.heap.size W w) (hle : W.heap.size ≤ B) : MixDs W w B u (.slice none 0 0) [] :=
  ⟨hb, hle, [], rfl, by simpa using World.ownsRow_nil w B 57 2, fun i h1 _ => by simp at h1⟩
theorem MixDs.lit0 (hb : Below W.heap.size W w) (hle : W.heap.size ≤ B) (hB : B ≤ w.heap.size) : MixDs W (w.alloc (.cells #[] 57)) B u (.slice (some ⟨w.heap.size, 0, none⟩) 0 0) [] :=
  ⟨hb.trans ((Below.refl _ _).alloc hb.size _), hle, [], rfl, World.ownsRow_lit (e := 57) (size := 2) w #[] 0 hB (Nat.zero_le _) (by simp), fun i h1 _ => by simp at h1⟩
theorem MixDs.lit1 {x y : Value} (hb : Below W.heap.size W w) (hle : W.heap.size ≤ B) (hB : B ≤ w.heap.size) (hx : MemI W w B u x d.c) (hy : MemI W w B u y d.s) : MixDs W (w.alloc (.cells #[x, y] 57)) B u (.slice (some ⟨w.heap.size, 0, none⟩) 1 1) [d] := by
  have hal : Below w.heap.size w (w.alloc (.cells #[x, y] 57)) := (Below.refl _ _).alloc (Nat.le_refl _) _
  refine ⟨hb.trans ((Below.refl _ _).alloc hb.size _), hle, [[x, y]], rfl, ?_, fun i h1 h2 => ?_⟩
  · exact World.ownsRow_lit (e := 57) (size := 2) w #[x, y] 1 hB (by simp [maxLen]) (by simp)
  · have hi : i = 0 := by simp at h1; omega
    subst hi
    exact ⟨x, y, rfl, hx.below hal, hy.below hal⟩
theorem MixDs.lens {css : List (List Value)} (hl : css.length = ds.length)
    (hel : ∀ i (h1 : i < css.length) (h2 : i < ds.length), ∃ x y, css[i] = [x, y] ∧ MemI W w B u x ds[i].c ∧ MemI W w B u y ds[i].s) : ∀ c ∈ css, c.length = 2 := by
  intro c hc
  obtain ⟨i, hi, rfl⟩ := List.getElem_of_mem hc
  obtain ⟨x, y, e, _⟩ := hel i hi (by omega)
  rw [e]; rfl
theorem MixDs.rd (h : MixDs W w B u v ds) : RdR rDealing w v ds := by
  obtain ⟨hb, hle, css, hl, hO, hel⟩ := h
  refine FrR.rd (e := 57) (w0 := w) (B := B) ⟨css, hl, hO, fun i h1 h2 => ?_⟩ (Below.refl _ _)
  obtain ⟨x, y, e, q1, q2⟩ := hel i h1 h2
  rw [e]
  exact rowDl (q1.ints hb) (q2.ints hb)
theorem MixDs.below (h : MixDs W w B u v ds) (hb : Below w.heap.size w w') : MixDs W w' B u v ds := by
  obtain ⟨hb0, hle, css, hl, hO, hel⟩ := h
  refine ⟨Below.next hb0 hb, hle, css, hl, ownsRow_frame hO fun g hg => hb.block g (hO.lt g hg).2, fun i h1 h2 => ?_⟩
  obtain ⟨x, y, e, q1, q2⟩ := hel i h1 h2
  exact ⟨x, y, e, q1.below hb, q2.below hb⟩
theorem MixDs.shape (h : MixDs W w B u v ds) : ∃ a c, v = .slice a ds.length c := by
  obtain ⟨a, n, c, e⟩ := h.rd.shape
  have := (e ▸ h.rd : RdR rDealing w (.slice a n c) ds).len
  exact ⟨a, c, by rw [e, this]⟩
theorem MemI.keepRow {row : Option Nat} {x : Value} {l : List Int} {n : Nat} {xs : List Value} (h : MemI W w B u x l) (hO : w.ownsRow B 57 2 v n xs) (hg : w.grownBy w' v.ownBlock) : MemI W w' B u x l := by
  rcases h with h | h
  · exact .inl ⟨h.1.kept hg (h.1.apartDs hO), h.2⟩
  · exact .inr h
/-- more dealings, whose cells stand somewhere -/
theorem run_append_Mix {es : List DealingD} (h : MixDs W w B u v ds) (ad : Addr) (m c : Nat) (css' : List (List Value)) (hl' : css'.length = es.length) (hm : es.length = m) (hnews : ∀ j t, css'.flatten[j]? = some t → w.cell? (ad.add j) = some t)
    (hel' : ∀ i (h1 : i < css'.length) (h2 : i < es.length), ∃ x y, css'[i] = [x, y] ∧ MemI W w B u x es[i].c ∧ MemI W w B u y es[i].s) (hB : B ≤ w.heap.size) (hlen : ds.length + es.length ≤ 1000000) (ty : TypeId) :
    ∃ v' w', (Builtin.append_ #[68, 68] ty #[v, .slice (some ad) m c]).run Try.prog w = .ok v' w' ∧ MixDs W w' B u v' (ds ++ es) ∧ Below B w w' ∧ (∀ q l, OwnI w B q l → OwnI w' B q l) ∧ w.grownBy w' v.ownBlock := by
  obtain ⟨hb0, hle, css, hl, hO, hel⟩ := h
  obtain ⟨i, hi, hzr, hsz, hby⟩ := infoDl
  have hfl' := flat_len (MixDs.lens hl' hel')
  have hones : ∀ t ∈ css'.flatten, t.oneCell' = true := by
    intro t ht
    obtain ⟨r, hr, ht⟩ := List.mem_flatten.1 ht
    obtain ⟨j, hj, rfl⟩ := List.getElem_of_mem hr
    obtain ⟨x, y, e, q1, q2⟩ := hel' j hj (by omega)
    rw [e] at ht
    obtain ⟨a1, n1, c1, e1⟩ := q1.shape
    obtain ⟨a2, n2, c2, e2⟩ := q2.shape
    simp only [List.mem_cons, List.not_mem_nil, or_false] at ht
    rcases ht with rfl | rfl
    · rw [e1]; rfl
    · rw [e2]; rfl
  obtain ⟨v', w', hr, h1, h2, _⟩ := run_append_own (P := Try.prog) w B 68 ty 57 i _ 2 i.bytes Try.underlying68 hi hzr hsz rfl rfl (by decide) v ds.length css.flatten hO ad m c css'.flatten (by rw [hfl', hl', hm]) hnews hones (by unfold maxLen; omega) (by
    have : (ds.length + m) * i.bytes ≤ 1000000000 * 1000 := Nat.mul_le_mul (by omega) hby
    omega) hB
  have hbb : Below B w w' := (Below.refl B w).grown h2 hB (fun k hk => (hO.lt k hk).1)
  refine ⟨v', w', hr, ⟨hb0.trans (hbb.mono hle), hle, css ++ css', by simp [hl, hl'], by simpa [List.flatten_append, hm] using h1, fun k k1 k2 => ?_⟩, hbb, fun q l hq => hq.kept h2 (hq.apartDs hO), h2⟩
  by_cases hk : k < ds.length
  · rw [List.getElem_append_left (by omega), List.getElem_append_left hk]
    obtain ⟨x', y', e, q1, q2⟩ := hel k (by omega) hk
    exact ⟨x', y', e, q1.keepRow (row := none) hO h2, q2.keepRow (row := none) hO h2⟩
  · rw [List.getElem_append_right (by omega), List.getElem_append_right (by omega)]
    simp only [List.length_append] at k2
    obtain ⟨x', y', e, q1, q2⟩ := hel' (k - css.length) (by simp only [List.length_append] at k1; omega) (by omega)
    have e2 : k - css.length = k - ds.length := by omega
    refine ⟨x', y', e, ?_, ?_⟩
    · have := q1.keepRow (row := none) hO h2; simpa only [e2] using this
    · have := q2.keepRow (row := none) hO h2; simpa only [e2] using this
theorem run_append_Mix1 {b : Nat} {x y : Value} (h : MixDs W w B u v ds) (hx : MemI W w B u x d.c) (hy : MemI W w B u y d.s)
    (hc0 : w.cell? ⟨b, 0, none⟩ = some x) (hc1 : w.cell? ⟨b, 1, none⟩ = some y) (hB : B ≤ w.heap.size) (hlen : ds.length ≤ 100000) (ty : TypeId) :
    ∃ v' w', (Builtin.append_ #[68, 68] ty #[v, .slice (some ⟨b, 0, none⟩) 1 1]).run Try.prog w = .ok v' w' ∧ MixDs W w' B u v' (ds ++ [d]) ∧ Below B w w' ∧ (∀ q l, OwnI w B q l → OwnI w' B q l) ∧ w.grownBy w' v.ownBlock := by
  refine run_append_Mix h ⟨b, 0, none⟩ 1 1 [[x, y]] rfl rfl ?_ (fun i h1 h2 => ?_) hB (by simp; omega) ty
  · intro j t ht
    rw [Addr.add_lit, Nat.zero_add]
    rcases j with _ | _ | j
    · simp at ht; subst ht; exact hc0
    · simp at ht; subst ht; exact hc1
    · simp at ht
  · have hi : i = 0 := by simp at h1; omega
    subst hi
    exact ⟨x, y, rfl, hx, hy⟩
theorem wpList_append_Mix {ops : Array Oper} {rest : List Oper} {o : Oper} {a : Act} {Q : Exit → Act → World → Prop} (hg : o.guard = none) (s y0 : Operand)
    (ho : o.op = .call { callee := .builtin .append, args := #[s, y0], argTypes := #[68, 68] })
    {b : Nat} {x y : Value} (hs : a.eval s = v) (he : a.eval y0 = .slice (some ⟨b, 0, none⟩) 1 1) (h : MixDs W w B u v ds) (hx : MemI W w B u x d.c) (hy : MemI W w B u y d.s)
    (hbx : BoxN w b 57 [x, y]) (hB : B ≤ w.heap.size) (hlen : ds.length ≤ 100000) (N : Nat) (hN : ds.length + 1 = N)
    (hK : ∀ a' c' w', MixDs W w' B u (.slice a' N c') (ds ++ [d]) → Below B w w' → (∀ q l, OwnI w B q l → OwnI w' B q l) → wpList Try.prog ops Q rest (a.put o.dst (.slice a' N c')) w') : wpList Try.prog ops Q (o :: rest) a w := by
  obtain ⟨v', w', hr, h1, h3, h4, _⟩ := run_append_Mix1 h hx hy (hbx.cell (i := 0) rfl) (hbx.cell (i := 1) rfl) hB hlen o.type
  obtain ⟨a', c', e⟩ := h1.shape
  rw [List.length_append, List.length_singleton, hN] at e
  subst e
  refine wpList_plain hg fun K hK' => ?_
  unfold Oper.wp execOp
  simp only [ho, resolve, invoke, builtin, Sem.run_bind, Sem.run_pure, Result.andThen_ok, List.map_toArray, List.map_cons, List.map_nil, hs, he, hr]
  exact hK' _ _ (hK a' c' w' h1 h3 h4)
end
end Go.Proofs.Ytacpnphfopmofaa
namespace Go.Proofs.Ytacpnphfopmofaa
open Go.RowKit
set_option linter.unusedSimpArgs false
set_option linter.unusedVariables false

theorem fitN_succ {gr : GroupD} {c bad own : List Int} {k : Nat} {q : Bool} (h : fitN gr c bad own k = true) (h2 : shrB gr c (nth bad k) (nth own k) = q) : fitN gr c bad own (k + 1) = q := by
  unfold fitN; rw [h, h2, Bool.true_and]
set_option maxRecDepth 100000 in
set_option maxHeartbeats 2000000 in
theorem impl_isQualified (gr : GroupD) (pv : Value) (d : DealingD) (ov : Value) (own : List Int) (w : World) (hg : OkG gr) (hp : DlR w pv d) (hown : Ints w ov own) (hd : deB gr d = true) :
    Calls Try.prog 181 #[.agg #[.int .i64 gr.p, .int .i64 gr.q, .int .i64 gr.g], pv, ov] w fun e w' => e = .returned (.bool (qdB gr d own)) ∧ Below w.heap.size w w' := by
  have HG := Lib.hid hg
  clear hg
  have HDB := Lib.hid hd
  have HDP := Lib.hid (deB_parts hd)
  have HEL := Lib.hid (cms_small HG.out (deB_parts hd).2.1)
  clear hd
  obtain ⟨xcv, xsv, rfl, hxc, hxs⟩ := hp
  obtain ⟨xca, xcn, xcc, rfl⟩ := hxc.shape
  have Exc := Lib.hid hxc.len
  have Kxc := Lib.hid hxc.capMax
  have Hxc := Lib.hid hxc
  clear hxc
  obtain ⟨xsa, xsn, xsc, rfl⟩ := hxs.shape
  have Exs := Lib.hid hxs.len
  have Kxs := Lib.hid hxs.capMax
  have Hxs := Lib.hid hxs
  clear hxs
  obtain ⟨ova, ovn, ovc, rfl⟩ := hown.shape
  have Eov := Lib.hid hown.len
  have Kov := Lib.hid hown.capMax
  have Hov := Lib.hid hown
  clear hown
  obtain ⟨W, hW⟩ : ∃ W, W = (w.alloc (.cells #[.int .i64 gr.p, .int .i64 gr.q, .int .i64 gr.g] 24)).alloc (.cells #[(.slice xca xcn xcc), (.slice xsa xsn xsc)] 57) := ⟨_, rfl⟩
  have HB : Hid (Below w.heap.size w W) := by unfold Hid; rw [hW]; (repeat (first | exact Below.refl _ _ | assumption | refine Below.drew ?_ | refine Below.alloc ?_ (by first | (simp; done) | (simp; omega)) _ | refine Below.setCell ?_ (by first | (simp; done) | (simp; omega)) _))
  have c0_0 : W.cell? ⟨w.heap.size, 0, none⟩ = some (.int .i64 gr.p) := by rw [hW]; simp [go_sem]
  have c0_1 : W.cell? ⟨w.heap.size, 1, none⟩ = some (.int .i64 gr.q) := by rw [hW]; simp [go_sem]
  have c0_2 : W.cell? ⟨w.heap.size, 2, none⟩ = some (.int .i64 gr.g) := by rw [hW]; simp [go_sem]
  have c1_0 : W.cell? ⟨w.heap.size + 1, 0, none⟩ = some ((.slice xca xcn xcc)) := by rw [hW]; simp [go_sem]
  have c1_1 : W.cell? ⟨w.heap.size + 1, 1, none⟩ = some ((.slice xsa xsn xsc)) := by rw [hW]; simp [go_sem]
  have HSW : Hid (W.heap.size = w.heap.size + 2) := by unfold Hid; rw [hW]; simp
  go_enter Try.func181, Try.ntmps181
  go_wp2_with fail
  rw [← hW]
  have hse : w.heap.size + 1 + 1 = W.heap.size := by have := HSW.out; omega
  (try rw [hse])
  clear hse
  clear hW
  have hc : Below W.heap.size W W := Below.refl _ _
  have HCC : Hid (∀ u, Below W.heap.size W u → u.cell? ⟨w.heap.size, 0, none⟩ = some (.int .i64 gr.p) ∧ u.cell? ⟨w.heap.size, 1, none⟩ = some (.int .i64 gr.q) ∧ u.cell? ⟨w.heap.size, 2, none⟩ = some (.int .i64 gr.g) ∧ u.cell? ⟨w.heap.size + 1, 0, none⟩ = some ((.slice xca xcn xcc)) ∧ u.cell? ⟨w.heap.size + 1, 1, none⟩ = some ((.slice xsa xsn xsc))) := fun u h => ⟨box_at c0_0 h, box_at c0_1 h, box_at c0_2 h, box_at c1_0 h, box_at c1_1 h⟩
  go_wp2_with fail
  refine (impl_bad gr _ d _ HG.out (DlR.mk (Hxc.out.below (HB.out.trans (hc.mono HB.out.size))) (Hxs.out.below (HB.out.trans (hc.mono HB.out.size)))) HDB.out).mono ?_
  rintro e u1 ⟨⟨vb, rfl, hob⟩, hq1⟩
  obtain ⟨ba, bc, rfl⟩ := OwnI.shapeN (n := (badE gr d).length) hob rfl
  have HOB := Lib.hid hob.ints
  clear hob
  obtain ⟨bn, hbn⟩ : ∃ z, (badE gr d).length = z := ⟨_, rfl⟩
  have HBN := Lib.hid hbn
  rw [hbn]
  rw [hbn] at HOB
  clear hbn
  replace hc := Below.next hc hq1
  clear hq1 c0_0 c0_1 c0_2 c1_0 c1_1
  obtain ⟨c0_0, c0_1, c0_2, c1_0, c1_1⟩ := HCC.out _ hc
  cases hc1 : decide ((xcn : Int) ≤ (bn : Int)) with
  | false =>
    have HT1 : Hid (decide (d.c.length ≤ (badE gr d).length) = false) := by have q := of_decide_eq_false hc1; have := Exc.out; have := HBN.out; unfold Hid; exact decide_eq_false (by omega)
    have hcp1 : ¬ xcn ≤ bn := by have q := of_decide_eq_false hc1; omega
    have hcn1 : decide (xcn ≤ bn) = false := decide_eq_false hcp1
    cases hc2 : ((ovn : Int) != (bn : Int)) with
    | false =>
      have HT2 : Hid (decide (own.length = (badE gr d).length) = true) := by have q := hc2; rw [bne_eq_false_iff_eq] at q; have := Eov.out; have := HBN.out; unfold Hid; exact decide_eq_true (by omega)
      have hob2 : ovn = bn := by have q := hc2; rw [bne_eq_false_iff_eq] at q; omega
      go_wp2_with fail
      have C0 := Lib.hid c0_0
      have C1 := Lib.hid c0_1
      have C2 := Lib.hid c0_2
      have C3 := Lib.hid c1_0
      have C4 := Lib.hid c1_1
      have HBW := Lib.hid (HB.out.trans (hc.mono HB.out.size))
      have hbn7 : bn ≤ 7 := by have := bdL_len gr d d.s.length; have : (badE gr d).length ≤ d.s.length := this; have := HBN.out; have := HDP.out.1; omega
      have HCL : Hid (d.c.length ≤ 1000) := by have := HDP.out.1; unfold Hid; omega
      clear hc c0_0 c0_1 c0_2 c1_0 c1_1
      go_loopg [28] bn (fun gk iv wr => ∃ k : Nat, k + gk = bn ∧ iv = .int .i64 (k : Int) ∧ Hid (fitN gr d.c (badE gr d) own k = true) ∧ Hid (Below u1.heap.size u1 wr))
      case atStart => exact ⟨0, by omega, rfl, rfl, Below.refl _ _⟩
      case round =>
        obtain ⟨k, hkg, rfl, HF, HBr⟩ := hrel
        by_cases hlt : k < bn
        · have hgk : bn - (k + 1) < gk := by omega
          obtain ⟨b, o, hba, hcx⟩ := HOB.out.at_ (by have := HBN.out; omega)
          have x1 := box_at (hcx k hlt) HBr.out
          have hba' := hba
          subst hba'
          clear hba hcx
          obtain ⟨sb, so, hsa, hcy⟩ := Hov.out.at_ (by have := Eov.out; omega)
          have y1 := box_at (box_at (hcy k (by omega)) HBW.out) HBr.out
          have hsa' := hsa
          subst hsa'
          clear hsa hcy
          have HXB : Hid (0 ≤ nth (badE gr d) k ∧ nth (badE gr d) k ≤ 1000) := by
            have h := bdL_mem _ (show nth (badE gr d) k ∈ bdL gr d d.s.length from nth_mem' (by have := HBN.out; show k < (badE gr d).length; omega))
            have := HDP.out.1; unfold Hid; omega
          have HYI : Hid (I64 (nth own k)) := nth_64 Hov.out k
          have HFS : Hid (∀ q, shrB gr d.c (nth (badE gr d) k) (nth own k) = q → fitN gr d.c (badE gr d) own (k + 1) = q) := fun q h => fitN_succ HF.out h
          have HNO : Hid (shrB gr d.c (nth (badE gr d) k) (nth own k) = false → fitN gr d.c (badE gr d) own (badE gr d).length = false) := fun h => fitN_no h _ (by have := HBN.out; omega)
          obtain ⟨x, hx⟩ : ∃ z, nth (badE gr d) k = z := ⟨_, rfl⟩
          obtain ⟨y, hy⟩ : ∃ z, nth own k = z := ⟨_, rfl⟩
          rw [hx] at x1 HXB HFS HNO
          rw [hy] at y1 HYI HFS HNO
          clear hx hy
          have b0 : (0 : Int) ≤ (k : Int) := by omega
          have bk1 : (k : Int) < (bn : Int) := by omega
          have bk2 : (k : Int) < (ovn : Int) := by omega
          have hwk : IntKind.i64.wrap ((k : Int) + 1) = (k : Int) + 1 := IntWalk.i64_in _ (by omega)
          have Hcvr : Hid (Ints wr (.slice xca xcn xcc) d.c) := (Hxc.out.below HBW.out).below HBr.out
          have c0 := box_at C0.out HBr.out
          have c1 := box_at C1.out HBr.out
          have c2 := box_at C2.out HBr.out
          have d0 := box_at C3.out HBr.out
          have d1 := box_at C4.out HBr.out
          go_wp2_with fail
          clear x1
          have hc : Below wr.heap.size wr wr := Below.refl _ _
          obtain ⟨q, hq⟩ : ∃ z, shrB gr d.c x y = z := ⟨_, rfl⟩
          have HQ := Lib.hid hq
          clear hq
          cases q with
          | true =>
            try (go_wp2_with fail)
            refine wp_region_noPanic ?_
            refine wp_region_P (fun w' => w'.cell? ⟨w.heap.size, 0, none⟩ = some (.int .i64 gr.p) ∧ w'.cell? ⟨w.heap.size, 1, none⟩ = some (.int .i64 gr.q) ∧ w'.cell? ⟨w.heap.size, 2, none⟩ = some (.int .i64 gr.g) ∧ w'.cell? ⟨w.heap.size + 1, 0, none⟩ = some (.slice xca xcn xcc) ∧ w'.cell? ⟨w.heap.size + 1, 1, none⟩ = some (.slice xsa xsn xsc) ∧ w'.cell? ⟨sb, so + k, none⟩ = some (.int .i64 y)) 12 [(0, []), (1, []), (2, [0]), (3, []), (4, []), (5, []), (6, [1, 0]), (7, [0]), (8, [7, 5, 4, 0]), (9, [0])] [] (by kernel_rfl) (by kernel_rfl) (by kernel_rfl) rfl (fun _ _ _ _ h => h) (fun w' h => ⟨box_at c0 h, box_at c1 h, box_at c2 h, box_at d0 h, box_at d1 h, box_at y1 h⟩) ?_
            simp only [pickP, pickN, List.getElem?_cons_zero, List.getElem?_cons_succ]
            iterate 8 (refine' chainP_read _ rfl rfl (fun w' hS' => ?_) ?_; rotate_left; · (simp only [lookP, allP, Act.put, List.getElem?_cons_zero, List.getElem?_cons_succ, List.setIfInBounds_toArray, List.set_cons_zero, List.set_cons_succ]; (try dsimp only at hS'); go_simp; (try with_reducible rfl)))
            -- 8: call { callee := value (func 166), args := #[t33, t35, t36, t40], argTypes := #[24, 42, 3, 3] }
            refine chainP_call (d := (some 41)) (.bool true) rfl rfl (fun w' hS' => ?_) ?_
            · simp only [lookP, allP, Act.put, List.getElem?_cons_zero, List.getElem?_cons_succ, List.setIfInBounds_toArray, List.set_cons_zero, List.set_cons_succ]
              intro K hK
              go_simp
              go_at_call 166
              refine (impl_isShare gr _ d.c x y _ HG.out (Hcvr.out.below hS'.1) HEL.out HCL.out HXB.out HYI.out).mono ?_
              rintro e u ⟨rfl, hq⟩
              rw [HQ.out]
              exact hK.out _ hq
            -- 9: unOp Unnot 4 t41
            refine' chainP_read (d := (some 42)) _ rfl rfl (fun w' hS' => ?_) ?_; rotate_left
            · simp only [lookP, allP, Act.put, List.getElem?_cons_zero, List.getElem?_cons_succ, List.setIfInBounds_toArray, List.set_cons_zero, List.set_cons_succ]
              (try dsimp only at hS')
              go_simp
              (try with_reducible rfl)
            refine chainP_nil (fun ua hS' => ?_)
            simp only [allP, Act.put, List.setIfInBounds_toArray, List.set_cons_zero, List.set_cons_succ]
            have hq1 := hS'.1
            clear hS'
            replace hc := Below.next hc hq1
            replace c0 := box_at c0 hq1
            replace c1 := box_at c1 hq1
            replace c2 := box_at c2 hq1
            replace d0 := box_at d0 hq1
            replace d1 := box_at d1 hq1
            replace y1 := box_at y1 hq1
            clear hq1
            (try (go_wp2_with fail))
            (try (refine NoPanic.normal ?_))
            (try (go_wp2_with fail))
            go_roundg (bn - (k + 1))
            case measure => exact hgk
            case rel => exact ⟨k + 1, by omega, by go_num, HFS.out _ HQ.out, HBr.out.trans (hc.mono HBr.out.size)⟩
          | false =>
            try (go_wp2_with fail)
            refine wp_region_noPanic ?_
            refine wp_region_P (fun w' => w'.cell? ⟨w.heap.size, 0, none⟩ = some (.int .i64 gr.p) ∧ w'.cell? ⟨w.heap.size, 1, none⟩ = some (.int .i64 gr.q) ∧ w'.cell? ⟨w.heap.size, 2, none⟩ = some (.int .i64 gr.g) ∧ w'.cell? ⟨w.heap.size + 1, 0, none⟩ = some (.slice xca xcn xcc) ∧ w'.cell? ⟨w.heap.size + 1, 1, none⟩ = some (.slice xsa xsn xsc) ∧ w'.cell? ⟨sb, so + k, none⟩ = some (.int .i64 y)) 12 [(0, []), (1, []), (2, [0]), (3, []), (4, []), (5, []), (6, [1, 0]), (7, [0]), (8, [7, 5, 4, 0]), (9, [0])] [] (by kernel_rfl) (by kernel_rfl) (by kernel_rfl) rfl (fun _ _ _ _ h => h) (fun w' h => ⟨box_at c0 h, box_at c1 h, box_at c2 h, box_at d0 h, box_at d1 h, box_at y1 h⟩) ?_
            simp only [pickP, pickN, List.getElem?_cons_zero, List.getElem?_cons_succ]
            iterate 8 (refine' chainP_read _ rfl rfl (fun w' hS' => ?_) ?_; rotate_left; · (simp only [lookP, allP, Act.put, List.getElem?_cons_zero, List.getElem?_cons_succ, List.setIfInBounds_toArray, List.set_cons_zero, List.set_cons_succ]; (try dsimp only at hS'); go_simp; (try with_reducible rfl)))
            -- 8: call { callee := value (func 166), args := #[t33, t35, t36, t40], argTypes := #[24, 42, 3, 3] }
            refine chainP_call (d := (some 41)) (.bool false) rfl rfl (fun w' hS' => ?_) ?_
            · simp only [lookP, allP, Act.put, List.getElem?_cons_zero, List.getElem?_cons_succ, List.setIfInBounds_toArray, List.set_cons_zero, List.set_cons_succ]
              intro K hK
              go_simp
              go_at_call 166
              refine (impl_isShare gr _ d.c x y _ HG.out (Hcvr.out.below hS'.1) HEL.out HCL.out HXB.out HYI.out).mono ?_
              rintro e u ⟨rfl, hq⟩
              rw [HQ.out]
              exact hK.out _ hq
            -- 9: unOp Unnot 4 t41
            refine' chainP_read (d := (some 42)) _ rfl rfl (fun w' hS' => ?_) ?_; rotate_left
            · simp only [lookP, allP, Act.put, List.getElem?_cons_zero, List.getElem?_cons_succ, List.setIfInBounds_toArray, List.set_cons_zero, List.set_cons_succ]
              (try dsimp only at hS')
              go_simp
              (try with_reducible rfl)
            refine chainP_nil (fun ua hS' => ?_)
            simp only [allP, Act.put, List.setIfInBounds_toArray, List.set_cons_zero, List.set_cons_succ]
            have hq1 := hS'.1
            clear hS'
            replace hc := Below.next hc hq1
            replace c0 := box_at c0 hq1
            replace c1 := box_at c1 hq1
            replace c2 := box_at c2 hq1
            replace d0 := box_at d0 hq1
            replace d1 := box_at d1 hq1
            replace y1 := box_at y1 hq1
            clear hq1
            (try (go_wp2_with fail))
            (try (refine NoPanic.normal ?_))
            (try (go_wp2_with fail))
            have HV : Hid (qdB gr d own = false) := by unfold Hid qdB; rw [HNO.out HQ.out, Bool.and_false]
            go_ret
            exact ⟨ret_bool HV.out.symm, HBW.out.trans ((HBr.out.trans (hc.mono HBr.out.size)).mono HBW.out.size)⟩
        · obtain rfl : bn = k := by omega
          have HFL : Hid (fitN gr d.c (badE gr d) own (badE gr d).length = true) := by unfold Hid; rw [HBN.out]; exact HF.out
          have HV : Hid (qdB gr d own = true) := by unfold Hid qdB; rw [HT1.out, HT2.out, HFL.out]; rfl
          go_wp2_with fail
          go_ret
          exact ⟨ret_bool HV.out.symm, HBW.out.trans (HBr.out.mono HBW.out.size)⟩
    | true =>
      have HT2 : Hid (decide (own.length = (badE gr d).length) = false) := by have q := hc2; rw [bne_iff_ne] at q; have := Eov.out; have := HBN.out; unfold Hid; exact decide_eq_false (by omega)
      go_wp2_with fail
      have HV : Hid ((.bool (qdB gr d own) : Value) = .bool false) := by unfold Hid; simp [qdB, HT1.out, HT2.out]
      go_ret
      exact ⟨congrArg Ending.returned HV.out.symm, HB.out.trans (hc.mono HB.out.size)⟩
  | true =>
    have HT1 : Hid (decide (d.c.length ≤ (badE gr d).length) = true) := by have q := of_decide_eq_true hc1; have := Exc.out; have := HBN.out; unfold Hid; exact decide_eq_true (by omega)
    have hcp1 : xcn ≤ bn := by have q := of_decide_eq_true hc1; omega
    have hcn1 : decide (xcn ≤ bn) = true := decide_eq_true hcp1
    go_wp2_with fail
    have HV : Hid ((.bool (qdB gr d own) : Value) = .bool false) := by unfold Hid; simp [qdB, HT1.out]
    go_ret
    exact ⟨congrArg Ending.returned HV.out.symm, HB.out.trans (hc.mono HB.out.size)⟩
end Go.Proofs.Ytacpnphfopmofaa
