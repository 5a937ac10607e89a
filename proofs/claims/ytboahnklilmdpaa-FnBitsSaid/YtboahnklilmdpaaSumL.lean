/- Proofs of sums, of bits: the plain laws. -/
import Derived.Test.YtboahnklilmdpaaOpL
namespace Go.Proofs.Ytboahnklilmdpaa
open Go.RowKit
set_option linter.unusedSimpArgs false
set_option linter.unusedVariables false

/-- the sum of a list, modulo q -/
def sumM (q : Int) (l : List Int) : Int := l.foldl (fun o x => (o + x) % q) 0
theorem sumM_succ {q : Int} {l : List Int} {k : Nat} (h : k < l.length) : sumM q (l.take (k + 1)) = (sumM q (l.take k) + nth l k) % q := by
  unfold sumM
  rw [List.take_succ_eq_append_getElem h, List.foldl_append]
  simp [nth, List.getD, h]
theorem sumM_bd {q : Int} (hq : 0 < q) (l : List Int) : 0 ≤ sumM q l ∧ sumM q l < q := by
  unfold sumM
  suffices h : ∀ o : Int, 0 ≤ o → o < q → 0 ≤ l.foldl (fun o x => (o + x) % q) o ∧ l.foldl (fun o x => (o + x) % q) o < q from h 0 (by omega) (by omega)
  induction l with
  | nil => intro o h1 h2; exact ⟨h1, h2⟩
  | cons a l ih => intro o _ _; exact ih _ (Int.emod_nonneg _ (by omega)) (Int.emod_lt_of_pos _ (by omega))
theorem expB_sum {gr : GroupD} (hg : OkG gr) (l : List Int) : expB gr (sumM gr.q l) = true := by
  have := sumM_bd (q := gr.q) (by have := hg.q1; omega) l
  unfold expB
  rw [decide_eq_true_iff]
  exact ⟨this.1, by omega⟩
/-- commitments multiply to the commitment of the sums -/
theorem mulL_coM {gr : GroupD} (hgd : goodG gr = true) {bh : Int} (hh : elB gr bh = true) (l rs : List Int) (hl : rs.length = l.length) : mulL gr (List.zipWith (coM gr bh) l rs) = coM gr bh (sumM gr.q l) (sumM gr.q rs) := by
  have hg := goodG_ok hgd
  have hp := hg.p1
  unfold mulL sumM
  have h0 : (1 : Int) = coM gr bh 0 0 := by
    rw [coM_eq, powE_zero hg, powE_zero hg]
    exact (Int.emod_eq_of_lt (by omega) (by omega)).symm
  rw [h0]
  suffices h : ∀ (l rs : List Int) (a b : Int), rs.length = l.length → (List.zipWith (coM gr bh) l rs).foldl (fun o x => o * x % gr.p) (coM gr bh a b) = coM gr bh (l.foldl (fun o x => (o + x) % gr.q) a) (rs.foldl (fun o x => (o + x) % gr.q) b) from h l rs 0 0 hl
  intro l
  induction l with
  | nil =>
    intro rs a b h
    obtain rfl : rs = [] := List.length_eq_zero_iff.1 h
    rfl
  | cons m l ih =>
    intro rs a b h
    match rs, h with
    | r :: rs, h =>
      simp only [List.zipWith_cons_cons, List.foldl_cons]
      rw [← coM_add hgd hh, ← coM_emod]
      exact ih rs _ _ (by simpa using h)
/-! ### sums -/
def smE (gr : GroupD) (s : ByteArray) (bh c t x : Int) : Int := chV gr s [bh, c, t, x]
noncomputable def psB (gr : GroupD) (bh : Int) (bl rs l cs : List Int) : Bool := baB gr bh bl && (decide (1 ≤ l.length ∧ l.length ≤ 24) && (decide (rs.length = l.length) && (decide (cs.length = 1) && (rs.all (expB gr) && (l.all (expB gr) && cs.all (expB gr))))))
def psE (gr : GroupD) (s : ByteArray) (bh : Int) (rs l cs : List Int) : Int := smE gr s bh (coM gr bh (sumM gr.q l) (sumM gr.q rs)) (sumM gr.q l) (powE gr bh (nth cs 0))
def psD (gr : GroupD) (s : ByteArray) (bh : Int) (rs l cs : List Int) : ProofD := ⟨[powE gr bh (nth cs 0)], [psE gr s bh rs l cs], [(nth cs 0 + psE gr s bh rs l cs * sumM gr.q rs) % gr.q]⟩
noncomputable def psR (gr : GroupD) (s : ByteArray) (bh : Int) (bl rs l cs : List Int) : ProofD := if psB gr bh bl rs l cs = true then psD gr s bh rs l cs else ⟨[], [], []⟩
noncomputable def vsA (gr : GroupD) (bh : Int) (bl cs : List Int) (t : Int) : Bool := baB gr bh bl && (decide (1 ≤ cs.length ∧ cs.length ≤ 24) && (cs.all (elB gr) && expB gr t))
noncomputable def vsQ (gr : GroupD) (s : ByteArray) (bh c t x e z : Int) : Bool := (e == smE gr s bh c t x) && (powE gr bh z == mulL gr [x, powE gr (mulL gr [c, powE gr gr.g (-t)]) (smE gr s bh c t x)])
noncomputable def vsV (gr : GroupD) (s : ByteArray) (bh : Int) (cs : List Int) (t : Int) (d : ProofD) : Bool := fmB gr d 1 1 1 && vsQ gr s bh (mulL gr cs) t (nth d.c 0) (nth d.h 0) (nth d.r 0)
noncomputable def vsP (gr : GroupD) (s : ByteArray) (bh : Int) (cs : List Int) (t : Int) (d : ProofD) : Bool := decide (d.c.length = 1) && (decide (d.h.length = 1) && (decide (d.r.length = 1) && (elB gr (nth d.c 0) && (expB gr (nth d.r 0) && vsQ gr s bh (mulL gr cs) t (nth d.c 0) (nth d.h 0) (nth d.r 0)))))
theorem vsP_eq {gr : GroupD} (hg : OkG gr) (s : ByteArray) (bh : Int) (cs : List Int) (t : Int) (d : ProofD) : vsP gr s bh cs t d = vsV gr s bh cs t d := by
  obtain ⟨cl, hl, rl⟩ := d
  unfold vsP vsV fmB
  simp only []
  by_cases h1 : cl.length = 1
  · by_cases h2 : hl.length = 1
    · by_cases h3 : rl.length = 1
      · rw [list_one h1, list_one h2, list_one h3]
        generalize nth cl 0 = x
        generalize nth hl 0 = e
        generalize nth rl 0 = z
        have e1 : nth [x] 0 = x := rfl
        have e2 : nth [e] 0 = e := rfl
        have e3 : nth [z] 0 = z := rfl
        rw [e1, e2, e3]
        unfold vsQ
        by_cases h4 : e = smE gr s bh (mulL gr cs) t x
        · have h5 : expB gr e = true := by rw [h4]; exact expV hg s _
          simp only [List.all_cons, List.all_nil, h5, Bool.and_true, Bool.true_and, List.length_cons, List.length_nil, decide_true]
          simp only [Bool.and_assoc]
        · have h5 : (e == smE gr s bh (mulL gr cs) t x) = false := beq_eq_false_iff_ne.2 h4
          rw [h5]
          simp only [Bool.false_and, Bool.and_false]
      · simp [h3]
    · simp [h2]
  · simp [h1]
noncomputable def vsR (gr : GroupD) (s : ByteArray) (bh : Int) (bl cs : List Int) (t : Int) (d : ProofD) : Bool := vsA gr bh bl cs t && vsV gr s bh cs t d
theorem psB_parts {gr : GroupD} {bh : Int} {bl rs l cs : List Int} (h : psB gr bh bl rs l cs = true) : baB gr bh bl = true ∧ 1 ≤ l.length ∧ l.length ≤ 24 ∧ rs.length = l.length ∧ cs.length = 1 ∧ rs.all (expB gr) = true ∧ l.all (expB gr) = true ∧ cs.all (expB gr) = true := by
  unfold psB at h
  simp only [Bool.and_eq_true, decide_eq_true_iff] at h
  exact ⟨h.1, h.2.1.1, h.2.1.2, h.2.2.1, h.2.2.2.1, h.2.2.2.2.1, h.2.2.2.2.2.1, h.2.2.2.2.2.2⟩
theorem coM_strip {gr : GroupD} (hgd : goodG gr = true) {bh : Int} (hh : elB gr bh = true) (m r : Int) : mulL gr [coM gr bh m r, powE gr gr.g (-m)] = powE gr bh r := by
  have hg := goodG_ok hgd
  rw [mulT, coM_eq, Int.mul_comm (powE gr gr.g m), mul_cancel hg (elT_pow hg hh r) (elT_gen hgd)]
theorem sum_tail {gr : GroupD} {s : ByteArray} {bh : Int} {bl rs l cs : List Int} (h : psB gr bh bl rs l cs = true) :
    (∀ k, k < l.length → cmB gr bh bl (nth l k) (nth rs k) = true) ∧ vsR gr s bh bl (List.zipWith (cmR gr bh bl) l rs) (sumM gr.q l) (psR gr s bh bl rs l cs) = true ∧ vsA gr bh bl (List.zipWith (cmR gr bh bl) l rs) (sumM gr.q l) = true := by
  obtain ⟨hba, h1, h2, h3, h4, h5, h6, h7⟩ := psB_parts h
  obtain ⟨hgd, hh, _, _, _⟩ := baB_parts hba
  have hg := goodG_ok hgd
  have hall : ∀ k, k < l.length → cmB gr bh bl (nth l k) (nth rs k) = true := fun k hk => by
    have e1 : expB gr (nth l k) = true := by
      have : nth l k = l[k] := by simp [nth, List.getD, hk]
      rw [this]; exact List.all_eq_true.1 h6 _ (List.getElem_mem _)
    have e2 : expB gr (nth rs k) = true := by
      have : nth rs k = rs[k] := by simp [nth, List.getD, show k < rs.length by omega]
      rw [this]; exact List.all_eq_true.1 h5 _ (List.getElem_mem _)
    unfold cmB; rw [hba, e1, e2]; rfl
  have hz : List.zipWith (cmR gr bh bl) l rs = List.zipWith (coM gr bh) l rs := by
    apply List.ext_getElem
    · simp
    · intro k hk1 hk2
      simp only [List.getElem_zipWith]
      have hk : k < l.length := by simp at hk1; omega
      have hk' : k < rs.length := by omega
      have := hall k hk
      have e1 : nth l k = l[k] := by simp [nth, List.getD, hk]
      have e2 : nth rs k = rs[k] := by simp [nth, List.getD, hk']
      rw [e1, e2] at this
      unfold cmR
      rw [if_pos this]
  have hA : vsA gr bh bl (List.zipWith (cmR gr bh bl) l rs) (sumM gr.q l) = true := by
    rw [hz]
    unfold vsA
    rw [hba, expB_sum hg]
    have e1 : (List.zipWith (coM gr bh) l rs).all (elB gr) = true := by
      rw [List.all_eq_true]
      intro x hx
      obtain ⟨k, hk, rfl⟩ := List.getElem_of_mem hx
      rw [List.getElem_zipWith]
      exact elT_coM hgd hh _ _
    have e2 : (List.zipWith (coM gr bh) l rs).length = l.length := by simp [h3]
    rw [e1, e2, decide_eq_true (⟨h1, h2⟩ : 1 ≤ l.length ∧ l.length ≤ 24)]
    rfl
  refine ⟨hall, ?_, hA⟩
  unfold vsR
  rw [hA, Bool.true_and]
  unfold psR
  rw [if_pos h, hz]
  unfold vsV fmB psD vsQ
  rw [mulL_coM hgd hh l rs h3]
  have e1 : ∀ a : Int, nth [a] 0 = a := fun a => rfl
  simp only [e1, List.length_cons, List.length_nil, List.all_cons, List.all_nil, elT_pow hg hh, expT hg, psE, smE, expV hg, coM_strip hgd hh, sigma_eq hg hh, mulT, Bool.and_true, Bool.and_self, beq_self_eq_true, decide_true]
/-! ### bits -/
/-- what H to some power is in a case of a bit -/
def bcI (gr : GroupD) (c k : Int) : Int := if k = 1 then mulL gr [c, powE gr gr.g (-1)] else c
def btE (gr : GroupD) (s : ByteArray) (bh c x y : Int) : Int := chV gr s [bh, c, x, y]
noncomputable def pbB (gr : GroupD) (bh : Int) (bl : List Int) (m r : Int) (cs : List Int) : Bool := baB gr bh bl && (decide (0 ≤ m ∧ m ≤ 1) && (expB gr r && (decide (cs.length = 3) && cs.all (expB gr))))
/-- the commit of the case that is not so, of the one that is so -/
def btX (gr : GroupD) (bh c k e z : Int) : Int := mulL gr [powE gr bh z, powE gr (bcI gr c k) (-e)]
def btD (gr : GroupD) (s : ByteArray) (bh m r : Int) (cs : List Int) : ProofD :=
  if m = 0 then
    ⟨[powE gr bh (nth cs 0), btX gr bh (coM gr bh m r) 1 (nth cs 1) (nth cs 2)],
     [(btE gr s bh (coM gr bh m r) (powE gr bh (nth cs 0)) (btX gr bh (coM gr bh m r) 1 (nth cs 1) (nth cs 2)) - nth cs 1) % gr.q, nth cs 1],
     [(nth cs 0 + (btE gr s bh (coM gr bh m r) (powE gr bh (nth cs 0)) (btX gr bh (coM gr bh m r) 1 (nth cs 1) (nth cs 2)) - nth cs 1) % gr.q * r) % gr.q, nth cs 2]⟩
  else
    ⟨[btX gr bh (coM gr bh m r) 0 (nth cs 1) (nth cs 2), powE gr bh (nth cs 0)],
     [nth cs 1, (btE gr s bh (coM gr bh m r) (btX gr bh (coM gr bh m r) 0 (nth cs 1) (nth cs 2)) (powE gr bh (nth cs 0)) - nth cs 1) % gr.q],
     [nth cs 2, (nth cs 0 + (btE gr s bh (coM gr bh m r) (btX gr bh (coM gr bh m r) 0 (nth cs 1) (nth cs 2)) (powE gr bh (nth cs 0)) - nth cs 1) % gr.q * r) % gr.q]⟩
noncomputable def pbR (gr : GroupD) (s : ByteArray) (bh : Int) (bl : List Int) (m r : Int) (cs : List Int) : ProofD := if pbB gr bh bl m r cs = true then btD gr s bh m r cs else ⟨[], [], []⟩
def btK (gr : GroupD) (bh c : Int) (d : ProofD) (k : Nat) : Bool := powE gr bh (nth d.r k) == mulL gr [nth d.c k, powE gr (bcI gr c k) (nth d.h k)]
def btV (gr : GroupD) (s : ByteArray) (bh c : Int) (d : ProofD) : Bool := fmB gr d 2 2 2 && (btK gr bh c d 0 && (btK gr bh c d 1 && ((nth d.h 0 + nth d.h 1) % gr.q == btE gr s bh c (nth d.c 0) (nth d.c 1))))
noncomputable def vbR (gr : GroupD) (s : ByteArray) (bh : Int) (bl : List Int) (c : Int) (d : ProofD) : Bool := voA gr bh bl c && btV gr s bh c d
theorem pbB_parts {gr : GroupD} {bh m r : Int} {bl cs : List Int} (h : pbB gr bh bl m r cs = true) : baB gr bh bl = true ∧ (m = 0 ∨ m = 1) ∧ expB gr r = true ∧ cs.length = 3 ∧ cs.all (expB gr) = true := by
  unfold pbB at h
  simp only [Bool.and_eq_true, decide_eq_true_iff] at h
  exact ⟨h.1, by omega, h.2.2.1, h.2.2.2.1, h.2.2.2.2⟩
theorem all_three {f : Int → Bool} {l : List Int} (h : l.length = 3) (ha : l.all f = true) : f (nth l 0) = true ∧ f (nth l 1) = true ∧ f (nth l 2) = true := by
  rw [list_three h] at ha
  simpa using ha
theorem elT_bcI {gr : GroupD} (hgd : goodG gr = true) {c : Int} (hc : elB gr c = true) (k : Int) : elB gr (bcI gr c k) = true := by
  have hg := goodG_ok hgd
  unfold bcI
  by_cases h : k = 1
  · rw [if_pos h, mulT]; exact elT_mul hg hc (elT_pow hg (elT_gen hgd) _)
  · rw [if_neg h]; exact hc
theorem btX_ok {gr : GroupD} (hgd : goodG gr = true) {bh c : Int} (hh : elB gr bh = true) (hc : elB gr c = true) (k e z : Int) : elB gr (btX gr bh c k e z) = true ∧ powE gr bh z = mulL gr [btX gr bh c k e z, powE gr (bcI gr c k) e] := by
  have hg := goodG_ok hgd
  unfold btX
  have h1 := elT_bcI hgd hc k
  refine ⟨by rw [mulT]; exact elT_mul hg (elT_pow hg hh z) (elT_pow hg h1 _), ?_⟩
  rw [mulT, mulT, mul_cancel' hg (elT_pow hg hh z) h1]
theorem btS_ok {gr : GroupD} (hgd : goodG gr = true) {bh : Int} (hh : elB gr bh = true) {m : Int} (hm : m = 0 ∨ m = 1) (r w e : Int) : powE gr bh ((w + e * r) % gr.q) = mulL gr [powE gr bh w, powE gr (bcI gr (coM gr bh m r) m) e] := by
  have hg := goodG_ok hgd
  have h1 : bcI gr (coM gr bh m r) m = powE gr bh r := by
    unfold bcI
    rcases hm with rfl | rfl
    · rw [if_neg (by omega), coM_eq, powE_zero hg, Int.one_mul, elT_mod hg (elT_pow hg hh r)]
    · rw [if_pos rfl, coM_strip hgd hh]
  rw [h1, sigma_eq hg hh, mulT]
theorem bit_sum {q e c : Int} (hq : 0 < q) (he : 0 ≤ e ∧ e < q) : ((e - c) % q + c) % q = e ∧ (c + (e - c) % q) % q = e := by
  have h1 : ((e - c) % q + c) % q = e := by
    rw [Int.emod_add_emod, show e - c + c = e by omega]
    exact Int.emod_eq_of_lt he.1 he.2
  exact ⟨h1, by rw [Int.add_comm]; exact h1⟩
theorem bit_tail {gr : GroupD} {s : ByteArray} {bh m r : Int} {bl cs : List Int} (h : pbB gr bh bl m r cs = true) :
    cmB gr bh bl m r = true ∧ voA gr bh bl (cmR gr bh bl m r) = true ∧ vbR gr s bh bl (cmR gr bh bl m r) (pbR gr s bh bl m r cs) = true := by
  obtain ⟨hba, hm, hr, h3, hcs⟩ := pbB_parts h
  obtain ⟨hgd, hh, _, _, _⟩ := baB_parts hba
  obtain ⟨a1, a2, a3⟩ := all_three h3 hcs
  have hg := goodG_ok hgd
  have hq1 := hg.q1
  have hme : expB gr m = true := by
    unfold expB; rw [decide_eq_true_iff]; omega
  have hcm : cmB gr bh bl m r = true := by unfold cmB; rw [hba, hme, hr]; rfl
  have hc : cmR gr bh bl m r = coM gr bh m r := by unfold cmR; rw [if_pos hcm]
  have hel := elT_coM hgd hh m r
  have hA : voA gr bh bl (cmR gr bh bl m r) = true := by unfold voA; rw [hba, hc, hel]; rfl
  refine ⟨hcm, hA, ?_⟩
  unfold vbR
  rw [hA, Bool.true_and]
  unfold pbR
  rw [if_pos h, hc]
  have n0 : ∀ a b : Int, nth [a, b] 0 = a := fun a b => rfl
  have n1 : ∀ a b : Int, nth [a, b] 1 = b := fun a b => rfl
  have S := fun w e => btS_ok hgd hh hm r w e
  have X0 := fun k e z => (btX_ok hgd hh hel k e z).1
  have X1 := fun k e z => (btX_ok hgd hh hel k e z).2
  have B1 := fun l c => (bit_sum (c := c) (show 0 < gr.q by omega) (chV_bd hg s l)).1
  have B2 := fun l c => (bit_sum (c := c) (show 0 < gr.q by omega) (chV_bd hg s l)).2
  rcases hm with rfl | rfl
  · unfold btV fmB btD btK
    rw [if_pos rfl]
    simp only [n0, n1, Int.natCast_zero, Int.natCast_one, List.length_cons, List.length_nil, List.all_cons, List.all_nil, elT_pow hg hh, X0, expT hg, a2, a3, S, ← X1, btE, B1, Bool.and_true, Bool.and_self, beq_self_eq_true, decide_true]
  · unfold btV fmB btD btK
    rw [if_neg (by omega)]
    simp only [n0, n1, Int.natCast_zero, Int.natCast_one, List.length_cons, List.length_nil, List.all_cons, List.all_nil, elT_pow hg hh, X0, expT hg, a2, a3, S, ← X1, btE, B2, Bool.and_true, Bool.and_self, beq_self_eq_true, decide_true]
end Go.Proofs.Ytboahnklilmdpaa
