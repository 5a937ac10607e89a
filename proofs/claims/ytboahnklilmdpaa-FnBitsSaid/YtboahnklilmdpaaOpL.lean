/- Proofs of openings, of sums, of bits: the plain laws. -/
import Derived.Test.YtboahnklilmdpaaComL
import Derived.Test.YtboahnklilmdpaaBg
import Derived.Test.YtboahnklilmdpaaBk
namespace Go.Proofs.Ytboahnklilmdpaa
open Go.RowKit
set_option linter.unusedSimpArgs false
set_option linter.unusedVariables false

theorem expV {gr : GroupD} (hg : OkG gr) (s : ByteArray) (l : List Int) : expB gr (chV gr s l) = true := by
  have := chV_bd hg s l
  unfold expB
  rw [decide_eq_true_iff]
  exact ⟨this.1, by omega⟩
/-- a proof of an opening: what is proved, the challenge -/
def opE (gr : GroupD) (s : ByteArray) (bh c x : Int) : Int := chV gr s [bh, c, x]
noncomputable def poB (gr : GroupD) (bh : Int) (bl : List Int) (m r : Int) (cs : List Int) : Bool := baB gr bh bl && ((expB gr m && expB gr r) && (decide (cs.length = 2) && cs.all (expB gr)))
def poD (gr : GroupD) (s : ByteArray) (bh m r : Int) (cs : List Int) : ProofD :=
  ⟨[coM gr bh (nth cs 0) (nth cs 1)], [opE gr s bh (coM gr bh m r) (coM gr bh (nth cs 0) (nth cs 1))],
   [(nth cs 0 + opE gr s bh (coM gr bh m r) (coM gr bh (nth cs 0) (nth cs 1)) * m) % gr.q, (nth cs 1 + opE gr s bh (coM gr bh m r) (coM gr bh (nth cs 0) (nth cs 1)) * r) % gr.q]⟩
noncomputable def poR (gr : GroupD) (s : ByteArray) (bh : Int) (bl : List Int) (m r : Int) (cs : List Int) : ProofD := if poB gr bh bl m r cs = true then poD gr s bh m r cs else ⟨[], [], []⟩
noncomputable def voA (gr : GroupD) (bh : Int) (bl : List Int) (c : Int) : Bool := baB gr bh bl && elB gr c
/-- the form of a proof: how many commits, challenges, responses, and that they are elements, exponents -/
def fmB (gr : GroupD) (d : ProofD) (a b c : Nat) : Bool := decide (d.c.length = a) && (decide (d.h.length = b) && (decide (d.r.length = c) && (d.c.all (elB gr) && (d.h.all (expB gr) && d.r.all (expB gr)))))
noncomputable def voV (gr : GroupD) (s : ByteArray) (bh c : Int) (d : ProofD) : Bool := fmB gr d 1 1 2 && ((nth d.h 0 == opE gr s bh c (nth d.c 0)) && (coM gr bh (nth d.r 0) (nth d.r 1) == mulL gr [nth d.c 0, powE gr c (opE gr s bh c (nth d.c 0))]))
noncomputable def voR (gr : GroupD) (s : ByteArray) (bh : Int) (bl : List Int) (c : Int) (d : ProofD) : Bool := voA gr bh bl c && voV gr s bh c d
theorem list_one {l : List Int} (h : l.length = 1) : l = [nth l 0] := by
  match l, h with
  | [a], _ => rfl
theorem list_two {l : List Int} (h : l.length = 2) : l = [nth l 0, nth l 1] := by
  match l, h with
  | [a, b], _ => rfl
theorem list_three {l : List Int} (h : l.length = 3) : l = [nth l 0, nth l 1, nth l 2] := by
  match l, h with
  | [a, b, c], _ => rfl
theorem list_four {l : List Int} (h : l.length = 4) : l = [nth l 0, nth l 1, nth l 2, nth l 3] := by
  match l, h with
  | [a, b, c, d], _ => rfl
theorem poB_parts {gr : GroupD} {bh m r : Int} {bl cs : List Int} (h : poB gr bh bl m r cs = true) : baB gr bh bl = true ∧ expB gr m = true ∧ expB gr r = true ∧ cs.length = 2 ∧ cs.all (expB gr) = true := by
  unfold poB at h
  simp only [Bool.and_eq_true, decide_eq_true_iff] at h
  exact ⟨h.1, h.2.1.1, h.2.1.2, h.2.2.1, h.2.2.2⟩
theorem coM_sigma {gr : GroupD} (hgd : goodG gr = true) {h : Int} (hh : elB gr h = true) (a b e m r : Int) : coM gr h ((a + e * m) % gr.q) ((b + e * r) % gr.q) = coM gr h a b * powE gr (coM gr h m r) e % gr.p := by
  have hg := goodG_ok hgd
  rw [coM_eq, coM_eq, coM_eq, sigma_eq hg (elT_gen hgd), sigma_eq hg hh, powE_mulB, ← Int.mul_emod, ← Int.mul_emod]
  congr 1
  ac_rfl
/-- a proof of an opening is accepted -/
theorem op_tail {gr : GroupD} {s : ByteArray} {bh m r : Int} {bl cs : List Int} (h : poB gr bh bl m r cs = true) :
    cmB gr bh bl m r = true ∧ voA gr bh bl (cmR gr bh bl m r) = true ∧ voR gr s bh bl (cmR gr bh bl m r) (poR gr s bh bl m r cs) = true := by
  obtain ⟨hba, hm, hr, h2, hcs⟩ := poB_parts h
  obtain ⟨hgd, hh, _, _, _⟩ := baB_parts hba
  have hg := goodG_ok hgd
  have hcm : cmB gr bh bl m r = true := by unfold cmB; rw [hba, hm, hr]; rfl
  have hc : cmR gr bh bl m r = coM gr bh m r := by unfold cmR; rw [if_pos hcm]
  have hA : voA gr bh bl (cmR gr bh bl m r) = true := by unfold voA; rw [hba, hc, elT_coM hgd hh]; rfl
  refine ⟨hcm, hA, ?_⟩
  unfold voR
  rw [hA, Bool.true_and]
  unfold poR
  rw [if_pos h, hc]
  unfold voV fmB poD
  simp only [nth, List.getD_cons_zero, List.getD_cons_succ, List.length_cons, List.length_nil, List.all_cons, List.all_nil, elT_coM hgd hh, expT hg, opE, expV hg, coM_sigma hgd hh, mulT, Bool.and_true, Bool.and_self, beq_self_eq_true, decide_true]
/-- what the program's check looks at: the challenge need not be tested -/
noncomputable def voP (gr : GroupD) (s : ByteArray) (bh c : Int) (d : ProofD) : Bool := decide (d.c.length = 1) && (decide (d.h.length = 1) && (decide (d.r.length = 2) && (elB gr (nth d.c 0) && (d.r.all (expB gr) && ((nth d.h 0 == opE gr s bh c (nth d.c 0)) && (coM gr bh (nth d.r 0) (nth d.r 1) == mulL gr [nth d.c 0, powE gr c (opE gr s bh c (nth d.c 0))]))))))
theorem voP_eq {gr : GroupD} (hg : OkG gr) (s : ByteArray) (bh c : Int) (d : ProofD) : voP gr s bh c d = voV gr s bh c d := by
  obtain ⟨cl, hl, rl⟩ := d
  unfold voP voV fmB
  simp only []
  by_cases h1 : cl.length = 1
  · by_cases h2 : hl.length = 1
    · rw [list_one h1, list_one h2]
      generalize nth cl 0 = x
      generalize nth hl 0 = e
      have e1 : nth [x] 0 = x := rfl
      have e2 : nth [e] 0 = e := rfl
      rw [e1, e2]
      by_cases h3 : e = opE gr s bh c x
      · have h4 : expB gr e = true := by rw [h3]; exact expV hg s _
        simp only [List.all_cons, List.all_nil, h4, Bool.and_true, Bool.true_and, List.length_cons, List.length_nil, decide_true]
        simp only [Bool.and_assoc]
      · have h4 : (e == opE gr s bh c x) = false := beq_eq_false_iff_ne.2 h3
        rw [h4]
        simp only [Bool.false_and, Bool.and_false]
    · simp [h2]
  · simp [h1]
end Go.Proofs.Ytboahnklilmdpaa
