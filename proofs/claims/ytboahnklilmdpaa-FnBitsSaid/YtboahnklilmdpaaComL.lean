/- Commitments: the plain laws. -/
import Derived.Test.YtboahnklilmdpaaCom2
import Derived.Test.YtboahnklilmdpaaEuL
namespace Go.Proofs.Ytboahnklilmdpaa
open Go.RowKit
set_option linter.unusedSimpArgs false
set_option linter.unusedVariables false

theorem coM_eq (gr : GroupD) (h m r : Int) : coM gr h m r = powE gr gr.g m * powE gr h r % gr.p := mulT _ _
theorem elT_coM {gr : GroupD} (hgd : goodG gr = true) {h : Int} (hh : elB gr h = true) (m r : Int) : elB gr (coM gr h m r) = true := by
  have hg := goodG_ok hgd
  rw [coM_eq]
  exact elT_mul hg (elT_pow hg (elT_gen hgd) m) (elT_pow hg hh r)
/-- commitments multiply to the commitment of the sum -/
theorem coM_add {gr : GroupD} (hgd : goodG gr = true) {h : Int} (hh : elB gr h = true) (m r n s : Int) : coM gr h (m + n) (r + s) = coM gr h m r * coM gr h n s % gr.p := by
  have hg := goodG_ok hgd
  rw [coM_eq, coM_eq, coM_eq, powE_add hg (elT_gen hgd), powE_add hg hh, ← Int.mul_emod, ← Int.mul_emod]
  congr 1
  ac_rfl
theorem coM_emod (gr : GroupD) (h m r : Int) : coM gr h (m % gr.q) (r % gr.q) = coM gr h m r := by
  rw [coM_eq, coM_eq, powE_emod, powE_emod]
theorem com_tail {gr : GroupD} {bh m r : Int} {bl : List Int} (h : cmB gr bh bl m r = true) :
    coB gr bh bl (cmR gr bh bl m r) m r = true ∧ coR gr bh bl (cmR gr bh bl m r) m r = true ∧ ccB gr [cmR gr bh bl m r, cmR gr bh bl m r] [1, 1] = true ∧ cmB gr bh bl (2 * m % gr.q) (2 * r % gr.q) = true ∧ cmR gr bh bl (2 * m % gr.q) (2 * r % gr.q) = ccR gr [cmR gr bh bl m r, cmR gr bh bl m r] [1, 1] := by
  obtain ⟨hba, hm, hr⟩ := cmB_parts h
  obtain ⟨hgd, hh, _, hlen, _⟩ := baB_parts hba
  have hg := goodG_ok hgd
  have hc : cmR gr bh bl m r = coM gr bh m r := by unfold cmR; rw [if_pos h]
  have hel : elB gr (cmR gr bh bl m r) = true := by rw [hc]; exact elT_coM hgd hh m r
  have h2 : cmB gr bh bl (2 * m % gr.q) (2 * r % gr.q) = true := by
    unfold cmB; rw [hba, expT hg, expT hg]; rfl
  have hco : coB gr bh bl (cmR gr bh bl m r) m r = true := by unfold coB; rw [h, hel]; rfl
  have h1e : expB gr 1 = true := by
    unfold expB; rw [decide_eq_true_iff]; have := hg.q1; exact ⟨by omega, by omega⟩
  have hpp : ppB gr [cmR gr bh bl m r, cmR gr bh bl m r] [1, 1] = true := by
    unfold ppB
    rw [hgd]
    simp [hel, h1e]
  refine ⟨hco, ?_, ?_, h2, ?_⟩
  · unfold coR; rw [hco]; simp
  · unfold ccB; rw [hpp]; rfl
  · unfold cmR
    rw [if_pos h2, coM_emod, if_pos h]
    have hcc : ccR gr [coM gr bh m r, coM gr bh m r] [1, 1] = prodL gr [coM gr bh m r, coM gr bh m r] [1, 1] := by
      rw [hc] at hpp
      unfold ccR ppR; rw [if_pos (by simp), if_pos hpp]
    rw [hcc, show 2 * m = m + m by omega, show 2 * r = r + r by omega, coM_add hgd hh]
    have hel' := elT_coM hgd hh m r
    unfold prodL
    simp only [List.zip_cons_cons, List.zip_nil_right, List.foldl_cons, List.foldl_nil, powE_single hg hel', Int.one_mul]
    rw [elT_mod hg hel']
/-- valid arguments of an equivocation -/
noncomputable def eqB (gr : GroupD) (t m r o : Int) : Bool := goodG gr && ((expB gr t && (expB gr m && (expB gr r && expB gr o))) && (t != 0))
/-- what an equivocation answers, from the inverse that was found -/
theorem eq_tail {gr : GroupD} {t m r o y : Int} (h : eqB gr t m r o = true) (hy : t * y % gr.q = 1) : (m + t * r) % gr.q = (o + t * ((r + (m - o) % gr.q * y) % gr.q)) % gr.q := by
  have e1 : (o + t * ((r + (m - o) % gr.q * y) % gr.q)) % gr.q = (o + t * (r + (m - o) % gr.q * y)) % gr.q := by
    rw [Int.add_emod, emod_mul_right, ← Int.add_emod]
  have e2 : t * (r + (m - o) % gr.q * y) = t * r + (m - o) % gr.q * (t * y) := by
    rw [Int.mul_add]; congr 1; ac_rfl
  have e3 : ((m - o) % gr.q * (t * y)) % gr.q = (m - o) % gr.q := by
    rw [← emod_mul_right, hy, Int.mul_one, Int.emod_emod]
  rw [e1, e2, ← Int.add_assoc, Int.add_emod (o + t * r), e3, ← Int.add_emod]
  congr 1
  omega
theorem eqB_parts {gr : GroupD} {t m r o : Int} (h : eqB gr t m r o = true) : goodG gr = true ∧ expB gr t = true ∧ expB gr m = true ∧ expB gr r = true ∧ expB gr o = true ∧ 0 < t ∧ t < gr.q := by
  unfold eqB at h
  simp only [Bool.and_eq_true, bne_iff_ne] at h
  obtain ⟨h1, ⟨h2, h3, h4, h5⟩, h6⟩ := h
  have := expB_bd h2
  exact ⟨h1, h2, h3, h4, h5, by omega, by omega⟩
end Go.Proofs.Ytboahnklilmdpaa
