/- Decoding of records: what is computed, and its plain laws. -/
import Derived.Test.YtbcaknmpbkapnaaSplitP
import Derived.Test.YtbcaknmpbkapnaaSea2
import Derived.Test.YtbcaknmpbkapnaaStg2
namespace Go.Proofs.Ytbcaknmpbkapnaa
set_option linter.unusedSimpArgs false
set_option linter.unusedVariables false

/-! ### proofs -/
def dpB (l : List Int) : Bool := recB l && (tokB l && (tokB (takeR l) && (tokB (takeR (takeR l)) && decide ((takeR (takeR (takeR l))).length = 0))))
def dpV (l : List Int) : ProofD := ⟨takeX l, takeX (takeR l), takeX (takeR (takeR l))⟩
def zeroP : ProofD := ⟨[], [], []⟩
def dpD (l : List Int) : ProofD := if dpB l = true then dpV l else zeroP
theorem epL_dp {l : List Int} (h : dpB l = true) : epL (dpD l) = l := by
  unfold dpD; rw [if_pos h]
  unfold dpB at h; simp only [Bool.and_eq_true, decide_eq_true_eq] at h
  obtain ⟨_, h1, h2, h3, h4⟩ := h
  have e1 := take_eq h1
  have e2 := take_eq h2
  have e3 := take_eq h3
  have e4 : takeR (takeR (takeR l)) = [] := List.eq_nil_of_length_eq_zero h4
  unfold epL dpV
  simp only [List.flatten_cons, List.flatten_nil]
  rw [e4] at e3
  rw [← e3, ← e2, ← e1]
theorem listR_take {l : List Int} {b : Bool} (h : tokB l = true) : listR (l, b) = (takeX l, (takeR l, b)) := by
  have := listR_cnt (takeX l) (takeR l) b
  rwa [← take_eq h] at this
theorem nextR_off {s : List Int × Bool} (h : s.2 = false) : (nextR s).2.2 = false := by
  unfold nextR; split <;> simp [h]
theorem listR_off {s : List Int × Bool} (h : s.2 = false) : (listR s).2.2 = false := by
  unfold listR; split
  · exact nextR_off h
  · rfl
theorem listR_no {l : List Int} {b : Bool} (h : tokB l = false) : (listR (l, b)).2.2 = false := by
  cases l with
  | nil => simp [listR, nextR]
  | cons a l =>
    have hn : nextR (a :: l, b) = (a, (l, b)) := rfl
    unfold listR
    rw [hn]
    dsimp only
    rw [if_neg]
    rintro ⟨h1, h2⟩
    have : tokB (a :: l) = true := by
      unfold tokB
      simp only [nth, List.length_cons, List.getD_cons_zero]
      simp; omega
    rw [h] at this; cases this
def dq1 (l : List Int) : List Int × (List Int × Bool) := listR (l, recB l)
def dq2 (l : List Int) : List Int × (List Int × Bool) := listR (dq1 l).2
def dq3 (l : List Int) : List Int × (List Int × Bool) := listR (dq2 l).2
def dqB (l : List Int) : Bool := (dq3 l).2.2 && decide ((dq3 l).2.1.length = 0)
theorem dq_ok {l : List Int} (h : recB l = true) (h1 : tokB l = true) : dq1 l = (takeX l, (takeR l, true)) := by
  unfold dq1; rw [h]; exact listR_take h1
theorem dqB_eq (l : List Int) : dqB l = dpB l := by
  unfold dqB dpB
  cases h0 : recB l with
  | false =>
    have h3 : (dq3 l).2.2 = false := by
      unfold dq3 dq2 dq1; rw [h0]
      exact listR_off (listR_off (listR_off rfl))
    rw [h3]; rfl
  | true =>
    cases h1 : tokB l with
    | false =>
      have h3 : (dq3 l).2.2 = false := by
        unfold dq3 dq2 dq1
        exact listR_off (listR_off (listR_no h1))
      rw [h3]; rfl
    | true =>
      have e1 := dq_ok h0 h1
      cases h2 : tokB (takeR l) with
      | false =>
        have h3 : (dq3 l).2.2 = false := by
          unfold dq3 dq2; rw [e1]
          exact listR_off (listR_no h2)
        rw [h3]; rfl
      | true =>
        have e2 : dq2 l = (takeX (takeR l), (takeR (takeR l), true)) := by unfold dq2; rw [e1]; exact listR_take h2
        cases h4 : tokB (takeR (takeR l)) with
        | false =>
          have h3 : (dq3 l).2.2 = false := by unfold dq3; rw [e2]; exact listR_no h4
          rw [h3]; rfl
        | true =>
          have e3 : dq3 l = (takeX (takeR (takeR l)), (takeR (takeR (takeR l)), true)) := by unfold dq3; rw [e2]; exact listR_take h4
          rw [e3]; simp
theorem dq_parts {l : List Int} (h : dpB l = true) : (dq1 l).1 = takeX l ∧ (dq2 l).1 = takeX (takeR l) ∧ (dq3 l).1 = takeX (takeR (takeR l)) := by
  unfold dpB at h; simp only [Bool.and_eq_true, decide_eq_true_eq] at h
  obtain ⟨h0, h1, h2, h3, _⟩ := h
  have e1 := dq_ok h0 h1
  have e2 : dq2 l = (takeX (takeR l), (takeR (takeR l), true)) := by unfold dq2; rw [e1]; exact listR_take h2
  have e3 : dq3 l = (takeX (takeR (takeR l)), (takeR (takeR (takeR l)), true)) := by unfold dq3; rw [e2]; exact listR_take h3
  rw [e1, e2, e3]; exact ⟨rfl, rfl, rfl⟩
theorem dq_len (l : List Int) : (dq1 l).2.1.length ≤ l.length ∧ (dq2 l).2.1.length ≤ l.length := by
  have h1 : (dq1 l).1.length + (dq1 l).2.1.length ≤ l.length := listR_len (l, recB l)
  have h2 : (dq2 l).1.length + (dq2 l).2.1.length ≤ (dq1 l).2.1.length := listR_len (dq1 l).2
  omega
theorem szP_dp (l : List Int) : szProof (dpD l) ≤ l.length := by
  cases h : dpB l with
  | false => unfold dpD; rw [if_neg (by rw [h]; simp)]; simp [szProof, zeroP]
  | true =>
    have := epL_length (dpD l)
    rw [epL_dp h] at this; omega
/-! ### ciphertexts -/
def dcB (l : List Int) : Bool := recB l && (decide (0 < l.length) && decide ((l.length : Int) = 1 + 2 * nth l 0))
def dcN (l : List Int) : Nat → List CipherD
  | 0 => []
  | k + 1 => dcN l k ++ [⟨nth l (2 * k), nth l (2 * k + 1)⟩]
def dcD (l : List Int) : List CipherD := if dcB l = true then dcN (l.drop 1) (nth l 0).toNat else []
theorem dcN_len (l : List Int) (k : Nat) : (dcN l k).length = k := by
  induction k with
  | zero => rfl
  | succ k ih => simp [dcN, ih]
theorem dcN_flat {l : List Int} : ∀ k, 2 * k ≤ l.length → ((dcN l k).map two).flatten = l.take (2 * k) := by
  intro k
  induction k with
  | zero => intro _; simp [dcN]
  | succ k ih =>
    intro h
    unfold dcN
    rw [List.map_append, List.flatten_append, ih (by omega)]
    have e1 : l.take (2 * k + 1) = l.take (2 * k) ++ [nth l (2 * k)] := by rw [List.take_succ_eq_append_getElem (by omega), nth_eq (by omega)]
    have e2 : l.take (2 * k + 1 + 1) = l.take (2 * k + 1) ++ [nth l (2 * k + 1)] := by rw [List.take_succ_eq_append_getElem (by omega), nth_eq (by omega)]
    rw [show 2 * (k + 1) = 2 * k + 1 + 1 by omega, e2, e1]
    simp [two]
theorem dcB_parts {l : List Int} (h : dcB l = true) : recB l = true ∧ 0 < l.length ∧ (l.length : Int) = 1 + 2 * nth l 0 := by
  unfold dcB at h; simpa only [Bool.and_eq_true, decide_eq_true_eq] using h
theorem cipL_dc {l : List Int} (h : dcB l = true) : cipL (dcD l) = l := by
  obtain ⟨h0, h1, h2⟩ := dcB_parts h
  have h3 := recB_nonneg h0 h1
  unfold dcD; rw [if_pos h]
  unfold cipL
  rw [dcN_len, dcN_flat _ (by rw [List.length_drop]; omega), List.take_of_length_le (by rw [List.length_drop]; omega), Int.toNat_of_nonneg h3]
  cases l with
  | nil => simp at h1
  | cons a l => rfl
theorem dcB_cip {l : List Int} {cs : List CipherD} (h0 : recB l = true) (h : cipL cs = l) : dcB l = true := by
  subst h
  unfold dcB
  rw [h0]
  have : nth (cipL cs) 0 = cs.length := rfl
  rw [this, cipL_length]
  simp; omega
/-- the program's reading of pairs -/
def nxR (s : List Int × Bool) : Nat → List CipherD × (List Int × Bool)
  | 0 => ([], s)
  | k + 1 => ((nxR s k).1 ++ [⟨(nextR (nxR s k).2).1, (nextR (nextR (nxR s k).2).2).1⟩], (nextR (nextR (nxR s k).2).2).2)
theorem nxR_len (s : List Int × Bool) (k : Nat) : (nxR s k).1.length = k := by
  induction k with
  | zero => rfl
  | succ k ih => simp [nxR, ih]
theorem nxR_rest (s : List Int × Bool) (k : Nat) : (nxR s k).2.1.length ≤ s.1.length := by
  induction k with
  | zero => exact Nat.le_refl _
  | succ k ih =>
    have h1 := nextR_len (nxR s k).2
    have h2 := nextR_len (nextR (nxR s k).2).2
    unfold nxR; dsimp only; omega
theorem nxR_off {s : List Int × Bool} (h : s.2 = false) (k : Nat) : (nxR s k).2.2 = false := by
  induction k with
  | zero => exact h
  | succ k ih => unfold nxR; dsimp only; exact nextR_off (nextR_off ih)
theorem nextR_drop {l : List Int} {b : Bool} {j : Nat} (h : j < l.length) : nextR (l.drop j, b) = (nth l j, (l.drop (j + 1), b)) := by
  rw [List.drop_eq_getElem_cons h, nth_eq h]; rfl
theorem nxR_on {l : List Int} : ∀ k, 2 * k ≤ l.length → nxR (l, true) k = (dcN l k, (l.drop (2 * k), true)) := by
  intro k
  induction k with
  | zero => intro _; simp [nxR, dcN]
  | succ k ih =>
    intro h
    unfold nxR dcN
    rw [ih (by omega)]
    dsimp only
    rw [nextR_drop (by omega)]
    dsimp only
    rw [nextR_drop (by omega)]
    rfl
def dcK (l : List Int) : Nat := (min (nextR (l, recB l)).1 (l.length : Int)).toNat
def dcS (l : List Int) : List CipherD × (List Int × Bool) := nxR (nextR (l, recB l)).2 (dcK l)
def goodC (l : List Int) : Bool := ((dcS l).2.2 && decide ((dcS l).2.1.length = 0)) && (recB (cipL (dcS l).1) && decide (cipR (dcS l).1 = l))
theorem goodC_eq (l : List Int) : goodC l = dcB l := by
  cases h : dcB l with
  | true =>
    obtain ⟨h0, h1, h2⟩ := dcB_parts h
    have h3 := recB_nonneg h0 h1
    have hc := cipL_dc h
    have e0 : nextR (l, recB l) = (nth l 0, (l.drop 1, true)) := by
      rw [h0]; have := nextR_drop (l := l) (b := true) (j := 0) h1; simpa using this
    have hk : dcK l = (nth l 0).toNat := by unfold dcK; rw [e0]; dsimp only; omega
    have hs : dcS l = (dcD l, ([], true)) := by
      unfold dcS; rw [hk, e0]; dsimp only
      rw [nxR_on _ (by rw [List.length_drop]; omega)]
      have e9 : (l.drop 1).drop (2 * (nth l 0).toNat) = [] := List.drop_eq_nil_of_le (by rw [List.length_drop]; omega)
      unfold dcD; rw [if_pos h, e9]
    unfold goodC; rw [hs]
    simp only [hc, h0, cipR]
    simp
  | false =>
    cases hg : goodC l with
    | false => rfl
    | true =>
      unfold goodC at hg
      simp only [Bool.and_eq_true, decide_eq_true_eq] at hg
      obtain ⟨⟨_, _⟩, g3, g4⟩ := hg
      unfold cipR at g4; rw [if_pos g3] at g4
      rw [dcB_cip (g4 ▸ g3) g4] at h; cases h
theorem cipL_inj {a b : List CipherD} (h : cipL a = cipL b) : a = b := by
  unfold cipL at h
  injection h with h1 h2
  clear h1
  induction a generalizing b with
  | nil => cases b with
    | nil => rfl
    | cons y b => simp [two] at h2
  | cons x a ih => cases b with
    | nil => simp [two] at h2
    | cons y b =>
      simp only [List.map_cons, List.flatten_cons, two, List.cons_append, List.nil_append, List.cons.injEq] at h2
      obtain ⟨h3, h4, h5⟩ := h2
      rw [ih h5]
      cases x; cases y; simp_all
theorem goodC_D {l : List Int} (h : goodC l = true) : (dcS l).1 = dcD l := by
  have h1 : dcB l = true := by rw [← goodC_eq]; exact h
  unfold goodC at h
  simp only [Bool.and_eq_true, decide_eq_true_eq] at h
  obtain ⟨⟨_, _⟩, g3, g4⟩ := h
  unfold cipR at g4; rw [if_pos g3] at g4
  exact cipL_inj (g4.trans (cipL_dc h1).symm)
theorem dcD_no {l : List Int} (h : goodC l = false) : dcD l = [] := by
  rw [goodC_eq] at h; unfold dcD; rw [if_neg (by rw [h]; simp)]
theorem dcD_len (l : List Int) : 2 * (dcD l).length ≤ l.length := by
  cases h : dcB l with
  | false => unfold dcD; rw [if_neg (by rw [h]; simp)]; simp
  | true =>
    have := cipL_length (dcD l)
    rw [cipL_dc h] at this; omega
/-! ### sealed ballots -/
def rwA (ls : List (List Int)) (i : Nat) : List Int := ls.getD i []
def nthP (ps : List ProofD) (i : Nat) : ProofD := ps.getD i zeroP
def soC (l : List Int) : Bool := splitB l && (decide (3 ≤ (splitL l).length) && decide ((rwA (splitL l) 0).length = 1))
def soP (l : List Int) : List ProofD := ((splitL l).drop 2).map dpD
def soX (l : List Int) : SealedD := ⟨nth (rwA (splitL l) 0) 0, dcD (rwA (splitL l) 1), (soP l).take ((soP l).length - 1), nthP (soP l) ((soP l).length - 1)⟩
def soOk (l : List Int) : Bool := dcB (rwA (splitL l) 1) && ((splitL l).drop 2).all dpB
def soB (l : List Int) : Bool := soC l && (decide (nth (rwA (splitL l) 0) 0 ≤ 999999) && soOk l)
def soD (l : List Int) : SealedD := if soB l = true then soX l else ⟨0, [], [], zeroP⟩
theorem splitB_eq {l : List Int} (h : splitB l = true) : recB l = true ∧ l = joinL (splitL l) := by
  unfold splitB at h
  cases hr : splitR l with
  | none => rw [hr] at h; cases h
  | some out =>
    have hl : splitL l = out := by unfold splitL; rw [hr]; rfl
    rw [hl]; exact splitR_iff.1 hr
theorem soC_parts {l : List Int} (h : soC l = true) : splitB l = true ∧ 3 ≤ (splitL l).length ∧ (rwA (splitL l) 0).length = 1 := by
  unfold soC at h; simpa only [Bool.and_eq_true, decide_eq_true_eq] using h
theorem rwA_mem {ls : List (List Int)} {i : Nat} (h : i < ls.length) : rwA ls i ∈ ls := by
  have e : rwA ls i = ls[i] := by simp [rwA, List.getD, h]
  rw [e]; exact List.getElem_mem h
theorem rwA_eq {ls : List (List Int)} {i : Nat} (h : i < ls.length) : rwA ls i = ls[i] := by simp [rwA, List.getD, h]
theorem one_list {a : List Int} (h : a.length = 1) : [nth a 0] = a := by
  cases a with
  | nil => simp at h
  | cons x a => cases a with
    | nil => rfl
    | cons y a => simp at h
theorem map_ep {ls : List (List Int)} (h : ls.all dpB = true) : (ls.map dpD).map epL = ls := by
  induction ls with
  | nil => rfl
  | cons a ls ih =>
    simp only [List.all_cons, Bool.and_eq_true] at h
    rw [List.map_cons, List.map_cons, epL_dp h.1, ih h.2]
theorem take_last {ps : List ProofD} (h : 0 < ps.length) : ps.take (ps.length - 1) ++ [nthP ps (ps.length - 1)] = ps := by
  have e : nthP ps (ps.length - 1) = ps[ps.length - 1]'(by omega) := by simp [nthP, List.getD, show ps.length - 1 < ps.length by omega]
  rw [e, ← List.take_succ_eq_append_getElem (by omega), List.take_of_length_le (by omega)]
theorem so_parts {l : List Int} (hc : soC l = true) (ho : soOk l = true) : seaParts (soX l) = splitL l := by
  obtain ⟨_, h3, h1⟩ := soC_parts hc
  unfold soOk at ho
  rw [Bool.and_eq_true] at ho
  have hp : 0 < (soP l).length := by unfold soP; rw [List.length_map, List.length_drop]; omega
  unfold seaParts soX
  dsimp only
  rw [take_last hp, one_list h1, cipL_dc ho.1]
  unfold soP
  rw [map_ep ho.2, rwA_eq (by omega), rwA_eq (by omega), List.getElem_cons_drop, List.getElem_cons_drop]
  rfl
theorem so_impl {l : List Int} (hc : soC l = true) : (soOk l && (seaB (soX l) && decide (seaR (soX l) = l))) = soB l := by
  unfold soB
  rw [hc, Bool.true_and]
  cases ho : soOk l with
  | false => simp
  | true =>
    obtain ⟨hs, h3, h1⟩ := soC_parts hc
    obtain ⟨hr, hl⟩ := splitB_eq hs
    have hp := so_parts hc ho
    have hrj : recB (joinL (splitL l)) = true := hl ▸ hr
    have h0 : recB (rwA (splitL l) 0) = true := (recB_parts hrj).2 _ (rwA_mem (by omega))
    have hv := recB_nonneg h0 (by omega)
    have hb : seaB (soX l) = decide (nth (rwA (splitL l) 0) 0 ≤ 999999) := by
      unfold seaB; rw [hp, hrj, Bool.and_true]
      show voterB (nth (rwA (splitL l) 0) 0) = _
      unfold voterB
      rw [Bool.eq_iff_iff, decide_eq_true_iff, decide_eq_true_iff]
      exact ⟨fun h => h.2, fun h => ⟨hv, h⟩⟩
    rw [hb, Bool.true_and, Bool.and_true]
    cases hq : decide (nth (rwA (splitL l) 0) 0 ≤ 999999) with
    | false => rfl
    | true =>
      rw [Bool.true_and, decide_eq_true_iff]
      unfold seaR; rw [if_pos (by rw [hb, hq]), hp]; exact hl.symm
theorem sumD_le (ls : List (List Int)) : ((ls.map dpD).map szProof).sum ≤ (ls.map List.length).sum := by
  induction ls with
  | nil => exact Nat.le_refl _
  | cons a ls ih => have := szP_dp a; simp only [List.map_cons, List.sum_cons]; omega
theorem sum_take_le (l : List Nat) (k : Nat) : (l.take k).sum ≤ l.sum := by
  conv => rhs; rw [← List.take_append_drop k l, List.sum_append]
  exact Nat.le_add_right _ _
theorem sum_drop_le (l : List Nat) (k : Nat) : (l.drop k).sum ≤ l.sum := by
  conv => rhs; rw [← List.take_append_drop k l, List.sum_append]
  exact Nat.le_add_left _ _
theorem mem_le_sum {x : Nat} : ∀ {l : List Nat}, x ∈ l → x ≤ l.sum := by
  intro l
  induction l with
  | nil => intro h; cases h
  | cons a l ih =>
    intro h
    rw [List.sum_cons]
    rcases List.mem_cons.1 h with rfl | h
    · omega
    · have := ih h; omega
theorem row_len (l : List Int) (i : Nat) : (rwA (splitL l) i).length ≤ 400 := by
  by_cases h : i < (splitL l).length
  · have h1 := splitL_total l
    unfold total at h1
    have := mem_le_sum (List.mem_map_of_mem (f := List.length) (rwA_mem h))
    omega
  · unfold rwA; simp [List.getD, List.getElem?_eq_none (Nat.le_of_not_lt h)]
theorem splitL_len (l : List Int) : (splitL l).length ≤ 400 := by
  cases hs : splitB l with
  | false =>
    unfold splitB at hs; unfold splitL
    cases hr : splitR l with
    | none => simp
    | some out => rw [hr] at hs; cases hs
  | true =>
    obtain ⟨hr, hl⟩ := splitB_eq hs
    have := (recB_parts (hl ▸ hr : recB (joinL (splitL l)) = true)).1
    omega
theorem sz_ciphers (cs : List CipherD) : szCipherS cs = cs.length := by
  have : ∀ cs : List CipherD, (cs.map szCipher).sum = 0 := by
    intro cs; induction cs with
    | nil => rfl
    | cons a cs ih => rw [List.map_cons, List.sum_cons, ih]; rfl
  unfold szCipherS; rw [this]; omega
theorem so_sz (l : List Int) : szSealed (soX l) ≤ 2000 := by
  unfold szSealed soX szProofS
  dsimp only
  have h1 := dcD_len (rwA (splitL l) 1)
  have h2 := row_len l 1
  have h3 : (soP l).length ≤ 400 := by unfold soP; rw [List.length_map, List.length_drop]; have := splitL_len l; omega
  have hs : ((soP l).map szProof).sum ≤ 400 := by
    unfold soP
    refine Nat.le_trans (sumD_le _) ?_
    rw [List.map_drop]
    exact Nat.le_trans (sum_drop_le _ _) (splitL_total l)
  have h4 : (((soP l).take ((soP l).length - 1)).map szProof).sum ≤ 400 := by
    rw [List.map_take]; exact Nat.le_trans (sum_take_le _ _) hs
  have h5 : szProof (nthP (soP l) ((soP l).length - 1)) ≤ 400 := by
    by_cases h : (soP l).length - 1 < (soP l).length
    · have e : nthP (soP l) ((soP l).length - 1) = (soP l)[(soP l).length - 1] := by simp [nthP, List.getD, h]
      rw [e]
      exact Nat.le_trans (mem_le_sum (List.mem_map_of_mem (f := szProof) (List.getElem_mem h))) hs
    · have e : soP l = [] := List.eq_nil_of_length_eq_zero (by omega)
      rw [e]; simp [nthP, szProof, zeroP]
  rw [sz_ciphers, List.length_take]
  omega
/-! ### stages -/
def stN (l : List Int) : Nat := (splitL l).length
def stA (l : List Int) : Int := nth (rwA (splitL l) 0) 0
def stC (l : List Int) : Bool := splitB l && (decide (5 ≤ stN l) && decide ((rwA (splitL l) 0).length = 1))
def stF (l : List Int) : Bool := (decide (stA l = 1) && decide (stN l = 5)) || (decide (stA l = 2) && decide (stN l = 6))
def stOk (l : List Int) : Bool := dcB (rwA (splitL l) 1) && dpB (rwA (splitL l) (stN l - 1))
def stB (l : List Int) : Bool := stC l && (stF l && stOk l)
def zeroM : MatrixProofD := ⟨[], [], zeroP⟩
def zeroO : PolyProofD := ⟨[], [], [], zeroP⟩
def stX (l : List Int) : StageD := if stA l = 1 then ⟨1, dcD (rwA (splitL l) 1), ⟨rwA (splitL l) 2, rwA (splitL l) 3, dpD (rwA (splitL l) (stN l - 1))⟩, zeroO⟩
  else ⟨2, dcD (rwA (splitL l) 1), zeroM, ⟨rwA (splitL l) 2, rwA (splitL l) 3, rwA (splitL l) 4, dpD (rwA (splitL l) (stN l - 1))⟩⟩
def stD (l : List Int) : StageD := if stB l = true then stX l else ⟨0, [], zeroM, zeroO⟩
theorem stC_parts {l : List Int} (h : stC l = true) : splitB l = true ∧ 5 ≤ stN l ∧ (rwA (splitL l) 0).length = 1 := by
  unfold stC at h; simpa only [Bool.and_eq_true, decide_eq_true_eq] using h
theorem five_list {ls : List (List Int)} (h : ls.length = 5) : [rwA ls 0, rwA ls 1, rwA ls 2, rwA ls 3, rwA ls 4] = ls := by
  rcases ls with _ | ⟨a, _ | ⟨b, _ | ⟨c, _ | ⟨d, _ | ⟨e, _ | ⟨f, g⟩⟩⟩⟩⟩⟩ <;> simp at h
  rfl
theorem six_list {ls : List (List Int)} (h : ls.length = 6) : [rwA ls 0, rwA ls 1, rwA ls 2, rwA ls 3, rwA ls 4, rwA ls 5] = ls := by
  rcases ls with _ | ⟨a, _ | ⟨b, _ | ⟨c, _ | ⟨d, _ | ⟨e, _ | ⟨f, _ | ⟨g, k⟩⟩⟩⟩⟩⟩⟩ <;> simp at h
  rfl
theorem st_parts {l : List Int} (hc : stC l = true) (hf : stF l = true) (ho : stOk l = true) : stgParts (stX l) = splitL l ∧ stgE (stX l) = true := by
  obtain ⟨_, h5, h1⟩ := stC_parts hc
  unfold stOk at ho
  rw [Bool.and_eq_true] at ho
  unfold stF at hf
  simp only [Bool.or_eq_true, Bool.and_eq_true, decide_eq_true_eq] at hf
  have hA : [stA l] = rwA (splitL l) 0 := one_list h1
  rcases hf with ⟨ha, hn⟩ | ⟨ha, hn⟩
  · have hX : stX l = ⟨1, dcD (rwA (splitL l) 1), ⟨rwA (splitL l) 2, rwA (splitL l) 3, dpD (rwA (splitL l) (stN l - 1))⟩, zeroO⟩ := by unfold stX; rw [if_pos ha]
    rw [hX]
    refine ⟨?_, rfl⟩
    unfold stgParts stgTail
    dsimp only
    rw [if_pos rfl, cipL_dc ho.1, epL_dp ho.2, hn]
    have := five_list (ls := splitL l) hn
    rw [← hA, ha] at this
    exact this
  · have hX : stX l = ⟨2, dcD (rwA (splitL l) 1), zeroM, ⟨rwA (splitL l) 2, rwA (splitL l) 3, rwA (splitL l) 4, dpD (rwA (splitL l) (stN l - 1))⟩⟩ := by unfold stX; rw [if_neg (by rw [ha]; decide)]
    rw [hX]
    refine ⟨?_, rfl⟩
    unfold stgParts stgTail
    dsimp only
    rw [if_neg (by decide), cipL_dc ho.1, epL_dp ho.2, hn]
    have := six_list (ls := splitL l) hn
    rw [← hA, ha] at this
    exact this
theorem st_impl {l : List Int} (hc : stC l = true) (hf : stF l = true) : (stOk l && (stgB (stX l) && decide (stgR (stX l) = l))) = stB l := by
  unfold stB
  rw [hc, hf, Bool.true_and, Bool.true_and]
  cases ho : stOk l with
  | false => simp
  | true =>
    obtain ⟨hs, h3, h1⟩ := stC_parts hc
    obtain ⟨hr, hl⟩ := splitB_eq hs
    obtain ⟨hp, he⟩ := st_parts hc hf ho
    have hrj : recB (joinL (splitL l)) = true := hl ▸ hr
    have hb : stgB (stX l) = true := by unfold stgB; rw [he, hp, hrj]; rfl
    rw [hb, Bool.true_and, Bool.true_and, decide_eq_true_iff]
    unfold stgR; rw [if_pos hb, hp]; exact hl.symm
theorem st_sz (l : List Int) : szStage (stX l) ≤ 4000 := by
  have h1 := dcD_len (rwA (splitL l) 1)
  have hr := row_len l
  have r1 := hr 1
  have r2 := hr 2
  have r3 := hr 3
  have r4 := hr 4
  have h2 := szP_dp (rwA (splitL l) (stN l - 1))
  have r5 := hr (stN l - 1)
  unfold stX
  split
  · unfold szStage szMatrixProof szPolyProof
    dsimp only
    rw [sz_ciphers]
    simp only [zeroO, zeroP, szProof] at *
    simp
    omega
  · unfold szStage szMatrixProof szPolyProof
    dsimp only
    rw [sz_ciphers]
    simp only [zeroM, zeroP, szProof] at *
    simp
    omega
end Go.Proofs.Ytbcaknmpbkapnaa
