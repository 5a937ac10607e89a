/- The plain law of SplitRecords: to read a joined record. -/
import Derived.Test.YtbcaknmpbkapnaaBa
namespace Go.Proofs.Ytbcaknmpbkapnaa
set_option linter.unusedSimpArgs false
set_option linter.unusedVariables false

/-- a list from the front may be taken -/
def tokB (l : List Int) : Bool := decide (0 < l.length) && (decide (0 ≤ nth l 0) && decide (nth l 0 < l.length))
def takeX (l : List Int) : List Int := (l.drop 1).take (nth l 0).toNat
def takeR (l : List Int) : List Int := l.drop ((nth l 0).toNat + 1)
theorem takeB_yes {l : List Int} (h : tokB l = true) : 0 < l.length ∧ 0 ≤ nth l 0 ∧ nth l 0 < l.length := by
  unfold tokB at h; simpa using h
theorem takeB_len {l : List Int} (h : tokB l = true) : (takeX l).length = (nth l 0).toNat := by
  have := takeB_yes h
  unfold takeX; rw [List.length_take, List.length_drop]; omega
theorem take_eq {l : List Int} (h : tokB l = true) : l = cnt (takeX l) ++ takeR l := by
  have h1 := takeB_yes h
  have h2 := takeB_len h
  cases l with
  | nil => simp at h1
  | cons a l =>
    unfold cnt
    rw [h2]
    simp only [takeX, takeR, nth, List.getD_cons_zero, List.drop_succ_cons, List.drop_zero] at *
    rw [List.cons_append, List.take_append_drop, Int.toNat_of_nonneg h1.2.1]
theorem take_cnt (x more : List Int) : tokB (cnt x ++ more) = true ∧ takeX (cnt x ++ more) = x ∧ takeR (cnt x ++ more) = more := by
  unfold tokB takeX takeR cnt
  simp only [nth, List.cons_append, List.length_cons, List.length_append, List.getD_cons_zero, List.drop_succ_cons, List.drop_zero, Int.toNat_natCast]
  refine ⟨?_, by simp, by simp⟩
  simp; omega
/-- the reference's reading: k lists -/
def parse : Nat → List Int → Option (List (List Int) × List Int)
  | 0, l => some ([], l)
  | k + 1, l => match parse k l with
    | none => none
    | some (out, rest) => if tokB rest = true then some (out ++ [takeX rest], takeR rest) else none
theorem parse_eq : ∀ {k : Nat} {l : List Int} {out : List (List Int)} {rest : List Int}, parse k l = some (out, rest) → l = (out.map cnt).flatten ++ rest ∧ out.length = k := by
  intro k
  induction k with
  | zero => intro l out rest h; simp only [parse, Option.some.injEq, Prod.mk.injEq] at h; obtain ⟨rfl, rfl⟩ := h; simp
  | succ k ih =>
    intro l out rest h
    unfold parse at h
    cases hp : parse k l with
    | none => rw [hp] at h; cases h
    | some x =>
      obtain ⟨o, r⟩ := x
      rw [hp] at h
      dsimp only at h
      split at h
      · rename_i ht
        simp only [Option.some.injEq, Prod.mk.injEq] at h
        obtain ⟨rfl, rfl⟩ := h
        obtain ⟨h1, h2⟩ := ih hp
        refine ⟨?_, by simp [h2]⟩
        rw [List.map_append, List.flatten_append, List.append_assoc]
        simp only [List.map_cons, List.map_nil, List.flatten_cons, List.flatten_nil, List.append_nil]
        rw [← take_eq ht]; exact h1
      · cases h
theorem parse_of : ∀ (out : List (List Int)) (more : List Int), ∀ k, k ≤ out.length → parse k ((out.map cnt).flatten ++ more) = some (out.take k, ((out.drop k).map cnt).flatten ++ more) := by
  intro out more k
  induction k with
  | zero => intro _; simp [parse]
  | succ k ih =>
    intro h
    unfold parse
    rw [ih (by omega)]
    dsimp only
    rw [← List.getElem_cons_drop (show k < out.length by omega), List.map_cons, List.flatten_cons, List.append_assoc]
    obtain ⟨h1, h2, h3⟩ := take_cnt out[k] (((out.drop (k + 1)).map cnt).flatten ++ more)
    rw [if_pos h1, h2, h3, ← List.take_succ_eq_append_getElem (by omega)]
/-- what SplitRecords returns -/
def splitR (l : List Int) : Option (List (List Int)) :=
  if recB l = true ∧ 0 < l.length ∧ nth l 0 ≤ l.length then
    match parse (nth l 0).toNat (l.drop 1) with
    | some (out, []) => some out
    | _ => none
  else none
theorem recB_nonneg {l : List Int} (h : recB l = true) (hl : 0 < l.length) : 0 ≤ nth l 0 := by
  unfold recB at h
  simp only [Bool.and_eq_true, List.all_eq_true] at h
  have := h.2 (nth l 0) (by rw [nth_eq hl]; exact List.getElem_mem _)
  unfold digestB at this
  simp only [decide_eq_true_eq] at this
  exact this.1
theorem splitR_iff {l : List Int} {out : List (List Int)} : splitR l = some out ↔ recB l = true ∧ l = joinL out := by
  unfold splitR
  constructor
  · intro h
    split at h
    · rename_i hc
      obtain ⟨hr, hl, hn⟩ := hc
      split at h
      · rename_i o hp
        simp only [Option.some.injEq] at h
        subst h
        obtain ⟨h1, h2⟩ := parse_eq hp
        refine ⟨hr, ?_⟩
        have h0 := recB_nonneg hr hl
        unfold joinL
        rw [h2, Int.toNat_of_nonneg h0]
        cases l with
        | nil => simp at hl
        | cons a l => simp only [List.drop_succ_cons, List.drop_zero, List.append_nil] at h1; rw [← h1]; rfl
      · cases h
    · cases h
  · rintro ⟨hr, rfl⟩
    have h0 : nth (joinL out) 0 = out.length := by simp [joinL, nth]
    have hlen : out.length ≤ (joinL out).length := by
      unfold joinL
      have : out.length ≤ ((out.map cnt).flatten).length := by
        clear hr h0
        induction out with
        | nil => simp
        | cons a out ih => simp only [List.map_cons, List.flatten_cons, List.length_append, List.length_cons, cnt]; omega
      simp only [List.length_cons]; omega
    rw [if_pos ⟨hr, by simp [joinL], by rw [h0]; omega⟩, h0, Int.toNat_natCast]
    have := parse_of out [] out.length (Nat.le_refl _)
    simp only [List.append_nil, List.take_length, List.drop_length, List.map_nil, List.flatten_nil] at this
    unfold joinL
    rw [List.drop_succ_cons, List.drop_zero, this]
/-- the program's reader: what is left, and whether all was right -/
def nextR (s : List Int × Bool) : Int × (List Int × Bool) := match s.1 with
  | [] => (0, ([], false))
  | a :: l => (a, (l, s.2))
def listR (s : List Int × Bool) : List Int × (List Int × Bool) :=
  if 0 ≤ (nextR s).1 ∧ (nextR s).1 ≤ (nextR s).2.1.length then ((nextR s).2.1.take (nextR s).1.toNat, ((nextR s).2.1.drop (nextR s).1.toNat, (nextR s).2.2)) else ([], ((nextR s).2.1, false))
def listsR : Nat → List Int × Bool → List (List Int) × (List Int × Bool)
  | 0, s => ([], s)
  | k + 1, s => ((listsR k s).1 ++ [(listR (listsR k s).2).1], (listR (listsR k s).2).2)
theorem listsR_length : ∀ (k : Nat) (s : List Int × Bool), (listsR k s).1.length = k := by
  intro k
  induction k with
  | zero => intro s; rfl
  | succ k ih => intro s; simp [listsR, ih]
theorem nextR_len (s : List Int × Bool) : (nextR s).2.1.length ≤ s.1.length := by
  unfold nextR; cases h : s.1 with
  | nil => simp
  | cons a l => simp
theorem listR_len (s : List Int × Bool) : (listR s).1.length + (listR s).2.1.length ≤ s.1.length := by
  have := nextR_len s
  unfold listR
  split
  · rw [List.length_take, List.length_drop]; omega
  · simp; omega
theorem listsR_total : ∀ (k : Nat) (s : List Int × Bool), total (listsR k s).1 + (listsR k s).2.1.length ≤ s.1.length := by
  intro k
  induction k with
  | zero => intro s; simp [listsR, total]
  | succ k ih =>
    intro s
    have h1 := ih s
    have h2 := listR_len (listsR k s).2
    simp only [listsR]
    unfold total at *
    rw [List.map_append, List.sum_append]
    simp only [List.map_cons, List.map_nil, List.sum_cons, List.sum_nil]
    omega
theorem listR_cnt (x more : List Int) (b : Bool) : listR (cnt x ++ more, b) = (x, (more, b)) := by
  have hn : nextR (cnt x ++ more, b) = ((x.length : Int), (x ++ more, b)) := rfl
  unfold listR
  rw [hn]
  have hc : 0 ≤ ((x.length : Int), (x ++ more, b)).1 ∧ ((x.length : Int), (x ++ more, b)).1 ≤ (((x.length : Int), (x ++ more, b)).2.1.length : Int) := by
    simp only [List.length_append]; omega
  rw [if_pos hc]
  simp
theorem listsR_of (out : List (List Int)) (more : List Int) (b : Bool) : ∀ k, k ≤ out.length → listsR k ((out.map cnt).flatten ++ more, b) = (out.take k, (((out.drop k).map cnt).flatten ++ more, b)) := by
  intro k
  induction k with
  | zero => intro _; simp [listsR]
  | succ k ih =>
    intro h
    unfold listsR
    rw [ih (by omega)]
    dsimp only
    rw [← List.getElem_cons_drop (show k < out.length by omega), List.map_cons, List.flatten_cons, List.append_assoc, listR_cnt, ← List.take_succ_eq_append_getElem (by omega)]
/-- how many lists the program reads -/
def splitK (l : List Int) : Nat := (min (nextR (l, recB l)).1 (l.length : Int)).toNat
def splitS (l : List Int) : List (List Int) × (List Int × Bool) := listsR (splitK l) (nextR (l, recB l)).2
def goodS (l : List Int) : Bool := ((splitS l).2.2 && decide ((splitS l).2.1.length = 0)) && (jrB (splitS l).1 && decide (jrL (splitS l).1 = l))
theorem goodS_yes {l : List Int} (h : goodS l = true) : splitR l = some (splitS l).1 := by
  unfold goodS at h
  simp only [Bool.and_eq_true, decide_eq_true_eq] at h
  obtain ⟨⟨_, _⟩, h3, h4⟩ := h
  rw [splitR_iff]
  unfold jrL at h4
  rw [if_pos h3] at h4
  unfold jrB at h3
  rw [h4] at h3
  exact ⟨h3, h4.symm⟩
theorem goodS_of {l : List Int} {out : List (List Int)} (h : splitR l = some out) : goodS l = true ∧ (splitS l).1 = out := by
  rw [splitR_iff] at h
  obtain ⟨hr, rfl⟩ := h
  have hn : nextR (joinL out, recB (joinL out)) = ((out.length : Int), ((out.map cnt).flatten, true)) := by unfold joinL at *; simp only [nextR]; rw [hr]
  have hlen : out.length ≤ (joinL out).length := by
    unfold joinL
    have : out.length ≤ ((out.map cnt).flatten).length := by
      clear hr hn
      induction out with
      | nil => simp
      | cons a out ih => simp only [List.map_cons, List.flatten_cons, List.length_append, List.length_cons, cnt]; omega
    simp only [List.length_cons]; omega
  have hk : splitK (joinL out) = out.length := by unfold splitK; rw [hn]; dsimp only; omega
  have hs : splitS (joinL out) = (out, ([], true)) := by
    unfold splitS
    rw [hk, hn]
    have := listsR_of out [] true out.length (Nat.le_refl _)
    simpa using this
  unfold goodS
  rw [hs]
  refine ⟨?_, rfl⟩
  have h1 : jrB out = true := hr
  simp [h1, jrL]
theorem goodS_no {l : List Int} (h : splitR l = none) : goodS l = false := by
  cases hg : goodS l with
  | false => rfl
  | true => rw [goodS_yes hg] at h; cases h
def splitB (l : List Int) : Bool := (splitR l).isSome
def splitL (l : List Int) : List (List Int) := (splitR l).getD []
theorem goodS_eq (l : List Int) : goodS l = splitB l := by
  unfold splitB
  cases h : splitR l with
  | none => exact goodS_no h
  | some out => exact (goodS_of h).1
theorem splitL_yes {l : List Int} (h : goodS l = true) : splitL l = (splitS l).1 := by unfold splitL; rw [goodS_yes h]; rfl
theorem splitL_no {l : List Int} (h : goodS l = false) : splitL l = [] := by
  rw [goodS_eq] at h; unfold splitB at h; unfold splitL
  cases hr : splitR l with
  | none => rfl
  | some out => rw [hr] at h; cases h
theorem flatten_cnt_length (out : List (List Int)) : ((out.map cnt).flatten).length = out.length + total out := by
  induction out with
  | nil => rfl
  | cons a out ih => simp only [List.map_cons, List.flatten_cons, List.length_append, List.length_cons, cnt, total, List.sum_cons] at *; omega
theorem splitL_total (l : List Int) : total (splitL l) ≤ 400 := by
  unfold splitL
  cases hr : splitR l with
  | none => simp [total]
  | some out =>
    rw [splitR_iff] at hr
    have h1 := recB_len hr.1
    rw [hr.2] at h1
    unfold joinL at h1
    rw [List.length_cons, flatten_cnt_length] at h1
    show total out ≤ 400
    omega
end Go.Proofs.Ytbcaknmpbkapnaa
