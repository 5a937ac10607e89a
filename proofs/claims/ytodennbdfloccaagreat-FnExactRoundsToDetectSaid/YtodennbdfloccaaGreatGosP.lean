/- Plain laws and memory: a round of gossip. -/
import Derived.Test.YtodennbdfloccaaGreatMerge7
import Derived.Test.YtodennbdfloccaaGreatKReaderS
import Derived.Test.YtodennbdfloccaaGreatBm
namespace Go.Proofs.YtodennbdfloccaaGreat
open Go.RowKit
set_option linter.unusedSimpArgs false
set_option linter.unusedVariables false

def rdrAt (o : List ReaderD) (i : Nat) : List HeadD := (o.getD i ⟨[]⟩).heads
theorem rdrAt_eq {o : List ReaderD} {i : Nat} (h : i < o.length) : rdrAt o i = o[i].heads := by simp [rdrAt, List.getD, h]
/-- one pair -/
def gStep (o : List ReaderD) (p : List Int) : Option (List ReaderD) :=
  if (mergeL (rdrAt o (nth p 0).toNat) (rdrAt o (nth p 1).toNat)).length ≤ 20 ∧ (mergeL (rdrAt o (nth p 1).toNat) (rdrAt o (nth p 0).toNat)).length ≤ 20 then
    some ((o.set (nth p 0).toNat ⟨mergeL (rdrAt o (nth p 0).toNat) (rdrAt o (nth p 1).toNat)⟩).set (nth p 1).toNat ⟨mergeL (rdrAt o (nth p 1).toNat) (rdrAt o (nth p 0).toNat)⟩)
  else none
def gAll (o : List ReaderD) (ps : List (List Int)) : Option (List ReaderD) := ps.foldl (fun acc p => acc.bind fun x => gStep x p) (some o)
theorem gAll_succ {o : List ReaderD} {ps : List (List Int)} {k : Nat} (h : k < ps.length) : gAll o (ps.take (k + 1)) = (gAll o (ps.take k)).bind fun x => gStep x ps[k] := by
  unfold gAll
  rw [List.take_succ_eq_append_getElem h, List.foldl_append]; rfl
theorem gfold_none : ∀ (ps : List (List Int)), ps.foldl (fun (acc : Option (List ReaderD)) p => acc.bind fun x => gStep x p) none = none
  | [] => rfl
  | p :: ps => by rw [List.foldl_cons]; exact gfold_none ps
theorem gAll_none {o : List ReaderD} {ps : List (List Int)} {k : Nat} (h : gAll o (ps.take k) = none) : gAll o ps = none := by
  have e : ps = ps.take k ++ ps.drop k := (List.take_append_drop k ps).symm
  unfold gAll at h ⊢
  rw [e, List.foldl_append, h]
  exact gfold_none _
theorem gStep_yes {o : List ReaderD} {p : List Int} (h1 : (mergeL (rdrAt o (nth p 0).toNat) (rdrAt o (nth p 1).toNat)).length ≤ 20) (h2 : (mergeL (rdrAt o (nth p 1).toNat) (rdrAt o (nth p 0).toNat)).length ≤ 20) :
    gStep o p = some ((o.set (nth p 0).toNat ⟨mergeL (rdrAt o (nth p 0).toNat) (rdrAt o (nth p 1).toNat)⟩).set (nth p 1).toNat ⟨mergeL (rdrAt o (nth p 1).toNat) (rdrAt o (nth p 0).toNat)⟩) := by
  unfold gStep; rw [if_pos ⟨h1, h2⟩]
theorem gStep_no {o : List ReaderD} {p : List Int} (h : ¬ ((mergeL (rdrAt o (nth p 0).toNat) (rdrAt o (nth p 1).toNat)).length ≤ 20 ∧ (mergeL (rdrAt o (nth p 1).toNat) (rdrAt o (nth p 0).toNat)).length ≤ 20)) : gStep o p = none := by
  unfold gStep; rw [if_neg h]
/-- heads that are few and small -/
def okH (l : List HeadD) : Prop := l.length ≤ 20 ∧ ∀ d ∈ l, (szHead d : Int) ≤ 1000000000
def okRs (o : List ReaderD) : Prop := o.length ≤ 8 ∧ ∀ r ∈ o, okH r.heads
theorem okH.small {l : List HeadD} (h : okH l) : smallH l := ⟨by have := h.1; omega, h.2⟩
theorem okRs.at_ {o : List ReaderD} (h : okRs o) {i : Nat} (hi : i < o.length) : okH (rdrAt o i) := by rw [rdrAt_eq hi]; exact h.2 _ (List.getElem_mem hi)
theorem mem_addH {out : List HeadD} {h x : HeadD} (hx : x ∈ addH out h) : x ∈ out ∨ x = h := by
  unfold addH at hx
  split at hx
  · exact .inl hx
  · rcases List.mem_append.1 hx with h1 | h1
    · exact .inl h1
    · exact .inr (by simpa using h1)
theorem mem_mergeL : ∀ {b a : List HeadD} {x : HeadD}, x ∈ mergeL a b → x ∈ a ∨ x ∈ b
  | [], a, x, h => .inl h
  | y :: b, a, x, h => by
    have h1 : x ∈ mergeL (addH a y) b := h
    rcases mem_mergeL h1 with h2 | h2
    · rcases mem_addH h2 with h3 | rfl
      · exact .inl h3
      · exact .inr (by simp)
    · exact .inr (List.mem_cons_of_mem _ h2)
theorem okH_merge {a b : List HeadD} (ha : okH a) (hb : okH b) (h : (mergeL a b).length ≤ 20) : okH (mergeL a b) :=
  ⟨h, fun d hd => by rcases mem_mergeL hd with h1 | h1; exact ha.2 d h1; exact hb.2 d h1⟩
theorem okRs_set {o : List ReaderD} (h : okRs o) {i : Nat} {r : ReaderD} (hr : okH r.heads) : okRs (o.set i r) :=
  ⟨by rw [List.length_set]; exact h.1, fun x hx => by
    rcases List.mem_or_eq_of_mem_set hx with h1 | rfl
    · exact h.2 x h1
    · exact hr⟩
theorem gStep_len {o o' : List ReaderD} {p : List Int} (h : gStep o p = some o') : o'.length = o.length := by
  unfold gStep at h
  split at h
  · cases h; simp
  · cases h
theorem gAll_len {ps : List (List Int)} : ∀ {o o' : List ReaderD}, gAll o ps = some o' → o'.length = o.length := by
  induction ps with
  | nil => intro o o' h; cases h; rfl
  | cons p ps ih =>
    intro o o' h
    unfold gAll at h
    rw [List.foldl_cons] at h
    cases hs : gStep o p with
    | none =>
      have : (some o : Option (List ReaderD)).bind (fun x => gStep x p) = none := hs
      rw [this, gfold_none] at h; cases h
    | some o1 =>
      have : (some o : Option (List ReaderD)).bind (fun x => gStep x p) = some o1 := hs
      rw [this] at h
      rw [ih (o := o1) h, gStep_len hs]
/-- the readers after a round; whether there is one -/
def gosB (o : List ReaderD) (ps : List (List Int)) : Bool := (gAll o ps).isSome
def gosL (o : List ReaderD) (ps : List (List Int)) : List ReaderD := (gAll o ps).getD []
theorem gos_no {o : List ReaderD} {ps : List (List Int)} (h : gAll o ps = none) : gosB o ps = false ∧ gosL o ps = [] := by unfold gosB gosL; rw [h]; exact ⟨rfl, rfl⟩
theorem gos_yes {o o' : List ReaderD} {ps : List (List Int)} (h : gAll o ps = some o') : gosB o ps = true ∧ gosL o ps = o' := by unfold gosB gosL; rw [h]; exact ⟨rfl, rfl⟩
/-- a row of one cell: another element in the place of one -/
theorem OwnR.put1 {δ : Type} {e : TypeId} {R : RowK δ} (hW : R.width = 1) {w : World} {lo hi g n c a b k : Nat} {ds : List δ} {x : Value} {d : δ} (h : OwnR e R w lo hi (.slice (some ⟨g, 0, none⟩) n c) ds) (hk : k < ds.length) (hx : R.own w a b [x] d) (ha : hi ≤ a) (hab : a ≤ b) (hb : b ≤ w.heap.size) (hlo : lo ≤ hi) :
    OwnR e R (w.setCell ⟨g, k, none⟩ x) lo b (.slice (some ⟨g, 0, none⟩) n c) (ds.set k d) := by
  obtain ⟨css, los, his, hl, hO, hg, hel, hd⟩ := h
  have hlen := OwnR.lens (e := e) hl hel
  have hn : ds.length = n := by
    rcases hO.2 with ⟨h1, _⟩ | ⟨g', c', cur, h1, _⟩
    · cases h1
    · cases h1; rfl
  have hgg := hg g rfl
  have hO2 : w.ownsRow lo e R.width (.slice (some ⟨g, 0, none⟩) n c) n (css.set k (css[k]'(by omega))).flatten := by rw [List.set_getElem_self, ← hn]; rw [← hn] at hO; exact hO
  have h1 := row_store (j := 0) (x := x) hO2 hlen (by omega) (by omega) (hlen _ (List.getElem_mem (by omega))) (by omega)
  have hck : (css[k]'(by omega)).length = 1 := by rw [hlen _ (List.getElem_mem (by omega)), hW]
  have hrow : (css[k]'(by omega)).set 0 x = [x] := by
    rcases hc : (css[k]'(by omega)) with _ | ⟨y, _ | ⟨z, l⟩⟩
    · rw [hc] at hck; simp at hck
    · rfl
    · rw [hc] at hck; simp at hck
  rw [hrow, hW] at h1
  have e1 : k * 1 + 0 = k := by omega
  rw [e1] at h1
  have hf : ∀ k', k' ≠ g → (w.setCell ⟨g, k, none⟩ x).heap[k']? = w.heap[k']? := fun k' hk' => heap_setCell_other w ⟨g, k, none⟩ k' x (fun e => hk' (by simpa using e))
  refine ⟨css.set k [x], fun i => if i = k then a else los i, fun i => if i = k then b else his i, by simpa using hl, by rw [List.length_set, hW, hn]; exact h1, fun g' hg' => ?_, fun i h1 h2 => ?_, fun i j hi hj hij => ?_⟩
  · cases hg'
    have hgl := hgg.1
    refine ⟨show g < b by omega, fun i hi => ?_⟩
    dsimp only
    by_cases hik : i = k
    · rw [if_pos hik]; exact .inl (show g < a by omega)
    · rw [if_neg hik, if_neg hik]; exact hgg.2 i (by simpa using hi)
  · have h2' : i < ds.length := by simpa using h2
    dsimp only
    by_cases hik : i = k
    · subst hik
      rw [if_pos rfl, if_pos rfl]
      refine ⟨?_, by omega, Nat.le_refl _⟩
      simp only [List.getElem_set_self]
      exact R.own_frame hx fun k' q1 q2 q3 => hf k' (by have := hgg.1; omega)
    · rw [if_neg hik, if_neg hik]
      have h3 := hel i (by omega) h2'
      refine ⟨?_, h3.2.1, by omega⟩
      rw [List.getElem_set_ne (Ne.symm hik), List.getElem_set_ne (Ne.symm hik)]
      refine R.own_frame h3.1 fun k' q1 q2 q3 => hf k' (fun e => ?_)
      have := hgg.2 i h2'
      omega
  · dsimp only
    have hi' : i < ds.length := by simpa using hi
    have hj' : j < ds.length := by simpa using hj
    by_cases hik : i = k
    · rw [if_pos hik, if_pos hik, if_neg (by omega), if_neg (by omega)]
      have := (hel j (by omega) hj').2.2
      exact .inr (by omega)
    · by_cases hjk : j = k
      · rw [if_neg hik, if_neg hik, if_pos hjk, if_pos hjk]
        have := (hel i (by omega) hi').2.2
        exact .inl (by omega)
      · rw [if_neg hik, if_neg hik, if_neg hjk, if_neg hjk]; exact hd i j hi' hj' hij
theorem pairB_parts {n : Int} {p : List Int} (h : pairB n p = true) : p.length = 2 ∧ (0 ≤ nth p 0 ∧ nth p 0 ≤ n - 1) ∧ (0 ≤ nth p 1 ∧ nth p 1 ≤ n - 1) ∧ nth p 0 ≠ nth p 1 := by
  unfold pairB at h
  rw [Bool.and_eq_true, Bool.and_eq_true] at h
  have hl := of_decide_eq_true h.1
  have ha := List.all_eq_true.1 h.2.1
  have h0 := ha (nth p 0) (by rw [nth_eq (by omega)]; exact List.getElem_mem _)
  have h1 := ha (nth p 1) (by rw [nth_eq (by omega)]; exact List.getElem_mem _)
  refine ⟨hl, of_decide_eq_true h0, of_decide_eq_true h1, fun e => ?_⟩
  have h3 := h.2.2
  rw [e] at h3
  simp at h3
theorem pairsB_at {n : Int} {ps : List (List Int)} (h : pairsB n ps = true) {k : Nat} (hk : k < ps.length) : pairB n ps[k] = true := by
  unfold pairsB at h
  rw [Bool.and_eq_true] at h
  exact List.all_eq_true.1 h.2 _ (List.getElem_mem hk)
theorem pairsB_len {n : Int} {ps : List (List Int)} (h : pairsB n ps = true) : ps.length ≤ 20 := by
  unfold pairsB at h
  rw [Bool.and_eq_true] at h
  exact of_decide_eq_true h.1
theorem OwnR.addr {δ : Type} {e : TypeId} {R : RowK δ} {w : World} {lo hi n c : Nat} {a : Option Addr} {ds : List δ} (h : OwnR e R w lo hi (.slice a n c) ds) (hn : 0 < n) : ∃ g, a = some ⟨g, 0, none⟩ ∧ lo ≤ g ∧ g < hi ∧ ∀ k, w.frozen? ⟨g, k, none⟩ = false := by
  obtain ⟨css, los, his, hl, hO, hg, hel, hd⟩ := h
  have hO' := hO
  obtain ⟨_, ⟨h1, h0⟩ | ⟨g, c', cur, h1, hb, hgc, r⟩⟩ := hO
  · cases h1; omega
  · cases h1
    exact ⟨g, rfl, hb, (hg g rfl).1, fun k => World.ownsRow.frozenAt hO' k⟩
theorem rdr_cell {w : World} {g n c : Nat} {o : List ReaderD} (h : RdR rReader w (.slice (some ⟨g, 0, none⟩) n c) o) {i : Nat} (hi : i < o.length) : ∃ a1 n1 c1, w.cell? ⟨g, i, none⟩ = some (.slice a1 n1 c1) ∧ RdR rHead w (.slice a1 n1 c1) (rdrAt o i) := by
  have hl := h.len
  obtain ⟨b, o', e, hc⟩ := h.at_ (by omega)
  cases e
  obtain ⟨vs, h1, h2⟩ := hc i hi
  obtain ⟨v, us, rfl, h3, rfl⟩ := h2
  obtain ⟨a1, n1, c1, rfl⟩ := RdR.shape h3
  refine ⟨a1, n1, c1, ?_, by rw [rdrAt_eq hi]; exact h3⟩
  have h4 := h1 0 (by decide)
  have hw : rReader.width = 1 := rfl
  rw [hw] at h4
  simpa using h4
theorem own_reader {w : World} {a b : Nat} {v : Value} {l : List HeadD} (h : OwnR 44 rHead w a b v l) (hab : a ≤ b) : rReader.own w a b [v] ⟨l⟩ :=
  ⟨v, [], a, b, b, b, rfl, h, rfl, ⟨Nat.le_refl _, Nat.le_refl _⟩, ⟨hab, Nat.le_refl _⟩, .inl (Nat.le_refl _)⟩
theorem mergeL_nil (a : List HeadD) : mergeL a [] = a := rfl
end Go.Proofs.YtodennbdfloccaaGreat
