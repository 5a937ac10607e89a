/- Plain laws: the leaves of a board. -/
import Derived.Test.YtodennbdfloccaaGreatVBoard2
import Derived.Test.YtodennbdfloccaaGreatEncP
namespace Go.Proofs.YtodennbdfloccaaGreat
open Go.RowKit
set_option linter.unusedSimpArgs false
set_option linter.unusedVariables false

def sLeaf : ByteArray := ⟨#[108, 101, 97, 102]⟩
/-- the leaf of an entry at a place -/
def leafArg (i : Nat) (e : EntryD) : List Int := enD e.kind e.author (i : Int) e.data :: epL e.sign
def leafV (i : Nat) (e : EntryD) : Int := hashOf (lab sLeaf ++ leafArg i e)
def leafAt (es : List EntryD) (i : Nat) : Int := match es[i]? with
  | some e => leafV i e
  | none => 0
def leavesTo (es : List EntryD) (k : Nat) : List Int := (List.range k).map (leafAt es)
def leavesL (es : List EntryD) : List Int := leavesTo es es.length
theorem leafAt_eq {es : List EntryD} {i : Nat} (h : i < es.length) : leafAt es i = leafV i (es[i]'h) := by
  unfold leafAt; rw [List.getElem?_eq_getElem h]
theorem leavesTo_zero (es : List EntryD) : leavesTo es 0 = [] := rfl
theorem leavesTo_succ (es : List EntryD) (k : Nat) : leavesTo es (k + 1) = leavesTo es k ++ [leafAt es k] := by
  unfold leavesTo; rw [List.range_succ, List.map_append]; rfl
theorem leavesTo_length (es : List EntryD) (k : Nat) : (leavesTo es k).length = k := by unfold leavesTo; simp
theorem leavesL_length (es : List EntryD) : (leavesL es).length = es.length := leavesTo_length _ _
theorem leafAt_digest (es : List EntryD) (k : Nat) : digestB (leafAt es k) = true := by
  unfold leafAt
  split
  · exact digestB_hash _
  · decide
theorem leavesTo_digest (es : List EntryD) (k : Nat) : (leavesTo es k).all digestB = true := by
  refine List.all_eq_true.2 fun x hx => ?_
  obtain ⟨i, _, rfl⟩ := List.mem_map.1 hx
  exact leafAt_digest es i
theorem leavesL_digest (es : List EntryD) : (leavesL es).all digestB = true := leavesTo_digest _ _
theorem digestB_in {x : Int} (h0 : 0 ≤ x) (h1 : x ≤ 2000000000) : digestB x = true := decide_eq_true ⟨h0, by omega⟩
/-- the signature of an accepted text is a record of six numbers -/
theorem sign_rec {gr : GroupD} (hg : OkG gr) {s : ByteArray} {ky : Int} {d : ProofD} (h : vlB gr s [[gr.g]] [ky] d = true) : (epL d).length = 6 ∧ (epL d).all digestB = true := by
  have hh := h
  unfold vlB at hh
  rw [Bool.and_eq_true, Bool.and_eq_true] at hh
  obtain ⟨c1, h1, r1, c2, r2⟩ := vlHead_parts hh.1
  have hv := hh.2.1
  have q1 := hg.q1; have q2 := hg.q2; have p2 := hg.p2
  obtain ⟨c, hc⟩ : ∃ c, d.c = [c] := by
    rcases hx : d.c with _ | ⟨x, _ | ⟨y, l⟩⟩
    · rw [hx] at c1; simp at c1
    · exact ⟨x, rfl⟩
    · rw [hx] at c1; simp at c1
  obtain ⟨e, he⟩ : ∃ e, d.h = [e] := by
    rcases hx : d.h with _ | ⟨x, _ | ⟨y, l⟩⟩
    · rw [hx] at h1; simp at h1
    · exact ⟨x, rfl⟩
    · rw [hx] at h1; simp at h1
  obtain ⟨r, hr⟩ : ∃ r, d.r = [r] := by
    have : headLen [[gr.g]] = 1 := rfl
    rcases hx : d.r with _ | ⟨x, _ | ⟨y, l⟩⟩
    · rw [hx, this] at r1; simp at r1
    · exact ⟨x, rfl⟩
    · rw [hx, this] at r1; simp at r1
  have hL : epL d = [1, c, 1, e, 1, r] := by unfold epL cnt; rw [hc, he, hr]; rfl
  rw [hc] at c2
  rw [hr] at r2
  have c3 : elB gr c = true := by simpa using c2
  have r3 : expB gr r = true := by simpa using r2
  unfold elB at c3
  rw [Bool.and_eq_true] at c3
  have c4 := of_decide_eq_true c3.1
  unfold expB at r3
  have r4 := of_decide_eq_true r3
  have e4 : nth d.h 0 = vlE gr s [[gr.g]] [ky] d := by simpa using hv
  rw [he] at e4
  have e5 : e = vlE gr s [[gr.g]] [ky] d := e4
  have e6 := chV_bd hg s (([[gr.g]] : List (List Int)).flatten ++ [ky] ++ d.c)
  unfold vlE at e5
  rw [← e5] at e6
  refine ⟨by rw [hL]; rfl, ?_⟩
  rw [hL]
  simp only [List.all_cons, List.all_nil, Bool.and_true, Bool.and_eq_true]
  exact ⟨rfl, digestB_in (by omega) (by omega), rfl, digestB_in (by omega) (by omega), rfl, digestB_in (by omega) (by omega)⟩
/-- an entry of a valid board: what its leaf wants -/
structure LeafOk (i : Nat) (e : EntryD) : Prop where
  ent : edB e.kind e.author (i : Int) e.data = true
  six : (epL e.sign).length = 6
  dig : (epL e.sign).all digestB = true
theorem board_leaf {gr : GroupD} {d : BoardD} (hg : OkG gr) (h : boardB gr d = true) {i : Nat} (hi : i < d.entries.length) : LeafOk i (d.entries[i]'hi) := by
  obtain ⟨_, h64, he⟩ := boardB_parts h
  unfold entsB at he
  have h1 := List.all_eq_true.1 he i (List.mem_range.2 hi)
  rw [entGet_eq hi] at h1
  unfold entAt at h1
  rw [Bool.and_eq_true] at h1
  have h2 := h1.2
  unfold isEntryB at h2
  rw [Bool.and_eq_true] at h2
  obtain ⟨s1, s2⟩ := sign_rec hg h2.2
  exact ⟨by rw [edB_at ⟨by omega, by omega⟩]; exact h2.1, s1, s2⟩
theorem LeafOk.length {i : Nat} {e : EntryD} (h : LeafOk i e) : (leafArg i e).length = 7 := by unfold leafArg; rw [List.length_cons, h.six]
theorem LeafOk.all {i : Nat} {e : EntryD} (h : LeafOk i e) : (leafArg i e).all digestB = true := by
  unfold leafArg; rw [List.all_cons, h.dig, enD_digest]; rfl
theorem LeafOk.labelled {i : Nat} {e : EntryD} (h : LeafOk i e) : labelledI sLeaf (leafArg i e) = leafV i e := by
  have h7 := h.length
  have hb : labelledB sLeaf (leafArg i e) = true := by
    unfold labelledB hashable
    have h1 : (lab sLeaf ++ leafArg i e).length ≤ 400 := by rw [List.length_append, h7]; decide
    have h2 : (lab sLeaf ++ leafArg i e).all digestB = true := by rw [List.all_append, h.all, Bool.and_true]; decide
    have h3 : sLeaf.size ≤ 40 ∧ (leafArg i e).length ≤ 400 := ⟨by decide, by omega⟩
    rw [decide_eq_true h1, decide_eq_true h3, h2]; rfl
  unfold labelledI; rw [if_pos hb]; rfl
theorem LeafOk.edI {i : Nat} {e : EntryD} (h : LeafOk i e) : edI e.kind e.author (i : Int) e.data = enD e.kind e.author (i : Int) e.data := edI_yes h.ent
theorem LeafOk.recE {i : Nat} {e : EntryD} (h : LeafOk i e) : epR e.sign = epL e.sign := by
  unfold epR epB recB
  rw [if_pos (by rw [h.dig, decide_eq_true (by rw [h.six]; omega)]; rfl)]
end Go.Proofs.YtodennbdfloccaaGreat
