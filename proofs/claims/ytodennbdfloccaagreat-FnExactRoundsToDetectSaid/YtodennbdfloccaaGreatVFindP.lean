/- Plain laws: the first pair of heads that are evidence of a fork. -/
import Derived.Test.YtodennbdfloccaaGreatVFork
import Derived.Test.YtodennbdfloccaaGreatMerge5
namespace Go.Proofs.YtodennbdfloccaaGreat
open Go.RowKit
set_option linter.unusedSimpArgs false
set_option linter.unusedVariables false

def ffRow (f : Nat → Nat → Bool) (n i : Nat) : Option Nat := (List.range (n - (i + 1))).find? (fun j => f i (i + 1 + j))
def ffAll (f : Nat → Nat → Bool) (n : Nat) : Option (Nat × Nat) := match (List.range n).find? (fun i => (ffRow f n i).isSome) with
  | some i => (ffRow f n i).map fun j => (i, i + 1 + j)
  | none => none
theorem ffRow_none {f : Nat → Nat → Bool} {n i : Nat} (h : ∀ j, i + 1 + j < n → f i (i + 1 + j) = false) : ffRow f n i = none := by
  unfold ffRow
  rw [List.find?_eq_none]
  intro j hj
  rw [h j (by have := List.mem_range.1 hj; omega)]; simp
theorem ffRow_some {f : Nat → Nat → Bool} {n i j : Nat} (hj : i + 1 + j < n) (h : f i (i + 1 + j) = true) (hf : ∀ j', j' < j → f i (i + 1 + j') = false) : ffRow f n i = some j := by
  unfold ffRow
  rw [List.find?_range_eq_some]
  exact ⟨h, List.mem_range.2 (by omega), fun j' hj' => by rw [hf j' hj']; rfl⟩
theorem ffAll_none {f : Nat → Nat → Bool} {n : Nat} (h : ∀ i, i < n → ffRow f n i = none) : ffAll f n = none := by
  unfold ffAll
  have : (List.range n).find? (fun i => (ffRow f n i).isSome) = none := by
    rw [List.find?_eq_none]
    intro i hi
    rw [h i (List.mem_range.1 hi)]; simp
  rw [this]
theorem ffAll_some {f : Nat → Nat → Bool} {n i j : Nat} (hi : i < n) (h : ffRow f n i = some j) (hf : ∀ i', i' < i → ffRow f n i' = none) : ffAll f n = some (i, i + 1 + j) := by
  unfold ffAll
  have : (List.range n).find? (fun i => (ffRow f n i).isSome) = some i := by
    rw [List.find?_range_eq_some]
    exact ⟨by rw [h]; rfl, List.mem_range.2 hi, fun i' hi' => by rw [hf i' hi']; rfl⟩
  rw [this]
  simp only [h]
  rfl
def zHeadD : HeadD := ⟨0, 0, 0, ⟨[], [], []⟩⟩
def hdAt (hs : List HeadD) (i : Nat) : HeadD := hs.getD i zHeadD
theorem hdAt_eq {hs : List HeadD} {i : Nat} (h : i < hs.length) : hdAt hs i = hs[i] := by simp [hdAt, List.getD, h]
def ffF (gr : GroupD) (keys : List Int) (hs : List HeadD) (i j : Nat) : Bool := forkB gr keys (hdAt hs i) (hdAt hs j)
/-- the first pair of heads that are evidence of a fork -/
def ffP (gr : GroupD) (keys : List Int) (hs : List HeadD) : Option (Nat × Nat) := ffAll (ffF gr keys hs) hs.length
def ffB (gr : GroupD) (keys : List Int) (hs : List HeadD) : Bool := (ffP gr keys hs).isSome
def zForkD : ForkEvidenceD := ⟨zHeadD, zHeadD⟩
def ffE (gr : GroupD) (keys : List Int) (hs : List HeadD) : ForkEvidenceD := match ffP gr keys hs with
  | some (i, j) => ⟨hdAt hs i, hdAt hs j⟩
  | none => zForkD
theorem ff_none {gr : GroupD} {keys : List Int} {hs : List HeadD} {n : Nat} (hn : hs.length = n) (h : ∀ i, i < n → ffRow (ffF gr keys hs) n i = none) : ffB gr keys hs = false ∧ ffE gr keys hs = zForkD := by
  have hp : ffP gr keys hs = none := by unfold ffP; rw [hn]; exact ffAll_none h
  unfold ffB ffE
  rw [hp]; exact ⟨rfl, rfl⟩
theorem ff_some {gr : GroupD} {keys : List Int} {hs : List HeadD} {n i j : Nat} (hn : hs.length = n) (hj : i + 1 + j < n) (h : ffF gr keys hs i (i + 1 + j) = true) (hf : ∀ j', j' < j → ffF gr keys hs i (i + 1 + j') = false)
    (hr : ∀ i', i' < i → ffRow (ffF gr keys hs) n i' = none) : ffB gr keys hs = true ∧ ffE gr keys hs = ⟨hdAt hs i, hdAt hs (i + 1 + j)⟩ := by
  have hp : ffP gr keys hs = some (i, i + 1 + j) := by unfold ffP; rw [hn]; exact ffAll_some (by omega) (ffRow_some hj h hf) hr
  unfold ffB ffE
  rw [hp]; exact ⟨rfl, rfl⟩
theorem own_ev {w : World} {lo hi l1 h1 l2 h2 : Nat} {vs us : List Value} {a b : HeadD} (ha : (kS rHead).own w l1 h1 (.agg vs.toArray) a) (hb : (kS rHead).own w l2 h2 (.agg us.toArray) b)
    (q1 : lo ≤ l1 ∧ h1 ≤ hi) (q2 : lo ≤ l2 ∧ h2 ≤ hi) (q3 : h1 ≤ l2 ∨ h2 ≤ l1) : (kS rForkEvidence).own w lo hi (.agg (vs ++ us).toArray) ⟨a, b⟩ := by
  obtain ⟨vs', e, ha⟩ := ha
  obtain rfl : vs = vs' := by have h := Value.agg.inj e; simpa using congrArg Array.toList h
  obtain ⟨us', e2, hb⟩ := hb
  obtain rfl : us = us' := by have h := Value.agg.inj e2; simpa using congrArg Array.toList h
  exact ⟨_, rfl, ⟨vs, us, l1, h1, l2, h2, rfl, ha, hb, q1, q2, q3⟩⟩
theorem own_zhead (w : World) (lo hi : Nat) (h : lo ≤ hi) : (kS rHead).own w lo hi (.agg [.int .i64 0, .int .i64 0, .int .i64 0, .slice none 0 0, .slice none 0 0, .slice none 0 0].toArray) zHeadD := by
  have hn : ∀ k, sInts.own w k k (.slice none 0 0) [] := fun k => ⟨OwnI.nil w k, fun k hk => by cases hk⟩
  refine ⟨_, rfl, ⟨_, rfl, ⟨by decide, by decide⟩, ⟨_, rfl, ⟨by decide, by decide⟩, ⟨_, rfl, ⟨by decide, by decide⟩, ?_⟩⟩⟩⟩
  refine ⟨_, _, lo, lo, lo, lo, rfl, hn lo, ?_, ⟨Nat.le_refl _, h⟩, ⟨Nat.le_refl _, h⟩, .inl (Nat.le_refl _)⟩
  refine ⟨_, _, lo, lo, lo, lo, rfl, hn lo, ?_, ⟨Nat.le_refl _, Nat.le_refl _⟩, ⟨Nat.le_refl _, Nat.le_refl _⟩, .inl (Nat.le_refl _)⟩
  exact ⟨_, _, lo, lo, lo, lo, rfl, hn lo, rfl, ⟨Nat.le_refl _, Nat.le_refl _⟩, ⟨Nat.le_refl _, Nat.le_refl _⟩, .inl (Nat.le_refl _)⟩
theorem own_zev (w : World) (lo hi : Nat) (h : lo ≤ hi) : (kS rForkEvidence).own w lo hi (.agg #[.int .i64 0, .int .i64 0, .int .i64 0, .slice none 0 0, .slice none 0 0, .slice none 0 0, .int .i64 0, .int .i64 0, .int .i64 0, .slice none 0 0, .slice none 0 0, .slice none 0 0]) zForkD :=
  own_ev (own_zhead w lo lo (Nat.le_refl _)) (own_zhead w lo lo (Nat.le_refl _)) ⟨Nat.le_refl _, h⟩ ⟨Nat.le_refl _, h⟩ (.inl (Nat.le_refl _))
/-- an end of a slice of structs -/
theorem RdR.drop {δ : Type} {R : RowK δ} {w : World} {a : Option Addr} {n c k : Nat} {ds : List δ} (h : RdR R w (.slice a n c) ds) (hk : k ≤ n) : RdR R w (.slice (if c = k then a else a.map (·.add (k * R.width))) (n - k) (c - k)) (ds.drop k) := by
  obtain ⟨a', n', c', e, h1, h2, h3, h5⟩ := h; cases e
  refine ⟨_, n - k, c - k, rfl, by simp; omega, by omega, by omega, ?_⟩
  rcases h5 with ⟨h5, h6, h7⟩ | ⟨ad, h5, h6⟩ | ⟨b, o, h5, hc⟩
  · refine .inl ⟨?_, by omega, by omega⟩
    rw [h5]; split <;> rfl
  · refine .inr (.inl ?_)
    rw [h5]
    split
    · exact ⟨ad, rfl, by omega⟩
    · exact ⟨ad.add (k * R.width), rfl, by omega⟩
  · rw [h5]
    by_cases hck : c = k
    · rw [if_pos hck]; exact .inr (.inl ⟨_, rfl, by omega⟩)
    · rw [if_neg hck]
      refine .inr (.inr ⟨b, o + k * R.width, by simp [Addr.add_lit], fun i hi => ?_⟩)
      have hi' : i < ds.length - k := by simpa using hi
      obtain ⟨vs, hv, hr⟩ := hc (k + i) (by omega)
      refine ⟨vs, fun j hj => ?_, by rw [List.getElem_drop]; exact hr⟩
      rw [← hv j hj, Nat.add_mul]
      congr 2
      omega
theorem sl_dropH {w : World} {a : Option Addr} {n c : Nat} {ds : List HeadD} (h : RdR rHead w (.slice a n c) ds) {x : Int} {k : Nat} (hx : x = k) (hk : k ≤ n) :
    ∃ a', (∀ W, (Instr.slice 53 (.slice a n c) (some (.int .i64 x)) none none).run Tryz.prog W = .ok (.slice a' (n - k) (c - k)) W) ∧ RdR rHead w (.slice a' (n - k) (c - k)) (ds.drop k) := by
  subst hx
  refine ⟨_, fun W => ?_, h.drop hk⟩
  have hs : Tryz.prog.cellsOf 44 = 6 := by kernel_rfl
  have hw : rHead.width = 6 := rfl
  rw [hw]
  simp [Tryz.underlying53, go_sem, hk, run_slice_l, run_underlying, hs]
end Go.Proofs.YtodennbdfloccaaGreat
