/- Bundle of walks and laws: Base, Num, Slices, LawsI, HashP, Hash, Kinds, AppL, Rows1, Rows2, AppR, StdI, Hex, Codec, Concat. -/
import Derived.Test.YtacpnphfopmofaaRows
import Derived.WalkKit
import Derived.WalkSpells
import Derived.WalkLawsBesides
import Derived.Deep.QuietTactic
import Derived.BigQuiet
import Derived.BigGuardPart
import Derived.Deep.RegionHeld3
import Derived.Deep.LoopGhost
import Derived.Deep.OwnRows
import Derived.Lib.Hide
import Derived.Lib.SliceRun
import Derived.Laws.IdiomStrings
import Derived.Lib.AppendZeros
import Derived.Lib.BitFns
import Derived.Test.YtacpnphfopmofaaChecked
import Derived.Lib.Strings
import Derived.Lib.Slices
import Derived.Lib.Small
import Derived.Lib.Walk
/- Common ground: the tools that the walks use. -/











namespace Go.Proofs.Ytacpnphfopmofaa
open Go.RowKit

theorem ret_bool {a b : Bool} (h : a = b) : Ending.returned (.bool a) = .returned (.bool b) := by rw [h]
theorem ret_int {k : IntKind} {a b : Int} (h : a = b) : Ending.returned (.int k a) = .returned (.int k b) := by rw [h]

theorem ret_int_bool {a a' : Int} {b b' : Bool} (h : a = a') (h' : b = b') : Ending.returned (.tuple #[.int .i64 a, .bool b]) = .returned (.tuple #[.int .i64 a', .bool b']) := by rw [h, h']

/-- a product within bounds -/
theorem mul_bd {a b A B : Int} (ha : 0 ≤ a) (hA : a ≤ A) (hb : 0 ≤ b) (hB : b ≤ B) : 0 ≤ a * b ∧ a * b ≤ A * B :=
  ⟨Int.mul_nonneg ha hb, Int.mul_le_mul hA hB hb (Int.le_trans ha hA)⟩

/-- u, if it has grown from w (all that was there is as it was), else w: a class of worlds as a function, so that the walk of a region in the order of the text (Derived/Deep/Quiet.lean) serves callees that make memory -/
noncomputable def grow (w u : World) : World := @ite _ (Below w.heap.size w u) (Classical.propDecidable _) u w
end Go.Proofs.Ytacpnphfopmofaa
/- Walks of the small functions on numbers. -/

namespace Go.Proofs.Ytacpnphfopmofaa
open Go.RowKit
set_option linter.unusedSimpArgs false
set_option linter.unusedVariables false

theorem impl_within (n lo hi : Int) (w : World) :
    Calls Try.prog 103 #[.int .i64 n, .int .i64 lo, .int .i64 hi] w fun e w' => e = .returned (.bool (decide (lo ≤ n ∧ n ≤ hi))) ∧ w = w' := by
  go_enter Try.func103, Try.ntmps103
  by_cases h1 : lo ≤ n <;> by_cases h2 : n ≤ hi <;>
  (go_wp2; go_ret; exact ⟨by simp [h1, h2], rfl⟩)
theorem spec_l1In (n lo hi : Int) (w : World) :
    Calls Try.prog 106 #[.int .i64 n, .int .i64 lo, .int .i64 hi] w fun e w' => e = .returned (.bool (decide (lo ≤ n ∧ n ≤ hi))) ∧ w = w' := by
  go_enter Try.func106, Try.ntmps106
  by_cases h1 : lo ≤ n <;> by_cases h2 : n ≤ hi <;>
  (go_wp2; go_ret; exact ⟨by simp [h1, h2], rfl⟩)
end Go.Proofs.Ytacpnphfopmofaa
/- Slices of integers: what it means that a value reads as a list, that a call owns a list; both carried through worlds. No program is named here but for the type of integers. -/

namespace Go.Proofs.Ytacpnphfopmofaa
open Go.RowKit

/-- the element at a place -/
def nth (l : List Int) (i : Nat) : Int := l.getD i 0
theorem nth_eq {l : List Int} {i : Nat} (h : i < l.length) : nth l i = l[i] := by simp [nth, List.getD, h]
/-- an int -/
def I64 (x : Int) : Prop := -9223372036854775808 ≤ x ∧ x ≤ 9223372036854775807
/-- all elements are ints -/
def AllI64 (l : List Int) : Prop := ∀ x ∈ l, I64 x
theorem AllI64.at_ {l : List Int} (h : AllI64 l) (i : Nat) : I64 (nth l i) := by
  by_cases hi : i < l.length
  · rw [nth_eq hi]; exact h _ (List.getElem_mem _)
  · have : nth l i = 0 := by simp [nth, List.getD, Nat.le_of_not_lt hi]
    rw [this]; exact ⟨by decide, by decide⟩

/-- the value reads as the list -/
def Ints (w : World) (v : Value) (l : List Int) : Prop :=
  ∃ a n c, v = .slice a n c ∧ l.length = n ∧ n ≤ c ∧ c ≤ maxLen ∧ AllI64 l ∧
    ((a = none ∧ n = 0 ∧ c = 0) ∨ (∃ ad, a = some ad ∧ n = 0) ∨ ∃ b o, a = some ⟨b, o, none⟩ ∧ ∀ i, i < n → w.cell? ⟨b, o + i, none⟩ = some (.int .i64 (nth l i)))

theorem Ints.shape {w : World} {v : Value} {l : List Int} (h : Ints w v l) : ∃ a n c, v = .slice a n c := by
  obtain ⟨a, n, c, h, _⟩ := h; exact ⟨a, n, c, h⟩
theorem Ints.len {w : World} {a : Option Addr} {n c : Nat} {l : List Int} (h : Ints w (.slice a n c) l) : l.length = n := by
  obtain ⟨a', n', c', e, h, _⟩ := h; cases e; exact h
theorem Ints.cap {w : World} {a : Option Addr} {n c : Nat} {l : List Int} (h : Ints w (.slice a n c) l) : n ≤ c ∧ c ≤ 140737488355328 * 65536 := by
  obtain ⟨a', n', c', e, _, h1, h2, _⟩ := h; cases e; unfold maxLen at h2; omega
theorem Ints.capMax {w : World} {a : Option Addr} {n c : Nat} {l : List Int} (h : Ints w (.slice a n c) l) : n ≤ c ∧ c ≤ maxLen := by
  obtain ⟨a', n', c', e, _, h1, h2, _⟩ := h; cases e; exact ⟨h1, h2⟩
theorem Ints.all {w : World} {v : Value} {l : List Int} (h : Ints w v l) : AllI64 l := by
  obtain ⟨a', n', c', e, _, _, _, h, _⟩ := h; exact h
/-- where there is an element there is an address -/
theorem Ints.at_ {w : World} {a : Option Addr} {n c : Nat} {l : List Int} (h : Ints w (.slice a n c) l) (hn : 0 < n) :
    ∃ b o, a = some ⟨b, o, none⟩ ∧ ∀ i, i < n → w.cell? ⟨b, o + i, none⟩ = some (.int .i64 (nth l i)) := by
  obtain ⟨a', n', c', e, _, _, _, _, h⟩ := h; cases e
  rcases h with ⟨_, h, _⟩ | ⟨_, _, h⟩ | h
  · omega
  · omega
  · exact h
theorem Ints.nil (w : World) : Ints w (.slice none 0 0) [] := ⟨none, 0, 0, rfl, rfl, Nat.le_refl _, Nat.zero_le _, by simp [AllI64], .inl ⟨rfl, rfl, rfl⟩⟩
/-- carried into a world in which all old blocks are as they were -/
theorem Ints.below {w w' : World} {v : Value} {l : List Int} (h : Ints w v l) (hb : Below w.heap.size w w') : Ints w' v l := by
  obtain ⟨a, n, c, e, h1, h2, h3, h4, h5⟩ := h
  refine ⟨a, n, c, e, h1, h2, h3, h4, ?_⟩
  rcases h5 with h5 | h5 | ⟨b, o, rfl, hc⟩
  · exact .inl h5
  · exact .inr (.inl h5)
  · refine .inr (.inr ⟨b, o, rfl, fun i hi => ?_⟩)
    have h := hc i hi
    rw [hb.cell (World.block_lt_of_cell? w _ h)]; exact h
theorem Ints.drewN {w : World} {v : Value} {l : List Int} (h : Ints w v l) (n : Nat) : Ints (w.drewN n) v l := h.below (below_drewN (Below.refl _ _) n)
theorem Ints.drew {w : World} {v : Value} {l : List Int} (h : Ints w v l) : Ints w.drew v l := h.below (Below.refl _ _).drew
theorem Ints.alloc {w : World} {v : Value} {l : List Int} (h : Ints w v l) (o : Obj) : Ints (w.alloc o) v l := h.below ((Below.refl _ _).alloc (Nat.le_refl _) o)

/-- a beginning, an end of a slice -/
theorem nth_take {l : List Int} {i k : Nat} (h : i < k) : nth (l.take k) i = nth l i := by simp [nth, List.getD, h]
theorem nth_drop {l : List Int} {i k : Nat} : nth (l.drop k) i = nth l (k + i) := by simp [nth, List.getD]
theorem Ints.take {w : World} {a : Option Addr} {n c k : Nat} {l : List Int} (h : Ints w (.slice a n c) l) (hk : k ≤ n) : Ints w (.slice a k c) (l.take k) := by
  obtain ⟨a', n', c', e, h1, h2, h3, h4, h5⟩ := h; cases e
  refine ⟨a, k, c, rfl, by simp; omega, by omega, h3, fun x hx => h4 x (List.mem_of_mem_take hx), ?_⟩
  rcases h5 with ⟨h5, h6, h7⟩ | ⟨ad, h5, h6⟩ | ⟨b, o, h5, hc⟩
  · exact .inl ⟨h5, by omega, h7⟩
  · exact .inr (.inl ⟨ad, h5, by omega⟩)
  · exact .inr (.inr ⟨b, o, h5, fun i hi => by rw [nth_take hi]; exact hc i (by omega)⟩)
theorem Ints.drop {w : World} {a : Option Addr} {n c k : Nat} {l : List Int} (h : Ints w (.slice a n c) l) (hk : k ≤ n) : Ints w (.slice (if c = k then a else a.map (·.add k)) (n - k) (c - k)) (l.drop k) := by
  obtain ⟨a', n', c', e, h1, h2, h3, h4, h5⟩ := h; cases e
  refine ⟨_, n - k, c - k, rfl, by simp; omega, by omega, by omega, fun x hx => h4 x (List.mem_of_mem_drop hx), ?_⟩
  rcases h5 with ⟨h5, h6, h7⟩ | ⟨ad, h5, h6⟩ | ⟨b, o, h5, hc⟩
  · refine .inl ⟨?_, by omega, by omega⟩
    rw [h5]; split <;> rfl
  · refine .inr (.inl ?_)
    rw [h5]
    split
    · exact ⟨ad, rfl, by omega⟩
    · exact ⟨ad.add k, rfl, by omega⟩
  · rw [h5]
    by_cases hck : c = k
    · rw [if_pos hck]; exact .inr (.inl ⟨_, rfl, by omega⟩)
    · rw [if_neg hck]
      refine .inr (.inr ⟨b, o + k, by simp [Addr.add_lit], fun i hi => ?_⟩)
      rw [nth_drop, Nat.add_assoc]; exact hc (k + i) (by omega)

/-- the value is a row of the call's own, from block B on, that reads as the list -/
def OwnI (w : World) (B : Nat) (v : Value) (l : List Int) : Prop := AllI64 l ∧ w.ownsRow B 3 1 v l.length (l.map (Value.int .i64))

theorem AllI64.append {a b : List Int} (h : AllI64 a) (h' : AllI64 b) : AllI64 (a ++ b) := fun x hx => by
  rcases List.mem_append.1 hx with h1 | h1
  · exact h x h1
  · exact h' x h1
theorem AllI64.nil : AllI64 [] := fun x hx => by cases hx
theorem AllI64.one {x : Int} (h : I64 x) : AllI64 [x] := fun y hy => by simp at hy; subst hy; exact h
theorem AllI64.cons {x : Int} {l : List Int} (h : I64 x) (h' : AllI64 l) : AllI64 (x :: l) := fun y hy => by
  rcases List.mem_cons.1 hy with rfl | h1
  · exact h
  · exact h' y h1
theorem AllI64.take {l : List Int} (h : AllI64 l) (k : Nat) : AllI64 (l.take k) := fun x hx => h x (List.mem_of_mem_take hx)
theorem AllI64.drop {l : List Int} (h : AllI64 l) (k : Nat) : AllI64 (l.drop k) := fun x hx => h x (List.mem_of_mem_drop hx)

section
variable {w w' : World} {B : Nat} {v : Value} {l : List Int}
theorem OwnI.all (h : OwnI w B v l) : AllI64 l := h.1
theorem OwnI.nil (w : World) (B : Nat) : OwnI w B (.slice none 0 0) [] := ⟨AllI64.nil, World.ownsRow_nil w B _ 1⟩
theorem OwnI.shape (h : OwnI w B v l) : ∃ a c, v = .slice a l.length c := by
  rcases h.2.2 with ⟨h, h2⟩ | ⟨g, c, cur, h, _⟩
  · exact ⟨none, 0, by rw [h, h2]⟩
  · exact ⟨_, _, h⟩
theorem OwnI.ints (h : OwnI w B v l) : Ints w v l := by
  obtain ⟨ha, hl, ⟨rfl, h0⟩ | ⟨g, c, cur, rfl, hb, hg, hnc, hcm, hcs, htake⟩⟩ := h
  · have : l = [] := List.eq_nil_of_length_eq_zero h0
    subst this; exact Ints.nil w
  · refine ⟨some ⟨g, 0, none⟩, l.length, c, rfl, rfl, hnc, hcm, ha, .inr (.inr ⟨g, 0, rfl, fun i hi => ?_⟩)⟩
    have h1 := World.ownsRow.cellAt (w := w) (base := B) (e := 3) (size := 1) (g := g) (n := l.length) (cap := c) (xs := l.map (Value.int .i64)) ⟨hl, .inr ⟨g, c, cur, rfl, hb, hg, hnc, hcm, hcs, htake⟩⟩ i (by omega)
    rw [Nat.zero_add, h1]
    simp [nth_eq hi, hi]
theorem OwnI.lt (h : OwnI w B v l) : ∀ k, v.ownBlock = some k → B ≤ k ∧ k < w.heap.size := h.2.lt
theorem OwnI.kept {row : Option Nat} (h : OwnI w B v l) (hg : w.grownBy w' row) (hne : v.ownBlock = none ∨ v.ownBlock ≠ row) : OwnI w' B v l := ⟨h.1, h.2.kept hg hne⟩
theorem OwnI.below (h : OwnI w B v l) (hb : Below w.heap.size w w') : OwnI w' B v l :=
  h.kept (row := none) ⟨hb.os, hb.tape, hb.output, hb.size, fun k hk _ => hb.block k hk⟩ (by cases v.ownBlock <;> simp)
theorem OwnI.drewN (h : OwnI w B v l) (n : Nat) : OwnI (w.drewN n) B v l := h.below (below_drewN (Below.refl _ _) n)
theorem OwnI.mono {B' : Nat} (h : OwnI w B v l) (hB : B' ≤ B) : OwnI w B' v l := by
  refine ⟨h.1, h.2.1, ?_⟩
  rcases h.2.2 with h1 | ⟨g, c, cur, e, hb, r⟩
  · exact .inl h1
  · exact .inr ⟨g, c, cur, e, by omega, r⟩
theorem OwnI.lit (w : World) (hB : B ≤ w.heap.size) {cs : Array Value} (h : AllI64 l) (hc : cs = (l.map (Value.int .i64)).toArray) (hn : l.length ≤ maxLen) (n : Nat) (hnn : n = l.length) :
    OwnI (w.alloc (.cells cs 3)) B (.slice (some ⟨w.heap.size, 0, none⟩) n n) l := by
  subst hc; subst hnn
  have := World.ownsRow_lit (e := 3) (size := 1) w (l.map (Value.int .i64)).toArray l.length hB hn (by simp)
  exact ⟨h, by simpa using this⟩
theorem OwnI.grown (h : OwnI w B v l) (hg : w.grownBy w' v.ownBlock) (hB : B ≤ w.heap.size) : Below B w w' :=
  (Below.refl B w).grown hg hB (fun k hk => (h.lt k hk).1)
theorem Ints.kept {row : Option Nat} (h : Ints w v l) (hg : w.grownBy w' row) (hne : ∀ k, v.ownBlock = some k → some k ≠ row) : Ints w' v l := by
  obtain ⟨a, n, c, e, h1, h2, h3, h4, h5⟩ := h
  refine ⟨a, n, c, e, h1, h2, h3, h4, ?_⟩
  rcases h5 with h5 | h5 | ⟨b, o, rfl, hc⟩
  · exact .inl h5
  · exact .inr (.inl h5)
  · refine .inr (.inr ⟨b, o, rfl, fun i hi => hg.cell (hc i hi) ?_⟩)
    exact hne b (by rw [e]; rfl)
end

end Go.Proofs.Ytacpnphfopmofaa
/- Walks of the laws' own helpers on slices of integers. -/

namespace Go.Proofs.Ytacpnphfopmofaa
open Go.RowKit
set_option linter.unusedSimpArgs false
set_option linter.unusedVariables false

theorem AllI64.set {l : List Int} (h : AllI64 l) (k : Nat) {x : Int} (hx : I64 x) : AllI64 (l.set k x) := fun y hy => by
  rcases List.mem_or_eq_of_mem_set hy with h1 | rfl
  · exact h y h1
  · exact hx
/-- a store into a row of the call's own -/
theorem OwnI.stored {w : World} {B g n c : Nat} {l : List Int} (h : OwnI w B (.slice (some ⟨g, 0, none⟩) n c) l) (hn : l.length = n) (k : Nat) {x : Int} (hx : I64 x) :
    OwnI (w.setCell ⟨g, k, none⟩ (.int .i64 x)) B (.slice (some ⟨g, 0, none⟩) n c) (l.set k x) ∧ w.grownBy (w.setCell ⟨g, k, none⟩ (.int .i64 x)) (some g) := by
  subst hn
  have := h.2.stored k (.int .i64 x)
  refine ⟨⟨h.1.set k hx, ?_⟩, this.2⟩
  simpa [List.map_set] using this.1
theorem OwnI.at_ {w : World} {B n c : Nat} {a : Option Addr} {l : List Int} (h : OwnI w B (.slice a n c) l) (hn : 0 < l.length) :
    ∃ g, a = some ⟨g, 0, none⟩ ∧ B ≤ g ∧ l.length = n ∧ ∀ i, i < n → w.cell? ⟨g, i, none⟩ = some (.int .i64 (nth l i)) ∧ w.frozen? ⟨g, i, none⟩ = false := by
  have hn' := h.ints.len
  subst hn'
  obtain ⟨ha, hl, ⟨h1, h0⟩ | ⟨g, c', cur, h1, hb, hg, hnc, hcm, hcs, htake⟩⟩ := h
  · omega
  · cases h1
    refine ⟨g, rfl, hb, rfl, fun i hi => ?_⟩
    have hr : w.ownsRow B 3 1 (.slice (some ⟨g, 0, none⟩) l.length c) l.length (l.map (Value.int .i64)) := ⟨hl, .inr ⟨g, c, cur, rfl, hb, hg, hnc, hcm, hcs, htake⟩⟩
    have h1 := World.ownsRow.cellAt hr i (by omega)
    have h2 := World.ownsRow.frozenAt hr i
    refine ⟨?_, h2⟩
    rw [h1]
    simp [nth_eq hi, hi]
theorem take_succ_nth {l : List Int} {k : Nat} (h : k < l.length) : l.take (k + 1) = l.take k ++ [nth l k] := by
  rw [nth_eq h, List.take_succ_eq_append_getElem h]
/-- nothing has turned but blocks from lo to hi (and new ones) -/
structure Within (lo hi : Nat) (w w' : World) : Prop where
  os : w'.os = w.os
  tape : w'.tape = w.tape
  output : w'.output = w.output
  size : w.heap.size ≤ w'.heap.size
  block : ∀ k, k < w.heap.size → (k < lo ∨ hi ≤ k) → w'.heap[k]? = w.heap[k]?
theorem Within.below {lo hi B : Nat} {w w' : World} (h : Within lo hi w w') (hB : B ≤ w.heap.size) (hlo : B ≤ lo) : Below B w w' :=
  ⟨h.os, h.tape, h.output, h.size, fun k hk => h.block k (by omega) (.inl (by omega))⟩
theorem Within.trans {lo hi : Nat} {w w1 w2 : World} (h : Within lo hi w w1) (h2 : Within lo hi w1 w2) : Within lo hi w w2 :=
  ⟨h2.os.trans h.os, h2.tape.trans h.tape, h2.output.trans h.output, Nat.le_trans h.size h2.size, fun k hk hr => (h2.block k (Nat.lt_of_lt_of_le hk h.size) hr).trans (h.block k hk hr)⟩
theorem Within.of_below {lo hi : Nat} {w w' : World} (h : Below w.heap.size w w') : Within lo hi w w' :=
  ⟨h.os, h.tape, h.output, h.size, fun k hk _ => h.block k hk⟩
theorem Within.mono {lo hi lo' hi' : Nat} {w w' : World} (h : Within lo hi w w') (h1 : lo' ≤ lo) (h2 : hi ≤ hi') : Within lo' hi' w w' :=
  ⟨h.os, h.tape, h.output, h.size, fun k hk hr => h.block k hk (by omega)⟩
theorem Below.next {a b c : World} (h : Below a.heap.size a b) (h2 : Below b.heap.size b c) : Below a.heap.size a c := h.trans (h2.mono h.size)
/-- a row of the call's own, in a block from lo to hi -/
def InI (w : World) (lo hi : Nat) (v : Value) (l : List Int) : Prop := OwnI w lo v l ∧ ∀ k, v.ownBlock = some k → k < hi
theorem InI.of_own {w : World} {lo : Nat} {v : Value} {l : List Int} (h : OwnI w lo v l) : InI w lo w.heap.size v l := ⟨h, fun k hk => (h.lt k hk).2⟩
theorem InI.reads {w : World} {lo hi : Nat} {v : Value} {l : List Int} (h : InI w lo hi v l) : Ints w v l := h.1.ints
theorem InI.next {w w' : World} {lo hi : Nat} {v : Value} {l : List Int} (h : InI w lo hi v l) (hb : Below w.heap.size w w') : InI w' lo hi v l := ⟨h.1.below hb, h.2⟩
theorem InI.kept {w w' : World} {lo hi lo' hi' : Nat} {v : Value} {l : List Int} (h : InI w lo hi v l) (hw : Within lo' hi' w w') (hd : hi ≤ lo' ∨ hi' ≤ lo) : InI w' lo hi v l := by
  refine ⟨⟨h.1.1, ?_⟩, h.2⟩
  obtain ⟨h1, h2⟩ := h.1.2
  refine ⟨h1, ?_⟩
  rcases h2 with h2 | ⟨g, cap, cur, rfl, hb, hg, r⟩
  · exact .inl h2
  · refine .inr ⟨g, cap, cur, rfl, hb, ?_, r⟩
    have hk := h.2 g rfl
    rw [hw.block g (Array.getElem?_eq_some_iff.1 hg).1 (by omega)]
    exact hg
end Go.Proofs.Ytacpnphfopmofaa
/- The hash as a function on lists: plain Lean. -/
namespace Go.Proofs.Ytacpnphfopmofaa

def hS (s b : Int) : Int := (48271 * s + b + 1) % 2147483647
def hT (t b : Int) : Int := (69621 * t + b + 1) % 2147483647
def absS (s x : Int) : Int := hS (hS s (x % 2147483648)) (x / 2147483648)
def absT (t x : Int) : Int := hT (hT t (x % 2147483648)) (x / 2147483648)
def foldS (l : List Int) : Int := l.foldl absS 1
def foldT (l : List Int) : Int := l.foldl absT 2
/-- the digest of a list -/
def hashOf (l : List Int) : Int := foldS ((l.length : Int) :: l) * 2147483648 + foldT ((l.length : Int) :: l)

end Go.Proofs.Ytacpnphfopmofaa
/- Walks: predicates over lists, the hash. -/




namespace Go.Proofs.Ytacpnphfopmofaa
open Go.RowKit
set_option linter.unusedSimpArgs false
set_option linter.unusedVariables false

/-- a function value that decides p on integers, in every world that has grown from w -/
structure Decides (w : World) (g : FuncId) (caps : Array Value) (p : Int → Bool) : Prop where
  enters : ∀ args wr, (callFunc g args).run Try.prog wr = .ok (.enter g args) wr
  runs : ∀ x wr, I64 x → Below w.heap.size w wr → Calls Try.prog g (#[.int .i64 x] ++ caps) wr fun e w' => e = .returned (.bool (p x)) ∧ Below wr.heap.size wr w'
theorem Decides.below {w w' : World} {g : FuncId} {caps : Array Value} {p : Int → Bool} (h : Decides w g caps p) (hb : Below w.heap.size w w') : Decides w' g caps p :=
  ⟨h.enters, fun x wr hx hr => h.runs x wr hx (hb.trans (hr.mono hb.size))⟩

/-- the place of the first element of which p holds, or -1 -/
def findTo (p : Int → Bool) (l : List Int) : Int := match l.findIdx? p with | some i => i | none => -1

theorem findTo_yes {p : Int → Bool} {l : List Int} {k : Nat} (h : k < l.length) (hp : p (nth l k) = true) (hf : ∀ j, j < k → p (nth l j) = false) : findTo p l = k := by
  have e : l.findIdx? p = some k := by
    rw [List.findIdx?_eq_some_iff_getElem]
    refine ⟨h, by rw [← nth_eq h]; exact hp, fun j hj => ?_⟩
    have := hf j hj
    rw [nth_eq (by omega)] at this
    simp [this]
  unfold findTo; rw [e]
theorem findTo_no {p : Int → Bool} {l : List Int} (hf : ∀ j, j < l.length → p (nth l j) = false) : findTo p l = -1 := by
  have e : l.findIdx? p = none := by
    rw [List.findIdx?_eq_none_iff]
    intro x hx
    obtain ⟨j, hj, rfl⟩ := List.getElem_of_mem hx
    have := hf j hj
    rwa [nth_eq hj] at this
  unfold findTo; rw [e]
theorem findTo_nonneg {p : Int → Bool} {l : List Int} : decide (0 ≤ findTo p l) = l.any p := by
  unfold findTo
  cases h : l.findIdx? p with
  | none =>
    rw [List.findIdx?_eq_none_iff] at h
    have : l.any p = false := by rw [List.any_eq_false]; intro x hx; simpa using h x hx
    rw [this]; rfl
  | some i =>
    rw [List.findIdx?_eq_some_iff_getElem] at h
    obtain ⟨hi, hp, _⟩ := h
    have : l.any p = true := List.any_eq_true.2 ⟨_, List.getElem_mem hi, hp⟩
    rw [this]; simp

set_option maxHeartbeats 400000 in
theorem slices_IndexFunc (v : Value) (l : List Int) (g : FuncId) (caps : Array Value) (p : Int → Bool) (w : World) (h : Ints w v l) (hp : Decides w g caps p) :
    Calls Try.prog 218 #[v, .func (.func g) #[] caps] w fun e w' => e = .returned (.int .i64 (findTo p l)) ∧ Below w.heap.size w w' := by
  obtain ⟨a, n, c, rfl⟩ := h.shape
  have e := h.len
  obtain ⟨k1, k2⟩ := h.capMax
  unfold maxLen at k2
  have HE := Lib.hid e; clear e
  have hent := hp.enters
  have HP := Lib.hid hp; clear hp
  have H := Lib.hid h; clear h
  go_enter Try.func218, Try.ntmps218
  go_wp2
  go_loopg [8] n (fun g i wr => ∃ k : Nat, k + g = n ∧ i = .int .i64 k ∧ Hid (∀ j, j < k → p (nth l j) = false) ∧ Below w.heap.size w wr)
  case atStart => exact ⟨0, by omega, rfl, fun j hj => by omega, Below.refl _ _⟩
  case round =>
    obtain ⟨k, hkg, rfl, HF, hb⟩ := hrel
    by_cases hlt : k < n
    · obtain ⟨b, o, rfl, hcx⟩ := (H.out.below hb).at_ (by omega)
      have hy := hcx k hlt
      clear hcx
      have hI := H.out.all.at_ k
      cases hpx : p (nth l k) with
      | true =>
        have HR : Hid (findTo p l = k) := by
          refine findTo_yes (by rw [HE.out]; exact hlt) hpx (fun j hj => HF.out j hj)
        have HX := Lib.hid hpx
        clear hpx
        go_wp2_with fail
        refine (HP.out.runs _ _ hI hb).mono ?_
        rintro e w1 ⟨rfl, hb1⟩
        rw [HX.out]
        go_wp2_with fail
        go_ret
        exact ⟨ret_int (by first | (rw [HR.out]; done) | (rw [HR.out]; rfl) | exact HR.out.symm), hb.trans (hb1.mono hb.size)⟩
      | false =>
        have HX := Lib.hid hpx
        clear hpx
        go_wp2_with fail
        refine (HP.out.runs _ _ hI hb).mono ?_
        rintro e w1 ⟨rfl, hb1⟩
        rw [HX.out]
        go_wp2_with fail
        go_roundg (n - (k + 1))
        case measure => omega
        case rel =>
          refine ⟨k + 1, by omega, by go_num, fun j hj => ?_, hb.trans (hb1.mono hb.size)⟩
          rcases Nat.lt_succ_iff_lt_or_eq.1 hj with h | rfl
          · exact HF.out j h
          · exact HX.out
    · have HR : Hid (findTo p l = -1) := findTo_no (fun j hj => HF.out j (by rw [HE.out] at hj; omega))
      go_wp2_with fail
      go_ret
      exact ⟨ret_int (by first | (rw [HR.out]; done) | (rw [HR.out]; rfl) | exact HR.out.symm), hb⟩
set_option maxHeartbeats 400000 in
theorem slices_ContainsFunc (v : Value) (l : List Int) (g : FuncId) (caps : Array Value) (p : Int → Bool) (w : World) (h : Ints w v l) (hp : Decides w g caps p) :
    Calls Try.prog 186 #[v, .func (.func g) #[] caps] w fun e w' => e = .returned (.bool (l.any p)) ∧ Below w.heap.size w w' := by
  have HP := Lib.hid hp; clear hp
  have H := Lib.hid h; clear h
  go_enter Try.func186, Try.ntmps186
  go_wp2_with fail
  refine (slices_IndexFunc v l g caps p _ H.out HP.out).mono ?_
  rintro e w1 ⟨rfl, hb⟩
  have HR := Lib.hid (findTo_nonneg (p := p) (l := l))
  go_wp2_with fail
  go_ret
  exact ⟨ret_bool (by first | (rw [HR.out]; done) | (rw [HR.out]; rfl) | exact HR.out.symm), hb⟩
set_option maxHeartbeats 400000 in
theorem spec_l1All (v : Value) (l : List Int) (lo hi : Int) (w : World) (h : Ints w v l) :
    Calls Try.prog 112 #[v, .int .i64 lo, .int .i64 hi] w fun e w' => e = .returned (.bool (l.all fun x => decide (lo ≤ x ∧ x ≤ hi))) ∧ w = w' := by
  obtain ⟨a, n, c, rfl⟩ := h.shape
  have e := h.len
  obtain ⟨k1, k2⟩ := h.capMax
  unfold maxLen at k2
  have HE := Lib.hid e; clear e
  have H := Lib.hid h; clear h
  go_enter Try.func112, Try.ntmps112
  go_wp2
  go_loopg [11] n (fun g i wr => ∃ k : Nat, k + g = n ∧ i = .int .i64 k ∧ Hid (∀ j, j < k → decide (lo ≤ nth l j ∧ nth l j ≤ hi) = true) ∧ wr = w)
  case atStart => exact ⟨0, by omega, rfl, fun j hj => by omega, rfl⟩
  case round =>
    obtain ⟨k, hkg, rfl, HF, rfl⟩ := hrel
    by_cases hlt : k < n
    · obtain ⟨b, o, rfl, hcx⟩ := H.out.at_ (by omega)
      have hy := hcx k hlt
      clear hcx
      cases hpx : decide (lo ≤ nth l k ∧ nth l k ≤ hi) with
      | true =>
        have HX := Lib.hid hpx
        clear hpx
        go_wp2_with fail
        refine (spec_l1In _ _ _ _).mono ?_
        rintro e w1 ⟨rfl, rfl⟩
        rw [HX.out]
        go_wp2_with fail
        go_roundg (n - (k + 1))
        case measure => omega
        case rel =>
          refine ⟨k + 1, by omega, by go_num, fun j hj => ?_, rfl⟩
          rcases Nat.lt_succ_iff_lt_or_eq.1 hj with h | rfl
          · exact HF.out j h
          · exact HX.out
      | false =>
        have HR : Hid ((l.all fun x => decide (lo ≤ x ∧ x ≤ hi)) = false) := by
          refine List.all_eq_false.2 ⟨nth l k, ?_, by simpa using hpx⟩
          rw [nth_eq (by rw [HE.out]; exact hlt)]; exact List.getElem_mem _
        have HX := Lib.hid hpx
        clear hpx
        go_wp2_with fail
        refine (spec_l1In _ _ _ _).mono ?_
        rintro e w1 ⟨rfl, rfl⟩
        rw [HX.out]
        go_wp2_with fail
        go_ret
        exact ⟨ret_bool (by first | (rw [HR.out]; done) | (rw [HR.out]; rfl) | exact HR.out.symm), rfl⟩
    · have HR : Hid ((l.all fun x => decide (lo ≤ x ∧ x ≤ hi)) = true) := by
        refine List.all_eq_true.2 fun x hx => ?_
        obtain ⟨j, hj, rfl⟩ := List.getElem_of_mem hx
        have := HF.out j (by rw [HE.out] at hj; omega)
        rwa [nth_eq hj] at this
      go_wp2_with fail
      go_ret
      exact ⟨ret_bool (by first | (rw [HR.out]; done) | (rw [HR.out]; rfl) | exact HR.out.symm), rfl⟩
/-- the bytes of a string as integers -/
def bytesI (s : ByteArray) : List Int := s.data.toList.map fun b => (b.toNat : Int)
def lab (s : ByteArray) : List Int := (s.size : Int) :: bytesI s
theorem Ints.lit1 (w : World) {x : Int} (h : I64 x) : Ints (w.alloc (.cells #[.int .i64 x] 3)) (.slice (some ⟨w.heap.size, 0, none⟩) 1 1) [x] :=
  (OwnI.lit (B := 0) w (Nat.zero_le _) (AllI64.one h) rfl (by simp [maxLen]) 1 rfl).ints
theorem OwnI.lit1 {B : Nat} (w : World) (hB : B ≤ w.heap.size) {x : Int} (h : I64 x) : OwnI (w.alloc (.cells #[.int .i64 x] 3)) B (.slice (some ⟨w.heap.size, 0, none⟩) 1 1) [x] :=
  OwnI.lit w hB (AllI64.one h) rfl (by simp [maxLen]) 1 rfl
theorem OwnI.alloc {w : World} {B : Nat} {v : Value} {l : List Int} (h : OwnI w B v l) (o : Obj) : OwnI (w.alloc o) B v l := h.below ((Below.refl _ _).alloc (Nat.le_refl _) o)
/-- a block of two cells -/
def Box2 (w : World) (b : Nat) (t : TypeId) (x y : Value) : Prop := w.heap[b]? = some (.cells #[x, y] t (0, 0))
section
variable {w w' : World} {b : Nat} {t : TypeId} {x y : Value}
theorem Box2.frozen (h : Box2 w b t x y) (j : Nat) : w.frozen? ⟨b, j, none⟩ = false := frozen_of_row w b j _ t h
theorem Box2.lt (h : Box2 w b t x y) : b < w.heap.size := (Array.getElem?_eq_some_iff.1 h).1
theorem Box2.below (h : Box2 w b t x y) (hb : Below w.heap.size w w') : Box2 w' b t x y := (hb.block b h.lt).trans h
theorem Box2.alloc (h : Box2 w b t x y) (o : Obj) : Box2 (w.alloc o) b t x y := h.below ((Below.refl _ _).alloc (Nat.le_refl _) o)
theorem grownBy_setCell (w : World) (b o : Nat) (u : Value) : w.grownBy (w.setCell ⟨b, o, none⟩ u) (some b) :=
  ⟨rfl, rfl, rfl, by simp, fun k _ hk => heap_setCell_other w ⟨b, o, none⟩ k u (fun e => hk (by simp [e]))⟩
end
end Go.Proofs.Ytacpnphfopmofaa
/- Kinds of values: what reads as data, and what the call owns (in blocks from lo to hi). -/

namespace Go.Proofs.Ytacpnphfopmofaa
open Go.RowKit
set_option linter.unusedSimpArgs false
set_option linter.unusedVariables false

/-- a kind of Go value: `rd`: it reads as the data; `own`: besides, all its memory is the call's own, in blocks from lo to hi -/
structure Kind (δ : Type) where
  rd : World → Value → δ → Prop
  own : World → Nat → Nat → Value → δ → Prop
  rd_below : ∀ {w w' : World} {v : Value} {d : δ}, rd w v d → Below w.heap.size w w' → rd w' v d
  own_rd : ∀ {w : World} {lo hi : Nat} {v : Value} {d : δ}, own w lo hi v d → rd w v d
  own_frame : ∀ {w w' : World} {lo hi : Nat} {v : Value} {d : δ}, own w lo hi v d → (∀ k, lo ≤ k → k < hi → k < w.heap.size → w'.heap[k]? = w.heap[k]?) → own w' lo hi v d
  own_mono : ∀ {w : World} {lo hi lo' hi' : Nat} {v : Value} {d : δ}, own w lo hi v d → lo' ≤ lo → hi ≤ hi' → own w lo' hi' v d
section
variable {δ : Type} {K : Kind δ} {w w' : World} {lo hi lo' hi' : Nat} {v : Value} {d : δ}
theorem Kind.next (h : K.own w lo hi v d) (hb : Below w.heap.size w w') : K.own w' lo hi v d := K.own_frame h fun k _ _ hk => hb.block k hk
theorem Kind.kept (h : K.own w lo hi v d) (hw : Within lo' hi' w w') (hd : hi ≤ lo' ∨ hi' ≤ lo) : K.own w' lo hi v d := K.own_frame h fun k h1 h2 hk => hw.block k hk (by omega)
end
theorem ownsRow_frame {w w' : World} {B : Nat} {e : TypeId} {s n : Nat} {v : Value} {xs : List Value} (h : w.ownsRow B e s v n xs) (hf : ∀ g, v.ownBlock = some g → w'.heap[g]? = w.heap[g]?) : w'.ownsRow B e s v n xs := by
  refine ⟨h.1, ?_⟩
  rcases h.2 with h2 | ⟨g, cap, cur, rfl, hb, hg, r⟩
  · exact .inl h2
  · exact .inr ⟨g, cap, cur, rfl, hb, (hf g rfl).trans hg, r⟩
theorem ownsRow_mono {w : World} {B B' : Nat} {e : TypeId} {s n : Nat} {v : Value} {xs : List Value} (h : w.ownsRow B e s v n xs) (hB : B' ≤ B) : w.ownsRow B' e s v n xs := by
  refine ⟨h.1, ?_⟩
  rcases h.2 with h2 | ⟨g, cap, cur, e, hb, r⟩
  · exact .inl h2
  · exact .inr ⟨g, cap, cur, e, by omega, r⟩
theorem box_at {W w' : World} {g j : Nat} {x : Value} (h : W.cell? ⟨g, j, none⟩ = some x) (hb : Below W.heap.size W w') : w'.cell? ⟨g, j, none⟩ = some x :=
  (hb.cell (p := ⟨g, j, none⟩) (World.block_lt_of_cell? W _ h)).trans h
theorem within_at {w w' : World} {lo hi g j : Nat} {x : Value} (h : Within lo hi w w') (hc : w.cell? ⟨g, j, none⟩ = some x) (hd : g < lo ∨ hi ≤ g) : w'.cell? ⟨g, j, none⟩ = some x := by
  have := h.block g (World.block_lt_of_cell? w _ hc) hd
  rw [← hc]; simp [World.cell?, this]
/-- slices of integers -/
def kInts : Kind (List Int) where
  rd := Ints
  own := InI
  rd_below h hb := h.below hb
  own_rd h := h.reads
  own_frame := by
    intro w w' lo hi v d h hf
    have hlt := h.1.lt
    exact ⟨⟨h.1.1, ownsRow_frame h.1.2 fun g hg => hf g (hlt g hg).1 (h.2 g hg) (hlt g hg).2⟩, h.2⟩
  own_mono h h1 h2 := ⟨h.1.mono h1, fun k hk => Nat.lt_of_lt_of_le (h.2 k hk) h2⟩

/-- slices whose elements are of a kind, one cell an element -/
def RdL {δ : Type} (K : Kind δ) (w : World) (v : Value) (ds : List δ) : Prop :=
  ∃ a n c, v = .slice a n c ∧ ds.length = n ∧ n ≤ c ∧ c ≤ maxLen ∧ ((a = none ∧ n = 0 ∧ c = 0) ∨ (∃ ad, a = some ad ∧ n = 0) ∨
    ∃ b o, a = some ⟨b, o, none⟩ ∧ ∃ vs : Nat → Value, ∀ i (hi : i < ds.length), w.cell? ⟨b, o + i, none⟩ = some (vs i) ∧ K.rd w (vs i) ds[i])
def OwnL {δ : Type} (e : TypeId) (K : Kind δ) (w : World) (lo hi : Nat) (v : Value) (ds : List δ) : Prop :=
  ∃ (vs : List Value) (los his : Nat → Nat), vs.length = ds.length ∧ w.ownsRow lo e 1 v ds.length vs ∧ (∀ g, v.ownBlock = some g → g < hi ∧ ∀ i, i < ds.length → g < los i ∨ his i ≤ g) ∧
    (∀ i (h1 : i < vs.length) (h2 : i < ds.length), K.own w (los i) (his i) vs[i] ds[i] ∧ lo ≤ los i ∧ his i ≤ hi) ∧
    ∀ i j, i < ds.length → j < ds.length → i ≠ j → his i ≤ los j ∨ his j ≤ los i
theorem RdL.shape {δ : Type} {K : Kind δ} {w : World} {v : Value} {ds : List δ} (h : RdL K w v ds) : ∃ a n c, v = .slice a n c := by
  obtain ⟨a, n, c, e, _⟩ := h; exact ⟨a, n, c, e⟩
theorem RdL.len {δ : Type} {K : Kind δ} {w : World} {a : Option Addr} {n c : Nat} {ds : List δ} (h : RdL K w (.slice a n c) ds) : ds.length = n := by
  obtain ⟨_, _, _, e, h1, _⟩ := h; cases e; exact h1
theorem RdL.capMax {δ : Type} {K : Kind δ} {w : World} {a : Option Addr} {n c : Nat} {ds : List δ} (h : RdL K w (.slice a n c) ds) : n ≤ c ∧ c ≤ maxLen := by
  obtain ⟨_, _, _, e, h1, h2, h3, _⟩ := h; cases e; exact ⟨h2, h3⟩
theorem RdL.nil {δ : Type} (K : Kind δ) (w : World) : RdL K w (.slice none 0 0) [] := ⟨none, 0, 0, rfl, rfl, Nat.le_refl _, Nat.zero_le _, .inl ⟨rfl, rfl, rfl⟩⟩
theorem RdL.at_ {δ : Type} {K : Kind δ} {w : World} {a : Option Addr} {n c : Nat} {ds : List δ} (h : RdL K w (.slice a n c) ds) (hn : 0 < n) :
    ∃ b o, a = some ⟨b, o, none⟩ ∧ ∃ vs : Nat → Value, ∀ i (hi : i < ds.length), w.cell? ⟨b, o + i, none⟩ = some (vs i) ∧ K.rd w (vs i) ds[i] := by
  obtain ⟨_, _, _, e, h1, h2, h3, h4⟩ := h
  cases e
  rcases h4 with ⟨_, h4, _⟩ | ⟨_, _, h4⟩ | h4
  · omega
  · omega
  · exact h4
theorem OwnL.rd {δ : Type} {e : TypeId} {K : Kind δ} {w : World} {lo hi : Nat} {v : Value} {ds : List δ} (h : OwnL e K w lo hi v ds) : RdL K w v ds := by
  obtain ⟨vs, los, his, hl, hO, hg, hel, hd⟩ := h
  have hO' := hO
  obtain ⟨hl1, ⟨rfl, h0⟩ | ⟨g, c, cur, rfl, hb, hgc, hnc, hcm, hcs, htake⟩⟩ := hO
  · have : ds = [] := List.eq_nil_of_length_eq_zero h0
    subst this; exact RdL.nil K w
  · refine ⟨some ⟨g, 0, none⟩, ds.length, c, rfl, rfl, hnc, hcm, .inr (.inr ⟨g, 0, rfl, fun i => vs.getD i undef, fun i hi => ?_⟩)⟩
    have h1 := World.ownsRow.cellAt hO' i (by omega)
    refine ⟨?_, ?_⟩
    · rw [Nat.zero_add, h1]; simp [show i < vs.length by omega]
    · have := K.own_rd (hel i (by omega) hi).1
      simpa [List.getD, show i < vs.length by omega] using this
/-- slices of a kind as a kind -/
def kList {δ : Type} (e : TypeId) (K : Kind δ) : Kind (List δ) where
  rd := RdL K
  own := OwnL e K
  rd_below := by
    intro w w' v d h hb
    obtain ⟨a, n, c, e, h1, h2, h3, h4⟩ := h
    refine ⟨a, n, c, e, h1, h2, h3, ?_⟩
    rcases h4 with h4 | h4 | ⟨b, o, h4, vs, hc⟩
    · exact .inl h4
    · exact .inr (.inl h4)
    · refine .inr (.inr ⟨b, o, h4, vs, fun i hi => ?_⟩)
      obtain ⟨h5, h6⟩ := hc i hi
      exact ⟨(hb.cell (World.block_lt_of_cell? w _ h5)).trans h5, K.rd_below h6 hb⟩
  own_rd := OwnL.rd
  own_frame := by
    intro w w' lo hi v d h hf
    obtain ⟨vs, los, his, hl, hO, hg, hel, hd⟩ := h
    refine ⟨vs, los, his, hl, ownsRow_frame hO fun g hgv => hf g (hO.lt g hgv).1 (hg g hgv).1 (hO.lt g hgv).2, hg, fun i h1 h2 => ?_, hd⟩
    obtain ⟨h3, h4, h5⟩ := hel i h1 h2
    exact ⟨K.own_frame h3 fun k k1 k2 k3 => hf k (by omega) (by omega) k3, h4, h5⟩
  own_mono := by
    intro w lo hi lo' hi' v d h h1 h2
    obtain ⟨vs, los, his, hl, hO, hg, hel, hd⟩ := h
    exact ⟨vs, los, his, hl, ownsRow_mono hO h1, fun g hgv => ⟨by have := (hg g hgv).1; omega, (hg g hgv).2⟩, fun i k1 k2 => ⟨(hel i k1 k2).1, by have := (hel i k1 k2).2; omega, by have := (hel i k1 k2).2; omega⟩, hd⟩
end Go.Proofs.Ytacpnphfopmofaa
/- append to a row of the call's own: in which block the new row lies; a slice of slices that grows by one. -/

namespace Go.Proofs.Ytacpnphfopmofaa
open Go.RowKit
set_option linter.unusedSimpArgs false
set_option linter.unusedVariables false

theorem OwnL.nil {δ : Type} (e : TypeId) (K : Kind δ) (w : World) (lo hi : Nat) : OwnL e K w lo hi (.slice none 0 0) [] :=
  ⟨[], fun _ => 0, fun _ => 0, rfl, World.ownsRow_nil w lo e 1, (fun g h => by cases h), (fun i h1 _ => by simp at h1), (fun i j h _ _ => by simp at h)⟩
end Go.Proofs.Ytacpnphfopmofaa
/- Rows of cells: structs, and slices of structs, as kinds. No program is named here. -/

namespace Go.Proofs.Ytacpnphfopmofaa
open Go.RowKit
set_option linter.unusedSimpArgs false
set_option linter.unusedVariables false

/-- a kind of rows of cells (a struct's cells, one behind the other) -/
structure RowK (δ : Type) where
  width : Nat
  rd : World → List Value → δ → Prop
  own : World → Nat → Nat → List Value → δ → Prop
  rd_len : ∀ {w : World} {vs : List Value} {d : δ}, rd w vs d → vs.length = width
  rd_one : ∀ {w : World} {vs : List Value} {d : δ}, rd w vs d → ∀ v ∈ vs, v.oneCell' = true
  rd_below : ∀ {w w' : World} {vs : List Value} {d : δ}, rd w vs d → Below w.heap.size w w' → rd w' vs d
  own_rd : ∀ {w : World} {lo hi : Nat} {vs : List Value} {d : δ}, own w lo hi vs d → rd w vs d
  own_frame : ∀ {w w' : World} {lo hi : Nat} {vs : List Value} {d : δ}, own w lo hi vs d → (∀ k, lo ≤ k → k < hi → k < w.heap.size → w'.heap[k]? = w.heap[k]?) → own w' lo hi vs d
  own_mono : ∀ {w : World} {lo hi lo' hi' : Nat} {vs : List Value} {d : δ}, own w lo hi vs d → lo' ≤ lo → hi ≤ hi' → own w lo' hi' vs d
section
variable {δ ε : Type} {w w' : World} {lo hi lo' hi' : Nat} {vs : List Value} {d : δ}
theorem RowK.next {R : RowK δ} (h : R.own w lo hi vs d) (hb : Below w.heap.size w w') : R.own w' lo hi vs d := R.own_frame h fun k _ _ hk => hb.block k hk
theorem RowK.kept {R : RowK δ} (h : R.own w lo hi vs d) (hw : Within lo' hi' w w') (hd : hi ≤ lo' ∨ hi' ≤ lo) : R.own w' lo hi vs d := R.own_frame h fun k h1 h2 hk => hw.block k hk (by omega)
/-- no cell -/
def rNil : RowK Unit where
  width := 0
  rd _ vs _ := vs = []
  own _ _ _ vs _ := vs = []
  rd_len h := by rw [h]; rfl
  rd_one h := by rw [h]; simp
  rd_below h _ := h
  own_rd h := h
  own_frame h _ := h
  own_mono h _ _ := h
/-- an integer in front -/
def rI (R : RowK δ) : RowK (Int × δ) where
  width := R.width + 1
  rd w vs d := ∃ us, vs = .int .i64 d.1 :: us ∧ I64 d.1 ∧ R.rd w us d.2
  own w lo hi vs d := ∃ us, vs = .int .i64 d.1 :: us ∧ I64 d.1 ∧ R.own w lo hi us d.2
  rd_len := by rintro w vs d ⟨us, rfl, _, h⟩; rw [List.length_cons, R.rd_len h]
  rd_one := by
    rintro w vs d ⟨us, rfl, _, h⟩ v hv
    rcases List.mem_cons.1 hv with rfl | hv
    · rfl
    · exact R.rd_one h v hv
  rd_below := by rintro w w' vs d ⟨us, e, h1, h⟩ hb; exact ⟨us, e, h1, R.rd_below h hb⟩
  own_rd := by rintro w lo hi vs d ⟨us, e, h1, h⟩; exact ⟨us, e, h1, R.own_rd h⟩
  own_frame := by rintro w w' lo hi vs d ⟨us, e, h1, h⟩ hf; exact ⟨us, e, h1, R.own_frame h hf⟩
  own_mono := by rintro w lo hi lo' hi' vs d ⟨us, e, h1, h⟩ q1 q2; exact ⟨us, e, h1, R.own_mono h q1 q2⟩
/-- the same rows, their data under another type -/
def rMap (R : RowK δ) (f : ε → δ) : RowK ε where
  width := R.width
  rd w vs d := R.rd w vs (f d)
  own w lo hi vs d := R.own w lo hi vs (f d)
  rd_len := R.rd_len
  rd_one := R.rd_one
  rd_below := R.rd_below
  own_rd := R.own_rd
  own_frame := R.own_frame
  own_mono := R.own_mono
/-- a struct's value -/
def kS (R : RowK δ) : Kind δ where
  rd w v d := ∃ vs, v = .agg vs.toArray ∧ R.rd w vs d
  own w lo hi v d := ∃ vs, v = .agg vs.toArray ∧ R.own w lo hi vs d
  rd_below := by rintro w w' v d ⟨vs, e, h⟩ hb; exact ⟨vs, e, R.rd_below h hb⟩
  own_rd := by rintro w lo hi v d ⟨vs, e, h⟩; exact ⟨vs, e, R.own_rd h⟩
  own_frame := by rintro w w' lo hi v d ⟨vs, e, h⟩ hf; exact ⟨vs, e, R.own_frame h hf⟩
  own_mono := by rintro w lo hi lo' hi' v d ⟨vs, e, h⟩ q1 q2; exact ⟨vs, e, R.own_mono h q1 q2⟩
end
/-! ### rows laid one behind the other -/
theorem flat_get {s : Nat} : ∀ {css : List (List Value)}, (∀ c ∈ css, c.length = s) → ∀ {i k : Nat}, k < s → css.flatten[i * s + k]? = (css[i]?).bind (fun c => c[k]?) := by
  intro css
  induction css with
  | nil => intro _ i k _; simp
  | cons c css ih =>
    intro h i k hk
    have hc := h c (by simp)
    cases i with
    | zero => simp [List.getElem?_append, hc, hk]
    | succ i =>
      have e : (i + 1) * s + k = c.length + (i * s + k) := by rw [hc, Nat.succ_mul]; omega
      rw [List.flatten_cons, e, List.getElem?_append_right (Nat.le_add_right _ _), Nat.add_sub_cancel_left, ih (fun x hx => h x (by simp [hx])) hk]
      simp
theorem flat_set {s : Nat} {x : Value} : ∀ {css : List (List Value)}, (∀ c ∈ css, c.length = s) → ∀ {i k : Nat} (hi : i < css.length), k < s → css.flatten.set (i * s + k) x = (css.set i (css[i].set k x)).flatten := by
  intro css
  induction css with
  | nil => intro _ i k hi; simp at hi
  | cons c css ih =>
    intro h i k hi hk
    have hc := h c (by simp)
    cases i with
    | zero => simp [List.set_append, hc, hk]
    | succ i =>
      have e : (i + 1) * s + k = c.length + (i * s + k) := by rw [hc, Nat.succ_mul]; omega
      rw [List.flatten_cons, e, List.set_append, if_neg (by omega), Nat.add_sub_cancel_left, ih (fun x hx => h x (by simp [hx])) (by simpa using hi) hk]
      simp
theorem flat_len {s : Nat} : ∀ {css : List (List Value)}, (∀ c ∈ css, c.length = s) → css.flatten.length = css.length * s := by
  intro css
  induction css with
  | nil => intro _; simp
  | cons c css ih =>
    intro h
    rw [List.flatten_cons, List.length_append, ih (fun x hx => h x (by simp [hx])), h c (by simp), List.length_cons, Nat.succ_mul]; omega
/-! ### slices of structs -/
section
variable {δ : Type}
def RdR (R : RowK δ) (w : World) (v : Value) (ds : List δ) : Prop :=
  ∃ a n c, v = .slice a n c ∧ ds.length = n ∧ n ≤ c ∧ c ≤ maxLen ∧ ((a = none ∧ n = 0 ∧ c = 0) ∨ (∃ ad, a = some ad ∧ n = 0) ∨
    ∃ b o, a = some ⟨b, o, none⟩ ∧ ∀ i (hi : i < ds.length), ∃ vs, (∀ k, k < R.width → w.cell? ⟨b, o + (i * R.width + k), none⟩ = vs[k]?) ∧ R.rd w vs ds[i])
def OwnR (e : TypeId) (R : RowK δ) (w : World) (lo hi : Nat) (v : Value) (ds : List δ) : Prop :=
  ∃ (css : List (List Value)) (los his : Nat → Nat), css.length = ds.length ∧ w.ownsRow lo e R.width v ds.length css.flatten ∧ (∀ g, v.ownBlock = some g → g < hi ∧ ∀ i, i < ds.length → g < los i ∨ his i ≤ g) ∧
    (∀ i (h1 : i < css.length) (h2 : i < ds.length), R.own w (los i) (his i) css[i] ds[i] ∧ lo ≤ los i ∧ his i ≤ hi) ∧
    ∀ i j, i < ds.length → j < ds.length → i ≠ j → his i ≤ los j ∨ his j ≤ los i
theorem RdR.shape {R : RowK δ} {w : World} {v : Value} {ds : List δ} (h : RdR R w v ds) : ∃ a n c, v = .slice a n c := by
  obtain ⟨a, n, c, e, _⟩ := h; exact ⟨a, n, c, e⟩
theorem RdR.len {R : RowK δ} {w : World} {a : Option Addr} {n c : Nat} {ds : List δ} (h : RdR R w (.slice a n c) ds) : ds.length = n := by
  obtain ⟨_, _, _, e, h1, _⟩ := h; cases e; exact h1
theorem RdR.capMax {R : RowK δ} {w : World} {a : Option Addr} {n c : Nat} {ds : List δ} (h : RdR R w (.slice a n c) ds) : n ≤ c ∧ c ≤ maxLen := by
  obtain ⟨_, _, _, e, h1, h2, h3, _⟩ := h; cases e; exact ⟨h2, h3⟩
theorem RdR.nil (R : RowK δ) (w : World) : RdR R w (.slice none 0 0) [] := ⟨none, 0, 0, rfl, rfl, Nat.le_refl _, Nat.zero_le _, .inl ⟨rfl, rfl, rfl⟩⟩
theorem RdR.at_ {R : RowK δ} {w : World} {a : Option Addr} {n c : Nat} {ds : List δ} (h : RdR R w (.slice a n c) ds) (hn : 0 < n) :
    ∃ b o, a = some ⟨b, o, none⟩ ∧ ∀ i (hi : i < ds.length), ∃ vs, (∀ k, k < R.width → w.cell? ⟨b, o + (i * R.width + k), none⟩ = vs[k]?) ∧ R.rd w vs ds[i] := by
  obtain ⟨_, _, _, e, h1, h2, h3, h4⟩ := h
  cases e
  rcases h4 with ⟨_, h4, _⟩ | ⟨_, _, h4⟩ | h4
  · omega
  · omega
  · exact h4
theorem RdR.below {R : RowK δ} {w w' : World} {v : Value} {ds : List δ} (h : RdR R w v ds) (hb : Below w.heap.size w w') : RdR R w' v ds := by
  obtain ⟨a, n, c, e, h1, h2, h3, h4⟩ := h
  refine ⟨a, n, c, e, h1, h2, h3, ?_⟩
  rcases h4 with h4 | h4 | ⟨b, o, h4, hc⟩
  · exact .inl h4
  · exact .inr (.inl h4)
  · refine .inr (.inr ⟨b, o, h4, fun i hi => ?_⟩)
    obtain ⟨vs, h5, h6⟩ := hc i hi
    refine ⟨vs, fun k hk => ?_, R.rd_below h6 hb⟩
    have h7 := h5 k hk
    rw [List.getElem?_eq_getElem (by rw [R.rd_len h6]; exact hk)] at h7 ⊢
    exact box_at h7 hb
theorem OwnR.lens {e : TypeId} {R : RowK δ} {w : World} {css : List (List Value)} {ds : List δ} {los his : Nat → Nat} {lo hi : Nat} (hl : css.length = ds.length)
    (hel : ∀ i (h1 : i < css.length) (h2 : i < ds.length), R.own w (los i) (his i) css[i] ds[i] ∧ lo ≤ los i ∧ his i ≤ hi) : ∀ c ∈ css, c.length = R.width := by
  intro c hc
  obtain ⟨i, hi, rfl⟩ := List.getElem_of_mem hc
  exact R.rd_len (R.own_rd (hel i hi (by omega)).1)
theorem OwnR.rd {e : TypeId} {R : RowK δ} {w : World} {lo hi : Nat} {v : Value} {ds : List δ} (h : OwnR e R w lo hi v ds) : RdR R w v ds := by
  obtain ⟨css, los, his, hl, hO, hg, hel, hd⟩ := h
  have hlen := OwnR.lens (e := e) hl hel
  have hO' := hO
  obtain ⟨hl1, ⟨rfl, h0⟩ | ⟨g, c, cur, rfl, hb, hgc, hnc, hcm, hcs, htake⟩⟩ := hO
  · have : ds = [] := List.eq_nil_of_length_eq_zero h0
    subst this; exact RdR.nil R w
  · refine ⟨some ⟨g, 0, none⟩, ds.length, c, rfl, rfl, hnc, hcm, .inr (.inr ⟨g, 0, rfl, fun i hi => ?_⟩)⟩
    refine ⟨css[i]'(by omega), fun k hk => ?_, R.own_rd (hel i (by omega) hi).1⟩
    have h1 := World.ownsRow.cellAt hO' (i * R.width + k) (by
      have : (i + 1) * R.width ≤ ds.length * R.width := Nat.mul_le_mul_right _ hi
      rw [Nat.succ_mul] at this; omega)
    rw [Nat.zero_add, h1, flat_get hlen hk, List.getElem?_eq_getElem (by omega)]
    rfl
end
/-! ### a struct that lies in a block of its own -/
def BoxN (w : World) (b : Nat) (t : TypeId) (cs : List Value) : Prop := w.heap[b]? = some (.cells cs.toArray t (0, 0))
section
variable {w w' : World} {b : Nat} {t : TypeId} {cs : List Value}
theorem BoxN.cell (h : BoxN w b t cs) {i : Nat} {v : Value} (hv : cs[i]? = some v) : w.cell? ⟨b, i, none⟩ = some v := by rw [cell_of_row w b i _ t (0, 0) h]; simpa using hv
theorem BoxN.frozen (h : BoxN w b t cs) (j : Nat) : w.frozen? ⟨b, j, none⟩ = false := frozen_of_row w b j _ t h
theorem BoxN.lt (h : BoxN w b t cs) : b < w.heap.size := (Array.getElem?_eq_some_iff.1 h).1
theorem BoxN.below (h : BoxN w b t cs) (hb : Below w.heap.size w w') : BoxN w' b t cs := (hb.block b h.lt).trans h
theorem BoxN.kept {lo hi : Nat} (h : BoxN w b t cs) (hb : Within lo hi w w') (hd : b < lo ∨ hi ≤ b) : BoxN w' b t cs := (hb.block b h.lt hd).trans h
theorem BoxN.set (h : BoxN w b t cs) (i : Nat) (u : Value) : BoxN (w.setCell ⟨b, i, none⟩ u) b t (cs.set i u) := by
  have := heap_setCell_same w b i _ t u h
  simpa [BoxN] using this
theorem BoxN.other (h : BoxN w b t cs) {b' : Nat} (hne : b' ≠ b) (i : Nat) (u : Value) : BoxN (w.setCell ⟨b', i, none⟩ u) b t cs :=
  (heap_setCell_other w ⟨b', i, none⟩ b u (fun e => hne (by simpa using e.symm))).trans h
theorem BoxN.new (w : World) (cs : List Value) (t : TypeId) : BoxN (w.alloc (.cells cs.toArray t)) w.heap.size t cs := heap_alloc_new _ _
theorem BoxN.alloc (h : BoxN w b t cs) (o : Obj) : BoxN (w.alloc o) b t cs := (heap_alloc_old _ _ h.lt).trans h
end
theorem Within.allocR {lo hi : Nat} {w w' : World} (h : Within lo hi w w') (o : Obj) : Within lo hi w (w'.alloc o) :=
  h.trans (Within.of_below ((Below.refl _ _).alloc (Nat.le_refl _) o))
theorem Within.refl (lo hi : Nat) (w : World) : Within lo hi w w := Within.of_below (Below.refl _ _)
theorem Within.setCell {lo hi : Nat} {w w' : World} (h : Within lo hi w w') {b : Nat} (h1 : lo ≤ b) (h2 : b < hi) (j : Nat) (u : Value) : Within lo hi w (w'.setCell ⟨b, j, none⟩ u) :=
  h.trans ⟨rfl, rfl, rfl, by simp, fun k hk hr => heap_setCell_other w' ⟨b, j, none⟩ k u (fun e => by simp at e; omega)⟩
theorem size_setC {w : World} {p : Addr} {u : Value} : (w.setCell p u).heap.size = w.heap.size := by simp [World.setCell]
end Go.Proofs.Ytacpnphfopmofaa
/- Rows of structs: made, stored into, grown. No program is named here. -/

namespace Go.Proofs.Ytacpnphfopmofaa
open Go.RowKit
set_option linter.unusedSimpArgs false
set_option linter.unusedVariables false

section
variable {δ : Type}
theorem OwnR.nil (e : TypeId) (R : RowK δ) (w : World) (lo hi : Nat) : OwnR e R w lo hi (.slice none 0 0) [] :=
  ⟨[], fun _ => 0, fun _ => 0, rfl, by simpa using World.ownsRow_nil w lo e R.width, (fun g h => by cases h), (fun i h1 _ => by simp at h1), (fun i j h _ _ => by simp at h)⟩
end
end Go.Proofs.Ytacpnphfopmofaa
/- append of one struct to a row of the call's own. -/

namespace Go.Proofs.Ytacpnphfopmofaa
open Go.RowKit
set_option linter.unusedSimpArgs false
set_option linter.unusedVariables false

end Go.Proofs.Ytacpnphfopmofaa
/- Walks: small functions on slices of integers (Go's slices.Clone, slices.Equal; spec.l1Own, spec.l3Digest). -/



namespace Go.Proofs.Ytacpnphfopmofaa
open Go.RowKit
set_option linter.unusedSimpArgs false
set_option linter.unusedVariables false

end Go.Proofs.Ytacpnphfopmofaa
/- Walks: the text of a digest. -/



namespace Go.Proofs.Ytacpnphfopmofaa
open Go.RowKit
set_option linter.unusedSimpArgs false
set_option linter.unusedVariables false

def sHex : ByteArray := ⟨#[48, 49, 50, 51, 52, 53, 54, 55, 56, 57, 97, 98, 99, 100, 101, 102]⟩
def hexC (n : Nat) : UInt8 := sHex.data.getD n 0
/-- the last k hexadecimal digits of a number -/
def hexL : Nat → Nat → List UInt8
  | 0, _ => []
  | k + 1, d => hexL k (d / 16) ++ [hexC (d % 16)]
/-- the text of a digest -/
def dText (d : Int) : ByteArray := ⟨(hexL 16 d.toNat).toArray⟩
def u8s (l : List UInt8) : List Value := l.map fun b => Value.int .u8 (b.toNat : Int)
/-- the value is a row of bytes of the call's own, from block B on -/
def OwnU (w : World) (B : Nat) (v : Value) (l : List UInt8) : Prop := w.ownsRow B 5 1 v l.length (u8s l)
theorem OwnU.shape {w : World} {B : Nat} {v : Value} {l : List UInt8} (h : OwnU w B v l) : ∃ a c, v = .slice a l.length c := by
  rcases h.2 with ⟨h, h2⟩ | ⟨g, c, cur, h, _⟩
  · exact ⟨none, 0, by rw [h, h2]⟩
  · exact ⟨_, _, h⟩
theorem OwnU.below {w w' : World} {B : Nat} {v : Value} {l : List UInt8} (h : OwnU w B v l) (hb : Below w.heap.size w w') : OwnU w' B v l :=
  h.kept (row := none) ⟨hb.os, hb.tape, hb.output, hb.size, fun k hk _ => hb.block k hk⟩ (by cases v.ownBlock <;> simp)
theorem OwnU.alloc {w : World} {B : Nat} {v : Value} {l : List UInt8} (h : OwnU w B v l) (o : Obj) : OwnU (w.alloc o) B v l := h.below ((Below.refl _ _).alloc (Nat.le_refl _) o)
theorem OwnU.grown {w w' : World} {B : Nat} {v : Value} {l : List UInt8} (h : OwnU w B v l) (hg : w.grownBy w' v.ownBlock) (hB : B ≤ w.heap.size) : Below B w w' :=
  (Below.refl B w).grown hg hB (fun k hk => (h.lt k hk).1)
theorem OwnU.cells {w : World} {B : Nat} {a : Addr} {n c : Nat} {l : List UInt8} (h : OwnU w B (.slice (some a) n c) l) : ∃ g, a = ⟨g, 0, none⟩ ∧ ∀ j (hj : j < l.length), w.cell? (a.add j) = some (.int .u8 (l[j].toNat : Int)) := by
  have h' := h
  rcases h with ⟨hl, ⟨h1, h2⟩ | ⟨g, c', cur, h1, h2⟩⟩
  · cases h1
  · cases h1
    refine ⟨g, rfl, fun j hj => ?_⟩
    have h3 := World.ownsRow.cellAt h' j (by omega)
    rw [Addr.add_lit, Nat.zero_add, h3]
    simp [u8s, hj]
attribute [irreducible] dText
end Go.Proofs.Ytacpnphfopmofaa
/- Walks: records. -/


namespace Go.Proofs.Ytacpnphfopmofaa
open Go.RowKit
set_option linter.unusedSimpArgs false
set_option linter.unusedVariables false

end Go.Proofs.Ytacpnphfopmofaa
/- Walks: slices.Grow, slices.Concat. -/


namespace Go.Proofs.Ytacpnphfopmofaa
open Go.RowKit
set_option linter.unusedSimpArgs false
set_option linter.unusedVariables false

end Go.Proofs.Ytacpnphfopmofaa
/- Merkle trees as functions on lists: plain Lean. -/



namespace Go.Proofs.Ytacpnphfopmofaa
open Go.RowKit

/-- the number of binary digits 1 -/
def onesF : Nat → Nat → Nat
  | 0, _ => 0
  | f + 1, n => n % 2 + onesF f (n / 2)
def ones (n : Nat) : Nat := onesF 7 n
end Go.Proofs.Ytacpnphfopmofaa
/- Walks: Merkle trees. -/


namespace Go.Proofs.Ytacpnphfopmofaa
open Go.RowKit
set_option linter.unusedSimpArgs false
set_option linter.unusedVariables false

end Go.Proofs.Ytacpnphfopmofaa
/- Walks: paths of Merkle trees (printed by gen_merkle2.py). -/

namespace Go.Proofs.Ytacpnphfopmofaa
open Go.RowKit
set_option linter.unusedSimpArgs false
set_option linter.unusedVariables false

end Go.Proofs.Ytacpnphfopmofaa
/- Walks: InclusionPath and ConsistencyPath (printed by gen_merkle3.py). -/

namespace Go.Proofs.Ytacpnphfopmofaa
open Go.RowKit
set_option linter.unusedSimpArgs false
set_option linter.unusedVariables false

end Go.Proofs.Ytacpnphfopmofaa
/- Walks: VerifyConsistency (printed by gen_merkle4.py). -/

namespace Go.Proofs.Ytacpnphfopmofaa
open Go.RowKit
set_option linter.unusedSimpArgs false
set_option linter.unusedVariables false

end Go.Proofs.Ytacpnphfopmofaa
/- Walks: sorted lists as sets (spec.l1Has, spec.l1Put). -/

namespace Go.Proofs.Ytacpnphfopmofaa
open Go.RowKit
set_option linter.unusedSimpArgs false
set_option linter.unusedVariables false

end Go.Proofs.Ytacpnphfopmofaa
/- The plain law of ReachOf: a set as a sorted list, and as marks. -/

namespace Go.Proofs.Ytacpnphfopmofaa
set_option linter.unusedSimpArgs false
set_option linter.unusedVariables false

end Go.Proofs.Ytacpnphfopmofaa
/- Walks: ReachOf. -/




namespace Go.Proofs.Ytacpnphfopmofaa
open Go.RowKit
set_option linter.unusedSimpArgs false
set_option linter.unusedVariables false

/-- a function value that decides p on lists, in every world that has grown from w -/
structure DecidesR (w : World) (g : FuncId) (caps : Array Value) (p : List Int → Bool) : Prop where
  enters : ∀ args wr, (callFunc g args).run Try.prog wr = .ok (.enter g args) wr
  runs : ∀ v l wr, Ints wr v l → Below w.heap.size w wr → Calls Try.prog g (#[v] ++ caps) wr fun e w' => e = .returned (.bool (p l)) ∧ Below wr.heap.size wr w'
theorem DecidesR.below {w w' : World} {g : FuncId} {caps : Array Value} {p : List Int → Bool} (h : DecidesR w g caps p) (hb : Below w.heap.size w w') : DecidesR w' g caps p :=
  ⟨h.enters, fun v l wr hx hr => h.runs v l wr hx (hb.trans (hr.mono hb.size))⟩
end Go.Proofs.Ytacpnphfopmofaa
/- Walks: pairs of readers (impl.arePairs). -/

namespace Go.Proofs.Ytacpnphfopmofaa
open Go.RowKit
set_option linter.unusedSimpArgs false
set_option linter.unusedVariables false

end Go.Proofs.Ytacpnphfopmofaa
/- Entries of a board: the digest of an entry. -/

namespace Go.Proofs.Ytacpnphfopmofaa
open Go.RowKit
set_option linter.unusedSimpArgs false
set_option linter.unusedVariables false

end Go.Proofs.Ytacpnphfopmofaa
