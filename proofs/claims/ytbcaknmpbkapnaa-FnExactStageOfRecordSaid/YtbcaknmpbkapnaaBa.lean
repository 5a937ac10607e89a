/- Bundle of walks and laws: Base, Num, Slices, LawsI, HashP, Hash, Kinds, AppL, Rows1, Rows2, AppR, StdI, Hex, Codec, Concat. -/
import Derived.Test.YtbcaknmpbkapnaaRows
import Derived.WalkKit
import Derived.WalkSpells
import Derived.WalkLawsBesides
import Derived.Deep.QuietTactic
import Derived.BigQuiet
import Derived.BigGuardPart
import Derived.Deep.RegionHeld3
import Derived.Deep.LoopGhost
import Derived.Deep.OwnRows
import Derived.Lib.Hide
import Derived.Lib.SliceRun
import Derived.Laws.IdiomStrings
import Derived.Lib.AppendZeros
/- Common ground: the tools that the walks use. -/











namespace Go.Proofs.Ytbcaknmpbkapnaa
open Go.RowKit

theorem ret_congr {v v' : Value} (h : v = v') : Ending.returned v = .returned v' := by rw [h]
theorem ret_bool {a b : Bool} (h : a = b) : Ending.returned (.bool a) = .returned (.bool b) := by rw [h]
theorem ret_int {k : IntKind} {a b : Int} (h : a = b) : Ending.returned (.int k a) = .returned (.int k b) := by rw [h]

theorem ret_int_bool {a a' : Int} {b b' : Bool} (h : a = a') (h' : b = b') : Ending.returned (.tuple #[.int .i64 a, .bool b]) = .returned (.tuple #[.int .i64 a', .bool b']) := by rw [h, h']

/-- old cells and old marks read as before -/
theorem bcell {B : Nat} {W w1 : World} (hb : Below B W w1) : (∀ b o, b < B → w1.cell? ⟨b, o, none⟩ = W.cell? ⟨b, o, none⟩) ∧ (∀ b o, b < B → w1.frozen? ⟨b, o, none⟩ = W.frozen? ⟨b, o, none⟩) :=
  ⟨fun b o h => hb.cell (p := ⟨b, o, none⟩) h, fun b o h => hb.frozen (p := ⟨b, o, none⟩) h⟩

/-- a product within bounds -/
theorem mul_bd {a b A B : Int} (ha : 0 ≤ a) (hA : a ≤ A) (hb : 0 ≤ b) (hB : b ≤ B) : 0 ≤ a * b ∧ a * b ≤ A * B :=
  ⟨Int.mul_nonneg ha hb, Int.mul_le_mul hA hB hb (Int.le_trans ha hA)⟩

/-- what a drawn region of reads and calls keeps: all that was there -/
theorem keep_b {w wa w' : World} (hb : Below wa.heap.size wa w') (h : Below w.heap.size w wa) : Below w.heap.size w w' := h.trans (hb.mono h.size)

/-- what a drawn region keeps: the one block B (a box), and all below it -/
theorem keep_call {B : Nat} {w1 wa w' : World} (hB : B < w1.heap.size) (hS : Below (B + 1) w1 wa ∧ ∀ o, wa.cell? ⟨B, o, none⟩ = w1.cell? ⟨B, o, none⟩) (hb : Below wa.heap.size wa w') :
    Below (B + 1) w1 w' ∧ ∀ o, w'.cell? ⟨B, o, none⟩ = w1.cell? ⟨B, o, none⟩ := by
  have h1 := hS.1.size
  exact ⟨hS.1.trans (hb.mono (by omega)), fun o => (hb.cell (p := ⟨B, o, none⟩) (by simp; omega)).trans (hS.2 o)⟩

/-- u, if it has grown from w (all that was there is as it was), else w: a class of worlds as a function, so that the walk of a region in the order of the text (Derived/Deep/Quiet.lean) serves callees that make memory -/
noncomputable def grow (w u : World) : World := @ite _ (Below w.heap.size w u) (Classical.propDecidable _) u w
theorem grow_below (w u : World) : Below w.heap.size w (grow w u) := by
  unfold grow
  split
  · assumption
  · exact Below.refl _ _
theorem grow_eq {w u : World} (h : Below w.heap.size w u) : grow w u = u := by unfold grow; rw [if_pos h]
theorem grow_cell {w : World} {a : Addr} {v : Value} (h : w.cell? a = some v) (u : World) : (grow w u).cell? a = some v := ((grow_below w u).cell (World.block_lt_of_cell? w a h)).trans h
theorem wp_region_grow {P : Program} {id : Nat} {Q : Exit → Act → World → Prop} {a : Act} {w : World} {l : List Oper} (hm : P.follows .mixedOrders = true) (hB : Region.lexB .any l.toArray = true)
    (h : wpQuiet P l.toArray (fun w' => ∃ n, w' = grow w n) (fun a' => ∀ w', (∃ n, w' = grow w n) → Q .normal a' w') l a) : (Code.region id l.toArray true).wp P Q a w :=
  wp_region_quiet (C := fun w' => ∃ n, w' = grow w n) hm hB ⟨w.drew, (grow_eq (Below.refl _ _).drew).symm⟩ (by simpa using h)
/-- a callee's contract inside such a region -/
theorem calls_grow {P : Program} {f : FuncId} {args : Array Value} {w u : World} {v : Value} {post : Ending → World → Prop} (h : Calls P f args (grow w u) post)
    (hp : ∀ e w', post e w' → e = .returned v ∧ Below (grow w u).heap.size (grow w u) w') : Calls P f args (grow w u) fun e w' => e = .returned v ∧ ∃ m, w' = grow w m :=
  h.mono fun e w' hh => ⟨(hp e w' hh).1, w', (grow_eq ((grow_below w u).trans ((hp e w' hh).2.mono (grow_below w u).size))).symm⟩

end Go.Proofs.Ytbcaknmpbkapnaa
/- Walks of the small functions on numbers. -/

namespace Go.Proofs.Ytbcaknmpbkapnaa
open Go.RowKit
set_option linter.unusedSimpArgs false
set_option linter.unusedVariables false

theorem impl_within (n lo hi : Int) (w : World) :
    Calls Try.prog 63 #[.int .i64 n, .int .i64 lo, .int .i64 hi] w fun e w' => e = .returned (.bool (decide (lo ≤ n ∧ n ≤ hi))) ∧ w = w' := by
  go_enter Try.func63, Try.ntmps63
  by_cases h1 : lo ≤ n <;> by_cases h2 : n ≤ hi <;>
  (go_wp2; go_ret; exact ⟨by simp [h1, h2], rfl⟩)
theorem spec_l1In (n lo hi : Int) (w : World) :
    Calls Try.prog 75 #[.int .i64 n, .int .i64 lo, .int .i64 hi] w fun e w' => e = .returned (.bool (decide (lo ≤ n ∧ n ≤ hi))) ∧ w = w' := by
  go_enter Try.func75, Try.ntmps75
  by_cases h1 : lo ≤ n <;> by_cases h2 : n ≤ hi <;>
  (go_wp2; go_ret; exact ⟨by simp [h1, h2], rfl⟩)
end Go.Proofs.Ytbcaknmpbkapnaa
/- Slices of integers: what it means that a value reads as a list, that a call owns a list; both carried through worlds. No program is named here but for the type of integers. -/

namespace Go.Proofs.Ytbcaknmpbkapnaa
open Go.RowKit

/-- the element at a place -/
def nth (l : List Int) (i : Nat) : Int := l.getD i 0
theorem nth_eq {l : List Int} {i : Nat} (h : i < l.length) : nth l i = l[i] := by simp [nth, List.getD, h]
/-- an int -/
def I64 (x : Int) : Prop := -9223372036854775808 ≤ x ∧ x ≤ 9223372036854775807
/-- all elements are ints -/
def AllI64 (l : List Int) : Prop := ∀ x ∈ l, I64 x
theorem AllI64.at_ {l : List Int} (h : AllI64 l) (i : Nat) : I64 (nth l i) := by
  by_cases hi : i < l.length
  · rw [nth_eq hi]; exact h _ (List.getElem_mem _)
  · have : nth l i = 0 := by simp [nth, List.getD, Nat.le_of_not_lt hi]
    rw [this]; exact ⟨by decide, by decide⟩

/-- the value reads as the list -/
def Ints (w : World) (v : Value) (l : List Int) : Prop :=
  ∃ a n c, v = .slice a n c ∧ l.length = n ∧ n ≤ c ∧ c ≤ maxLen ∧ AllI64 l ∧
    ((a = none ∧ n = 0 ∧ c = 0) ∨ (∃ ad, a = some ad ∧ n = 0) ∨ ∃ b o, a = some ⟨b, o, none⟩ ∧ ∀ i, i < n → w.cell? ⟨b, o + i, none⟩ = some (.int .i64 (nth l i)))

theorem Ints.shape {w : World} {v : Value} {l : List Int} (h : Ints w v l) : ∃ a n c, v = .slice a n c := by
  obtain ⟨a, n, c, h, _⟩ := h; exact ⟨a, n, c, h⟩
theorem Ints.len {w : World} {a : Option Addr} {n c : Nat} {l : List Int} (h : Ints w (.slice a n c) l) : l.length = n := by
  obtain ⟨a', n', c', e, h, _⟩ := h; cases e; exact h
theorem Ints.cap {w : World} {a : Option Addr} {n c : Nat} {l : List Int} (h : Ints w (.slice a n c) l) : n ≤ c ∧ c ≤ 140737488355328 * 65536 := by
  obtain ⟨a', n', c', e, _, h1, h2, _⟩ := h; cases e; unfold maxLen at h2; omega
theorem Ints.capMax {w : World} {a : Option Addr} {n c : Nat} {l : List Int} (h : Ints w (.slice a n c) l) : n ≤ c ∧ c ≤ maxLen := by
  obtain ⟨a', n', c', e, _, h1, h2, _⟩ := h; cases e; exact ⟨h1, h2⟩
theorem Ints.all {w : World} {v : Value} {l : List Int} (h : Ints w v l) : AllI64 l := by
  obtain ⟨a', n', c', e, _, _, _, h, _⟩ := h; exact h
/-- where there is an element there is an address -/
theorem Ints.at_ {w : World} {a : Option Addr} {n c : Nat} {l : List Int} (h : Ints w (.slice a n c) l) (hn : 0 < n) :
    ∃ b o, a = some ⟨b, o, none⟩ ∧ ∀ i, i < n → w.cell? ⟨b, o + i, none⟩ = some (.int .i64 (nth l i)) := by
  obtain ⟨a', n', c', e, _, _, _, _, h⟩ := h; cases e
  rcases h with ⟨_, h, _⟩ | ⟨_, _, h⟩ | h
  · omega
  · omega
  · exact h
theorem Ints.nil (w : World) : Ints w (.slice none 0 0) [] := ⟨none, 0, 0, rfl, rfl, Nat.le_refl _, Nat.zero_le _, by simp [AllI64], .inl ⟨rfl, rfl, rfl⟩⟩
/-- carried into a world in which all old blocks are as they were -/
theorem Ints.below {w w' : World} {v : Value} {l : List Int} (h : Ints w v l) (hb : Below w.heap.size w w') : Ints w' v l := by
  obtain ⟨a, n, c, e, h1, h2, h3, h4, h5⟩ := h
  refine ⟨a, n, c, e, h1, h2, h3, h4, ?_⟩
  rcases h5 with h5 | h5 | ⟨b, o, rfl, hc⟩
  · exact .inl h5
  · exact .inr (.inl h5)
  · refine .inr (.inr ⟨b, o, rfl, fun i hi => ?_⟩)
    have h := hc i hi
    rw [hb.cell (World.block_lt_of_cell? w _ h)]; exact h
theorem Ints.drewN {w : World} {v : Value} {l : List Int} (h : Ints w v l) (n : Nat) : Ints (w.drewN n) v l := h.below (below_drewN (Below.refl _ _) n)
theorem Ints.drew {w : World} {v : Value} {l : List Int} (h : Ints w v l) : Ints w.drew v l := h.below (Below.refl _ _).drew
theorem Ints.alloc {w : World} {v : Value} {l : List Int} (h : Ints w v l) (o : Obj) : Ints (w.alloc o) v l := h.below ((Below.refl _ _).alloc (Nat.le_refl _) o)

/-- a beginning, an end of a slice -/
theorem nth_take {l : List Int} {i k : Nat} (h : i < k) : nth (l.take k) i = nth l i := by simp [nth, List.getD, h]
theorem nth_drop {l : List Int} {i k : Nat} : nth (l.drop k) i = nth l (k + i) := by simp [nth, List.getD]
theorem Ints.take {w : World} {a : Option Addr} {n c k : Nat} {l : List Int} (h : Ints w (.slice a n c) l) (hk : k ≤ n) : Ints w (.slice a k c) (l.take k) := by
  obtain ⟨a', n', c', e, h1, h2, h3, h4, h5⟩ := h; cases e
  refine ⟨a, k, c, rfl, by simp; omega, by omega, h3, fun x hx => h4 x (List.mem_of_mem_take hx), ?_⟩
  rcases h5 with ⟨h5, h6, h7⟩ | ⟨ad, h5, h6⟩ | ⟨b, o, h5, hc⟩
  · exact .inl ⟨h5, by omega, h7⟩
  · exact .inr (.inl ⟨ad, h5, by omega⟩)
  · exact .inr (.inr ⟨b, o, h5, fun i hi => by rw [nth_take hi]; exact hc i (by omega)⟩)
theorem Ints.drop {w : World} {a : Option Addr} {n c k : Nat} {l : List Int} (h : Ints w (.slice a n c) l) (hk : k ≤ n) : Ints w (.slice (if c = k then a else a.map (·.add k)) (n - k) (c - k)) (l.drop k) := by
  obtain ⟨a', n', c', e, h1, h2, h3, h4, h5⟩ := h; cases e
  refine ⟨_, n - k, c - k, rfl, by simp; omega, by omega, by omega, fun x hx => h4 x (List.mem_of_mem_drop hx), ?_⟩
  rcases h5 with ⟨h5, h6, h7⟩ | ⟨ad, h5, h6⟩ | ⟨b, o, h5, hc⟩
  · refine .inl ⟨?_, by omega, by omega⟩
    rw [h5]; split <;> rfl
  · refine .inr (.inl ?_)
    rw [h5]
    split
    · exact ⟨ad, rfl, by omega⟩
    · exact ⟨ad.add k, rfl, by omega⟩
  · rw [h5]
    by_cases hck : c = k
    · rw [if_pos hck]; exact .inr (.inl ⟨_, rfl, by omega⟩)
    · rw [if_neg hck]
      refine .inr (.inr ⟨b, o + k, by simp [Addr.add_lit], fun i hi => ?_⟩)
      rw [nth_drop, Nat.add_assoc]; exact hc (k + i) (by omega)

theorem Ints.drop' {w : World} {a : Option Addr} {n c k : Nat} {l : List Int} (h : Ints w (.slice a n c) l) (hk : k ≤ n) (hc : k < c) : Ints w (.slice (a.map (fun x => x.add k)) (n - k) (c - k)) (l.drop k) := by
  have := h.drop hk
  rwa [if_neg (by omega)] at this

theorem info_int : (Try.prog.info? 3).map (fun i => (i.zero, i.size, i.bytes)) = some (some (.int .i64 0), 1, 8) := by kernel_rfl

/-- the value is a row of the call's own, from block B on, that reads as the list -/
def OwnI (w : World) (B : Nat) (v : Value) (l : List Int) : Prop := AllI64 l ∧ w.ownsRow B 3 1 v l.length (l.map (Value.int .i64))

theorem AllI64.append {a b : List Int} (h : AllI64 a) (h' : AllI64 b) : AllI64 (a ++ b) := fun x hx => by
  rcases List.mem_append.1 hx with h1 | h1
  · exact h x h1
  · exact h' x h1
theorem AllI64.nil : AllI64 [] := fun x hx => by cases hx
theorem AllI64.one {x : Int} (h : I64 x) : AllI64 [x] := fun y hy => by simp at hy; subst hy; exact h
theorem AllI64.cons {x : Int} {l : List Int} (h : I64 x) (h' : AllI64 l) : AllI64 (x :: l) := fun y hy => by
  rcases List.mem_cons.1 hy with rfl | h1
  · exact h
  · exact h' y h1
theorem AllI64.take {l : List Int} (h : AllI64 l) (k : Nat) : AllI64 (l.take k) := fun x hx => h x (List.mem_of_mem_take hx)
theorem AllI64.drop {l : List Int} (h : AllI64 l) (k : Nat) : AllI64 (l.drop k) := fun x hx => h x (List.mem_of_mem_drop hx)

section
variable {w w' : World} {B : Nat} {v : Value} {l : List Int}
theorem OwnI.all (h : OwnI w B v l) : AllI64 l := h.1
theorem OwnI.nil (w : World) (B : Nat) : OwnI w B (.slice none 0 0) [] := ⟨AllI64.nil, World.ownsRow_nil w B _ 1⟩
theorem OwnI.shape (h : OwnI w B v l) : ∃ a c, v = .slice a l.length c := by
  rcases h.2.2 with ⟨h, h2⟩ | ⟨g, c, cur, h, _⟩
  · exact ⟨none, 0, by rw [h, h2]⟩
  · exact ⟨_, _, h⟩
theorem OwnI.ints (h : OwnI w B v l) : Ints w v l := by
  obtain ⟨ha, hl, ⟨rfl, h0⟩ | ⟨g, c, cur, rfl, hb, hg, hnc, hcm, hcs, htake⟩⟩ := h
  · have : l = [] := List.eq_nil_of_length_eq_zero h0
    subst this; exact Ints.nil w
  · refine ⟨some ⟨g, 0, none⟩, l.length, c, rfl, rfl, hnc, hcm, ha, .inr (.inr ⟨g, 0, rfl, fun i hi => ?_⟩)⟩
    have h1 := World.ownsRow.cellAt (w := w) (base := B) (e := 3) (size := 1) (g := g) (n := l.length) (cap := c) (xs := l.map (Value.int .i64)) ⟨hl, .inr ⟨g, c, cur, rfl, hb, hg, hnc, hcm, hcs, htake⟩⟩ i (by omega)
    rw [Nat.zero_add, h1]
    simp [nth_eq hi, hi]
theorem OwnI.lt (h : OwnI w B v l) : ∀ k, v.ownBlock = some k → B ≤ k ∧ k < w.heap.size := h.2.lt
theorem OwnI.kept {row : Option Nat} (h : OwnI w B v l) (hg : w.grownBy w' row) (hne : v.ownBlock = none ∨ v.ownBlock ≠ row) : OwnI w' B v l := ⟨h.1, h.2.kept hg hne⟩
theorem OwnI.below (h : OwnI w B v l) (hb : Below w.heap.size w w') : OwnI w' B v l :=
  h.kept (row := none) ⟨hb.os, hb.tape, hb.output, hb.size, fun k hk _ => hb.block k hk⟩ (by cases v.ownBlock <;> simp)
theorem OwnI.drewN (h : OwnI w B v l) (n : Nat) : OwnI (w.drewN n) B v l := h.below (below_drewN (Below.refl _ _) n)
theorem OwnI.mono {B' : Nat} (h : OwnI w B v l) (hB : B' ≤ B) : OwnI w B' v l := by
  refine ⟨h.1, h.2.1, ?_⟩
  rcases h.2.2 with h1 | ⟨g, c, cur, e, hb, r⟩
  · exact .inl h1
  · exact .inr ⟨g, c, cur, e, by omega, r⟩
theorem OwnI.lit (w : World) (hB : B ≤ w.heap.size) {cs : Array Value} (h : AllI64 l) (hc : cs = (l.map (Value.int .i64)).toArray) (hn : l.length ≤ maxLen) (n : Nat) (hnn : n = l.length) :
    OwnI (w.alloc (.cells cs 3)) B (.slice (some ⟨w.heap.size, 0, none⟩) n n) l := by
  subst hc; subst hnn
  have := World.ownsRow_lit (e := 3) (size := 1) w (l.map (Value.int .i64)).toArray l.length hB hn (by simp)
  exact ⟨h, by simpa using this⟩
theorem OwnI.grown (h : OwnI w B v l) (hg : w.grownBy w' v.ownBlock) (hB : B ≤ w.heap.size) : Below B w w' :=
  (Below.refl B w).grown hg hB (fun k hk => (h.lt k hk).1)
theorem grownBy_of_below {row : Option Nat} (hb : Below w.heap.size w w') : w.grownBy w' row := ⟨hb.os, hb.tape, hb.output, hb.size, fun k hk _ => hb.block k hk⟩
theorem grownBy_trans {w2 : World} {row : Option Nat} (h : w.grownBy w' row) (h2 : w'.grownBy w2 row) : w.grownBy w2 row :=
  ⟨h2.os.trans h.os, h2.tape.trans h.tape, h2.output.trans h.output, Nat.le_trans h.size h2.size, fun k hk hr => (h2.block k (Nat.lt_of_lt_of_le hk h.size) hr).trans (h.block k hk hr)⟩
theorem Below.toGrown {row : Option Nat} (hb : Below w.heap.size w w') : w.grownBy w' row := grownBy_of_below hb
theorem Ints.kept {row : Option Nat} (h : Ints w v l) (hg : w.grownBy w' row) (hne : ∀ k, v.ownBlock = some k → some k ≠ row) : Ints w' v l := by
  obtain ⟨a, n, c, e, h1, h2, h3, h4, h5⟩ := h
  refine ⟨a, n, c, e, h1, h2, h3, h4, ?_⟩
  rcases h5 with h5 | h5 | ⟨b, o, rfl, hc⟩
  · exact .inl h5
  · exact .inr (.inl h5)
  · refine .inr (.inr ⟨b, o, rfl, fun i hi => hg.cell (hc i hi) ?_⟩)
    exact hne b (by rw [e]; rfl)
end

theorem below_of_grown {B g n c : Nat} {w u w1 : World} (h : Below B w u) (hgr : u.grownBy w1 (Value.ownBlock (.slice (some ⟨g, 0, none⟩) n c))) (hg : B ≤ g) (hB : B ≤ u.heap.size) : Below B w w1 :=
  h.grown hgr hB (fun k hk => by cases hk; exact hg)

/-- what append does to a row of the call's own -/
theorem run_append_ints {t : TypeId} {w : World} {B : Nat} {v y : Value} {l m : List Int} (ht : t = 22) (hown : OwnI w B v l) (hy : Ints w y m) (hlen : l.length + m.length ≤ 1000000000000) (hB : B ≤ w.heap.size) (ty : TypeId) :
    ∃ v' w', (Builtin.append_ #[t, t] ty #[v, y]).run Try.prog w = .ok v' w' ∧ OwnI w' B v' (l ++ m) ∧ w.grownBy w' v.ownBlock := by
  subst ht
  obtain ⟨i, hi, hz, hsz, hby⟩ := info_parts info_int
  obtain ⟨a', n', c', rfl, hn, hnc, hcm, hall, hc⟩ := hy
  have main : ∀ ad : Addr, a' = some ad → (∀ j u, (m.map (Value.int .i64))[j]? = some u → w.cell? (ad.add j) = some u) →
      ∃ v' w', (Builtin.append_ #[22, 22] ty #[v, .slice a' n' c']).run Try.prog w = .ok v' w' ∧ OwnI w' B v' (l ++ m) ∧ w.grownBy w' v.ownBlock := by
    rintro ad rfl hnews
    obtain ⟨v', w', hr, h1, h2, _⟩ := run_append_own (P := Try.prog) w B 22 ty 3 i (.int .i64 0) 1 8 Try.underlying22 hi hz hsz hby rfl (by decide) v l.length _ hown.2 ad n' c' (m.map (Value.int .i64)) (by simp [hn]) hnews (ints_oneCell .i64 m) (by unfold maxLen; omega) (by omega) hB
    exact ⟨v', w', hr, ⟨hown.1.append hall, by simpa [List.length_append, hn] using h1⟩, h2⟩
  rcases hc with ⟨rfl, rfl, rfl⟩ | ⟨ad, rfl, rfl⟩ | ⟨b, off, rfl, hc⟩
  · have hm : m = [] := List.eq_nil_of_length_eq_zero hn
    subst hm
    exact ⟨v, w, run_append_owned_none (P := Try.prog) w B 22 ty 3 i 1 Try.underlying22 hi v l.length _ hown.2, by simpa using hown, World.grownBy.refl _ _⟩
  · have hm : m = [] := List.eq_nil_of_length_eq_zero hn
    subst hm
    exact main ad rfl (fun j u hu => by simp at hu)
  · refine main _ rfl ?_
    intro j u hu
    have hj : j < m.length := by simpa using (List.getElem?_eq_some_iff.1 hu).1
    rw [Addr.add_lit, hc j (by omega)]
    rw [List.getElem?_map, List.getElem?_eq_getElem hj] at hu
    rw [nth_eq hj]; simpa using hu

/-- append of a slice of integers to a row of the call's own -/
theorem wpList_append_ints {ops : Array Oper} {rest : List Oper} {o : Oper} {a : Act} {w : World} {Q : Exit → Act → World → Prop} (hg : o.guard = none) (s x : Operand)
    (ho : o.op = .call { callee := .builtin .append, args := #[s, x], argTypes := #[22, 22] })
    (B : Nat) (v y : Value) (l m : List Int) (hs : a.eval s = v) (hown : OwnI w B v l) (hx : a.eval x = y) (hy : Ints w y m) (hlen : l.length + m.length ≤ 1000000000000) (hB : B ≤ w.heap.size)
    (hK : ∀ v' w', OwnI w' B v' (l ++ m) → w.grownBy w' v.ownBlock → wpList Try.prog ops Q rest (a.put o.dst v') w') : wpList Try.prog ops Q (o :: rest) a w := by
  obtain ⟨v', w', hr, h1, h2⟩ := run_append_ints (t := 22) rfl hown hy hlen hB o.type
  refine wpList_plain hg fun K hK' => ?_
  unfold Oper.wp execOp
  simp only [ho, resolve, invoke, builtin, Sem.run_bind, Sem.run_pure, Result.andThen_ok, List.map_toArray, List.map_cons, List.map_nil, hs, hx, hr]
  exact hK' _ _ (hK v' w' h1 h2)
/-- the same, the new value written out: its length is N -/
theorem wpList_append_intsN {ops : Array Oper} {rest : List Oper} {o : Oper} {a : Act} {w : World} {Q : Exit → Act → World → Prop} (hg : o.guard = none) (s x : Operand)
    (ho : o.op = .call { callee := .builtin .append, args := #[s, x], argTypes := #[22, 22] })
    (B : Nat) (v y : Value) (l m : List Int) (hs : a.eval s = v) (hown : OwnI w B v l) (hx : a.eval x = y) (hy : Ints w y m) (hlen : l.length + m.length ≤ 1000000000000) (hB : B ≤ w.heap.size)
    (N : Nat) (hN : l.length + m.length = N)
    (hK : ∀ a' c' w', OwnI w' B (.slice a' N c') (l ++ m) → w.grownBy w' v.ownBlock → wpList Try.prog ops Q rest (a.put o.dst (.slice a' N c')) w') : wpList Try.prog ops Q (o :: rest) a w := by
  refine wpList_append_ints hg s x ho B v y l m hs hown hx hy hlen hB ?_
  intro v' w' ho' hg'
  obtain ⟨a', c', e⟩ := ho'.shape
  have e2 : (l ++ m).length = N := by rw [List.length_append]; exact hN
  rw [e2] at e
  subst e
  exact hK a' c' w' ho' hg'
end Go.Proofs.Ytbcaknmpbkapnaa
/- Walks of the laws' own helpers on slices of integers. -/

namespace Go.Proofs.Ytbcaknmpbkapnaa
open Go.RowKit
set_option linter.unusedSimpArgs false
set_option linter.unusedVariables false

theorem nth_set {l : List Int} {k : Nat} {x : Int} {i : Nat} (h : k < l.length) : nth (l.set k x) i = if i = k then x else nth l i := by
  simp only [nth, List.getD, List.getElem?_set]
  by_cases hi : i = k
  · subst hi; simp [h]
  · have : ¬ k = i := fun e => hi e.symm
    simp [hi, this]
theorem AllI64.set {l : List Int} (h : AllI64 l) (k : Nat) {x : Int} (hx : I64 x) : AllI64 (l.set k x) := fun y hy => by
  rcases List.mem_or_eq_of_mem_set hy with h1 | rfl
  · exact h y h1
  · exact hx
/-- a store into a row of the call's own -/
theorem OwnI.stored {w : World} {B g n c : Nat} {l : List Int} (h : OwnI w B (.slice (some ⟨g, 0, none⟩) n c) l) (hn : l.length = n) (k : Nat) {x : Int} (hx : I64 x) :
    OwnI (w.setCell ⟨g, k, none⟩ (.int .i64 x)) B (.slice (some ⟨g, 0, none⟩) n c) (l.set k x) ∧ w.grownBy (w.setCell ⟨g, k, none⟩ (.int .i64 x)) (some g) := by
  subst hn
  have := h.2.stored k (.int .i64 x)
  refine ⟨⟨h.1.set k hx, ?_⟩, this.2⟩
  simpa [List.map_set] using this.1
theorem OwnI.at_ {w : World} {B n c : Nat} {a : Option Addr} {l : List Int} (h : OwnI w B (.slice a n c) l) (hn : 0 < l.length) :
    ∃ g, a = some ⟨g, 0, none⟩ ∧ B ≤ g ∧ l.length = n ∧ ∀ i, i < n → w.cell? ⟨g, i, none⟩ = some (.int .i64 (nth l i)) ∧ w.frozen? ⟨g, i, none⟩ = false := by
  have hn' := h.ints.len
  subst hn'
  obtain ⟨ha, hl, ⟨h1, h0⟩ | ⟨g, c', cur, h1, hb, hg, hnc, hcm, hcs, htake⟩⟩ := h
  · omega
  · cases h1
    refine ⟨g, rfl, hb, rfl, fun i hi => ?_⟩
    have hr : w.ownsRow B 3 1 (.slice (some ⟨g, 0, none⟩) l.length c) l.length (l.map (Value.int .i64)) := ⟨hl, .inr ⟨g, c, cur, rfl, hb, hg, hnc, hcm, hcs, htake⟩⟩
    have h1 := World.ownsRow.cellAt hr i (by omega)
    have h2 := World.ownsRow.frozenAt hr i
    refine ⟨?_, h2⟩
    rw [h1]
    simp [nth_eq hi, hi]
/-- the numbers from k0 on, n of them -/
def marks (k0 n : Nat) : List Int := (List.range n).map fun i => ((k0 + i : Nat) : Int)
theorem marks_length (k0 n : Nat) : (marks k0 n).length = n := by simp [marks]
theorem nth_marks {k0 n i : Nat} (h : i < n) : nth (marks k0 n) i = ((k0 + i : Nat) : Int) := by simp [nth, marks, List.getD, h]
/-- what a list has become when its first k elements have been marked -/
def markTo (k0 : Nat) (l : List Int) (k : Nat) : List Int := marks k0 k ++ l.drop k
theorem markTo_zero (k0 : Nat) (l : List Int) : markTo k0 l 0 = l := by simp [markTo, marks]
theorem markTo_all (k0 : Nat) (l : List Int) : markTo k0 l l.length = marks k0 l.length := by simp [markTo]
theorem markTo_length {k0 : Nat} {l : List Int} {k : Nat} (h : k ≤ l.length) : (markTo k0 l k).length = l.length := by simp [markTo, marks_length]; omega
theorem marks_succ (k0 k : Nat) : marks k0 (k + 1) = marks k0 k ++ [((k0 + k : Nat) : Int)] := by simp [marks, List.range_succ]
theorem markTo_succ {k0 : Nat} {l : List Int} {k : Nat} (h : k < l.length) : markTo k0 l (k + 1) = (markTo k0 l k).set k ((k0 + k : Nat) : Int) := by
  unfold markTo
  rw [marks_succ, List.set_append, if_neg (by rw [marks_length]; omega), marks_length, Nat.sub_self, List.append_assoc]
  congr 1
  rw [← List.getElem_cons_drop h]
  rfl

theorem take_succ_nth {l : List Int} {k : Nat} (h : k < l.length) : l.take (k + 1) = l.take k ++ [nth l k] := by
  rw [nth_eq h, List.take_succ_eq_append_getElem h]
theorem eq_of_nth {l1 l2 : List Int} (h : l1.length = l2.length) (h2 : ∀ i, i < l1.length → nth l1 i = nth l2 i) : l1 = l2 := by
  apply List.ext_getElem h
  intro i h1 h3
  have := h2 i h1
  rwa [nth_eq h1, nth_eq h3] at this
set_option maxHeartbeats 400000 in
theorem laws_eqIntS (v1 v2 : Value) (l1 l2 : List Int) (w : World) (h1 : Ints w v1 l1) (h2 : Ints w v2 l2) :
    Calls Try.prog 9 #[v1, v2] w fun e w' => e = .returned (.bool (decide (l1 = l2))) ∧ ∃ m, w' = w.drewN m := by
  obtain ⟨a1, n1, c1, rfl⟩ := h1.shape
  obtain ⟨a2, n2, c2, rfl⟩ := h2.shape
  have k1 := h1.capMax
  have k2 := h2.capMax
  unfold maxLen at k1 k2
  obtain ⟨k1, k1'⟩ := k1
  obtain ⟨k2, k2'⟩ := k2
  by_cases hn : n1 = n2
  · subst hn
    go_enter Try.func9, Try.ntmps9
    go_wp2
    go_loopg [5] n1 (fun g i wr => ∃ k m : Nat, k + g = n1 ∧ i = .int .i64 k ∧ Hid (∀ i, i < k → nth l1 i = nth l2 i) ∧ wr = w.drewN m)
    case atStart => exact ⟨0, 0, by omega, rfl, fun i h => by omega, rfl⟩
    case round =>
      obtain ⟨k, m, hk, rfl, H, rfl⟩ := hrel
      by_cases hlt : k < n1
      · obtain ⟨b1, o1, rfl, hc1⟩ := h1.at_ (by omega)
        obtain ⟨b2, o2, rfl, hc2⟩ := h2.at_ (by omega)
        have hx1 := hc1 k hlt
        have hx2 := hc2 k hlt
        clear hc1 hc2
        by_cases hx : nth l1 k = nth l2 k
        · have H' : Hid (∀ i, i < k + 1 → nth l1 i = nth l2 i) := fun i hi => by
            rcases Nat.lt_succ_iff_lt_or_eq.1 hi with h | rfl
            · exact H.out i h
            · exact hx
          have hxb : (nth l1 k != nth l2 k) = false := by simpa using hx
          clear hx H
          go_wp2
          go_quiet (fail)
          go_wp2
          go_roundg (n1 - (k + 1))
          case measure => omega
          case rel => exact ⟨k + 1, m + nq, by omega, by go_num, H', (by first | rfl | exact World.drewN_drewN _ _ _)⟩
        · have hxb : (nth l1 k != nth l2 k) = true := by simpa using hx
          have HR : Hid (decide (l1 = l2) = false) := by
            refine decide_eq_false fun e => hx (by rw [e])
          clear hx H
          go_wp2
          go_quiet (fail)
          go_wp2
          go_ret
          exact ⟨ret_bool (by first | (rw [HR.out]; done) | (rw [HR.out]; rfl) | exact HR.out.symm), m + nq, (by first | rfl | exact World.drewN_drewN _ _ _)⟩
      · have e1 := h1.len
        have e2 := h2.len
        have HR : Hid (decide (l1 = l2) = true) := decide_eq_true (eq_of_nth (e1.trans e2.symm) fun i hi => H.out i (by omega))
        clear e1 e2 H
        go_wp2
        go_ret
        exact ⟨ret_bool (by first | (rw [HR.out]; done) | (rw [HR.out]; rfl) | exact HR.out.symm), m, rfl⟩
  · have HR : Hid (decide (l1 = l2) = false) := by
      refine decide_eq_false fun e => hn ?_
      rw [← h1.len, ← h2.len, e]
    have hb : ((n1 : Int) != (n2 : Int)) = true := by rw [bne_iff_ne]; omega
    clear hn
    go_enter Try.func9, Try.ntmps9
    go_wp2
    go_ret
    exact ⟨ret_bool (by first | (rw [HR.out]; done) | (rw [HR.out]; rfl) | exact HR.out.symm), 0, rfl⟩
set_option maxHeartbeats 400000 in
theorem laws_heldIntS_yes (v : Value) (k0 : Nat) (l : List Int) (w : World) (h : Ints w v l) (hk : k0 + l.length ≤ 9223372036854775806) (hl : ∀ i, i < l.length → nth l i = (k0 + i : Nat)) :
    Calls Try.prog 54 #[v, .int .i64 k0] w fun e w' => e = .returned (.int .i64 (k0 + l.length : Nat)) ∧ ∃ m, w' = w.drewN m := by
  obtain ⟨a, n, c, rfl⟩ := h.shape
  have e := h.len
  obtain ⟨k1, k2⟩ := h.capMax
  unfold maxLen at k2
  rw [e] at hl hk ⊢
  clear e
  have HL := Lib.hid hl; clear hl
  go_enter Try.func54, Try.ntmps54
  go_wp2
  go_loopg [1, 5] n (fun g q i wr => ∃ k m : Nat, k + g = n ∧ i = .int .i64 k ∧ q = .int .i64 (k0 + k : Nat) ∧ wr = w.drewN m)
  case atStart => exact ⟨0, 0, by omega, rfl, rfl, rfl⟩
  case round =>
    obtain ⟨k, m, hk, rfl, rfl, rfl⟩ := hrel
    by_cases hlt : k < n
    · obtain ⟨b, o, rfl, hc⟩ := h.at_ (by omega)
      have hx := hc k hlt
      rw [HL.out k hlt] at hx
      clear hc
      go_wp2
      go_roundg (n - (k + 1))
      case measure => omega
      case rel => exact ⟨k + 1, m, by omega, by go_num, by go_num, (by first | rfl | exact World.drewN_drewN _ _ _)⟩
    · obtain rfl : n = k := by omega
      go_wp2
      go_ret
      exact ⟨rfl, m, rfl⟩
set_option maxHeartbeats 400000 in
theorem laws_markIntS (B : Nat) (v : Value) (k0 : Nat) (l : List Int) (w : World) (h : OwnI w B v l) (hB : B ≤ w.heap.size) (hk : k0 + l.length ≤ 9223372036854775806) :
    Calls Try.prog 10 #[v, .int .i64 k0] w fun e w' => e = .returned (.int .i64 (k0 + l.length : Nat)) ∧ OwnI w' B v (marks k0 l.length) ∧ w.grownBy w' v.ownBlock := by
  obtain ⟨a, n, c, rfl⟩ := h.ints.shape
  have e := h.ints.len
  obtain ⟨k1, k2⟩ := h.ints.capMax
  unfold maxLen at k2
  have hal : Hid (markTo k0 l n = marks k0 l.length) := by rw [← e]; exact markTo_all k0 l
  have hle : l.length ≤ n := by omega
  have hle2 : n ≤ l.length := by omega
  have HE : Hid (l.length = n) := e
  have hk' : k0 + n ≤ 9223372036854775806 := by omega
  clear e hk
  go_enter Try.func10, Try.ntmps10
  go_wp2
  go_loopg [1, 5] n (fun g q i wr => ∃ k : Nat, k + g = n ∧ i = .int .i64 k ∧ q = .int .i64 (k0 + k : Nat) ∧ OwnI wr B (.slice a n c) (markTo k0 l k) ∧ w.grownBy wr (Value.slice a n c).ownBlock)
  case atStart => exact ⟨0, by omega, rfl, rfl, by rw [markTo_zero]; exact h, World.grownBy.refl _ _⟩
  case round =>
    obtain ⟨k, hkg, rfl, rfl, hO, hG⟩ := hrel
    by_cases hlt : k < n
    · have hml : (markTo k0 l k).length = n := by rw [markTo_length (by omega)]; exact HE.out
      obtain ⟨g', rfl, hgB, _, hc⟩ := hO.at_ (by omega)
      obtain ⟨hx, hf⟩ := hc k hlt
      have hst := hO.stored hml k (x := ((k0 + k : Nat) : Int)) ⟨by omega, by omega⟩
      rw [← markTo_succ (by omega)] at hst
      have HS := Lib.hid hst
      clear hc hst hml
      go_wp2
      go_roundg (n - (k + 1))
      case measure => omega
      case rel =>
        refine ⟨k + 1, by omega, by go_num, by go_num, ?_, ?_⟩
        · simpa using HS.out.1
        · exact grownBy_trans hG (by simpa [Value.ownBlock] using HS.out.2)
    · obtain rfl : n = k := by omega
      rw [hal.out] at hO
      go_wp2
      go_ret
      exact ⟨ret_int (by rw [HE.out]), hO, hG⟩
/-- the first k elements, then noughts -/
def fillTo (l : List Int) (k : Nat) : List Int := l.take k ++ List.replicate (l.length - k) 0
theorem fillTo_zero (l : List Int) : fillTo l 0 = List.replicate l.length 0 := by simp [fillTo]
theorem fillTo_all (l : List Int) : fillTo l l.length = l := by simp [fillTo]
theorem fillTo_length {l : List Int} {k : Nat} (h : k ≤ l.length) : (fillTo l k).length = l.length := by simp [fillTo]; omega
theorem fillTo_succ {l : List Int} {k : Nat} (h : k < l.length) : fillTo l (k + 1) = (fillTo l k).set k (nth l k) := by
  unfold fillTo
  rw [take_succ_nth h, List.set_append, if_neg (by simp; omega)]
  have e : l.length - k = (l.length - (k + 1)) + 1 := by omega
  rw [List.length_take, Nat.min_eq_left (by omega), Nat.sub_self, e, List.replicate_succ, List.set_cons_zero, List.append_assoc]
  rfl
set_option maxHeartbeats 400000 in
theorem laws_toIntS (v : Value) (l : List Int) (w : World) (h : Ints w v l) (hl : l.length ≤ 1000000000) :
    Calls Try.prog 6 #[v] w fun e w' => ∃ v', e = .returned v' ∧ OwnI w' w.heap.size v' l ∧ Below w.heap.size w w' := by
  obtain ⟨a, n, c, rfl⟩ := h.shape
  have e := h.len
  have HE : Hid (l.length = n) := e
  have hn : n ≤ 1000000000 := by omega
  clear hl
  obtain ⟨k1, k2⟩ := h.capMax
  unfold maxLen at k2
  have hmk := fun u => run_make_row' (P := Try.prog) 22 3 (.int .i64 0) 8 Try.underlying22 info_int rfl .i64 .i64 n (by omega) (by omega) u
  have h0 : OwnI (w.alloc (.cells (madeCells #[.int .i64 0] n) 3)) w.heap.size (.slice (some ⟨w.heap.size, 0, none⟩) n n) (fillTo l 0) := by
    refine OwnI.lit w (Nat.le_refl _) ?_ ?_ ?_ n ?_
    · rw [fillTo_zero]; intro x hx; rw [List.eq_of_mem_replicate hx]; exact ⟨by decide, by decide⟩
    · rw [fillTo_zero, e, ← Array.toList_inj, toList_madeCells_one]; simp
    · rw [fillTo_zero]; simp; unfold maxLen; omega
    · rw [fillTo_zero]; simp [e]
  have hall : Hid (fillTo l n = l) := by rw [← e]; exact fillTo_all l
  have hlo : n ≤ l.length := by omega
  have hlo2 : l.length ≤ n := by omega
  clear e
  have H0 := Lib.hid h0; clear h0
  have H := Lib.hid h; clear h
  go_enter Try.func6, Try.ntmps6
  go_wp2
  go_loopg [4] n (fun g i wr => ∃ k : Nat, k + g = n ∧ i = .int .i64 k ∧ OwnI wr w.heap.size (.slice (some ⟨w.heap.size, 0, none⟩) n n) (fillTo l k) ∧ Below w.heap.size w wr)
  case atStart => exact ⟨0, by omega, rfl, H0.out, by (repeat (first | exact Below.refl _ _ | assumption | refine Below.drew ?_ | refine Below.alloc ?_ (by first | (simp; done) | (simp; omega)) _ | refine Below.setCell ?_ (by first | (simp; done) | (simp; omega)) _))⟩
  case round =>
    obtain ⟨k, hkg, rfl, hO, hG⟩ := hrel
    clear hmk
    by_cases hlt : k < n
    · have hml : (fillTo l k).length = n := by rw [fillTo_length (by omega)]; exact HE.out
      obtain ⟨b, o, rfl, hcx⟩ := (H.out.below hG).at_ (by omega)
      have hy := hcx k hlt
      obtain ⟨g', hg', hgB, _, hc⟩ := hO.at_ (by omega)
      obtain ⟨hx, hf⟩ := hc k hlt
      cases hg'
      have hst := hO.stored hml k (H.out.all.at_ k)
      rw [← fillTo_succ (by omega)] at hst
      have HS := Lib.hid hst
      clear hc hst hml hcx
      go_wp2
      go_roundg (n - (k + 1))
      case measure => omega
      case rel =>
        exact ⟨k + 1, by omega, by go_num, HS.out.1, hG.setCell (Nat.le_refl _) _⟩
    · obtain rfl : n = k := by omega
      rw [hall.out] at hO
      go_wp2
      go_ret
      exact ⟨_, rfl, hO, hG⟩
/-- nothing has turned but blocks from lo to hi (and new ones) -/
structure Within (lo hi : Nat) (w w' : World) : Prop where
  os : w'.os = w.os
  tape : w'.tape = w.tape
  output : w'.output = w.output
  size : w.heap.size ≤ w'.heap.size
  block : ∀ k, k < w.heap.size → (k < lo ∨ hi ≤ k) → w'.heap[k]? = w.heap[k]?
theorem Within.below {lo hi B : Nat} {w w' : World} (h : Within lo hi w w') (hB : B ≤ w.heap.size) (hlo : B ≤ lo) : Below B w w' :=
  ⟨h.os, h.tape, h.output, h.size, fun k hk => h.block k (by omega) (.inl (by omega))⟩
theorem Within.trans {lo hi : Nat} {w w1 w2 : World} (h : Within lo hi w w1) (h2 : Within lo hi w1 w2) : Within lo hi w w2 :=
  ⟨h2.os.trans h.os, h2.tape.trans h.tape, h2.output.trans h.output, Nat.le_trans h.size h2.size, fun k hk hr => (h2.block k (Nat.lt_of_lt_of_le hk h.size) hr).trans (h.block k hk hr)⟩
theorem Within.of_below {lo hi : Nat} {w w' : World} (h : Below w.heap.size w w') : Within lo hi w w' :=
  ⟨h.os, h.tape, h.output, h.size, fun k hk _ => h.block k hk⟩
theorem Within.mono {lo hi lo' hi' : Nat} {w w' : World} (h : Within lo hi w w') (h1 : lo' ≤ lo) (h2 : hi ≤ hi') : Within lo' hi' w w' :=
  ⟨h.os, h.tape, h.output, h.size, fun k hk hr => h.block k hk (by omega)⟩
theorem Below.next {a b c : World} (h : Below a.heap.size a b) (h2 : Below b.heap.size b c) : Below a.heap.size a c := h.trans (h2.mono h.size)
theorem Below.drewOf {a b : World} {m : Nat} (h : b = a.drewN m) : Below a.heap.size a b := h ▸ below_drewN (Below.refl _ _) m
/-- a row of the call's own, in a block from lo to hi -/
def InI (w : World) (lo hi : Nat) (v : Value) (l : List Int) : Prop := OwnI w lo v l ∧ ∀ k, v.ownBlock = some k → k < hi
theorem InI.of_own {w : World} {lo : Nat} {v : Value} {l : List Int} (h : OwnI w lo v l) : InI w lo w.heap.size v l := ⟨h, fun k hk => (h.lt k hk).2⟩
theorem InI.reads {w : World} {lo hi : Nat} {v : Value} {l : List Int} (h : InI w lo hi v l) : Ints w v l := h.1.ints
theorem InI.next {w w' : World} {lo hi : Nat} {v : Value} {l : List Int} (h : InI w lo hi v l) (hb : Below w.heap.size w w') : InI w' lo hi v l := ⟨h.1.below hb, h.2⟩
theorem InI.kept {w w' : World} {lo hi lo' hi' : Nat} {v : Value} {l : List Int} (h : InI w lo hi v l) (hw : Within lo' hi' w w') (hd : hi ≤ lo' ∨ hi' ≤ lo) : InI w' lo hi v l := by
  refine ⟨⟨h.1.1, ?_⟩, h.2⟩
  obtain ⟨h1, h2⟩ := h.1.2
  refine ⟨h1, ?_⟩
  rcases h2 with h2 | ⟨g, cap, cur, rfl, hb, hg, r⟩
  · exact .inl h2
  · refine .inr ⟨g, cap, cur, rfl, hb, ?_, r⟩
    have hk := h.2 g rfl
    rw [hw.block g (Array.getElem?_eq_some_iff.1 hg).1 (by omega)]
    exact hg
theorem laws_markIntS_in (lo hi : Nat) (v : Value) (k0 : Nat) (l : List Int) (w : World) (h : InI w lo hi v l) (hB : lo ≤ w.heap.size) (hk : k0 + l.length ≤ 9223372036854775806) :
    Calls Try.prog 10 #[v, .int .i64 k0] w fun e w' => e = .returned (.int .i64 (k0 + l.length : Nat)) ∧ InI w' lo hi v (marks k0 l.length) ∧ Within lo hi w w' := by
  refine (laws_markIntS lo v k0 l w h.1 hB hk).mono fun e w' ⟨h1, h2, h3⟩ => ⟨h1, ⟨h2, h.2⟩, ?_⟩
  refine ⟨h3.os, h3.tape, h3.output, h3.size, fun k hk hr => h3.block k hk fun e => ?_⟩
  have h4 := h.1.lt k e.symm
  have h5 := h.2 k e.symm
  omega
end Go.Proofs.Ytbcaknmpbkapnaa
/- The hash as a function on lists: plain Lean. -/
namespace Go.Proofs.Ytbcaknmpbkapnaa

def hS (s b : Int) : Int := (48271 * s + b + 1) % 2147483647
def hT (t b : Int) : Int := (69621 * t + b + 1) % 2147483647
def absS (s x : Int) : Int := hS (hS s (x % 2147483648)) (x / 2147483648)
def absT (t x : Int) : Int := hT (hT t (x % 2147483648)) (x / 2147483648)
def foldS (l : List Int) : Int := l.foldl absS 1
def foldT (l : List Int) : Int := l.foldl absT 2
/-- the digest of a list -/
def hashOf (l : List Int) : Int := foldS ((l.length : Int) :: l) * 2147483648 + foldT ((l.length : Int) :: l)

theorem hS_bd (s b : Int) : 0 ≤ hS s b ∧ hS s b < 2147483647 := by unfold hS; omega
theorem hT_bd (s b : Int) : 0 ≤ hT s b ∧ hT s b < 2147483647 := by unfold hT; omega
theorem foldl_bd {f : Int → Int → Int} (hf : ∀ s x, 0 ≤ f s x ∧ f s x < 2147483647) (l : List Int) : ∀ s : Int, 0 ≤ s → s < 2147483647 → 0 ≤ l.foldl f s ∧ l.foldl f s < 2147483647 := by
  induction l with
  | nil => intro s h1 h2; exact ⟨h1, h2⟩
  | cons x l ih => intro s _ _; exact ih _ (hf s x).1 (hf s x).2
theorem foldS_bd (l : List Int) : 0 ≤ foldS l ∧ foldS l < 2147483647 := foldl_bd (fun s x => hS_bd _ _) l 1 (by decide) (by decide)
theorem foldT_bd (l : List Int) : 0 ≤ foldT l ∧ foldT l < 2147483647 := foldl_bd (fun s x => hT_bd _ _) l 2 (by decide) (by decide)
theorem foldS_snoc (l : List Int) (x : Int) : foldS (l ++ [x]) = absS (foldS l) x := by simp [foldS]
theorem foldT_snoc (l : List Int) (x : Int) : foldT (l ++ [x]) = absT (foldT l) x := by simp [foldT]
theorem hashOf_bd (l : List Int) : 0 ≤ hashOf l ∧ hashOf l ≤ 4611686018427387903 := by
  have h1 := foldS_bd ((l.length : Int) :: l)
  have h2 := foldT_bd ((l.length : Int) :: l)
  unfold hashOf
  omega
end Go.Proofs.Ytbcaknmpbkapnaa
/- Walks: predicates over lists, the hash. -/




namespace Go.Proofs.Ytbcaknmpbkapnaa
open Go.RowKit
set_option linter.unusedSimpArgs false
set_option linter.unusedVariables false

/-- a digest -/
def digestB (x : Int) : Bool := decide (0 ≤ x ∧ x ≤ 4611686018427387903)
/-- a function value that decides p on integers, in every world that has grown from w -/
structure Decides (w : World) (g : FuncId) (caps : Array Value) (p : Int → Bool) : Prop where
  enters : ∀ args wr, (callFunc g args).run Try.prog wr = .ok (.enter g args) wr
  runs : ∀ x wr, I64 x → Below w.heap.size w wr → Calls Try.prog g (#[.int .i64 x] ++ caps) wr fun e w' => e = .returned (.bool (p x)) ∧ Below wr.heap.size wr w'
theorem Decides.below {w w' : World} {g : FuncId} {caps : Array Value} {p : Int → Bool} (h : Decides w g caps p) (hb : Below w.heap.size w w') : Decides w' g caps p :=
  ⟨h.enters, fun x wr hx hr => h.runs x wr hx (hb.trans (hr.mono hb.size))⟩

/-- the place of the first element of which p holds, or -1 -/
def findTo (p : Int → Bool) (l : List Int) : Int := match l.findIdx? p with | some i => i | none => -1

theorem findTo_yes {p : Int → Bool} {l : List Int} {k : Nat} (h : k < l.length) (hp : p (nth l k) = true) (hf : ∀ j, j < k → p (nth l j) = false) : findTo p l = k := by
  have e : l.findIdx? p = some k := by
    rw [List.findIdx?_eq_some_iff_getElem]
    refine ⟨h, by rw [← nth_eq h]; exact hp, fun j hj => ?_⟩
    have := hf j hj
    rw [nth_eq (by omega)] at this
    simp [this]
  unfold findTo; rw [e]
theorem findTo_no {p : Int → Bool} {l : List Int} (hf : ∀ j, j < l.length → p (nth l j) = false) : findTo p l = -1 := by
  have e : l.findIdx? p = none := by
    rw [List.findIdx?_eq_none_iff]
    intro x hx
    obtain ⟨j, hj, rfl⟩ := List.getElem_of_mem hx
    have := hf j hj
    rwa [nth_eq hj] at this
  unfold findTo; rw [e]
theorem findTo_nonneg {p : Int → Bool} {l : List Int} : decide (0 ≤ findTo p l) = l.any p := by
  unfold findTo
  cases h : l.findIdx? p with
  | none =>
    rw [List.findIdx?_eq_none_iff] at h
    have : l.any p = false := by rw [List.any_eq_false]; intro x hx; simpa using h x hx
    rw [this]; rfl
  | some i =>
    rw [List.findIdx?_eq_some_iff_getElem] at h
    obtain ⟨hi, hp, _⟩ := h
    have : l.any p = true := List.any_eq_true.2 ⟨_, List.getElem_mem hi, hp⟩
    rw [this]; simp

set_option maxHeartbeats 400000 in
theorem slices_IndexFunc (v : Value) (l : List Int) (g : FuncId) (caps : Array Value) (p : Int → Bool) (w : World) (h : Ints w v l) (hp : Decides w g caps p) :
    Calls Try.prog 76 #[v, .func (.func g) #[] caps] w fun e w' => e = .returned (.int .i64 (findTo p l)) ∧ Below w.heap.size w w' := by
  obtain ⟨a, n, c, rfl⟩ := h.shape
  have e := h.len
  obtain ⟨k1, k2⟩ := h.capMax
  unfold maxLen at k2
  have HE := Lib.hid e; clear e
  have hent := hp.enters
  have HP := Lib.hid hp; clear hp
  have H := Lib.hid h; clear h
  go_enter Try.func76, Try.ntmps76
  go_wp2
  go_loopg [8] n (fun g i wr => ∃ k : Nat, k + g = n ∧ i = .int .i64 k ∧ Hid (∀ j, j < k → p (nth l j) = false) ∧ Below w.heap.size w wr)
  case atStart => exact ⟨0, by omega, rfl, fun j hj => by omega, Below.refl _ _⟩
  case round =>
    obtain ⟨k, hkg, rfl, HF, hb⟩ := hrel
    by_cases hlt : k < n
    · obtain ⟨b, o, rfl, hcx⟩ := (H.out.below hb).at_ (by omega)
      have hy := hcx k hlt
      clear hcx
      have hI := H.out.all.at_ k
      cases hpx : p (nth l k) with
      | true =>
        have HR : Hid (findTo p l = k) := by
          refine findTo_yes (by rw [HE.out]; exact hlt) hpx (fun j hj => HF.out j hj)
        have HX := Lib.hid hpx
        clear hpx
        go_wp2_with fail
        refine (HP.out.runs _ _ hI hb).mono ?_
        rintro e w1 ⟨rfl, hb1⟩
        rw [HX.out]
        go_wp2_with fail
        go_ret
        exact ⟨ret_int (by first | (rw [HR.out]; done) | (rw [HR.out]; rfl) | exact HR.out.symm), hb.trans (hb1.mono hb.size)⟩
      | false =>
        have HX := Lib.hid hpx
        clear hpx
        go_wp2_with fail
        refine (HP.out.runs _ _ hI hb).mono ?_
        rintro e w1 ⟨rfl, hb1⟩
        rw [HX.out]
        go_wp2_with fail
        go_roundg (n - (k + 1))
        case measure => omega
        case rel =>
          refine ⟨k + 1, by omega, by go_num, fun j hj => ?_, hb.trans (hb1.mono hb.size)⟩
          rcases Nat.lt_succ_iff_lt_or_eq.1 hj with h | rfl
          · exact HF.out j h
          · exact HX.out
    · have HR : Hid (findTo p l = -1) := findTo_no (fun j hj => HF.out j (by rw [HE.out] at hj; omega))
      go_wp2_with fail
      go_ret
      exact ⟨ret_int (by first | (rw [HR.out]; done) | (rw [HR.out]; rfl) | exact HR.out.symm), hb⟩
set_option maxHeartbeats 400000 in
theorem slices_ContainsFunc (v : Value) (l : List Int) (g : FuncId) (caps : Array Value) (p : Int → Bool) (w : World) (h : Ints w v l) (hp : Decides w g caps p) :
    Calls Try.prog 72 #[v, .func (.func g) #[] caps] w fun e w' => e = .returned (.bool (l.any p)) ∧ Below w.heap.size w w' := by
  have HP := Lib.hid hp; clear hp
  have H := Lib.hid h; clear h
  go_enter Try.func72, Try.ntmps72
  go_wp2_with fail
  refine (slices_IndexFunc v l g caps p _ H.out HP.out).mono ?_
  rintro e w1 ⟨rfl, hb⟩
  have HR := Lib.hid (findTo_nonneg (p := p) (l := l))
  go_wp2_with fail
  go_ret
  exact ⟨ret_bool (by first | (rw [HR.out]; done) | (rw [HR.out]; rfl) | exact HR.out.symm), hb⟩
set_option maxHeartbeats 400000 in
theorem impl_areAll1 (x : Int) (a : Addr) (g : FuncId) (caps : Array Value) (p : Int → Bool) (w : World) (hx : I64 x) (hc : w.cell? a = some (.func (.func g) #[] caps)) (hp : Decides w g caps p) :
    Calls Try.prog 73 #[.int .i64 x, .pointer (some a)] w fun e w' => e = .returned (.bool (!p x)) ∧ Below w.heap.size w w' := by
  have hent := hp.enters
  have HP := Lib.hid hp; clear hp
  go_enter Try.func73, Try.ntmps73
  go_wp2_with fail
  refine (HP.out.runs _ _ hx (Below.refl _ _)).mono ?_
  rintro e w1 ⟨rfl, hb1⟩
  go_wp2_with fail
  go_ret
  exact ⟨rfl, hb1⟩
set_option maxHeartbeats 400000 in
theorem impl_areAll (v : Value) (l : List Int) (g : FuncId) (caps : Array Value) (p : Int → Bool) (w : World) (h : Ints w v l) (hp : Decides w g caps p) :
    Calls Try.prog 61 #[v, .func (.func g) #[] caps] w fun e w' => e = .returned (.bool (l.all p)) ∧ Below w.heap.size w w' := by
  have HP := Lib.hid hp; clear hp
  have H := Lib.hid h; clear h
  have HD : Hid (Decides (w.alloc (.cells #[.func (.func g) #[] caps] 77)) 73 #[.pointer (some ⟨w.heap.size, 0, none⟩)] (fun x => !p x)) := by
    refine ⟨Try.call73, fun x wr hx hb => ?_⟩
    refine impl_areAll1 x ⟨w.heap.size, 0, none⟩ g caps p wr hx ?_ (HP.out.below (((Below.refl _ _).alloc (Nat.le_refl _) _).trans (hb.mono (by simp))))
    rw [hb.cell (p := ⟨w.heap.size, 0, none⟩) (by simp)]
    simp [go_sem]
  have HE : Hid ((!l.any fun x => !p x) = l.all p) := by
    unfold Hid; rw [List.all_eq_not_any_not]
  go_enter Try.func61, Try.ntmps61
  go_wp2_with fail
  refine (slices_ContainsFunc v l 73 _ (fun x => !p x) _ (H.out.alloc _) HD.out).mono ?_
  rintro e w1 ⟨rfl, hb⟩
  go_wp2_with fail
  go_ret
  exact ⟨ret_bool (by first | (rw [HE.out]; done) | (rw [HE.out]; rfl) | exact HE.out.symm), (by (repeat (first | exact Below.refl _ _ | assumption | refine Below.drew ?_ | refine Below.alloc ?_ (by first | (simp; done) | (simp; omega)) _ | refine Below.setCell ?_ (by first | (simp; done) | (simp; omega)) _)) : Below w.heap.size w (w.alloc _)).trans (hb.mono (by simp))⟩
theorem impl_isDigest (n : Int) (w : World) :
    Calls Try.prog 62 #[.int .i64 n] w fun e w' => e = .returned (.bool (digestB n)) ∧ w = w' := by
  go_enter Try.func62, Try.ntmps62
  go_wp2_with fail
  refine (impl_within n _ _ _).mono ?_
  rintro e w' ⟨rfl, rfl⟩
  have HE : Hid (decide (0 ≤ n ∧ n ≤ 4611686018427387903) = digestB n) := rfl
  rw [HE.out]
  go_wp2_with fail
  go_ret
  exact ⟨rfl, rfl⟩
theorem decides_isDigest (w : World) : Decides w 62 #[] digestB :=
  ⟨Try.call62, fun x wr hx hb => (impl_isDigest x wr).mono fun e w' ⟨h1, h2⟩ => ⟨h1, h2 ▸ Below.refl _ _⟩⟩
set_option maxHeartbeats 400000 in
theorem spec_l1All (v : Value) (l : List Int) (lo hi : Int) (w : World) (h : Ints w v l) :
    Calls Try.prog 70 #[v, .int .i64 lo, .int .i64 hi] w fun e w' => e = .returned (.bool (l.all fun x => decide (lo ≤ x ∧ x ≤ hi))) ∧ w = w' := by
  obtain ⟨a, n, c, rfl⟩ := h.shape
  have e := h.len
  obtain ⟨k1, k2⟩ := h.capMax
  unfold maxLen at k2
  have HE := Lib.hid e; clear e
  have H := Lib.hid h; clear h
  go_enter Try.func70, Try.ntmps70
  go_wp2
  go_loopg [11] n (fun g i wr => ∃ k : Nat, k + g = n ∧ i = .int .i64 k ∧ Hid (∀ j, j < k → decide (lo ≤ nth l j ∧ nth l j ≤ hi) = true) ∧ wr = w)
  case atStart => exact ⟨0, by omega, rfl, fun j hj => by omega, rfl⟩
  case round =>
    obtain ⟨k, hkg, rfl, HF, rfl⟩ := hrel
    by_cases hlt : k < n
    · obtain ⟨b, o, rfl, hcx⟩ := H.out.at_ (by omega)
      have hy := hcx k hlt
      clear hcx
      cases hpx : decide (lo ≤ nth l k ∧ nth l k ≤ hi) with
      | true =>
        have HX := Lib.hid hpx
        clear hpx
        go_wp2_with fail
        refine (spec_l1In _ _ _ _).mono ?_
        rintro e w1 ⟨rfl, rfl⟩
        rw [HX.out]
        go_wp2_with fail
        go_roundg (n - (k + 1))
        case measure => omega
        case rel =>
          refine ⟨k + 1, by omega, by go_num, fun j hj => ?_, rfl⟩
          rcases Nat.lt_succ_iff_lt_or_eq.1 hj with h | rfl
          · exact HF.out j h
          · exact HX.out
      | false =>
        have HR : Hid ((l.all fun x => decide (lo ≤ x ∧ x ≤ hi)) = false) := by
          refine List.all_eq_false.2 ⟨nth l k, ?_, by simpa using hpx⟩
          rw [nth_eq (by rw [HE.out]; exact hlt)]; exact List.getElem_mem _
        have HX := Lib.hid hpx
        clear hpx
        go_wp2_with fail
        refine (spec_l1In _ _ _ _).mono ?_
        rintro e w1 ⟨rfl, rfl⟩
        rw [HX.out]
        go_wp2_with fail
        go_ret
        exact ⟨ret_bool (by first | (rw [HR.out]; done) | (rw [HR.out]; rfl) | exact HR.out.symm), rfl⟩
    · have HR : Hid ((l.all fun x => decide (lo ≤ x ∧ x ≤ hi)) = true) := by
        refine List.all_eq_true.2 fun x hx => ?_
        obtain ⟨j, hj, rfl⟩ := List.getElem_of_mem hx
        have := HF.out j (by rw [HE.out] at hj; omega)
        rwa [nth_eq hj] at this
      go_wp2_with fail
      go_ret
      exact ⟨ret_bool (by first | (rw [HR.out]; done) | (rw [HR.out]; rfl) | exact HR.out.symm), rfl⟩
/-- the bytes of a string as integers -/
def bytesI (s : ByteArray) : List Int := s.data.toList.map fun b => (b.toNat : Int)
/-- a label in front of a list: its length, its bytes -/
def labTo (s : ByteArray) (k : Nat) : List Int := (s.size : Int) :: (bytesI s).take k
def lab (s : ByteArray) : List Int := (s.size : Int) :: bytesI s
theorem bytesI_length (s : ByteArray) : (bytesI s).length = s.size := by simp [bytesI]
theorem labTo_all (s : ByteArray) : labTo s s.size = lab s := by unfold labTo lab; rw [← bytesI_length, List.take_length]
theorem labTo_length {s : ByteArray} {k : Nat} (h : k ≤ s.size) : (labTo s k).length = k + 1 := by simp [labTo, bytesI_length]; omega
theorem bytesI_all (s : ByteArray) : AllI64 (bytesI s) := fun x hx => by
  obtain ⟨b, _, rfl⟩ := List.mem_map.1 hx
  have := b.toNat_lt
  constructor <;> omega
theorem labTo_succ {s : ByteArray} {k : Nat} (h : k < s.size) : labTo s (k + 1) = labTo s k ++ [((s[k].toNat : Nat) : Int)] := by
  unfold labTo
  rw [List.take_succ_eq_append_getElem (by rw [bytesI_length]; exact h)]
  simp [bytesI]; rfl
theorem Ints.lit1 (w : World) {x : Int} (h : I64 x) : Ints (w.alloc (.cells #[.int .i64 x] 3)) (.slice (some ⟨w.heap.size, 0, none⟩) 1 1) [x] :=
  (OwnI.lit (B := 0) w (Nat.zero_le _) (AllI64.one h) rfl (by simp [maxLen]) 1 rfl).ints
theorem OwnI.lit1 {B : Nat} (w : World) (hB : B ≤ w.heap.size) {x : Int} (h : I64 x) : OwnI (w.alloc (.cells #[.int .i64 x] 3)) B (.slice (some ⟨w.heap.size, 0, none⟩) 1 1) [x] :=
  OwnI.lit w hB (AllI64.one h) rfl (by simp [maxLen]) 1 rfl
theorem OwnI.alloc {w : World} {B : Nat} {v : Value} {l : List Int} (h : OwnI w B v l) (o : Obj) : OwnI (w.alloc o) B v l := h.below ((Below.refl _ _).alloc (Nat.le_refl _) o)
theorem lab_all (s : ByteArray) (hs : s.size ≤ 1000000) : (lab s).all digestB = true := by
  refine List.all_eq_true.2 fun x hx => ?_
  rcases List.mem_cons.1 hx with rfl | hx
  · simp [digestB]; omega
  · obtain ⟨b, _, rfl⟩ := List.mem_map.1 hx
    have := b.toNat_lt
    simp [digestB]; omega
theorem lab_length (s : ByteArray) : (lab s).length = s.size + 1 := by rw [← labTo_all, labTo_length (Nat.le_refl _)]
theorem and31 (x : Int) (h0 : 0 ≤ x) (h1 : x ≤ 4611686018427387903) : bits .and .i64 x 2147483647 = x % 2147483648 := by
  have h := bits_mask .i64 62 (by decide) (fun n h h' => IntWalk.i64_in n ⟨by omega, by
    have e : ((2 : Int) ^ 62) = 4611686018427387904 := by decide
    omega⟩) 31 (by decide) x h0 (by
    have e : ((2 : Int) ^ 62) = 4611686018427387904 := by decide
    omega)
  have e1 : ((2 : Int) ^ 31 - 1) = 2147483647 := by decide
  have e2 : ((2 : Int) ^ 31) = 2147483648 := by decide
  rw [e1, e2] at h
  exact h
/-- a list that can be hashed -/
def hashable (l : List Int) : Bool := decide (l.length ≤ 400) && l.all digestB
theorem hashable_yes {l : List Int} (h : hashable l = true) : l.length ≤ 400 ∧ l.all digestB = true := by
  unfold hashable at h; rw [Bool.and_eq_true, decide_eq_true_iff] at h; exact h
/-- what HashInts returns -/
def hashInt (l : List Int) : Int := if hashable l = true then hashOf l else 0
theorem hashInt_yes {l : List Int} (h : hashable l = true) : hashInt l = hashOf l := by unfold hashInt; rw [if_pos h]
theorem hashInt_no {l : List Int} (h : hashable l = false) : hashInt l = 0 := by unfold hashInt; rw [if_neg (by rw [h]; simp)]
/-- what HashLabelled answers: whether, and the digest -/
def labelledB (s : ByteArray) (l : List Int) : Bool := decide (s.size ≤ 40 ∧ l.length ≤ 400) && hashable (lab s ++ l)
def labelledI (s : ByteArray) (l : List Int) : Int := if labelledB s l = true then hashOf (lab s ++ l) else 0
/-- a block of two cells -/
def Box2 (w : World) (b : Nat) (t : TypeId) (x y : Value) : Prop := w.heap[b]? = some (.cells #[x, y] t (0, 0))
section
variable {w w' : World} {b : Nat} {t : TypeId} {x y : Value}
theorem Box2.cell0 (h : Box2 w b t x y) : w.cell? ⟨b, 0, none⟩ = some x := by rw [cell_of_row w b 0 _ t (0, 0) h]; rfl
theorem Box2.cell1 (h : Box2 w b t x y) : w.cell? ⟨b, 1, none⟩ = some y := by rw [cell_of_row w b 1 _ t (0, 0) h]; rfl
theorem Box2.frozen (h : Box2 w b t x y) (j : Nat) : w.frozen? ⟨b, j, none⟩ = false := frozen_of_row w b j _ t h
theorem Box2.set0 (h : Box2 w b t x y) (u : Value) : Box2 (w.setCell ⟨b, 0, none⟩ u) b t u y := heap_setCell_same w b 0 _ t u h
theorem Box2.set1 (h : Box2 w b t x y) (u : Value) : Box2 (w.setCell ⟨b, 1, none⟩ u) b t x u := heap_setCell_same w b 1 _ t u h
theorem Box2.lt (h : Box2 w b t x y) : b < w.heap.size := (Array.getElem?_eq_some_iff.1 h).1
theorem Box2.below (h : Box2 w b t x y) (hb : Below w.heap.size w w') : Box2 w' b t x y := (hb.block b h.lt).trans h
theorem Box2.alloc (h : Box2 w b t x y) (o : Obj) : Box2 (w.alloc o) b t x y := h.below ((Below.refl _ _).alloc (Nat.le_refl _) o)
theorem grownBy_setCell (w : World) (b o : Nat) (u : Value) : w.grownBy (w.setCell ⟨b, o, none⟩ u) (some b) :=
  ⟨rfl, rfl, rfl, by simp, fun k _ hk => heap_setCell_other w ⟨b, o, none⟩ k u (fun e => hk (by simp [e]))⟩
end
end Go.Proofs.Ytbcaknmpbkapnaa
/- Kinds of values: what reads as data, and what the call owns (in blocks from lo to hi). -/

namespace Go.Proofs.Ytbcaknmpbkapnaa
open Go.RowKit
set_option linter.unusedSimpArgs false
set_option linter.unusedVariables false

theorem Ints.len64 {w : World} {v : Value} {l : List Int} (h : Ints w v l) : I64 (l.length : Int) := by
  obtain ⟨a, n, c, e⟩ := h.shape
  have h1 := Ints.len (e ▸ h)
  have h2 := Ints.capMax (e ▸ h)
  unfold maxLen at h2
  exact ⟨by omega, by omega⟩
/-- a kind of Go value: `rd`: it reads as the data; `own`: besides, all its memory is the call's own, in blocks from lo to hi -/
structure Kind (δ : Type) where
  rd : World → Value → δ → Prop
  own : World → Nat → Nat → Value → δ → Prop
  rd_below : ∀ {w w' : World} {v : Value} {d : δ}, rd w v d → Below w.heap.size w w' → rd w' v d
  own_rd : ∀ {w : World} {lo hi : Nat} {v : Value} {d : δ}, own w lo hi v d → rd w v d
  own_frame : ∀ {w w' : World} {lo hi : Nat} {v : Value} {d : δ}, own w lo hi v d → (∀ k, lo ≤ k → k < hi → k < w.heap.size → w'.heap[k]? = w.heap[k]?) → own w' lo hi v d
  own_mono : ∀ {w : World} {lo hi lo' hi' : Nat} {v : Value} {d : δ}, own w lo hi v d → lo' ≤ lo → hi ≤ hi' → own w lo' hi' v d
section
variable {δ : Type} {K : Kind δ} {w w' : World} {lo hi lo' hi' : Nat} {v : Value} {d : δ}
theorem Kind.next (h : K.own w lo hi v d) (hb : Below w.heap.size w w') : K.own w' lo hi v d := K.own_frame h fun k _ _ hk => hb.block k hk
theorem Kind.kept (h : K.own w lo hi v d) (hw : Within lo' hi' w w') (hd : hi ≤ lo' ∨ hi' ≤ lo) : K.own w' lo hi v d := K.own_frame h fun k h1 h2 hk => hw.block k hk (by omega)
end
theorem ownsRow_frame {w w' : World} {B : Nat} {e : TypeId} {s n : Nat} {v : Value} {xs : List Value} (h : w.ownsRow B e s v n xs) (hf : ∀ g, v.ownBlock = some g → w'.heap[g]? = w.heap[g]?) : w'.ownsRow B e s v n xs := by
  refine ⟨h.1, ?_⟩
  rcases h.2 with h2 | ⟨g, cap, cur, rfl, hb, hg, r⟩
  · exact .inl h2
  · exact .inr ⟨g, cap, cur, rfl, hb, (hf g rfl).trans hg, r⟩
theorem ownsRow_mono {w : World} {B B' : Nat} {e : TypeId} {s n : Nat} {v : Value} {xs : List Value} (h : w.ownsRow B e s v n xs) (hB : B' ≤ B) : w.ownsRow B' e s v n xs := by
  refine ⟨h.1, ?_⟩
  rcases h.2 with h2 | ⟨g, cap, cur, e, hb, r⟩
  · exact .inl h2
  · exact .inr ⟨g, cap, cur, e, by omega, r⟩
theorem box_at {W w' : World} {g j : Nat} {x : Value} (h : W.cell? ⟨g, j, none⟩ = some x) (hb : Below W.heap.size W w') : w'.cell? ⟨g, j, none⟩ = some x :=
  (hb.cell (p := ⟨g, j, none⟩) (World.block_lt_of_cell? W _ h)).trans h
theorem within_at {w w' : World} {lo hi g j : Nat} {x : Value} (h : Within lo hi w w') (hc : w.cell? ⟨g, j, none⟩ = some x) (hd : g < lo ∨ hi ≤ g) : w'.cell? ⟨g, j, none⟩ = some x := by
  have := h.block g (World.block_lt_of_cell? w _ hc) hd
  rw [← hc]; simp [World.cell?, this]
/-- slices of integers -/
def kInts : Kind (List Int) where
  rd := Ints
  own := InI
  rd_below h hb := h.below hb
  own_rd h := h.reads
  own_frame := by
    intro w w' lo hi v d h hf
    have hlt := h.1.lt
    exact ⟨⟨h.1.1, ownsRow_frame h.1.2 fun g hg => hf g (hlt g hg).1 (h.2 g hg) (hlt g hg).2⟩, h.2⟩
  own_mono h h1 h2 := ⟨h.1.mono h1, fun k hk => Nat.lt_of_lt_of_le (h.2 k hk) h2⟩

/-- slices whose elements are of a kind, one cell an element -/
def RdL {δ : Type} (K : Kind δ) (w : World) (v : Value) (ds : List δ) : Prop :=
  ∃ a n c, v = .slice a n c ∧ ds.length = n ∧ n ≤ c ∧ c ≤ maxLen ∧ ((a = none ∧ n = 0 ∧ c = 0) ∨ (∃ ad, a = some ad ∧ n = 0) ∨
    ∃ b o, a = some ⟨b, o, none⟩ ∧ ∃ vs : Nat → Value, ∀ i (hi : i < ds.length), w.cell? ⟨b, o + i, none⟩ = some (vs i) ∧ K.rd w (vs i) ds[i])
def OwnL {δ : Type} (e : TypeId) (K : Kind δ) (w : World) (lo hi : Nat) (v : Value) (ds : List δ) : Prop :=
  ∃ (vs : List Value) (los his : Nat → Nat), vs.length = ds.length ∧ w.ownsRow lo e 1 v ds.length vs ∧ (∀ g, v.ownBlock = some g → g < hi ∧ ∀ i, i < ds.length → g < los i ∨ his i ≤ g) ∧
    (∀ i (h1 : i < vs.length) (h2 : i < ds.length), K.own w (los i) (his i) vs[i] ds[i] ∧ lo ≤ los i ∧ his i ≤ hi) ∧
    ∀ i j, i < ds.length → j < ds.length → i ≠ j → his i ≤ los j ∨ his j ≤ los i
theorem RdL.shape {δ : Type} {K : Kind δ} {w : World} {v : Value} {ds : List δ} (h : RdL K w v ds) : ∃ a n c, v = .slice a n c := by
  obtain ⟨a, n, c, e, _⟩ := h; exact ⟨a, n, c, e⟩
theorem RdL.len {δ : Type} {K : Kind δ} {w : World} {a : Option Addr} {n c : Nat} {ds : List δ} (h : RdL K w (.slice a n c) ds) : ds.length = n := by
  obtain ⟨_, _, _, e, h1, _⟩ := h; cases e; exact h1
theorem RdL.capMax {δ : Type} {K : Kind δ} {w : World} {a : Option Addr} {n c : Nat} {ds : List δ} (h : RdL K w (.slice a n c) ds) : n ≤ c ∧ c ≤ maxLen := by
  obtain ⟨_, _, _, e, h1, h2, h3, _⟩ := h; cases e; exact ⟨h2, h3⟩
theorem RdL.nil {δ : Type} (K : Kind δ) (w : World) : RdL K w (.slice none 0 0) [] := ⟨none, 0, 0, rfl, rfl, Nat.le_refl _, Nat.zero_le _, .inl ⟨rfl, rfl, rfl⟩⟩
theorem RdL.at_ {δ : Type} {K : Kind δ} {w : World} {a : Option Addr} {n c : Nat} {ds : List δ} (h : RdL K w (.slice a n c) ds) (hn : 0 < n) :
    ∃ b o, a = some ⟨b, o, none⟩ ∧ ∃ vs : Nat → Value, ∀ i (hi : i < ds.length), w.cell? ⟨b, o + i, none⟩ = some (vs i) ∧ K.rd w (vs i) ds[i] := by
  obtain ⟨_, _, _, e, h1, h2, h3, h4⟩ := h
  cases e
  rcases h4 with ⟨_, h4, _⟩ | ⟨_, _, h4⟩ | h4
  · omega
  · omega
  · exact h4
theorem OwnL.rd {δ : Type} {e : TypeId} {K : Kind δ} {w : World} {lo hi : Nat} {v : Value} {ds : List δ} (h : OwnL e K w lo hi v ds) : RdL K w v ds := by
  obtain ⟨vs, los, his, hl, hO, hg, hel, hd⟩ := h
  have hO' := hO
  obtain ⟨hl1, ⟨rfl, h0⟩ | ⟨g, c, cur, rfl, hb, hgc, hnc, hcm, hcs, htake⟩⟩ := hO
  · have : ds = [] := List.eq_nil_of_length_eq_zero h0
    subst this; exact RdL.nil K w
  · refine ⟨some ⟨g, 0, none⟩, ds.length, c, rfl, rfl, hnc, hcm, .inr (.inr ⟨g, 0, rfl, fun i => vs.getD i undef, fun i hi => ?_⟩)⟩
    have h1 := World.ownsRow.cellAt hO' i (by omega)
    refine ⟨?_, ?_⟩
    · rw [Nat.zero_add, h1]; simp [show i < vs.length by omega]
    · have := K.own_rd (hel i (by omega) hi).1
      simpa [List.getD, show i < vs.length by omega] using this
/-- slices of a kind as a kind -/
def kList {δ : Type} (e : TypeId) (K : Kind δ) : Kind (List δ) where
  rd := RdL K
  own := OwnL e K
  rd_below := by
    intro w w' v d h hb
    obtain ⟨a, n, c, e, h1, h2, h3, h4⟩ := h
    refine ⟨a, n, c, e, h1, h2, h3, ?_⟩
    rcases h4 with h4 | h4 | ⟨b, o, h4, vs, hc⟩
    · exact .inl h4
    · exact .inr (.inl h4)
    · refine .inr (.inr ⟨b, o, h4, vs, fun i hi => ?_⟩)
      obtain ⟨h5, h6⟩ := hc i hi
      exact ⟨(hb.cell (World.block_lt_of_cell? w _ h5)).trans h5, K.rd_below h6 hb⟩
  own_rd := OwnL.rd
  own_frame := by
    intro w w' lo hi v d h hf
    obtain ⟨vs, los, his, hl, hO, hg, hel, hd⟩ := h
    refine ⟨vs, los, his, hl, ownsRow_frame hO fun g hgv => hf g (hO.lt g hgv).1 (hg g hgv).1 (hO.lt g hgv).2, hg, fun i h1 h2 => ?_, hd⟩
    obtain ⟨h3, h4, h5⟩ := hel i h1 h2
    exact ⟨K.own_frame h3 fun k k1 k2 k3 => hf k (by omega) (by omega) k3, h4, h5⟩
  own_mono := by
    intro w lo hi lo' hi' v d h h1 h2
    obtain ⟨vs, los, his, hl, hO, hg, hel, hd⟩ := h
    exact ⟨vs, los, his, hl, ownsRow_mono hO h1, fun g hgv => ⟨by have := (hg g hgv).1; omega, (hg g hgv).2⟩, fun i k1 k2 => ⟨(hel i k1 k2).1, by have := (hel i k1 k2).2; omega, by have := (hel i k1 k2).2; omega⟩, hd⟩
abbrev kRows : Kind (List (List Int)) := kList 22 kInts
/-- the numbers in rows -/
def total (ls : List (List Int)) : Nat := (ls.map List.length).sum
theorem total_nil : total [] = 0 := rfl
theorem total_take_succ {ls : List (List Int)} {k : Nat} (h : k < ls.length) : total (ls.take (k + 1)) = total (ls.take k) + ls[k].length := by
  unfold total
  rw [List.take_succ_eq_append_getElem h, List.map_append, List.sum_append]
  exact congrArg (_ + ·) (by simp)
theorem total_take_le {ls : List (List Int)} {k : Nat} : total (ls.take k) ≤ total ls := by
  unfold total
  conv => rhs; rw [← List.take_append_drop k ls]
  rw [List.map_append, List.sum_append]; omega

theorem keep_c2 {w wa w' : World} {b o b2 o2 : Nat} {x y : Value} (hS : Below w.heap.size w wa ∧ wa.cell? ⟨b, o, none⟩ = some x ∧ wa.cell? ⟨b2, o2, none⟩ = some y) (hb : Below wa.heap.size wa w') :
    Below w.heap.size w w' ∧ w'.cell? ⟨b, o, none⟩ = some x ∧ w'.cell? ⟨b2, o2, none⟩ = some y :=
  ⟨keep_b hb hS.1, (hb.cell (p := ⟨b, o, none⟩) (World.block_lt_of_cell? wa _ hS.2.1)).trans hS.2.1, (hb.cell (p := ⟨b2, o2, none⟩) (World.block_lt_of_cell? wa _ hS.2.2)).trans hS.2.2⟩
theorem ownsRow_lift {w : World} {B : Nat} {e : TypeId} {s n : Nat} {v : Value} {xs : List Value} (h : w.ownsRow 0 e s v n xs) (hB : ∀ g, v.ownBlock = some g → B ≤ g) : w.ownsRow B e s v n xs := by
  refine ⟨h.1, ?_⟩
  rcases h.2 with h2 | ⟨g, cap, cur, rfl, hb, hg, r⟩
  · exact .inl h2
  · exact .inr ⟨g, cap, cur, rfl, hB g rfl, hg, r⟩
theorem laws_markIntS_own (lo hi : Nat) (v : Value) (k0 : Nat) (l : List Int) (w : World) (h : InI w lo hi v l) (hk : k0 + l.length ≤ 9223372036854775806) :
    Calls Try.prog 10 #[v, .int .i64 k0] w fun e w' => e = .returned (.int .i64 (k0 + l.length : Nat)) ∧ InI w' lo hi v (marks k0 l.length) ∧ Within lo hi w w' := by
  refine (laws_markIntS 0 v k0 l w (h.1.mono (Nat.zero_le _)) (Nat.zero_le _) hk).mono fun e w' ⟨h1, h2, h3⟩ => ⟨h1, ⟨⟨h2.1, ownsRow_lift h2.2 fun g hg => (h.1.lt g hg).1⟩, h.2⟩, ?_⟩
  refine ⟨h3.os, h3.tape, h3.output, h3.size, fun k hk hr => h3.block k hk fun e => ?_⟩
  have h4 := h.1.lt k e.symm
  have h5 := h.2 k e.symm
  omega
theorem info_ints : (Try.prog.info? 22).map (fun i => (i.zero, i.size, i.bytes)) = some (some (.slice none 0 0), 1, 24) := by kernel_rfl
/-- rows of marks -/
def rowMarks (k0 : Nat) (ls : List (List Int)) : List (List Int) := (List.range ls.length).map fun i => marks (k0 + total (ls.take i)) (ls.getD i []).length
theorem rowMarks_length (k0 : Nat) (ls : List (List Int)) : (rowMarks k0 ls).length = ls.length := by simp [rowMarks]
theorem rowMarks_at {k0 : Nat} {ls : List (List Int)} {i : Nat} (h : i < ls.length) (h' : i < (rowMarks k0 ls).length) : (rowMarks k0 ls)[i] = marks (k0 + total (ls.take i)) ls[i].length := by
  simp [rowMarks, List.getD, h]
theorem total_rowMarks (k0 : Nat) (ls : List (List Int)) : total (rowMarks k0 ls) = total ls := by
  have : (rowMarks k0 ls).map List.length = ls.map List.length := by
    apply List.ext_getElem
    · simp [rowMarks_length]
    · intro i h1 h2
      simp only [List.length_map] at h1 h2
      simp only [List.getElem_map]
      rw [rowMarks_at h2, marks_length]
  unfold total; rw [this]
end Go.Proofs.Ytbcaknmpbkapnaa
/- append to a row of the call's own: in which block the new row lies; a slice of slices that grows by one. -/

namespace Go.Proofs.Ytbcaknmpbkapnaa
open Go.RowKit
set_option linter.unusedSimpArgs false
set_option linter.unusedVariables false

/-- the row stays in its block, or lies in a new one -/
theorem append_block {P : Program} {w : World} (base : Nat) (t ty e : TypeId) (i : TypeInfo) (z : Value) (ht : P.underlying t = some (.slice e)) (hi : P.info? e = some i) (hz : i.zero = some z) (hzs : z.cells.size = i.size) (hsz : 0 < i.size)
    (v : Value) (n : Nat) (xs : List Value) (hown : w.ownsRow base e i.size v n xs)
    (a : Addr) (m c : Nat) (news : List Value) (hl : news.length = m * i.size) (hnews : ∀ j u, news[j]? = some u → w.cell? (a.add j) = some u) (h1 : ∀ u ∈ news, u.oneCell' = true)
    (h63 : n + m ≤ maxLen) (hbytes : (n + m) * i.bytes ≤ 140737488355328) {v' : Value} {w' : World}
    (hr : (Builtin.append_ #[t, t] ty #[v, .slice (some a) m c]).run P w = .ok v' w') : v'.ownBlock = v.ownBlock ∨ ∃ g, w.heap.size ≤ g ∧ v'.ownBlock = some g := by
  rcases hown.2 with ⟨rfl, rfl⟩ | ⟨g, cap, cur, rfl, hbg, hg, hnc, hcm, hcs, htake⟩
  · obtain ⟨v2, w2, hr2, h2, _⟩ := run_append_own (P := P) w w.heap.size t ty e i z i.size i.bytes ht hi hz rfl rfl hzs hsz (.slice none 0 0) 0 xs (by
      have := hown.1; exact ⟨this, .inl ⟨rfl, rfl⟩⟩) a m c news hl hnews h1 h63 hbytes (Nat.le_refl _)
    rw [hr] at hr2; cases hr2
    cases hb : v'.ownBlock with
    | none => exact .inl rfl
    | some g => exact .inr ⟨g, (h2.lt g hb).1, rfl⟩
  · by_cases hroom : n + m ≤ cap
    · have := run_append_room (P := P) w t ty e i ht hi g n cap cur hg a m c news hl hnews h1 hroom (by rw [hl, hcs, ← Nat.add_mul]; exact Nat.mul_le_mul_right _ hroom)
      rw [hr] at this; cases this
      exact .inl rfl
    · have hsmall : n + m ≤ 9223372036854775807 := by simp only [maxLen] at h63; omega
      have := run_append_grow (P := P) w t ty e i z ht hi hz ⟨g, 0, none⟩ n cap xs hown.1 (hown.cells (g := g) rfl) a m c news hl hnews (by omega) (by omega) (growslice_fits (by omega) hbytes)
      rw [hr] at this; cases this
      exact .inr ⟨w.heap.size, Nat.le_refl _, rfl⟩
theorem OwnL.nil {δ : Type} (e : TypeId) (K : Kind δ) (w : World) (lo hi : Nat) : OwnL e K w lo hi (.slice none 0 0) [] :=
  ⟨[], fun _ => 0, fun _ => 0, rfl, World.ownsRow_nil w lo e 1, (fun g h => by cases h), (fun i h1 _ => by simp at h1), (fun i j h _ _ => by simp at h)⟩
theorem info_intsA : (Try.prog.info? 22).map (fun i => (i.zero, i.size, i.bytes)) = some (some (.slice none 0 0), 1, 24) := by kernel_rfl
theorem OwnL.lit0 (w : World) (B : Nat) (hB : B ≤ w.heap.size) : OwnL 22 kInts (w.alloc (.cells #[] 22)) B (w.alloc (.cells #[] 22)).heap.size (.slice (some ⟨w.heap.size, 0, none⟩) 0 0) [] := by
  have := World.ownsRow_lit (e := 22) (size := 1) w #[] 0 hB (Nat.zero_le _) rfl
  exact ⟨[], fun _ => 0, fun _ => 0, rfl, this, fun g h => by cases h; exact ⟨by simp, fun i hi => by simp at hi⟩, fun i h1 _ => by simp at h1, fun i j h _ _ => by simp at h⟩
/-- one slice more -/
theorem run_append_rows {w : World} {lo hi a b : Nat} {v x : Value} {ds : List (List Int)} {d : List Int} (hown : OwnL 22 kInts w lo hi v ds) (hx : kInts.own w a b x d) (hab : hi ≤ a) (hbw : b ≤ w.heap.size) (hhi : hi ≤ w.heap.size) (hlo : lo ≤ hi)
    (g c : Nat) (hc : w.cell? ⟨g, 0, none⟩ = some x) (hlen : ds.length ≤ 1000000000) (ty : TypeId) :
    ∃ v' w', (Builtin.append_ #[47, 47] ty #[v, .slice (some ⟨g, 0, none⟩) 1 c]).run Try.prog w = .ok v' w' ∧ OwnL 22 kInts w' lo w'.heap.size v' (ds ++ [d]) ∧ Below lo w w' := by
  obtain ⟨i, hi', hz, hsz, hby⟩ := info_parts info_intsA
  obtain ⟨vs, los, his, hvl, hO, hgl, hel, hd⟩ := hown
  obtain ⟨xa, xn, xc, rfl⟩ := Ints.shape (kInts.own_rd hx)
  have hnews : ∀ j u, [Value.slice xa xn xc][j]? = some u → w.cell? ((⟨g, 0, none⟩ : Addr).add j) = some u := fun j u hu => by
    cases j with
    | zero => simp at hu; subst hu; simpa [Addr.add] using hc
    | succ j => simp at hu
  obtain ⟨v', w', hr, h1, h2, _⟩ := run_append_own (P := Try.prog) w lo 47 ty 22 i (.slice none 0 0) 1 24 Try.underlying47 hi' hz hsz hby rfl (by decide) v ds.length vs hO ⟨g, 0, none⟩ 1 c [.slice xa xn xc] rfl hnews (fun u hu => by simp at hu; subst hu; rfl) (by unfold maxLen; omega) (by omega) (by omega)
  have hbl := append_block (P := Try.prog) lo 47 ty 22 i (.slice none 0 0) Try.underlying47 hi' hz (by rw [hsz]; rfl) (by omega) v ds.length vs (by rw [hsz]; exact hO) ⟨g, 0, none⟩ 1 c [.slice xa xn xc] (by rw [hsz]; rfl) hnews (fun u hu => by simp at hu; subst hu; rfl) (by unfold maxLen; omega) (by rw [hby]; omega) hr
  have hsz2 := h2.size
  have hfr : ∀ k, k < w.heap.size → (∀ q, v.ownBlock = some q → k ≠ q) → w'.heap[k]? = w.heap[k]? := fun k hk hq => h2.block k hk (fun e => hq k e.symm rfl)
  refine ⟨v', w', hr, ⟨vs ++ [.slice xa xn xc], fun i => if i = ds.length then a else los i, fun i => if i = ds.length then b else his i, by simp [hvl], by simpa using h1, fun q hq => ⟨(h1.lt q hq).2, fun j hj => ?_⟩, fun j k1 k2 => ?_, fun j k hj hk hjk => ?_⟩, ?_⟩
  · simp only [List.length_append, List.length_cons, List.length_nil] at hj
    dsimp only
    by_cases hjn : j = ds.length
    · rw [if_pos hjn, if_pos hjn]
      rcases hbl with hbl | ⟨q', hq1, hq2⟩
      · rw [hbl] at hq
        left; have := (hgl q hq).1; omega
      · rw [hq2] at hq; cases hq
        right; omega
    · rw [if_neg hjn, if_neg hjn]
      rcases hbl with hbl | ⟨q', hq1, hq2⟩
      · rw [hbl] at hq
        exact (hgl q hq).2 j (by omega)
      · rw [hq2] at hq; cases hq
        right
        have := (hel j (by omega) (by omega)).2; omega
  · simp only [List.length_append, List.length_cons, List.length_nil] at k1 k2
    dsimp only
    by_cases hjn : j = ds.length
    · rw [if_pos hjn, if_pos hjn]
      have e1 : (vs ++ [Value.slice xa xn xc])[j] = .slice xa xn xc := by simp [hjn, ← hvl]
      have e2 : (ds ++ [d])[j] = d := by simp [hjn]
      rw [e1, e2]
      refine ⟨kInts.own_frame hx fun k q1 q2 q3 => hfr k q3 fun q hq => ?_, by omega, by omega⟩
      have := (hgl q hq).1; omega
    · rw [if_neg hjn, if_neg hjn]
      have hj : j < ds.length := by omega
      obtain ⟨p1, p2, p3⟩ := hel j (by omega) hj
      rw [List.getElem_append_left (by omega), List.getElem_append_left hj]
      refine ⟨kInts.own_frame p1 fun k q1 q2 q3 => hfr k q3 fun q hq => ?_, p2, by omega⟩
      have := (hgl q hq).2 j hj; omega
  · simp only [List.length_append, List.length_cons, List.length_nil] at hj hk
    dsimp only
    by_cases hjn : j = ds.length
    · rw [if_pos hjn, if_pos hjn, if_neg (by omega), if_neg (by omega)]
      have := (hel k (by omega) (by omega)).2; omega
    · rw [if_neg hjn, if_neg hjn]
      by_cases hkn : k = ds.length
      · rw [if_pos hkn, if_pos hkn]
        have := (hel j (by omega) (by omega)).2; omega
      · rw [if_neg hkn, if_neg hkn]; exact hd j k (by omega) (by omega) hjk
  · exact (Below.refl lo w).grown h2 (by omega) (fun k hk => (hO.lt k hk).1)
theorem wpList_append_rows {ops : Array Oper} {rest : List Oper} {o : Oper} {ac : Act} {w : World} {Q : Exit → Act → World → Prop} (hgd : o.guard = none) (s y : Operand)
    (ho : o.op = .call { callee := .builtin .append, args := #[s, y], argTypes := #[47, 47] })
    (lo hi a b : Nat) (v x : Value) (ds : List (List Int)) (d : List Int) (g c : Nat) (hs : ac.eval s = v) (hy : ac.eval y = .slice (some ⟨g, 0, none⟩) 1 c) (hown : OwnL 22 kInts w lo hi v ds) (hx : kInts.own w a b x d) (hab : hi ≤ a) (hbw : b ≤ w.heap.size) (hhi : hi ≤ w.heap.size) (hlo : lo ≤ hi)
    (hc : w.cell? ⟨g, 0, none⟩ = some x) (hlen : ds.length ≤ 1000000000)
    (hK : ∀ v' w', OwnL 22 kInts w' lo w'.heap.size v' (ds ++ [d]) → Below lo w w' → wpList Try.prog ops Q rest (ac.put o.dst v') w') : wpList Try.prog ops Q (o :: rest) ac w := by
  obtain ⟨v', w', hr, h1, h2⟩ := run_append_rows hown hx hab hbw hhi hlo g c hc hlen o.type
  refine wpList_plain hgd fun K hK' => ?_
  unfold Oper.wp execOp
  simp only [ho, resolve, invoke, builtin, Sem.run_bind, Sem.run_pure, Result.andThen_ok, List.map_toArray, List.map_cons, List.map_nil, hs, hy, hr]
  exact hK' _ _ (hK v' w' h1 h2)
end Go.Proofs.Ytbcaknmpbkapnaa
/- Rows of cells: structs, and slices of structs, as kinds. No program is named here. -/

namespace Go.Proofs.Ytbcaknmpbkapnaa
open Go.RowKit
set_option linter.unusedSimpArgs false
set_option linter.unusedVariables false

/-- a kind of rows of cells (a struct's cells, one behind the other) -/
structure RowK (δ : Type) where
  width : Nat
  rd : World → List Value → δ → Prop
  own : World → Nat → Nat → List Value → δ → Prop
  rd_len : ∀ {w : World} {vs : List Value} {d : δ}, rd w vs d → vs.length = width
  rd_one : ∀ {w : World} {vs : List Value} {d : δ}, rd w vs d → ∀ v ∈ vs, v.oneCell' = true
  rd_below : ∀ {w w' : World} {vs : List Value} {d : δ}, rd w vs d → Below w.heap.size w w' → rd w' vs d
  own_rd : ∀ {w : World} {lo hi : Nat} {vs : List Value} {d : δ}, own w lo hi vs d → rd w vs d
  own_frame : ∀ {w w' : World} {lo hi : Nat} {vs : List Value} {d : δ}, own w lo hi vs d → (∀ k, lo ≤ k → k < hi → k < w.heap.size → w'.heap[k]? = w.heap[k]?) → own w' lo hi vs d
  own_mono : ∀ {w : World} {lo hi lo' hi' : Nat} {vs : List Value} {d : δ}, own w lo hi vs d → lo' ≤ lo → hi ≤ hi' → own w lo' hi' vs d
section
variable {δ ε : Type} {w w' : World} {lo hi lo' hi' : Nat} {vs : List Value} {d : δ}
theorem RowK.next {R : RowK δ} (h : R.own w lo hi vs d) (hb : Below w.heap.size w w') : R.own w' lo hi vs d := R.own_frame h fun k _ _ hk => hb.block k hk
theorem RowK.kept {R : RowK δ} (h : R.own w lo hi vs d) (hw : Within lo' hi' w w') (hd : hi ≤ lo' ∨ hi' ≤ lo) : R.own w' lo hi vs d := R.own_frame h fun k h1 h2 hk => hw.block k hk (by omega)
/-- no cell -/
def rNil : RowK Unit where
  width := 0
  rd _ vs _ := vs = []
  own _ _ _ vs _ := vs = []
  rd_len h := by rw [h]; rfl
  rd_one h := by rw [h]; simp
  rd_below h _ := h
  own_rd h := h
  own_frame h _ := h
  own_mono h _ _ := h
/-- an integer in front -/
def rI (R : RowK δ) : RowK (Int × δ) where
  width := R.width + 1
  rd w vs d := ∃ us, vs = .int .i64 d.1 :: us ∧ I64 d.1 ∧ R.rd w us d.2
  own w lo hi vs d := ∃ us, vs = .int .i64 d.1 :: us ∧ I64 d.1 ∧ R.own w lo hi us d.2
  rd_len := by rintro w vs d ⟨us, rfl, _, h⟩; rw [List.length_cons, R.rd_len h]
  rd_one := by
    rintro w vs d ⟨us, rfl, _, h⟩ v hv
    rcases List.mem_cons.1 hv with rfl | hv
    · rfl
    · exact R.rd_one h v hv
  rd_below := by rintro w w' vs d ⟨us, e, h1, h⟩ hb; exact ⟨us, e, h1, R.rd_below h hb⟩
  own_rd := by rintro w lo hi vs d ⟨us, e, h1, h⟩; exact ⟨us, e, h1, R.own_rd h⟩
  own_frame := by rintro w w' lo hi vs d ⟨us, e, h1, h⟩ hf; exact ⟨us, e, h1, R.own_frame h hf⟩
  own_mono := by rintro w lo hi lo' hi' vs d ⟨us, e, h1, h⟩ q1 q2; exact ⟨us, e, h1, R.own_mono h q1 q2⟩
/-- a kind whose values are slices -/
structure SlK (ε : Type) extends Kind ε where
  sl : ∀ {w : World} {v : Value} {d : ε}, rd w v d → ∃ a n c, v = .slice a n c
/-- a slice in front -/
def rS (K : SlK ε) (R : RowK δ) : RowK (ε × δ) where
  width := R.width + 1
  rd w vs d := ∃ v us, vs = v :: us ∧ K.rd w v d.1 ∧ R.rd w us d.2
  own w lo hi vs d := ∃ v us l1 h1 l2 h2, vs = v :: us ∧ K.own w l1 h1 v d.1 ∧ R.own w l2 h2 us d.2 ∧ (lo ≤ l1 ∧ h1 ≤ hi) ∧ (lo ≤ l2 ∧ h2 ≤ hi) ∧ (h1 ≤ l2 ∨ h2 ≤ l1)
  rd_len := by rintro w vs d ⟨v, us, rfl, _, h⟩; rw [List.length_cons, R.rd_len h]
  rd_one := by
    rintro w vs d ⟨v, us, rfl, hk, h⟩ x hx
    rcases List.mem_cons.1 hx with rfl | hx
    · obtain ⟨a, n, c, rfl⟩ := K.sl hk; rfl
    · exact R.rd_one h x hx
  rd_below := by rintro w w' vs d ⟨v, us, e, h1, h⟩ hb; exact ⟨v, us, e, K.rd_below h1 hb, R.rd_below h hb⟩
  own_rd := by rintro w lo hi vs d ⟨v, us, l1, h1, l2, h2, e, k1, k2, _⟩; exact ⟨v, us, e, K.own_rd k1, R.own_rd k2⟩
  own_frame := by
    rintro w w' lo hi vs d ⟨v, us, l1, h1, l2, h2, e, k1, k2, q1, q2, q3⟩ hf
    exact ⟨v, us, l1, h1, l2, h2, e, K.own_frame k1 (fun k p1 p2 p3 => hf k (by omega) (by omega) p3), R.own_frame k2 (fun k p1 p2 p3 => hf k (by omega) (by omega) p3), q1, q2, q3⟩
  own_mono := by
    rintro w lo hi lo' hi' vs d ⟨v, us, l1, h1, l2, h2, e, k1, k2, q1, q2, q3⟩ p1 p2
    exact ⟨v, us, l1, h1, l2, h2, e, k1, k2, by omega, by omega, q3⟩
/-- one row behind the other -/
def rA (A : RowK ε) (R : RowK δ) : RowK (ε × δ) where
  width := A.width + R.width
  rd w vs d := ∃ xs us, vs = xs ++ us ∧ A.rd w xs d.1 ∧ R.rd w us d.2
  own w lo hi vs d := ∃ xs us l1 h1 l2 h2, vs = xs ++ us ∧ A.own w l1 h1 xs d.1 ∧ R.own w l2 h2 us d.2 ∧ (lo ≤ l1 ∧ h1 ≤ hi) ∧ (lo ≤ l2 ∧ h2 ≤ hi) ∧ (h1 ≤ l2 ∨ h2 ≤ l1)
  rd_len := by rintro w vs d ⟨xs, us, rfl, h1, h⟩; rw [List.length_append, A.rd_len h1, R.rd_len h]
  rd_one := by
    rintro w vs d ⟨xs, us, rfl, hk, h⟩ x hx
    rcases List.mem_append.1 hx with hx | hx
    · exact A.rd_one hk x hx
    · exact R.rd_one h x hx
  rd_below := by rintro w w' vs d ⟨v, us, e, h1, h⟩ hb; exact ⟨v, us, e, A.rd_below h1 hb, R.rd_below h hb⟩
  own_rd := by rintro w lo hi vs d ⟨v, us, l1, h1, l2, h2, e, k1, k2, _⟩; exact ⟨v, us, e, A.own_rd k1, R.own_rd k2⟩
  own_frame := by
    rintro w w' lo hi vs d ⟨v, us, l1, h1, l2, h2, e, k1, k2, q1, q2, q3⟩ hf
    exact ⟨v, us, l1, h1, l2, h2, e, A.own_frame k1 (fun k p1 p2 p3 => hf k (by omega) (by omega) p3), R.own_frame k2 (fun k p1 p2 p3 => hf k (by omega) (by omega) p3), q1, q2, q3⟩
  own_mono := by
    rintro w lo hi lo' hi' vs d ⟨v, us, l1, h1, l2, h2, e, k1, k2, q1, q2, q3⟩ p1 p2
    exact ⟨v, us, l1, h1, l2, h2, e, k1, k2, by omega, by omega, q3⟩
/-- the same rows, their data under another type -/
def rMap (R : RowK δ) (f : ε → δ) : RowK ε where
  width := R.width
  rd w vs d := R.rd w vs (f d)
  own w lo hi vs d := R.own w lo hi vs (f d)
  rd_len := R.rd_len
  rd_one := R.rd_one
  rd_below := R.rd_below
  own_rd := R.own_rd
  own_frame := R.own_frame
  own_mono := R.own_mono
/-- a struct's value -/
def kS (R : RowK δ) : Kind δ where
  rd w v d := ∃ vs, v = .agg vs.toArray ∧ R.rd w vs d
  own w lo hi v d := ∃ vs, v = .agg vs.toArray ∧ R.own w lo hi vs d
  rd_below := by rintro w w' v d ⟨vs, e, h⟩ hb; exact ⟨vs, e, R.rd_below h hb⟩
  own_rd := by rintro w lo hi v d ⟨vs, e, h⟩; exact ⟨vs, e, R.own_rd h⟩
  own_frame := by rintro w w' lo hi v d ⟨vs, e, h⟩ hf; exact ⟨vs, e, R.own_frame h hf⟩
  own_mono := by rintro w lo hi lo' hi' v d ⟨vs, e, h⟩ q1 q2; exact ⟨vs, e, R.own_mono h q1 q2⟩
end
/-! ### rows laid one behind the other -/
theorem flat_get {s : Nat} : ∀ {css : List (List Value)}, (∀ c ∈ css, c.length = s) → ∀ {i k : Nat}, k < s → css.flatten[i * s + k]? = (css[i]?).bind (fun c => c[k]?) := by
  intro css
  induction css with
  | nil => intro _ i k _; simp
  | cons c css ih =>
    intro h i k hk
    have hc := h c (by simp)
    cases i with
    | zero => simp [List.getElem?_append, hc, hk]
    | succ i =>
      have e : (i + 1) * s + k = c.length + (i * s + k) := by rw [hc, Nat.succ_mul]; omega
      rw [List.flatten_cons, e, List.getElem?_append_right (Nat.le_add_right _ _), Nat.add_sub_cancel_left, ih (fun x hx => h x (by simp [hx])) hk]
      simp
theorem flat_set {s : Nat} {x : Value} : ∀ {css : List (List Value)}, (∀ c ∈ css, c.length = s) → ∀ {i k : Nat} (hi : i < css.length), k < s → css.flatten.set (i * s + k) x = (css.set i (css[i].set k x)).flatten := by
  intro css
  induction css with
  | nil => intro _ i k hi; simp at hi
  | cons c css ih =>
    intro h i k hi hk
    have hc := h c (by simp)
    cases i with
    | zero => simp [List.set_append, hc, hk]
    | succ i =>
      have e : (i + 1) * s + k = c.length + (i * s + k) := by rw [hc, Nat.succ_mul]; omega
      rw [List.flatten_cons, e, List.set_append, if_neg (by omega), Nat.add_sub_cancel_left, ih (fun x hx => h x (by simp [hx])) (by simpa using hi) hk]
      simp
theorem flat_len {s : Nat} : ∀ {css : List (List Value)}, (∀ c ∈ css, c.length = s) → css.flatten.length = css.length * s := by
  intro css
  induction css with
  | nil => intro _; simp
  | cons c css ih =>
    intro h
    rw [List.flatten_cons, List.length_append, ih (fun x hx => h x (by simp [hx])), h c (by simp), List.length_cons, Nat.succ_mul]; omega
/-! ### slices of structs -/
section
variable {δ : Type}
def RdR (R : RowK δ) (w : World) (v : Value) (ds : List δ) : Prop :=
  ∃ a n c, v = .slice a n c ∧ ds.length = n ∧ n ≤ c ∧ c ≤ maxLen ∧ ((a = none ∧ n = 0 ∧ c = 0) ∨ (∃ ad, a = some ad ∧ n = 0) ∨
    ∃ b o, a = some ⟨b, o, none⟩ ∧ ∀ i (hi : i < ds.length), ∃ vs, (∀ k, k < R.width → w.cell? ⟨b, o + (i * R.width + k), none⟩ = vs[k]?) ∧ R.rd w vs ds[i])
def OwnR (e : TypeId) (R : RowK δ) (w : World) (lo hi : Nat) (v : Value) (ds : List δ) : Prop :=
  ∃ (css : List (List Value)) (los his : Nat → Nat), css.length = ds.length ∧ w.ownsRow lo e R.width v ds.length css.flatten ∧ (∀ g, v.ownBlock = some g → g < hi ∧ ∀ i, i < ds.length → g < los i ∨ his i ≤ g) ∧
    (∀ i (h1 : i < css.length) (h2 : i < ds.length), R.own w (los i) (his i) css[i] ds[i] ∧ lo ≤ los i ∧ his i ≤ hi) ∧
    ∀ i j, i < ds.length → j < ds.length → i ≠ j → his i ≤ los j ∨ his j ≤ los i
theorem RdR.shape {R : RowK δ} {w : World} {v : Value} {ds : List δ} (h : RdR R w v ds) : ∃ a n c, v = .slice a n c := by
  obtain ⟨a, n, c, e, _⟩ := h; exact ⟨a, n, c, e⟩
theorem RdR.len {R : RowK δ} {w : World} {a : Option Addr} {n c : Nat} {ds : List δ} (h : RdR R w (.slice a n c) ds) : ds.length = n := by
  obtain ⟨_, _, _, e, h1, _⟩ := h; cases e; exact h1
theorem RdR.capMax {R : RowK δ} {w : World} {a : Option Addr} {n c : Nat} {ds : List δ} (h : RdR R w (.slice a n c) ds) : n ≤ c ∧ c ≤ maxLen := by
  obtain ⟨_, _, _, e, h1, h2, h3, _⟩ := h; cases e; exact ⟨h2, h3⟩
theorem RdR.nil (R : RowK δ) (w : World) : RdR R w (.slice none 0 0) [] := ⟨none, 0, 0, rfl, rfl, Nat.le_refl _, Nat.zero_le _, .inl ⟨rfl, rfl, rfl⟩⟩
theorem RdR.at_ {R : RowK δ} {w : World} {a : Option Addr} {n c : Nat} {ds : List δ} (h : RdR R w (.slice a n c) ds) (hn : 0 < n) :
    ∃ b o, a = some ⟨b, o, none⟩ ∧ ∀ i (hi : i < ds.length), ∃ vs, (∀ k, k < R.width → w.cell? ⟨b, o + (i * R.width + k), none⟩ = vs[k]?) ∧ R.rd w vs ds[i] := by
  obtain ⟨_, _, _, e, h1, h2, h3, h4⟩ := h
  cases e
  rcases h4 with ⟨_, h4, _⟩ | ⟨_, _, h4⟩ | h4
  · omega
  · omega
  · exact h4
theorem RdR.below {R : RowK δ} {w w' : World} {v : Value} {ds : List δ} (h : RdR R w v ds) (hb : Below w.heap.size w w') : RdR R w' v ds := by
  obtain ⟨a, n, c, e, h1, h2, h3, h4⟩ := h
  refine ⟨a, n, c, e, h1, h2, h3, ?_⟩
  rcases h4 with h4 | h4 | ⟨b, o, h4, hc⟩
  · exact .inl h4
  · exact .inr (.inl h4)
  · refine .inr (.inr ⟨b, o, h4, fun i hi => ?_⟩)
    obtain ⟨vs, h5, h6⟩ := hc i hi
    refine ⟨vs, fun k hk => ?_, R.rd_below h6 hb⟩
    have h7 := h5 k hk
    rw [List.getElem?_eq_getElem (by rw [R.rd_len h6]; exact hk)] at h7 ⊢
    exact box_at h7 hb
theorem OwnR.lens {e : TypeId} {R : RowK δ} {w : World} {css : List (List Value)} {ds : List δ} {los his : Nat → Nat} {lo hi : Nat} (hl : css.length = ds.length)
    (hel : ∀ i (h1 : i < css.length) (h2 : i < ds.length), R.own w (los i) (his i) css[i] ds[i] ∧ lo ≤ los i ∧ his i ≤ hi) : ∀ c ∈ css, c.length = R.width := by
  intro c hc
  obtain ⟨i, hi, rfl⟩ := List.getElem_of_mem hc
  exact R.rd_len (R.own_rd (hel i hi (by omega)).1)
theorem OwnR.rd {e : TypeId} {R : RowK δ} {w : World} {lo hi : Nat} {v : Value} {ds : List δ} (h : OwnR e R w lo hi v ds) : RdR R w v ds := by
  obtain ⟨css, los, his, hl, hO, hg, hel, hd⟩ := h
  have hlen := OwnR.lens (e := e) hl hel
  have hO' := hO
  obtain ⟨hl1, ⟨rfl, h0⟩ | ⟨g, c, cur, rfl, hb, hgc, hnc, hcm, hcs, htake⟩⟩ := hO
  · have : ds = [] := List.eq_nil_of_length_eq_zero h0
    subst this; exact RdR.nil R w
  · refine ⟨some ⟨g, 0, none⟩, ds.length, c, rfl, rfl, hnc, hcm, .inr (.inr ⟨g, 0, rfl, fun i hi => ?_⟩)⟩
    refine ⟨css[i]'(by omega), fun k hk => ?_, R.own_rd (hel i (by omega) hi).1⟩
    have h1 := World.ownsRow.cellAt hO' (i * R.width + k) (by
      have : (i + 1) * R.width ≤ ds.length * R.width := Nat.mul_le_mul_right _ hi
      rw [Nat.succ_mul] at this; omega)
    rw [Nat.zero_add, h1, flat_get hlen hk, List.getElem?_eq_getElem (by omega)]
    rfl
/-- slices of structs as a kind -/
def kR (e : TypeId) (R : RowK δ) : SlK (List δ) where
  rd := RdR R
  own := OwnR e R
  rd_below h hb := h.below hb
  own_rd := OwnR.rd
  own_frame := by
    intro w w' lo hi v d h hf
    obtain ⟨css, los, his, hl, hO, hg, hel, hd⟩ := h
    refine ⟨css, los, his, hl, ownsRow_frame hO fun g hgv => hf g (hO.lt g hgv).1 (hg g hgv).1 (hO.lt g hgv).2, hg, fun i h1 h2 => ?_, hd⟩
    obtain ⟨h3, h4, h5⟩ := hel i h1 h2
    exact ⟨R.own_frame h3 fun k k1 k2 k3 => hf k (by omega) (by omega) k3, h4, h5⟩
  own_mono := by
    intro w lo hi lo' hi' v d h h1 h2
    obtain ⟨css, los, his, hl, hO, hg, hel, hd⟩ := h
    exact ⟨css, los, his, hl, ownsRow_mono hO h1, fun g hgv => ⟨by have := (hg g hgv).1; omega, (hg g hgv).2⟩, fun i k1 k2 => ⟨(hel i k1 k2).1, by have := (hel i k1 k2).2; omega, by have := (hel i k1 k2).2; omega⟩, hd⟩
  sl h := h.shape
end
/-! ### a struct that lies in a block of its own -/
def BoxN (w : World) (b : Nat) (t : TypeId) (cs : List Value) : Prop := w.heap[b]? = some (.cells cs.toArray t (0, 0))
section
variable {w w' : World} {b : Nat} {t : TypeId} {cs : List Value}
theorem BoxN.cell (h : BoxN w b t cs) {i : Nat} {v : Value} (hv : cs[i]? = some v) : w.cell? ⟨b, i, none⟩ = some v := by rw [cell_of_row w b i _ t (0, 0) h]; simpa using hv
theorem BoxN.frozen (h : BoxN w b t cs) (j : Nat) : w.frozen? ⟨b, j, none⟩ = false := frozen_of_row w b j _ t h
theorem BoxN.lt (h : BoxN w b t cs) : b < w.heap.size := (Array.getElem?_eq_some_iff.1 h).1
theorem BoxN.below (h : BoxN w b t cs) (hb : Below w.heap.size w w') : BoxN w' b t cs := (hb.block b h.lt).trans h
theorem BoxN.kept {lo hi : Nat} (h : BoxN w b t cs) (hb : Within lo hi w w') (hd : b < lo ∨ hi ≤ b) : BoxN w' b t cs := (hb.block b h.lt hd).trans h
theorem BoxN.set (h : BoxN w b t cs) (i : Nat) (u : Value) : BoxN (w.setCell ⟨b, i, none⟩ u) b t (cs.set i u) := by
  have := heap_setCell_same w b i _ t u h
  simpa [BoxN] using this
theorem BoxN.other (h : BoxN w b t cs) {b' : Nat} (hne : b' ≠ b) (i : Nat) (u : Value) : BoxN (w.setCell ⟨b', i, none⟩ u) b t cs :=
  (heap_setCell_other w ⟨b', i, none⟩ b u (fun e => hne (by simpa using e.symm))).trans h
theorem BoxN.new (w : World) (cs : List Value) (t : TypeId) : BoxN (w.alloc (.cells cs.toArray t)) w.heap.size t cs := heap_alloc_new _ _
theorem BoxN.alloc (h : BoxN w b t cs) (o : Obj) : BoxN (w.alloc o) b t cs := (heap_alloc_old _ _ h.lt).trans h
end
theorem Within.allocR {lo hi : Nat} {w w' : World} (h : Within lo hi w w') (o : Obj) : Within lo hi w (w'.alloc o) :=
  h.trans (Within.of_below ((Below.refl _ _).alloc (Nat.le_refl _) o))
theorem Within.refl (lo hi : Nat) (w : World) : Within lo hi w w := Within.of_below (Below.refl _ _)
theorem Within.setCell {lo hi : Nat} {w w' : World} (h : Within lo hi w w') {b : Nat} (h1 : lo ≤ b) (h2 : b < hi) (j : Nat) (u : Value) : Within lo hi w (w'.setCell ⟨b, j, none⟩ u) :=
  h.trans ⟨rfl, rfl, rfl, by simp, fun k hk hr => heap_setCell_other w' ⟨b, j, none⟩ k u (fun e => by simp at e; omega)⟩
theorem size_setC {w : World} {p : Addr} {u : Value} : (w.setCell p u).heap.size = w.heap.size := by simp [World.setCell]
def sInts : SlK (List Int) := { kInts with sl := fun h => Ints.shape h }
theorem laws_eqI (v1 v2 : Value) (d1 d2 : List Int) (w : World) (h1 : sInts.rd w v1 d1) (h2 : sInts.rd w v2 d2) :
    Calls Try.prog 9 #[v1, v2] w fun e w' => e = .returned (.bool (decide (d1 = d2))) ∧ Below w.heap.size w w' :=
  (laws_eqIntS v1 v2 d1 d2 w h1 h2).mono fun e w' ⟨h3, m, h4⟩ => ⟨h3, Below.drewOf h4⟩
theorem laws_toI (v : Value) (d : List Int) (w : World) (h : sInts.rd w v d) (hl : (d.length : Int) ≤ 1000000000) :
    Calls Try.prog 6 #[v] w fun e w' => ∃ v', e = .returned v' ∧ sInts.own w' w.heap.size w'.heap.size v' d ∧ Below w.heap.size w w' :=
  (laws_toIntS v d w h (by omega)).mono fun e w' ⟨v', h1, h2, h3⟩ => ⟨v', h1, InI.of_own h2, h3⟩
def mkI (k0 : Nat) (d : List Int) : List Int := marks k0 d.length
theorem laws_markI (lo hi : Nat) (v : Value) (k0 : Nat) (d : List Int) (w : World) (h : sInts.own w lo hi v d) (hk : k0 + d.length ≤ 9223372036854775806) (hhi : hi ≤ w.heap.size) :
    Calls Try.prog 10 #[v, .int .i64 k0] w fun e w' => e = .returned (.int .i64 (k0 + d.length : Nat)) ∧ sInts.own w' lo hi v (mkI k0 d) ∧ Within lo hi w w' :=
  laws_markIntS_own lo hi v k0 d w h hk
theorem laws_heldI (v : Value) (k0 : Nat) (d : List Int) (w : World) (h : sInts.rd w v (mkI k0 d)) (hk : k0 + d.length ≤ 9223372036854775806) :
    Calls Try.prog 54 #[v, .int .i64 k0] w fun e w' => e = .returned (.int .i64 (k0 + d.length : Nat)) ∧ Below w.heap.size w w' :=
  (laws_heldIntS_yes v k0 (mkI k0 d) w h (by unfold mkI; simp only [marks_length]; omega) (fun j hj => nth_marks (by unfold mkI at hj; simpa only [marks_length] using hj))).mono fun e w' ⟨h1, m, h2⟩ => ⟨by rw [h1]; unfold mkI; rw [marks_length], Below.drewOf h2⟩
end Go.Proofs.Ytbcaknmpbkapnaa
/- Rows of structs: made, stored into, grown. No program is named here. -/

namespace Go.Proofs.Ytbcaknmpbkapnaa
open Go.RowKit
set_option linter.unusedSimpArgs false
set_option linter.unusedVariables false

theorem flat_made (z : List Value) (n : Nat) (hz : 0 < z.length) : (madeCells z.toArray (n * z.length)).toList = (List.replicate n z).flatten := by
  have hl : ((List.replicate n z).flatten).length = n * z.length := by
    rw [flat_len (s := z.length) (fun c hc => by rw [List.eq_of_mem_replicate hc])]; simp
  apply List.ext_getElem
  · rw [hl]; simp [madeCells]
  · intro j h1 h2
    have hj : j < n * z.length := by rw [← hl]; exact h2
    have e : j = (j / z.length) * z.length + j % z.length := by rw [Nat.mul_comm]; exact (Nat.div_add_mod j z.length).symm
    have hm := Nat.mod_lt j hz
    have h3 := flat_get (s := z.length) (css := List.replicate n z) (fun c hc => by rw [List.eq_of_mem_replicate hc]) (i := j / z.length) (k := j % z.length) hm
    rw [← e, List.getElem?_eq_getElem h2] at h3
    have hd : j / z.length < n := Nat.div_lt_of_lt_mul (by rw [Nat.mul_comm]; exact hj)
    rw [List.getElem?_eq_getElem (by simpa using hd)] at h3
    simp only [List.getElem_replicate, Option.bind_some, List.getElem?_eq_getElem hm, Option.some.injEq] at h3
    rw [h3]
    simp [madeCells, hm]
theorem flat_sets {W : Nat} {css : List (List Value)} (hu : ∀ c ∈ css, c.length = W) {k : Nat} (hk : k < css.length) (cs : List Value) (hl : cs.length = W) :
    ∀ m, m ≤ W → (List.range m).foldl (fun xs j => xs.set (k * W + j) (cs.getD j undef)) css.flatten = (css.set k (cs.take m ++ css[k].drop m)).flatten := by
  have hck : css[k].length = W := hu _ (List.getElem_mem hk)
  intro m
  induction m with
  | zero => intro _; simp
  | succ m ih =>
    intro hm
    rw [List.range_succ, List.foldl_append, ih (by omega)]
    simp only [List.foldl_cons, List.foldl_nil]
    have hu2 : ∀ c ∈ css.set k (cs.take m ++ css[k].drop m), c.length = W := fun c hc => by
      rcases List.mem_or_eq_of_mem_set hc with h | rfl
      · exact hu _ h
      · simp only [List.length_append, List.length_take, List.length_drop]; omega
    rw [flat_set hu2 (by simpa using hk) (by omega)]
    congr 1
    rw [List.set_set]
    congr 1
    simp only [List.getElem_set_self]
    rw [List.set_append, if_neg (by simp; omega)]
    have e : m - (cs.take m).length = 0 := by simp; omega
    rw [e, ← List.getElem_cons_drop (show m < css[k].length by omega), List.set_cons_zero, List.take_succ_eq_append_getElem (show m < cs.length by omega), List.append_assoc]
    simp [List.getD, show m < cs.length by omega]
theorem flat_sets_all {W : Nat} {css : List (List Value)} (hu : ∀ c ∈ css, c.length = W) {k : Nat} (hk : k < css.length) (cs : List Value) (hl : cs.length = W) :
    (List.range W).foldl (fun xs j => xs.set (k * W + j) (cs.getD j undef)) css.flatten = (css.set k cs).flatten := by
  have hck : css[k].length = W := hu _ (List.getElem_mem hk)
  rw [flat_sets hu hk cs hl W (Nat.le_refl _), List.take_of_length_le (by omega), List.drop_of_length_le (by omega), List.append_nil]
section
variable {δ : Type}
theorem OwnR.nil (e : TypeId) (R : RowK δ) (w : World) (lo hi : Nat) : OwnR e R w lo hi (.slice none 0 0) [] :=
  ⟨[], fun _ => 0, fun _ => 0, rfl, by simpa using World.ownsRow_nil w lo e R.width, (fun g h => by cases h), (fun i h1 _ => by simp at h1), (fun i j h _ _ => by simp at h)⟩
theorem OwnR.lit0 (e : TypeId) (R : RowK δ) (w : World) (B : Nat) (hB : B ≤ w.heap.size) : OwnR e R (w.alloc (.cells #[] e)) B (w.alloc (.cells #[] e)).heap.size (.slice (some ⟨w.heap.size, 0, none⟩) 0 0) [] := by
  have := World.ownsRow_lit (e := e) (size := R.width) w #[] 0 hB (Nat.zero_le _) (by simp)
  exact ⟨[], fun _ => 0, fun _ => 0, rfl, this, (fun g h => by cases h; exact ⟨by simp, fun i hi => by simp at hi⟩), (fun i h1 _ => by simp at h1), (fun i j h _ _ => by simp at h)⟩
end
/-- a cell of the row number k -/
theorem row_cell {w : World} {lo g n c W k j : Nat} {e : TypeId} {css : List (List Value)} {row : List Value} (hO : w.ownsRow lo e W (.slice (some ⟨g, 0, none⟩) n c) n (css.set k row).flatten) (hu : ∀ c ∈ css, c.length = W) (hl : css.length = n) (hk : k < n) (hr : row.length = W) (hj : j < W) :
    w.cell? ⟨g, k * W + j, none⟩ = row[j]? := by
  have hu2 : ∀ c ∈ css.set k row, c.length = W := fun c hc => by
    rcases List.mem_or_eq_of_mem_set hc with h | rfl
    · exact hu _ h
    · exact hr
  have hb : k * W + W ≤ n * W := by have := Nat.mul_le_mul_right W (show k + 1 ≤ n from hk); rw [Nat.succ_mul] at this; exact this
  rw [World.ownsRow.cellAt hO (k * W + j) (by omega), flat_get hu2 hj, List.getElem?_set_self (by omega)]
  rfl
/-- a store into it -/
theorem row_store {w : World} {lo g n c W k j : Nat} {e : TypeId} {css : List (List Value)} {row : List Value} (hO : w.ownsRow lo e W (.slice (some ⟨g, 0, none⟩) n c) n (css.set k row).flatten) (hu : ∀ c ∈ css, c.length = W) (hl : css.length = n) (hk : k < n) (hr : row.length = W) (hj : j < W) (x : Value) :
    (w.setCell ⟨g, k * W + j, none⟩ x).ownsRow lo e W (.slice (some ⟨g, 0, none⟩) n c) n (css.set k (row.set j x)).flatten := by
  have hu2 : ∀ c ∈ css.set k row, c.length = W := fun c hc => by
    rcases List.mem_or_eq_of_mem_set hc with h | rfl
    · exact hu _ h
    · exact hr
  have h1 := (World.ownsRow.stored hO (k * W + j) x).1
  rw [flat_set hu2 (by simp; omega) hj, List.getElem_set_self, List.set_set] at h1
  exact h1
end Go.Proofs.Ytbcaknmpbkapnaa
/- append of one struct to a row of the call's own. -/

namespace Go.Proofs.Ytbcaknmpbkapnaa
open Go.RowKit
set_option linter.unusedSimpArgs false
set_option linter.unusedVariables false

theorem run_append_R {P : Program} {δ : Type} (R : RowK δ) (ts te : TypeId) (i : TypeInfo) (z : Value) (ht : P.underlying ts = some (.slice te)) (hi' : P.info? te = some i) (hz : i.zero = some z) (hsz : i.size = R.width) (hby : i.bytes ≤ 1000) (hzs : z.cells.size = R.width) (hpos : 0 < R.width)
    {w : World} {lo hi a b : Nat} {v : Value} {ds : List δ} {row : List Value} {d : δ} (hown : OwnR te R w lo hi v ds) (hx : R.own w a b row d) (hab : hi ≤ a) (hbw : b ≤ w.heap.size) (hhi : hi ≤ w.heap.size) (hlo : lo ≤ hi)
    (g c : Nat) (hc : ∀ k, k < R.width → w.cell? ⟨g, k, none⟩ = row[k]?) (hlen : ds.length ≤ 1000000000) (ty : TypeId) :
    ∃ v' w', (Builtin.append_ #[ts, ts] ty #[v, .slice (some ⟨g, 0, none⟩) 1 c]).run P w = .ok v' w' ∧ OwnR te R w' lo w'.heap.size v' (ds ++ [d]) ∧ Below lo w w' := by
  obtain ⟨css, los, his, hvl, hO, hgl, hel, hd⟩ := hown
  have hlens := OwnR.lens (e := te) hvl hel
  have hrl := R.rd_len (R.own_rd hx)
  have hone := R.rd_one (R.own_rd hx)
  have hnews : ∀ j u, row[j]? = some u → w.cell? ((⟨g, 0, none⟩ : Addr).add j) = some u := fun j u hu => by
    have hj : j < R.width := by rw [← hrl]; exact (List.getElem?_eq_some_iff.1 hu).1
    rw [Addr.add_lit, Nat.zero_add, hc j hj]; exact hu
  have hb1 : (ds.length + 1) * i.bytes ≤ 140737488355328 := by
    have : (ds.length + 1) * i.bytes ≤ 1000000001 * 1000 := Nat.mul_le_mul (by omega) hby
    omega
  obtain ⟨v', w', hr, h1, h2, _⟩ := run_append_own (P := P) w lo ts ty te i z R.width i.bytes ht hi' hz hsz rfl hzs hpos v ds.length css.flatten hO ⟨g, 0, none⟩ 1 c row (by rw [hrl, Nat.one_mul]) hnews hone (by unfold maxLen; omega) hb1 (by omega)
  have hbl := append_block (P := P) lo ts ty te i z ht hi' hz (by rw [hsz]; exact hzs) (by omega) v ds.length css.flatten (by rw [hsz]; exact hO) ⟨g, 0, none⟩ 1 c row (by rw [hsz, hrl, Nat.one_mul]) hnews hone (by unfold maxLen; omega) hb1 hr
  have hsz2 := h2.size
  have hfr : ∀ k, k < w.heap.size → (∀ q, v.ownBlock = some q → k ≠ q) → w'.heap[k]? = w.heap[k]? := fun k hk hq => h2.block k hk (fun e => hq k e.symm rfl)
  refine ⟨v', w', hr, ⟨css ++ [row], fun i => if i = ds.length then a else los i, fun i => if i = ds.length then b else his i, by simp [hvl], by simpa using h1, fun q hq => ⟨(h1.lt q hq).2, fun j hj => ?_⟩, fun j k1 k2 => ?_, fun j k hj hk hjk => ?_⟩, ?_⟩
  · simp only [List.length_append, List.length_cons, List.length_nil] at hj
    dsimp only
    by_cases hjn : j = ds.length
    · rw [if_pos hjn, if_pos hjn]
      rcases hbl with hbl | ⟨q', hq1, hq2⟩
      · rw [hbl] at hq
        left; have := (hgl q hq).1; omega
      · rw [hq2] at hq; cases hq
        right; omega
    · rw [if_neg hjn, if_neg hjn]
      rcases hbl with hbl | ⟨q', hq1, hq2⟩
      · rw [hbl] at hq
        exact (hgl q hq).2 j (by omega)
      · rw [hq2] at hq; cases hq
        right
        have := (hel j (by omega) (by omega)).2; omega
  · simp only [List.length_append, List.length_cons, List.length_nil] at k1 k2
    dsimp only
    by_cases hjn : j = ds.length
    · rw [if_pos hjn, if_pos hjn]
      have e1 : (css ++ [row])[j] = row := by simp [hjn, ← hvl]
      have e2 : (ds ++ [d])[j] = d := by simp [hjn]
      rw [e1, e2]
      refine ⟨R.own_frame hx fun k q1 q2 q3 => hfr k q3 fun q hq => ?_, by omega, by omega⟩
      have := (hgl q hq).1; omega
    · rw [if_neg hjn, if_neg hjn]
      have hj : j < ds.length := by omega
      obtain ⟨p1, p2, p3⟩ := hel j (by omega) hj
      rw [List.getElem_append_left (by omega), List.getElem_append_left hj]
      refine ⟨R.own_frame p1 fun k q1 q2 q3 => hfr k q3 fun q hq => ?_, p2, by omega⟩
      have := (hgl q hq).2 j hj; omega
  · simp only [List.length_append, List.length_cons, List.length_nil] at hj hk
    dsimp only
    by_cases hjn : j = ds.length
    · rw [if_pos hjn, if_pos hjn, if_neg (by omega), if_neg (by omega)]
      have := (hel k (by omega) (by omega)).2; omega
    · rw [if_neg hjn, if_neg hjn]
      by_cases hkn : k = ds.length
      · rw [if_pos hkn, if_pos hkn]
        have := (hel j (by omega) (by omega)).2; omega
      · rw [if_neg hkn, if_neg hkn]; exact hd j k (by omega) (by omega) hjk
  · exact (Below.refl lo w).grown h2 (by omega) (fun k hk => (hO.lt k hk).1)
theorem wpList_append_R {P : Program} {δ : Type} (R : RowK δ) (ts te : TypeId) (i : TypeInfo) (z : Value) (ht : P.underlying ts = some (.slice te)) (hi' : P.info? te = some i) (hz : i.zero = some z) (hsz : i.size = R.width) (hby : i.bytes ≤ 1000) (hzs : z.cells.size = R.width) (hpos : 0 < R.width)
    {ops : Array Oper} {rest : List Oper} {o : Oper} {ac : Act} {w : World} {Q : Exit → Act → World → Prop} (hgd : o.guard = none) (s y : Operand)
    (ho : o.op = .call { callee := .builtin .append, args := #[s, y], argTypes := #[ts, ts] })
    (lo hi a b : Nat) (v : Value) (ds : List δ) (row : List Value) (d : δ) (g c : Nat) (hs : ac.eval s = v) (hy : ac.eval y = .slice (some ⟨g, 0, none⟩) 1 c) (hown : OwnR te R w lo hi v ds) (hx : R.own w a b row d) (hab : hi ≤ a) (hbw : b ≤ w.heap.size) (hhi : hi ≤ w.heap.size) (hlo : lo ≤ hi)
    (hc : ∀ k, k < R.width → w.cell? ⟨g, k, none⟩ = row[k]?) (hlen : ds.length ≤ 1000000000)
    (hK : ∀ v' w', OwnR te R w' lo w'.heap.size v' (ds ++ [d]) → Below lo w w' → wpList P ops Q rest (ac.put o.dst v') w') : wpList P ops Q (o :: rest) ac w := by
  obtain ⟨v', w', hr, h1, h2⟩ := run_append_R R ts te i z ht hi' hz hsz hby hzs hpos hown hx hab hbw hhi hlo g c hc hlen o.type
  refine wpList_plain hgd fun K hK' => ?_
  unfold Oper.wp execOp
  simp only [ho, resolve, invoke, builtin, Sem.run_bind, Sem.run_pure, Result.andThen_ok, List.map_toArray, List.map_cons, List.map_nil, hs, hy, hr]
  exact hK' _ _ (hK v' w' h1 h2)
theorem new_cells (w : World) (cs : List Value) (t : TypeId) (k : Nat) : (w.alloc (.cells cs.toArray t)).cell? ⟨w.heap.size, k, none⟩ = cs[k]? := by
  rw [cell_of_row _ _ k _ t (0, 0) (BoxN.new w cs t)]; simp
end Go.Proofs.Ytbcaknmpbkapnaa
/- Walks: small functions on slices of integers (Go's slices.Clone, slices.Equal; spec.l1Own, spec.l3Digest). -/



namespace Go.Proofs.Ytbcaknmpbkapnaa
open Go.RowKit
set_option linter.unusedSimpArgs false
set_option linter.unusedVariables false

/-- 'l[k:]', 'l[:k]', 'l[j:k]': the new slice's address under a name of its own, as a fact that the walk takes -/
theorem sl_drop {w : World} {a : Option Addr} {n c : Nat} {l : List Int} (h : Ints w (.slice a n c) l) {x : Int} {k : Nat} (hx : x = k) (hk : k ≤ n) :
    ∃ a', (∀ W, (Instr.slice 22 (.slice a n c) (some (.int .i64 x)) none none).run Try.prog W = .ok (.slice a' (n - k) (c - k)) W) ∧ Ints w (.slice a' (n - k) (c - k)) (l.drop k) := by
  subst hx
  refine ⟨_, fun W => ?_, h.drop hk⟩
  simp [Try.underlying22, go_sem, hk, run_slice_l, run_underlying]
theorem sl_take {w : World} {a : Option Addr} {n c : Nat} {l : List Int} (h : Ints w (.slice a n c) l) {x : Int} {k : Nat} (hx : x = k) (hk : k ≤ n) :
    (∀ W, (Instr.slice 22 (.slice a n c) none (some (.int .i64 x)) none).run Try.prog W = .ok (.slice a k c) W) ∧ Ints w (.slice a k c) (l.take k) := by
  subst hx
  have hc := h.capMax.1
  refine ⟨fun W => ?_, h.take hk⟩
  have h2 : (k : Int) ≤ (c : Int) := by omega
  simp [Try.underlying22, go_sem, h2, run_slice_h, run_underlying]
theorem sl_mid {w : World} {a : Option Addr} {n c : Nat} {l : List Int} (h : Ints w (.slice a n c) l) {x y : Int} {j k : Nat} (hx : x = j) (hy : y = k) (hj : j ≤ k) (hk : k ≤ n) :
    ∃ a', (∀ W, (Instr.slice 22 (.slice a n c) (some (.int .i64 x)) (some (.int .i64 y)) none).run Try.prog W = .ok (.slice a' (k - j) (c - j)) W) ∧ Ints w (.slice a' (k - j) (c - j)) ((l.drop j).take (k - j)) := by
  subst hx; subst hy
  have hc := h.capMax.1
  refine ⟨_, fun W => ?_, (h.drop (k := j) (by omega)).take (by omega)⟩
  have h2 : (k : Int) ≤ (c : Int) := by omega
  simp [Try.underlying22, go_sem, h2, hj, run_slice_lh, run_underlying]
theorem spec_l1Own (v : Value) (l : List Int) (w : World) (h : Ints w v l) (hl : l.length ≤ 1000000000) :
    Calls Try.prog 71 #[v] w fun e w' => ∃ v', e = .returned v' ∧ OwnI w' w.heap.size v' l ∧ Below w.heap.size w w' := by
  have hO : Hid (OwnI (w.alloc (.cells #[] 3)) w.heap.size (.slice (some ⟨w.heap.size, 0, none⟩) 0 0) []) := OwnI.lit w (Nat.le_refl _) AllI64.nil rfl (by simp) 0 rfl
  obtain ⟨a, n, c, rfl⟩ := h.shape
  go_enter Try.func71, Try.ntmps71
  go_wp2_with (at_builtin; refine wpList_append_ints rfl _ _ rfl w.heap.size (.slice (some ⟨w.heap.size, 0, none⟩) 0 0) (.slice a n c) [] l rfl hO.out rfl (h.alloc _) (by simp; omega) (by simp) ?_; intro v' w1 hown1 hgr1)
  go_ret
  exact ⟨_, rfl, hown1, ((Below.refl _ _).alloc (Nat.le_refl _) _).trans (hO.out.grown hgr1 (by simp))⟩
theorem slices_Clone (v : Value) (l : List Int) (w : World) (h : Ints w v l) (hl : l.length ≤ 1000000000) :
    Calls Try.prog 64 #[v] w fun e w' => ∃ v', e = .returned v' ∧ OwnI w' w.heap.size v' l ∧ Below w.heap.size w w' := by
  have hO : Hid (OwnI (w.alloc (.cells #[] 3)) w.heap.size (.slice (some ⟨w.heap.size, 0, none⟩) 0 0) []) := OwnI.lit w (Nat.le_refl _) AllI64.nil rfl (by simp) 0 rfl
  have qT : ∀ (w : World) (a : Option Addr) (n c n' c' : Nat), (binOp .eql 22 (.slice a n c) (.slice none n' c')).run Try.prog w = .ok (.bool a.isNone) w := fun w a n c n' c' => Lib.run_eql_slice_nil w _ _ a n c n' c' Try.underlying22
  obtain ⟨a, n, c, rfl⟩ := h.shape
  have e := h.len
  cases a with
  | none =>
    obtain rfl : n = 0 := by
      by_cases hn : n = 0
      · exact hn
      · obtain ⟨b, o, hc, _⟩ := h.at_ (by omega)
        cases hc
    have : l = [] := List.eq_nil_of_length_eq_zero e
    subst this
    clear e h
    go_enter Try.func64, Try.ntmps64
    go_wp2_with fail
    go_ret
    exact ⟨_, rfl, OwnI.nil _ _, Below.refl _ _⟩
  | some ad =>
    go_enter Try.func64, Try.ntmps64
    go_wp2_with (at_builtin; refine wpList_append_ints rfl _ _ rfl w.heap.size (.slice (some ⟨w.heap.size, 0, none⟩) 0 0) (.slice (some ad) n c) [] l rfl hO.out rfl (h.alloc _) (by simp; omega) (by simp) ?_; intro v' w1 hown1 hgr1)
    go_ret
    exact ⟨_, rfl, hown1, ((Below.refl _ _).alloc (Nat.le_refl _) _).trans (hO.out.grown hgr1 (by simp))⟩
set_option maxHeartbeats 400000 in
theorem slices_Equal (v1 v2 : Value) (l1 l2 : List Int) (w : World) (h1 : Ints w v1 l1) (h2 : Ints w v2 l2) :
    Calls Try.prog 23 #[v1, v2] w fun e w' => e = .returned (.bool (decide (l1 = l2))) ∧ ∃ m, w' = w.drewN m := by
  obtain ⟨a1, n1, c1, rfl⟩ := h1.shape
  obtain ⟨a2, n2, c2, rfl⟩ := h2.shape
  have k1 := h1.capMax
  have k2 := h2.capMax
  unfold maxLen at k1 k2
  obtain ⟨k1, k1'⟩ := k1
  obtain ⟨k2, k2'⟩ := k2
  by_cases hn : n1 = n2
  · subst hn
    go_enter Try.func23, Try.ntmps23
    go_wp2_with fail
    go_loopg [13] n1 (fun g i wr => ∃ k m : Nat, k + g = n1 ∧ i = .int .i64 k ∧ Hid (∀ i, i < k → nth l1 i = nth l2 i) ∧ wr = w.drewN m)
    case atStart => exact ⟨0, 0, by omega, rfl, fun i h => by omega, rfl⟩
    case round =>
      obtain ⟨k, m, hk, rfl, H, rfl⟩ := hrel
      by_cases hlt : k < n1
      · obtain ⟨b1, o1, rfl, hc1⟩ := h1.at_ (by omega)
        obtain ⟨b2, o2, rfl, hc2⟩ := h2.at_ (by omega)
        have hx1 := hc1 k hlt
        have hx2 := hc2 k hlt
        clear hc1 hc2
        have hk1 : (k : Int) < (n1 : Int) := by omega
        have hk0 : (0 : Int) ≤ (k : Int) := by omega
        by_cases hx : nth l1 k = nth l2 k
        · have H' : Hid (∀ i, i < k + 1 → nth l1 i = nth l2 i) := fun i hi => by
            rcases Nat.lt_succ_iff_lt_or_eq.1 hi with h | rfl
            · exact H.out i h
            · exact hx
          have hxb : (nth l1 k != nth l2 k) = false := by simpa using hx
          clear hx H
          go_wp2_with fail
          go_quiet (fail)
          go_wp2_with fail
          go_roundg (n1 - (k + 1))
          case measure => omega
          case rel => exact ⟨k + 1, m + nq, by omega, by go_num, H', (by first | rfl | exact World.drewN_drewN _ _ _)⟩
        · have hxb : (nth l1 k != nth l2 k) = true := by simpa using hx
          have HR : Hid (decide (l1 = l2) = false) := by
            refine decide_eq_false fun e => hx (by rw [e])
          clear hx H
          go_wp2_with fail
          go_quiet (fail)
          go_wp2_with fail
          go_ret
          exact ⟨ret_bool (by first | (rw [HR.out]; done) | (rw [HR.out]; rfl) | exact HR.out.symm), m + nq, (by first | rfl | exact World.drewN_drewN _ _ _)⟩
      · have e1 := h1.len
        have e2 := h2.len
        have HR : Hid (decide (l1 = l2) = true) := decide_eq_true (eq_of_nth (e1.trans e2.symm) fun i hi => H.out i (by omega))
        clear e1 e2 H
        go_wp2_with fail
        go_ret
        exact ⟨ret_bool (by first | (rw [HR.out]; done) | (rw [HR.out]; rfl) | exact HR.out.symm), m, rfl⟩
  · have HR : Hid (decide (l1 = l2) = false) := by
      refine decide_eq_false fun e => hn ?_
      rw [← h1.len, ← h2.len, e]
    have hb : ((n1 : Int) != (n2 : Int)) = true := by rw [bne_iff_ne]; omega
    clear hn
    go_enter Try.func23, Try.ntmps23
    go_wp2_with fail
    go_ret
    exact ⟨ret_bool (by first | (rw [HR.out]; done) | (rw [HR.out]; rfl) | exact HR.out.symm), 0, rfl⟩
end Go.Proofs.Ytbcaknmpbkapnaa
/- Walks: the text of a digest. -/



namespace Go.Proofs.Ytbcaknmpbkapnaa
open Go.RowKit
set_option linter.unusedSimpArgs false
set_option linter.unusedVariables false

def sHex : ByteArray := ⟨#[48, 49, 50, 51, 52, 53, 54, 55, 56, 57, 97, 98, 99, 100, 101, 102]⟩
def hexC (n : Nat) : UInt8 := sHex.data.getD n 0
/-- the last k hexadecimal digits of a number -/
def hexL : Nat → Nat → List UInt8
  | 0, _ => []
  | k + 1, d => hexL k (d / 16) ++ [hexC (d % 16)]
theorem hexL_length (k : Nat) : ∀ d, (hexL k d).length = k := by
  induction k with
  | zero => intro d; rfl
  | succ k ih => intro d; simp [hexL, ih]
/-- the text of a digest -/
def dText (d : Int) : ByteArray := ⟨(hexL 16 d.toNat).toArray⟩
theorem dText_size (d : Int) : (dText d).size = 16 := by
  show (hexL 16 d.toNat).toArray.size = 16
  simp [hexL_length]
theorem info_u8 : (Try.prog.info? 5).map (fun i => (i.zero, i.size, i.bytes)) = some (some (.int .u8 0), 1, 1) := by kernel_rfl
def u8s (l : List UInt8) : List Value := l.map fun b => Value.int .u8 (b.toNat : Int)
theorem u8s_length (l : List UInt8) : (u8s l).length = l.length := by simp [u8s]
theorem u8s_one (l : List UInt8) : ∀ v ∈ u8s l, v.oneCell' = true := fun v hv => by
  simp only [u8s, List.mem_map] at hv
  obtain ⟨b, _, rfl⟩ := hv; rfl
/-- the value is a row of bytes of the call's own, from block B on -/
def OwnU (w : World) (B : Nat) (v : Value) (l : List UInt8) : Prop := w.ownsRow B 5 1 v l.length (u8s l)
theorem OwnU.shape {w : World} {B : Nat} {v : Value} {l : List UInt8} (h : OwnU w B v l) : ∃ a c, v = .slice a l.length c := by
  rcases h.2 with ⟨h, h2⟩ | ⟨g, c, cur, h, _⟩
  · exact ⟨none, 0, by rw [h, h2]⟩
  · exact ⟨_, _, h⟩
theorem OwnU.below {w w' : World} {B : Nat} {v : Value} {l : List UInt8} (h : OwnU w B v l) (hb : Below w.heap.size w w') : OwnU w' B v l :=
  h.kept (row := none) ⟨hb.os, hb.tape, hb.output, hb.size, fun k hk _ => hb.block k hk⟩ (by cases v.ownBlock <;> simp)
theorem OwnU.alloc {w : World} {B : Nat} {v : Value} {l : List UInt8} (h : OwnU w B v l) (o : Obj) : OwnU (w.alloc o) B v l := h.below ((Below.refl _ _).alloc (Nat.le_refl _) o)
theorem OwnU.grown {w w' : World} {B : Nat} {v : Value} {l : List UInt8} (h : OwnU w B v l) (hg : w.grownBy w' v.ownBlock) (hB : B ≤ w.heap.size) : Below B w w' :=
  (Below.refl B w).grown hg hB (fun k hk => (h.lt k hk).1)
theorem OwnU.lit0 (w : World) : OwnU (w.alloc (.cells #[] 5)) w.heap.size (.slice (some ⟨w.heap.size, 0, none⟩) 0 0) [] :=
  World.ownsRow_lit (e := 5) (size := 1) w #[] 0 (Nat.le_refl _) (Nat.zero_le _) (by simp)
theorem OwnU.cells {w : World} {B : Nat} {a : Addr} {n c : Nat} {l : List UInt8} (h : OwnU w B (.slice (some a) n c) l) : ∃ g, a = ⟨g, 0, none⟩ ∧ ∀ j (hj : j < l.length), w.cell? (a.add j) = some (.int .u8 (l[j].toNat : Int)) := by
  have h' := h
  rcases h with ⟨hl, ⟨h1, h2⟩ | ⟨g, c', cur, h1, h2⟩⟩
  · cases h1
  · cases h1
    refine ⟨g, rfl, fun j hj => ?_⟩
    have h3 := World.ownsRow.cellAt h' j (by omega)
    rw [Addr.add_lit, Nat.zero_add, h3]
    simp [u8s, hj]
theorem and15 (x : Int) (h0 : 0 ≤ x) (h1 : x ≤ 4611686018427387903) : bits .and .i64 x 15 = x % 16 := by
  have h := bits_mask .i64 62 (by decide) (fun n h h' => IntWalk.i64_in n ⟨by omega, by
    have e : ((2 : Int) ^ 62) = 4611686018427387904 := by decide
    omega⟩) 4 (by decide) x h0 (by
    have e : ((2 : Int) ^ 62) = 4611686018427387904 := by decide
    omega)
  have e1 : ((2 : Int) ^ 4 - 1) = 15 := by decide
  have e2 : ((2 : Int) ^ 4) = 16 := by decide
  rw [e1, e2] at h
  exact h
theorem hexC_at : ∀ q : Fin 16, (sHex[q.1]'q.2) = hexC q.1 := by decide
theorem hex_index (q : Nat) (hq : q < 16) (W : World) : (Instr.index 9 (.string sHex) (.int .i64 (q : Int))).run Try.prog W = .ok (.int .u8 ((hexC q).toNat : Int)) W := by
  have e : sHex.size = 16 := rfl
  rw [run_index_string W _ _ _ _ Try.underlying9]
  rw [dif_pos ⟨by omega, by rw [e]; omega⟩, ← hexC_at ⟨q, hq⟩]
  first | (simp; done) | (simp; rfl) | rfl
theorem pow16 (j : Nat) : (2 : Nat) ^ (4 * j) = 16 ^ j := by rw [Nat.pow_mul]
theorem hexL_cons (k : Nat) : ∀ n, hexL (k + 1) n = hexC (n / 16 ^ k % 16) :: hexL k n := by
  induction k with
  | zero => intro n; simp [hexL]
  | succ k ih =>
    intro n
    rw [hexL, ih, List.cons_append, Nat.div_div_eq_div_mul, Nat.mul_comm, ← Nat.pow_succ]
    rfl
theorem u8s_set {j : Nat} {b : UInt8} {L : List UInt8} : (u8s (List.replicate (j + 1) 0 ++ L)).set j (.int .u8 (b.toNat : Int)) = u8s (List.replicate j 0 ++ (b :: L)) := by
  have e : List.replicate (j + 1) (0 : UInt8) = List.replicate j 0 ++ [0] := List.replicate_succ'
  rw [e]
  simp [u8s, List.set_append]
theorem made_u8 : (madeCells #[Value.int .u8 0] 16) = (u8s (List.replicate 16 0)).toArray := by
  rw [← Array.toList_inj, toList_madeCells_one]; simp [u8s]
attribute [irreducible] dText
end Go.Proofs.Ytbcaknmpbkapnaa
/- Walks: records. -/


namespace Go.Proofs.Ytbcaknmpbkapnaa
open Go.RowKit
set_option linter.unusedSimpArgs false
set_option linter.unusedVariables false

def recB (l : List Int) : Bool := decide (l.length ≤ 400) && l.all digestB
/-- a list behind its length -/
def cnt (l : List Int) : List Int := (l.length : Int) :: l
theorem cnt_length (l : List Int) : (cnt l).length = l.length + 1 := by simp [cnt]
theorem I64_len {l : List Int} (h : l.length ≤ 1000000000000) : I64 (l.length : Int) := ⟨by omega, by omega⟩
def joinTo (ls : List (List Int)) (k : Nat) : List Int := (ls.length : Int) :: ((ls.take k).map cnt).flatten
def joinL (ls : List (List Int)) : List Int := (ls.length : Int) :: (ls.map cnt).flatten
theorem joinTo_all (ls : List (List Int)) : joinTo ls ls.length = joinL ls := by simp [joinTo, joinL]
theorem joinTo_zero (ls : List (List Int)) : joinTo ls 0 = [(ls.length : Int)] := by simp [joinTo]
theorem joinTo_succ {ls : List (List Int)} {k : Nat} (h : k < ls.length) : joinTo ls (k + 1) = joinTo ls k ++ cnt ls[k] := by
  unfold joinTo
  rw [List.take_succ_eq_append_getElem h, List.map_append, List.flatten_append]
  simp
theorem joinTo_length {ls : List (List Int)} {k : Nat} (h : k ≤ ls.length) : (joinTo ls k).length = 1 + total (ls.take k) + k := by
  induction k with
  | zero => rw [joinTo_zero]; simp [total]
  | succ k ih =>
    rw [joinTo_succ (by omega), List.length_append, ih (by omega), cnt_length, total_take_succ (by omega)]
    omega
theorem joinTo_le {ls : List (List Int)} {k j : Nat} (h : k ≤ j) (hj : j ≤ ls.length) : (joinTo ls k).length ≤ (joinTo ls j).length := by
  obtain ⟨d, rfl⟩ := Nat.exists_eq_add_of_le h
  clear h
  induction d with
  | zero => exact Nat.le_refl _
  | succ d ih =>
    have := ih (by omega)
    rw [show k + (d + 1) = (k + d) + 1 by omega, joinTo_succ (by omega), List.length_append]
    omega
def jrB (ls : List (List Int)) : Bool := recB (joinL ls)
def jrL (ls : List (List Int)) : List Int := if jrB ls = true then joinL ls else []
theorem recB_len {l : List Int} (h : recB l = true) : l.length ≤ 400 := by
  unfold recB at h; rw [Bool.and_eq_true, decide_eq_true_iff] at h; exact h.1
theorem jrL_length (ls : List (List Int)) : (jrL ls).length ≤ 400 := by
  unfold jrL; split
  · rename_i h; exact recB_len h
  · simp
set_option maxHeartbeats 400000 in
theorem impl_counted (v : Value) (l : List Int) (w : World) (h : Ints w v l) (hl : l.length ≤ 100000000000) :
    Calls Try.prog 65 #[v] w fun e w' => ∃ v', e = .returned v' ∧ OwnI w' w.heap.size v' (cnt l) ∧ Below w.heap.size w w' := by
  obtain ⟨a, n, c, rfl⟩ := h.shape
  have e := h.len
  obtain ⟨k1, k2⟩ := h.capMax
  unfold maxLen at k2
  have hO : Hid (OwnI (w.alloc (.cells #[.int .i64 (n : Int)] 3)) w.heap.size (.slice (some ⟨w.heap.size, 0, none⟩) 1 1) [(n : Int)]) := OwnI.lit1 w (Nat.le_refl _) ⟨by omega, by omega⟩
  have HR : Hid (cnt l = [(n : Int)] ++ l) := by unfold Hid cnt; rw [e]; rfl
  have HE := Lib.hid e
  clear e
  go_enter Try.func65, Try.ntmps65
  go_wp2_with (at_builtin; refine wpList_append_ints rfl _ _ rfl w.heap.size (.slice (some ⟨w.heap.size, 0, none⟩) 1 1) (.slice a n c) [(n : Int)] l rfl hO.out rfl (h.alloc _) (by simp only [List.length_cons, List.length_nil]; omega) (by simp) ?_; intro v' w1 hown1 hgr1)
  go_ret
  exact ⟨_, rfl, by rw [HR.out]; exact hown1, ((Below.refl _ _).alloc (Nat.le_refl _) _).trans (hO.out.grown hgr1 (by simp))⟩
set_option maxHeartbeats 400000 in
theorem impl_isRecord (v : Value) (l : List Int) (w : World) (h : Ints w v l) :
    Calls Try.prog 44 #[v] w fun e w' => e = .returned (.bool (recB l)) ∧ Below w.heap.size w w' := by
  obtain ⟨a, n, c, rfl⟩ := h.shape
  have e := h.len
  obtain ⟨k1, k2⟩ := h.capMax
  unfold maxLen at k2
  by_cases hn : n ≤ 400
  · have HR : Hid (recB l = l.all digestB) := by unfold Hid recB; rw [e]; simp [hn]
    clear e
    have H := Lib.hid h; clear h
    have hn' : decide ((n : Int) ≤ 400) = true := by simp; omega
    go_enter Try.func44, Try.ntmps44
    go_wp2_with fail
    refine (impl_areAll _ l 62 #[] digestB _ H.out (decides_isDigest _)).mono ?_; rintro e w1 ⟨rfl, hb⟩
    go_wp2_with fail
    go_ret
    exact ⟨ret_bool (by first | (rw [HR.out]; done) | (rw [HR.out]; rfl) | exact HR.out.symm), hb⟩
  · have HR : Hid (recB l = false) := by unfold Hid recB; rw [e]; simp [hn]
    clear e
    have H := Lib.hid h; clear h
    have hn' : decide ((n : Int) ≤ 400) = false := by simp; omega
    go_enter Try.func44, Try.ntmps44
    go_wp2_with fail
    go_ret
    exact ⟨ret_bool (by first | (rw [HR.out]; done) | (rw [HR.out]; rfl) | exact HR.out.symm), Below.refl _ _⟩
set_option maxHeartbeats 400000 in
theorem spec_l4Record (v : Value) (l : List Int) (w : World) (h : Ints w v l) :
    Calls Try.prog 59 #[v] w fun e w' => e = .returned (.bool (recB l)) ∧ Below w.heap.size w w' := by
  obtain ⟨a, n, c, rfl⟩ := h.shape
  have e := h.len
  obtain ⟨k1, k2⟩ := h.capMax
  unfold maxLen at k2
  by_cases hn : n ≤ 400
  · have HR : Hid (recB l = l.all digestB) := by unfold Hid recB; rw [e]; simp [hn]
    clear e
    have H := Lib.hid h; clear h
    have hn' : decide ((n : Int) ≤ 400) = true := by simp; omega
    go_enter Try.func59, Try.ntmps59
    go_wp2_with fail
    refine (spec_l1All _ l _ _ _ H.out).mono ?_; rintro e w1 ⟨rfl, rfl⟩
    rw [show (l.all fun x => decide (0 ≤ x ∧ x ≤ 4611686018427387903)) = recB l from HR.out.symm]
    go_wp2_with fail
    go_ret
    exact ⟨rfl, Below.refl _ _⟩
  · have HR : Hid (recB l = false) := by unfold Hid recB; rw [e]; simp [hn]
    clear e
    have H := Lib.hid h; clear h
    have hn' : decide ((n : Int) ≤ 400) = false := by simp; omega
    go_enter Try.func59, Try.ntmps59
    go_wp2_with fail
    go_ret
    exact ⟨ret_bool (by first | (rw [HR.out]; done) | (rw [HR.out]; rfl) | exact HR.out.symm), Below.refl _ _⟩
/-- the list and true, if it is a record -/
theorem impl_record (v : Value) (l : List Int) (w : World) (h : Ints w v l) :
    Calls Try.prog 66 #[v] w fun e w' => e = .returned (.tuple #[if recB l = true then v else .slice none 0 0, .bool (recB l)]) ∧ Below w.heap.size w w' := by
  cases hr : recB l with
  | false =>
    rw [if_neg (by simp)]
    have HR := Lib.hid hr; clear hr
    go_enter Try.func66, Try.ntmps66
    go_wp2_with fail
    refine (impl_isRecord _ l _ h).mono ?_; rintro e w1 ⟨rfl, hb⟩
    rw [HR.out]
    go_wp2_with fail
    go_ret2
    exact ⟨rfl, hb⟩
  | true =>
    rw [if_pos rfl]
    have HR := Lib.hid hr; clear hr
    go_enter Try.func66, Try.ntmps66
    go_wp2_with fail
    refine (impl_isRecord _ l _ h).mono ?_; rintro e w1 ⟨rfl, hb⟩
    rw [HR.out]
    go_wp2_with fail
    go_ret2
    exact ⟨rfl, hb⟩
set_option maxHeartbeats 1000000 in
theorem impl_JoinRecords (v : Value) (ls : List (List Int)) (w : World) (hl : (ls.length : Int) + total ls ≤ 1000000000) (h : RdL kInts w v ls) :
    Calls Try.prog 47 #[v] w fun e w' => ∃ v', e = .returned (.tuple #[v', .bool (jrB ls)]) ∧ InI w' w.heap.size w'.heap.size v' (jrL ls) ∧ Below w.heap.size w w' := by
  obtain ⟨a, n, c, rfl⟩ := h.shape
  have e := h.len
  have HE := Lib.hid e
  obtain ⟨k1, k2⟩ := h.capMax
  unfold maxLen at k2
  have HT : Hid ((ls.length : Int) + total ls ≤ 1000000000) := hl
  have hn : n ≤ 1000000000 := by omega
  have hO : Hid (OwnI (w.alloc (.cells #[.int .i64 (n : Int)] 3)) w.heap.size (.slice (some ⟨w.heap.size, 0, none⟩) 1 1) (joinTo ls 0)) := by
    unfold Hid; rw [joinTo_zero, e]; exact OwnI.lit1 w (Nat.le_refl _) ⟨by omega, by omega⟩
  have H := Lib.hid h; clear h e hl
  go_enter Try.func47, Try.ntmps47
  go_wp2_with fail
  go_loopg [4, 12] n (fun g ov i wr => ∃ k : Nat, k + g = n ∧ i = .int .i64 k ∧ OwnI wr w.heap.size ov (joinTo ls k) ∧ Below w.heap.size w wr)
  case atStart => exact ⟨0, by omega, rfl, hO.out, by (repeat (first | exact Below.refl _ _ | assumption | refine Below.drew ?_ | refine Below.alloc ?_ (by first | (simp; done) | (simp; omega)) _ | refine Below.setCell ?_ (by first | (simp; done) | (simp; omega)) _))⟩
  case round =>
    obtain ⟨k, hkg, rfl, hOwn, hb⟩ := hrel
    have HO := Lib.hid hOwn
    by_cases hlt : k < n
    · have HK : Hid (k < ls.length) := by unfold Hid; rw [HE.out]; exact hlt
      obtain ⟨b, o, rfl, us, hcx⟩ := H.out.at_ (by omega)
      obtain ⟨hy, hr⟩ := hcx k HK.out
      have HR := Lib.hid (Ints.below hr hb); clear hr hcx
      rw [← hb.cell (p := ⟨b, o + k, none⟩) (World.block_lt_of_cell? w _ hy)] at hy
      have HS := Lib.hid (joinTo_succ HK.out)
      have HL : Hid ((joinTo ls k).length + (cnt (ls[k]'HK.out)).length ≤ 100000000000) := by
        have h1 := joinTo_length (ls := ls) (k := k) (Nat.le_of_lt HK.out)
        have h2 := total_take_succ HK.out
        have h3 := total_take_le (ls := ls) (k := k + 1)
        have h4 := HT.out
        have h5 := HK.out
        unfold Hid; rw [cnt_length]; omega
      have hB := hb.size
      have HB := Lib.hid hb; clear hb
      obtain ⟨a3, c3, rfl⟩ := hOwn.shape
      clear hOwn
      go_wp2_with fail
      refine (impl_counted _ _ _ HR.out (by have := HL.out; rw [cnt_length] at this; omega)).mono ?_
      rintro e w1 ⟨v1, rfl, hX, hb1⟩
      have HX := Lib.hid hX
      obtain ⟨a4, c4, rfl⟩ := hX.shape
      clear hX
      have HB1 := Lib.hid hb1
      have hs1 := hb1.size
      clear hb1
      obtain ⟨q, hq⟩ : ∃ q, (joinTo ls (k + 1)).length = q := ⟨_, rfl⟩
      have HQ := Lib.hid hq
      have hqb : q ≤ 100000000000 := by rw [← hq, HS.out, List.length_append]; exact HL.out
      clear hq
      by_cases h400 : q ≤ 400
      · go_wp2_with (at_builtin; refine wpList_append_ints rfl _ _ rfl w.heap.size (.slice a3 _ c3) (.slice a4 _ c4) (joinTo ls k) (cnt (ls[k]'HK.out)) rfl (HO.out.below HB1.out) rfl HX.out.ints (by have := HL.out; omega) (by omega) ?_; intro v2 w2 hown2 hgr2; rw [← HS.out] at hown2; have HO2 := Lib.hid hown2; obtain ⟨a5, c5, hv2⟩ := hown2.shape; rw [HQ.out] at hv2; clear hown2; have HG2 := Lib.hid hgr2; clear hgr2; subst hv2)
        go_roundg (n - (k + 1))
        case measure => omega
        case rel => exact ⟨k + 1, by omega, by go_num, HO2.out, (keep_b HB1.out HB.out).trans ((HO.out.below HB1.out).grown HG2.out (by omega))⟩
      · have HJ : Hid (jrB ls = false) := by
          unfold Hid jrB recB
          have h1 := joinTo_le (ls := ls) (k := k + 1) (j := ls.length) HK.out (Nat.le_refl _)
          rw [joinTo_all, HQ.out] at h1
          rw [decide_eq_false (by omega), Bool.false_and]
        have HJL : Hid (jrL ls = []) := by unfold Hid jrL; rw [HJ.out, if_neg (by simp)]
        go_wp2_with (at_builtin; refine wpList_append_ints rfl _ _ rfl w.heap.size (.slice a3 _ c3) (.slice a4 _ c4) (joinTo ls k) (cnt (ls[k]'HK.out)) rfl (HO.out.below HB1.out) rfl HX.out.ints (by have := HL.out; omega) (by omega) ?_; intro v2 w2 hown2 hgr2; rw [← HS.out] at hown2; have HO2 := Lib.hid hown2; obtain ⟨a5, c5, hv2⟩ := hown2.shape; rw [HQ.out] at hv2; clear hown2; have HG2 := Lib.hid hgr2; clear hgr2; subst hv2)
        go_ret2
        exact ⟨.slice none 0 0, (by rw [HJ.out]; rfl), by rw [HJL.out]; exact InI.of_own (OwnI.nil _ _), (keep_b HB1.out HB.out).trans ((HO.out.below HB1.out).grown HG2.out (by omega))⟩
    · obtain rfl : n = k := by omega
      have HF : Hid (joinTo ls n = joinL ls) := by unfold Hid; rw [← HE.out]; exact joinTo_all ls
      clear hOwn
      have HB := Lib.hid hb; clear hb
      rw [HF.out] at HO
      go_wp2_with fail
      refine (impl_record _ _ _ HO.out.ints).mono ?_
      rintro e w2 ⟨rfl, hb2⟩
      cases hj : jrB ls with
      | false =>
        rw [if_neg (by rw [show recB (joinL ls) = false from hj]; simp), show recB (joinL ls) = false from hj]
        have HL : Hid (jrL ls = []) := by unfold Hid jrL; rw [hj, if_neg (by simp)]
        have HJ := Lib.hid hj; clear hj
        go_wp2_with fail
        go_ret2
        exact ⟨.slice none 0 0, (by rw [HJ.out]; rfl), by rw [HL.out]; exact InI.of_own (OwnI.nil _ _), keep_b hb2 HB.out⟩
      | true =>
        rw [if_pos (show recB (joinL ls) = true from hj), show recB (joinL ls) = true from hj]
        have HL : Hid (jrL ls = joinL ls) := by unfold Hid jrL; rw [hj, if_pos rfl]
        have HJ := Lib.hid hj; clear hj
        go_wp2_with fail
        go_ret2
        exact ⟨_, (by rw [HJ.out]; rfl), by rw [HL.out]; exact InI.of_own (HO.out.below hb2), keep_b hb2 HB.out⟩
end Go.Proofs.Ytbcaknmpbkapnaa
/- Walks: slices.Grow, slices.Concat. -/


namespace Go.Proofs.Ytbcaknmpbkapnaa
open Go.RowKit
set_option linter.unusedSimpArgs false
set_option linter.unusedVariables false

set_option maxHeartbeats 1000000 in
theorem slices_Grow_nil (n : Nat) (w : World) (hn : n ≤ 2000000000) :
    Calls Try.prog 74 #[.slice none 0 0, .int .i64 n] w fun e w' => ∃ v', e = .returned v' ∧ OwnI w' w.heap.size v' [] ∧ Below w.heap.size w w' := by
  by_cases h0 : n = 0
  · subst h0
    go_enter Try.func74, Try.ntmps74
    go_wp2_with fail
    go_ret
    exact ⟨_, rfl, OwnI.nil _ _, Below.refl _ _⟩
  · obtain ⟨i, hi, hz, hsz, hby⟩ := info_parts info_int
    have hp : 0 < n := by omega
    have hr := fun ty => Lib.run_append_nil_zeros (P := Try.prog) (ty := ty) w 22 3 3 i (.int .i64 0) .i64 .i64 Try.underlying22 Try.underlying3 hi hz n hp (by omega) (by omega) (by rw [hby]; omega)
    have hge := grownCap_ge w n 0 3
    have hle := grownCap_le_maxLen w n 0 3 (by unfold maxLen; omega)
    obtain ⟨cp, hcp⟩ : ∃ cp, grownCap w n 0 3 = cp := ⟨_, rfl⟩
    rw [hcp] at hr hge hle
    clear hcp
    have hO : Hid (OwnI (w.drew.alloc (.cells (Builtin.zeroCells (Value.int .i64 0).cells n ++ Builtin.zeroCells (Value.int .i64 0).cells (cp - n)) 3)) w.heap.size (.slice (some ⟨w.heap.size, 0, none⟩) 0 cp) []) := by
      refine ⟨AllI64.nil, World.ownsRow_made (w := w.drew) _ cp (Nat.le_refl _) hle ?_⟩
      rw [Array.size_append, size_zeroCells, size_zeroCells]; simp [Value.cells]; omega
    have HB : Hid (Below w.heap.size w (w.drew.alloc (.cells (Builtin.zeroCells (Value.int .i64 0).cells n ++ Builtin.zeroCells (Value.int .i64 0).cells (cp - n)) 3))) := by unfold Hid; exact (Below.refl _ _).drew.alloc (Nat.le_refl _) _
    have hcm : cp ≤ 9223372036854775807 := by unfold maxLen at hle; omega
    clear hi hz hsz hby hle
    go_enter Try.func74, Try.ntmps74
    go_wp2_with (at_builtin; refine Lib.wpList_append_run _ rfl _ _ _ _ rfl _ _ rfl rfl _ _ (hr _) ?_)
    go_ret
    exact ⟨_, rfl, hO.out, HB.out⟩
theorem flatten_take_succ {ls : List (List Int)} {k : Nat} (h : k < ls.length) : (ls.take (k + 1)).flatten = (ls.take k).flatten ++ ls[k] := by
  rw [List.take_succ_eq_append_getElem h, List.flatten_append]; simp
theorem flatten_length (ls : List (List Int)) : ls.flatten.length = total ls := by unfold total; rw [List.length_flatten]
set_option maxHeartbeats 1000000 in
theorem slices_Concat (v : Value) (ls : List (List Int)) (w : World) (h : RdL kInts w v ls) (hl : total ls ≤ 2000000000) :
    Calls Try.prog 67 #[v] w fun e w' => ∃ v', e = .returned v' ∧ OwnI w' w.heap.size v' ls.flatten ∧ Below w.heap.size w w' := by
  obtain ⟨a, n, c, rfl⟩ := h.shape
  have e := h.len
  have HE := Lib.hid e
  obtain ⟨k1, k2⟩ := h.capMax
  unfold maxLen at k2
  have HT : Hid (total ls ≤ 2000000000) := hl
  have H := Lib.hid h; clear h e hl
  go_enter Try.func67, Try.ntmps67
  go_wp2_with fail
  go_loopg [3, 11] n (fun g q i wr => ∃ (k z : Nat), k + g = n ∧ i = .int .i64 k ∧ q = .int .i64 z ∧ z ≤ 2000000000 ∧ Hid (z = total (ls.take k)) ∧ w = wr)
  case atStart => exact ⟨0, 0, by omega, rfl, rfl, by omega, by unfold Hid; simp [total_nil], rfl⟩
  case round =>
    obtain ⟨k, z, hkg, rfl, rfl, hz, hzz, rfl⟩ := hrel
    by_cases hlt : k < n
    · have HK : Hid (k < ls.length) := by unfold Hid; rw [HE.out]; exact hlt
      obtain ⟨b, o, rfl, us, hcx⟩ := H.out.at_ (by omega)
      obtain ⟨hy, hr⟩ := hcx k HK.out
      have HR := Lib.hid hr
      obtain ⟨a2, n2, c2, hu⟩ := Ints.shape hr
      have hn2 := Ints.len (hu ▸ hr)
      rw [hu] at hy
      clear hr hcx
      have hT := total_take_succ HK.out
      have hT2 := total_take_le (ls := ls) (k := k + 1)
      have hb : z + n2 ≤ 2000000000 := by have := HT.out; have := hzz.out; omega
      have HZ : Hid (z + n2 = total (ls.take (k + 1))) := by have := hzz.out; unfold Hid; omega
      clear hT hT2 hn2 hzz
      go_wp2_with fail
      go_roundg (n - (k + 1))
      case measure => omega
      case rel => exact ⟨k + 1, z + n2, by omega, by go_num, by go_num, hb, HZ.out, rfl⟩
    · obtain rfl : n = k := by omega
      go_wp2_with fail
      refine (slices_Grow_nil z _ hz).mono ?_
      rintro e w1 ⟨v1, rfl, hO1, hb1⟩
      have HO1 := Lib.hid hO1; clear hO1
      go_wp2_with fail
      go_loopg [6, 27] n (fun g ov i wr => ∃ k : Nat, k + g = n ∧ i = .int .i64 k ∧ OwnI wr w.heap.size ov ((ls.take k).flatten) ∧ Below w.heap.size w wr)
      case atStart => exact ⟨0, by omega, rfl, HO1.out, hb1⟩
      case round =>
        obtain ⟨k, hkg, rfl, hOwn, hb⟩ := hrel
        have HO := Lib.hid hOwn
        by_cases hlt : k < n
        · have HK : Hid (k < ls.length) := by unfold Hid; rw [HE.out]; exact hlt
          obtain ⟨b, o, rfl, us, hcx⟩ := H.out.at_ (by omega)
          obtain ⟨hy, hr⟩ := hcx k HK.out
          have HR := Lib.hid (Ints.below hr hb)
          obtain ⟨a2, n2, c2, hu⟩ := Ints.shape hr
          rw [hu] at hy HR
          clear hr hcx
          rw [← hb.cell (p := ⟨b, o + k, none⟩) (World.block_lt_of_cell? w _ hy)] at hy
          have HS := Lib.hid (flatten_take_succ HK.out)
          have HL : Hid ((ls.take k).flatten.length + (ls[k]'HK.out).length ≤ 1000000000000) := by
            have h1 := total_take_succ HK.out
            have h2 := total_take_le (ls := ls) (k := k + 1)
            have h3 := HT.out
            unfold Hid; rw [flatten_length]; omega
          have hB := hb.size
          have HB := Lib.hid hb; clear hb
          obtain ⟨a3, c3, rfl⟩ := hOwn.shape
          clear hOwn
          go_wp2_with (at_builtin; refine wpList_append_ints rfl _ _ rfl w.heap.size (.slice a3 _ c3) (.slice a2 n2 c2) ((ls.take k).flatten) (ls[k]'HK.out) rfl HO.out rfl HR.out HL.out hB ?_; intro v2 w2 hown2 hgr2; rw [← HS.out] at hown2; have HO2 := Lib.hid hown2; clear hown2; have HG2 := Lib.hid hgr2; clear hgr2)
          go_roundg (n - (k + 1))
          case measure => omega
          case rel => exact ⟨k + 1, by omega, by go_num, HO2.out, HB.out.trans (HO.out.grown HG2.out hB)⟩
        · obtain rfl : n = k := by omega
          have HF : Hid ((ls.take n).flatten = ls.flatten) := by unfold Hid; rw [← HE.out, List.take_length]
          clear hOwn
          have HB := Lib.hid hb; clear hb
          go_wp2_with fail
          go_ret
          exact ⟨_, rfl, by rw [← HF.out]; exact HO.out, HB.out⟩
theorem keep_box3 {W0 w' : World} {g : Nat} {a b c : Value} (h0 : W0.cell? ⟨g, 0, none⟩ = some a) (h1 : W0.cell? ⟨g, 1, none⟩ = some b) (h2 : W0.cell? ⟨g, 2, none⟩ = some c) (hb : Below W0.heap.size W0 w') :
    Below W0.heap.size W0 w' ∧ w'.cell? ⟨g, 0, none⟩ = some a ∧ w'.cell? ⟨g, 1, none⟩ = some b ∧ w'.cell? ⟨g, 2, none⟩ = some c :=
  ⟨hb, (hb.cell (p := ⟨g, 0, none⟩) (World.block_lt_of_cell? W0 _ h0)).trans h0, (hb.cell (p := ⟨g, 1, none⟩) (World.block_lt_of_cell? W0 _ h1)).trans h1, (hb.cell (p := ⟨g, 2, none⟩) (World.block_lt_of_cell? W0 _ h2)).trans h2⟩
theorem rd3 {W : World} {v1 v2 v3 : Value} {l1 l2 l3 : List Int} (h1 : Ints W v1 l1) (h2 : Ints W v2 l2) (h3 : Ints W v3 l3) :
    RdL kInts (W.alloc (.cells #[v1, v2, v3] 22)) (.slice (some ⟨W.heap.size, 0, none⟩) 3 3) [l1, l2, l3] := by
  refine ⟨some ⟨W.heap.size, 0, none⟩, 3, 3, rfl, rfl, Nat.le_refl _, by unfold maxLen; omega, .inr (.inr ⟨W.heap.size, 0, rfl, fun i => if i = 0 then v1 else if i = 1 then v2 else v3, fun i hi => ?_⟩)⟩
  simp only [List.length_cons, List.length_nil] at hi
  rcases (by omega : i = 0 ∨ i = 1 ∨ i = 2) with rfl | rfl | rfl
  · exact ⟨by simp [go_sem], h1.alloc _⟩
  · exact ⟨by simp [go_sem], h2.alloc _⟩
  · exact ⟨by simp [go_sem], h3.alloc _⟩
theorem total3 (l1 l2 l3 : List Int) : total [l1, l2, l3] = l1.length + l2.length + l3.length := by simp [total]; omega
end Go.Proofs.Ytbcaknmpbkapnaa
