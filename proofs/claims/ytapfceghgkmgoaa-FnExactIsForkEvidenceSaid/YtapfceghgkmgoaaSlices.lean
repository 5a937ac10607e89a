/- Slices of integers: what it means that a value reads as a list, that a call owns a list; both carried through worlds. No program is named here but for the type of integers. -/
import Derived.Test.YtapfceghgkmgoaaBase
namespace Go.Proofs.Ytapfceghgkmgoaa
open Go.RowKit

/-- the element at a place -/
def nth (l : List Int) (i : Nat) : Int := l.getD i 0
theorem nth_eq {l : List Int} {i : Nat} (h : i < l.length) : nth l i = l[i] := by simp [nth, List.getD, h]
/-- an int -/
def I64 (x : Int) : Prop := -9223372036854775808 ≤ x ∧ x ≤ 9223372036854775807
/-- all elements are ints -/
def AllI64 (l : List Int) : Prop := ∀ x ∈ l, I64 x
theorem AllI64.at_ {l : List Int} (h : AllI64 l) (i : Nat) : I64 (nth l i) := by
  by_cases hi : i < l.length
  · rw [nth_eq hi]; exact h _ (List.getElem_mem _)
  · have : nth l i = 0 := by simp [nth, List.getD, Nat.le_of_not_lt hi]
    rw [this]; exact ⟨by decide, by decide⟩

/-- the value reads as the list -/
def Ints (w : World) (v : Value) (l : List Int) : Prop :=
  ∃ a n c, v = .slice a n c ∧ l.length = n ∧ n ≤ c ∧ c ≤ maxLen ∧ AllI64 l ∧
    ((a = none ∧ n = 0 ∧ c = 0) ∨ (∃ ad, a = some ad ∧ n = 0) ∨ ∃ b o, a = some ⟨b, o, none⟩ ∧ ∀ i, i < n → w.cell? ⟨b, o + i, none⟩ = some (.int .i64 (nth l i)))

theorem Ints.shape {w : World} {v : Value} {l : List Int} (h : Ints w v l) : ∃ a n c, v = .slice a n c := by
  obtain ⟨a, n, c, h, _⟩ := h; exact ⟨a, n, c, h⟩
theorem Ints.len {w : World} {a : Option Addr} {n c : Nat} {l : List Int} (h : Ints w (.slice a n c) l) : l.length = n := by
  obtain ⟨a', n', c', e, h, _⟩ := h; cases e; exact h
theorem Ints.cap {w : World} {a : Option Addr} {n c : Nat} {l : List Int} (h : Ints w (.slice a n c) l) : n ≤ c ∧ c ≤ 140737488355328 * 65536 := by
  obtain ⟨a', n', c', e, _, h1, h2, _⟩ := h; cases e; unfold maxLen at h2; omega
theorem Ints.capMax {w : World} {a : Option Addr} {n c : Nat} {l : List Int} (h : Ints w (.slice a n c) l) : n ≤ c ∧ c ≤ maxLen := by
  obtain ⟨a', n', c', e, _, h1, h2, _⟩ := h; cases e; exact ⟨h1, h2⟩
theorem Ints.all {w : World} {v : Value} {l : List Int} (h : Ints w v l) : AllI64 l := by
  obtain ⟨a', n', c', e, _, _, _, h, _⟩ := h; exact h
/-- where there is an element there is an address -/
theorem Ints.at_ {w : World} {a : Option Addr} {n c : Nat} {l : List Int} (h : Ints w (.slice a n c) l) (hn : 0 < n) :
    ∃ b o, a = some ⟨b, o, none⟩ ∧ ∀ i, i < n → w.cell? ⟨b, o + i, none⟩ = some (.int .i64 (nth l i)) := by
  obtain ⟨a', n', c', e, _, _, _, _, h⟩ := h; cases e
  rcases h with ⟨_, h, _⟩ | ⟨_, _, h⟩ | h
  · omega
  · omega
  · exact h
theorem Ints.nil (w : World) : Ints w (.slice none 0 0) [] := ⟨none, 0, 0, rfl, rfl, Nat.le_refl _, Nat.zero_le _, by simp [AllI64], .inl ⟨rfl, rfl, rfl⟩⟩
/-- carried into a world in which all old blocks are as they were -/
theorem Ints.below {w w' : World} {v : Value} {l : List Int} (h : Ints w v l) (hb : Below w.heap.size w w') : Ints w' v l := by
  obtain ⟨a, n, c, e, h1, h2, h3, h4, h5⟩ := h
  refine ⟨a, n, c, e, h1, h2, h3, h4, ?_⟩
  rcases h5 with h5 | h5 | ⟨b, o, rfl, hc⟩
  · exact .inl h5
  · exact .inr (.inl h5)
  · refine .inr (.inr ⟨b, o, rfl, fun i hi => ?_⟩)
    have h := hc i hi
    rw [hb.cell (World.block_lt_of_cell? w _ h)]; exact h
theorem Ints.drewN {w : World} {v : Value} {l : List Int} (h : Ints w v l) (n : Nat) : Ints (w.drewN n) v l := h.below (below_drewN (Below.refl _ _) n)
theorem Ints.drew {w : World} {v : Value} {l : List Int} (h : Ints w v l) : Ints w.drew v l := h.below (Below.refl _ _).drew
theorem Ints.alloc {w : World} {v : Value} {l : List Int} (h : Ints w v l) (o : Obj) : Ints (w.alloc o) v l := h.below ((Below.refl _ _).alloc (Nat.le_refl _) o)

/-- a beginning, an end of a slice -/
theorem nth_take {l : List Int} {i k : Nat} (h : i < k) : nth (l.take k) i = nth l i := by simp [nth, List.getD, h]
theorem nth_drop {l : List Int} {i k : Nat} : nth (l.drop k) i = nth l (k + i) := by simp [nth, List.getD]
theorem Ints.take {w : World} {a : Option Addr} {n c k : Nat} {l : List Int} (h : Ints w (.slice a n c) l) (hk : k ≤ n) : Ints w (.slice a k c) (l.take k) := by
  obtain ⟨a', n', c', e, h1, h2, h3, h4, h5⟩ := h; cases e
  refine ⟨a, k, c, rfl, by simp; omega, by omega, h3, fun x hx => h4 x (List.mem_of_mem_take hx), ?_⟩
  rcases h5 with ⟨h5, h6, h7⟩ | ⟨ad, h5, h6⟩ | ⟨b, o, h5, hc⟩
  · exact .inl ⟨h5, by omega, h7⟩
  · exact .inr (.inl ⟨ad, h5, by omega⟩)
  · exact .inr (.inr ⟨b, o, h5, fun i hi => by rw [nth_take hi]; exact hc i (by omega)⟩)
theorem Ints.drop {w : World} {a : Option Addr} {n c k : Nat} {l : List Int} (h : Ints w (.slice a n c) l) (hk : k ≤ n) : Ints w (.slice (if c = k then a else a.map (·.add k)) (n - k) (c - k)) (l.drop k) := by
  obtain ⟨a', n', c', e, h1, h2, h3, h4, h5⟩ := h; cases e
  refine ⟨_, n - k, c - k, rfl, by simp; omega, by omega, by omega, fun x hx => h4 x (List.mem_of_mem_drop hx), ?_⟩
  rcases h5 with ⟨h5, h6, h7⟩ | ⟨ad, h5, h6⟩ | ⟨b, o, h5, hc⟩
  · refine .inl ⟨?_, by omega, by omega⟩
    rw [h5]; split <;> rfl
  · refine .inr (.inl ?_)
    rw [h5]
    split
    · exact ⟨ad, rfl, by omega⟩
    · exact ⟨ad.add k, rfl, by omega⟩
  · rw [h5]
    by_cases hck : c = k
    · rw [if_pos hck]; exact .inr (.inl ⟨_, rfl, by omega⟩)
    · rw [if_neg hck]
      refine .inr (.inr ⟨b, o + k, by simp [Addr.add_lit], fun i hi => ?_⟩)
      rw [nth_drop, Nat.add_assoc]; exact hc (k + i) (by omega)

theorem Ints.drop' {w : World} {a : Option Addr} {n c k : Nat} {l : List Int} (h : Ints w (.slice a n c) l) (hk : k ≤ n) (hc : k < c) : Ints w (.slice (a.map (fun x => x.add k)) (n - k) (c - k)) (l.drop k) := by
  have := h.drop hk
  rwa [if_neg (by omega)] at this

theorem info_int : (Try.prog.info? 3).map (fun i => (i.zero, i.size, i.bytes)) = some (some (.int .i64 0), 1, 8) := by kernel_rfl

/-- the value is a row of the call's own, from block B on, that reads as the list -/
def OwnI (w : World) (B : Nat) (v : Value) (l : List Int) : Prop := AllI64 l ∧ w.ownsRow B 3 1 v l.length (l.map (Value.int .i64))

theorem AllI64.append {a b : List Int} (h : AllI64 a) (h' : AllI64 b) : AllI64 (a ++ b) := fun x hx => by
  rcases List.mem_append.1 hx with h1 | h1
  · exact h x h1
  · exact h' x h1
theorem AllI64.nil : AllI64 [] := fun x hx => by cases hx
theorem AllI64.one {x : Int} (h : I64 x) : AllI64 [x] := fun y hy => by simp at hy; subst hy; exact h
theorem AllI64.cons {x : Int} {l : List Int} (h : I64 x) (h' : AllI64 l) : AllI64 (x :: l) := fun y hy => by
  rcases List.mem_cons.1 hy with rfl | h1
  · exact h
  · exact h' y h1
theorem AllI64.take {l : List Int} (h : AllI64 l) (k : Nat) : AllI64 (l.take k) := fun x hx => h x (List.mem_of_mem_take hx)
theorem AllI64.drop {l : List Int} (h : AllI64 l) (k : Nat) : AllI64 (l.drop k) := fun x hx => h x (List.mem_of_mem_drop hx)

section
variable {w w' : World} {B : Nat} {v : Value} {l : List Int}
theorem OwnI.all (h : OwnI w B v l) : AllI64 l := h.1
theorem OwnI.nil (w : World) (B : Nat) : OwnI w B (.slice none 0 0) [] := ⟨AllI64.nil, World.ownsRow_nil w B _ 1⟩
theorem OwnI.shape (h : OwnI w B v l) : ∃ a c, v = .slice a l.length c := by
  rcases h.2.2 with ⟨h, h2⟩ | ⟨g, c, cur, h, _⟩
  · exact ⟨none, 0, by rw [h, h2]⟩
  · exact ⟨_, _, h⟩
theorem OwnI.ints (h : OwnI w B v l) : Ints w v l := by
  obtain ⟨ha, hl, ⟨rfl, h0⟩ | ⟨g, c, cur, rfl, hb, hg, hnc, hcm, hcs, htake⟩⟩ := h
  · have : l = [] := List.eq_nil_of_length_eq_zero h0
    subst this; exact Ints.nil w
  · refine ⟨some ⟨g, 0, none⟩, l.length, c, rfl, rfl, hnc, hcm, ha, .inr (.inr ⟨g, 0, rfl, fun i hi => ?_⟩)⟩
    have h1 := World.ownsRow.cellAt (w := w) (base := B) (e := 3) (size := 1) (g := g) (n := l.length) (cap := c) (xs := l.map (Value.int .i64)) ⟨hl, .inr ⟨g, c, cur, rfl, hb, hg, hnc, hcm, hcs, htake⟩⟩ i (by omega)
    rw [Nat.zero_add, h1]
    simp [nth_eq hi, hi]
theorem OwnI.lt (h : OwnI w B v l) : ∀ k, v.ownBlock = some k → B ≤ k ∧ k < w.heap.size := h.2.lt
theorem OwnI.kept {row : Option Nat} (h : OwnI w B v l) (hg : w.grownBy w' row) (hne : v.ownBlock = none ∨ v.ownBlock ≠ row) : OwnI w' B v l := ⟨h.1, h.2.kept hg hne⟩
theorem OwnI.below (h : OwnI w B v l) (hb : Below w.heap.size w w') : OwnI w' B v l :=
  h.kept (row := none) ⟨hb.os, hb.tape, hb.output, hb.size, fun k hk _ => hb.block k hk⟩ (by cases v.ownBlock <;> simp)
theorem OwnI.drewN (h : OwnI w B v l) (n : Nat) : OwnI (w.drewN n) B v l := h.below (below_drewN (Below.refl _ _) n)
theorem OwnI.mono {B' : Nat} (h : OwnI w B v l) (hB : B' ≤ B) : OwnI w B' v l := by
  refine ⟨h.1, h.2.1, ?_⟩
  rcases h.2.2 with h1 | ⟨g, c, cur, e, hb, r⟩
  · exact .inl h1
  · exact .inr ⟨g, c, cur, e, by omega, r⟩
theorem OwnI.lit (w : World) (hB : B ≤ w.heap.size) {cs : Array Value} (h : AllI64 l) (hc : cs = (l.map (Value.int .i64)).toArray) (hn : l.length ≤ maxLen) (n : Nat) (hnn : n = l.length) :
    OwnI (w.alloc (.cells cs 3)) B (.slice (some ⟨w.heap.size, 0, none⟩) n n) l := by
  subst hc; subst hnn
  have := World.ownsRow_lit (e := 3) (size := 1) w (l.map (Value.int .i64)).toArray l.length hB hn (by simp)
  exact ⟨h, by simpa using this⟩
theorem OwnI.grown (h : OwnI w B v l) (hg : w.grownBy w' v.ownBlock) (hB : B ≤ w.heap.size) : Below B w w' :=
  (Below.refl B w).grown hg hB (fun k hk => (h.lt k hk).1)
theorem grownBy_of_below {row : Option Nat} (hb : Below w.heap.size w w') : w.grownBy w' row := ⟨hb.os, hb.tape, hb.output, hb.size, fun k hk _ => hb.block k hk⟩
theorem grownBy_trans {w2 : World} {row : Option Nat} (h : w.grownBy w' row) (h2 : w'.grownBy w2 row) : w.grownBy w2 row :=
  ⟨h2.os.trans h.os, h2.tape.trans h.tape, h2.output.trans h.output, Nat.le_trans h.size h2.size, fun k hk hr => (h2.block k (Nat.lt_of_lt_of_le hk h.size) hr).trans (h.block k hk hr)⟩
theorem Below.toGrown {row : Option Nat} (hb : Below w.heap.size w w') : w.grownBy w' row := grownBy_of_below hb
theorem Ints.kept {row : Option Nat} (h : Ints w v l) (hg : w.grownBy w' row) (hne : ∀ k, v.ownBlock = some k → some k ≠ row) : Ints w' v l := by
  obtain ⟨a, n, c, e, h1, h2, h3, h4, h5⟩ := h
  refine ⟨a, n, c, e, h1, h2, h3, h4, ?_⟩
  rcases h5 with h5 | h5 | ⟨b, o, rfl, hc⟩
  · exact .inl h5
  · exact .inr (.inl h5)
  · refine .inr (.inr ⟨b, o, rfl, fun i hi => hg.cell (hc i hi) ?_⟩)
    exact hne b (by rw [e]; rfl)
end

theorem below_of_grown {B g n c : Nat} {w u w1 : World} (h : Below B w u) (hgr : u.grownBy w1 (Value.ownBlock (.slice (some ⟨g, 0, none⟩) n c))) (hg : B ≤ g) (hB : B ≤ u.heap.size) : Below B w w1 :=
  h.grown hgr hB (fun k hk => by cases hk; exact hg)

/-- what append does to a row of the call's own -/
theorem run_append_ints {t : TypeId} {w : World} {B : Nat} {v y : Value} {l m : List Int} (ht : t = 37) (hown : OwnI w B v l) (hy : Ints w y m) (hlen : l.length + m.length ≤ 1000000000000) (hB : B ≤ w.heap.size) (ty : TypeId) :
    ∃ v' w', (Builtin.append_ #[t, t] ty #[v, y]).run Try.prog w = .ok v' w' ∧ OwnI w' B v' (l ++ m) ∧ w.grownBy w' v.ownBlock := by
  subst ht
  obtain ⟨i, hi, hz, hsz, hby⟩ := info_parts info_int
  obtain ⟨a', n', c', rfl, hn, hnc, hcm, hall, hc⟩ := hy
  have main : ∀ ad : Addr, a' = some ad → (∀ j u, (m.map (Value.int .i64))[j]? = some u → w.cell? (ad.add j) = some u) →
      ∃ v' w', (Builtin.append_ #[37, 37] ty #[v, .slice a' n' c']).run Try.prog w = .ok v' w' ∧ OwnI w' B v' (l ++ m) ∧ w.grownBy w' v.ownBlock := by
    rintro ad rfl hnews
    obtain ⟨v', w', hr, h1, h2, _⟩ := run_append_own (P := Try.prog) w B 37 ty 3 i (.int .i64 0) 1 8 Try.underlying37 hi hz hsz hby rfl (by decide) v l.length _ hown.2 ad n' c' (m.map (Value.int .i64)) (by simp [hn]) hnews (ints_oneCell .i64 m) (by unfold maxLen; omega) (by omega) hB
    exact ⟨v', w', hr, ⟨hown.1.append hall, by simpa [List.length_append, hn] using h1⟩, h2⟩
  rcases hc with ⟨rfl, rfl, rfl⟩ | ⟨ad, rfl, rfl⟩ | ⟨b, off, rfl, hc⟩
  · have hm : m = [] := List.eq_nil_of_length_eq_zero hn
    subst hm
    exact ⟨v, w, run_append_owned_none (P := Try.prog) w B 37 ty 3 i 1 Try.underlying37 hi v l.length _ hown.2, by simpa using hown, World.grownBy.refl _ _⟩
  · have hm : m = [] := List.eq_nil_of_length_eq_zero hn
    subst hm
    exact main ad rfl (fun j u hu => by simp at hu)
  · refine main _ rfl ?_
    intro j u hu
    have hj : j < m.length := by simpa using (List.getElem?_eq_some_iff.1 hu).1
    rw [Addr.add_lit, hc j (by omega)]
    rw [List.getElem?_map, List.getElem?_eq_getElem hj] at hu
    rw [nth_eq hj]; simpa using hu

/-- append of a slice of integers to a row of the call's own -/
theorem wpList_append_ints {ops : Array Oper} {rest : List Oper} {o : Oper} {a : Act} {w : World} {Q : Exit → Act → World → Prop} (hg : o.guard = none) (s x : Operand)
    (ho : o.op = .call { callee := .builtin .append, args := #[s, x], argTypes := #[37, 37] })
    (B : Nat) (v y : Value) (l m : List Int) (hs : a.eval s = v) (hown : OwnI w B v l) (hx : a.eval x = y) (hy : Ints w y m) (hlen : l.length + m.length ≤ 1000000000000) (hB : B ≤ w.heap.size)
    (hK : ∀ v' w', OwnI w' B v' (l ++ m) → w.grownBy w' v.ownBlock → wpList Try.prog ops Q rest (a.put o.dst v') w') : wpList Try.prog ops Q (o :: rest) a w := by
  obtain ⟨v', w', hr, h1, h2⟩ := run_append_ints (t := 37) rfl hown hy hlen hB o.type
  refine wpList_plain hg fun K hK' => ?_
  unfold Oper.wp execOp
  simp only [ho, resolve, invoke, builtin, Sem.run_bind, Sem.run_pure, Result.andThen_ok, List.map_toArray, List.map_cons, List.map_nil, hs, hx, hr]
  exact hK' _ _ (hK v' w' h1 h2)
/-- the same, the new value written out: its length is N -/
theorem wpList_append_intsN {ops : Array Oper} {rest : List Oper} {o : Oper} {a : Act} {w : World} {Q : Exit → Act → World → Prop} (hg : o.guard = none) (s x : Operand)
    (ho : o.op = .call { callee := .builtin .append, args := #[s, x], argTypes := #[37, 37] })
    (B : Nat) (v y : Value) (l m : List Int) (hs : a.eval s = v) (hown : OwnI w B v l) (hx : a.eval x = y) (hy : Ints w y m) (hlen : l.length + m.length ≤ 1000000000000) (hB : B ≤ w.heap.size)
    (N : Nat) (hN : l.length + m.length = N)
    (hK : ∀ a' c' w', OwnI w' B (.slice a' N c') (l ++ m) → w.grownBy w' v.ownBlock → wpList Try.prog ops Q rest (a.put o.dst (.slice a' N c')) w') : wpList Try.prog ops Q (o :: rest) a w := by
  refine wpList_append_ints hg s x ho B v y l m hs hown hx hy hlen hB ?_
  intro v' w' ho' hg'
  obtain ⟨a', c', e⟩ := ho'.shape
  have e2 : (l ++ m).length = N := by rw [List.length_append]; exact hN
  rw [e2] at e
  subst e
  exact hK a' c' w' ho' hg'
end Go.Proofs.Ytapfceghgkmgoaa
