/- Rows of dealings that are appended beside a row of integers: memory. -/
import Derived.Test.YtacpnphfopmofaaKg1KG
import Derived.Test.YtacpnphfopmofaaPolLKG
import Derived.Test.YtacpnphfopmofaaDrG5KG
import Derived.Test.YtacpnphfopmofaaKg7KG
import Derived.Test.YtacpnphfopmofaaSh2KG
import Derived.Test.YtacpnphfopmofaaDrK2KG
import Derived.Test.YtacpnphfopmofaaSh4KG
import Derived.Laws.MakeOwn
namespace Go.Proofs.Ytacpnphfopmofaa
open Go.RowKit
set_option linter.unusedSimpArgs false
set_option linter.unusedVariables false

def Parted (v1 v2 : Value) : Prop := v1.ownBlock = none ∨ v1.ownBlock ≠ v2.ownBlock
theorem Parted.new {w : World} {B : Nat} {v1 v2 v2' : Value} {l : List Int} (h : Parted v1 v2) (h1 : OwnI w B v1 l) (h2 : v2'.ownBlock = v2.ownBlock ∨ v2'.ownBlock = some w.heap.size) : Parted v1 v2' := by
  rcases h with h | h
  · exact .inl h
  · rcases h2 with h2 | h2
    · exact .inr (by rw [h2]; exact h)
    · refine .inr ?_
      rw [h2]
      intro e
      have := (h1.lt _ e).2
      omega
theorem Parted.since {u Y : World} {B : Nat} {x z : Value} {l1 l2 : List Int} (h1 : OwnI u Y.heap.size x l1) (h2 : OwnI Y B z l2) : Parted x z := by
  cases e : x.ownBlock with
  | none => exact .inl e
  | some k =>
    refine .inr fun e2 => ?_
    have a := (h1.lt k e).1
    rw [e] at e2
    have b := (h2.lt k e2.symm).2
    omega
/-- one integer appended: the row stays in its block, or lies in a new one -/
theorem run_append_oneX {w : World} {B : Nat} {v y : Value} {l : List Int} {x : Int} (hown : OwnI w B v l) (hy : Ints w y [x]) (hlen : l.length ≤ 100000000) (hB : B ≤ w.heap.size) (ty : TypeId) :
    ∃ v' w', (Builtin.append_ #[42, 42] ty #[v, y]).run Try.prog w = .ok v' w' ∧ OwnI w' B v' (l ++ [x]) ∧ w.grownBy w' v.ownBlock ∧ (v'.ownBlock = v.ownBlock ∨ v'.ownBlock = some w.heap.size) := by
  have hx : I64 x := hy.all.at_ 0
  obtain ⟨a, n, c, rfl⟩ := hy.shape
  have hn := hy.len
  simp only [List.length_cons, List.length_nil] at hn
  subst hn
  obtain ⟨b, o, rfl, hcx⟩ := hy.at_ (by omega)
  have hc0 := hcx 0 (by omega)
  rw [Nat.add_zero] at hc0
  have hc : w.cell? ⟨b, o, none⟩ = some (.int .i64 x) := hc0
  obtain ⟨v', w', hr, h1, h2⟩ := run_append_ints (t := 42) rfl hown hy (by simp; omega) hB ty
  refine ⟨v', w', hr, h1, h2, ?_⟩
  obtain ⟨i, hi, hz, hsz, hby⟩ := info_parts info_int
  have hnews : ∀ j u, [Value.int IntKind.i64 x][j]? = some u → w.cell? ((⟨b, o, none⟩ : Addr).add j) = some u := by
    intro j u hu
    cases j with
    | zero => rw [Addr.add_lit]; simp at hu; subst hu; exact hc
    | succ j => simp at hu
  rcases hown.2.2 with ⟨rfl, hl0⟩ | ⟨g, cap, cur, rfl, hbg, hg, hnc, hcm, hcs, htake⟩
  · have q := run_append_nil (P := Try.prog) w 42 ty 3 i (.int .i64 0) Try.underlying42 hi hz ⟨b, o, none⟩ 1 c [.int .i64 x] (by simp [hsz]) hnews (by omega) (by omega) (by omega)
    rw [q] at hr
    injection hr with e1 e2
    subst e1
    exact .inr rfl
  · by_cases hroom : l.length + 1 ≤ cap
    · have q := run_append_room (P := Try.prog) w 42 ty 3 i Try.underlying42 hi g l.length cap cur hg ⟨b, o, none⟩ 1 c [.int .i64 x] (by simp [hsz]) hnews (by intro u hu; simp at hu; subst hu; rfl) hroom (by simp [hsz]; omega)
      rw [q] at hr
      injection hr with e1 e2
      subst e1
      exact .inl rfl
    · have holds : ∀ j u, (l.map (Value.int .i64))[j]? = some u → w.cell? ((⟨g, 0, none⟩ : Addr).add j) = some u := hown.2.cells (g := g) rfl
      have q := run_append_grow (P := Try.prog) w 42 ty 3 i (.int .i64 0) Try.underlying42 hi hz ⟨g, 0, none⟩ l.length cap (l.map (Value.int .i64)) (by simp [hsz]) holds ⟨b, o, none⟩ 1 c [.int .i64 x] (by simp [hsz]) hnews (by omega) (by omega) (growslice_fits (by omega) (by rw [hby]; omega))
      rw [q] at hr
      injection hr with e1 e2
      subst e1
      exact .inr rfl
theorem wpList_append_oneX {ops : Array Oper} {rest : List Oper} {o : Oper} {a : Act} {w : World} {Q : Exit → Act → World → Prop} (hg : o.guard = none) (s x : Operand)
    (ho : o.op = .call { callee := .builtin .append, args := #[s, x], argTypes := #[42, 42] })
    (B : Nat) (v y : Value) (l : List Int) (z : Int) (N : Nat) (hs : a.eval s = v) (hown : OwnI w B v l) (hx : a.eval x = y) (hy : Ints w y [z]) (hlen : l.length ≤ 100000000) (hB : B ≤ w.heap.size) (hN : l.length + 1 = N)
    (hK : ∀ a' c' w', OwnI w' B (.slice a' N c') (l ++ [z]) → w.grownBy w' v.ownBlock → ((Value.slice a' N c').ownBlock = v.ownBlock ∨ (Value.slice a' N c').ownBlock = some w.heap.size) → wpList Try.prog ops Q rest (a.put o.dst (.slice a' N c')) w') : wpList Try.prog ops Q (o :: rest) a w := by
  obtain ⟨v', w', hr, h1, h2, h3⟩ := run_append_oneX hown hy hlen hB o.type
  obtain ⟨a', c', e⟩ := h1.shape
  rw [show (l ++ [z]).length = N by simp; exact hN] at e
  subst e
  refine wpList_plain hg fun K hK' => ?_
  unfold Oper.wp execOp
  simp only [ho, resolve, invoke, builtin, Sem.run_bind, Sem.run_pure, Result.andThen_ok, List.map_toArray, List.map_cons, List.map_nil, hs, hx, hr]
  exact hK' _ _ (hK a' c' w' h1 h2 h3)
/-- a row of proofs: each in rows of its own, apart from the row z of integers -/
def OwnZ (w : World) (B : Nat) (z v : Value) (ds : List DealingD) : Prop :=
  ∃ css : List (List Value), css.length = ds.length ∧ w.ownsRow B 57 2 v ds.length css.flatten ∧
    ∀ i (h1 : i < css.length) (h2 : i < ds.length), ∃ x y, css[i] = [x, y] ∧ (OwnI w B x ds[i].c ∧ Parted x z) ∧ (OwnI w B y ds[i].s ∧ Parted y z)
section
variable {w w' : World} {B : Nat} {z z' v : Value} {l : List Int} {ds : List DealingD} {d : DealingD}
theorem OwnZ.nil (w : World) (B : Nat) (z : Value) : OwnZ w B z (.slice none 0 0) [] :=
  ⟨[], rfl, by simpa using World.ownsRow_nil w B 57 2, fun i h1 _ => by simp at h1⟩
theorem OwnZ.lens {css : List (List Value)} (hl : css.length = ds.length)
    (hel : ∀ i (h1 : i < css.length) (h2 : i < ds.length), ∃ x y, css[i] = [x, y] ∧ (OwnI w B x ds[i].c ∧ Parted x z) ∧ (OwnI w B y ds[i].s ∧ Parted y z)) : ∀ c ∈ css, c.length = 2 := by
  intro c hc
  obtain ⟨i, hi, rfl⟩ := List.getElem_of_mem hc
  obtain ⟨x, y, e, _⟩ := hel i hi (by omega)
  rw [e]; rfl
theorem OwnZ.rd (h : OwnZ w B z v ds) : RdR rDealing w v ds := by
  obtain ⟨css, hl, hO, hel⟩ := h
  refine FrR.rd (e := 57) (w0 := w) (B := B) ⟨css, hl, hO, fun i h1 h2 => ?_⟩ (Below.refl _ _)
  obtain ⟨x, y, e, ⟨q1, _⟩, ⟨q2, _⟩⟩ := hel i h1 h2
  rw [e]
  exact rowDl q1.ints q2.ints
theorem OwnZ.len64 (h : OwnZ w B z v ds) : ∃ a c, v = .slice a ds.length c := by
  obtain ⟨a, n, c, rfl⟩ := h.rd.shape
  have := h.rd.len
  subst this
  exact ⟨a, c, rfl⟩
theorem OwnZ.below (h : OwnZ w B z v ds) (hb : Below w.heap.size w w') : OwnZ w' B z v ds := by
  obtain ⟨css, hl, hO, hel⟩ := h
  refine ⟨css, hl, ownsRow_frame hO fun g hg => hb.block g (hO.lt g hg).2, fun i h1 h2 => ?_⟩
  obtain ⟨x, y, e, ⟨q1, p1⟩, ⟨q2, p2⟩⟩ := hel i h1 h2
  exact ⟨x, y, e, ⟨q1.below hb, p1⟩, ⟨q2.below hb, p2⟩⟩
theorem OwnZ.other {b : Nat} (h : OwnZ w B z v ds) (hb : b < B) (j : Nat) (x : Value) : OwnZ (w.setCell ⟨b, j, none⟩ x) B z v ds := by
  obtain ⟨css, hl, hO, hel⟩ := h
  refine ⟨css, hl, ownsRow_setCell_below hO hb x, fun i h1 h2 => ?_⟩
  obtain ⟨x', y, e, ⟨q1, p1⟩, ⟨q2, p2⟩⟩ := hel i h1 h2
  exact ⟨x', y, e, ⟨q1.other hb _ _, p1⟩, ⟨q2.other hb _ _, p2⟩⟩
theorem OwnI.apartZ' {n : Nat} {xs : List Value} {q : Value} (h : OwnI w B q l) (hO : w.ownsRow B 57 2 v n xs) : v.ownBlock = none ∨ v.ownBlock ≠ q.ownBlock := by
  rcases h.apartDs hO with h1 | h1
  · rw [h1]
    cases e : v.ownBlock with
    | none => exact .inl rfl
    | some k => exact .inr (by simp)
  · exact .inr fun e => h1 e.symm
/-- the row of integers has grown -/
theorem OwnZ.ints (h : OwnZ w B z v ds) (hz : OwnI w B z l) (hg : w.grownBy w' z.ownBlock) (hn : z'.ownBlock = z.ownBlock ∨ z'.ownBlock = some w.heap.size) : OwnZ w' B z' v ds := by
  obtain ⟨css, hl, hO, hel⟩ := h
  refine ⟨css, hl, hO.kept hg (hz.apartZ' hO), fun i h1 h2 => ?_⟩
  obtain ⟨x, y, e, ⟨q1, p1⟩, ⟨q2, p2⟩⟩ := hel i h1 h2
  exact ⟨x, y, e, ⟨q1.kept hg p1, p1.new q1 hn⟩, ⟨q2.kept hg p2, p2.new q2 hn⟩⟩
theorem run_append_Z {b : Nat} {x y : Value} (h : OwnZ w B z v ds) (hz : OwnI w B z l) (hx : OwnI w B x d.c) (hy : OwnI w B y d.s) (px : Parted x z) (py : Parted y z)
    (hc0 : w.cell? ⟨b, 0, none⟩ = some x) (hc1 : w.cell? ⟨b, 1, none⟩ = some y) (hB : B ≤ w.heap.size) (hlen : ds.length ≤ 100000000) (ty : TypeId) :
    ∃ v' w', (Builtin.append_ #[68, 68] ty #[v, .slice (some ⟨b, 0, none⟩) 1 1]).run Try.prog w = .ok v' w' ∧ OwnZ w' B z v' (ds ++ [d]) ∧ OwnI w' B z l ∧ w.grownBy w' v.ownBlock := by
  obtain ⟨css, hl, hO, hel⟩ := h
  obtain ⟨i, hi, hzr, hsz, hby⟩ := infoDl
  have hfl := flat_len (OwnZ.lens hl hel)
  obtain ⟨a1, c1, e1⟩ := hx.shape
  obtain ⟨a2, c2, e2⟩ := hy.shape
  have hnews : ∀ j t, [x, y][j]? = some t → w.cell? ((⟨b, 0, none⟩ : Addr).add j) = some t := by
    intro j t ht
    rw [Addr.add_lit, Nat.zero_add]
    rcases j with _ | _ | j
    · simp at ht; subst ht; exact hc0
    · simp at ht; subst ht; exact hc1
    · simp at ht
  have hones : ∀ t ∈ [x, y], t.oneCell' = true := by
    intro t ht
    simp only [List.mem_cons, List.not_mem_nil, or_false] at ht
    rcases ht with rfl | rfl
    · rw [e1]; rfl
    · rw [e2]; rfl
  obtain ⟨v', w', hr, h1, h2, _⟩ := run_append_own (P := Try.prog) w B 68 ty 57 i _ 2 i.bytes Try.underlying68 hi hzr hsz rfl rfl (by decide) v ds.length css.flatten hO ⟨b, 0, none⟩ 1 1 [x, y] (by simp) hnews hones (by unfold maxLen; omega) (by
    have : (ds.length + 1) * i.bytes ≤ 1000000000 * 1000 := Nat.mul_le_mul (by omega) hby
    omega) hB
  refine ⟨v', w', hr, ⟨css ++ [[x, y]], by simp [hl], by simpa [List.flatten_append] using h1, fun k k1 k2 => ?_⟩, hz.kept h2 (hz.apartDs hO), h2⟩
  by_cases hk : k < ds.length
  · rw [List.getElem_append_left (by omega), List.getElem_append_left hk]
    obtain ⟨x', y', e, ⟨q1, p1⟩, ⟨q2, p2⟩⟩ := hel k (by omega) hk
    exact ⟨x', y', e, ⟨q1.kept h2 (q1.apartDs hO), p1⟩, ⟨q2.kept h2 (q2.apartDs hO), p2⟩⟩
  · have hk' : k = ds.length := by simp at k2; omega
    subst hk'
    refine ⟨x, y, ?_, ?_, ?_⟩
    · rw [List.getElem_append_right (by omega)]; simp [hl]
    · rw [List.getElem_append_right (by omega)]; simp only [Nat.sub_self, List.getElem_cons_zero]; exact ⟨hx.kept h2 (hx.apartDs hO), px⟩
    · rw [List.getElem_append_right (by omega)]; simp only [Nat.sub_self, List.getElem_cons_zero]; exact ⟨hy.kept h2 (hy.apartDs hO), py⟩
theorem OwnZ.lt (h : OwnZ w B z v ds) : ∀ k, v.ownBlock = some k → B ≤ k ∧ k < w.heap.size := by
  obtain ⟨css, hl, hO, hel⟩ := h
  exact fun k hk => hO.lt k hk
theorem wpList_append_Z {ops : Array Oper} {rest : List Oper} {o : Oper} {a : Act} {Q : Exit → Act → World → Prop} (hg : o.guard = none) (s y0 : Operand)
    (ho : o.op = .call { callee := .builtin .append, args := #[s, y0], argTypes := #[68, 68] })
    (b N : Nat) (x y : Value) (hs : a.eval s = v) (h : OwnZ w B z v ds) (hz : OwnI w B z l) (hx : OwnI w B x d.c) (hy : OwnI w B y d.s) (px : Parted x z) (py : Parted y z) (he : a.eval y0 = .slice (some ⟨b, 0, none⟩) 1 1)
    (hc0 : w.cell? ⟨b, 0, none⟩ = some x) (hc1 : w.cell? ⟨b, 1, none⟩ = some y) (hB : B ≤ w.heap.size) (hlen : ds.length ≤ 100000000) (hN : ds.length + 1 = N)
    (hK : ∀ a' c' w', OwnZ w' B z (.slice a' N c') (ds ++ [d]) → OwnI w' B z l → w.grownBy w' v.ownBlock → wpList Try.prog ops Q rest (a.put o.dst (.slice a' N c')) w') : wpList Try.prog ops Q (o :: rest) a w := by
  obtain ⟨v', w', hr, h1, h2, h3⟩ := run_append_Z h hz hx hy px py hc0 hc1 hB hlen o.type
  obtain ⟨a', c', e⟩ := h1.len64
  rw [show (ds ++ [d]).length = N by simp; exact hN] at e
  subst e
  refine wpList_plain hg fun K hK' => ?_
  unfold Oper.wp execOp
  simp only [ho, resolve, invoke, builtin, Sem.run_bind, Sem.run_pure, Result.andThen_ok, List.map_toArray, List.map_cons, List.map_nil, hs, he, hr]
  exact hK' _ _ (hK a' c' w' h1 h2 h3)
theorem OwnZ.frame {w w' : World} {B : Nat} {z v : Value} {ds : List DealingD} (h : OwnZ w B z v ds) (hs : w.heap.size ≤ w'.heap.size) (hb : ∀ k, B ≤ k → k < w.heap.size → w'.heap[k]? = w.heap[k]?) : OwnZ w' B z v ds := by
  obtain ⟨css, hl, hO, hel⟩ := h
  refine ⟨css, hl, ownsRow_frame hO fun g hg => hb g (hO.lt g hg).1 (hO.lt g hg).2, fun i h1 h2 => ?_⟩
  obtain ⟨x, y, e, ⟨q1, p1⟩, ⟨q2, p2⟩⟩ := hel i h1 h2
  exact ⟨x, y, e, ⟨q1.since hs hb, p1⟩, ⟨q2.since hs hb, p2⟩⟩
theorem OwnZ.within {w w' : World} {B lo hi : Nat} {z v : Value} {ds : List DealingD} (h : OwnZ w B z v ds) (hw : Within lo hi w w') (hd : hi ≤ B) : OwnZ w' B z v ds := h.frame hw.size fun k hk hlt => hw.block k hlt (.inr (by omega))
theorem OwnI.withinR {w w' : World} {B lo hi : Nat} {v : Value} {l : List Int} (h : OwnI w B v l) (hw : Within lo hi w w') (hd : hi ≤ B) : OwnI w' B v l := h.since hw.size fun k hk hlt => hw.block k hlt (.inr (by omega))
theorem OwnI.here {w : World} {B : Nat} {v : Value} {l : List Int} (h : OwnI w B v l) : Ints w v l := h.ints
end
end Go.Proofs.Ytacpnphfopmofaa
namespace Go.Proofs.Ytacpnphfopmofaa
open Go.RowKit
set_option linter.unusedSimpArgs false
set_option linter.unusedVariables false

theorem km_step {gr : GroupD} {l : List DealingD} {an : List (List Int)} {k : Nat} {os : List Int} {ms : List DealingD} {Z : DealingD} {OW : List Int} (hO : kqL gr l an k = os) (hM : kmL gr l an k = ms) (hZ : atD l k = Z) (hW : atR an k = OW) (q : Bool) (hq : qdB gr Z OW = q) :
    kqL gr l an (k + 1) = (if q = true then os ++ [(k : Int) + 1] else os) ∧ kmL gr l an (k + 1) = (if q = true then ms ++ [mnD gr Z OW] else ms) := by
  subst hO hM hZ hW hq
  exact ⟨rfl, rfl⟩
theorem Parted.here {w Y : World} {B C : Nat} {x z : Value} {l1 l2 : List Int} (h1 : OwnI w C x l1) (h2 : OwnI Y B z l2) (hC : Y.heap.size ≤ C) : Parted x z := by
  cases e : x.ownBlock with
  | none => exact .inl e
  | some k =>
    refine .inr fun e2 => ?_
    have a := (h1.lt k e).1
    rw [e] at e2
    have b := (h2.lt k e2.symm).2
    omega
theorem OwnI.setTwoK {w : World} {B b : Nat} {v : Value} {l : List Int} (h : OwnI w B v l) (hb : ∀ k, v.ownBlock = some k → b ≠ k) (x y : Value) : OwnI ((w.setCell ⟨b, 0, none⟩ x).setCell ⟨b, 1, none⟩ y) B v l := by
  have one : ∀ {u : World} (j : Nat) (x : Value), OwnI u B v l → OwnI (u.setCell ⟨b, j, none⟩ x) B v l := fun {u} j x h => h.kept (grownBy_setCell _ b j x) (by
    cases e : v.ownBlock with
    | none => exact .inl rfl
    | some k => exact .inr fun e2 => hb k e (Option.some.inj e2).symm)
  exact one 1 y (one 0 x h)
theorem OwnZ.low {w : World} {B B' : Nat} {z v : Value} {ds : List DealingD} (h : OwnZ w B z v ds) (hB : B' ≤ B) : OwnZ w B' z v ds := by
  obtain ⟨css, hl, hO, hel⟩ := h
  refine ⟨css, hl, ownsRow_mono hO hB, fun i h1 h2 => ?_⟩
  obtain ⟨x, y, e, ⟨q1, p1⟩, ⟨q2, p2⟩⟩ := hel i h1 h2
  exact ⟨x, y, e, ⟨q1.mono hB, p1⟩, ⟨q2.mono hB, p2⟩⟩
set_option maxRecDepth 100000 in
set_option maxHeartbeats 4000000 in
theorem spec_kgQualified (gr : GroupD) (lv : Value) (l : List DealingD) (av : Value) (an : List (List Int)) (w : World) (hg : OkG gr) (hl : RdR rDealing w lv l) (ha : RdL kInts w av an) (hd : ∀ d ∈ l, deB gr d = true) (hn : an.length = l.length) (h7 : l.length ≤ 7) :
    Calls Try.prog 173 #[.agg #[.int .i64 gr.p, .int .i64 gr.q, .int .i64 gr.g], lv, av] w fun e w' => (∃ v1 v2, e = .returned (.tuple #[v1, v2]) ∧ OwnI w' w.heap.size v1 (kqE gr l an) ∧ OwnZ w' w.heap.size v1 v2 (kmE gr l an)) ∧ Below w.heap.size w w' := by
  have HG := Lib.hid hg
  have HDE := Lib.hid hd
  have HNN := Lib.hid hn
  obtain ⟨lva, lvn, lvc, rfl⟩ := hl.shape
  have Elv := Lib.hid hl.len
  have Hlv := Lib.hid hl
  obtain ⟨ava, avn, avc, rfl⟩ := ha.shape
  have Eav := Lib.hid ha.len
  have Hav := Lib.hid ha
  have hl7 : lvn ≤ 7 := by have := Elv.out; omega
  have hln1 : avn ≤ lvn := by have := Elv.out; have := Eav.out; have := HNN.out; omega
  have hln2 : lvn ≤ avn := by have := Elv.out; have := Eav.out; have := HNN.out; omega
  clear hg hd hn hl ha h7
  obtain ⟨W, hW⟩ : ∃ W, W = w.alloc (.cells #[.int .i64 gr.p, .int .i64 gr.q, .int .i64 gr.g] 24) := ⟨_, rfl⟩
  have HB : Hid (Below w.heap.size w W) := by unfold Hid; rw [hW]; (repeat (first | exact Below.refl _ _ | assumption | refine Below.drew ?_ | refine Below.alloc ?_ (by first | (simp; done) | (simp; omega)) _ | refine Below.setCell ?_ (by first | (simp; done) | (simp; omega)) _))
  have HGB : Hid (BoxN W w.heap.size 24 [.int .i64 gr.p, .int .i64 gr.q, .int .i64 gr.g]) := by unfold Hid; rw [hW]; exact BoxN.new w [.int .i64 gr.p, .int .i64 gr.q, .int .i64 gr.g] _
  have hsW : w.heap.size < W.heap.size := by rw [hW]; simp
  have HO0 : Hid (OwnI W W.heap.size (.slice none 0 0) (kqL gr l an 0)) := OwnI.nil _ _
  have HZ0 : Hid (OwnZ W W.heap.size (.slice none 0 0) (.slice none 0 0) (kmL gr l an 0)) := OwnZ.nil _ _ _
  have HB0 : Hid (Below W.heap.size W W) := Below.refl _ _
  go_enter Try.func173, Try.ntmps173
  go_wp2_with fail
  rw [← hW]
  clear hW
  go_loopg [8, 9, 16] lvn (fun gk ov dv iv wr => ∃ (k on : Nat) (oa : Option Addr) (oc : Nat) (da : Option Addr) (dc : Nat), k + gk = lvn ∧ iv = .int .i64 (k : Int) ∧ ov = .slice oa on oc ∧ dv = .slice da on dc ∧ Hid (OwnI wr W.heap.size (.slice oa on oc) (kqL gr l an k)) ∧ Hid (OwnZ wr W.heap.size (.slice oa on oc) (.slice da on dc) (kmL gr l an k)) ∧ Hid (Below W.heap.size W wr))
  case atStart => exact ⟨0, 0, none, 0, none, 0, by omega, rfl, rfl, rfl, HO0, HZ0, HB0⟩
  case round =>
    clear HO0 HZ0 HB0
    obtain ⟨k, on, oa, oc, da, dc, hkg, rfl, rfl, rfl, HO, HZ, HBr⟩ := hrel
    have HBW := Lib.hid (HB.out.trans (HBr.out.mono HB.out.size))
    have hsr := HBr.out.size
    have HON := Lib.hid (kql_len gr l an k)
    have HMN := Lib.hid (kml_kql gr l an k)
    obtain ⟨os, hos⟩ : ∃ z, kqL gr l an k = z := ⟨_, rfl⟩
    obtain ⟨ms, hms⟩ : ∃ z, kmL gr l an k = z := ⟨_, rfl⟩
    rw [hos] at HO HON HMN
    rw [hms] at HZ HMN
    have HOL : Hid (os.length = on) := HO.out.ints.len
    have hon7 : on ≤ k := by have := HON.out; have := HOL.out; omega
    by_cases hlt : k < lvn
    · have hgk : lvn - (k + 1) < gk := by omega
      have hgk2 : k + 1 + (lvn - (k + 1)) = lvn := by omega
      have b2 : decide (k < lvn) = true := decide_eq_true hlt
      have HK : Hid (k < l.length) := by unfold Hid; have := Elv.out; omega
      have HK2 : Hid (k < an.length) := by unfold Hid; have := Eav.out; omega
      obtain ⟨bz, oz, zca, zcn, zcc, zsa, zsn, zsc, e, K2, K3, f0, f1⟩ := RdDl.get Hlv.out HK.out
      have e' := e
      subst e'
      clear e
      obtain ⟨ba, oa2, hba, vs, hrv⟩ := Hav.out.at_ (by omega)
      have hba' := hba
      subst hba'
      clear hba
      have hra := hrv k HK2.out
      obtain ⟨vr, hvr⟩ : ∃ z, vs k = z := ⟨_, rfl⟩
      rw [hvr] at hra
      obtain ⟨hcr, hir⟩ := hra
      replace hir : Ints w vr (an[k]'HK2.out) := hir
      clear hvr hrv
      have HDD := Lib.hid (HDE.out _ (List.getElem_mem HK.out))
      have hat := atD_eq HK.out
      have har := atR_eq HK2.out
      have HST := Lib.hid (km_step (gr := gr) (l := l) (an := an) (k := k) hos hms rfl rfl)
      rw [← hat] at HDD f0 f1
      rw [← har] at hir
      clear hat har hos hms
      obtain ⟨Z, hZ⟩ : ∃ z, atD l k = z := ⟨_, rfl⟩
      obtain ⟨OW, hOW⟩ : ∃ z, atR an k = z := ⟨_, rfl⟩
      rw [hZ] at HDD f0 f1 HST
      rw [hOW] at hir HST
      clear hZ hOW
      obtain ⟨ra, rn, rc, rfl⟩ := hir.shape
      have Hzc := Lib.hid f0
      have Hzs := Lib.hid f1
      have Hrw := Lib.hid hir
      have KR := Lib.hid hcr
      clear f0 f1 hir hcr
      have b0 : (0 : Int) ≤ (k : Int) := by omega
      have bk1 : (k : Int) < (avn : Int) := by omega
      have bk2 : (k : Int) < (lvn : Int) := by omega
      have hwk : IntKind.i64.wrap ((k : Int) + 1) = (k : Int) + 1 := IntWalk.i64_in _ (by omega)
      have HKI : Hid (I64 ((k : Int) + 1)) := ⟨by omega, by omega⟩
      obtain ⟨q, hq⟩ : ∃ q, qdB gr Z OW = q := ⟨_, rfl⟩
      have HQ := Lib.hid hq
      have HSQ := Lib.hid (HST.out q hq)
      clear hq HST
      obtain ⟨R1, hR1⟩ : ∃ r, r = wr.heap.size := ⟨_, rfl⟩
      obtain ⟨V, hV⟩ : ∃ V, V = wr.alloc (.cells #[.slice zca zcn zcc, .slice zsa zsn zsc] 57) := ⟨_, rfl⟩
      have hbV : Below wr.heap.size wr V := by rw [hV]; exact (Below.refl _ _).alloc (Nat.le_refl _) _
      have HP1 : Hid (BoxN V R1 57 [.slice zca zcn zcc, .slice zsa zsn zsc]) := by unfold Hid; rw [hV, hR1]; exact BoxN.new wr [.slice zca zcn zcc, .slice zsa zsn zsc] _
      have z0 := box_at K2 HBW.out
      have z1 := box_at K3 HBW.out
      have hrl1 : wr.heap.size ≤ R1 := Nat.le_of_eq hR1.symm
      have hrl2 : R1 ≤ wr.heap.size := Nat.le_of_eq hR1
      clear K2 K3
      go_upto_region 6 with fail
      rw [← hV, ← hR1]
      have HOV := Lib.hid (HO.out.below hbV)
      have HZV := Lib.hid (HZ.out.below hbV)
      have HFV : Hid (Below w.heap.size w V) := HBW.out.trans (hbV.mono HBW.out.size)
      have HBV : Hid (Below W.heap.size W V) := HBr.out.trans (hbV.mono hsr)
      have HGV := Lib.hid ((HGB.out.below HBr.out).below hbV)
      have hsV := hbV.size
      clear hV hbV z0 z1 hR1
      have p0 := HP1.out.cell (i := 0) rfl
      have p1 := HP1.out.cell (i := 1) rfl
      have c0 := HGV.out.cell (i := 0) rfl
      have c1 := HGV.out.cell (i := 1) rfl
      have c2 := HGV.out.cell (i := 2) rfl
      have y1 := box_at KR.out HFV.out
      have hc : Below V.heap.size V V := Below.refl _ _
      try (go_wp2_with fail)
      refine wp_region_noPanic ?_
      have hCC : ∀ w', Below V.heap.size V w' → (w'.cell? ⟨w.heap.size, 0, none⟩ = some (.int .i64 gr.p) ∧ w'.cell? ⟨w.heap.size, 1, none⟩ = some (.int .i64 gr.q) ∧ w'.cell? ⟨w.heap.size, 2, none⟩ = some (.int .i64 gr.g) ∧ w'.cell? ⟨R1, 0, none⟩ = some (.slice zca zcn zcc) ∧ w'.cell? ⟨R1, 1, none⟩ = some (.slice zsa zsn zsc) ∧ w'.cell? ⟨ba, oa2 + k, none⟩ = some (.slice ra rn rc)) := fun w' h => ⟨box_at c0 h, box_at c1 h, box_at c2 h, box_at p0 h, box_at p1 h, box_at y1 h⟩
      refine wp_region_L (fun w' => w'.cell? ⟨w.heap.size, 0, none⟩ = some (.int .i64 gr.p) ∧ w'.cell? ⟨w.heap.size, 1, none⟩ = some (.int .i64 gr.q) ∧ w'.cell? ⟨w.heap.size, 2, none⟩ = some (.int .i64 gr.g) ∧ w'.cell? ⟨R1, 0, none⟩ = some (.slice zca zcn zcc) ∧ w'.cell? ⟨R1, 1, none⟩ = some (.slice zsa zsn zsc) ∧ w'.cell? ⟨ba, oa2 + k, none⟩ = some (.slice ra rn rc)) 15 [] [9] [(0, []), (1, []), (2, []), (3, []), (4, [1, 0]), (5, [0]), (6, [5, 4, 0]), (7, [0]), (8, [0]), (9, [1]), (10, [])] [11, 12] (by kernel_rfl) (by kernel_rfl) (by kernel_rfl) (by kernel_rfl) (by kernel_rfl) rfl (fun _ _ _ _ h => h) hCC ?_
      simp only [pickR, pickN, List.getElem?_cons_zero, List.getElem?_cons_succ]
      refine wpPre_nil (fun _ => ?_)
      iterate 6 (refine' chainL_read _ rfl rfl (fun w' hS' => ?_) ?_; rotate_left; · (simp only [lookP, allP, Act.put, List.getElem?_cons_zero, List.getElem?_cons_succ, List.setIfInBounds_toArray, List.set_cons_zero, List.set_cons_succ]; (try dsimp only at hS'); go_simp; (try with_reducible rfl)))
      -- 6: call { callee := value (func 204), args := #[t22, t23, t27], argTypes := #[24, 57, 42] }
      refine chainL_do hCC (d := (some 28)) (fun v z => ∃ (a1 : Option Addr) (n1 c1 : Nat) (a2 : Option Addr) (n2 c2 : Nat), v = .tuple #[.agg #[.slice a1 n1 c1, .slice a2 n2 c2], .bool q] ∧ (q = true → OwnI z V.heap.size (.slice a1 n1 c1) (mnD gr Z OW).c ∧ OwnI z V.heap.size (.slice a2 n2 c2) (mnD gr Z OW).s)) (fun v w1 w2 hw h => by obtain ⟨a1, n1, c1, a2, n2, c2, e, h1⟩ := h; exact ⟨a1, n1, c1, a2, n2, c2, e, fun hq => ⟨(h1 hq).1.below hw, (h1 hq).2.below hw⟩⟩) rfl rfl (fun w' hS' => ?_) ?_
      · simp only [lookP, allP, Act.put, List.getElem?_cons_zero, List.getElem?_cons_succ, List.setIfInBounds_toArray, List.set_cons_zero, List.set_cons_succ]
        intro K hK
        go_simp
        go_at_call 204
        refine (spec_kgMended gr _ Z _ OW _ HG.out (DlR.mk ((Hzc.out.below HFV.out).below hS'.1) ((Hzs.out.below HFV.out).below hS'.1)) ((Hrw.out.below HFV.out).below hS'.1) HDD.out).mono ?_
        rintro e u ⟨⟨a1, n1, c1, a2, n2, c2, rfl, h1⟩, hq⟩
        rw [HQ.out] at h1 ⊢
        have hsz0 := hS'.1.size
        exact hK.out _ _ hq ⟨a1, n1, c1, a2, n2, c2, rfl, fun e => ⟨(h1 e).1.mono hsz0, (h1 e).2.mono hsz0⟩⟩
      -- 7: move t28
      refine chainL_have (d := (some 21)) (fun v z => ∃ (a1 : Option Addr) (n1 c1 : Nat) (a2 : Option Addr) (n2 c2 : Nat), v = .tuple #[.agg #[.slice a1 n1 c1, .slice a2 n2 c2], .bool q] ∧ (q = true → OwnI z V.heap.size (.slice a1 n1 c1) (mnD gr Z OW).c ∧ OwnI z V.heap.size (.slice a2 n2 c2) (mnD gr Z OW).s)) (fun v w1 w2 hw h => by obtain ⟨a1, n1, c1, a2, n2, c2, e, h1⟩ := h; exact ⟨a1, n1, c1, a2, n2, c2, e, fun hq => ⟨(h1 hq).1.below hw, (h1 hq).2.below hw⟩⟩) rfl rfl (fun w' hS' => ?_) ?_
      · simp only [lookP, allP, Act.put, List.getElem?_cons_zero, List.getElem?_cons_succ, List.setIfInBounds_toArray, List.set_cons_zero, List.set_cons_succ]
        intro x6 hx6
        obtain ⟨a1, n1, c1, a2, n2, c2, rfl, h1⟩ := hx6
        refine ⟨.tuple #[.agg #[.slice a1 n1 c1, .slice a2 n2 c2], .bool q], ?_, a1, n1, c1, a2, n2, c2, rfl, h1⟩
        go_simp
      -- 8: extract t21 0
      refine chainL_have (d := (some 29)) (fun v z => ∃ (a1 : Option Addr) (n1 c1 : Nat) (a2 : Option Addr) (n2 c2 : Nat), v = .agg #[.slice a1 n1 c1, .slice a2 n2 c2] ∧ (q = true → OwnI z V.heap.size (.slice a1 n1 c1) (mnD gr Z OW).c ∧ OwnI z V.heap.size (.slice a2 n2 c2) (mnD gr Z OW).s)) (fun v w1 w2 hw h => by obtain ⟨a1, n1, c1, a2, n2, c2, e, h1⟩ := h; exact ⟨a1, n1, c1, a2, n2, c2, e, fun hq => ⟨(h1 hq).1.below hw, (h1 hq).2.below hw⟩⟩) rfl rfl (fun w' hS' => ?_) ?_
      · simp only [lookP, allP, Act.put, List.getElem?_cons_zero, List.getElem?_cons_succ, List.setIfInBounds_toArray, List.set_cons_zero, List.set_cons_succ]
        intro x7 hx7
        obtain ⟨a1, n1, c1, a2, n2, c2, rfl, h1⟩ := hx7
        refine ⟨.agg #[.slice a1 n1 c1, .slice a2 n2 c2], ?_, a1, n1, c1, a2, n2, c2, rfl, h1⟩
        go_simp
      -- 9: extract t21 1
      refine chainL_late (d := (some 30)) (.bool q) rfl rfl (fun w' hS' => ?_) ?_
      · simp only [lookP, allP, Act.put, List.getElem?_cons_zero, List.getElem?_cons_succ, List.setIfInBounds_toArray, List.set_cons_zero, List.set_cons_succ]
        intro x7 hx7
        obtain ⟨a1, n1, c1, a2, n2, c2, rfl, h1⟩ := hx7
        go_simp
      -- 10: alloc 57
      refine chainL_do hCC (d := (some 12)) (fun v z => ∃ b, v = .pointer (some ⟨b, 0, none⟩) ∧ V.heap.size ≤ b ∧ BoxN z b 57 [.slice none 0 0, .slice none 0 0]) (fun v w1 w2 hw h => by obtain ⟨b, e, h1, h2⟩ := h; exact ⟨b, e, h1, h2.below hw⟩) rfl rfl (fun w' hS' => ?_) ?_
      · simp only [lookP, allP, Act.put, List.getElem?_cons_zero, List.getElem?_cons_succ, List.setIfInBounds_toArray, List.set_cons_zero, List.set_cons_succ]
        intro K hK
        go_simp
        have hsz0 := hS'.1.size
        refine hK.out _ _ ((Below.refl _ _).alloc (Nat.le_refl _) _) ?_
        exact ⟨_, rfl, hsz0, BoxN.new w' [.slice none 0 0, .slice none 0 0] _⟩
      refine chainL_nil (fun u1 hS' => ?_)
      simp only [allP, Act.put, List.setIfInBounds_toArray, List.set_cons_zero, List.set_cons_succ]
      intro x10 hx10
      intro x8 hx8
      intro x7 hx7
      intro x6 hx6
      have hq1 := hS'.1
      clear hS'
      replace hc := Below.next hc hq1
      replace c0 := box_at c0 hq1
      replace c1 := box_at c1 hq1
      replace c2 := box_at c2 hq1
      replace p0 := box_at p0 hq1
      replace p1 := box_at p1 hq1
      replace y1 := box_at y1 hq1
      clear hq1
      clear p0 p1 c0 c1 c2 y1 hx6 hx7
      obtain ⟨a1, n1, d1, a2, n2, d2, rfl, hqx⟩ := hx8
      obtain ⟨bx, rfl, hbx1, hbx2⟩ := hx10
      have HBX0 := Lib.hid hbx2
      have HQX := Lib.hid hqx
      have r0 := HBX0.out.cell (i := 0) rfl
      have r1 := HBX0.out.cell (i := 1) rfl
      have fr := fun j => HBX0.out.frozen j
      have HC1 := Lib.hid hc
      clear hqx hbx2
      go_wp2_with fail
      refine NoPanic.normal ?_
      clear r0 r1 fr hc
      obtain ⟨Y, hY⟩ : ∃ Y, Y = (u1.setCell ⟨bx, 0, none⟩ (.slice a1 n1 d1)).setCell ⟨bx, 1, none⟩ (.slice a2 n2 d2) := ⟨_, rfl⟩
      rw [← hY]
      have HVY : Hid (Below V.heap.size V Y) := by unfold Hid; rw [hY]; exact (HC1.out.setCell (p := ⟨bx, 0, none⟩) hbx1 _).setCell (p := ⟨bx, 1, none⟩) hbx1 _
      have HBXY : Hid (BoxN Y bx 57 [.slice a1 n1 d1, .slice a2 n2 d2]) := by unfold Hid; rw [hY]; exact (HBX0.out.set 0 (.slice a1 n1 d1)).set 1 (.slice a2 n2 d2)
      have HQY : Hid (q = true → OwnI Y V.heap.size (.slice a1 n1 d1) (mnD gr Z OW).c ∧ OwnI Y V.heap.size (.slice a2 n2 d2) (mnD gr Z OW).s) := fun e => by
        obtain ⟨h1, h2⟩ := HQX.out e
        rw [hY]
        exact ⟨h1.setTwoK (h1.apartX HBX0.out (by decide)) _ _, h2.setTwoK (h2.apartX HBX0.out (by decide)) _ _⟩
      clear hY
      have hsY := HVY.out.size
      have HOY := Lib.hid (HOV.out.below HVY.out)
      have HZY := Lib.hid (HZV.out.below HVY.out)
      have HBY : Hid (Below W.heap.size W Y) := HBV.out.trans (HVY.out.mono (by omega))
      clear HQX HBX0 HC1
      cases q with
      | false =>
        go_wp2_with fail
        go_roundg (lvn - (k + 1))
        case measure => exact hgk
        case rel => exact ⟨k + 1, on, oa, oc, da, dc, hgk2, by go_num, rfl, rfl, by unfold Hid; rw [HSQ.out.1]; exact HOY.out, by unfold Hid; rw [HSQ.out.2]; exact HZY.out, HBY⟩
      | true =>
        have M1 := Lib.hid ((HQY.out rfl).1.mono (show W.heap.size ≤ V.heap.size by omega))
        have M2 := Lib.hid ((HQY.out rfl).2.mono (show W.heap.size ≤ V.heap.size by omega))
        have P1 := Lib.hid (Parted.here (HQY.out rfl).1 HOV.out (Nat.le_refl _))
        have P2 := Lib.hid (Parted.here (HQY.out rfl).2 HOV.out (Nat.le_refl _))
        have HAX := Lib.hid (HOY.out.apartX HBXY.out (by decide))
        have hub : W.heap.size ≤ Y.heap.size := by omega
        have HML : Hid (ms.length = on) := by have := HMN.out; have := HOL.out; unfold Hid; omega
        have b3 := HBXY.out.cell (i := 0) rfl
        have b4 := HBXY.out.cell (i := 1) rfl
        go_upto_region 9 with (at_builtin; refine wpList_append_oneX rfl _ _ rfl W.heap.size (.slice oa on oc) _ os ((k : Int) + 1) (on + 1) rfl (HOY.out.alloc _) rfl (Ints.lit1 _ HKI.out) (by rw [HOL.out]; omega) (by simp; omega) (by rw [HOL.out]) ?_; intro a5 c5 w5 hown5 hgr5 hn5; have hal : Below Y.heap.size Y (Y.alloc (.cells #[.int .i64 ((k : Int) + 1)] 3)) := (Below.refl _ _).alloc (Nat.le_refl _) _; have hga := grownBy_trans (grownBy_of_below hal) hgr5; have HQ5 := Lib.hid ((HZY.out.below hal).ints (HOY.out.alloc _) hgr5 hn5); have HZ5 := Lib.hid hown5; have N1 := Lib.hid (M1.out.kept hga P1.out); have N2 := Lib.hid (M2.out.kept hga P2.out); have R1 := Lib.hid (P1.out.new (M1.out.alloc _) hn5); have R2 := Lib.hid (P2.out.new (M2.out.alloc _) hn5); have NB := Lib.hid (HBXY.out.grownR hga HAX.out); have hb5 := HOY.out.grown hga hub; have HB5 := Lib.hid hb5; have hs5 := hb5.size; clear hown5 hgr5 hn5 hal hga hb5 b3 b4; have b3 := NB.out.cell (i := 0) rfl; have b4 := NB.out.cell (i := 1) rfl)
        go_wp2_with (at_builtin; refine wpList_append_Z (d := mnD gr Z OW) (v := .slice da on dc) (z := .slice a5 (on + 1) c5) (ds := ms) (l := os ++ [(k : Int) + 1]) rfl _ _ rfl w5.heap.size (on + 1) (.slice a1 n1 d1) (.slice a2 n2 d2) rfl (HQ5.out.below ((Below.refl _ _).alloc (Nat.le_refl _) _)) (HZ5.out.alloc _) (N1.out.alloc _) (N2.out.alloc _) R1.out R2.out rfl ((BoxN.new w5 [.slice a1 n1 d1, .slice a2 n2 d2] 57).cell (i := 0) rfl) ((BoxN.new w5 [.slice a1 n1 d1, .slice a2 n2 d2] 57).cell (i := 1) rfl) (by simp; omega) (by rw [HML.out]; omega) (by rw [HML.out]) ?_; intro a7 c7 w7 hq7 hz7 hgr7; have hal7 : Below w5.heap.size w5 (w5.alloc (.cells #[.slice a1 n1 d1, .slice a2 n2 d2] 57)) := (Below.refl _ _).alloc (Nat.le_refl _) _; have hb7' := (Below.refl W.heap.size (w5.alloc (.cells #[.slice a1 n1 d1, .slice a2 n2 d2] 57))).grown hgr7 (by simp; omega) (fun k hk => ((HQ5.out.below hal7).lt k hk).1); have HB7 := Lib.hid ((hal7.mono (show W.heap.size ≤ w5.heap.size by omega)).trans hb7'); have HQ7 := Lib.hid hq7; have HZ7 := Lib.hid hz7; clear hq7 hz7 hgr7 hal7 hb7' b3 b4)
        have HB9 := Lib.hid (HB5.out.trans HB7.out)
        go_roundg (lvn - (k + 1))
        case measure => exact hgk
        case rel => exact ⟨k + 1, on + 1, a5, c5, a7, c7, hgk2, by go_num, rfl, rfl, by unfold Hid; rw [HSQ.out.1]; exact HZ7.out, by unfold Hid; rw [HSQ.out.2]; exact HQ7.out, HBY.out.trans HB9.out⟩
    · obtain rfl : lvn = k := by omega
      have b2 : decide (lvn < lvn) = false := decide_eq_false (by omega)
      go_wp2_with fail
      go_ret2
      exact ⟨⟨_, _, rfl, by unfold kqE; rw [Elv.out, hos]; exact HO.out.mono (by omega), by unfold kmE; rw [Elv.out, hms]; exact HZ.out.low (by omega)⟩, HBW.out⟩
end Go.Proofs.Ytacpnphfopmofaa
namespace Go.Proofs.Ytacpnphfopmofaa
open Go.RowKit
set_option linter.unusedSimpArgs false
set_option linter.unusedVariables false

/-- a dealing of the call's own, or none, is returned -/
def RetZD (e : Ending) (w : World) (B : Nat) : Prop := ∃ (x y : Value) (lx ly : List Int) (b : Bool), e = .returned (.tuple #[.agg #[x, y], .bool b]) ∧ OwnD w B x y lx ly ∧ lx.length ≤ 7 ∧ ly.length ≤ 7 ∧ (b = true → 1 ≤ lx.length ∧ 1 ≤ ly.length)
theorem OwnD.nils (w : World) (B : Nat) : OwnD w B (.slice none 0 0) (.slice none 0 0) [] [] := ⟨OwnI.nil _ _, OwnI.nil _ _, fun k h => by cases h⟩
theorem RetZD.no (w : World) (B : Nat) : RetZD (.returned (.tuple #[.agg #[.slice none 0 0, .slice none 0 0], .bool false])) w B := ⟨_, _, [], [], false, rfl, OwnD.nils _ _, by simp, by simp, fun h => by cases h⟩
end Go.Proofs.Ytacpnphfopmofaa
namespace Go.Proofs.Ytacpnphfopmofaa
open Go.RowKit
set_option linter.unusedSimpArgs false
set_option linter.unusedVariables false

theorem ownsRow_ne {w : World} {B1 B2 s1 s2 n1 n2 : Nat} {e1 e2 : TypeId} {v1 v2 : Value} {xs1 xs2 : List Value} (hne : e1 ≠ e2) (h1 : w.ownsRow B1 e1 s1 v1 n1 xs1) (h2 : w.ownsRow B2 e2 s2 v2 n2 xs2) : v1.ownBlock = none ∨ v1.ownBlock ≠ v2.ownBlock := by
  cases e : v1.ownBlock with
  | none => exact .inl rfl
  | some k =>
    refine .inr fun e2' => ?_
    rcases h1.2 with ⟨h, _⟩ | ⟨g, c, cur, rfl, hb, hg, _⟩
    · rw [h] at e; cases e
    · rcases h2.2 with ⟨h, _⟩ | ⟨g', c', cur', rfl, hb', hg', _⟩
      · rw [h] at e2'; cases e2'
      · have q1 : some g = some k := e
        have q2 : some k = some g' := e2'
        cases q1
        cases q2
        rw [hg] at hg'
        injection hg' with hg'
        injection hg' with h1 h2 h3
        exact hne h2
/-- one cell of a block written: still a list of integers -/
theorem OwnI.pokeW {w : World} {B : Nat} {v : Value} {l : List Int} (h : OwnI w B v l) (b j : Nat) {x : Int} (hx : I64 x) : ∃ l', OwnI (w.setCell ⟨b, j, none⟩ (.int .i64 x)) B v l' ∧ l'.length = l.length ∧ ∀ y ∈ l', y ∈ l ∨ y = x := by
  by_cases hb : v.ownBlock = some b
  · obtain ⟨a, c, rfl⟩ := h.shape
    rcases h.2.2 with ⟨h1, _⟩ | ⟨g, c', cur, h1, _⟩
    · rw [h1] at hb; cases hb
    · cases h1
      have e : some g = some b := hb
      cases e
      exact ⟨l.set j x, (h.stored rfl j hx).1, by simp, fun y hy => List.mem_or_eq_of_mem_set hy⟩
  · exact ⟨l, h.kept (grownBy_setCell _ b j _) (.inr hb), rfl, fun y hy => .inl hy⟩
theorem list_of {α : Type} {P : Nat → α → Prop} : ∀ n, (∀ i, i < n → ∃ d, P i d) → ∃ ds : List α, ds.length = n ∧ ∀ i (h : i < ds.length), P i ds[i] := by
  intro n
  induction n with
  | zero => exact fun _ => ⟨[], rfl, fun i h => by simp at h⟩
  | succ n ih =>
    intro h
    obtain ⟨ds, h1, h2⟩ := ih fun i hi => h i (by omega)
    obtain ⟨d, hd⟩ := h n (by omega)
    refine ⟨ds ++ [d], by simp [h1], fun i hi => ?_⟩
    by_cases e : i < ds.length
    · rw [List.getElem_append_left e]; exact h2 i e
    · have e2 : i = ds.length := by simp at hi; omega
      subst e2
      rw [List.getElem_append_right (by omega)]
      simpa [h1] using hd
def DsB (n : Nat) (ds : List DealingD) : Prop := ∀ d ∈ ds, AllSmall d.c ∧ AllSmall d.s ∧ d.c.length ≤ 7 ∧ d.s.length = n
theorem OwnZ.poke {w : World} {B n : Nat} {z v : Value} {ds : List DealingD} (h : OwnZ w B z v ds) (hd : DsB n ds) (b j : Nat) (hv : v.ownBlock = none ∨ v.ownBlock ≠ some b) {x : Int} (hx : Small x) (h64 : I64 x) :
    ∃ ds', OwnZ (w.setCell ⟨b, j, none⟩ (.int .i64 x)) B z v ds' ∧ ds'.length = ds.length ∧ DsB n ds' := by
  obtain ⟨css, hl, hO, hel⟩ := h
  have hP : ∀ i, i < ds.length → ∃ d : DealingD, (∀ (h1 : i < css.length), ∃ x' y, css[i] = [x', y] ∧ (OwnI (w.setCell ⟨b, j, none⟩ (.int .i64 x)) B x' d.c ∧ Parted x' z) ∧ (OwnI (w.setCell ⟨b, j, none⟩ (.int .i64 x)) B y d.s ∧ Parted y z)) ∧ (AllSmall d.c ∧ AllSmall d.s ∧ d.c.length ≤ 7 ∧ d.s.length = n) := by
    intro i hi
    obtain ⟨x', y, e, ⟨q1, p1⟩, ⟨q2, p2⟩⟩ := hel i (by omega) hi
    obtain ⟨c', k1, k2, k3⟩ := q1.pokeW b j h64
    obtain ⟨s', k4, k5, k6⟩ := q2.pokeW b j h64
    obtain ⟨g1, g2, g3, g4⟩ := hd _ (List.getElem_mem hi)
    exact ⟨⟨c', s'⟩, fun h1 => ⟨x', y, e, ⟨k1, p1⟩, ⟨k4, p2⟩⟩, fun u hu => by
      rcases k3 u hu with h | h
      · exact g1 u h
      · rw [h]; exact hx, fun u hu => by
      rcases k6 u hu with h | h
      · exact g2 u h
      · rw [h]; exact hx, by show c'.length ≤ 7; omega, by show s'.length = n; omega⟩
  obtain ⟨ds', h1, h2⟩ := list_of (P := fun i (d : DealingD) => (∀ (h1 : i < css.length), ∃ x' y, css[i] = [x', y] ∧ (OwnI (w.setCell ⟨b, j, none⟩ (.int .i64 x)) B x' d.c ∧ Parted x' z) ∧ (OwnI (w.setCell ⟨b, j, none⟩ (.int .i64 x)) B y d.s ∧ Parted y z)) ∧ (AllSmall d.c ∧ AllSmall d.s ∧ d.c.length ≤ 7 ∧ d.s.length = n)) ds.length hP
  refine ⟨ds', ⟨css, by omega, by rw [h1]; exact hO.kept (grownBy_setCell _ b j _) hv, fun i k1 k2 => (h2 i k2).1 k1⟩, h1, fun d hd' => ?_⟩
  obtain ⟨i, hi, rfl⟩ := List.getElem_of_mem hd'
  exact (h2 i hi).2
theorem OwnZ.get {w : World} {B k : Nat} {z v : Value} {ds : List DealingD} (h : OwnZ w B z v ds) (hk : k < ds.length) :
    ∃ b c x y, v = .slice (some ⟨b, 0, none⟩) ds.length c ∧ B ≤ b ∧ b < w.heap.size ∧ w.cell? ⟨b, k * 2, none⟩ = some x ∧ w.cell? ⟨b, k * 2 + 1, none⟩ = some y ∧ OwnI w B x ds[k].c ∧ OwnI w B y ds[k].s ∧ (∀ q, y.ownBlock = some q → q ≠ b) := by
  obtain ⟨css, hl, hO, hel⟩ := h
  have hlen := OwnZ.lens hl hel
  have hO' := hO
  obtain ⟨x, y, e, ⟨q1, _⟩, ⟨q2, _⟩⟩ := hel k (by omega) hk
  rcases hO.2 with ⟨rfl, h0⟩ | ⟨b, c, cur, rfl, hb, hg, _⟩
  · omega
  · have hle : (k + 1) * 2 ≤ ds.length * 2 := Nat.mul_le_mul_right _ hk
    have h1 := World.ownsRow.cellAt hO' (k * 2) (by omega)
    have h2 := World.ownsRow.cellAt hO' (k * 2 + 1) (by omega)
    have f0 := flat_get hlen (i := k) (k := 0) (by omega)
    have f1 := flat_get hlen (i := k) (k := 1) (by omega)
    rw [Nat.add_zero] at f0
    rw [f0, List.getElem?_eq_getElem (by omega)] at h1
    rw [f1, List.getElem?_eq_getElem (by omega)] at h2
    rw [e] at h1 h2
    refine ⟨b, c, x, y, rfl, hb, (hO'.lt b rfl).2, h1, h2, q1, q2, fun q hq e2 => ?_⟩
    subst e2
    rcases q2.apartDs hO' with h | h
    · rw [h] at hq; cases hq
    · exact h (by rw [hq]; rfl)
theorem parted_nil (x : Value) : Parted x (.slice none 0 0) := by
  cases h : x.ownBlock with
  | none => exact .inl h
  | some k => exact .inr (by rw [h]; intro e; cases e)
/-- a row of bools in block b -/
def RowB (w : World) (B b n : Nat) : Prop := ∃ bs : List Bool, bs.length = n ∧ w.ownsRow B 4 1 (.slice (some ⟨b, 0, none⟩) n n) n (bs.map Value.bool)
section
variable {w w' : World} {B b n : Nat}
theorem RowB.cell {k : Nat} (h : RowB w B b n) (hk : k < n) : ∃ x, w.cell? ⟨b, k, none⟩ = some (.bool x) ∧ w.frozen? ⟨b, k, none⟩ = false := by
  obtain ⟨bs, hl, hO⟩ := h
  have h1 := World.ownsRow.cellAt hO k (by omega)
  rw [List.getElem?_map, List.getElem?_eq_getElem (by omega)] at h1
  exact ⟨_, h1, World.ownsRow.frozenAt hO k⟩
theorem RowB.below (h : RowB w B b n) (hb : Below w.heap.size w w') : RowB w' B b n := by
  obtain ⟨bs, hl, hO⟩ := h
  exact ⟨bs, hl, ownsRow_frame hO fun g hg => hb.block g (hO.lt g hg).2⟩
theorem RowB.lt (h : RowB w B b n) : B ≤ b ∧ b < w.heap.size := by
  obtain ⟨bs, hl, hO⟩ := h
  exact hO.lt b rfl
theorem RowB.set (h : RowB w B b n) (k : Nat) (x : Bool) : RowB (w.setCell ⟨b, k, none⟩ (.bool x)) B b n := by
  obtain ⟨bs, hl, hO⟩ := h
  have h1 := (hO.stored k (.bool x)).1
  exact ⟨bs.set k x, by simpa using hl, by simpa [List.map_set] using h1⟩
theorem RowB.ints {c : Nat} {v : Value} {l : List Int} (h : RowB w B b n) (hv : OwnI w B v l) (hc : v.ownBlock = some c) (j : Nat) (x : Value) : RowB (w.setCell ⟨c, j, none⟩ x) B b n := by
  obtain ⟨bs, hl, hO⟩ := h
  refine ⟨bs, hl, hO.kept (grownBy_setCell _ c j x) ?_⟩
  rw [← hc]
  exact ownsRow_ne (by decide) hO hv.2
theorem OwnI.bools {v : Value} {l : List Int} (hv : OwnI w B v l) (h : RowB w B b n) (j : Nat) (x : Value) : OwnI (w.setCell ⟨b, j, none⟩ x) B v l := by
  obtain ⟨bs, hl, hO⟩ := h
  refine hv.kept (grownBy_setCell _ b j x) ?_
  exact ownsRow_ne (e1 := 3) (by decide) hv.2 hO
theorem OwnZ.bools {z v : Value} {ds : List DealingD} (hv : OwnZ w B z v ds) (h : RowB w B b n) (j : Nat) (x : Value) : OwnZ (w.setCell ⟨b, j, none⟩ x) B z v ds := by
  have h' := h
  obtain ⟨bs, hl', hO'⟩ := h
  obtain ⟨css, hl, hO, hel⟩ := hv
  refine ⟨css, hl, hO.kept (grownBy_setCell _ b j x) (ownsRow_ne (by decide) hO hO'), fun i h1 h2 => ?_⟩
  obtain ⟨x', y, e, ⟨q1, p1⟩, ⟨q2, p2⟩⟩ := hel i h1 h2
  exact ⟨x', y, e, ⟨q1.bools h' j x, p1⟩, ⟨q2.bools h' j x, p2⟩⟩
theorem RowB.new (w : World) (n : Nat) (hn : n ≤ 1000) : RowB (w.alloc (.cells (madeCells #[.bool false] n) 4)) w.heap.size w.heap.size n := by
  refine ⟨List.replicate n false, by simp, ?_⟩
  have h1 := World.ownsRow_lit (e := 4) (size := 1) w (madeCells #[Value.bool false] n) n (Nat.le_refl _) (by unfold maxLen; omega) (by rw [← Array.length_toList, toList_madeCells_one]; simp)
  rw [toList_madeCells_one] at h1
  simpa using h1
end
theorem info_boolK : ∃ i, Try.prog.info? 4 = some i ∧ i.zero = some (.bool false) ∧ i.size = 1 ∧ i.bytes ≤ 1000 := by
  have h : (Try.prog.info? 4).map (fun i => (i.zero, i.size, decide (i.bytes ≤ 1000))) = some (some (.bool false), 1, true) := by kernel_rfl
  obtain ⟨i, hi, hz⟩ := Option.map_eq_some_iff.1 h
  simp only [Prod.mk.injEq] at hz
  exact ⟨i, hi, hz.1, hz.2.1, of_decide_eq_true hz.2.2⟩
theorem make_bools (n : Nat) (hn : n ≤ 1000) (u : World) : (Instr.makeSlice 189 (.int .i64 (n : Int)) (.int .i64 (n : Int))).run Try.prog u = .ok (.slice (some ⟨u.heap.size, 0, none⟩) n n) (u.alloc (.cells (madeCells #[.bool false] n) 4)) := by
  obtain ⟨i, hi, hz, hsz, hby⟩ := info_boolK
  have hb : (i.bytes : Int) * (n : Int) ≤ 281474976710656 := by
    have : i.bytes * n ≤ 1000 * 1000 := Nat.mul_le_mul hby hn
    have h2 : ((i.bytes * n : Nat) : Int) ≤ ((1000 * 1000 : Nat) : Int) := Int.ofNat_le.2 this
    rw [Int.natCast_mul] at h2
    omega
  have := run_make (P := Try.prog) u 189 4 i (.bool false) Try.underlying189 hi hz .i64 .i64 n n (by omega) (Int.le_refl _) hb (by omega)
  simpa [Value.cells, hsz] using this
theorem RdFa.get {w : World} {a : Option Addr} {n c k : Nat} {l : List FaultD} (h : RdR rFault w (.slice a n c) l) (hk : k < l.length) :
    ∃ b o, a = some ⟨b, o, none⟩ ∧ w.cell? ⟨b, o + k * 4, none⟩ = some (.int .i64 l[k].d) ∧ w.cell? ⟨b, o + k * 4 + 1, none⟩ = some (.int .i64 l[k].t) ∧ w.cell? ⟨b, o + k * 4 + 2, none⟩ = some (.int .i64 l[k].x) ∧ w.cell? ⟨b, o + k * 4 + 3, none⟩ = some (.bool l[k].a) ∧ I64 l[k].d ∧ I64 l[k].t ∧ I64 l[k].x := by
  have hn := h.len
  obtain ⟨b, o, rfl, hcx⟩ := h.at_ (by omega)
  obtain ⟨us, hcell, rfl, h1, h2, h3⟩ := hcx k hk
  have c0 := hcell 0 (by decide)
  have c1 := hcell 1 (by decide)
  have c2 := hcell 2 (by decide)
  have c3 := hcell 3 (by decide)
  exact ⟨b, o, rfl, c0, by have h := c1; rw [← Nat.add_assoc] at h; exact h, by have h := c2; rw [← Nat.add_assoc] at h; exact h, by have h := c3; rw [← Nat.add_assoc] at h; exact h, h1, h2, h3⟩
end Go.Proofs.Ytacpnphfopmofaa
