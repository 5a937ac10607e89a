/- A row of structs of the call's own, whose elements are only read (in a world of before). No program is named here. -/
import Derived.Test.YtacpnphfopmofaaBaP
import Derived.Test.YtacpnphfopmofaaRegPP
import Derived.Test.YtacpnphfopmofaaCip3P
import Derived.Test.YtacpnphfopmofaaOpLP
import Derived.Test.YtacpnphfopmofaaDer5P
import Derived.Test.YtacpnphfopmofaaBgP
import Derived.Test.YtacpnphfopmofaaInvP
import Derived.Test.YtacpnphfopmofaaBmP
import Derived.Deep.Cut
import Derived.Test.YtacpnphfopmofaaDrI2P
import Derived.Test.YtacpnphfopmofaaDrTP
import Derived.Test.YtacpnphfopmofaaBit2P
namespace Go.Proofs.Ytacpnphfopmofaa
open Go.RowKit
set_option linter.unusedSimpArgs false
set_option linter.unusedVariables false

def FrR {δ : Type} (e : TypeId) (R : RowK δ) (w0 w : World) (B : Nat) (v : Value) (ds : List δ) : Prop :=
  ∃ css : List (List Value), css.length = ds.length ∧ w.ownsRow B e R.width v ds.length css.flatten ∧ ∀ i (h1 : i < css.length) (h2 : i < ds.length), R.rd w0 css[i] ds[i]
section
variable {δ : Type} {e : TypeId} {R : RowK δ} {w0 w w' : World} {B : Nat} {v : Value} {ds es : List δ}
theorem FrR.lens {css : List (List Value)} (hl : css.length = ds.length) (hel : ∀ i (h1 : i < css.length) (h2 : i < ds.length), R.rd w0 css[i] ds[i]) : ∀ c ∈ css, c.length = R.width := by
  intro c hc
  obtain ⟨i, hi, rfl⟩ := List.getElem_of_mem hc
  exact R.rd_len (hel i hi (by omega))
theorem FrR.ones {css : List (List Value)} (hl : css.length = ds.length) (hel : ∀ i (h1 : i < css.length) (h2 : i < ds.length), R.rd w0 css[i] ds[i]) : ∀ u ∈ css.flatten, u.oneCell' = true := by
  intro u hu
  obtain ⟨c, hc, hu⟩ := List.mem_flatten.1 hu
  obtain ⟨i, hi, rfl⟩ := List.getElem_of_mem hc
  exact R.rd_one (hel i hi (by omega)) u hu
theorem FrR.rd (h : FrR e R w0 w B v ds) (hb : Below w0.heap.size w0 w) : RdR R w v ds := by
  obtain ⟨css, hl, hO, hel⟩ := h
  have hlen := FrR.lens hl hel
  have hO' := hO
  obtain ⟨hl1, ⟨rfl, h0⟩ | ⟨g, c, cur, rfl, hbb, hgc, hnc, hcm, hcs, htake⟩⟩ := hO
  · have : ds = [] := List.eq_nil_of_length_eq_zero h0
    subst this; exact RdR.nil R w
  · refine ⟨some ⟨g, 0, none⟩, ds.length, c, rfl, rfl, hnc, hcm, .inr (.inr ⟨g, 0, rfl, fun i hi => ?_⟩)⟩
    refine ⟨css[i]'(by omega), fun k hk => ?_, R.rd_below (hel i (by omega) hi) hb⟩
    have h1 := World.ownsRow.cellAt hO' (i * R.width + k) (by
      have : (i + 1) * R.width ≤ ds.length * R.width := Nat.mul_le_mul_right _ hi
      rw [Nat.succ_mul] at this; omega)
    rw [Nat.zero_add, h1, flat_get hlen hk, List.getElem?_eq_getElem (by omega)]
    rfl
theorem FrR.nil (e : TypeId) (R : RowK δ) (w0 w : World) (B : Nat) : FrR e R w0 w B (.slice none 0 0) [] :=
  ⟨[], rfl, by simpa using World.ownsRow_nil w B e R.width, fun i h1 _ => by simp at h1⟩
theorem FrR.below (h : FrR e R w0 w B v ds) (hb : Below w.heap.size w w') : FrR e R w0 w' B v ds := by
  obtain ⟨css, hl, hO, hel⟩ := h
  exact ⟨css, hl, ownsRow_frame hO fun g hg => hb.block g (hO.lt g hg).2, hel⟩
theorem FrR.frame (h : FrR e R w0 w B v ds) (hf : ∀ g, v.ownBlock = some g → w'.heap[g]? = w.heap[g]?) : FrR e R w0 w' B v ds := by
  obtain ⟨css, hl, hO, hel⟩ := h
  exact ⟨css, hl, ownsRow_frame hO hf, hel⟩
theorem FrR.lt (h : FrR e R w0 w B v ds) : ∀ g, v.ownBlock = some g → B ≤ g ∧ g < w.heap.size := by
  obtain ⟨css, hl, hO, hel⟩ := h
  exact fun g hg => hO.lt g hg
theorem FrR.mono {B' : Nat} (h : FrR e R w0 w B v ds) (hB : B' ≤ B) : FrR e R w0 w B' v ds := by
  obtain ⟨css, hl, hO, hel⟩ := h
  exact ⟨css, hl, ownsRow_mono hO hB, hel⟩
end
end Go.Proofs.Ytacpnphfopmofaa
namespace Go.Proofs.Ytacpnphfopmofaa
open Go.RowKit
set_option linter.unusedSimpArgs false
set_option linter.unusedVariables false

theorem FrR.lit {δ : Type} {e : TypeId} {R : RowK δ} (w : World) (css : List (List Value)) {ds : List δ} {cs : Array Value} {n : Nat} (hcs : cs = css.flatten.toArray) (hl : css.length = ds.length) (hn : n = ds.length) (hm : n ≤ maxLen) (hsz : cs.size = n * R.width)
    (hel : ∀ i (h1 : i < css.length) (h2 : i < ds.length), R.rd w css[i] ds[i]) : FrR e R w (w.alloc (.cells cs e)) w.heap.size (.slice (some ⟨w.heap.size, 0, none⟩) n n) ds := by
  have hO := World.ownsRow_lit (e := e) (size := R.width) w cs n (Nat.le_refl _) hm hsz
  subst hcs
  rw [hn] at hO ⊢
  exact ⟨css, hl, by simpa using hO, hel⟩
def SmallCI (c : CipherD) : Prop := I64 c.a ∧ I64 c.b
def AllCI (l : List CipherD) : Prop := ∀ c ∈ l, SmallCI c
theorem AllSmallC.nil : AllSmallC [] := fun x hx => by cases hx
theorem AllSmallC.cons {x : CipherD} {l : List CipherD} (h : SmallC x) (h' : AllSmallC l) : AllSmallC (x :: l) := fun y hy => by
  rcases List.mem_cons.1 hy with rfl | hy
  · exact h
  · exact h' y hy
theorem AllCI.nil : AllCI [] := fun x hx => by cases hx
theorem AllCI.cons {x : CipherD} {l : List CipherD} (h : SmallCI x) (h' : AllCI l) : AllCI (x :: l) := fun y hy => by
  rcases List.mem_cons.1 hy with rfl | hy
  · exact h
  · exact h' y hy
end Go.Proofs.Ytacpnphfopmofaa
namespace Go.Proofs.Ytacpnphfopmofaa
open Go.RowKit
set_option linter.unusedSimpArgs false
set_option linter.unusedVariables false

structure CastD where
  c : CipherD
  v : CipherD
  p : ProofD
end Go.Proofs.Ytacpnphfopmofaa
namespace Go.Proofs.Ytacpnphfopmofaa
open Go.RowKit
set_option linter.unusedSimpArgs false
set_option linter.unusedVariables false

/-- a cast in memory -/
def CaR (w : World) (v : Value) (x : CastD) : Prop := ∃ a b c, v = .agg #[.int .i64 x.c.a, .int .i64 x.c.b, .int .i64 x.v.a, .int .i64 x.v.b, a, b, c] ∧ ((I64 x.c.a ∧ I64 x.c.b) ∧ (I64 x.v.a ∧ I64 x.v.b)) ∧ Ints w a x.p.c ∧ Ints w b x.p.h ∧ Ints w c x.p.r
theorem CaR.below {w w' : World} {v : Value} {x : CastD} (h : CaR w v x) (hb : Below w.heap.size w w') : CaR w' v x := by
  obtain ⟨a, b, c, e, h0, h1, h2, h3⟩ := h; exact ⟨a, b, c, e, h0, h1.below hb, h2.below hb, h3.below hb⟩
end Go.Proofs.Ytacpnphfopmofaa
namespace Go.Proofs.Ytacpnphfopmofaa
open Go.RowKit
set_option linter.unusedSimpArgs false
set_option linter.unusedVariables false

/-- two rows in different blocks -/
def Parted (v1 v2 : Value) : Prop := v1.ownBlock = none ∨ v1.ownBlock ≠ v2.ownBlock
theorem Parted.new {w : World} {B : Nat} {v1 v2 v2' : Value} {l : List Int} (h : Parted v1 v2) (h1 : OwnI w B v1 l) (h2 : v2'.ownBlock = v2.ownBlock ∨ v2'.ownBlock = some w.heap.size) : Parted v1 v2' := by
  rcases h with h | h
  · exact .inl h
  · rcases h2 with h2 | h2
    · exact .inr (by rw [h2]; exact h)
    · refine .inr ?_
      rw [h2]
      intro e
      have := (h1.lt _ e).2
      omega
theorem Parted.symm {v1 v2 : Value} (h : Parted v1 v2) : Parted v2 v1 := by
  rcases h with h | h
  · cases e : v2.ownBlock with
    | none => exact .inl e
    | some k => exact .inr (by rw [h, e]; simp)
  · exact .inr (fun e => h e.symm)
end Go.Proofs.Ytacpnphfopmofaa
namespace Go.Proofs.Ytacpnphfopmofaa
open Go.RowKit
set_option linter.unusedSimpArgs false
set_option linter.unusedVariables false

/-- one integer appended: the row stays in its block, or lies in a new one -/
theorem run_append_oneX {w : World} {B : Nat} {v y : Value} {l : List Int} {x : Int} (hown : OwnI w B v l) (hy : Ints w y [x]) (hlen : l.length ≤ 100000000) (hB : B ≤ w.heap.size) (ty : TypeId) :
    ∃ v' w', (Builtin.append_ #[42, 42] ty #[v, y]).run Try.prog w = .ok v' w' ∧ OwnI w' B v' (l ++ [x]) ∧ w.grownBy w' v.ownBlock ∧ (v'.ownBlock = v.ownBlock ∨ v'.ownBlock = some w.heap.size) := by
  have hx : I64 x := hy.all.at_ 0
  obtain ⟨a, n, c, rfl⟩ := hy.shape
  have hn := hy.len
  simp only [List.length_cons, List.length_nil] at hn
  subst hn
  obtain ⟨b, o, rfl, hcx⟩ := hy.at_ (by omega)
  have hc0 := hcx 0 (by omega)
  rw [Nat.add_zero] at hc0
  have hc : w.cell? ⟨b, o, none⟩ = some (.int .i64 x) := hc0
  obtain ⟨v', w', hr, h1, h2⟩ := run_append_ints (t := 42) rfl hown hy (by simp; omega) hB ty
  refine ⟨v', w', hr, h1, h2, ?_⟩
  obtain ⟨i, hi, hz, hsz, hby⟩ := info_parts info_int
  have hnews : ∀ j u, [Value.int IntKind.i64 x][j]? = some u → w.cell? ((⟨b, o, none⟩ : Addr).add j) = some u := by
    intro j u hu
    cases j with
    | zero => rw [Addr.add_lit]; simp at hu; subst hu; exact hc
    | succ j => simp at hu
  rcases hown.2.2 with ⟨rfl, hl0⟩ | ⟨g, cap, cur, rfl, hbg, hg, hnc, hcm, hcs, htake⟩
  · have q := run_append_nil (P := Try.prog) w 42 ty 3 i (.int .i64 0) Try.underlying42 hi hz ⟨b, o, none⟩ 1 c [.int .i64 x] (by simp [hsz]) hnews (by omega) (by omega) (by omega)
    rw [q] at hr
    injection hr with e1 e2
    subst e1
    exact .inr rfl
  · by_cases hroom : l.length + 1 ≤ cap
    · have q := run_append_room (P := Try.prog) w 42 ty 3 i Try.underlying42 hi g l.length cap cur hg ⟨b, o, none⟩ 1 c [.int .i64 x] (by simp [hsz]) hnews (by intro u hu; simp at hu; subst hu; rfl) hroom (by simp [hsz]; omega)
      rw [q] at hr
      injection hr with e1 e2
      subst e1
      exact .inl rfl
    · have holds : ∀ j u, (l.map (Value.int .i64))[j]? = some u → w.cell? ((⟨g, 0, none⟩ : Addr).add j) = some u := hown.2.cells (g := g) rfl
      have q := run_append_grow (P := Try.prog) w 42 ty 3 i (.int .i64 0) Try.underlying42 hi hz ⟨g, 0, none⟩ l.length cap (l.map (Value.int .i64)) (by simp [hsz]) holds ⟨b, o, none⟩ 1 c [.int .i64 x] (by simp [hsz]) hnews (by omega) (by omega) (growslice_fits (by omega) (by rw [hby]; omega))
      rw [q] at hr
      injection hr with e1 e2
      subst e1
      exact .inr rfl
theorem wpList_append_oneX {ops : Array Oper} {rest : List Oper} {o : Oper} {a : Act} {w : World} {Q : Exit → Act → World → Prop} (hg : o.guard = none) (s x : Operand)
    (ho : o.op = .call { callee := .builtin .append, args := #[s, x], argTypes := #[42, 42] })
    (B : Nat) (v y : Value) (l : List Int) (z : Int) (N : Nat) (hs : a.eval s = v) (hown : OwnI w B v l) (hx : a.eval x = y) (hy : Ints w y [z]) (hlen : l.length ≤ 100000000) (hB : B ≤ w.heap.size) (hN : l.length + 1 = N)
    (hK : ∀ a' c' w', OwnI w' B (.slice a' N c') (l ++ [z]) → w.grownBy w' v.ownBlock → ((Value.slice a' N c').ownBlock = v.ownBlock ∨ (Value.slice a' N c').ownBlock = some w.heap.size) → wpList Try.prog ops Q rest (a.put o.dst (.slice a' N c')) w') : wpList Try.prog ops Q (o :: rest) a w := by
  obtain ⟨v', w', hr, h1, h2, h3⟩ := run_append_oneX hown hy hlen hB o.type
  obtain ⟨a', c', e⟩ := h1.shape
  rw [show (l ++ [z]).length = N by simp; exact hN] at e
  subst e
  refine wpList_plain hg fun K hK' => ?_
  unfold Oper.wp execOp
  simp only [ho, resolve, invoke, builtin, Sem.run_bind, Sem.run_pure, Result.andThen_ok, List.map_toArray, List.map_cons, List.map_nil, hs, hx, hr]
  exact hK' _ _ (hK a' c' w' h1 h2 h3)
theorem infoP : ∃ i, Try.prog.info? 115 = some i ∧ i.zero = some (.agg #[.slice none 0 0, .slice none 0 0, .slice none 0 0]) ∧ i.size = 3 ∧ i.bytes ≤ 1000 := by
  have h : (Try.prog.info? 115).map (fun i => (i.zero, i.size, decide (i.bytes ≤ 1000))) = some (some (.agg #[.slice none 0 0, .slice none 0 0, .slice none 0 0]), 3, true) := by kernel_rfl
  obtain ⟨i, hi, hz⟩ := Option.map_eq_some_iff.1 h
  simp only [Prod.mk.injEq] at hz
  exact ⟨i, hi, hz.1, hz.2.1, of_decide_eq_true hz.2.2⟩
/-- a row of proofs: each in rows of its own, apart from the row z of integers -/
def OwnQ (w : World) (B : Nat) (z v : Value) (ds : List ProofD) : Prop :=
  ∃ css : List (List Value), css.length = ds.length ∧ w.ownsRow B 115 3 v ds.length css.flatten ∧
    ∀ i (h1 : i < css.length) (h2 : i < ds.length), ∃ x y u, css[i] = [x, y, u] ∧ (OwnI w B x ds[i].c ∧ Parted x z) ∧ (OwnI w B y ds[i].h ∧ Parted y z) ∧ (OwnI w B u ds[i].r ∧ Parted u z)
section
variable {w w' : World} {B : Nat} {z z' v : Value} {l : List Int} {ds : List ProofD} {d : ProofD}
theorem OwnQ.nil (w : World) (B : Nat) (z : Value) : OwnQ w B z (.slice none 0 0) [] :=
  ⟨[], rfl, by simpa using World.ownsRow_nil w B 115 3, fun i h1 _ => by simp at h1⟩
theorem OwnQ.lens {css : List (List Value)} (hl : css.length = ds.length)
    (hel : ∀ i (h1 : i < css.length) (h2 : i < ds.length), ∃ x y u, css[i] = [x, y, u] ∧ (OwnI w B x ds[i].c ∧ Parted x z) ∧ (OwnI w B y ds[i].h ∧ Parted y z) ∧ (OwnI w B u ds[i].r ∧ Parted u z)) : ∀ c ∈ css, c.length = 3 := by
  intro c hc
  obtain ⟨i, hi, rfl⟩ := List.getElem_of_mem hc
  obtain ⟨x, y, u, e, _⟩ := hel i hi (by omega)
  rw [e]; rfl
theorem rowP3 {x y u : Value} (h1 : Ints w x d.c) (h2 : Ints w y d.h) (h3 : Ints w u d.r) : rProof.rd w [x, y, u] d := by
  obtain ⟨a1, n1, c1, rfl⟩ := h1.shape
  obtain ⟨a2, n2, c2, rfl⟩ := h2.shape
  obtain ⟨a3, n3, c3, rfl⟩ := h3.shape
  obtain ⟨vs, e, h⟩ := rdProof.2 ⟨_, _, _, _, _, _, _, _, _, rfl, h1, h2, h3⟩
  obtain rfl : vs = [.slice a1 n1 c1, .slice a2 n2 c2, .slice a3 n3 c3] := by have h := Value.agg.inj e; simpa using (congrArg Array.toList h).symm
  exact h
theorem OwnQ.rd (h : OwnQ w B z v ds) : RdR rProof w v ds := by
  obtain ⟨css, hl, hO, hel⟩ := h
  refine FrR.rd (e := 115) (w0 := w) (B := B) ⟨css, hl, hO, fun i h1 h2 => ?_⟩ (Below.refl _ _)
  obtain ⟨x, y, u, e, ⟨q1, _⟩, ⟨q2, _⟩, ⟨q3, _⟩⟩ := hel i h1 h2
  rw [e]
  exact rowP3 q1.ints q2.ints q3.ints
theorem OwnQ.len64 (h : OwnQ w B z v ds) : ∃ a c, v = .slice a ds.length c := by
  obtain ⟨a, n, c, rfl⟩ := h.rd.shape
  have := h.rd.len
  subst this
  exact ⟨a, c, rfl⟩
theorem OwnQ.below (h : OwnQ w B z v ds) (hb : Below w.heap.size w w') : OwnQ w' B z v ds := by
  obtain ⟨css, hl, hO, hel⟩ := h
  refine ⟨css, hl, ownsRow_frame hO fun g hg => hb.block g (hO.lt g hg).2, fun i h1 h2 => ?_⟩
  obtain ⟨x, y, u, e, ⟨q1, p1⟩, ⟨q2, p2⟩, ⟨q3, p3⟩⟩ := hel i h1 h2
  exact ⟨x, y, u, e, ⟨q1.below hb, p1⟩, ⟨q2.below hb, p2⟩, ⟨q3.below hb, p3⟩⟩
theorem OwnQ.other {b : Nat} (h : OwnQ w B z v ds) (hb : b < B) (j : Nat) (x : Value) : OwnQ (w.setCell ⟨b, j, none⟩ x) B z v ds := by
  obtain ⟨css, hl, hO, hel⟩ := h
  refine ⟨css, hl, ownsRow_setCell_below hO hb x, fun i h1 h2 => ?_⟩
  obtain ⟨x', y, u, e, ⟨q1, p1⟩, ⟨q2, p2⟩, ⟨q3, p3⟩⟩ := hel i h1 h2
  exact ⟨x', y, u, e, ⟨q1.other hb _ _, p1⟩, ⟨q2.other hb _ _, p2⟩, ⟨q3.other hb _ _, p3⟩⟩
/-- a row of integers and a row of proofs lie in different blocks -/
theorem OwnI.apartQ {n : Nat} {xs : List Value} {q : Value} (h : OwnI w B q l) (hO : w.ownsRow B 115 3 v n xs) : q.ownBlock = none ∨ q.ownBlock ≠ v.ownBlock := by
  cases e : q.ownBlock with
  | none => exact .inl rfl
  | some k =>
    refine .inr fun e2 => ?_
    rcases hO.2 with ⟨rfl, _⟩ | ⟨g, c, cur, rfl, hb, hg, _⟩
    · cases e2
    · have hk : some k = some g := e2
      cases hk
      rcases h.2.2 with h2 | ⟨g', c', cur', rfl, hb', hg', _⟩
      · rw [h2.1] at e; cases e
      · cases e
        rw [hg] at hg'
        injection hg' with hg'
        injection hg' with h1 h2 h3
        exact absurd h2 (by decide)
theorem OwnI.apartQ' {n : Nat} {xs : List Value} {q : Value} (h : OwnI w B q l) (hO : w.ownsRow B 115 3 v n xs) : v.ownBlock = none ∨ v.ownBlock ≠ q.ownBlock := by
  rcases h.apartQ hO with h1 | h1
  · rw [h1]
    cases e : v.ownBlock with
    | none => exact .inl rfl
    | some k => exact .inr (by simp)
  · exact .inr fun e => h1 e.symm
/-- the row of integers has grown -/
theorem OwnQ.ints (h : OwnQ w B z v ds) (hz : OwnI w B z l) (hg : w.grownBy w' z.ownBlock) (hn : z'.ownBlock = z.ownBlock ∨ z'.ownBlock = some w.heap.size) : OwnQ w' B z' v ds := by
  obtain ⟨css, hl, hO, hel⟩ := h
  refine ⟨css, hl, hO.kept hg (hz.apartQ' hO), fun i h1 h2 => ?_⟩
  obtain ⟨x, y, u, e, ⟨q1, p1⟩, ⟨q2, p2⟩, ⟨q3, p3⟩⟩ := hel i h1 h2
  exact ⟨x, y, u, e, ⟨q1.kept hg p1, p1.new q1 hn⟩, ⟨q2.kept hg p2, p2.new q2 hn⟩, ⟨q3.kept hg p3, p3.new q3 hn⟩⟩
theorem run_append_Q {b : Nat} {x y u : Value} (h : OwnQ w B z v ds) (hz : OwnI w B z l) (hx : OwnI w B x d.c) (hy : OwnI w B y d.h) (hu : OwnI w B u d.r) (px : Parted x z) (py : Parted y z) (pu : Parted u z)
    (hc0 : w.cell? ⟨b, 0, none⟩ = some x) (hc1 : w.cell? ⟨b, 1, none⟩ = some y) (hc2 : w.cell? ⟨b, 2, none⟩ = some u) (hB : B ≤ w.heap.size) (hlen : ds.length ≤ 100000000) (ty : TypeId) :
    ∃ v' w', (Builtin.append_ #[50, 50] ty #[v, .slice (some ⟨b, 0, none⟩) 1 1]).run Try.prog w = .ok v' w' ∧ OwnQ w' B z v' (ds ++ [d]) ∧ OwnI w' B z l ∧ w.grownBy w' v.ownBlock := by
  obtain ⟨css, hl, hO, hel⟩ := h
  obtain ⟨i, hi, hzr, hsz, hby⟩ := infoP
  have hfl := flat_len (OwnQ.lens hl hel)
  obtain ⟨a1, c1, e1⟩ := hx.shape
  obtain ⟨a2, c2, e2⟩ := hy.shape
  obtain ⟨a3, c3, e3⟩ := hu.shape
  have hnews : ∀ j t, [x, y, u][j]? = some t → w.cell? ((⟨b, 0, none⟩ : Addr).add j) = some t := by
    intro j t ht
    rw [Addr.add_lit, Nat.zero_add]
    rcases j with _ | _ | _ | j
    · simp at ht; subst ht; exact hc0
    · simp at ht; subst ht; exact hc1
    · simp at ht; subst ht; exact hc2
    · simp at ht
  have hones : ∀ t ∈ [x, y, u], t.oneCell' = true := by
    intro t ht
    simp only [List.mem_cons, List.not_mem_nil, or_false] at ht
    rcases ht with rfl | rfl | rfl
    · rw [e1]; rfl
    · rw [e2]; rfl
    · rw [e3]; rfl
  obtain ⟨v', w', hr, h1, h2, _⟩ := run_append_own (P := Try.prog) w B 50 ty 115 i _ 3 i.bytes Try.underlying50 hi hzr hsz rfl rfl (by decide) v ds.length css.flatten hO ⟨b, 0, none⟩ 1 1 [x, y, u] (by simp) hnews hones (by unfold maxLen; omega) (by
    have : (ds.length + 1) * i.bytes ≤ 1000000000 * 1000 := Nat.mul_le_mul (by omega) hby
    omega) hB
  refine ⟨v', w', hr, ⟨css ++ [[x, y, u]], by simp [hl], by simpa [List.flatten_append] using h1, fun k k1 k2 => ?_⟩, hz.kept h2 (hz.apartQ hO), h2⟩
  by_cases hk : k < ds.length
  · rw [List.getElem_append_left (by omega), List.getElem_append_left hk]
    obtain ⟨x', y', u', e, ⟨q1, p1⟩, ⟨q2, p2⟩, ⟨q3, p3⟩⟩ := hel k (by omega) hk
    exact ⟨x', y', u', e, ⟨q1.kept h2 (q1.apartQ hO), p1⟩, ⟨q2.kept h2 (q2.apartQ hO), p2⟩, ⟨q3.kept h2 (q3.apartQ hO), p3⟩⟩
  · have hk' : k = ds.length := by simp at k2; omega
    subst hk'
    refine ⟨x, y, u, ?_, ?_, ?_, ?_⟩
    · rw [List.getElem_append_right (by omega)]; simp [hl]
    · rw [List.getElem_append_right (by omega)]; simp only [Nat.sub_self, List.getElem_cons_zero]; exact ⟨hx.kept h2 (hx.apartQ hO), px⟩
    · rw [List.getElem_append_right (by omega)]; simp only [Nat.sub_self, List.getElem_cons_zero]; exact ⟨hy.kept h2 (hy.apartQ hO), py⟩
    · rw [List.getElem_append_right (by omega)]; simp only [Nat.sub_self, List.getElem_cons_zero]; exact ⟨hu.kept h2 (hu.apartQ hO), pu⟩
theorem OwnQ.lt (h : OwnQ w B z v ds) : ∀ k, v.ownBlock = some k → B ≤ k ∧ k < w.heap.size := by
  obtain ⟨css, hl, hO, hel⟩ := h
  exact fun k hk => hO.lt k hk
theorem wpList_append_Q {ops : Array Oper} {rest : List Oper} {o : Oper} {a : Act} {Q : Exit → Act → World → Prop} (hg : o.guard = none) (s y0 : Operand)
    (ho : o.op = .call { callee := .builtin .append, args := #[s, y0], argTypes := #[50, 50] })
    (b N : Nat) (x y u : Value) (hs : a.eval s = v) (h : OwnQ w B z v ds) (hz : OwnI w B z l) (hx : OwnI w B x d.c) (hy : OwnI w B y d.h) (hu : OwnI w B u d.r) (px : Parted x z) (py : Parted y z) (pu : Parted u z) (he : a.eval y0 = .slice (some ⟨b, 0, none⟩) 1 1)
    (hc0 : w.cell? ⟨b, 0, none⟩ = some x) (hc1 : w.cell? ⟨b, 1, none⟩ = some y) (hc2 : w.cell? ⟨b, 2, none⟩ = some u) (hB : B ≤ w.heap.size) (hlen : ds.length ≤ 100000000) (hN : ds.length + 1 = N)
    (hK : ∀ a' c' w', OwnQ w' B z (.slice a' N c') (ds ++ [d]) → OwnI w' B z l → w.grownBy w' v.ownBlock → wpList Try.prog ops Q rest (a.put o.dst (.slice a' N c')) w') : wpList Try.prog ops Q (o :: rest) a w := by
  obtain ⟨v', w', hr, h1, h2, h3⟩ := run_append_Q h hz hx hy hu px py pu hc0 hc1 hc2 hB hlen o.type
  obtain ⟨a', c', e⟩ := h1.len64
  rw [show (ds ++ [d]).length = N by simp; exact hN] at e
  subst e
  refine wpList_plain hg fun K hK' => ?_
  unfold Oper.wp execOp
  simp only [ho, resolve, invoke, builtin, Sem.run_bind, Sem.run_pure, Result.andThen_ok, List.map_toArray, List.map_cons, List.map_nil, hs, he, hr]
  exact hK' _ _ (hK a' c' w' h1 h2 h3)
end
end Go.Proofs.Ytacpnphfopmofaa
namespace Go.Proofs.Ytacpnphfopmofaa
open Go.RowKit
set_option linter.unusedSimpArgs false
set_option linter.unusedVariables false

theorem Parted.since {u Y : World} {B : Nat} {x z : Value} {l1 l2 : List Int} (h1 : OwnI u Y.heap.size x l1) (h2 : OwnI Y B z l2) : Parted x z := by
  cases e : x.ownBlock with
  | none => exact .inl e
  | some k =>
    refine .inr fun e2 => ?_
    have a := (h1.lt k e).1
    rw [e] at e2
    have b := (h2.lt k e2.symm).2
    omega
/-- a proof of a range in new memory is returned -/
def RetG (e : Ending) (w : World) (B : Nat) (d : RangeD) : Prop := ∃ x y, e = .returned (.agg #[x, y]) ∧ OwnI w B x d.b ∧ OwnQ w B x y d.p
theorem RetG.mk {w : World} {B : Nat} {x y : Value} {d : RangeD} (h1 : OwnI w B x d.b) (h2 : OwnQ w B x y d.p) : RetG (.returned (.agg #[x, y])) w B d := ⟨x, y, rfl, h1, h2⟩
theorem OwnQ.mono {w : World} {B B' : Nat} {z v : Value} {ds : List ProofD} (h : OwnQ w B z v ds) (hB : B' ≤ B) : OwnQ w B' z v ds := by
  obtain ⟨css, hl, hO, hel⟩ := h
  refine ⟨css, hl, ownsRow_mono hO hB, fun i h1 h2 => ?_⟩
  obtain ⟨x, y, u, e, ⟨q1, p1⟩, ⟨q2, p2⟩, ⟨q3, p3⟩⟩ := hel i h1 h2
  exact ⟨x, y, u, e, ⟨q1.mono hB, p1⟩, ⟨q2.mono hB, p2⟩, ⟨q3.mono hB, p3⟩⟩
theorem OwnQ.shapeN {w : World} {B n : Nat} {z v : Value} {ds : List ProofD} (h : OwnQ w B z v ds) (hn : ds.length = n) : ∃ a c, v = .slice a n c := by subst hn; exact h.len64
end Go.Proofs.Ytacpnphfopmofaa
