/- Rows of cells: structs, and slices of structs, as kinds. No program is named here. -/
import Derived.Test.YtapfceghgkmgoaaAppL
namespace Go.Proofs.Ytapfceghgkmgoaa
open Go.RowKit
set_option linter.unusedSimpArgs false
set_option linter.unusedVariables false

/-- a kind of rows of cells (a struct's cells, one behind the other) -/
structure RowK (δ : Type) where
  width : Nat
  rd : World → List Value → δ → Prop
  own : World → Nat → Nat → List Value → δ → Prop
  rd_len : ∀ {w : World} {vs : List Value} {d : δ}, rd w vs d → vs.length = width
  rd_one : ∀ {w : World} {vs : List Value} {d : δ}, rd w vs d → ∀ v ∈ vs, v.oneCell' = true
  rd_below : ∀ {w w' : World} {vs : List Value} {d : δ}, rd w vs d → Below w.heap.size w w' → rd w' vs d
  own_rd : ∀ {w : World} {lo hi : Nat} {vs : List Value} {d : δ}, own w lo hi vs d → rd w vs d
  own_frame : ∀ {w w' : World} {lo hi : Nat} {vs : List Value} {d : δ}, own w lo hi vs d → (∀ k, lo ≤ k → k < hi → k < w.heap.size → w'.heap[k]? = w.heap[k]?) → own w' lo hi vs d
  own_mono : ∀ {w : World} {lo hi lo' hi' : Nat} {vs : List Value} {d : δ}, own w lo hi vs d → lo' ≤ lo → hi ≤ hi' → own w lo' hi' vs d
section
variable {δ ε : Type} {w w' : World} {lo hi lo' hi' : Nat} {vs : List Value} {d : δ}
theorem RowK.next {R : RowK δ} (h : R.own w lo hi vs d) (hb : Below w.heap.size w w') : R.own w' lo hi vs d := R.own_frame h fun k _ _ hk => hb.block k hk
theorem RowK.kept {R : RowK δ} (h : R.own w lo hi vs d) (hw : Within lo' hi' w w') (hd : hi ≤ lo' ∨ hi' ≤ lo) : R.own w' lo hi vs d := R.own_frame h fun k h1 h2 hk => hw.block k hk (by omega)
/-- no cell -/
def rNil : RowK Unit where
  width := 0
  rd _ vs _ := vs = []
  own _ _ _ vs _ := vs = []
  rd_len h := by rw [h]; rfl
  rd_one h := by rw [h]; simp
  rd_below h _ := h
  own_rd h := h
  own_frame h _ := h
  own_mono h _ _ := h
/-- an integer in front -/
def rI (R : RowK δ) : RowK (Int × δ) where
  width := R.width + 1
  rd w vs d := ∃ us, vs = .int .i64 d.1 :: us ∧ I64 d.1 ∧ R.rd w us d.2
  own w lo hi vs d := ∃ us, vs = .int .i64 d.1 :: us ∧ I64 d.1 ∧ R.own w lo hi us d.2
  rd_len := by rintro w vs d ⟨us, rfl, _, h⟩; rw [List.length_cons, R.rd_len h]
  rd_one := by
    rintro w vs d ⟨us, rfl, _, h⟩ v hv
    rcases List.mem_cons.1 hv with rfl | hv
    · rfl
    · exact R.rd_one h v hv
  rd_below := by rintro w w' vs d ⟨us, e, h1, h⟩ hb; exact ⟨us, e, h1, R.rd_below h hb⟩
  own_rd := by rintro w lo hi vs d ⟨us, e, h1, h⟩; exact ⟨us, e, h1, R.own_rd h⟩
  own_frame := by rintro w w' lo hi vs d ⟨us, e, h1, h⟩ hf; exact ⟨us, e, h1, R.own_frame h hf⟩
  own_mono := by rintro w lo hi lo' hi' vs d ⟨us, e, h1, h⟩ q1 q2; exact ⟨us, e, h1, R.own_mono h q1 q2⟩
/-- a kind whose values are slices -/
structure SlK (ε : Type) extends Kind ε where
  sl : ∀ {w : World} {v : Value} {d : ε}, rd w v d → ∃ a n c, v = .slice a n c
/-- a slice in front -/
def rS (K : SlK ε) (R : RowK δ) : RowK (ε × δ) where
  width := R.width + 1
  rd w vs d := ∃ v us, vs = v :: us ∧ K.rd w v d.1 ∧ R.rd w us d.2
  own w lo hi vs d := ∃ v us l1 h1 l2 h2, vs = v :: us ∧ K.own w l1 h1 v d.1 ∧ R.own w l2 h2 us d.2 ∧ (lo ≤ l1 ∧ h1 ≤ hi) ∧ (lo ≤ l2 ∧ h2 ≤ hi) ∧ (h1 ≤ l2 ∨ h2 ≤ l1)
  rd_len := by rintro w vs d ⟨v, us, rfl, _, h⟩; rw [List.length_cons, R.rd_len h]
  rd_one := by
    rintro w vs d ⟨v, us, rfl, hk, h⟩ x hx
    rcases List.mem_cons.1 hx with rfl | hx
    · obtain ⟨a, n, c, rfl⟩ := K.sl hk; rfl
    · exact R.rd_one h x hx
  rd_below := by rintro w w' vs d ⟨v, us, e, h1, h⟩ hb; exact ⟨v, us, e, K.rd_below h1 hb, R.rd_below h hb⟩
  own_rd := by rintro w lo hi vs d ⟨v, us, l1, h1, l2, h2, e, k1, k2, _⟩; exact ⟨v, us, e, K.own_rd k1, R.own_rd k2⟩
  own_frame := by
    rintro w w' lo hi vs d ⟨v, us, l1, h1, l2, h2, e, k1, k2, q1, q2, q3⟩ hf
    exact ⟨v, us, l1, h1, l2, h2, e, K.own_frame k1 (fun k p1 p2 p3 => hf k (by omega) (by omega) p3), R.own_frame k2 (fun k p1 p2 p3 => hf k (by omega) (by omega) p3), q1, q2, q3⟩
  own_mono := by
    rintro w lo hi lo' hi' vs d ⟨v, us, l1, h1, l2, h2, e, k1, k2, q1, q2, q3⟩ p1 p2
    exact ⟨v, us, l1, h1, l2, h2, e, k1, k2, by omega, by omega, q3⟩
/-- one row behind the other -/
def rA (A : RowK ε) (R : RowK δ) : RowK (ε × δ) where
  width := A.width + R.width
  rd w vs d := ∃ xs us, vs = xs ++ us ∧ A.rd w xs d.1 ∧ R.rd w us d.2
  own w lo hi vs d := ∃ xs us l1 h1 l2 h2, vs = xs ++ us ∧ A.own w l1 h1 xs d.1 ∧ R.own w l2 h2 us d.2 ∧ (lo ≤ l1 ∧ h1 ≤ hi) ∧ (lo ≤ l2 ∧ h2 ≤ hi) ∧ (h1 ≤ l2 ∨ h2 ≤ l1)
  rd_len := by rintro w vs d ⟨xs, us, rfl, h1, h⟩; rw [List.length_append, A.rd_len h1, R.rd_len h]
  rd_one := by
    rintro w vs d ⟨xs, us, rfl, hk, h⟩ x hx
    rcases List.mem_append.1 hx with hx | hx
    · exact A.rd_one hk x hx
    · exact R.rd_one h x hx
  rd_below := by rintro w w' vs d ⟨v, us, e, h1, h⟩ hb; exact ⟨v, us, e, A.rd_below h1 hb, R.rd_below h hb⟩
  own_rd := by rintro w lo hi vs d ⟨v, us, l1, h1, l2, h2, e, k1, k2, _⟩; exact ⟨v, us, e, A.own_rd k1, R.own_rd k2⟩
  own_frame := by
    rintro w w' lo hi vs d ⟨v, us, l1, h1, l2, h2, e, k1, k2, q1, q2, q3⟩ hf
    exact ⟨v, us, l1, h1, l2, h2, e, A.own_frame k1 (fun k p1 p2 p3 => hf k (by omega) (by omega) p3), R.own_frame k2 (fun k p1 p2 p3 => hf k (by omega) (by omega) p3), q1, q2, q3⟩
  own_mono := by
    rintro w lo hi lo' hi' vs d ⟨v, us, l1, h1, l2, h2, e, k1, k2, q1, q2, q3⟩ p1 p2
    exact ⟨v, us, l1, h1, l2, h2, e, k1, k2, by omega, by omega, q3⟩
/-- the same rows, their data under another type -/
def rMap (R : RowK δ) (f : ε → δ) : RowK ε where
  width := R.width
  rd w vs d := R.rd w vs (f d)
  own w lo hi vs d := R.own w lo hi vs (f d)
  rd_len := R.rd_len
  rd_one := R.rd_one
  rd_below := R.rd_below
  own_rd := R.own_rd
  own_frame := R.own_frame
  own_mono := R.own_mono
/-- a struct's value -/
def kS (R : RowK δ) : Kind δ where
  rd w v d := ∃ vs, v = .agg vs.toArray ∧ R.rd w vs d
  own w lo hi v d := ∃ vs, v = .agg vs.toArray ∧ R.own w lo hi vs d
  rd_below := by rintro w w' v d ⟨vs, e, h⟩ hb; exact ⟨vs, e, R.rd_below h hb⟩
  own_rd := by rintro w lo hi v d ⟨vs, e, h⟩; exact ⟨vs, e, R.own_rd h⟩
  own_frame := by rintro w w' lo hi v d ⟨vs, e, h⟩ hf; exact ⟨vs, e, R.own_frame h hf⟩
  own_mono := by rintro w lo hi lo' hi' v d ⟨vs, e, h⟩ q1 q2; exact ⟨vs, e, R.own_mono h q1 q2⟩
end
/-! ### rows laid one behind the other -/
theorem flat_get {s : Nat} : ∀ {css : List (List Value)}, (∀ c ∈ css, c.length = s) → ∀ {i k : Nat}, k < s → css.flatten[i * s + k]? = (css[i]?).bind (fun c => c[k]?) := by
  intro css
  induction css with
  | nil => intro _ i k _; simp
  | cons c css ih =>
    intro h i k hk
    have hc := h c (by simp)
    cases i with
    | zero => simp [List.getElem?_append, hc, hk]
    | succ i =>
      have e : (i + 1) * s + k = c.length + (i * s + k) := by rw [hc, Nat.succ_mul]; omega
      rw [List.flatten_cons, e, List.getElem?_append_right (Nat.le_add_right _ _), Nat.add_sub_cancel_left, ih (fun x hx => h x (by simp [hx])) hk]
      simp
theorem flat_set {s : Nat} {x : Value} : ∀ {css : List (List Value)}, (∀ c ∈ css, c.length = s) → ∀ {i k : Nat} (hi : i < css.length), k < s → css.flatten.set (i * s + k) x = (css.set i (css[i].set k x)).flatten := by
  intro css
  induction css with
  | nil => intro _ i k hi; simp at hi
  | cons c css ih =>
    intro h i k hi hk
    have hc := h c (by simp)
    cases i with
    | zero => simp [List.set_append, hc, hk]
    | succ i =>
      have e : (i + 1) * s + k = c.length + (i * s + k) := by rw [hc, Nat.succ_mul]; omega
      rw [List.flatten_cons, e, List.set_append, if_neg (by omega), Nat.add_sub_cancel_left, ih (fun x hx => h x (by simp [hx])) (by simpa using hi) hk]
      simp
theorem flat_len {s : Nat} : ∀ {css : List (List Value)}, (∀ c ∈ css, c.length = s) → css.flatten.length = css.length * s := by
  intro css
  induction css with
  | nil => intro _; simp
  | cons c css ih =>
    intro h
    rw [List.flatten_cons, List.length_append, ih (fun x hx => h x (by simp [hx])), h c (by simp), List.length_cons, Nat.succ_mul]; omega
/-! ### slices of structs -/
section
variable {δ : Type}
def RdR (R : RowK δ) (w : World) (v : Value) (ds : List δ) : Prop :=
  ∃ a n c, v = .slice a n c ∧ ds.length = n ∧ n ≤ c ∧ c ≤ maxLen ∧ ((a = none ∧ n = 0 ∧ c = 0) ∨ (∃ ad, a = some ad ∧ n = 0) ∨
    ∃ b o, a = some ⟨b, o, none⟩ ∧ ∀ i (hi : i < ds.length), ∃ vs, (∀ k, k < R.width → w.cell? ⟨b, o + (i * R.width + k), none⟩ = vs[k]?) ∧ R.rd w vs ds[i])
def OwnR (e : TypeId) (R : RowK δ) (w : World) (lo hi : Nat) (v : Value) (ds : List δ) : Prop :=
  ∃ (css : List (List Value)) (los his : Nat → Nat), css.length = ds.length ∧ w.ownsRow lo e R.width v ds.length css.flatten ∧ (∀ g, v.ownBlock = some g → g < hi ∧ ∀ i, i < ds.length → g < los i ∨ his i ≤ g) ∧
    (∀ i (h1 : i < css.length) (h2 : i < ds.length), R.own w (los i) (his i) css[i] ds[i] ∧ lo ≤ los i ∧ his i ≤ hi) ∧
    ∀ i j, i < ds.length → j < ds.length → i ≠ j → his i ≤ los j ∨ his j ≤ los i
theorem RdR.shape {R : RowK δ} {w : World} {v : Value} {ds : List δ} (h : RdR R w v ds) : ∃ a n c, v = .slice a n c := by
  obtain ⟨a, n, c, e, _⟩ := h; exact ⟨a, n, c, e⟩
theorem RdR.len {R : RowK δ} {w : World} {a : Option Addr} {n c : Nat} {ds : List δ} (h : RdR R w (.slice a n c) ds) : ds.length = n := by
  obtain ⟨_, _, _, e, h1, _⟩ := h; cases e; exact h1
theorem RdR.capMax {R : RowK δ} {w : World} {a : Option Addr} {n c : Nat} {ds : List δ} (h : RdR R w (.slice a n c) ds) : n ≤ c ∧ c ≤ maxLen := by
  obtain ⟨_, _, _, e, h1, h2, h3, _⟩ := h; cases e; exact ⟨h2, h3⟩
theorem RdR.nil (R : RowK δ) (w : World) : RdR R w (.slice none 0 0) [] := ⟨none, 0, 0, rfl, rfl, Nat.le_refl _, Nat.zero_le _, .inl ⟨rfl, rfl, rfl⟩⟩
theorem RdR.at_ {R : RowK δ} {w : World} {a : Option Addr} {n c : Nat} {ds : List δ} (h : RdR R w (.slice a n c) ds) (hn : 0 < n) :
    ∃ b o, a = some ⟨b, o, none⟩ ∧ ∀ i (hi : i < ds.length), ∃ vs, (∀ k, k < R.width → w.cell? ⟨b, o + (i * R.width + k), none⟩ = vs[k]?) ∧ R.rd w vs ds[i] := by
  obtain ⟨_, _, _, e, h1, h2, h3, h4⟩ := h
  cases e
  rcases h4 with ⟨_, h4, _⟩ | ⟨_, _, h4⟩ | h4
  · omega
  · omega
  · exact h4
theorem RdR.below {R : RowK δ} {w w' : World} {v : Value} {ds : List δ} (h : RdR R w v ds) (hb : Below w.heap.size w w') : RdR R w' v ds := by
  obtain ⟨a, n, c, e, h1, h2, h3, h4⟩ := h
  refine ⟨a, n, c, e, h1, h2, h3, ?_⟩
  rcases h4 with h4 | h4 | ⟨b, o, h4, hc⟩
  · exact .inl h4
  · exact .inr (.inl h4)
  · refine .inr (.inr ⟨b, o, h4, fun i hi => ?_⟩)
    obtain ⟨vs, h5, h6⟩ := hc i hi
    refine ⟨vs, fun k hk => ?_, R.rd_below h6 hb⟩
    have h7 := h5 k hk
    rw [List.getElem?_eq_getElem (by rw [R.rd_len h6]; exact hk)] at h7 ⊢
    exact box_at h7 hb
theorem OwnR.lens {e : TypeId} {R : RowK δ} {w : World} {css : List (List Value)} {ds : List δ} {los his : Nat → Nat} {lo hi : Nat} (hl : css.length = ds.length)
    (hel : ∀ i (h1 : i < css.length) (h2 : i < ds.length), R.own w (los i) (his i) css[i] ds[i] ∧ lo ≤ los i ∧ his i ≤ hi) : ∀ c ∈ css, c.length = R.width := by
  intro c hc
  obtain ⟨i, hi, rfl⟩ := List.getElem_of_mem hc
  exact R.rd_len (R.own_rd (hel i hi (by omega)).1)
theorem OwnR.rd {e : TypeId} {R : RowK δ} {w : World} {lo hi : Nat} {v : Value} {ds : List δ} (h : OwnR e R w lo hi v ds) : RdR R w v ds := by
  obtain ⟨css, los, his, hl, hO, hg, hel, hd⟩ := h
  have hlen := OwnR.lens (e := e) hl hel
  have hO' := hO
  obtain ⟨hl1, ⟨rfl, h0⟩ | ⟨g, c, cur, rfl, hb, hgc, hnc, hcm, hcs, htake⟩⟩ := hO
  · have : ds = [] := List.eq_nil_of_length_eq_zero h0
    subst this; exact RdR.nil R w
  · refine ⟨some ⟨g, 0, none⟩, ds.length, c, rfl, rfl, hnc, hcm, .inr (.inr ⟨g, 0, rfl, fun i hi => ?_⟩)⟩
    refine ⟨css[i]'(by omega), fun k hk => ?_, R.own_rd (hel i (by omega) hi).1⟩
    have h1 := World.ownsRow.cellAt hO' (i * R.width + k) (by
      have : (i + 1) * R.width ≤ ds.length * R.width := Nat.mul_le_mul_right _ hi
      rw [Nat.succ_mul] at this; omega)
    rw [Nat.zero_add, h1, flat_get hlen hk, List.getElem?_eq_getElem (by omega)]
    rfl
/-- slices of structs as a kind -/
def kR (e : TypeId) (R : RowK δ) : SlK (List δ) where
  rd := RdR R
  own := OwnR e R
  rd_below h hb := h.below hb
  own_rd := OwnR.rd
  own_frame := by
    intro w w' lo hi v d h hf
    obtain ⟨css, los, his, hl, hO, hg, hel, hd⟩ := h
    refine ⟨css, los, his, hl, ownsRow_frame hO fun g hgv => hf g (hO.lt g hgv).1 (hg g hgv).1 (hO.lt g hgv).2, hg, fun i h1 h2 => ?_, hd⟩
    obtain ⟨h3, h4, h5⟩ := hel i h1 h2
    exact ⟨R.own_frame h3 fun k k1 k2 k3 => hf k (by omega) (by omega) k3, h4, h5⟩
  own_mono := by
    intro w lo hi lo' hi' v d h h1 h2
    obtain ⟨css, los, his, hl, hO, hg, hel, hd⟩ := h
    exact ⟨css, los, his, hl, ownsRow_mono hO h1, fun g hgv => ⟨by have := (hg g hgv).1; omega, (hg g hgv).2⟩, fun i k1 k2 => ⟨(hel i k1 k2).1, by have := (hel i k1 k2).2; omega, by have := (hel i k1 k2).2; omega⟩, hd⟩
  sl h := h.shape
end
/-! ### a struct that lies in a block of its own -/
def BoxN (w : World) (b : Nat) (t : TypeId) (cs : List Value) : Prop := w.heap[b]? = some (.cells cs.toArray t (0, 0))
section
variable {w w' : World} {b : Nat} {t : TypeId} {cs : List Value}
theorem BoxN.cell (h : BoxN w b t cs) {i : Nat} {v : Value} (hv : cs[i]? = some v) : w.cell? ⟨b, i, none⟩ = some v := by rw [cell_of_row w b i _ t (0, 0) h]; simpa using hv
theorem BoxN.frozen (h : BoxN w b t cs) (j : Nat) : w.frozen? ⟨b, j, none⟩ = false := frozen_of_row w b j _ t h
theorem BoxN.lt (h : BoxN w b t cs) : b < w.heap.size := (Array.getElem?_eq_some_iff.1 h).1
theorem BoxN.below (h : BoxN w b t cs) (hb : Below w.heap.size w w') : BoxN w' b t cs := (hb.block b h.lt).trans h
theorem BoxN.kept {lo hi : Nat} (h : BoxN w b t cs) (hb : Within lo hi w w') (hd : b < lo ∨ hi ≤ b) : BoxN w' b t cs := (hb.block b h.lt hd).trans h
theorem BoxN.set (h : BoxN w b t cs) (i : Nat) (u : Value) : BoxN (w.setCell ⟨b, i, none⟩ u) b t (cs.set i u) := by
  have := heap_setCell_same w b i _ t u h
  simpa [BoxN] using this
theorem BoxN.other (h : BoxN w b t cs) {b' : Nat} (hne : b' ≠ b) (i : Nat) (u : Value) : BoxN (w.setCell ⟨b', i, none⟩ u) b t cs :=
  (heap_setCell_other w ⟨b', i, none⟩ b u (fun e => hne (by simpa using e.symm))).trans h
theorem BoxN.new (w : World) (cs : List Value) (t : TypeId) : BoxN (w.alloc (.cells cs.toArray t)) w.heap.size t cs := heap_alloc_new _ _
theorem BoxN.alloc (h : BoxN w b t cs) (o : Obj) : BoxN (w.alloc o) b t cs := (heap_alloc_old _ _ h.lt).trans h
end
theorem Within.allocR {lo hi : Nat} {w w' : World} (h : Within lo hi w w') (o : Obj) : Within lo hi w (w'.alloc o) :=
  h.trans (Within.of_below ((Below.refl _ _).alloc (Nat.le_refl _) o))
theorem Within.refl (lo hi : Nat) (w : World) : Within lo hi w w := Within.of_below (Below.refl _ _)
theorem Within.setCell {lo hi : Nat} {w w' : World} (h : Within lo hi w w') {b : Nat} (h1 : lo ≤ b) (h2 : b < hi) (j : Nat) (u : Value) : Within lo hi w (w'.setCell ⟨b, j, none⟩ u) :=
  h.trans ⟨rfl, rfl, rfl, by simp, fun k hk hr => heap_setCell_other w' ⟨b, j, none⟩ k u (fun e => by simp at e; omega)⟩
theorem size_setC {w : World} {p : Addr} {u : Value} : (w.setCell p u).heap.size = w.heap.size := by simp [World.setCell]
def sInts : SlK (List Int) := { kInts with sl := fun h => Ints.shape h }
theorem laws_szI (v : Value) (l : List Int) (left : Int) (w : World) (h : sInts.rd w v l) (h0 : 0 ≤ left) (h1 : left ≤ 1000000000) :
    Calls Try.prog 80 #[v, .int .i64 left] w fun e w' => (∃ r : Int, e = .returned (.int .i64 r) ∧ I64 r ∧ (0 ≤ r → (l.length : Int) + r ≤ left)) ∧ Below w.heap.size w w' := by
  have hl := Ints.len64 h
  unfold I64 at hl
  refine (laws_szIntS v l left w h ⟨by omega, by omega⟩).mono fun e w' ⟨h2, h3⟩ => ⟨⟨_, h2, ?_, ?_⟩, h3 ▸ Below.refl _ _⟩
  · split
    · exact ⟨by decide, by decide⟩
    · exact ⟨by omega, by omega⟩
  · split <;> omega
theorem laws_eqI (v1 v2 : Value) (d1 d2 : List Int) (w : World) (h1 : sInts.rd w v1 d1) (h2 : sInts.rd w v2 d2) :
    Calls Try.prog 33 #[v1, v2] w fun e w' => e = .returned (.bool (decide (d1 = d2))) ∧ Below w.heap.size w w' :=
  (laws_eqIntS v1 v2 d1 d2 w h1 h2).mono fun e w' ⟨h3, m, h4⟩ => ⟨h3, Below.drewOf h4⟩
theorem laws_toI (v : Value) (d : List Int) (w : World) (h : sInts.rd w v d) (hl : (d.length : Int) ≤ 1000000000) :
    Calls Try.prog 38 #[v] w fun e w' => ∃ v', e = .returned v' ∧ sInts.own w' w.heap.size w'.heap.size v' d ∧ Below w.heap.size w w' :=
  (laws_toIntS v d w h (by omega)).mono fun e w' ⟨v', h1, h2, h3⟩ => ⟨v', h1, InI.of_own h2, h3⟩
def mkI (k0 : Nat) (d : List Int) : List Int := marks k0 d.length
theorem laws_markI (lo hi : Nat) (v : Value) (k0 : Nat) (d : List Int) (w : World) (h : sInts.own w lo hi v d) (hk : k0 + d.length ≤ 9223372036854775806) (hhi : hi ≤ w.heap.size) :
    Calls Try.prog 35 #[v, .int .i64 k0] w fun e w' => e = .returned (.int .i64 (k0 + d.length : Nat)) ∧ sInts.own w' lo hi v (mkI k0 d) ∧ Within lo hi w w' :=
  laws_markIntS_own lo hi v k0 d w h hk
theorem laws_heldI (v : Value) (k0 : Nat) (d : List Int) (w : World) (h : sInts.rd w v (mkI k0 d)) (hk : k0 + d.length ≤ 9223372036854775806) :
    Calls Try.prog 36 #[v, .int .i64 k0] w fun e w' => e = .returned (.int .i64 (k0 + d.length : Nat)) ∧ Below w.heap.size w w' :=
  (laws_heldIntS_yes v k0 (mkI k0 d) w h (by unfold mkI; simp only [marks_length]; omega) (fun j hj => nth_marks (by unfold mkI at hj; simpa only [marks_length] using hj))).mono fun e w' ⟨h1, m, h2⟩ => ⟨by rw [h1]; unfold mkI; rw [marks_length], Below.drewOf h2⟩
end Go.Proofs.Ytapfceghgkmgoaa
