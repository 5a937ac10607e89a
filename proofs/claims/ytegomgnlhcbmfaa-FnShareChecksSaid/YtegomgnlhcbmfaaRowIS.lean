/- Several own slices of integers side by side (a struct of slices that grow): appends, literals, stores. -/
import Derived.Test.YtegomgnlhcbmfaaDrShS
import Derived.Test.YtegomgnlhcbmfaaBaS
import Derived.Test.YtegomgnlhcbmfaaPow2S
namespace Go.Proofs.Ytegomgnlhcbmfaa
open Go.RowKit
set_option linter.unusedSimpArgs false
set_option linter.unusedVariables false

/-- own slices in blocks apart -/
structure RowsI (w : World) (B : Nat) (rs : List (Value × List Int)) : Prop where
  own : ∀ (i : Nat) v l, rs[i]? = some (v, l) → OwnI w B v l
  ne : ∀ (i j : Nat) v l y m, i ≠ j → rs[i]? = some (v, l) → rs[j]? = some (y, m) → ∀ k, v.ownBlock = some k → y.ownBlock ≠ some k
theorem RowsI.keep {w w' : World} {B : Nat} {rs : List (Value × List Int)} (h : RowsI w B rs) (hk : ∀ v l, OwnI w B v l → OwnI w' B v l) : RowsI w' B rs :=
  ⟨fun i v l e => hk v l (h.own i v l e), h.ne⟩
theorem RowsI.below {w w' : World} {B : Nat} {rs : List (Value × List Int)} (h : RowsI w B rs) (hb : Below w.heap.size w w') : RowsI w' B rs := h.keep fun _ _ q => q.below hb
theorem RowsI.mono {w : World} {B B' : Nat} {rs : List (Value × List Int)} (h : RowsI w B rs) (hb : B' ≤ B) : RowsI w B' rs := ⟨fun i v l e => (h.own i v l e).mono hb, h.ne⟩
theorem RowsI.put {w w' : World} {B : Nat} {rs : List (Value × List Int)} (h : RowsI w B rs) {i : Nat} {v v' : Value} {l l' : List Int} (hi : rs[i]? = some (v, l))
    (hg : w.grownBy w' v.ownBlock) (ho : OwnI w' B v' l') (hf : ∀ k, v'.ownBlock = some k → v.ownBlock = some k ∨ w.heap.size ≤ k) : RowsI w' B (rs.set i (v', l')) := by
  have hil : i < rs.length := (List.getElem?_eq_some_iff.1 hi).1
  have get : ∀ (j : Nat) y m, (rs.set i (v', l'))[j]? = some (y, m) → (j = i ∧ y = v' ∧ m = l') ∨ (j ≠ i ∧ rs[j]? = some (y, m)) := by
    intro j y m e
    by_cases hj : j = i
    · subst hj
      rw [List.getElem?_set_self hil] at e
      injection e with e
      injection e with e1 e2
      exact .inl ⟨rfl, e1.symm, e2.symm⟩
    · rw [List.getElem?_set_ne (Ne.symm hj)] at e
      exact .inr ⟨hj, e⟩
  have far : ∀ (j : Nat) y m, j ≠ i → rs[j]? = some (y, m) → ∀ k, v'.ownBlock = some k → y.ownBlock ≠ some k := by
    intro j y m hj e k hk hy
    rcases hf k hk with q | q
    · exact h.ne i j v l y m (Ne.symm hj) hi e k q hy
    · have := ((h.own j y m e).lt k hy).2; omega
  refine ⟨?_, ?_⟩
  · intro j y m e
    rcases get j y m e with ⟨rfl, rfl, rfl⟩ | ⟨hj, e⟩
    · exact ho
    · refine (h.own j y m e).kept hg ?_
      cases hy : y.ownBlock with
      | none => exact .inl rfl
      | some k => exact .inr fun q => h.ne i j v l y m (Ne.symm hj) hi e k q.symm hy
  · intro j1 j2 y1 m1 y2 m2 hne e1 e2 k hk
    rcases get j1 y1 m1 e1 with ⟨rfl, rfl, rfl⟩ | ⟨hj1, e1'⟩
    · rcases get j2 y2 m2 e2 with ⟨rfl, _, _⟩ | ⟨hj2, e2'⟩
      · exact absurd rfl hne
      · exact far j2 y2 m2 hj2 e2' k hk
    · rcases get j2 y2 m2 e2 with ⟨rfl, rfl, rfl⟩ | ⟨hj2, e2'⟩
      · intro q
        exact far j1 y1 m1 hj1 e1' k q hk
      · exact h.ne j1 j2 y1 m1 y2 m2 hne e1' e2' k hk
/-- a literal takes an empty place -/
theorem RowsI.lit {w : World} {B : Nat} {rs : List (Value × List Int)} (h : RowsI w B rs) (hB : B ≤ w.heap.size) {i : Nat} {l : List Int} {cs : Array Value} (hi : rs[i]? = some (.slice none 0 0, [])) (hl : AllI64 l) (hc : cs = (l.map (Value.int .i64)).toArray) (hn : l.length ≤ maxLen) (n : Nat) (hnn : n = l.length) :
    RowsI (w.alloc (.cells cs 3)) B (rs.set i (.slice (some ⟨w.heap.size, 0, none⟩) n n, l)) :=
  h.put hi (grownBy_of_below ((Below.refl _ _).alloc (Nat.le_refl _) _)) (OwnI.lit w hB hl hc hn n hnn) (fun k hk => .inr (by have hk : some w.heap.size = some k := hk; injection hk with hk; exact Nat.le_of_eq hk))
theorem OwnI.notbox {w : World} {B b : Nat} {t : TypeId} {v : Value} {l : List Int} {cs : List Value} (ht : t ≠ 3) (h : OwnI w B v l) (hx : BoxN w b t cs) : ∀ k, v.ownBlock = some k → b ≠ k := by
  rintro k hk rfl
  rcases h.2.2 with h2 | ⟨g, cap, cur, rfl, hg, hr, r⟩
  · rw [h2.1] at hk; cases hk
  · cases hk
    unfold BoxN at hx
    rw [hx] at hr
    injection hr with hr
    injection hr with h1 h2 h3
    exact ht h2
theorem RowsI.setbox {w : World} {B b : Nat} {t : TypeId} {rs : List (Value × List Int)} {cs : List Value} (ht : t ≠ 3) (h : RowsI w B rs) (hx : BoxN w b t cs) (j : Nat) (x : Value) : RowsI (w.setCell ⟨b, j, none⟩ x) B rs :=
  h.keep fun v l q => q.kept (grownBy_setCell _ b j x) (.inr fun e => q.notbox ht hx _ e rfl)
theorem RowsI.boxkept {w w' : World} {B b : Nat} {t : TypeId} {v : Value} {l : List Int} {cs : List Value} (ht : t ≠ 3) (h : OwnI w B v l) (hx : BoxN w b t cs) (hg : w.grownBy w' v.ownBlock) : BoxN w' b t cs :=
  (hg.block b hx.lt (fun e => h.notbox ht hx b e.symm rfl)).trans hx
/-- a store into a row -/
theorem RowsI.store {w : World} {B g n c : Nat} {rs : List (Value × List Int)} (h : RowsI w B rs) {i : Nat} {l : List Int} (hi : rs[i]? = some (.slice (some ⟨g, 0, none⟩) n c, l)) (hn : l.length = n) (k : Nat) {x : Int} (hx : I64 x) :
    RowsI (w.setCell ⟨g, k, none⟩ (.int .i64 x)) B (rs.set i (.slice (some ⟨g, 0, none⟩) n c, l.set k x)) :=
  h.put hi (grownBy_setCell _ g k _) ((h.own i _ _ hi).stored hn k hx).1 (fun k' hk => .inl hk)
theorem RowsI.boxstore {w : World} {B g b : Nat} {t : TypeId} {v : Value} {l : List Int} {cs : List Value} (ht : t ≠ 3) (h : OwnI w B v l) (hv : v.ownBlock = some g) (hx : BoxN w b t cs) (k : Nat) (x : Value) : BoxN (w.setCell ⟨g, k, none⟩ x) b t cs :=
  RowsI.boxkept ht h hx (by rw [hv]; exact grownBy_setCell _ g k x)
theorem BoxN.apartB {w : World} {b b' : Nat} {t t' : TypeId} {cs cs' : List Value} (h : BoxN w b t cs) (h' : BoxN w b' t' cs') (ht : t ≠ t') : b ≠ b' := by
  rintro rfl
  unfold BoxN at h h'
  rw [h] at h'
  injection h' with h'
  injection h' with h1 h2 h3
  exact ht h2
/-- a proof that grows: a box of three slices, the group, the box of the result -/
structure PSt (w0 w : World) (gb rb pb B : Nat) (gr : GroupD) (c h r : Value) (lc lh lr : List Int) : Prop where
  bel : Below w0.heap.size w0 w
  grp : BoxN w gb 24 [.int .i64 gr.p, .int .i64 gr.q, .int .i64 gr.g]
  res : BoxN w rb 47 [.slice none 0 0, .slice none 0 0, .slice none 0 0]
  prf : BoxN w pb 47 [c, h, r]
  rows : RowsI w B [(c, lc), (h, lh), (r, lr)]
  rne : pb ≠ rb
  lo : w0.heap.size ≤ pb
  loB : w0.heap.size ≤ B
  hi : B ≤ w.heap.size
theorem PSt.below {w0 w w' : World} {gb rb pb B : Nat} {gr : GroupD} {c h r : Value} {lc lh lr : List Int} (q : PSt w0 w gb rb pb B gr c h r lc lh lr) (hb : Below w.heap.size w w') : PSt w0 w' gb rb pb B gr c h r lc lh lr :=
  ⟨Below.next q.bel hb, q.grp.below hb, q.res.below hb, q.prf.below hb, q.rows.below hb, q.rne, q.lo, q.loB, Nat.le_trans q.hi hb.size⟩
theorem PSt.new {w0 w : World} {gb rb pb B : Nat} {gr : GroupD} (hb : Below w0.heap.size w0 w) (h1 : BoxN w gb 24 [.int .i64 gr.p, .int .i64 gr.q, .int .i64 gr.g]) (h2 : BoxN w rb 47 [.slice none 0 0, .slice none 0 0, .slice none 0 0])
    (h3 : BoxN w pb 47 [.slice none 0 0, .slice none 0 0, .slice none 0 0]) (h4 : pb ≠ rb) (h5 : w0.heap.size ≤ pb) (h6 : w0.heap.size ≤ B) (h7 : B ≤ w.heap.size) : PSt w0 w gb rb pb B gr (.slice none 0 0) (.slice none 0 0) (.slice none 0 0) [] [] [] := by
  refine ⟨hb, h1, h2, h3, ⟨?_, ?_⟩, h4, h5, h6, h7⟩
  · intro i v l e
    match i, e with
    | 0, e => cases e; exact OwnI.nil _ _
    | 1, e => cases e; exact OwnI.nil _ _
    | 2, e => cases e; exact OwnI.nil _ _
    | i + 3, e => simp at e
  · intro i j v l y m _ e1 e2 k hk
    match i, e1 with
    | 0, e => cases e; cases hk
    | 1, e => cases e; cases hk
    | 2, e => cases e; cases hk
    | i + 3, e => simp at e
theorem PSt.ownH {w0 w : World} {gb rb pb B : Nat} {gr : GroupD} {c h r : Value} {lc lh lr : List Int} (q : PSt w0 w gb rb pb B gr c h r lc lh lr) : OwnI w B h lh := q.rows.own 1 _ _ rfl
theorem PSt.ownR {w0 w : World} {gb rb pb B : Nat} {gr : GroupD} {c h r : Value} {lc lh lr : List Int} (q : PSt w0 w gb rb pb B gr c h r lc lh lr) : OwnI w B r lr := q.rows.own 2 _ _ rfl
section
variable {w0 w w' : World} {gb rb pb B : Nat} {gr : GroupD} {c h r v' : Value} {lc lh lr l' : List Int}
theorem PSt.grown (q : PSt w0 w gb rb pb B gr c h r lc lh lr) (hx : ∀ b t cs, t ≠ 3 → BoxN w b t cs → BoxN w' b t cs) (hb : Below B w w') {rs : List (Value × List Int)} (hr : RowsI w' B rs) (i : Nat) (y : Value) :
    Below w0.heap.size w0 (w'.setCell ⟨pb, i, none⟩ y) ∧ BoxN (w'.setCell ⟨pb, i, none⟩ y) gb 24 [.int .i64 gr.p, .int .i64 gr.q, .int .i64 gr.g] ∧ BoxN (w'.setCell ⟨pb, i, none⟩ y) rb 47 [.slice none 0 0, .slice none 0 0, .slice none 0 0] ∧ RowsI (w'.setCell ⟨pb, i, none⟩ y) B rs ∧ B ≤ (w'.setCell ⟨pb, i, none⟩ y).heap.size := by
  have hp := hx _ _ _ (by decide) q.prf
  refine ⟨?_, (hx _ _ _ (by decide) q.grp).other (BoxN.apartB hp (hx _ _ _ (by decide) q.grp) (by decide)) i y, (hx _ _ _ (by decide) q.res).other q.rne i y, hr.setbox (by decide) hp i y, ?_⟩
  · exact (q.bel.trans (hb.mono q.loB)).setCell (p := ⟨pb, i, none⟩) q.lo y
  · simpa using Nat.le_trans q.hi hb.size
theorem PSt.store1 {g n k0 : Nat} (q : PSt w0 w gb rb pb B gr c (.slice (some ⟨g, 0, none⟩) n k0) r lc lh lr) (hn : lh.length = n) (k : Nat) {x : Int} (hx : I64 x) : PSt w0 (w.setCell ⟨g, k, none⟩ (.int .i64 x)) gb rb pb B gr c (.slice (some ⟨g, 0, none⟩) n k0) r lc (lh.set k x) lr := by
  have hl := q.ownH.lt g rfl
  refine ⟨?_, RowsI.boxstore (by decide) q.ownH rfl q.grp k _, RowsI.boxstore (by decide) q.ownH rfl q.res k _, RowsI.boxstore (by decide) q.ownH rfl q.prf k _, q.rows.store (i := 1) rfl hn k hx, q.rne, q.lo, q.loB, ?_⟩
  · exact q.bel.setCell (p := ⟨g, k, none⟩) (Nat.le_trans q.loB hl.1) _
  · simpa using q.hi
theorem PSt.store2 {g n k0 : Nat} (q : PSt w0 w gb rb pb B gr c h (.slice (some ⟨g, 0, none⟩) n k0) lc lh lr) (hn : lr.length = n) (k : Nat) {x : Int} (hx : I64 x) : PSt w0 (w.setCell ⟨g, k, none⟩ (.int .i64 x)) gb rb pb B gr c h (.slice (some ⟨g, 0, none⟩) n k0) lc lh (lr.set k x) := by
  have hl := q.ownR.lt g rfl
  refine ⟨?_, RowsI.boxstore (by decide) q.ownR rfl q.grp k _, RowsI.boxstore (by decide) q.ownR rfl q.res k _, RowsI.boxstore (by decide) q.ownR rfl q.prf k _, q.rows.store (i := 2) rfl hn k hx, q.rne, q.lo, q.loB, ?_⟩
  · exact q.bel.setCell (p := ⟨g, k, none⟩) (Nat.le_trans q.loB hl.1) _
  · simpa using q.hi
theorem PSt.out {v : Value} {l : List Int} (q : PSt w0 w gb rb pb B gr c h r lc lh lr) (ho : OwnI w B v l) : OwnI (((w.setCell ⟨rb, 0, none⟩ c).setCell ⟨rb, 1, none⟩ h).setCell ⟨rb, 2, none⟩ r) w0.heap.size v l := by
  have h1 := ho.kept (grownBy_setCell w rb 0 c) (.inr fun e => ho.notbox (by decide) q.res _ e rfl)
  have h2 := h1.kept (grownBy_setCell _ rb 1 h) (.inr fun e => ho.notbox (by decide) q.res _ e rfl)
  have h3 := h2.kept (grownBy_setCell _ rb 2 r) (.inr fun e => ho.notbox (by decide) q.res _ e rfl)
  exact h3.mono q.loB
end
end Go.Proofs.Ytegomgnlhcbmfaa
