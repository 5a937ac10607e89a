/- Several own slices of integers side by side (a struct of slices that grow): appends, literals, stores. -/
import Derived.Test.YtacpnphfopmofaaRegVD
import Derived.Test.YtacpnphfopmofaaBaD
import Derived.Test.YtacpnphfopmofaaPow2D
import Derived.Test.YtacpnphfopmofaaEuD
import Derived.Test.YtacpnphfopmofaaDrSh3D
import Derived.Deep.QuietTactic
import Derived.BigQuiet
import Derived.Test.YtacpnphfopmofaaCurLD
namespace Go.Proofs.Ytacpnphfopmofaa
open Go.RowKit
set_option linter.unusedSimpArgs false
set_option linter.unusedVariables false

/-- append to an own slice: the new slice stands in the old block or in a new one -/
theorem run_append_intsB {w : World} {B : Nat} {v y : Value} {l m : List Int} (hown : OwnI w B v l) (hy : Ints w y m) (hm : m ≠ []) (hlen : l.length + m.length ≤ 1000000000000) (hB : B ≤ w.heap.size) (ty : TypeId) :
    ∃ v' w', (Builtin.append_ #[42, 42] ty #[v, y]).run Try.prog w = .ok v' w' ∧ OwnI w' B v' (l ++ m) ∧ w.grownBy w' v.ownBlock ∧ ∀ k, v'.ownBlock = some k → v.ownBlock = some k ∨ w.heap.size ≤ k := by
  obtain ⟨v', w', hr, h1, h2⟩ := run_append_ints (t := 42) rfl hown hy hlen hB ty
  refine ⟨v', w', hr, h1, h2, ?_⟩
  obtain ⟨i, hi, hz, hsz, hby⟩ := info_parts info_int
  obtain ⟨a', n', c', rfl, hn, hnc, hcm, hall, hc⟩ := hy
  have hml : 0 < m.length := List.length_pos_iff.2 hm
  rcases hc with ⟨rfl, rfl, rfl⟩ | ⟨ad, rfl, rfl⟩ | ⟨b, off, rfl, hc⟩
  · omega
  · omega
  have hnews : ∀ j u, (m.map (Value.int .i64))[j]? = some u → w.cell? ((⟨b, off, none⟩ : Addr).add j) = some u := by
    intro j u hu
    have hj : j < m.length := by simpa using (List.getElem?_eq_some_iff.1 hu).1
    rw [Addr.add_lit, hc j (by omega)]
    rw [List.getElem?_map, List.getElem?_eq_getElem hj] at hu
    rw [nth_eq hj]; simpa using hu
  have hol := hown.2.1
  rcases hown.2.2 with ⟨hv, hl0⟩ | ⟨g, cap, cur, hv, hbg, hg, hcap, hcm2, hcs, htake⟩
  · have hl : l = [] := by
      have := hl0
      simpa using this
    subst hl
    subst hv
    obtain ⟨v2, w2, hr2, h12, h22, _⟩ := run_append_own (P := Try.prog) w w.heap.size 42 ty 3 i (.int .i64 0) 1 8 Try.underlying42 hi hz hsz hby rfl (by decide) (.slice none 0 0) 0 [] (World.ownsRow_nil w _ _ 1) ⟨b, off, none⟩ n' c' (m.map (Value.int .i64)) (by simp [hn]) hnews (ints_oneCell .i64 m) (by unfold maxLen; simp at hlen; omega) (by simp at hlen; omega) (Nat.le_refl _)
    rw [hr] at hr2
    injection hr2 with e1 e2
    intro k hk
    rw [e1] at hk
    exact .inr (h12.lt k hk).1
  · subst hv
    by_cases hroom : l.length + n' ≤ cap
    · have hr2 := run_append_room (P := Try.prog) w 42 ty 3 i Try.underlying42 hi g l.length cap cur hg ⟨b, off, none⟩ n' c' (m.map (Value.int .i64)) (by simp [hn, hsz]) hnews (ints_oneCell .i64 m) hroom (by simp [hcs, hsz, ← hn]; omega)
      rw [hr] at hr2
      injection hr2 with e1 e2
      intro k hk
      rw [e1] at hk
      exact .inl hk
    · have hr2 := run_append_grow (P := Try.prog) w 42 ty 3 i (.int .i64 0) Try.underlying42 hi hz ⟨g, 0, none⟩ l.length cap (l.map (Value.int .i64)) (by simp [hsz]) (hown.2.cells (g := g) rfl) ⟨b, off, none⟩ n' c' (m.map (Value.int .i64)) (by simp [hn, hsz]) hnews (by omega) (by omega) (growslice_fits (by omega) (by rw [hby]; omega))
      rw [hr] at hr2
      injection hr2 with e1 e2
      intro k hk
      rw [e1] at hk
      have hk : some w.heap.size = some k := hk
      injection hk with hk
      exact .inr (Nat.le_of_eq hk)

/-- own slices in blocks apart -/
structure RowsI (w : World) (B : Nat) (rs : List (Value × List Int)) : Prop where
  own : ∀ (i : Nat) v l, rs[i]? = some (v, l) → OwnI w B v l
  ne : ∀ (i j : Nat) v l y m, i ≠ j → rs[i]? = some (v, l) → rs[j]? = some (y, m) → ∀ k, v.ownBlock = some k → y.ownBlock ≠ some k
theorem RowsI.keep {w w' : World} {B : Nat} {rs : List (Value × List Int)} (h : RowsI w B rs) (hk : ∀ v l, OwnI w B v l → OwnI w' B v l) : RowsI w' B rs :=
  ⟨fun i v l e => hk v l (h.own i v l e), h.ne⟩
theorem RowsI.below {w w' : World} {B : Nat} {rs : List (Value × List Int)} (h : RowsI w B rs) (hb : Below w.heap.size w w') : RowsI w' B rs := h.keep fun _ _ q => q.below hb
theorem RowsI.mono {w : World} {B B' : Nat} {rs : List (Value × List Int)} (h : RowsI w B rs) (hb : B' ≤ B) : RowsI w B' rs := ⟨fun i v l e => (h.own i v l e).mono hb, h.ne⟩
theorem RowsI.put {w w' : World} {B : Nat} {rs : List (Value × List Int)} (h : RowsI w B rs) {i : Nat} {v v' : Value} {l l' : List Int} (hi : rs[i]? = some (v, l))
    (hg : w.grownBy w' v.ownBlock) (ho : OwnI w' B v' l') (hf : ∀ k, v'.ownBlock = some k → v.ownBlock = some k ∨ w.heap.size ≤ k) : RowsI w' B (rs.set i (v', l')) := by
  have hil : i < rs.length := (List.getElem?_eq_some_iff.1 hi).1
  have get : ∀ (j : Nat) y m, (rs.set i (v', l'))[j]? = some (y, m) → (j = i ∧ y = v' ∧ m = l') ∨ (j ≠ i ∧ rs[j]? = some (y, m)) := by
    intro j y m e
    by_cases hj : j = i
    · subst hj
      rw [List.getElem?_set_self hil] at e
      injection e with e
      injection e with e1 e2
      exact .inl ⟨rfl, e1.symm, e2.symm⟩
    · rw [List.getElem?_set_ne (Ne.symm hj)] at e
      exact .inr ⟨hj, e⟩
  have far : ∀ (j : Nat) y m, j ≠ i → rs[j]? = some (y, m) → ∀ k, v'.ownBlock = some k → y.ownBlock ≠ some k := by
    intro j y m hj e k hk hy
    rcases hf k hk with q | q
    · exact h.ne i j v l y m (Ne.symm hj) hi e k q hy
    · have := ((h.own j y m e).lt k hy).2; omega
  refine ⟨?_, ?_⟩
  · intro j y m e
    rcases get j y m e with ⟨rfl, rfl, rfl⟩ | ⟨hj, e⟩
    · exact ho
    · refine (h.own j y m e).kept hg ?_
      cases hy : y.ownBlock with
      | none => exact .inl rfl
      | some k => exact .inr fun q => h.ne i j v l y m (Ne.symm hj) hi e k q.symm hy
  · intro j1 j2 y1 m1 y2 m2 hne e1 e2 k hk
    rcases get j1 y1 m1 e1 with ⟨rfl, rfl, rfl⟩ | ⟨hj1, e1'⟩
    · rcases get j2 y2 m2 e2 with ⟨rfl, _, _⟩ | ⟨hj2, e2'⟩
      · exact absurd rfl hne
      · exact far j2 y2 m2 hj2 e2' k hk
    · rcases get j2 y2 m2 e2 with ⟨rfl, rfl, rfl⟩ | ⟨hj2, e2'⟩
      · intro q
        exact far j1 y1 m1 hj1 e1' k q hk
      · exact h.ne j1 j2 y1 m1 y2 m2 hne e1' e2' k hk
/-- a literal takes an empty place -/
theorem RowsI.lit {w : World} {B : Nat} {rs : List (Value × List Int)} (h : RowsI w B rs) (hB : B ≤ w.heap.size) {i : Nat} {l : List Int} {cs : Array Value} (hi : rs[i]? = some (.slice none 0 0, [])) (hl : AllI64 l) (hc : cs = (l.map (Value.int .i64)).toArray) (hn : l.length ≤ maxLen) (n : Nat) (hnn : n = l.length) :
    RowsI (w.alloc (.cells cs 3)) B (rs.set i (.slice (some ⟨w.heap.size, 0, none⟩) n n, l)) :=
  h.put hi (grownBy_of_below ((Below.refl _ _).alloc (Nat.le_refl _) _)) (OwnI.lit w hB hl hc hn n hnn) (fun k hk => .inr (by have hk : some w.heap.size = some k := hk; injection hk with hk; exact Nat.le_of_eq hk))
theorem OwnI.notbox {w : World} {B b : Nat} {t : TypeId} {v : Value} {l : List Int} {cs : List Value} (ht : t ≠ 3) (h : OwnI w B v l) (hx : BoxN w b t cs) : ∀ k, v.ownBlock = some k → b ≠ k := by
  rintro k hk rfl
  rcases h.2.2 with h2 | ⟨g, cap, cur, rfl, hg, hr, r⟩
  · rw [h2.1] at hk; cases hk
  · cases hk
    unfold BoxN at hx
    rw [hx] at hr
    injection hr with hr
    injection hr with h1 h2 h3
    exact ht h2
theorem RowsI.setbox {w : World} {B b : Nat} {t : TypeId} {rs : List (Value × List Int)} {cs : List Value} (ht : t ≠ 3) (h : RowsI w B rs) (hx : BoxN w b t cs) (j : Nat) (x : Value) : RowsI (w.setCell ⟨b, j, none⟩ x) B rs :=
  h.keep fun v l q => q.kept (grownBy_setCell _ b j x) (.inr fun e => q.notbox ht hx _ e rfl)
theorem RowsI.boxkept {w w' : World} {B b : Nat} {t : TypeId} {v : Value} {l : List Int} {cs : List Value} (ht : t ≠ 3) (h : OwnI w B v l) (hx : BoxN w b t cs) (hg : w.grownBy w' v.ownBlock) : BoxN w' b t cs :=
  (hg.block b hx.lt (fun e => h.notbox ht hx b e.symm rfl)).trans hx
/-- append of one of the rows to another, as an operation of a drawn region -/
theorem RowsI.do_app {o : Oper} {a : Act} {w : World} {K : Act → World → Prop} {Q : Exit → Act → World → Prop} (s x : Operand)
    (ho : o.op = .call { callee := .builtin .append, args := #[s, x], argTypes := #[42, 42] })
    {B : Nat} {rs : List (Value × List Int)} (h : RowsI w B rs) (hB : B ≤ w.heap.size)
    (i j : Nat) {v y : Value} {l m : List Int} (hi : rs[i]? = some (v, l)) (hj : rs[j]? = some (y, m)) (hm : m ≠ []) (hlen : l.length + m.length ≤ 1000000000000) (hs : a.eval s = v) (hxx : a.eval x = y)
    (hK : ∀ v' w', RowsI w' B (rs.set i (v', l ++ m)) → (∀ b t cs, t ≠ 3 → BoxN w b t cs → BoxN w' b t cs) → Below B w w' → K (a.put o.dst v') w') : Oper.wp Try.prog o a w K Q := by
  obtain ⟨v', w', hr, h1, h2, h3⟩ := run_append_intsB (h.own i v l hi) (h.own j y m hj).ints hm hlen hB o.type
  unfold Oper.wp execOp
  simp only [ho, resolve, invoke, builtin, Sem.run_bind, Sem.run_pure, Result.andThen_ok, List.map_toArray, List.map_cons, List.map_nil, hs, hxx, hr]
  exact hK v' w' (h.put hi h2 h1 h3) (fun b t cs ht hx => RowsI.boxkept ht (h.own i v l hi) hx h2) ((h.own i v l hi).grown h2 hB)
/-- append of a slice that is only read to one of the rows, as an operation of a plain region -/
theorem RowsI.list_app {ops : Array Oper} {rest : List Oper} {o : Oper} {a : Act} {w : World} {Q : Exit → Act → World → Prop} (hgd : o.guard = none) (s x : Operand)
    (ho : o.op = .call { callee := .builtin .append, args := #[s, x], argTypes := #[42, 42] })
    {B : Nat} {rs : List (Value × List Int)} (h : RowsI w B rs) (hB : B ≤ w.heap.size)
    (i : Nat) {v y : Value} {l m : List Int} (hi : rs[i]? = some (v, l)) (hy : Ints w y m) (hm : m ≠ []) (hlen : l.length + m.length ≤ 1000000000000) (hs : a.eval s = v) (hxx : a.eval x = y)
    (hK : ∀ v' w', RowsI w' B (rs.set i (v', l ++ m)) → (∀ b t cs, t ≠ 3 → BoxN w b t cs → BoxN w' b t cs) → Below B w w' → wpList Try.prog ops Q rest (a.put o.dst v') w') : wpList Try.prog ops Q (o :: rest) a w := by
  obtain ⟨v', w', hr, h1, h2, h3⟩ := run_append_intsB (h.own i v l hi) hy hm hlen hB o.type
  refine wpList_plain hgd fun K hK' => ?_
  unfold Oper.wp execOp
  simp only [ho, resolve, invoke, builtin, Sem.run_bind, Sem.run_pure, Result.andThen_ok, List.map_toArray, List.map_cons, List.map_nil, hs, hxx, hr]
  exact hK' _ _ (hK v' w' (h.put hi h2 h1 h3) (fun b t cs ht hx => RowsI.boxkept ht (h.own i v l hi) hx h2) ((h.own i v l hi).grown h2 hB))
theorem RowsI.list_appN {ops : Array Oper} {rest : List Oper} {o : Oper} {a : Act} {w : World} {Q : Exit → Act → World → Prop} (hgd : o.guard = none) (s x : Operand)
    (ho : o.op = .call { callee := .builtin .append, args := #[s, x], argTypes := #[42, 42] })
    {B : Nat} {rs : List (Value × List Int)} (h : RowsI w B rs) (hB : B ≤ w.heap.size)
    (i : Nat) {v y : Value} {l m : List Int} (hi : rs[i]? = some (v, l)) (hy : Ints w y m) (hm : m ≠ []) (N : Nat) (hN : l.length + m.length = N) (hlen : N ≤ 1000000000000) (hs : a.eval s = v) (hxx : a.eval x = y)
    (hK : ∀ a' c' w', RowsI w' B (rs.set i (.slice a' N c', l ++ m)) → (∀ b t cs, t ≠ 3 → BoxN w b t cs → BoxN w' b t cs) → Below B w w' → wpList Try.prog ops Q rest (a.put o.dst (.slice a' N c')) w') : wpList Try.prog ops Q (o :: rest) a w := by
  refine RowsI.list_app hgd s x ho h hB i hi hy hm (by omega) hs hxx ?_
  intro v' w' h1 h2 h3
  have hil : i < rs.length := (List.getElem?_eq_some_iff.1 hi).1
  obtain ⟨a', c', e⟩ := (h1.own i v' (l ++ m) (List.getElem?_set_self hil)).shape
  rw [List.length_append, hN] at e
  subst e
  exact hK a' c' w' h1 h2 h3
/-- a store into a row -/
theorem RowsI.store {w : World} {B g n c : Nat} {rs : List (Value × List Int)} (h : RowsI w B rs) {i : Nat} {l : List Int} (hi : rs[i]? = some (.slice (some ⟨g, 0, none⟩) n c, l)) (hn : l.length = n) (k : Nat) {x : Int} (hx : I64 x) :
    RowsI (w.setCell ⟨g, k, none⟩ (.int .i64 x)) B (rs.set i (.slice (some ⟨g, 0, none⟩) n c, l.set k x)) :=
  h.put hi (grownBy_setCell _ g k _) ((h.own i _ _ hi).stored hn k hx).1 (fun k' hk => .inl hk)
theorem BoxN.apartB {w : World} {b b' : Nat} {t t' : TypeId} {cs cs' : List Value} (h : BoxN w b t cs) (h' : BoxN w b' t' cs') (ht : t ≠ t') : b ≠ b' := by
  rintro rfl
  unfold BoxN at h h'
  rw [h] at h'
  injection h' with h'
  injection h' with h1 h2 h3
  exact ht h2
/-- a proof that grows: a box of three slices, the group, the box of the result -/
structure PSt (w0 w : World) (gb rb pb B : Nat) (gr : GroupD) (c h r : Value) (lc lh lr : List Int) : Prop where
  bel : Below w0.heap.size w0 w
  grp : BoxN w gb 24 [.int .i64 gr.p, .int .i64 gr.q, .int .i64 gr.g]
  res : BoxN w rb 115 [.slice none 0 0, .slice none 0 0, .slice none 0 0]
  prf : BoxN w pb 115 [c, h, r]
  rows : RowsI w B [(c, lc), (h, lh), (r, lr)]
  rne : pb ≠ rb
  lo : w0.heap.size ≤ pb
  loB : w0.heap.size ≤ B
  hi : B ≤ w.heap.size
theorem PSt.below {w0 w w' : World} {gb rb pb B : Nat} {gr : GroupD} {c h r : Value} {lc lh lr : List Int} (q : PSt w0 w gb rb pb B gr c h r lc lh lr) (hb : Below w.heap.size w w') : PSt w0 w' gb rb pb B gr c h r lc lh lr :=
  ⟨Below.next q.bel hb, q.grp.below hb, q.res.below hb, q.prf.below hb, q.rows.below hb, q.rne, q.lo, q.loB, Nat.le_trans q.hi hb.size⟩
theorem PSt.new {w0 w : World} {gb rb pb B : Nat} {gr : GroupD} (hb : Below w0.heap.size w0 w) (h1 : BoxN w gb 24 [.int .i64 gr.p, .int .i64 gr.q, .int .i64 gr.g]) (h2 : BoxN w rb 115 [.slice none 0 0, .slice none 0 0, .slice none 0 0])
    (h3 : BoxN w pb 115 [.slice none 0 0, .slice none 0 0, .slice none 0 0]) (h4 : pb ≠ rb) (h5 : w0.heap.size ≤ pb) (h6 : w0.heap.size ≤ B) (h7 : B ≤ w.heap.size) : PSt w0 w gb rb pb B gr (.slice none 0 0) (.slice none 0 0) (.slice none 0 0) [] [] [] := by
  refine ⟨hb, h1, h2, h3, ⟨?_, ?_⟩, h4, h5, h6, h7⟩
  · intro i v l e
    match i, e with
    | 0, e => cases e; exact OwnI.nil _ _
    | 1, e => cases e; exact OwnI.nil _ _
    | 2, e => cases e; exact OwnI.nil _ _
    | i + 3, e => simp at e
  · intro i j v l y m _ e1 e2 k hk
    match i, e1 with
    | 0, e => cases e; cases hk
    | 1, e => cases e; cases hk
    | 2, e => cases e; cases hk
    | i + 3, e => simp at e
section
variable {w0 w w' : World} {gb rb pb B : Nat} {gr : GroupD} {c h r v' : Value} {lc lh lr l' : List Int}
theorem PSt.grown (q : PSt w0 w gb rb pb B gr c h r lc lh lr) (hx : ∀ b t cs, t ≠ 3 → BoxN w b t cs → BoxN w' b t cs) (hb : Below B w w') {rs : List (Value × List Int)} (hr : RowsI w' B rs) (i : Nat) (y : Value) :
    Below w0.heap.size w0 (w'.setCell ⟨pb, i, none⟩ y) ∧ BoxN (w'.setCell ⟨pb, i, none⟩ y) gb 24 [.int .i64 gr.p, .int .i64 gr.q, .int .i64 gr.g] ∧ BoxN (w'.setCell ⟨pb, i, none⟩ y) rb 115 [.slice none 0 0, .slice none 0 0, .slice none 0 0] ∧ RowsI (w'.setCell ⟨pb, i, none⟩ y) B rs ∧ B ≤ (w'.setCell ⟨pb, i, none⟩ y).heap.size := by
  have hp := hx _ _ _ (by decide) q.prf
  refine ⟨?_, (hx _ _ _ (by decide) q.grp).other (BoxN.apartB hp (hx _ _ _ (by decide) q.grp) (by decide)) i y, (hx _ _ _ (by decide) q.res).other q.rne i y, hr.setbox (by decide) hp i y, ?_⟩
  · exact (q.bel.trans (hb.mono q.loB)).setCell (p := ⟨pb, i, none⟩) q.lo y
  · simpa using Nat.le_trans q.hi hb.size
theorem PSt.out {v : Value} {l : List Int} (q : PSt w0 w gb rb pb B gr c h r lc lh lr) (ho : OwnI w B v l) : OwnI (((w.setCell ⟨rb, 0, none⟩ c).setCell ⟨rb, 1, none⟩ h).setCell ⟨rb, 2, none⟩ r) w0.heap.size v l := by
  have h1 := ho.kept (grownBy_setCell w rb 0 c) (.inr fun e => ho.notbox (by decide) q.res _ e rfl)
  have h2 := h1.kept (grownBy_setCell _ rb 1 h) (.inr fun e => ho.notbox (by decide) q.res _ e rfl)
  have h3 := h2.kept (grownBy_setCell _ rb 2 r) (.inr fun e => ho.notbox (by decide) q.res _ e rfl)
  exact h3.mono q.loB
end
end Go.Proofs.Ytacpnphfopmofaa
namespace Go.Proofs.Ytacpnphfopmofaa
open Go.RowKit
set_option linter.unusedSimpArgs false
set_option linter.unusedVariables false

theorem hornE_ev {q : Int} (x : Int) (l : List Int) : hornE q x l = if l = [] then 0 else evI l x % q := by
  induction l with
  | nil => rfl
  | cons a l ih =>
    rw [if_neg (by simp)]
    show (hornE q x l * x + a) % q = _
    rw [ih, evI_cons]
    split
    · rename_i h; subst h; simp [evI]
    · rw [Int.add_emod, Int.mul_emod, Int.emod_emod, ← Int.mul_emod, ← Int.add_emod]
theorem hornE_evI {q : Int} (hq : 0 < q) (x : Int) (l : List Int) : hornE q x l = evI l x % q := by
  rw [hornE_ev]; split
  · rename_i h; subst h; simp [evI]
  · rfl
set_option maxHeartbeats 2000000 in
theorem impl_evalPolyE (q : Int) (v : Value) (L : List Int) (x : Int) (w : World) (hq : 2 ≤ q ∧ q ≤ 2000000000) (h : Ints w v L) (hL : ∀ y ∈ L, 0 ≤ y ∧ y < q) (hx : 0 ≤ x ∧ x ≤ 1000) :
    Calls Try.prog 161 #[.int .i64 q, v, .int .i64 x] w fun e w' => e = .returned (.int .i64 (hornE q x L)) ∧ Below w.heap.size w w' := by
  obtain ⟨hq1, hq2⟩ := hq
  obtain ⟨hx0, hx1⟩ := hx
  obtain ⟨a, n, c, rfl⟩ := h.shape
  have e := h.len
  obtain ⟨k1, k2⟩ := h.capMax
  unfold maxLen at k2
  have HE := Lib.hid e
  have HL := Lib.hid hL; clear hL
  have H := Lib.hid h; clear h
  have e1 : IntKind.i64.wrap ((n : Int) - 1) = (n : Int) - 1 := IntWalk.i64_in _ (by omega)
  have HN : Hid (hornE q x (L.drop n) = 0) := by unfold Hid; rw [← e, List.drop_length]; rfl
  clear e
  go_enter Try.func161, Try.ntmps161
  go_wp2_with fail
  go_loopg [7, 8] n (fun gg ov iv wr => ∃ (j : Nat) (o : Int), j = gg ∧ j ≤ n ∧ iv = .int .i64 ((j : Int) - 1) ∧ ov = .int .i64 o ∧ Hid (hornE q x (L.drop j) = o) ∧ 0 ≤ o ∧ o < q ∧ Below w.heap.size w wr)
  case atStart => exact ⟨n, 0, rfl, Nat.le_refl _, rfl, rfl, HN.out, by omega, by omega, Below.refl _ _⟩
  case round =>
    obtain ⟨j, o, hjg, hjn, rfl, rfl, HO, ho0, ho1, hb⟩ := hrel
    cases j with
    | zero =>
      have HR : Hid (hornE q x L = o) := HO.out
      have HB := Lib.hid hb; clear hb
      go_wp2_with fail
      go_ret
      exact ⟨ret_int HR.out.symm, HB.out⟩
    | succ j =>
      have ej : ((j + 1 : Nat) : Int) - 1 = (j : Int) := by omega
      rw [ej]
      clear ej
      have HK : Hid (j < L.length) := by unfold Hid; rw [HE.out]; omega
      obtain ⟨bk, oo, rfl, hcx⟩ := (H.out.below hb).at_ (by omega)
      have hy := hcx j (by omega)
      have hyb : 0 ≤ nth L j ∧ nth L j < q := by rw [nthE HK.out]; exact HL.out _ (List.getElem_mem _)
      have HS : Hid (hornE q x (L.drop j) = (o * x + nth L j) % q) := by unfold Hid; rw [hornE_drop HK.out, HO.out]
      clear hcx
      obtain ⟨y, hyy⟩ : ∃ y, nth L j = y := ⟨_, rfl⟩
      rw [hyy] at hy hyb HS
      clear hyy
      obtain ⟨y0, y1⟩ := hyb
      obtain ⟨m0, m1⟩ := mulE_bd ho0 ho1 hq2 hx0 hx1
      have r0 : 0 ≤ o * x % q := Int.emod_nonneg _ (by omega)
      have r1 : o * x % q < q := Int.emod_lt_of_pos _ (by omega)
      have s0 : 0 ≤ (o * x + y) % q := Int.emod_nonneg _ (by omega)
      have s1 : (o * x + y) % q < q := Int.emod_lt_of_pos _ (by omega)
      have et1 : Int.tmod (o * x) q = o * x % q := Int.tmod_eq_emod_of_nonneg m0
      have et2 : Int.tmod (o * x % q + y) q = (o * x + y) % q := by rw [Int.tmod_eq_emod_of_nonneg (by omega), Int.emod_add_emod]
      have ew1 : IntKind.i64.wrap (o * x) = o * x := IntWalk.i64_in _ (by omega)
      have ew2 : IntKind.i64.wrap (o * x % q) = o * x % q := IntWalk.i64_in _ (by omega)
      have ew3 : IntKind.i64.wrap (o * x % q + y) = o * x % q + y := IntWalk.i64_in _ (by omega)
      have ew4 : IntKind.i64.wrap ((o * x + y) % q) = (o * x + y) % q := IntWalk.i64_in _ (by omega)
      have ew5 : IntKind.i64.wrap ((j : Int) - 1) = (j : Int) - 1 := IntWalk.i64_in _ (by omega)
      have hpz : ¬ q = 0 := by omega
      have hpz2 : (q == 0) = false := by rw [beq_eq_false_iff_ne]; omega
      have hj0 : (0 : Int) ≤ (j : Int) := by omega
      have hj1 : (j : Int) < (n : Int) := by omega
      have HB := Lib.hid hb; clear hb
      go_wp2_with fail
      go_quiet (fail)
      go_wp2_with fail
      go_roundg j
      case measure => omega
      case rel => exact ⟨j, _, rfl, by omega, by go_num, rfl, HS.out, s0, s1, below_drewN HB.out _⟩
/-- a store behind the row's end -/
theorem OwnI.beyond {w : World} {B g n c : Nat} {l : List Int} (h : OwnI w B (.slice (some ⟨g, 0, none⟩) n c) l) (hn : l.length = n) {k : Nat} (hk : n ≤ k) (x : Value) :
    OwnI (w.setCell ⟨g, k, none⟩ x) B (.slice (some ⟨g, 0, none⟩) n c) l ∧ w.grownBy (w.setCell ⟨g, k, none⟩ x) (some g) := by
  subst hn
  have h2 := h.2.stored k x
  refine ⟨⟨h.1, ?_⟩, h2.2⟩
  have e : (l.map (Value.int .i64)).set k x = l.map (Value.int .i64) := List.set_eq_of_length_le (by simpa using hk)
  rw [e] at h2
  exact h2.1
theorem OwnI.room {w : World} {B g n c : Nat} {l : List Int} (h : OwnI w B (.slice (some ⟨g, 0, none⟩) n c) l) (hn : l.length = n) {k : Nat} (hk : k < c) :
    (w.cell? ⟨g, k, none⟩).isSome = true ∧ w.frozen? ⟨g, k, none⟩ = false := by
  subst hn
  have hf := World.ownsRow.frozenAt h.2 k
  refine ⟨?_, hf⟩
  rcases h.2.2 with ⟨hv, _⟩ | ⟨g', cap, cur, hv, hbg, hg, hcap, hcm2, hcs, htake⟩
  · cases hv
  · cases hv
    have hs : k < cur.size := by omega
    simp [World.cell?, hg, hs]
/-- 's[:i]' and 's[i+1:]' of an own row put together in its own block -/
theorem run_append_in {w : World} {B g n c i : Nat} {A : Addr} {l : List Int} (h : OwnI w B (.slice (some ⟨g, 0, none⟩) n c) l) (hn : l.length = n) (hi : i < n) (hB : B ≤ w.heap.size) (hmax : n ≤ 1000000) (hy : Ints w (.slice (some A) (n - (i + 1)) (c - (i + 1))) (l.drop (i + 1))) (hA : ∀ j u, ((l.drop (i + 1)).map (Value.int .i64))[j]? = some u → w.cell? (A.add j) = some u) :
    ∃ w', (∀ ty, (Builtin.append_ #[42, 42] ty #[.slice (some ⟨g, 0, none⟩) i c, .slice (some A) (n - (i + 1)) (c - (i + 1))]).run Try.prog w = .ok (.slice (some ⟨g, 0, none⟩) (n - 1) c) w') ∧ OwnI w' B (.slice (some ⟨g, 0, none⟩) (n - 1) c) (restL l i) ∧ w.grownBy w' (some g) := by
  have ht := h.takeS (k := i) (by omega) hn
  have hl1 : (l.take i).length = i := by rw [List.length_take]; omega
  have hl2 : (l.drop (i + 1)).length = n - (i + 1) := by rw [List.length_drop]; omega
  have hcn := h.ints.capMax.1
  obtain ⟨v', w', hr, h1, h2⟩ := run_append_ints (t := 42) rfl ht hy (by rw [hl1, hl2]; omega) hB 42
  obtain ⟨ii, hii, hz, hsz, hby⟩ := info_parts info_int
  rcases ht.2.2 with ⟨hv, _⟩ | ⟨g', cap, cur, hv, hbg, hg, hcap, hcm2, hcs, htake⟩
  · cases hv
  · rw [hl1] at hv
    cases hv
    have hr2 := fun ty => run_append_room (P := Try.prog) w 42 ty 3 ii Try.underlying42 hii g i c cur hg A (n - (i + 1)) (c - (i + 1)) ((l.drop (i + 1)).map (Value.int .i64)) (by simp [hsz]; omega) hA (ints_oneCell .i64 _) (by omega) (by simp [hcs, hsz]; omega)
    rw [show i + (n - (i + 1)) = n - 1 by omega] at hr2
    have hr3 := hr
    rw [hr2] at hr3
    injection hr3 with e1 e2
    rw [← e1] at h1
    exact ⟨w', fun ty => by rw [hr2 ty, e2], h1, h2⟩
theorem sl_dropS {w : World} {g n c k : Nat} {l : List Int} (h : Ints w (.slice (some ⟨g, 0, none⟩) n c) l) (hk : k ≤ n) (hl : l.length = n) (hcell : ∀ j, j < n → w.cell? ⟨g, j, none⟩ = some (.int .i64 (nth l j))) :
    ∃ A, (∀ W, (Instr.slice 42 (.slice (some ⟨g, 0, none⟩) n c) (some (.int .i64 (k : Int))) none none).run Try.prog W = .ok (.slice (some A) (n - k) (c - k)) W) ∧ Ints w (.slice (some A) (n - k) (c - k)) (l.drop k) ∧ (∀ j u, ((l.drop k).map (Value.int .i64))[j]? = some u → w.cell? (A.add j) = some u) := by
  have hd := h.drop hk
  by_cases hc : c = k
  · refine ⟨⟨g, 0, none⟩, fun W => ?_, ?_, fun j u hu => ?_⟩
    · simp [Try.underlying42, go_sem, hk, run_slice_l, run_underlying, hc]
    · rw [if_pos hc] at hd; exact hd
    · have hcn := h.capMax.1
      rw [List.drop_eq_nil_of_le (by omega)] at hu
      simp at hu
  · refine ⟨⟨g, k, none⟩, fun W => ?_, ?_, fun j u hu => ?_⟩
    · simp [Try.underlying42, go_sem, hk, run_slice_l, run_underlying, hc]
    · rw [if_neg hc] at hd; simpa [Addr.add_lit] using hd
    · have hj : j < (l.drop k).length := by simpa using (List.getElem?_eq_some_iff.1 hu).1
      rw [List.length_drop] at hj
      rw [Addr.add_lit, hcell (k + j) (by omega), nthE (by omega)]
      rw [List.getElem?_map, List.getElem?_drop, List.getElem?_eq_getElem (by omega)] at hu
      simpa using hu
/-- an append, a clear whose outcome is known -/
theorem wpList_append_known {ops : Array Oper} {rest : List Oper} {o : Oper} {a : Act} {w w' : World} {v y v' : Value} {Q : Exit → Act → World → Prop} (hg : o.guard = none) (s y0 : Operand)
    (ho : o.op = .call { callee := .builtin .append, args := #[s, y0], argTypes := #[42, 42] })
    (hs : a.eval s = v) (he : a.eval y0 = y) (hr : ∀ ty, (Builtin.append_ #[42, 42] ty #[v, y]).run Try.prog w = .ok v' w')
    (hK : wpList Try.prog ops Q rest (a.put o.dst v') w') : wpList Try.prog ops Q (o :: rest) a w := by
  refine wpList_plain hg fun K hK' => ?_
  unfold Oper.wp execOp
  simp only [ho, resolve, invoke, builtin, Sem.run_bind, Sem.run_pure, Result.andThen_ok, List.map_toArray, List.map_cons, List.map_nil, hs, he, hr]
  exact hK' _ _ hK
theorem wpList_clear_known {ops : Array Oper} {rest : List Oper} {o : Oper} {a : Act} {w w' : World} {v : Value} {Q : Exit → Act → World → Prop} (hg : o.guard = none) (s : Operand)
    (ho : o.op = .call { callee := .builtin .clear, args := #[s], argTypes := #[42] })
    (hs : a.eval s = v) (hr : ∀ ty, (Builtin.clear_ #[42] ty #[v]).run Try.prog w = .ok (.tuple #[]) w')
    (hK : wpList Try.prog ops Q rest (a.put o.dst (.tuple #[])) w') : wpList Try.prog ops Q (o :: rest) a w := by
  refine wpList_plain hg fun K hK' => ?_
  unfold Oper.wp execOp
  simp only [ho, resolve, invoke, builtin, Sem.run_bind, Sem.run_pure, Result.andThen_ok, List.map_toArray, List.map_cons, List.map_nil, hs, hr]
  exact hK' _ _ hK
set_option maxRecDepth 100000 in
set_option maxHeartbeats 4000000 in
theorem slices_Delete (v : Value) (l : List Int) (B i : Nat) (w : World) (h : OwnI w B v l) (hi : i < l.length) (hB : B ≤ w.heap.size) (hl : l.length ≤ 1000000) :
    Calls Try.prog 196 #[v, .int .i64 (i : Int), .int .i64 ((i : Int) + 1)] w fun e w' => (∃ v', e = .returned v' ∧ OwnI w' B v' (restL l i)) ∧ Below B w w' := by
  obtain ⟨a, c, rfl⟩ := h.shape
  obtain ⟨g, e, hgB, hgl, hcf⟩ := h.at_ (by omega)
  cases e
  obtain ⟨n, hn⟩ : ∃ n, l.length = n := ⟨_, rfl⟩
  rw [hn] at h hi hl hcf ⊢
  have hnc := h.ints.capMax
  obtain ⟨k1, k2⟩ := hnc
  unfold maxLen at k2
  have HO := Lib.hid h
  have HN := Lib.hid hn
  have HCF := Lib.hid hcf
  have hgw := (h.lt g rfl).2
  clear h hn hcf hgl
  have ha1 : (i : Int) + 1 = ((i + 1 : Nat) : Int) := by omega
  obtain ⟨A, hsd, hid, hca⟩ := sl_dropS HO.out.ints (k := i + 1) (by omega) HN.out (fun j hj => (HCF.out j hj).1)
  have HID := Lib.hid (hid.below ((Below.refl _ _).drew : Below w.heap.size w w.drew))
  have HCA : Hid (∀ j u, ((l.drop (i + 1)).map (Value.int .i64))[j]? = some u → w.drew.cell? (A.add j) = some u) := hca
  have hst := (sl_take HO.out.ints (x := (i : Int)) (k := i) rfl (by omega)).1
  have HOD := Lib.hid (HO.out.below ((Below.refl _ _).drew : Below w.heap.size w w.drew))
  obtain ⟨w1, hr1, ho1, hg1⟩ := run_append_in HOD.out HN.out hi hB hl HID.out HCA.out
  have hs1 : w.heap.size ≤ w1.heap.size := hg1.size
  have HB1 : Hid (Below B w w1) := ((Below.refl _ _).drew.mono hB).trans ((Below.refl B w.drew).grown hg1 hB (fun k hk => by cases hk; exact hgB))
  have HO1 := Lib.hid ho1
  have hln : (restL l i).length = n - 1 := by rw [restL_len (by rw [HN.out]; exact hi), HN.out]
  have HO2 := Lib.hid (HO1.out.beyond hln (k := n - 1) (Nat.le_refl _) (.int .i64 0))
  have HB2 : Hid (Below B w (w1.setCell ⟨g, n - 1, none⟩ (.int .i64 0))) := HB1.out.trans ((Below.refl B w1).setCell (p := ⟨g, n - 1, none⟩) hgB _)
  obtain ⟨hcl1, hfz⟩ := ho1.room hln (k := n - 1) (by omega)
  have hcl : ∀ ty, (Builtin.clear_ #[42] ty #[.slice (some ⟨g, n - 1, none⟩) 1 (c - (n - 1))]).run Try.prog w1 = .ok (.tuple #[]) (w1.setCell ⟨g, n - 1, none⟩ (.int .i64 0)) := fun ty =>
    Lib.run_clear_slice w1 42 3 ty (.int .i64 0) Try.underlying42 (fun w => rfl) rfl rfl g (n - 1) 1 (c - (n - 1)) (by omega) (fun j hj => by have e : j = 0 := (by omega); subst e; exact hcl1) (fun j hj => by have e : j = 0 := (by omega); subst e; exact hfz)
  have hsd1 : ∀ W, (Instr.slice 42 (.slice (some ⟨g, 0, none⟩) n c) (some (.int .i64 ((i : Int) + 1))) none none).run Try.prog W = .ok (.slice (some A) (n - (i + 1)) (c - (i + 1))) W := by rw [ha1]; exact hsd
  obtain ⟨x3, hs3⟩ : ∃ x, ∀ W, (Instr.slice 42 (.slice (some ⟨g, 0, none⟩) n c) (some (.int .i64 (i : Int))) (some (.int .i64 ((i : Int) + 1))) (some (.int .i64 (n : Int)))).run Try.prog W = .ok x W := by
    have h2 : (n : Int) ≤ (c : Int) := by omega
    have h3 : (i : Int) + 1 ≤ (n : Int) := by omega
    have h4 : (i : Int) ≤ (i : Int) + 1 := by omega
    exact ⟨sliced (some ⟨g, 0, none⟩) (i : Int).toNat ((i : Int) + 1).toNat (n : Int).toNat 1, fun W => by simp [Try.underlying42, go_sem, h2, h3, h4, run_slice_lhm, run_underlying]⟩
  have hs6 : ∀ W, (Instr.slice 42 (.slice (some ⟨g, 0, none⟩) (n - 1) c) (some (.int .i64 ((n - 1 : Nat) : Int))) (some (.int .i64 (n : Int))) none).run Try.prog W = .ok (.slice (some ⟨g, n - 1, none⟩) 1 (c - (n - 1))) W := by
    intro W
    have h2 : (n : Int) ≤ (c : Int) := by omega
    have h4 : ((n - 1 : Nat) : Int) ≤ (n : Int) := by omega
    have e1 : ¬ c = n - 1 := by omega
    have e2 : n - (n - 1) = 1 := by omega
    simp [Try.underlying42, go_sem, h2, h4, e1, e2, run_slice_lh, run_underlying]
  have hij : ((i : Int) == (i : Int) + 1) = false := by rw [beq_eq_false_iff_ne]; omega
  have hij2 : ¬ (i : Int) = (i : Int) + 1 := by omega
  clear hid hca ho1 hg1 hln hsd ha1 hcl1 hfz
  go_enter Try.func196, Try.ntmps196
  go_wp2_with fail
  refine wp_region_noPanic ?_
  refine wp_region_V (fun _ => True) 10 6 (.rd 0 (.rd 1 (.rd 2 (.rd 3 (.rd 4 (.rd 5 .done)))))) [6, 7] (by kernel_rfl) (by kernel_rfl) rfl (fun _ _ _ _ _ h => h) trivial ?_
  simp only [pickV, pickN, List.getElem?_cons_zero, List.getElem?_cons_succ]
  repeat (refine' wpV_read _ (by kernel_rfl) (fun w' hS' => ?_) ?_; rotate_left; (focus ((try dsimp only at hS'); go_simp; (try with_reducible rfl))); (try simp only [Act.put, List.setIfInBounds_toArray, List.set_cons_zero, List.set_cons_succ]))
  refine wpV_done ?_
  go_wp2_with (at_builtin; refine wpList_append_known rfl _ _ rfl rfl rfl hr1 ?_)
  refine NoPanic.normal ?_
  go_wp2_with (at_builtin; refine wpList_clear_known rfl _ rfl rfl hcl ?_)
  go_ret
  exact ⟨⟨_, rfl, HO2.out.1⟩, HB2.out⟩
end Go.Proofs.Ytacpnphfopmofaa
namespace Go.Proofs.Ytacpnphfopmofaa
open Go.RowKit
set_option linter.unusedSimpArgs false
set_option linter.unusedVariables false

/-- the residue of a sum of products -/
def dotM (q : Int) (a b : List Int) (n : Nat) : Int := dotI n (nth a) (nth b) % q
theorem dotM_succ {q : Int} (a b : List Int) (n : Nat) : dotM q a b (n + 1) = (dotM q a b n + nth a n * nth b n) % q := by
  unfold dotM; rw [dotI_succ, Int.emod_add_emod]
theorem mulD_bd {x y q : Int} (x0 : 0 ≤ x) (x1 : x < q) (y0 : 0 ≤ y) (y1 : y < q) (hq : q ≤ 2000000000) : 0 ≤ x * y ∧ x * y ≤ 4000000000000000000 := by
  refine ⟨Int.mul_nonneg x0 y0, ?_⟩
  have h := Int.mul_le_mul (show x ≤ 2000000000 by omega) (show y ≤ 2000000000 by omega) y0 (by omega)
  omega
set_option maxRecDepth 100000 in
set_option maxHeartbeats 2000000 in
theorem impl_dot (q : Int) (v u : Value) (a b : List Int) (w : World) (hq : 2 ≤ q ∧ q ≤ 2000000000) (h : Ints w v a) (h' : Ints w u b) (ha : ∀ y ∈ a, 0 ≤ y ∧ y < q) (hb : ∀ y ∈ b, 0 ≤ y ∧ y < q) (hl : a.length ≤ b.length) :
    Calls Try.prog 119 #[v, u, .int .i64 q] w fun e w' => e = .returned (.int .i64 (dotM q a b a.length)) ∧ Below w.heap.size w w' := by
  obtain ⟨hq1, hq2⟩ := hq
  obtain ⟨aa, n, c, rfl⟩ := h.shape
  obtain ⟨ab, m, d, rfl⟩ := h'.shape
  have HE := Lib.hid h.len
  have HF := Lib.hid h'.len
  obtain ⟨k1, k2⟩ := h.capMax
  obtain ⟨k3, k4⟩ := h'.capMax
  unfold maxLen at k2 k4
  have HA := Lib.hid ha
  have HBB := Lib.hid hb
  have HL : Hid (n ≤ m) := by have := HE.out; have := HF.out; unfold Hid; omega
  have H := Lib.hid h
  have H' := Lib.hid h'
  clear ha hb h h' hl
  go_enter Try.func119, Try.ntmps119
  go_wp2_with fail
  go_loopg [7, 11] n (fun gg ov iv wr => ∃ (j : Nat) (o : Int), j + gg = n ∧ iv = .int .i64 (j : Int) ∧ ov = .int .i64 o ∧ Hid (dotM q a b j = o) ∧ 0 ≤ o ∧ o < q ∧ Below w.heap.size w wr)
  case atStart => exact ⟨0, 0, by omega, rfl, rfl, by unfold Hid dotM dotI; simp, by omega, by omega, Below.refl _ _⟩
  case round =>
    obtain ⟨j, o, hjg, rfl, rfl, HO, ho0, ho1, hbw⟩ := hrel
    by_cases hlt : j < n
    · have hjm : j < m := by have := HL.out; omega
      obtain ⟨b1, o1, rfl, hcx⟩ := (H.out.below hbw).at_ (by omega)
      obtain ⟨b2, o2, rfl, hcy⟩ := (H'.out.below hbw).at_ (by omega)
      have hx := hcx j hlt
      have hy := hcy j hjm
      have hxb : 0 ≤ nth a j ∧ nth a j < q := by rw [nthE (by rw [HE.out]; exact hlt)]; exact HA.out _ (List.getElem_mem _)
      have hyb : 0 ≤ nth b j ∧ nth b j < q := by rw [nthE (by rw [HF.out]; exact hjm)]; exact HBB.out _ (List.getElem_mem _)
      have HS : Hid (dotM q a b (j + 1) = (o + nth a j * nth b j) % q) := by unfold Hid; rw [dotM_succ, HO.out]
      clear hcx hcy
      obtain ⟨x, hxx⟩ : ∃ y, nth a j = y := ⟨_, rfl⟩
      obtain ⟨y, hyy⟩ : ∃ y, nth b j = y := ⟨_, rfl⟩
      rw [hxx] at hx hxb HS
      rw [hyy] at hy hyb HS
      clear hxx hyy
      obtain ⟨x0, x1⟩ := hxb
      obtain ⟨y0, y1⟩ := hyb
      obtain ⟨m0, m1⟩ := mulD_bd x0 x1 y0 y1 hq2
      have r0 : 0 ≤ x * y % q := Int.emod_nonneg _ (by omega)
      have r1 : x * y % q < q := Int.emod_lt_of_pos _ (by omega)
      have s0 : 0 ≤ (o + x * y) % q := Int.emod_nonneg _ (by omega)
      have s1 : (o + x * y) % q < q := Int.emod_lt_of_pos _ (by omega)
      have et1 : Int.tmod (x * y) q = x * y % q := Int.tmod_eq_emod_of_nonneg m0
      have et2 : Int.tmod (o + x * y % q) q = (o + x * y) % q := by rw [Int.tmod_eq_emod_of_nonneg (by omega), Int.add_emod_emod]
      have et3 : Int.tmod (o + x * y) q = (o + x * y) % q := Int.tmod_eq_emod_of_nonneg (by omega)
      have ew1 : IntKind.i64.wrap (x * y) = x * y := IntWalk.i64_in _ (by omega)
      have ew2 : IntKind.i64.wrap (x * y % q) = x * y % q := IntWalk.i64_in _ (by omega)
      have ew3 : IntKind.i64.wrap (o + x * y % q) = o + x * y % q := IntWalk.i64_in _ (by omega)
      have ew6 : IntKind.i64.wrap (o + x * y) = o + x * y := IntWalk.i64_in _ (by omega)
      have ew4 : IntKind.i64.wrap ((o + x * y) % q) = (o + x * y) % q := IntWalk.i64_in _ (by omega)
      have ew5 : IntKind.i64.wrap ((j : Int) + 1) = (j : Int) + 1 := IntWalk.i64_in _ (by omega)
      have hpz : ¬ q = 0 := by omega
      have hpz2 : (q == 0) = false := by rw [beq_eq_false_iff_ne]; omega
      have hj0 : (0 : Int) ≤ (j : Int) := by omega
      have hj1 : (j : Int) < (n : Int) := by omega
      have hj2 : (j : Int) < (m : Int) := by omega
      have HB := Lib.hid hbw; clear hbw
      go_wp2_with fail
      go_quiet (fail)
      go_wp2_with fail
      go_roundg (n - (j + 1))
      case measure => omega
      case rel => exact ⟨j + 1, _, by omega, by go_num, rfl, HS.out, s0, s1, below_drewN HB.out _⟩
    · obtain rfl : n = j := by omega
      have HR : Hid (dotM q a b a.length = o) := by unfold Hid; rw [HE.out]; exact HO.out
      have HB := Lib.hid hbw; clear hbw
      go_wp2_with fail
      go_ret
      exact ⟨ret_int HR.out.symm, HB.out⟩
set_option maxRecDepth 100000 in
set_option maxHeartbeats 2000000 in
theorem spec_nDot (q : Int) (v u : Value) (a b : List Int) (w : World) (hq : 2 ≤ q ∧ q ≤ 2000000000) (h : Ints w v a) (h' : Ints w u b) (ha : ∀ y ∈ a, 0 ≤ y ∧ y < q) (hb : ∀ y ∈ b, 0 ≤ y ∧ y < q) (hl : a.length ≤ b.length) :
    Calls Try.prog 115 #[v, u, .int .i64 q] w fun e w' => e = .returned (.int .i64 (dotM q a b a.length)) ∧ Below w.heap.size w w' := by
  obtain ⟨hq1, hq2⟩ := hq
  obtain ⟨aa, n, c, rfl⟩ := h.shape
  obtain ⟨ab, m, d, rfl⟩ := h'.shape
  have HE := Lib.hid h.len
  have HF := Lib.hid h'.len
  obtain ⟨k1, k2⟩ := h.capMax
  obtain ⟨k3, k4⟩ := h'.capMax
  unfold maxLen at k2 k4
  have HA := Lib.hid ha
  have HBB := Lib.hid hb
  have HL : Hid (n ≤ m) := by have := HE.out; have := HF.out; unfold Hid; omega
  have H := Lib.hid h
  have H' := Lib.hid h'
  clear ha hb h h' hl
  go_enter Try.func115, Try.ntmps115
  go_wp2_with fail
  go_loopg [7, 12] n (fun gg ov iv wr => ∃ (j : Nat) (o : Int), j + gg = n ∧ iv = .int .i64 (j : Int) ∧ ov = .int .i64 o ∧ Hid (dotM q a b j = o) ∧ 0 ≤ o ∧ o < q ∧ Below w.heap.size w wr)
  case atStart => exact ⟨0, 0, by omega, rfl, rfl, by unfold Hid dotM dotI; simp, by omega, by omega, Below.refl _ _⟩
  case round =>
    obtain ⟨j, o, hjg, rfl, rfl, HO, ho0, ho1, hbw⟩ := hrel
    by_cases hlt : j < n
    · have hjm : j < m := by have := HL.out; omega
      obtain ⟨b1, o1, rfl, hcx⟩ := (H.out.below hbw).at_ (by omega)
      obtain ⟨b2, o2, rfl, hcy⟩ := (H'.out.below hbw).at_ (by omega)
      have hx := hcx j hlt
      have hy := hcy j hjm
      have hxb : 0 ≤ nth a j ∧ nth a j < q := by rw [nthE (by rw [HE.out]; exact hlt)]; exact HA.out _ (List.getElem_mem _)
      have hyb : 0 ≤ nth b j ∧ nth b j < q := by rw [nthE (by rw [HF.out]; exact hjm)]; exact HBB.out _ (List.getElem_mem _)
      have HS : Hid (dotM q a b (j + 1) = (o + nth a j * nth b j) % q) := by unfold Hid; rw [dotM_succ, HO.out]
      clear hcx hcy
      obtain ⟨x, hxx⟩ : ∃ y, nth a j = y := ⟨_, rfl⟩
      obtain ⟨y, hyy⟩ : ∃ y, nth b j = y := ⟨_, rfl⟩
      rw [hxx] at hx hxb HS
      rw [hyy] at hy hyb HS
      clear hxx hyy
      obtain ⟨x0, x1⟩ := hxb
      obtain ⟨y0, y1⟩ := hyb
      obtain ⟨m0, m1⟩ := mulD_bd x0 x1 y0 y1 hq2
      have r0 : 0 ≤ x * y % q := Int.emod_nonneg _ (by omega)
      have r1 : x * y % q < q := Int.emod_lt_of_pos _ (by omega)
      have s0 : 0 ≤ (o + x * y) % q := Int.emod_nonneg _ (by omega)
      have s1 : (o + x * y) % q < q := Int.emod_lt_of_pos _ (by omega)
      have et1 : Int.tmod (x * y) q = x * y % q := Int.tmod_eq_emod_of_nonneg m0
      have et2 : Int.tmod (o + x * y % q) q = (o + x * y) % q := by rw [Int.tmod_eq_emod_of_nonneg (by omega), Int.add_emod_emod]
      have et3 : Int.tmod (o + x * y) q = (o + x * y) % q := Int.tmod_eq_emod_of_nonneg (by omega)
      have ew1 : IntKind.i64.wrap (x * y) = x * y := IntWalk.i64_in _ (by omega)
      have ew2 : IntKind.i64.wrap (x * y % q) = x * y % q := IntWalk.i64_in _ (by omega)
      have ew3 : IntKind.i64.wrap (o + x * y % q) = o + x * y % q := IntWalk.i64_in _ (by omega)
      have ew6 : IntKind.i64.wrap (o + x * y) = o + x * y := IntWalk.i64_in _ (by omega)
      have ew4 : IntKind.i64.wrap ((o + x * y) % q) = (o + x * y) % q := IntWalk.i64_in _ (by omega)
      have ew5 : IntKind.i64.wrap ((j : Int) + 1) = (j : Int) + 1 := IntWalk.i64_in _ (by omega)
      have hpz : ¬ q = 0 := by omega
      have hpz2 : (q == 0) = false := by rw [beq_eq_false_iff_ne]; omega
      have hj0 : (0 : Int) ≤ (j : Int) := by omega
      have hj1 : (j : Int) < (n : Int) := by omega
      have hj2 : (j : Int) < (m : Int) := by omega
      have HB := Lib.hid hbw; clear hbw
      go_wp2_with fail
      skip
      go_roundg (n - (j + 1))
      case measure => omega
      case rel => exact ⟨j + 1, _, by omega, by go_num, rfl, HS.out, s0, s1, HB.out⟩
    · obtain rfl : n = j := by omega
      have HR : Hid (dotM q a b a.length = o) := by unfold Hid; rw [HE.out]; exact HO.out
      have HB := Lib.hid hbw; clear hbw
      go_wp2_with fail
      go_ret
      exact ⟨ret_int HR.out.symm, HB.out⟩
end Go.Proofs.Ytacpnphfopmofaa
namespace Go.Proofs.Ytacpnphfopmofaa
open Go.RowKit
set_option linter.unusedSimpArgs false
set_option linter.unusedVariables false

theorem evI_append (a b : List Int) (x : Int) : evI (a ++ b) x = evI a x + evI b x * x ^ a.length := by
  induction a with
  | nil => simp [evI]
  | cons c a ih => rw [List.cons_append, evI_cons, evI_cons, ih, List.length_cons, Int.pow_succ]; grind
theorem evI_one (a x : Int) : evI [a] x = a := by simp [evI]
theorem evI_take_succ {l : List Int} {k : Nat} (hk : k < l.length) (x : Int) : evI (l.take (k + 1)) x = evI (l.take k) x + nth l k * x ^ k := by
  rw [List.take_succ_eq_append_getElem hk, evI_append, evI_one, List.length_take, Nat.min_eq_left (by omega), nthE hk]
theorem evI_set {l : List Int} {k : Nat} (hk : k < l.length) (v x : Int) : evI (l.set k v) x = evI l x + (v - nth l k) * x ^ k := by
  have h1 : l.set k v = l.take k ++ ([v] ++ l.drop (k + 1)) := by
    rw [List.set_eq_take_append_cons_drop, if_pos hk]; rfl
  have h2 : l = l.take k ++ ([l[k]] ++ l.drop (k + 1)) := by
    simp
  have hl : (l.take k).length = k := by rw [List.length_take]; omega
  rw [h1, evI_append, evI_append, hl, evI_one]
  conv => rhs; lhs; rw [h2, evI_append, evI_append, hl, evI_one]
  rw [nthE hk]
  simp only [List.length_singleton]
  grind
theorem evI_zeros (n : Nat) (x : Int) : evI (List.replicate n 0) x = 0 := by
  induction n with
  | zero => rfl
  | succ n ih => rw [List.replicate_succ, evI_cons, ih]; simp
/-- residues -/
def ResL (q : Int) (l : List Int) : Prop := ∀ y ∈ l, 0 ≤ y ∧ y < q
theorem ResL.at_ {q : Int} {l : List Int} (h : ResL q l) {k : Nat} (hk : k < l.length) : 0 ≤ nth l k ∧ nth l k < q := by rw [nthE hk]; exact h _ (List.getElem_mem hk)
theorem ResL.set {q : Int} {l : List Int} (h : ResL q l) (k : Nat) {v : Int} (hv : 0 ≤ v ∧ v < q) : ResL q (l.set k v) := fun y hy => by
  rcases List.mem_or_eq_of_mem_set hy with h1 | rfl
  · exact h y h1
  · exact hv
/-- what the product holds when i rows and k cells of the next are done -/
structure MulS (q : Int) (f g o : List Int) (i k : Nat) : Prop where
  len : o.length = f.length + g.length - 1
  res : ResL q o
  ev : ∀ x, evI o x % q = (evI (f.take i) x * evI g x + nth f i * x ^ i * evI (g.take k) x) % q
theorem MulS.step {q : Int} {f g o : List Int} {i k : Nat} (h : MulS q f g o i k) (hq : 0 < q) (hi : i < f.length) (hk : k < g.length) :
    MulS q f g (o.set (i + k) ((nth o (i + k) + nth f i * nth g k) % q)) i (k + 1) := by
  have hl : i + k < o.length := by rw [h.len]; omega
  refine ⟨by rw [List.length_set]; exact h.len, h.res.set _ ⟨Int.emod_nonneg _ (by omega), Int.emod_lt_of_pos _ hq⟩, fun x => ?_⟩
  rw [evI_set hl, evI_take_succ hk]
  have hx := h.ev x
  have e1 := Int.mul_ediv_add_emod (evI o x) q
  have e2 := Int.mul_ediv_add_emod (nth o (i + k) + nth f i * nth g k) q
  rw [Int.emod_eq_emod_iff_emod_sub_eq_zero] at hx ⊢
  obtain ⟨c, hc⟩ := Int.dvd_of_emod_eq_zero hx
  apply Int.emod_eq_zero_of_dvd
  refine ⟨c - (nth o (i + k) + nth f i * nth g k) / q * x ^ (i + k), ?_⟩
  have e3 : (nth o (i + k) + nth f i * nth g k) % q = nth o (i + k) + nth f i * nth g k - q * ((nth o (i + k) + nth f i * nth g k) / q) := by omega
  rw [e3, Int.pow_add]
  grind
theorem MulS.row {q : Int} {f g o : List Int} {i : Nat} (h : MulS q f g o i g.length) (hi : i < f.length) : MulS q f g o (i + 1) 0 := by
  refine ⟨h.len, h.res, fun x => ?_⟩
  rw [h.ev x, List.take_length, evI_take_succ hi]
  congr 1
  simp only [List.take_zero]
  rw [show evI [] x = 0 from rfl]
  grind
theorem MulS.start {q : Int} {f g : List Int} (hq : 0 < q) : MulS q f g (List.replicate (f.length + g.length - 1) 0) 0 0 := by
  refine ⟨by simp, fun y hy => by rw [List.eq_of_mem_replicate hy]; omega, fun x => ?_⟩
  rw [evI_zeros]; simp only [List.take_zero]; rw [show evI [] x = 0 from rfl]; simp
set_option maxRecDepth 100000 in
set_option maxHeartbeats 8000000 in
theorem impl_mulPolys (q : Int) (v u : Value) (f h : List Int) (w : World) (hq : 2 ≤ q ∧ q ≤ 2000000000) (hf : Ints w v f) (hh : Ints w u h) (rf : ResL q f) (rh : ResL q h) (f0 : 0 < f.length) (h0 : 0 < h.length) (fl : f.length ≤ 1000) (hl : h.length ≤ 1000) :
    Calls Try.prog 198 #[.int .i64 q, v, u] w fun e w' => (∃ v' o, e = .returned v' ∧ OwnI w' w.heap.size v' o ∧ o.length = f.length + h.length - 1 ∧ ResL q o ∧ ∀ x, evI o x % q = evI f x * evI h x % q) ∧ Below w.heap.size w w' := by
  obtain ⟨hq1, hq2⟩ := hq
  obtain ⟨fa, fn, fc, rfl⟩ := hf.shape
  obtain ⟨ha, hn, hc, rfl⟩ := hh.shape
  have HFE := Lib.hid hf.len
  have HHE := Lib.hid hh.len
  have HF := Lib.hid hf
  have HH := Lib.hid hh
  have RF := Lib.hid rf
  have RH := Lib.hid rh
  have hfn : 0 < fn := by have := HFE.out; omega
  have hhn : 0 < hn := by have := HHE.out; omega
  have hf1 : fn ≤ 1000 := by have := HFE.out; omega
  have hh1 : hn ≤ 1000 := by have := HHE.out; omega
  clear hf hh rf rh f0 h0 fl hl
  obtain ⟨N, hN⟩ : ∃ N, N = fn + hn - 1 := ⟨_, rfl⟩
  have hNi : (fn : Int) + (hn : Int) - 1 = (N : Int) := by omega
  have HNL : Hid (f.length + h.length - 1 = N) := by unfold Hid; rw [HFE.out, HHE.out, hN]
  have hN0 : N ≤ 2000 := by omega
  have hN1 : fn + hn = N + 1 := by omega
  have HN1 := Lib.hid hN1
  clear hN1
  have ew1 : IntKind.i64.wrap ((fn : Int) + (hn : Int)) = (fn : Int) + (hn : Int) := IntWalk.i64_in _ (by omega)
  have ew2 : IntKind.i64.wrap ((fn : Int) + (hn : Int) - 1) = (N : Int) := by rw [hNi]; exact IntWalk.i64_in _ (by omega)
  have hz1 : ((fn : Int) == 0) = false := by rw [beq_eq_false_iff_ne]; omega
  have hz2 : ((hn : Int) == 0) = false := by rw [beq_eq_false_iff_ne]; omega
  have hz3 : ¬ fn = 0 := by omega
  have hz4 : ¬ hn = 0 := by omega
  clear hN hNi
  obtain ⟨V, hV⟩ : ∃ V, V = w.alloc (.cells (madeCells #[.int .i64 0] N) 3) := ⟨_, rfl⟩
  have HO0 : Hid (OwnI V w.heap.size (.slice (some ⟨w.heap.size, 0, none⟩) N N) (List.replicate N 0)) := by unfold Hid; rw [hV]; exact own_zeros w N (by omega)
  have HB0 : Hid (Below w.heap.size w V) := by unfold Hid; rw [hV]; exact (Below.refl _ _).alloc (Nat.le_refl _) _
  have hmk : ∀ u, (Instr.makeSlice 42 (.int .i64 (N : Int)) (.int .i64 (N : Int))).run Try.prog u = .ok (.slice (some ⟨u.heap.size, 0, none⟩) N N) (u.alloc (.cells (madeCells #[.int .i64 0] N) 3)) := fun u => by
    obtain ⟨i, hi, hz, hsz, hby⟩ := info_parts info_int
    have := run_make (P := Try.prog) u 42 3 i (.int .i64 0) Try.underlying42 hi hz .i64 .i64 N N (by omega) (Int.le_refl _) (by rw [hby]; omega) (by omega)
    simpa [Value.cells, hsz] using this
  go_enter Try.func198, Try.ntmps198
  go_wp2_with fail
  rw [← hV]
  clear hV
  go_loopg [29] fn (fun gg iv wr => ∃ (i : Nat) (o : List Int), i + gg = fn ∧ iv = .int .i64 (i : Int) ∧ Hid (OwnI wr w.heap.size (.slice (some ⟨w.heap.size, 0, none⟩) N N) o) ∧ Hid (MulS q f h o i 0) ∧ Hid (Below w.heap.size w wr))
  case atStart => exact ⟨0, _, by omega, rfl, HO0, by unfold Hid; rw [← HNL.out]; exact MulS.start (by omega), HB0⟩
  case round =>
    obtain ⟨i, o, hig, rfl, HO, HM, HB⟩ := hrel
    have HIG := Lib.hid hig
    clear hig
    by_cases hlt : i < fn
    · have hgi : fn - (i + 1) < gk := by have := HIG.out; omega
      obtain ⟨b, oo, rfl, hcx⟩ := (HF.out.below HB.out).at_ hfn
      have y0 := hcx i hlt
      clear hcx
      have b0 : (0 : Int) ≤ (i : Int) := by omega
      have bk1 : (i : Int) < (fn : Int) := by omega
      have hwk : IntKind.i64.wrap ((i : Int) + 1) = (i : Int) + 1 := IntWalk.i64_in _ (by omega)
      have HFI : Hid (0 ≤ nth f i ∧ nth f i < q) := RF.out.at_ (by rw [HFE.out]; exact hlt)
      obtain ⟨x, hx⟩ : ∃ x, nth f i = x := ⟨_, rfl⟩
      rw [hx] at y0 HFI
      have HX := Lib.hid hx
      clear hx
      obtain ⟨x0, x1⟩ := HFI.out
      obtain ⟨wo, rfl⟩ : ∃ u, u = wr := ⟨_, rfl⟩
      obtain ⟨go, rfl⟩ : ∃ u, u = gk := ⟨_, rfl⟩
      go_wp2_with fail
      clear y0
      go_loopg [36] hn (fun gj iv wr => ∃ (k : Nat) (o : List Int), k + gj = hn ∧ iv = .int .i64 (k : Int) ∧ Hid (OwnI wr w.heap.size (.slice (some ⟨w.heap.size, 0, none⟩) N N) o) ∧ Hid (MulS q f h o i k) ∧ Hid (Below w.heap.size w wr))
      case atStart => exact ⟨0, o, by omega, rfl, HO, HM, HB⟩
      case round =>
        clear HO HM HB
        obtain ⟨k, o, hkg, rfl, HO, HM, HB⟩ := hrel
        by_cases hlk : k < hn
        · obtain ⟨b2, o2, rfl, hcy⟩ := (HH.out.below HB.out).at_ hhn
          have y1 := hcy k hlk
          clear hcy
          have hgk : hn - (k + 1) < gk := by omega
          have b2' : (0 : Int) ≤ (k : Int) := by omega
          have bk2 : (k : Int) < (hn : Int) := by omega
          have hwk2 : IntKind.i64.wrap ((k : Int) + 1) = (k : Int) + 1 := IntWalk.i64_in _ (by omega)
          have HHI : Hid (0 ≤ nth h k ∧ nth h k < q) := RH.out.at_ (by rw [HHE.out]; exact hlk)
          obtain ⟨y, hy⟩ : ∃ x, nth h k = x := ⟨_, rfl⟩
          rw [hy] at y1 HHI
          have HY := Lib.hid hy
          clear hy
          obtain ⟨yy0, yy1⟩ := HHI.out
          obtain ⟨J, hJ⟩ : ∃ J, i + k = J := ⟨_, rfl⟩
          have hJN : J < N := by have := HN1.out; omega
          have ewJ : IntKind.i64.wrap ((i : Int) + (k : Int)) = (J : Int) := by rw [show (i : Int) + (k : Int) = (J : Int) by omega]; exact IntWalk.i64_in _ (by omega)
          have bJ0 : (0 : Int) ≤ (J : Int) := by omega
          have bJ1 : (J : Int) < (N : Int) := by omega
          have HJ := Lib.hid hJ
          clear hJ
          have HOL : Hid (o.length = N) := by unfold Hid; rw [HM.out.len, HNL.out]
          obtain ⟨g, e, _, _, hcz⟩ := HO.out.at_ (by rw [HOL.out]; omega)
          cases e
          obtain ⟨z0, zf⟩ := hcz J hJN
          clear hcz
          have HZI : Hid (0 ≤ nth o J ∧ nth o J < q) := HM.out.res.at_ (by rw [HOL.out]; exact hJN)
          have HST : Hid (MulS q f h (o.set J ((nth o J + x * y) % q)) i (k + 1)) := by
            have hs := HM.out.step (by omega) (by rw [HFE.out]; exact hlt) (by rw [HHE.out]; exact hlk)
            rw [HJ.out, HX.out, HY.out] at hs
            exact hs
          obtain ⟨z, hz⟩ : ∃ x, nth o J = x := ⟨_, rfl⟩
          rw [hz] at z0 HZI HST
          clear hz
          obtain ⟨zz0, zz1⟩ := HZI.out
          obtain ⟨m0, m1⟩ := mulD_bd x0 x1 yy0 yy1 hq2
          have r0 : 0 ≤ x * y % q := Int.emod_nonneg _ (by omega)
          have r1 : x * y % q < q := Int.emod_lt_of_pos _ (by omega)
          have s0 : 0 ≤ (z + x * y) % q := Int.emod_nonneg _ (by omega)
          have s1 : (z + x * y) % q < q := Int.emod_lt_of_pos _ (by omega)
          have et1 : Int.tmod (x * y) q = x * y % q := Int.tmod_eq_emod_of_nonneg m0
          have et2 : Int.tmod (z + x * y % q) q = (z + x * y) % q := by rw [Int.tmod_eq_emod_of_nonneg (by omega), Int.add_emod_emod]
          have ewa : IntKind.i64.wrap (x * y) = x * y := IntWalk.i64_in _ (by omega)
          have ewb : IntKind.i64.wrap (x * y % q) = x * y % q := IntWalk.i64_in _ (by omega)
          have ewc : IntKind.i64.wrap (z + x * y % q) = z + x * y % q := IntWalk.i64_in _ (by omega)
          have ewd : IntKind.i64.wrap ((z + x * y) % q) = (z + x * y) % q := IntWalk.i64_in _ (by omega)
          have HVI : Hid (I64 ((z + x * y) % q)) := ⟨by omega, by omega⟩
          have hpz : ¬ q = 0 := by omega
          have hpz2 : (q == 0) = false := by rw [beq_eq_false_iff_ne]; omega
          have HO2 := Lib.hid (HO.out.stored HOL.out J HVI.out)
          clear HO
          have zd : wr.drew.cell? ⟨w.heap.size, J, none⟩ = some (.int .i64 z) := z0
          have zfd : wr.drew.frozen? ⟨w.heap.size, J, none⟩ = false := zf
          go_wp2_with fail
          clear y1
          refine wp_region_noPanic ?_
          refine wp_region_V (fun w' => w'.cell? ⟨w.heap.size, J, none⟩ = some (.int .i64 z)) 22 19 (.rd 0 (.rd 1 (.rd 2 (.rd 3 (.rd 4 (.rd 5 (.rd 6 (.rd 7 (.rd 8 (.rd 9 (.rd 10 (.rd 11 (.rd 12 (.rd 13 (.rd 14 (.rd 15 (.rd 16 (.rd 17 (.rd 18 .done))))))))))))))))))) [19] (by kernel_rfl) (by kernel_rfl) rfl (fun _ _ _ _ _ h => h) zd ?_
          simp only [pickV, pickN, List.getElem?_cons_zero, List.getElem?_cons_succ]
          repeat (refine' wpV_read _ (by kernel_rfl) (fun w' hS' => ?_) ?_; rotate_left; (focus ((try dsimp only at hS'); go_simp; (try with_reducible rfl))); (try simp only [Act.put, List.setIfInBounds_toArray, List.set_cons_zero, List.set_cons_succ]))
          refine wpV_done ?_
          go_wp2_with fail
          refine NoPanic.normal ?_
          clear z0 zf zd zfd
          go_wp2_with fail
          go_roundg (hn - (k + 1))
          case measure => exact hgk
          case rel => exact ⟨k + 1, _, by omega, by go_num, HO2.out.1.below ((Below.refl _ _).drew : Below _ _ _), HST, (HB.out.setCell (p := ⟨w.heap.size, J, none⟩) (Nat.le_refl _) _).trans ((Below.refl _ _).drew : Below w.heap.size _ _)⟩
        · obtain rfl : hn = k := by omega
          have HRW : Hid (MulS q f h o (i + 1) 0) := MulS.row (by rw [HHE.out]; exact HM.out) (by rw [HFE.out]; exact hlt)
          go_wp2_with fail
          go_roundg (fn - (i + 1))
          case measure => exact hgi
          case rel => exact ⟨i + 1, o, by omega, by go_num, HO, HRW, HB⟩
    · obtain rfl : fn = i := by have := HIG.out; omega
      have HEV : Hid (∀ x, evI o x % q = evI f x * evI h x % q) := fun x => by
        rw [HM.out.ev x, List.take_of_length_le (by rw [HFE.out]; exact Nat.le_refl _)]
        simp only [List.take_zero]; rw [show evI [] x = 0 from rfl]; congr 1; grind
      go_wp2_with fail
      go_ret
      exact ⟨⟨_, o, rfl, HO.out, HM.out.len, HM.out.res, HEV.out⟩, HB.out⟩
end Go.Proofs.Ytacpnphfopmofaa
