/- Slices of slices as rows of one cell; what growing gives. No program is named here but for types. -/
import Derived.Test.YtbcaknmpbkapnaaFr
namespace Go.Proofs.Ytbcaknmpbkapnaa
open Go.RowKit
set_option linter.unusedSimpArgs false
set_option linter.unusedVariables false

/-- a slice of integers as a row of one cell -/
abbrev rL : RowK (List Int) := rMap (rS sInts rNil) (fun l => (l, ()))
theorem rdL_one {w : World} {vs : List Value} {l : List Int} (h : rL.rd w vs l) : ∃ v, vs = [v] ∧ Ints w v l := by
  obtain ⟨v, us, rfl, h1, rfl⟩ := h
  exact ⟨v, rfl, h1⟩
theorem rdL_mk {w : World} {v : Value} {l : List Int} (h : Ints w v l) : rL.rd w [v] l := ⟨v, [], rfl, h, rfl⟩
theorem RdL_of_R {w : World} {v : Value} {ls : List (List Int)} (h : RdR rL w v ls) : RdL kInts w v ls := by
  obtain ⟨a, n, c, e, h1, h2, h3, h4⟩ := h
  refine ⟨a, n, c, e, h1, h2, h3, ?_⟩
  rcases h4 with h4 | h4 | ⟨b, o, h4, hc⟩
  · exact .inl h4
  · exact .inr (.inl h4)
  · have hx : ∀ i : Fin ls.length, ∃ v, w.cell? ⟨b, o + i.1, none⟩ = some v ∧ Ints w v ls[i.1] := fun i => by
      obtain ⟨vs, k1, k2⟩ := hc i.1 i.2
      obtain ⟨v, rfl, hv⟩ := rdL_one k2
      have k3 := k1 0 (by decide)
      have e1 : rL.width = 1 := rfl
      rw [e1, Nat.mul_one, Nat.add_zero] at k3
      exact ⟨v, k3, hv⟩
    refine .inr (.inr ⟨b, o, h4, fun i => if hi : i < ls.length then Classical.choose (hx ⟨i, hi⟩) else undef, fun i hi => ?_⟩)
    have := Classical.choose_spec (hx ⟨i, hi⟩)
    simp only [dif_pos hi]
    exact this
theorem R_of_RdL {w : World} {v : Value} {ls : List (List Int)} (h : RdL kInts w v ls) : RdR rL w v ls := by
  obtain ⟨a, n, c, e, h1, h2, h3, h4⟩ := h
  refine ⟨a, n, c, e, h1, h2, h3, ?_⟩
  rcases h4 with h4 | h4 | ⟨b, o, h4, vs, hc⟩
  · exact .inl h4
  · exact .inr (.inl h4)
  · refine .inr (.inr ⟨b, o, h4, fun i hi => ⟨[vs i], fun k hk => ?_, rdL_mk (hc i hi).2⟩⟩)
    have e1 : rL.width = 1 := rfl
    rw [e1] at hk ⊢
    obtain rfl : k = 0 := by omega
    rw [Nat.mul_one, Nat.add_zero]
    exact (hc i hi).1
section
variable {δ : Type} {e : TypeId} {R : RowK δ} {w w' : World} {B : Nat} {ds es : List δ}
/-- more structs than there is room for: a new row, all else as it was -/
theorem run_append_FrGrow {P : Program} (ts : TypeId) (i : TypeInfo) (z : Value) (ht : P.underlying ts = some (.slice e)) (hi' : P.info? e = some i) (hz : i.zero = some z) (hsz : i.size = R.width) (hby : i.bytes ≤ 1000) (hzs : z.cells.size = R.width) (hpos : 0 < R.width)
    {g n c : Nat} (hown : FrR e R w w B (.slice (some ⟨g, 0, none⟩) n c) ds) (hn : ds.length = n) (ad : Addr) (m c2 : Nat) (css' : List (List Value)) (hl' : css'.length = es.length) (hm : es.length = m) (hnews : ∀ j u, css'.flatten[j]? = some u → w.cell? (ad.add j) = some u)
    (hrd : ∀ i (h1 : i < css'.length) (h2 : i < es.length), R.rd w css'[i] es[i]) (hB : B ≤ w.heap.size) (hlen : ds.length + es.length ≤ 1000000000) (hcap : c < n + m) (ty : TypeId) :
    ∃ v' w', (Builtin.append_ #[ts, ts] ty #[.slice (some ⟨g, 0, none⟩) n c, .slice (some ad) m c2]).run P w = .ok v' w' ∧ FrR e R w w' w.heap.size v' (ds ++ es) ∧ Below w.heap.size w w' := by
  obtain ⟨v', w', hr, h1, h2⟩ := run_append_Fr ts i z ht hi' hz hsz hby hzs hpos hown ad m c2 css' hl' hm hnews hrd hB hlen ty
  obtain ⟨css, hvl, hO, hel⟩ := hown
  have hfl := flat_len (FrR.lens hl' hrd)
  have hb1 : (n + m) * i.bytes ≤ 140737488355328 := by
    have : (n + m) * i.bytes ≤ 1000000000 * 1000 := Nat.mul_le_mul (by omega) hby
    omega
  have h3 := run_append_grow (P := P) (w := w) ts ty e i z ht hi' hz ⟨g, 0, none⟩ n c css.flatten (by rw [hO.1, hn, hsz]) (hO.cells (g := g) rfl) ad m c2 css'.flatten (by rw [hfl, hl', hm, hsz]) hnews hcap (by omega) (growslice_fits (by omega) hb1)
  rw [hr] at h3
  cases h3
  refine ⟨_, _, hr, ?_, (Below.refl _ _).drew.alloc (Nat.le_refl _) _⟩
  obtain ⟨css2, q1, q2, q3⟩ := h1
  exact ⟨css2, q1, ⟨q2.1, by
    rcases q2.2 with h | ⟨g2, cap, cur, e2, hb, r⟩
    · exact .inl h
    · refine .inr ⟨g2, cap, cur, e2, ?_, r⟩
      have ea := (Value.slice.inj e2).1
      cases ea
      exact Nat.le_refl _⟩, q3⟩
theorem wpList_append_FrGrow {P : Program} (ts : TypeId) (i : TypeInfo) (z : Value) (ht : P.underlying ts = some (.slice e)) (hi' : P.info? e = some i) (hz : i.zero = some z) (hsz : i.size = R.width) (hby : i.bytes ≤ 1000) (hzs : z.cells.size = R.width) (hpos : 0 < R.width)
    {ops : Array Oper} {rest : List Oper} {o : Oper} {ac : Act} {Q : Exit → Act → World → Prop} (hgd : o.guard = none) (s y : Operand)
    (ho : o.op = .call { callee := .builtin .append, args := #[s, y], argTypes := #[ts, ts] })
    {g n c : Nat} (hown : FrR e R w w B (.slice (some ⟨g, 0, none⟩) n c) ds) (hn : ds.length = n) (ad : Addr) (m c2 : Nat) (css' : List (List Value)) (hs : ac.eval s = .slice (some ⟨g, 0, none⟩) n c) (hy : ac.eval y = .slice (some ad) m c2) (hl' : css'.length = es.length) (hm : es.length = m) (hnews : ∀ j u, css'.flatten[j]? = some u → w.cell? (ad.add j) = some u)
    (hrd : ∀ i (h1 : i < css'.length) (h2 : i < es.length), R.rd w css'[i] es[i]) (hB : B ≤ w.heap.size) (hlen : ds.length + es.length ≤ 1000000000) (hcap : c < n + m)
    (hK : ∀ v' w', FrR e R w w' w.heap.size v' (ds ++ es) → Below w.heap.size w w' → wpList P ops Q rest (ac.put o.dst v') w') : wpList P ops Q (o :: rest) ac w := by
  obtain ⟨v', w', hr, h1, h2⟩ := run_append_FrGrow ts i z ht hi' hz hsz hby hzs hpos hown hn ad m c2 css' hl' hm hnews hrd hB hlen hcap o.type
  refine wpList_plain hgd fun K hK' => ?_
  unfold Oper.wp execOp
  simp only [ho, resolve, invoke, builtin, Sem.run_bind, Sem.run_pure, Result.andThen_ok, List.map_toArray, List.map_cons, List.map_nil, hs, hy, hr]
  exact hK' _ _ (hK v' w' h1 h2)
end
theorem news_flat {w : World} {g : Nat} {t : TypeId} {cs : List Value} {css : List (List Value)} (h : BoxN w g t cs) (hc : css.flatten = cs) : ∀ j u, css.flatten[j]? = some u → w.cell? ((⟨g, 0, none⟩ : Addr).add j) = some u := fun j u hu => by
  rw [Addr.add_lit, Nat.zero_add]
  rw [hc] at hu
  exact h.cell hu
theorem rd2L {w : World} {v1 v2 : Value} {l1 l2 : List Int} (h1 : Ints w v1 l1) (h2 : Ints w v2 l2) : ∀ i (k1 : i < [[v1], [v2]].length) (k2 : i < [l1, l2].length), rL.rd w ([[v1], [v2]][i]) ([l1, l2][i]) := fun i k1 k2 => by
  have : i = 0 ∨ i = 1 := by simp at k1; omega
  rcases this with rfl | rfl
  · exact rdL_mk h1
  · exact rdL_mk h2
theorem rd3L {w : World} {v1 v2 v3 : Value} {l1 l2 l3 : List Int} (h1 : Ints w v1 l1) (h2 : Ints w v2 l2) (h3 : Ints w v3 l3) : ∀ i (k1 : i < [[v1], [v2], [v3]].length) (k2 : i < [l1, l2, l3].length), rL.rd w ([[v1], [v2], [v3]][i]) ([l1, l2, l3][i]) := fun i k1 k2 => by
  have : i = 0 ∨ i = 1 ∨ i = 2 := by simp at k1; omega
  rcases this with rfl | rfl | rfl
  · exact rdL_mk h1
  · exact rdL_mk h2
  · exact rdL_mk h3
theorem rd4L {w : World} {v1 v2 v3 v4 : Value} {l1 l2 l3 l4 : List Int} (h1 : Ints w v1 l1) (h2 : Ints w v2 l2) (h3 : Ints w v3 l3) (h4 : Ints w v4 l4) : ∀ i (k1 : i < [[v1], [v2], [v3], [v4]].length) (k2 : i < [l1, l2, l3, l4].length), rL.rd w ([[v1], [v2], [v3], [v4]][i]) ([l1, l2, l3, l4][i]) := fun i k1 k2 => by
  have : i = 0 ∨ i = 1 ∨ i = 2 ∨ i = 3 := by simp at k1; omega
  rcases this with rfl | rfl | rfl | rfl
  · exact rdL_mk h1
  · exact rdL_mk h2
  · exact rdL_mk h3
  · exact rdL_mk h4
theorem FrR.two (w : World) {v1 v2 : Value} {d1 d2 : List Int} (h1 : Ints w v1 d1) (h2 : Ints w v2 d2) :
    FrR 22 rL (w.alloc (.cells #[v1, v2] 22)) (w.alloc (.cells #[v1, v2] 22)) w.heap.size (.slice (some ⟨w.heap.size, 0, none⟩) 2 2) [d1, d2] := by
  have hO := World.ownsRow_lit (e := 22) (size := 1) w #[v1, v2] 2 (Nat.le_refl _) (by unfold maxLen; omega) (by simp)
  have hO' : (w.alloc (.cells #[v1, v2] 22)).ownsRow w.heap.size 22 1 (.slice (some ⟨w.heap.size, 0, none⟩) 2 2) 2 [v1, v2] := by simpa using hO
  exact ⟨[[v1], [v2]], rfl, hO', rd2L (h1.alloc _) (h2.alloc _)⟩
theorem FrR.up {δ : Type} {e : TypeId} {R : RowK δ} {w0 w1 w : World} {B : Nat} {v : Value} {ds : List δ} (h : FrR e R w0 w B v ds) (hb : Below w0.heap.size w0 w1) : FrR e R w1 w B v ds := by
  obtain ⟨css, hl, hO, hel⟩ := h
  exact ⟨css, hl, hO, fun i h1 h2 => R.rd_below (hel i h1 h2) hb⟩
end Go.Proofs.Ytbcaknmpbkapnaa
