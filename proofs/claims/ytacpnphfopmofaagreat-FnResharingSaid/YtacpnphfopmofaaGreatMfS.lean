/- Rows of dealings of before, beside rows of ints; the reference's sums column by column. -/
import Derived.Test.YtacpnphfopmofaaGreatDrZ3S
import Derived.Test.YtacpnphfopmofaaGreatRf6S
namespace Go.Proofs.YtacpnphfopmofaaGreat
open Go.RowKit
set_option linter.unusedSimpArgs false
set_option linter.unusedVariables false

/-- a row of dealings whose lists all are of before (in W) -/
structure ForDs (W w : World) (B : Nat) (v : Value) (ds : List DealingD) : Prop where
  bel : Below W.heap.size W w
  le : W.heap.size ≤ B
  row : ∃ css : List (List Value), css.length = ds.length ∧ w.ownsRow B 61 2 v ds.length css.flatten ∧
    ∀ i (h1 : i < css.length) (h2 : i < ds.length), ∃ x y, css[i] = [x, y] ∧ Ints W x ds[i].c ∧ Ints W y ds[i].s
section
variable {W w w' : World} {B : Nat} {u : Option Nat} {v : Value} {ds : List DealingD} {d : DealingD}
theorem ForDs.mix (h : ForDs W w B v ds) (u : Option Nat) : MixDs W w B u v ds := by
  obtain ⟨css, a, b, c⟩ := h.row
  refine ⟨h.bel, h.le, css, a, b, fun i h1 h2 => ?_⟩
  obtain ⟨x, y, e, p, q⟩ := c i h1 h2
  exact ⟨x, y, e, .inr p, .inr q⟩
theorem ForDs.nil (hb : Below W.heap.size W w) (hle : W.heap.size ≤ B) : ForDs W w B (.slice none 0 0) [] :=
  ⟨hb, hle, [], rfl, by simpa using World.ownsRow_nil w B 61 2, fun i h1 _ => by simp at h1⟩
theorem ForDs.rd (h : ForDs W w B v ds) : RdR rDealing w v ds := (h.mix none).rd
theorem ForDs.shape (h : ForDs W w B v ds) : ∃ a c, v = .slice a ds.length c := (h.mix none).shape
theorem ForDs.shapeN (h : ForDs W w B v ds) {n : Nat} (hn : ds.length = n) : ∃ a c, v = .slice a n c := hn ▸ h.shape
theorem ForDs.below (h : ForDs W w B v ds) (hb : Below w.heap.size w w') : ForDs W w' B v ds := by
  obtain ⟨hb0, hle, css, hl, hO, hel⟩ := h
  exact ⟨Below.next hb0 hb, hle, css, hl, ownsRow_frame hO fun g hg => hb.block g (hO.lt g hg).2, hel⟩
theorem ForDs.grow {q : Value} {l : List Int} (h : ForDs W w B v ds) (ho : OwnI w B q l) (hg : w.grownBy w' q.ownBlock) (hB : B ≤ w.heap.size) : ForDs W w' B v ds := by
  obtain ⟨hb0, hle, css, hl, hO, hel⟩ := h
  have hbb : Below B w w' := ho.grown hg hB
  have hne : v.ownBlock = none ∨ v.ownBlock ≠ q.ownBlock := by
    cases e : v.ownBlock with
    | none => exact .inl rfl
    | some k =>
      refine .inr fun e2 => ?_
      rcases ho.apartDs hO with h1 | h1
      · rw [h1] at e2; cases e2
      · exact h1 (by rw [e, ← e2])
  exact ⟨hb0.trans (hbb.mono hle), hle, css, hl, hO.kept hg hne, hel⟩
theorem run_append_For {b : Nat} {x y : Value} (h : ForDs W w B v ds) (hx : Ints W x d.c) (hy : Ints W y d.s)
    (hc0 : w.cell? ⟨b, 0, none⟩ = some x) (hc1 : w.cell? ⟨b, 1, none⟩ = some y) (hB : B ≤ w.heap.size) (hlen : ds.length ≤ 100000) (ty : TypeId) :
    ∃ v' w', (Builtin.append_ #[28, 28] ty #[v, .slice (some ⟨b, 0, none⟩) 1 1]).run Tryz.prog w = .ok v' w' ∧ ForDs W w' B v' (ds ++ [d]) ∧ Below B w w' ∧ (∀ q l, OwnI w B q l → OwnI w' B q l) := by
  have hM := h.mix none
  obtain ⟨hb0, hle, css, hl, hO, hel⟩ := h
  obtain ⟨i, hi, hzr, hsz, hby⟩ := infoDl
  obtain ⟨a1, n1, c1, e1⟩ := hx.shape
  obtain ⟨a2, n2, c2, e2⟩ := hy.shape
  obtain ⟨v', w', hr, h1, h2, _⟩ := run_append_own (P := Tryz.prog) w B 28 ty 61 i _ 2 i.bytes Tryz.underlying28 hi hzr hsz rfl rfl (by decide) v ds.length css.flatten hO ⟨b, 0, none⟩ 1 1 [x, y] (by rfl) (by
    intro j t ht
    rw [Addr.add_lit, Nat.zero_add]
    rcases j with _ | _ | j
    · simp at ht; subst ht; exact hc0
    · simp at ht; subst ht; exact hc1
    · simp at ht) (by
    intro t ht
    simp only [List.mem_cons, List.not_mem_nil, or_false] at ht
    rcases ht with rfl | rfl
    · rw [e1]; rfl
    · rw [e2]; rfl) (by unfold maxLen; omega) (by
    have : (ds.length + 1) * i.bytes ≤ 1000000000 * 1000 := Nat.mul_le_mul (by omega) hby
    omega) hB
  have hbb : Below B w w' := (Below.refl B w).grown h2 hB (fun k hk => (hO.lt k hk).1)
  refine ⟨v', w', hr, ⟨hb0.trans (hbb.mono hle), hle, css ++ [[x, y]], by simp [hl], by simpa [List.flatten_append] using h1, fun k k1 k2 => ?_⟩, hbb, fun q l hq => hq.kept h2 (hq.apartDs hO)⟩
  by_cases hk : k < ds.length
  · rw [List.getElem_append_left (by omega), List.getElem_append_left hk]
    exact hel k (by omega) hk
  · rw [List.getElem_append_right (by omega), List.getElem_append_right (by omega)]
    simp only [List.length_append, List.length_singleton] at k2
    have e3 : k - css.length = 0 := by omega
    have e4 : k - ds.length = 0 := by omega
    refine ⟨x, y, by simp [e3], ?_, ?_⟩
    · simp only [e4, List.getElem_cons_zero]; exact hx
    · simp only [e4, List.getElem_cons_zero]; exact hy
theorem wpList_append_For {ops : Array Oper} {rest : List Oper} {o : Oper} {a : Act} {Q : Exit → Act → World → Prop} (hg : o.guard = none) (s y0 : Operand)
    (ho : o.op = .call { callee := .builtin .append, args := #[s, y0], argTypes := #[28, 28] })
    {b : Nat} {x y : Value} (v : Value) (ds : List DealingD) (d : DealingD) (hs : a.eval s = v) (he : a.eval y0 = .slice (some ⟨b, 0, none⟩) 1 1) (h : ForDs W w B v ds) (hx : Ints W x d.c) (hy : Ints W y d.s)
    (hc0 : w.cell? ⟨b, 0, none⟩ = some x) (hc1 : w.cell? ⟨b, 1, none⟩ = some y) (hB : B ≤ w.heap.size) (hlen : ds.length ≤ 100000) (N : Nat) (hN : ds.length + 1 = N)
    (hK : ∀ a' c' w', ForDs W w' B (.slice a' N c') (ds ++ [d]) → Below B w w' → (∀ q l, OwnI w B q l → OwnI w' B q l) → wpList Tryz.prog ops Q rest (a.put o.dst (.slice a' N c')) w') : wpList Tryz.prog ops Q (o :: rest) a w := by
  obtain ⟨v', w', hr, h1, h3, h4⟩ := run_append_For h hx hy hc0 hc1 hB hlen o.type
  obtain ⟨a', c', e⟩ := h1.shape
  rw [List.length_append, List.length_singleton, hN] at e
  subst e
  refine wpList_plain hg fun K hK' => ?_
  unfold Oper.wp execOp
  simp only [ho, resolve, invoke, builtin, Sem.run_bind, Sem.run_pure, Result.andThen_ok, List.map_toArray, List.map_cons, List.map_nil, hs, he, hr]
  exact hK' _ _ (hK a' c' w' h1 h3 h4)
/-- a row of ints grows beside a row of dealings -/
theorem RowsI.list_appF {ops : Array Oper} {rest : List Oper} {o : Oper} {a : Act} {Q : Exit → Act → World → Prop} (hgd : o.guard = none) (s x : Operand)
    (ho : o.op = .call { callee := .builtin .append, args := #[s, x], argTypes := #[25, 25] })
    {rs : List (Value × List Int)} (h : RowsI w B rs) (hF : ForDs W w B v ds) (hB : B ≤ w.heap.size)
    (i : Nat) (q : Value) {y : Value} {l m : List Int} (hi : rs[i]? = some (q, l)) (hy : Ints w y m) (hm : m ≠ []) (N : Nat) (hN : l.length + m.length = N) (hlen : N ≤ 1000000000000) (hs : a.eval s = q) (hxx : a.eval x = y)
    (hK : ∀ a' c' w', RowsI w' B (rs.set i (.slice a' N c', l ++ m)) → ForDs W w' B v ds → Below B w w' → wpList Tryz.prog ops Q rest (a.put o.dst (.slice a' N c')) w') : wpList Tryz.prog ops Q (o :: rest) a w := by
  obtain ⟨v', w', hr, h1, h2, h3⟩ := run_append_intsB (h.own i q l hi) hy hm (by omega) hB o.type
  obtain ⟨a', c', e⟩ := h1.shape
  rw [List.length_append, hN] at e
  subst e
  refine wpList_plain hgd fun K hK' => ?_
  unfold Oper.wp execOp
  simp only [ho, resolve, invoke, builtin, Sem.run_bind, Sem.run_pure, Result.andThen_ok, List.map_toArray, List.map_cons, List.map_nil, hs, hxx, hr]
  exact hK' _ _ (hK a' c' w' (h.put hi h2 h1 h3) (hF.grow (h.own i q l hi) h2 hB) ((h.own i q l hi).grown h2 hB))
end
/-- the usable dealings and their points -/
def usD (l : List DealingD) (us : List Int) : List DealingD := us.map fun i => atD l i.toNat
def usX (ix us : List Int) : List Int := us.map fun i => nth ix i.toNat
theorem usD_len (l : List DealingD) (us : List Int) : (usD l us).length = us.length := List.length_map ..
theorem usX_len (ix us : List Int) : (usX ix us).length = us.length := List.length_map ..
theorem usD_app (l : List DealingD) (us : List Int) (k : Nat) : usD l (us ++ [(k : Int)]) = usD l us ++ [atD l k] := by unfold usD; rw [List.map_append]; simp
theorem usX_app (ix us : List Int) (k : Nat) : usX ix (us ++ [(k : Int)]) = usX ix us ++ [nth ix k] := by unfold usX; rw [List.map_append]; simp
theorem usD_at (l : List DealingD) (us : List Int) {k : Nat} (h : k < us.length) : atD (usD l us) k = atD l (nth us k).toNat := by
  unfold usD atD nth; simp [List.getD, h]
theorem usX_take (ix us : List Int) {t : Nat} (h : t ≤ us.length) : (usX ix us).take t = rsX ix us t := by
  induction t with
  | zero => rfl
  | succ t ih =>
    rw [show (usX ix us).take (t + 1) = (usX ix us).take t ++ [nth ix (nth us t).toNat] by
      rw [List.take_succ_eq_append_getElem (by rw [usX_len]; omega)]; simp [usX, nth, show t < us.length by omega], ih (by omega)]
    rfl
/-- column by column -/
def colC (gr : GroupD) (l : List DealingD) (us lam : List Int) (t : Nat) : Nat → List Int
  | 0 => []
  | j + 1 => colC gr l us lam t j ++ [rsC gr l us lam j t]
def colV (gr : GroupD) (l : List DealingD) (us lam : List Int) (t : Nat) : Nat → List Int
  | 0 => []
  | j + 1 => colV gr l us lam t j ++ [rsV gr l us lam j t]
theorem colC_len (gr : GroupD) (l : List DealingD) (us lam : List Int) (t j : Nat) : (colC gr l us lam t j).length = j := by
  induction j with
  | zero => rfl
  | succ j ih => unfold colC; rw [List.length_append, ih]; rfl
theorem colV_len (gr : GroupD) (l : List DealingD) (us lam : List Int) (t j : Nat) : (colV gr l us lam t j).length = j := by
  induction j with
  | zero => rfl
  | succ j ih => unfold colV; rw [List.length_append, ih]; rfl
theorem colC_nth (gr : GroupD) (l : List DealingD) (us lam : List Int) (t : Nat) {i : Nat} : ∀ j, i < j → nth (colC gr l us lam t j) i = rsC gr l us lam i t := by
  intro j
  induction j with
  | zero => intro h; omega
  | succ j ih =>
    intro h
    unfold colC
    rcases Nat.lt_or_ge i j with h1 | h1
    · rw [nth_app (by rw [colC_len]; exact h1)]; exact ih h1
    · obtain rfl : i = j := by omega
      have := nth_app' (a := colC gr l us lam t i) (x := rsC gr l us lam i t)
      rwa [colC_len] at this
theorem colV_nth (gr : GroupD) (l : List DealingD) (us lam : List Int) (t : Nat) {i : Nat} : ∀ j, i < j → nth (colV gr l us lam t j) i = rsV gr l us lam i t := by
  intro j
  induction j with
  | zero => intro h; omega
  | succ j ih =>
    intro h
    unfold colV
    rcases Nat.lt_or_ge i j with h1 | h1
    · rw [nth_app (by rw [colV_len]; exact h1)]; exact ih h1
    · obtain rfl : i = j := by omega
      have := nth_app' (a := colV gr l us lam t i) (x := rsV gr l us lam i t)
      rwa [colV_len] at this
/-- the sum of the scaled dealings is the columns -/
theorem cols_sum {gr : GroupD} {cm ix : List Int} {l : List DealingD} (h : rsQ gr cm ix l = true) (lam : List Int) {t : Nat} (h1 : 1 ≤ t) (ht : t ≤ (rsU gr cm ix l l.length).length) {f : DealingD} (hf : atD (usD l (rsU gr cm ix l l.length)) 0 = f) :
    smD gr (rsS gr l (rsU gr cm ix l l.length) lam t) = ⟨colC gr l (rsU gr cm ix l l.length) lam t f.c.length, colV gr l (rsU gr cm ix l l.length) lam t f.s.length⟩ ∧ (∀ k, k < t → (atD l (nth (rsU gr cm ix l l.length) k).toNat).c.length = f.c.length ∧ (atD l (nth (rsU gr cm ix l l.length) k).toNat).s.length = f.s.length) ∧ deB gr f = true := by
  obtain ⟨hG, hc, htr, hl, hl7, hd⟩ := rsQ_parts h
  have hg := shG_ok hG
  have U := us_s gr cm ix l l.length
  rw [usD_at l _ (by omega)] at hf
  have hs : ∀ k, k < t → SameD gr f (atD l (nth (rsU gr cm ix l l.length) k).toNat) := fun k hk => by
    obtain ⟨m, m1, m2, m3, m4⟩ := U.at_ k (by omega)
    rw [hf] at m4
    rw [m2, Int.toNat_natCast]
    exact de_same (hd _ (by rw [atD_eq m1]; exact List.getElem_mem _)) m4
  obtain ⟨k0, k1, k2, _⟩ := U.at_ 0 (by omega)
  obtain ⟨c1, c2, c3, c4⟩ := sum_cols hg (lam := lam) hs (t - 1) (by omega)
  have e : smD gr (rsS gr l (rsU gr cm ix l l.length) lam t) = smF gr (rsS gr l (rsU gr cm ix l l.length) lam t) (t - 1) := by unfold smD; rw [rsS_len]
  have et : t - 1 + 1 = t := by omega
  rw [et] at c1 c2
  refine ⟨?_, fun k hk => ⟨(hs k hk).lc, (hs k hk).ls⟩, ?_⟩
  · rw [e]
    generalize smF gr (rsS gr l (rsU gr cm ix l l.length) lam t) (t - 1) = z at *
    obtain ⟨zc, zs⟩ := z
    dsimp only at c1 c2 c3 c4
    congr 1
    · refine List.ext_getElem (by rw [c3, colC_len]) fun i i1 i2 => ?_
      rw [← nthE, ← nthE, c1 i (by omega), colC_nth _ _ _ _ _ _ (by omega)]
    · refine List.ext_getElem (by rw [c4, colV_len]) fun i i1 i2 => ?_
      rw [← nthE, ← nthE, c2 i (by omega), colV_nth _ _ _ _ _ _ (by omega)]
  · rw [← hf, k2, Int.toNat_natCast]; exact hd _ (atD_eq (l := l) k1 ▸ List.getElem_mem _)
end Go.Proofs.YtacpnphfopmofaaGreat
