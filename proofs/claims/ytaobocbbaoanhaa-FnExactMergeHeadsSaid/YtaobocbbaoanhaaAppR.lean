/- append of one struct to a row of the call's own. -/
import Derived.Test.YtaobocbbaoanhaaRows2
namespace Go.Proofs.Ytaobocbbaoanhaa
open Go.RowKit
set_option linter.unusedSimpArgs false
set_option linter.unusedVariables false

theorem run_append_R {P : Program} {δ : Type} (R : RowK δ) (ts te : TypeId) (i : TypeInfo) (z : Value) (ht : P.underlying ts = some (.slice te)) (hi' : P.info? te = some i) (hz : i.zero = some z) (hsz : i.size = R.width) (hby : i.bytes ≤ 1000) (hzs : z.cells.size = R.width) (hpos : 0 < R.width)
    {w : World} {lo hi a b : Nat} {v : Value} {ds : List δ} {row : List Value} {d : δ} (hown : OwnR te R w lo hi v ds) (hx : R.own w a b row d) (hab : hi ≤ a) (hbw : b ≤ w.heap.size) (hhi : hi ≤ w.heap.size) (hlo : lo ≤ hi)
    (g c : Nat) (hc : ∀ k, k < R.width → w.cell? ⟨g, k, none⟩ = row[k]?) (hlen : ds.length ≤ 1000000000) (ty : TypeId) :
    ∃ v' w', (Builtin.append_ #[ts, ts] ty #[v, .slice (some ⟨g, 0, none⟩) 1 c]).run P w = .ok v' w' ∧ OwnR te R w' lo w'.heap.size v' (ds ++ [d]) ∧ Below lo w w' := by
  obtain ⟨css, los, his, hvl, hO, hgl, hel, hd⟩ := hown
  have hlens := OwnR.lens (e := te) hvl hel
  have hrl := R.rd_len (R.own_rd hx)
  have hone := R.rd_one (R.own_rd hx)
  have hnews : ∀ j u, row[j]? = some u → w.cell? ((⟨g, 0, none⟩ : Addr).add j) = some u := fun j u hu => by
    have hj : j < R.width := by rw [← hrl]; exact (List.getElem?_eq_some_iff.1 hu).1
    rw [Addr.add_lit, Nat.zero_add, hc j hj]; exact hu
  have hb1 : (ds.length + 1) * i.bytes ≤ 140737488355328 := by
    have : (ds.length + 1) * i.bytes ≤ 1000000001 * 1000 := Nat.mul_le_mul (by omega) hby
    omega
  obtain ⟨v', w', hr, h1, h2, _⟩ := run_append_own (P := P) w lo ts ty te i z R.width i.bytes ht hi' hz hsz rfl hzs hpos v ds.length css.flatten hO ⟨g, 0, none⟩ 1 c row (by rw [hrl, Nat.one_mul]) hnews hone (by unfold maxLen; omega) hb1 (by omega)
  have hbl := append_block (P := P) lo ts ty te i z ht hi' hz (by rw [hsz]; exact hzs) (by omega) v ds.length css.flatten (by rw [hsz]; exact hO) ⟨g, 0, none⟩ 1 c row (by rw [hsz, hrl, Nat.one_mul]) hnews hone (by unfold maxLen; omega) hb1 hr
  have hsz2 := h2.size
  have hfr : ∀ k, k < w.heap.size → (∀ q, v.ownBlock = some q → k ≠ q) → w'.heap[k]? = w.heap[k]? := fun k hk hq => h2.block k hk (fun e => hq k e.symm rfl)
  refine ⟨v', w', hr, ⟨css ++ [row], fun i => if i = ds.length then a else los i, fun i => if i = ds.length then b else his i, by simp [hvl], by simpa using h1, fun q hq => ⟨(h1.lt q hq).2, fun j hj => ?_⟩, fun j k1 k2 => ?_, fun j k hj hk hjk => ?_⟩, ?_⟩
  · simp only [List.length_append, List.length_cons, List.length_nil] at hj
    dsimp only
    by_cases hjn : j = ds.length
    · rw [if_pos hjn, if_pos hjn]
      rcases hbl with hbl | ⟨q', hq1, hq2⟩
      · rw [hbl] at hq
        left; have := (hgl q hq).1; omega
      · rw [hq2] at hq; cases hq
        right; omega
    · rw [if_neg hjn, if_neg hjn]
      rcases hbl with hbl | ⟨q', hq1, hq2⟩
      · rw [hbl] at hq
        exact (hgl q hq).2 j (by omega)
      · rw [hq2] at hq; cases hq
        right
        have := (hel j (by omega) (by omega)).2; omega
  · simp only [List.length_append, List.length_cons, List.length_nil] at k1 k2
    dsimp only
    by_cases hjn : j = ds.length
    · rw [if_pos hjn, if_pos hjn]
      have e1 : (css ++ [row])[j] = row := by simp [hjn, ← hvl]
      have e2 : (ds ++ [d])[j] = d := by simp [hjn]
      rw [e1, e2]
      refine ⟨R.own_frame hx fun k q1 q2 q3 => hfr k q3 fun q hq => ?_, by omega, by omega⟩
      have := (hgl q hq).1; omega
    · rw [if_neg hjn, if_neg hjn]
      have hj : j < ds.length := by omega
      obtain ⟨p1, p2, p3⟩ := hel j (by omega) hj
      rw [List.getElem_append_left (by omega), List.getElem_append_left hj]
      refine ⟨R.own_frame p1 fun k q1 q2 q3 => hfr k q3 fun q hq => ?_, p2, by omega⟩
      have := (hgl q hq).2 j hj; omega
  · simp only [List.length_append, List.length_cons, List.length_nil] at hj hk
    dsimp only
    by_cases hjn : j = ds.length
    · rw [if_pos hjn, if_pos hjn, if_neg (by omega), if_neg (by omega)]
      have := (hel k (by omega) (by omega)).2; omega
    · rw [if_neg hjn, if_neg hjn]
      by_cases hkn : k = ds.length
      · rw [if_pos hkn, if_pos hkn]
        have := (hel j (by omega) (by omega)).2; omega
      · rw [if_neg hkn, if_neg hkn]; exact hd j k (by omega) (by omega) hjk
  · exact (Below.refl lo w).grown h2 (by omega) (fun k hk => (hO.lt k hk).1)
theorem wpList_append_R {P : Program} {δ : Type} (R : RowK δ) (ts te : TypeId) (i : TypeInfo) (z : Value) (ht : P.underlying ts = some (.slice te)) (hi' : P.info? te = some i) (hz : i.zero = some z) (hsz : i.size = R.width) (hby : i.bytes ≤ 1000) (hzs : z.cells.size = R.width) (hpos : 0 < R.width)
    {ops : Array Oper} {rest : List Oper} {o : Oper} {ac : Act} {w : World} {Q : Exit → Act → World → Prop} (hgd : o.guard = none) (s y : Operand)
    (ho : o.op = .call { callee := .builtin .append, args := #[s, y], argTypes := #[ts, ts] })
    (lo hi a b : Nat) (v : Value) (ds : List δ) (row : List Value) (d : δ) (g c : Nat) (hs : ac.eval s = v) (hy : ac.eval y = .slice (some ⟨g, 0, none⟩) 1 c) (hown : OwnR te R w lo hi v ds) (hx : R.own w a b row d) (hab : hi ≤ a) (hbw : b ≤ w.heap.size) (hhi : hi ≤ w.heap.size) (hlo : lo ≤ hi)
    (hc : ∀ k, k < R.width → w.cell? ⟨g, k, none⟩ = row[k]?) (hlen : ds.length ≤ 1000000000)
    (hK : ∀ v' w', OwnR te R w' lo w'.heap.size v' (ds ++ [d]) → Below lo w w' → wpList P ops Q rest (ac.put o.dst v') w') : wpList P ops Q (o :: rest) ac w := by
  obtain ⟨v', w', hr, h1, h2⟩ := run_append_R R ts te i z ht hi' hz hsz hby hzs hpos hown hx hab hbw hhi hlo g c hc hlen o.type
  refine wpList_plain hgd fun K hK' => ?_
  unfold Oper.wp execOp
  simp only [ho, resolve, invoke, builtin, Sem.run_bind, Sem.run_pure, Result.andThen_ok, List.map_toArray, List.map_cons, List.map_nil, hs, hy, hr]
  exact hK' _ _ (hK v' w' h1 h2)
theorem new_cells (w : World) (cs : List Value) (t : TypeId) (k : Nat) : (w.alloc (.cells cs.toArray t)).cell? ⟨w.heap.size, k, none⟩ = cs[k]? := by
  rw [cell_of_row _ _ k _ t (0, 0) (BoxN.new w cs t)]; simp
end Go.Proofs.Ytaobocbbaoanhaa
