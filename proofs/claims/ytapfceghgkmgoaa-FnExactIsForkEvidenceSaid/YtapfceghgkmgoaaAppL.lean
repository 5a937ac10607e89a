/- append to a row of the call's own: in which block the new row lies; a slice of slices that grows by one. -/
import Derived.Test.YtapfceghgkmgoaaKinds
namespace Go.Proofs.Ytapfceghgkmgoaa
open Go.RowKit
set_option linter.unusedSimpArgs false
set_option linter.unusedVariables false

/-- the row stays in its block, or lies in a new one -/
theorem append_block {P : Program} {w : World} (base : Nat) (t ty e : TypeId) (i : TypeInfo) (z : Value) (ht : P.underlying t = some (.slice e)) (hi : P.info? e = some i) (hz : i.zero = some z) (hzs : z.cells.size = i.size) (hsz : 0 < i.size)
    (v : Value) (n : Nat) (xs : List Value) (hown : w.ownsRow base e i.size v n xs)
    (a : Addr) (m c : Nat) (news : List Value) (hl : news.length = m * i.size) (hnews : ∀ j u, news[j]? = some u → w.cell? (a.add j) = some u) (h1 : ∀ u ∈ news, u.oneCell' = true)
    (h63 : n + m ≤ maxLen) (hbytes : (n + m) * i.bytes ≤ 140737488355328) {v' : Value} {w' : World}
    (hr : (Builtin.append_ #[t, t] ty #[v, .slice (some a) m c]).run P w = .ok v' w') : v'.ownBlock = v.ownBlock ∨ ∃ g, w.heap.size ≤ g ∧ v'.ownBlock = some g := by
  rcases hown.2 with ⟨rfl, rfl⟩ | ⟨g, cap, cur, rfl, hbg, hg, hnc, hcm, hcs, htake⟩
  · obtain ⟨v2, w2, hr2, h2, _⟩ := run_append_own (P := P) w w.heap.size t ty e i z i.size i.bytes ht hi hz rfl rfl hzs hsz (.slice none 0 0) 0 xs (by
      have := hown.1; exact ⟨this, .inl ⟨rfl, rfl⟩⟩) a m c news hl hnews h1 h63 hbytes (Nat.le_refl _)
    rw [hr] at hr2; cases hr2
    cases hb : v'.ownBlock with
    | none => exact .inl rfl
    | some g => exact .inr ⟨g, (h2.lt g hb).1, rfl⟩
  · by_cases hroom : n + m ≤ cap
    · have := run_append_room (P := P) w t ty e i ht hi g n cap cur hg a m c news hl hnews h1 hroom (by rw [hl, hcs, ← Nat.add_mul]; exact Nat.mul_le_mul_right _ hroom)
      rw [hr] at this; cases this
      exact .inl rfl
    · have hsmall : n + m ≤ 9223372036854775807 := by simp only [maxLen] at h63; omega
      have := run_append_grow (P := P) w t ty e i z ht hi hz ⟨g, 0, none⟩ n cap xs hown.1 (hown.cells (g := g) rfl) a m c news hl hnews (by omega) (by omega) (growslice_fits (by omega) hbytes)
      rw [hr] at this; cases this
      exact .inr ⟨w.heap.size, Nat.le_refl _, rfl⟩
theorem OwnL.nil {δ : Type} (e : TypeId) (K : Kind δ) (w : World) (lo hi : Nat) : OwnL e K w lo hi (.slice none 0 0) [] :=
  ⟨[], fun _ => 0, fun _ => 0, rfl, World.ownsRow_nil w lo e 1, (fun g h => by cases h), (fun i h1 _ => by simp at h1), (fun i j h _ _ => by simp at h)⟩
theorem info_intsA : (Try.prog.info? 37).map (fun i => (i.zero, i.size, i.bytes)) = some (some (.slice none 0 0), 1, 24) := by kernel_rfl
theorem OwnL.lit0 (w : World) (B : Nat) (hB : B ≤ w.heap.size) : OwnL 37 kInts (w.alloc (.cells #[] 37)) B (w.alloc (.cells #[] 37)).heap.size (.slice (some ⟨w.heap.size, 0, none⟩) 0 0) [] := by
  have := World.ownsRow_lit (e := 37) (size := 1) w #[] 0 hB (Nat.zero_le _) rfl
  exact ⟨[], fun _ => 0, fun _ => 0, rfl, this, fun g h => by cases h; exact ⟨by simp, fun i hi => by simp at hi⟩, fun i h1 _ => by simp at h1, fun i j h _ _ => by simp at h⟩
/-- one slice more -/
theorem run_append_rows {w : World} {lo hi a b : Nat} {v x : Value} {ds : List (List Int)} {d : List Int} (hown : OwnL 37 kInts w lo hi v ds) (hx : kInts.own w a b x d) (hab : hi ≤ a) (hbw : b ≤ w.heap.size) (hhi : hi ≤ w.heap.size) (hlo : lo ≤ hi)
    (g c : Nat) (hc : w.cell? ⟨g, 0, none⟩ = some x) (hlen : ds.length ≤ 1000000000) (ty : TypeId) :
    ∃ v' w', (Builtin.append_ #[23, 23] ty #[v, .slice (some ⟨g, 0, none⟩) 1 c]).run Try.prog w = .ok v' w' ∧ OwnL 37 kInts w' lo w'.heap.size v' (ds ++ [d]) ∧ Below lo w w' := by
  obtain ⟨i, hi', hz, hsz, hby⟩ := info_parts info_intsA
  obtain ⟨vs, los, his, hvl, hO, hgl, hel, hd⟩ := hown
  obtain ⟨xa, xn, xc, rfl⟩ := Ints.shape (kInts.own_rd hx)
  have hnews : ∀ j u, [Value.slice xa xn xc][j]? = some u → w.cell? ((⟨g, 0, none⟩ : Addr).add j) = some u := fun j u hu => by
    cases j with
    | zero => simp at hu; subst hu; simpa [Addr.add] using hc
    | succ j => simp at hu
  obtain ⟨v', w', hr, h1, h2, _⟩ := run_append_own (P := Try.prog) w lo 23 ty 37 i (.slice none 0 0) 1 24 Try.underlying23 hi' hz hsz hby rfl (by decide) v ds.length vs hO ⟨g, 0, none⟩ 1 c [.slice xa xn xc] rfl hnews (fun u hu => by simp at hu; subst hu; rfl) (by unfold maxLen; omega) (by omega) (by omega)
  have hbl := append_block (P := Try.prog) lo 23 ty 37 i (.slice none 0 0) Try.underlying23 hi' hz (by rw [hsz]; rfl) (by omega) v ds.length vs (by rw [hsz]; exact hO) ⟨g, 0, none⟩ 1 c [.slice xa xn xc] (by rw [hsz]; rfl) hnews (fun u hu => by simp at hu; subst hu; rfl) (by unfold maxLen; omega) (by rw [hby]; omega) hr
  have hsz2 := h2.size
  have hfr : ∀ k, k < w.heap.size → (∀ q, v.ownBlock = some q → k ≠ q) → w'.heap[k]? = w.heap[k]? := fun k hk hq => h2.block k hk (fun e => hq k e.symm rfl)
  refine ⟨v', w', hr, ⟨vs ++ [.slice xa xn xc], fun i => if i = ds.length then a else los i, fun i => if i = ds.length then b else his i, by simp [hvl], by simpa using h1, fun q hq => ⟨(h1.lt q hq).2, fun j hj => ?_⟩, fun j k1 k2 => ?_, fun j k hj hk hjk => ?_⟩, ?_⟩
  · simp only [List.length_append, List.length_cons, List.length_nil] at hj
    dsimp only
    by_cases hjn : j = ds.length
    · rw [if_pos hjn, if_pos hjn]
      rcases hbl with hbl | ⟨q', hq1, hq2⟩
      · rw [hbl] at hq
        left; have := (hgl q hq).1; omega
      · rw [hq2] at hq; cases hq
        right; omega
    · rw [if_neg hjn, if_neg hjn]
      rcases hbl with hbl | ⟨q', hq1, hq2⟩
      · rw [hbl] at hq
        exact (hgl q hq).2 j (by omega)
      · rw [hq2] at hq; cases hq
        right
        have := (hel j (by omega) (by omega)).2; omega
  · simp only [List.length_append, List.length_cons, List.length_nil] at k1 k2
    dsimp only
    by_cases hjn : j = ds.length
    · rw [if_pos hjn, if_pos hjn]
      have e1 : (vs ++ [Value.slice xa xn xc])[j] = .slice xa xn xc := by simp [hjn, ← hvl]
      have e2 : (ds ++ [d])[j] = d := by simp [hjn]
      rw [e1, e2]
      refine ⟨kInts.own_frame hx fun k q1 q2 q3 => hfr k q3 fun q hq => ?_, by omega, by omega⟩
      have := (hgl q hq).1; omega
    · rw [if_neg hjn, if_neg hjn]
      have hj : j < ds.length := by omega
      obtain ⟨p1, p2, p3⟩ := hel j (by omega) hj
      rw [List.getElem_append_left (by omega), List.getElem_append_left hj]
      refine ⟨kInts.own_frame p1 fun k q1 q2 q3 => hfr k q3 fun q hq => ?_, p2, by omega⟩
      have := (hgl q hq).2 j hj; omega
  · simp only [List.length_append, List.length_cons, List.length_nil] at hj hk
    dsimp only
    by_cases hjn : j = ds.length
    · rw [if_pos hjn, if_pos hjn, if_neg (by omega), if_neg (by omega)]
      have := (hel k (by omega) (by omega)).2; omega
    · rw [if_neg hjn, if_neg hjn]
      by_cases hkn : k = ds.length
      · rw [if_pos hkn, if_pos hkn]
        have := (hel j (by omega) (by omega)).2; omega
      · rw [if_neg hkn, if_neg hkn]; exact hd j k (by omega) (by omega) hjk
  · exact (Below.refl lo w).grown h2 (by omega) (fun k hk => (hO.lt k hk).1)
theorem wpList_append_rows {ops : Array Oper} {rest : List Oper} {o : Oper} {ac : Act} {w : World} {Q : Exit → Act → World → Prop} (hgd : o.guard = none) (s y : Operand)
    (ho : o.op = .call { callee := .builtin .append, args := #[s, y], argTypes := #[23, 23] })
    (lo hi a b : Nat) (v x : Value) (ds : List (List Int)) (d : List Int) (g c : Nat) (hs : ac.eval s = v) (hy : ac.eval y = .slice (some ⟨g, 0, none⟩) 1 c) (hown : OwnL 37 kInts w lo hi v ds) (hx : kInts.own w a b x d) (hab : hi ≤ a) (hbw : b ≤ w.heap.size) (hhi : hi ≤ w.heap.size) (hlo : lo ≤ hi)
    (hc : w.cell? ⟨g, 0, none⟩ = some x) (hlen : ds.length ≤ 1000000000)
    (hK : ∀ v' w', OwnL 37 kInts w' lo w'.heap.size v' (ds ++ [d]) → Below lo w w' → wpList Try.prog ops Q rest (ac.put o.dst v') w') : wpList Try.prog ops Q (o :: rest) ac w := by
  obtain ⟨v', w', hr, h1, h2⟩ := run_append_rows hown hx hab hbw hhi hlo g c hc hlen o.type
  refine wpList_plain hgd fun K hK' => ?_
  unfold Oper.wp execOp
  simp only [ho, resolve, invoke, builtin, Sem.run_bind, Sem.run_pure, Result.andThen_ok, List.map_toArray, List.map_cons, List.map_nil, hs, hy, hr]
  exact hK' _ _ (hK v' w' h1 h2)
end Go.Proofs.Ytapfceghgkmgoaa
