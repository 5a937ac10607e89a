/- Walks: spec.AppendEntry (printed by gen_apd6.py). -/
import Derived.Test.YtboahnklilmdpaaApd5U
import Derived.Deep.CutRange
namespace Go.Proofs.Ytboahnklilmdpaa
open Go.RowKit
set_option linter.unusedSimpArgs false
set_option linter.unusedVariables false

/-- a row of entries of the call's own, apart from the blocks gs -/
def ApF (w0 c : World) (v : Value) (ds : List EntryD) (gs : List Nat) : Prop := FrR 44 rEntry w0 c w0.heap.size v ds ∧ ∀ g ∈ gs, v.ownBlock ≠ some g
theorem all0 {p : Nat → Prop} : ∀ g ∈ ([] : List Nat), p g := fun g h => by cases h
theorem all1 {p : Nat → Prop} {a : Nat} (h : p a) : ∀ g ∈ [a], p g := fun g hg => by rw [List.mem_singleton.1 hg]; exact h
theorem all2 {p : Nat → Prop} {a b : Nat} (h : p a) (h2 : p b) : ∀ g ∈ [a, b], p g := fun g hg => by
  rcases List.mem_cons.1 hg with rfl | hg
  · exact h
  · rw [List.mem_singleton.1 hg]; exact h2
section
variable {w0 c c' : World} {v : Value} {ds es : List EntryD} {gs : List Nat}
theorem ApF.next (h : ApF w0 c v ds gs) (hb : Below c.heap.size c c') : ApF w0 c' v ds gs := ⟨h.1.below hb, h.2⟩
theorem ApF.moreL (h : ApF w0 c v ds []) : ApF w0 c v ds [c.heap.size] := ⟨h.1, fun g hg hq => by
  rw [List.mem_singleton.1 hg] at hq
  exact Nat.lt_irrefl _ (h.1.lt _ hq).2⟩
theorem ApF.more1 {a : Nat} (h : ApF w0 c v ds [a]) : ApF w0 c v ds [a, c.heap.size] := ⟨h.1, all2 (h.2 a (by simp)) (fun hq => Nat.lt_irrefl _ (h.1.lt _ hq).2)⟩
theorem ApF.more2 {a : Nat} (h : ApF w0 c v ds [a]) : ApF w0 c v ds [c.heap.size, a] := ⟨h.1, all2 (fun hq => Nat.lt_irrefl _ (h.1.lt _ hq).2) (h.2 a (by simp))⟩
theorem ApF.new (hB : w0.heap.size ≤ c.heap.size) (hg : ∀ g ∈ gs, g < c.heap.size) : ApF w0 (c.alloc (.cells #[] 44)) (.slice (some ⟨c.heap.size, 0, none⟩) 0 0) [] gs :=
  ⟨FrR.lit0 _ _ _ _ _ hB, fun g h hq => by
    have := hg g h
    cases hq
    exact Nat.lt_irrefl _ this⟩
theorem oper_append_Ap {P : Program} (ts : TypeId) (i : TypeInfo) (z : Value) (ht : P.underlying ts = some (.slice 44)) (hi' : P.info? 44 = some i) (hz : i.zero = some z) (hsz : i.size = rEntry.width) (hby : i.bytes ≤ 1000) (hzs : z.cells.size = rEntry.width) (hpos : 0 < rEntry.width)
    {o : Oper} {ac : Act} {K : Act → World → Prop} {Q : Exit → Act → World → Prop} (hgd : o.guard = none) (s y : Operand)
    (ho : o.op = .call { callee := .builtin .append, args := #[s, y], argTypes := #[ts, ts] })
    (hown : ApF w0 c v ds gs) (ad : Addr) (m cp : Nat) (css' : List (List Value)) (hs : ac.eval s = v) (hy : ac.eval y = .slice (some ad) m cp) (hl' : css'.length = es.length) (hm : es.length = m) (hnews : ∀ j u, css'.flatten[j]? = some u → c.cell? (ad.add j) = some u)
    (hrd : ∀ i (h1 : i < css'.length) (h2 : i < es.length), rEntry.rd w0 css'[i] es[i]) (hbw : Below w0.heap.size w0 c) (hlen : ds.length + es.length ≤ 1000000000) (hgs : ∀ g ∈ gs, g < c.heap.size)
    (hK : ∀ v' c', ApF w0 c' v' (ds ++ es) gs → Below w0.heap.size c c' → (∀ g ∈ gs, ∀ t cs, BoxN c g t cs → BoxN c' g t cs) → K (ac.put o.dst v') c') : o.wp P ac c K Q := by
  obtain ⟨⟨css, hvl, hO, hel⟩, hne⟩ := hown
  have hB := hbw.size
  have hb1 : (ds.length + m) * i.bytes ≤ 140737488355328 := by
    have : (ds.length + m) * i.bytes ≤ 1000000000 * 1000 := Nat.mul_le_mul (by omega) hby
    omega
  have hfl := flat_len (FrR.lens hl' hrd)
  obtain ⟨v', w', hr, h1, h2, _⟩ := run_append_own (P := P) c w0.heap.size ts o.type 44 i z rEntry.width i.bytes ht hi' hz hsz rfl hzs hpos v ds.length css.flatten hO ad m cp css'.flatten (by rw [hfl, hl', hm]) hnews (FrR.ones hl' hrd) (by unfold maxLen; omega) hb1 hB
  have hbl := append_block (P := P) w0.heap.size ts o.type 44 i z ht hi' hz (by rw [hsz]; exact hzs) (by omega) v ds.length css.flatten (by rw [hsz]; exact hO) ad m cp css'.flatten (by rw [hsz, hfl, hl', hm]) hnews (FrR.ones hl' hrd) (by unfold maxLen; omega) hb1 hr
  unfold Oper.wp execOp
  simp only [ho, resolve, invoke, builtin, Sem.run_bind, Sem.run_pure, Result.andThen_ok, List.map_toArray, List.map_cons, List.map_nil, hs, hy, hr]
  refine hK v' w' ⟨⟨css ++ css', by simp [hvl, hl'], by simpa [List.flatten_append, hm] using h1, fun k k1 k2 => ?_⟩, fun g hg hq => ?_⟩ ((Below.refl _ c).grown h2 hB (fun k hk => (hO.lt k hk).1)) (fun g hg t cs hx => (h2.block g (hgs g hg) (fun e => hne g hg e.symm)).trans hx)
  · by_cases hk : k < ds.length
    · rw [List.getElem_append_left (by omega), List.getElem_append_left hk]
      exact hel k (by omega) hk
    · rw [List.getElem_append_right (by omega), List.getElem_append_right (by omega)]
      have e1 : k - css.length = k - ds.length := by omega
      simp only [List.length_append] at k2
      have := hrd (k - ds.length) (by omega) (by omega)
      simpa only [e1] using this
  · rcases hbl with hbl | ⟨q', q1, q2⟩
    · rw [hbl] at hq; exact hne g hg hq
    · rw [q2] at hq; cases hq
      have := hgs _ hg; omega
theorem oper_append_ApD {P : Program} (ts : TypeId) (i : TypeInfo) (z : Value) (ht : P.underlying ts = some (.slice 44)) (hi' : P.info? 44 = some i) (hz : i.zero = some z) (hsz : i.size = rEntry.width) (hby : i.bytes ≤ 1000) (hzs : z.cells.size = rEntry.width) (hpos : 0 < rEntry.width)
    {o : Oper} {ac : Act} {K : Act → World → Prop} {Q : Exit → Act → World → Prop} (hgd : o.guard = none) (s y : Operand)
    (ho : o.op = .call { callee := .builtin .append, args := #[s, y], argTypes := #[ts, ts] })
    (hown : ApF w0 c v ds gs) {u : Value} (hs : ac.eval s = v) (hy : ac.eval y = u) (hrd : RdR rEntry w0 u es) (hbw : Below w0.heap.size w0 c) (hlen : ds.length + es.length ≤ 1000000000) (hgs : ∀ g ∈ gs, g < c.heap.size)
    (hK : ∀ v' c', ApF w0 c' v' (ds ++ es) gs → Below w0.heap.size c c' → (∀ g ∈ gs, ∀ t cs, BoxN c g t cs → BoxN c' g t cs) → K (ac.put o.dst v') c') : o.wp P ac c K Q := by
  obtain ⟨a, n, cp, rfl⟩ := hrd.shape
  cases a with
  | none =>
    have hn := hrd.len
    have h0 : n = 0 := by
      rcases Nat.eq_zero_or_pos n with h | h
      · exact h
      · obtain ⟨b, o, hc, _⟩ := hrd.at_ h
        cases hc
    have hc : cp = 0 := by
      obtain ⟨a, n', c', e, _, _, _, h⟩ := hrd
      rcases h with ⟨_, _, h⟩ | ⟨ad, h, _⟩ | ⟨b, o, h, _⟩
      · cases e; exact h
      · cases e; cases h
      · cases e; cases h
    subst h0; subst hc
    have : es = [] := List.eq_nil_of_length_eq_zero hn
    subst this
    obtain ⟨⟨css, hl, hO, hel⟩, hne⟩ := hown
    have hr := run_append_owned_none (P := P) (w := c) w0.heap.size ts o.type 44 i rEntry.width ht hi' v ds.length css.flatten hO
    unfold Oper.wp execOp
    simp only [ho, resolve, invoke, builtin, Sem.run_bind, Sem.run_pure, Result.andThen_ok, List.map_toArray, List.map_cons, List.map_nil, hs, hy, hr]
    exact hK v c (by rw [List.append_nil]; exact ⟨⟨css, hl, hO, hel⟩, hne⟩) (Below.refl _ _) (fun _ _ _ _ h => h)
  | some ad =>
    obtain ⟨css, h1, h2, h3⟩ := rows_of_RdR hrd
    exact oper_append_Ap ts i z ht hi' hz hsz hby hzs hpos hgd s y ho hown ad n cp css hs hy h1 hrd.len (fun j u hu => (hbw.cell (p := ad.add j) (World.block_lt_of_cell? w0 _ (h2 j u hu))).trans (h2 j u hu)) h3 hbw hlen hgs hK
theorem oper_append_ApC {P : Program} {d : EntryD} (ts : TypeId) (i : TypeInfo) (z : Value) (ht : P.underlying ts = some (.slice 44)) (hi' : P.info? 44 = some i) (hz : i.zero = some z) (hsz : i.size = rEntry.width) (hby : i.bytes ≤ 1000) (hzs : z.cells.size = rEntry.width) (hpos : 0 < rEntry.width)
    {o : Oper} {ac : Act} {K : Act → World → Prop} {Q : Exit → Act → World → Prop} (hgd : o.guard = none) (s y : Operand)
    (ho : o.op = .call { callee := .builtin .append, args := #[s, y], argTypes := #[ts, ts] })
    (hown : ApF w0 c v ds gs) {g cp : Nat} {row : List Value} {t : TypeId} (hs : ac.eval s = v) (hy : ac.eval y = .slice (some ⟨g, 0, none⟩) 1 cp) (hx : BoxN c g t row) (hrd : rEntry.rd w0 row d) (hbw : Below w0.heap.size w0 c) (hlen : ds.length + 1 ≤ 1000000000) (hgs : ∀ g ∈ gs, g < c.heap.size)
    (hK : ∀ v' c', ApF w0 c' v' (ds ++ [d]) gs → Below w0.heap.size c c' → (∀ g ∈ gs, ∀ t cs, BoxN c g t cs → BoxN c' g t cs) → K (ac.put o.dst v') c') : o.wp P ac c K Q :=
  oper_append_Ap (es := [d]) ts i z ht hi' hz hsz hby hzs hpos hgd s y ho hown ⟨g, 0, none⟩ 1 cp [row] hs hy rfl rfl (fun j u hu => by
    rw [Addr.add_lit, Nat.zero_add]
    refine hx.cell ?_
    simpa using hu) (fun i h1 h2 => by
    obtain rfl : i = 0 := by simp at h1; omega
    exact hrd) hbw hlen hgs hK
end
set_option maxRecDepth 100000 in
set_option maxHeartbeats 4000000 in
theorem spec_AppendEntry (gr : GroupD) (v : Value) (d : BoardD) (ve : Value) (e : EntryD) (w : World) (hgr : I64 gr.g) (hz : (szBoard d : Int) ≤ 1048576) (h : (kS rBoard).rd w v d) (hze : (szEntry e : Int) ≤ 1048576) (he : (kS rEntry).rd w ve e) :
    Calls Try.prog 17 #[.agg #[.int .i64 gr.p, .int .i64 gr.q, .int .i64 gr.g], v, ve] w fun x w' => ∃ v', x = .returned (.tuple #[v', .bool (apB gr d e)]) ∧ (kS rBoard).own w' w.heap.size w'.heap.size v' (apD gr d e) ∧ Below w.heap.size w w' := by
  clear hgr
  obtain ⟨hz1, hz2, hz3⟩ := ap_sizes hz hze
  clear hz hze
  have HZ3 := Lib.hid hz3; clear hz3
  obtain ⟨a0, n0, c0, a1, n1, c1, rfl, _, _⟩ := rdBoard.1 h
  obtain ⟨a2, n2, c2, a3, n3, c3, a4, n4, c4, a5, n5, c5, rfl, _, _, _, _, _, _⟩ := rdEntry.1 he
  obtain ⟨W, hW⟩ : ∃ W, W = (((w.alloc (.cells #[.int .i64 gr.p, .int .i64 gr.q, .int .i64 gr.g] 39)).alloc (.cells #[.slice a0 n0 c0, .slice a1 n1 c1] 36)).alloc (.cells #[.int .i64 e.kind, .int .i64 e.author, .slice a2 n2 c2, .slice a3 n3 c3, .slice a4 n4 c4, .slice a5 n5 c5] 44)).alloc (.cells #[.slice none 0 0, .slice none 0 0] 36) := ⟨_, rfl⟩
  have HB : Hid (Below w.heap.size w W) := by unfold Hid; rw [hW]; (repeat (first | exact Below.refl _ _ | assumption | refine Below.drew ?_ | refine Below.alloc ?_ (by first | (simp; done) | (simp; omega)) _ | refine Below.setCell ?_ (by first | (simp; done) | (simp; omega)) _))
  have HD : Hid ((kS rBoard).rd W (.agg #[.slice a0 n0 c0, .slice a1 n1 c1]) d) := (kS rBoard).rd_below h HB.out
  have HE : Hid ((kS rEntry).rd W (.agg #[.int .i64 e.kind, .int .i64 e.author, .slice a2 n2 c2, .slice a3 n3 c3, .slice a4 n4 c4, .slice a5 n5 c5]) e) := (kS rEntry).rd_below he HB.out
  clear h he
  have g0 : W.cell? ⟨w.heap.size, 0, none⟩ = some (.int .i64 gr.p) := by rw [hW]; simp [go_sem]
  have g1 : W.cell? ⟨w.heap.size, 1, none⟩ = some (.int .i64 gr.q) := by rw [hW]; simp [go_sem]
  have g2 : W.cell? ⟨w.heap.size, 2, none⟩ = some (.int .i64 gr.g) := by rw [hW]; simp [go_sem]
  have x0 : W.cell? ⟨w.heap.size + 1, 0, none⟩ = some (.slice a0 n0 c0) := by rw [hW]; simp [go_sem]
  have x1 : W.cell? ⟨w.heap.size + 1, 1, none⟩ = some (.slice a1 n1 c1) := by rw [hW]; simp [go_sem]
  have y0 : W.cell? ⟨w.heap.size + 1 + 1, 0, none⟩ = some (.int .i64 e.kind) := by rw [hW]; simp [go_sem]
  have y1 : W.cell? ⟨w.heap.size + 1 + 1, 1, none⟩ = some (.int .i64 e.author) := by rw [hW]; simp [go_sem]
  have y2 : W.cell? ⟨w.heap.size + 1 + 1, 2, none⟩ = some (.slice a2 n2 c2) := by rw [hW]; simp [go_sem]
  have y3 : W.cell? ⟨w.heap.size + 1 + 1, 3, none⟩ = some (.slice a3 n3 c3) := by rw [hW]; simp [go_sem]
  have y4 : W.cell? ⟨w.heap.size + 1 + 1, 4, none⟩ = some (.slice a4 n4 c4) := by rw [hW]; simp [go_sem]
  have y5 : W.cell? ⟨w.heap.size + 1 + 1, 5, none⟩ = some (.slice a5 n5 c5) := by rw [hW]; simp [go_sem]
  have HR : Hid (BoxN W (w.heap.size + 1 + 1 + 1) 36 [.slice none 0 0, .slice none 0 0]) := by unfold Hid; rw [hW]; have h := BoxN.new (((w.alloc (.cells #[.int .i64 gr.p, .int .i64 gr.q, .int .i64 gr.g] 39)).alloc (.cells #[.slice a0 n0 c0, .slice a1 n1 c1] 36)).alloc (.cells #[.int .i64 e.kind, .int .i64 e.author, .slice a2 n2 c2, .slice a3 n3 c3, .slice a4 n4 c4, .slice a5 n5 c5] 44)) [.slice none 0 0, .slice none 0 0] 36; simpa using h
  have HSW : Hid (W.heap.size = w.heap.size + 4) := by unfold Hid; rw [hW]; simp
  obtain ⟨ti, hti, htz, hts, htb⟩ := info_Entry
  have HI := Lib.hid (show _ ∧ _ ∧ _ ∧ _ from ⟨hti, htz, hts, htb⟩)
  clear hti htz hts htb
  (obtain ⟨q1, h_q⟩ : ∃ b_q, apB gr d e = b_q := ⟨_, rfl⟩); have H1 := Lib.hid h_q; clear h_q
  (obtain ⟨dR, h_q⟩ : ∃ b_q, apD gr d e = b_q := ⟨_, rfl⟩); have HDR := Lib.hid h_q; clear h_q
  rw [H1.out, HDR.out]
  go_enter Try.func17, Try.ntmps17
  go_wp2_with fail
  rw [← hW]
  clear hW
  try (go_wp2_with fail)
  refine (spec_l2Good gr _).mono ?_
  rintro ex w1 ⟨rfl, hb1⟩
  have HB1 := Lib.hid hb1
  have hs1 := hb1.size
  replace g0 := box_at g0 hb1
  replace g1 := box_at g1 hb1
  replace g2 := box_at g2 hb1
  replace x0 := box_at x0 hb1
  replace x1 := box_at x1 hb1
  replace y0 := box_at y0 hb1
  replace y1 := box_at y1 hb1
  replace y2 := box_at y2 hb1
  replace y3 := box_at y3 hb1
  replace y4 := box_at y4 hb1
  replace y5 := box_at y5 hb1
  clear hb1
  cases hgd : goodG gr with
  | false =>
    obtain rfl : q1 = false := by rw [← H1.out]; unfold apB vbR; rw [hgd]; rfl
    obtain ⟨u2, rfl⟩ : ∃ u, u = w1 := ⟨_, rfl⟩
    have HR2 := Lib.hid (HR.out.below HB1.out)
    have HBE : Hid (Below w.heap.size w u2) := Below.next HB.out HB1.out
    clear HR g0 g1 g2 x0 x1 y0 y1 y2 y3 y4 y5
    have r0 := HR2.out.cell (i := 0) rfl
    have r1 := HR2.out.cell (i := 1) rfl
    have fr := fun j => HR2.out.frozen j
    have o0 := r0
    have o1 := r1
    go_wp2_with fail
    have HRF := Lib.hid ((HR2.out.set 0 (.slice none 0 0)).set 1 (.slice none 0 0))
    obtain ⟨Z, hZ⟩ : ∃ Z, Z = (u2.setCell ⟨w.heap.size + 1 + 1 + 1, 0, none⟩ (.slice none 0 0)).setCell ⟨w.heap.size + 1 + 1 + 1, 1, none⟩ (.slice none 0 0) := ⟨_, rfl⟩
    have hZs : Z.heap.size = u2.heap.size := by rw [hZ]; simp [World.setCell]
    have hZo : ∀ k, k ≠ w.heap.size + 3 → Z.heap[k]? = u2.heap[k]? := fun k hk => by
      rw [hZ, heap_setCell_other _ _ k _ (fun e => hk (by simpa using e)), heap_setCell_other _ _ k _ (fun e => hk (by simpa using e))]
    have HBF : Hid (Below w.heap.size w Z) := by unfold Hid; rw [hZ]; exact (HBE.out.setCell (by show w.heap.size ≤ w.heap.size + 1 + 1 + 1; omega) _).setCell (by show w.heap.size ≤ w.heap.size + 1 + 1 + 1; omega) _
    have hEs := HBE.out.size
    have HFIN : Hid ((kS rBoard).own Z w.heap.size Z.heap.size (.agg #[.slice none 0 0, .slice none 0 0]) dR) := by unfold Hid; rw [← HDR.out, apD_no H1.out]; exact own_board0 Z w.heap.size Z.heap.size (by rw [hZs]; omega)
    rw [← hZ] at HRF ⊢
    clear r0 r1 fr hZ hZo hZs o0 o1
    have r0 := HRF.out.cell (i := 0) rfl
    have r1 := HRF.out.cell (i := 1) rfl
    try (go_wp2_with fail)
    refine bodyPost_ret (v := .tuple #[.agg #[.slice none 0 0, .slice none 0 0], .bool false]) (by simp [results, Try.results17, go_sem, r0, r1]) rfl ⟨_, rfl, HFIN.out, HBF.out⟩
  | true =>
    have HG := Lib.hid (goodG_ok hgd)
    have HQB : Hid (boardB gr ⟨d.keys, d.entries ++ [e]⟩ = q1) := by have h := H1.out; unfold apB vbR at h; rw [hgd, Bool.true_and] at h; exact h
    have HZN : Hid (d.entries.length + 1 ≤ 1000000000) := by have := hz2; rw [List.length_append] at this; simp only [List.length_cons, List.length_nil] at this; unfold Hid; omega
    clear hgd
    obtain ⟨_, _, _, _, _, _, ev, k0, k1⟩ := rdBoard.1 ((kS rBoard).rd_below HD.out HB1.out)
    cases ev
    have HKY := Lib.hid k0
    have HDE : Hid (RdR rEntry w1 (.slice a1 n1 c1) d.entries) := k1
    clear k0 k1
    have HEE : Hid (rEntry.rd w1 [.int .i64 e.kind, .int .i64 e.author, .slice a2 n2 c2, .slice a3 n3 c3, .slice a4 n4 c4, .slice a5 n5 c5] e) := by
      obtain ⟨row, e1, e2⟩ := (kS rEntry).rd_below HE.out HB1.out
      obtain rfl : [.int .i64 e.kind, .int .i64 e.author, .slice a2 n2 c2, .slice a3 n3 c3, .slice a4 n4 c4, .slice a5 n5 c5] = row := by have h := Value.agg.inj e1; simpa using congrArg Array.toList h
      exact e2
    clear HD HE
    go_upto_region 3 with fail
    go_cut [8] from 13 to 23 (fun v8 wx => ∃ (g : Nat) (b0 : Option Addr) (m0 k0 : Nat) (b1 : Option Addr) (m1 k1 : Nat), v8 = .pointer (some ⟨g, 0, none⟩) ∧ w1.heap.size ≤ g ∧ Hid (Below w1.heap.size w1 wx) ∧ Hid (BoxN wx g 36 [.slice b0 m0 k0, .slice b1 m1 k1]) ∧ Hid ((kS rBoard).own wx w1.heap.size wx.heap.size (.agg #[.slice b0 m0 k0, .slice b1 m1 k1]) ⟨d.keys, d.entries ++ [e]⟩))
    case first =>
      refine wp_region_noPanic ?_
      refine wp_region_V (fun w' => Below w1.heap.size w1 w' ∧ w'.cell? ⟨w.heap.size + 1, 0, none⟩ = some (.slice a0 n0 c0) ∧ w'.cell? ⟨w.heap.size + 1, 1, none⟩ = some (.slice a1 n1 c1) ∧ w'.cell? ⟨w.heap.size + 1 + 1, 0, none⟩ = some (.int .i64 e.kind) ∧ w'.cell? ⟨w.heap.size + 1 + 1, 1, none⟩ = some (.int .i64 e.author) ∧ w'.cell? ⟨w.heap.size + 1 + 1, 2, none⟩ = some (.slice a2 n2 c2) ∧ w'.cell? ⟨w.heap.size + 1 + 1, 3, none⟩ = some (.slice a3 n3 c3) ∧ w'.cell? ⟨w.heap.size + 1 + 1, 4, none⟩ = some (.slice a4 n4 c4) ∧ w'.cell? ⟨w.heap.size + 1 + 1, 5, none⟩ = some (.slice a5 n5 c5)) 15 12 (.rd 0 (.rd 1 (.rd 3 (.rd 4 (.rd 6 (.alt 2 (.alt 5 (.alt 7 (.alt 8 (.rd 9 (.alt 10 (.alt 11 .done .nil) (.alt 11 (.alt 10 .done .nil) .nil))) (.alt 11 (.alt 8 (.rd 9 (.alt 10 .done .nil)) .nil) .nil)) (.alt 11 (.alt 7 (.alt 8 (.rd 9 (.alt 10 .done .nil)) .nil) .nil) .nil)) (.alt 7 (.alt 5 (.alt 8 (.rd 9 (.alt 10 (.alt 11 .done .nil) (.alt 11 (.alt 10 .done .nil) .nil))) (.alt 11 (.alt 8 (.rd 9 (.alt 10 .done .nil)) .nil) .nil)) (.alt 11 (.alt 5 (.alt 8 (.rd 9 (.alt 10 .done .nil)) .nil) .nil) .nil)) (.alt 11 (.alt 5 (.alt 7 (.alt 8 (.rd 9 (.alt 10 .done .nil)) .nil) .nil) (.alt 7 (.alt 5 (.alt 8 (.rd 9 (.alt 10 .done .nil)) .nil) .nil) .nil)) .nil))) (.alt 7 (.alt 2 (.alt 5 (.alt 8 (.rd 9 (.alt 10 (.alt 11 .done .nil) (.alt 11 (.alt 10 .done .nil) .nil))) (.alt 11 (.alt 8 (.rd 9 (.alt 10 .done .nil)) .nil) .nil)) (.alt 11 (.alt 5 (.alt 8 (.rd 9 (.alt 10 .done .nil)) .nil) .nil) .nil)) (.alt 11 (.alt 2 (.alt 5 (.alt 8 (.rd 9 (.alt 10 .done .nil)) .nil) .nil) .nil) .nil)) (.alt 11 (.alt 2 (.alt 5 (.alt 7 (.alt 8 (.rd 9 (.alt 10 .done .nil)) .nil) .nil) (.alt 7 (.alt 5 (.alt 8 (.rd 9 (.alt 10 .done .nil)) .nil) .nil) .nil)) (.alt 7 (.alt 2 (.alt 5 (.alt 8 (.rd 9 (.alt 10 .done .nil)) .nil) .nil) .nil) .nil)) .nil)))))))) [12] (by kernel_rfl) (by kernel_rfl) rfl (fun _ _ _ _ _ h => h) ⟨(Below.refl _ _).drew, x0, x1, y0, y1, y2, y3, y4, y5⟩ ?_
      simp only [pickV, pickN, List.getElem?_cons_zero, List.getElem?_cons_succ]
      have hb0 : Below w1.heap.size w1 w1.drew := (Below.refl _ _).drew
      obtain ⟨X0, hc0⟩ : ∃ x, x = w1.drew := ⟨_, rfl⟩
      rw [← hc0] at hb0 ⊢
      clear hc0
      repeat (refine' wpV_read _ (by kernel_rfl) (fun w' hS' => ?_) ?_; rotate_left; · ((try dsimp only at hS'); go_simp; (try with_reducible rfl)); (try simp only [Act.put, List.setIfInBounds_toArray, List.set_cons_zero, List.set_cons_succ]))
      refine wpV_or (by kernel_rfl) (fun K hK => ?_) ?_
      · skip
        go_simp
        obtain ⟨X1, hc1⟩ : ∃ x, x = X0.alloc (.cells #[] 44) := ⟨_, rfl⟩
        have hd1 : Below X0.heap.size X0 X1 := by rw [hc1]; exact (Below.refl _ _).alloc (Nat.le_refl _) _
        have hb1 : Below w1.heap.size w1 X1 := hb0.trans (hd1.mono hb0.size)
        have HF1 : Hid (ApF w1 X1 (.slice (some ⟨X0.heap.size, 0, none⟩) 0 0) [] []) := by unfold Hid; rw [hc1]; exact ApF.new hb0.size (all0 )
        rw [← hc1]
        clear hc1 hd1
        refine hK.out _ _ ⟨hb1, box_at x0 hb1, box_at x1 hb1, box_at y0 hb1, box_at y1 hb1, box_at y2 hb1, box_at y3 hb1, box_at y4 hb1, box_at y5 hb1⟩ (fun _ => ?_)
        clear hK K
        try simp only [Act.put, List.setIfInBounds_toArray, List.set_cons_zero, List.set_cons_succ]
        refine wpV_or (by kernel_rfl) (fun K hK => ?_) ?_
        · skip
          refine oper_append_ApD (es := d.entries) 34 ti (.agg #[.int .i64 0, .int .i64 0, .slice none 0 0, .slice none 0 0, .slice none 0 0, .slice none 0 0]) Try.underlying34 HI.out.1 HI.out.2.1 HI.out.2.2.1 HI.out.2.2.2 rfl (by decide) rfl _ _ rfl HF1.out rfl rfl HDE.out hb1 (by have := HZN.out; simp only [List.length_nil]; omega) (all0 ) ?_
          intro x2 X2 hF2 hd2 hk2
          rw [List.nil_append] at hF2
          have hb2 : Below w1.heap.size w1 X2 := hb1.trans hd2
          obtain ⟨ax2, nx2, cx2, rfl⟩ := (hF2.1.rd hb2).shape
          have HF2 := Lib.hid hF2
          clear hF2 hd2 hk2
          refine hK.out _ _ ⟨hb2, box_at x0 hb2, box_at x1 hb2, box_at y0 hb2, box_at y1 hb2, box_at y2 hb2, box_at y3 hb2, box_at y4 hb2, box_at y5 hb2⟩ (fun _ => ?_)
          clear hK K
          try simp only [Act.put, List.setIfInBounds_toArray, List.set_cons_zero, List.set_cons_succ]
          refine wpV_or (by kernel_rfl) (fun K hK => ?_) ?_
          · skip
            go_simp
            obtain ⟨X3, hc3⟩ : ∃ x, x = X2.alloc (.cells #[.int .i64 e.kind, .int .i64 e.author, .slice a2 n2 c2, .slice a3 n3 c3, .slice a4 n4 c4, .slice a5 n5 c5] 44) := ⟨_, rfl⟩
            have hd3 : Below X2.heap.size X2 X3 := by rw [hc3]; exact (Below.refl _ _).alloc (Nat.le_refl _) _
            have hb3 : Below w1.heap.size w1 X3 := hb2.trans (hd3.mono hb2.size)
            have HF3 := Lib.hid ((Lib.hid HF2.out.moreL).out.next hd3)
            have HS3 : Hid (BoxN X3 X2.heap.size 44 [.int .i64 e.kind, .int .i64 e.author, .slice a2 n2 c2, .slice a3 n3 c3, .slice a4 n4 c4, .slice a5 n5 c5]) := by unfold Hid; rw [hc3]; exact BoxN.new _ _ _
            rw [← hc3]
            clear hc3 hd3
            refine hK.out _ _ ⟨hb3, box_at x0 hb3, box_at x1 hb3, box_at y0 hb3, box_at y1 hb3, box_at y2 hb3, box_at y3 hb3, box_at y4 hb3, box_at y5 hb3⟩ (fun _ => ?_)
            clear hK K
            try simp only [Act.put, List.setIfInBounds_toArray, List.set_cons_zero, List.set_cons_succ]
            refine wpV_or (by kernel_rfl) (fun K hK => ?_) ?_
            · skip
              refine oper_append_ApC (d := e) 34 ti (.agg #[.int .i64 0, .int .i64 0, .slice none 0 0, .slice none 0 0, .slice none 0 0, .slice none 0 0]) Try.underlying34 HI.out.1 HI.out.2.1 HI.out.2.2.1 HI.out.2.2.2 rfl (by decide) rfl _ _ rfl HF3.out rfl rfl HS3.out HEE.out hb3 HZN.out (all1 (HS3.out.lt)) ?_
              intro x4 X4 hF4 hd4 hk4
              have hb4 : Below w1.heap.size w1 X4 := hb3.trans hd4
              have HS4 := Lib.hid (hk4 _ (by simp) _ _ HS3.out)
              obtain ⟨ax4, nx4, cx4, rfl⟩ := (hF4.1.rd hb4).shape
              have HF4 := Lib.hid hF4
              clear hF4 hd4 hk4
              refine hK.out _ _ ⟨hb4, box_at x0 hb4, box_at x1 hb4, box_at y0 hb4, box_at y1 hb4, box_at y2 hb4, box_at y3 hb4, box_at y4 hb4, box_at y5 hb4⟩ (fun _ => ?_)
              clear hK K
              try simp only [Act.put, List.setIfInBounds_toArray, List.set_cons_zero, List.set_cons_succ]
              repeat (refine' wpV_read _ (by kernel_rfl) (fun w' hS' => ?_) ?_; rotate_left; · ((try dsimp only at hS'); go_simp; (try with_reducible rfl)); (try simp only [Act.put, List.setIfInBounds_toArray, List.set_cons_zero, List.set_cons_succ]))
              refine wpV_or (by kernel_rfl) (fun K hK => ?_) ?_
              · skip
                go_simp
                go_at_call 121
                have HRDB5 : Hid ((kS rBoard).rd X4 (.agg #[.slice a0 n0 c0, .slice ax4 nx4 cx4]) ⟨d.keys, d.entries ++ [e]⟩) := rdBoard.2 ⟨_, _, _, _, _, _, rfl, HKY.out.below hb4, HF4.out.1.rd hb4⟩
                refine (spec_oOwn _ ⟨d.keys, d.entries ++ [e]⟩ _ hz1 hz2 HZ3.out HRDB5.out).mono ?_
                rintro ex X5 ⟨vb5, rfl, hO5, hd5⟩
                obtain ⟨b0, m0, k0, b1, m1, k1, rfl, _, _⟩ := rdBoard.1 ((kS rBoard).own_rd hO5)
                have hb5 : Below w1.heap.size w1 X5 := hb4.trans (hd5.mono hb4.size)
                have HQ5 := Lib.hid hO5
                have hqs5 := hd5.size
                have hql5 := hb4.size
                clear hO5 HRDB5 hd5
                refine hK.out _ _ ⟨hb5, box_at x0 hb5, box_at x1 hb5, box_at y0 hb5, box_at y1 hb5, box_at y2 hb5, box_at y3 hb5, box_at y4 hb5, box_at y5 hb5⟩ (fun _ => ?_)
                clear hK K
                try simp only [Act.put, List.setIfInBounds_toArray, List.set_cons_zero, List.set_cons_succ]
                refine wpV_do (by kernel_rfl) (fun K hK => ?_)
                go_simp
                obtain ⟨X6, hc6⟩ : ∃ x, x = X5.alloc (.cells #[.slice none 0 0, .slice none 0 0] 36) := ⟨_, rfl⟩
                have hd6 : Below X5.heap.size X5 X6 := by rw [hc6]; exact (Below.refl _ _).alloc (Nat.le_refl _) _
                have hb6 : Below w1.heap.size w1 X6 := hb5.trans (hd6.mono hb5.size)
                have HQ6 := Lib.hid ((kS rBoard).next HQ5.out hd6)
                have hqs6 := (hd6).size
                have HT6 : Hid (BoxN X6 X5.heap.size 36 [.slice none 0 0, .slice none 0 0]) := by unfold Hid; rw [hc6]; exact BoxN.new _ _ _
                rw [← hc6]
                clear hc6 hd6
                refine hK.out _ _ ⟨hb6, box_at x0 hb6, box_at x1 hb6, box_at y0 hb6, box_at y1 hb6, box_at y2 hb6, box_at y3 hb6, box_at y4 hb6, box_at y5 hb6⟩ (fun _ => ?_)
                clear hK K
                try simp only [Act.put, List.setIfInBounds_toArray, List.set_cons_zero, List.set_cons_succ]
                have HTL := Lib.hid HT6.out
                have hgl : w1.heap.size ≤ X5.heap.size := hb5.size
                have hlt := HT6.out.lt
                refine wpV_done ?_
                have fr := fun j => HTL.out.frozen j
                have r0 := HTL.out.cell (i := 0) rfl
                have r1 := HTL.out.cell (i := 1) rfl
                go_wp2_with fail
                refine NoPanic.normal ?_
                go_wp2_with fail
                have HBL : Hid (Below w1.heap.size w1 ((X6.setCell ⟨X5.heap.size, 0, none⟩ (.slice b0 m0 k0)).setCell ⟨X5.heap.size, 1, none⟩ (.slice b1 m1 k1))) := (hb6.setCell hgl _).setCell hgl _
                have HOL : Hid ((kS rBoard).own ((X6.setCell ⟨X5.heap.size, 0, none⟩ (.slice b0 m0 k0)).setCell ⟨X5.heap.size, 1, none⟩ (.slice b1 m1 k1)) w1.heap.size ((X6.setCell ⟨X5.heap.size, 0, none⟩ (.slice b0 m0 k0)).setCell ⟨X5.heap.size, 1, none⟩ (.slice b1 m1 k1)).heap.size (.agg #[.slice b0 m0 k0, .slice b1 m1 k1]) ⟨d.keys, d.entries ++ [e]⟩) :=
                  (kS rBoard).own_mono ((kS rBoard).own_frame HQ6.out (fun k h1 h2 h3 => by rw [heap_setCell_other _ _ k _ (fun e => by simp at e; omega), heap_setCell_other _ _ k _ (fun e => by simp at e; omega)])) (by omega) (by rw [size_setC, size_setC]; omega)
                go_meet
                exact ⟨X5.heap.size, b0, m0, k0, b1, m1, k1, rfl, hgl, HBL.out, (HTL.out.set 0 _).set 1 _, HOL.out⟩
              · skip
                refine wpV_do (by kernel_rfl) (fun K hK => ?_)
                go_simp
                obtain ⟨X7, hc7⟩ : ∃ x, x = X4.alloc (.cells #[.slice none 0 0, .slice none 0 0] 36) := ⟨_, rfl⟩
                have hd7 : Below X4.heap.size X4 X7 := by rw [hc7]; exact (Below.refl _ _).alloc (Nat.le_refl _) _
                have hb7 : Below w1.heap.size w1 X7 := hb4.trans (hd7.mono hb4.size)
                have HF7 := Lib.hid ((Lib.hid HF4.out.more1).out.next hd7)
                have HS7 := Lib.hid (HS4.out.below hd7)
                have HT7 : Hid (BoxN X7 X4.heap.size 36 [.slice none 0 0, .slice none 0 0]) := by unfold Hid; rw [hc7]; exact BoxN.new _ _ _
                rw [← hc7]
                clear hc7 hd7
                refine hK.out _ _ ⟨hb7, box_at x0 hb7, box_at x1 hb7, box_at y0 hb7, box_at y1 hb7, box_at y2 hb7, box_at y3 hb7, box_at y4 hb7, box_at y5 hb7⟩ (fun _ => ?_)
                clear hK K
                try simp only [Act.put, List.setIfInBounds_toArray, List.set_cons_zero, List.set_cons_succ]
                refine wpV_do (by kernel_rfl) (fun K hK => ?_)
                go_simp
                go_at_call 121
                have HRDB8 : Hid ((kS rBoard).rd X7 (.agg #[.slice a0 n0 c0, .slice ax4 nx4 cx4]) ⟨d.keys, d.entries ++ [e]⟩) := rdBoard.2 ⟨_, _, _, _, _, _, rfl, HKY.out.below hb7, HF7.out.1.rd hb7⟩
                refine (spec_oOwn _ ⟨d.keys, d.entries ++ [e]⟩ _ hz1 hz2 HZ3.out HRDB8.out).mono ?_
                rintro ex X8 ⟨vb8, rfl, hO8, hd8⟩
                obtain ⟨b0, m0, k0, b1, m1, k1, rfl, _, _⟩ := rdBoard.1 ((kS rBoard).own_rd hO8)
                have hb8 : Below w1.heap.size w1 X8 := hb7.trans (hd8.mono hb7.size)
                have hqg8 := HT7.out.lt
                have HT8 := Lib.hid (HT7.out.below hd8)
                have HQ8 := Lib.hid hO8
                have hqs8 := hd8.size
                have hql8 := hb7.size
                clear hO8 HRDB8 hd8
                refine hK.out _ _ ⟨hb8, box_at x0 hb8, box_at x1 hb8, box_at y0 hb8, box_at y1 hb8, box_at y2 hb8, box_at y3 hb8, box_at y4 hb8, box_at y5 hb8⟩ (fun _ => ?_)
                clear hK K
                try simp only [Act.put, List.setIfInBounds_toArray, List.set_cons_zero, List.set_cons_succ]
                have HTL := Lib.hid HT8.out
                have hgl : w1.heap.size ≤ X4.heap.size := hb4.size
                have hlt := HT8.out.lt
                refine wpV_done ?_
                have fr := fun j => HTL.out.frozen j
                have r0 := HTL.out.cell (i := 0) rfl
                have r1 := HTL.out.cell (i := 1) rfl
                go_wp2_with fail
                refine NoPanic.normal ?_
                go_wp2_with fail
                have HBL : Hid (Below w1.heap.size w1 ((X8.setCell ⟨X4.heap.size, 0, none⟩ (.slice b0 m0 k0)).setCell ⟨X4.heap.size, 1, none⟩ (.slice b1 m1 k1))) := (hb8.setCell hgl _).setCell hgl _
                have HOL : Hid ((kS rBoard).own ((X8.setCell ⟨X4.heap.size, 0, none⟩ (.slice b0 m0 k0)).setCell ⟨X4.heap.size, 1, none⟩ (.slice b1 m1 k1)) w1.heap.size ((X8.setCell ⟨X4.heap.size, 0, none⟩ (.slice b0 m0 k0)).setCell ⟨X4.heap.size, 1, none⟩ (.slice b1 m1 k1)).heap.size (.agg #[.slice b0 m0 k0, .slice b1 m1 k1]) ⟨d.keys, d.entries ++ [e]⟩) :=
                  (kS rBoard).own_mono ((kS rBoard).own_frame HQ8.out (fun k h1 h2 h3 => by rw [heap_setCell_other _ _ k _ (fun e => by simp at e; omega), heap_setCell_other _ _ k _ (fun e => by simp at e; omega)])) (by omega) (by rw [size_setC, size_setC]; omega)
                go_meet
                exact ⟨X4.heap.size, b0, m0, k0, b1, m1, k1, rfl, hgl, HBL.out, (HTL.out.set 0 _).set 1 _, HOL.out⟩
            · skip
              refine wpV_do (by kernel_rfl) (fun K hK => ?_)
              go_simp
              obtain ⟨X9, hc9⟩ : ∃ x, x = X3.alloc (.cells #[.slice none 0 0, .slice none 0 0] 36) := ⟨_, rfl⟩
              have hd9 : Below X3.heap.size X3 X9 := by rw [hc9]; exact (Below.refl _ _).alloc (Nat.le_refl _) _
              have hb9 : Below w1.heap.size w1 X9 := hb3.trans (hd9.mono hb3.size)
              have HF9 := Lib.hid ((Lib.hid HF3.out.more1).out.next hd9)
              have HS9 := Lib.hid (HS3.out.below hd9)
              have HT9 : Hid (BoxN X9 X3.heap.size 36 [.slice none 0 0, .slice none 0 0]) := by unfold Hid; rw [hc9]; exact BoxN.new _ _ _
              rw [← hc9]
              clear hc9 hd9
              refine hK.out _ _ ⟨hb9, box_at x0 hb9, box_at x1 hb9, box_at y0 hb9, box_at y1 hb9, box_at y2 hb9, box_at y3 hb9, box_at y4 hb9, box_at y5 hb9⟩ (fun _ => ?_)
              clear hK K
              try simp only [Act.put, List.setIfInBounds_toArray, List.set_cons_zero, List.set_cons_succ]
              refine wpV_do (by kernel_rfl) (fun K hK => ?_)
              refine oper_append_ApC (d := e) 34 ti (.agg #[.int .i64 0, .int .i64 0, .slice none 0 0, .slice none 0 0, .slice none 0 0, .slice none 0 0]) Try.underlying34 HI.out.1 HI.out.2.1 HI.out.2.2.1 HI.out.2.2.2 rfl (by decide) rfl _ _ rfl HF9.out rfl rfl HS9.out HEE.out hb9 HZN.out (all2 (HS9.out.lt) (HT9.out.lt)) ?_
              intro x10 X10 hF10 hd10 hk10
              have hb10 : Below w1.heap.size w1 X10 := hb9.trans hd10
              have HS10 := Lib.hid (hk10 _ (by simp) _ _ HS9.out)
              have HT10 := Lib.hid (hk10 _ (by simp) _ _ HT9.out)
              obtain ⟨ax10, nx10, cx10, rfl⟩ := (hF10.1.rd hb10).shape
              have HF10 := Lib.hid hF10
              clear hF10 hd10 hk10
              refine hK.out _ _ ⟨hb10, box_at x0 hb10, box_at x1 hb10, box_at y0 hb10, box_at y1 hb10, box_at y2 hb10, box_at y3 hb10, box_at y4 hb10, box_at y5 hb10⟩ (fun _ => ?_)
              clear hK K
              try simp only [Act.put, List.setIfInBounds_toArray, List.set_cons_zero, List.set_cons_succ]
              repeat (refine' wpV_read _ (by kernel_rfl) (fun w' hS' => ?_) ?_; rotate_left; · ((try dsimp only at hS'); go_simp; (try with_reducible rfl)); (try simp only [Act.put, List.setIfInBounds_toArray, List.set_cons_zero, List.set_cons_succ]))
              refine wpV_do (by kernel_rfl) (fun K hK => ?_)
              go_simp
              go_at_call 121
              have HRDB11 : Hid ((kS rBoard).rd X10 (.agg #[.slice a0 n0 c0, .slice ax10 nx10 cx10]) ⟨d.keys, d.entries ++ [e]⟩) := rdBoard.2 ⟨_, _, _, _, _, _, rfl, HKY.out.below hb10, HF10.out.1.rd hb10⟩
              refine (spec_oOwn _ ⟨d.keys, d.entries ++ [e]⟩ _ hz1 hz2 HZ3.out HRDB11.out).mono ?_
              rintro ex X11 ⟨vb11, rfl, hO11, hd11⟩
              obtain ⟨b0, m0, k0, b1, m1, k1, rfl, _, _⟩ := rdBoard.1 ((kS rBoard).own_rd hO11)
              have hb11 : Below w1.heap.size w1 X11 := hb10.trans (hd11.mono hb10.size)
              have hqg11 := HT10.out.lt
              have HT11 := Lib.hid (HT10.out.below hd11)
              have HQ11 := Lib.hid hO11
              have hqs11 := hd11.size
              have hql11 := hb10.size
              clear hO11 HRDB11 hd11
              refine hK.out _ _ ⟨hb11, box_at x0 hb11, box_at x1 hb11, box_at y0 hb11, box_at y1 hb11, box_at y2 hb11, box_at y3 hb11, box_at y4 hb11, box_at y5 hb11⟩ (fun _ => ?_)
              clear hK K
              try simp only [Act.put, List.setIfInBounds_toArray, List.set_cons_zero, List.set_cons_succ]
              have HTL := Lib.hid HT11.out
              have hgl : w1.heap.size ≤ X3.heap.size := hb3.size
              have hlt := HT11.out.lt
              refine wpV_done ?_
              have fr := fun j => HTL.out.frozen j
              have r0 := HTL.out.cell (i := 0) rfl
              have r1 := HTL.out.cell (i := 1) rfl
              go_wp2_with fail
              refine NoPanic.normal ?_
              go_wp2_with fail
              have HBL : Hid (Below w1.heap.size w1 ((X11.setCell ⟨X3.heap.size, 0, none⟩ (.slice b0 m0 k0)).setCell ⟨X3.heap.size, 1, none⟩ (.slice b1 m1 k1))) := (hb11.setCell hgl _).setCell hgl _
              have HOL : Hid ((kS rBoard).own ((X11.setCell ⟨X3.heap.size, 0, none⟩ (.slice b0 m0 k0)).setCell ⟨X3.heap.size, 1, none⟩ (.slice b1 m1 k1)) w1.heap.size ((X11.setCell ⟨X3.heap.size, 0, none⟩ (.slice b0 m0 k0)).setCell ⟨X3.heap.size, 1, none⟩ (.slice b1 m1 k1)).heap.size (.agg #[.slice b0 m0 k0, .slice b1 m1 k1]) ⟨d.keys, d.entries ++ [e]⟩) :=
                (kS rBoard).own_mono ((kS rBoard).own_frame HQ11.out (fun k h1 h2 h3 => by rw [heap_setCell_other _ _ k _ (fun e => by simp at e; omega), heap_setCell_other _ _ k _ (fun e => by simp at e; omega)])) (by omega) (by rw [size_setC, size_setC]; omega)
              go_meet
              exact ⟨X3.heap.size, b0, m0, k0, b1, m1, k1, rfl, hgl, HBL.out, (HTL.out.set 0 _).set 1 _, HOL.out⟩
          · skip
            refine wpV_do (by kernel_rfl) (fun K hK => ?_)
            go_simp
            obtain ⟨X12, hc12⟩ : ∃ x, x = X2.alloc (.cells #[.slice none 0 0, .slice none 0 0] 36) := ⟨_, rfl⟩
            have hd12 : Below X2.heap.size X2 X12 := by rw [hc12]; exact (Below.refl _ _).alloc (Nat.le_refl _) _
            have hb12 : Below w1.heap.size w1 X12 := hb2.trans (hd12.mono hb2.size)
            have HF12 := Lib.hid ((Lib.hid HF2.out.moreL).out.next hd12)
            have HT12 : Hid (BoxN X12 X2.heap.size 36 [.slice none 0 0, .slice none 0 0]) := by unfold Hid; rw [hc12]; exact BoxN.new _ _ _
            rw [← hc12]
            clear hc12 hd12
            refine hK.out _ _ ⟨hb12, box_at x0 hb12, box_at x1 hb12, box_at y0 hb12, box_at y1 hb12, box_at y2 hb12, box_at y3 hb12, box_at y4 hb12, box_at y5 hb12⟩ (fun _ => ?_)
            clear hK K
            try simp only [Act.put, List.setIfInBounds_toArray, List.set_cons_zero, List.set_cons_succ]
            refine wpV_do (by kernel_rfl) (fun K hK => ?_)
            go_simp
            obtain ⟨X13, hc13⟩ : ∃ x, x = X12.alloc (.cells #[.int .i64 e.kind, .int .i64 e.author, .slice a2 n2 c2, .slice a3 n3 c3, .slice a4 n4 c4, .slice a5 n5 c5] 44) := ⟨_, rfl⟩
            have hd13 : Below X12.heap.size X12 X13 := by rw [hc13]; exact (Below.refl _ _).alloc (Nat.le_refl _) _
            have hb13 : Below w1.heap.size w1 X13 := hb12.trans (hd13.mono hb12.size)
            have HF13 := Lib.hid ((Lib.hid HF12.out.more2).out.next hd13)
            have HT13 := Lib.hid (HT12.out.below hd13)
            have HS13 : Hid (BoxN X13 X12.heap.size 44 [.int .i64 e.kind, .int .i64 e.author, .slice a2 n2 c2, .slice a3 n3 c3, .slice a4 n4 c4, .slice a5 n5 c5]) := by unfold Hid; rw [hc13]; exact BoxN.new _ _ _
            rw [← hc13]
            clear hc13 hd13
            refine hK.out _ _ ⟨hb13, box_at x0 hb13, box_at x1 hb13, box_at y0 hb13, box_at y1 hb13, box_at y2 hb13, box_at y3 hb13, box_at y4 hb13, box_at y5 hb13⟩ (fun _ => ?_)
            clear hK K
            try simp only [Act.put, List.setIfInBounds_toArray, List.set_cons_zero, List.set_cons_succ]
            refine wpV_do (by kernel_rfl) (fun K hK => ?_)
            refine oper_append_ApC (d := e) 34 ti (.agg #[.int .i64 0, .int .i64 0, .slice none 0 0, .slice none 0 0, .slice none 0 0, .slice none 0 0]) Try.underlying34 HI.out.1 HI.out.2.1 HI.out.2.2.1 HI.out.2.2.2 rfl (by decide) rfl _ _ rfl HF13.out rfl rfl HS13.out HEE.out hb13 HZN.out (all2 (HS13.out.lt) (HT13.out.lt)) ?_
            intro x14 X14 hF14 hd14 hk14
            have hb14 : Below w1.heap.size w1 X14 := hb13.trans hd14
            have HS14 := Lib.hid (hk14 _ (by simp) _ _ HS13.out)
            have HT14 := Lib.hid (hk14 _ (by simp) _ _ HT13.out)
            obtain ⟨ax14, nx14, cx14, rfl⟩ := (hF14.1.rd hb14).shape
            have HF14 := Lib.hid hF14
            clear hF14 hd14 hk14
            refine hK.out _ _ ⟨hb14, box_at x0 hb14, box_at x1 hb14, box_at y0 hb14, box_at y1 hb14, box_at y2 hb14, box_at y3 hb14, box_at y4 hb14, box_at y5 hb14⟩ (fun _ => ?_)
            clear hK K
            try simp only [Act.put, List.setIfInBounds_toArray, List.set_cons_zero, List.set_cons_succ]
            repeat (refine' wpV_read _ (by kernel_rfl) (fun w' hS' => ?_) ?_; rotate_left; · ((try dsimp only at hS'); go_simp; (try with_reducible rfl)); (try simp only [Act.put, List.setIfInBounds_toArray, List.set_cons_zero, List.set_cons_succ]))
            refine wpV_do (by kernel_rfl) (fun K hK => ?_)
            go_simp
            go_at_call 121
            have HRDB15 : Hid ((kS rBoard).rd X14 (.agg #[.slice a0 n0 c0, .slice ax14 nx14 cx14]) ⟨d.keys, d.entries ++ [e]⟩) := rdBoard.2 ⟨_, _, _, _, _, _, rfl, HKY.out.below hb14, HF14.out.1.rd hb14⟩
            refine (spec_oOwn _ ⟨d.keys, d.entries ++ [e]⟩ _ hz1 hz2 HZ3.out HRDB15.out).mono ?_
            rintro ex X15 ⟨vb15, rfl, hO15, hd15⟩
            obtain ⟨b0, m0, k0, b1, m1, k1, rfl, _, _⟩ := rdBoard.1 ((kS rBoard).own_rd hO15)
            have hb15 : Below w1.heap.size w1 X15 := hb14.trans (hd15.mono hb14.size)
            have hqg15 := HT14.out.lt
            have HT15 := Lib.hid (HT14.out.below hd15)
            have HQ15 := Lib.hid hO15
            have hqs15 := hd15.size
            have hql15 := hb14.size
            clear hO15 HRDB15 hd15
            refine hK.out _ _ ⟨hb15, box_at x0 hb15, box_at x1 hb15, box_at y0 hb15, box_at y1 hb15, box_at y2 hb15, box_at y3 hb15, box_at y4 hb15, box_at y5 hb15⟩ (fun _ => ?_)
            clear hK K
            try simp only [Act.put, List.setIfInBounds_toArray, List.set_cons_zero, List.set_cons_succ]
            have HTL := Lib.hid HT15.out
            have hgl : w1.heap.size ≤ X2.heap.size := hb2.size
            have hlt := HT15.out.lt
            refine wpV_done ?_
            have fr := fun j => HTL.out.frozen j
            have r0 := HTL.out.cell (i := 0) rfl
            have r1 := HTL.out.cell (i := 1) rfl
            go_wp2_with fail
            refine NoPanic.normal ?_
            go_wp2_with fail
            have HBL : Hid (Below w1.heap.size w1 ((X15.setCell ⟨X2.heap.size, 0, none⟩ (.slice b0 m0 k0)).setCell ⟨X2.heap.size, 1, none⟩ (.slice b1 m1 k1))) := (hb15.setCell hgl _).setCell hgl _
            have HOL : Hid ((kS rBoard).own ((X15.setCell ⟨X2.heap.size, 0, none⟩ (.slice b0 m0 k0)).setCell ⟨X2.heap.size, 1, none⟩ (.slice b1 m1 k1)) w1.heap.size ((X15.setCell ⟨X2.heap.size, 0, none⟩ (.slice b0 m0 k0)).setCell ⟨X2.heap.size, 1, none⟩ (.slice b1 m1 k1)).heap.size (.agg #[.slice b0 m0 k0, .slice b1 m1 k1]) ⟨d.keys, d.entries ++ [e]⟩) :=
              (kS rBoard).own_mono ((kS rBoard).own_frame HQ15.out (fun k h1 h2 h3 => by rw [heap_setCell_other _ _ k _ (fun e => by simp at e; omega), heap_setCell_other _ _ k _ (fun e => by simp at e; omega)])) (by omega) (by rw [size_setC, size_setC]; omega)
            go_meet
            exact ⟨X2.heap.size, b0, m0, k0, b1, m1, k1, rfl, hgl, HBL.out, (HTL.out.set 0 _).set 1 _, HOL.out⟩
        · skip
          refine wpV_or (by kernel_rfl) (fun K hK => ?_) ?_
          · skip
            go_simp
            obtain ⟨X16, hc16⟩ : ∃ x, x = X1.alloc (.cells #[.int .i64 e.kind, .int .i64 e.author, .slice a2 n2 c2, .slice a3 n3 c3, .slice a4 n4 c4, .slice a5 n5 c5] 44) := ⟨_, rfl⟩
            have hd16 : Below X1.heap.size X1 X16 := by rw [hc16]; exact (Below.refl _ _).alloc (Nat.le_refl _) _
            have hb16 : Below w1.heap.size w1 X16 := hb1.trans (hd16.mono hb1.size)
            have HF16 := Lib.hid ((Lib.hid HF1.out.moreL).out.next hd16)
            have HS16 : Hid (BoxN X16 X1.heap.size 44 [.int .i64 e.kind, .int .i64 e.author, .slice a2 n2 c2, .slice a3 n3 c3, .slice a4 n4 c4, .slice a5 n5 c5]) := by unfold Hid; rw [hc16]; exact BoxN.new _ _ _
            rw [← hc16]
            clear hc16 hd16
            refine hK.out _ _ ⟨hb16, box_at x0 hb16, box_at x1 hb16, box_at y0 hb16, box_at y1 hb16, box_at y2 hb16, box_at y3 hb16, box_at y4 hb16, box_at y5 hb16⟩ (fun _ => ?_)
            clear hK K
            try simp only [Act.put, List.setIfInBounds_toArray, List.set_cons_zero, List.set_cons_succ]
            refine wpV_or (by kernel_rfl) (fun K hK => ?_) ?_
            · skip
              refine oper_append_ApD (es := d.entries) 34 ti (.agg #[.int .i64 0, .int .i64 0, .slice none 0 0, .slice none 0 0, .slice none 0 0, .slice none 0 0]) Try.underlying34 HI.out.1 HI.out.2.1 HI.out.2.2.1 HI.out.2.2.2 rfl (by decide) rfl _ _ rfl HF16.out rfl rfl HDE.out hb16 (by have := HZN.out; simp only [List.length_nil]; omega) (all1 (HS16.out.lt)) ?_
              intro x17 X17 hF17 hd17 hk17
              rw [List.nil_append] at hF17
              have hb17 : Below w1.heap.size w1 X17 := hb16.trans hd17
              have HS17 := Lib.hid (hk17 _ (by simp) _ _ HS16.out)
              obtain ⟨ax17, nx17, cx17, rfl⟩ := (hF17.1.rd hb17).shape
              have HF17 := Lib.hid hF17
              clear hF17 hd17 hk17
              refine hK.out _ _ ⟨hb17, box_at x0 hb17, box_at x1 hb17, box_at y0 hb17, box_at y1 hb17, box_at y2 hb17, box_at y3 hb17, box_at y4 hb17, box_at y5 hb17⟩ (fun _ => ?_)
              clear hK K
              try simp only [Act.put, List.setIfInBounds_toArray, List.set_cons_zero, List.set_cons_succ]
              refine wpV_or (by kernel_rfl) (fun K hK => ?_) ?_
              · skip
                refine oper_append_ApC (d := e) 34 ti (.agg #[.int .i64 0, .int .i64 0, .slice none 0 0, .slice none 0 0, .slice none 0 0, .slice none 0 0]) Try.underlying34 HI.out.1 HI.out.2.1 HI.out.2.2.1 HI.out.2.2.2 rfl (by decide) rfl _ _ rfl HF17.out rfl rfl HS17.out HEE.out hb17 HZN.out (all1 (HS17.out.lt)) ?_
                intro x18 X18 hF18 hd18 hk18
                have hb18 : Below w1.heap.size w1 X18 := hb17.trans hd18
                have HS18 := Lib.hid (hk18 _ (by simp) _ _ HS17.out)
                obtain ⟨ax18, nx18, cx18, rfl⟩ := (hF18.1.rd hb18).shape
                have HF18 := Lib.hid hF18
                clear hF18 hd18 hk18
                refine hK.out _ _ ⟨hb18, box_at x0 hb18, box_at x1 hb18, box_at y0 hb18, box_at y1 hb18, box_at y2 hb18, box_at y3 hb18, box_at y4 hb18, box_at y5 hb18⟩ (fun _ => ?_)
                clear hK K
                try simp only [Act.put, List.setIfInBounds_toArray, List.set_cons_zero, List.set_cons_succ]
                repeat (refine' wpV_read _ (by kernel_rfl) (fun w' hS' => ?_) ?_; rotate_left; · ((try dsimp only at hS'); go_simp; (try with_reducible rfl)); (try simp only [Act.put, List.setIfInBounds_toArray, List.set_cons_zero, List.set_cons_succ]))
                refine wpV_or (by kernel_rfl) (fun K hK => ?_) ?_
                · skip
                  go_simp
                  go_at_call 121
                  have HRDB19 : Hid ((kS rBoard).rd X18 (.agg #[.slice a0 n0 c0, .slice ax18 nx18 cx18]) ⟨d.keys, d.entries ++ [e]⟩) := rdBoard.2 ⟨_, _, _, _, _, _, rfl, HKY.out.below hb18, HF18.out.1.rd hb18⟩
                  refine (spec_oOwn _ ⟨d.keys, d.entries ++ [e]⟩ _ hz1 hz2 HZ3.out HRDB19.out).mono ?_
                  rintro ex X19 ⟨vb19, rfl, hO19, hd19⟩
                  obtain ⟨b0, m0, k0, b1, m1, k1, rfl, _, _⟩ := rdBoard.1 ((kS rBoard).own_rd hO19)
                  have hb19 : Below w1.heap.size w1 X19 := hb18.trans (hd19.mono hb18.size)
                  have HQ19 := Lib.hid hO19
                  have hqs19 := hd19.size
                  have hql19 := hb18.size
                  clear hO19 HRDB19 hd19
                  refine hK.out _ _ ⟨hb19, box_at x0 hb19, box_at x1 hb19, box_at y0 hb19, box_at y1 hb19, box_at y2 hb19, box_at y3 hb19, box_at y4 hb19, box_at y5 hb19⟩ (fun _ => ?_)
                  clear hK K
                  try simp only [Act.put, List.setIfInBounds_toArray, List.set_cons_zero, List.set_cons_succ]
                  refine wpV_do (by kernel_rfl) (fun K hK => ?_)
                  go_simp
                  obtain ⟨X20, hc20⟩ : ∃ x, x = X19.alloc (.cells #[.slice none 0 0, .slice none 0 0] 36) := ⟨_, rfl⟩
                  have hd20 : Below X19.heap.size X19 X20 := by rw [hc20]; exact (Below.refl _ _).alloc (Nat.le_refl _) _
                  have hb20 : Below w1.heap.size w1 X20 := hb19.trans (hd20.mono hb19.size)
                  have HQ20 := Lib.hid ((kS rBoard).next HQ19.out hd20)
                  have hqs20 := (hd20).size
                  have HT20 : Hid (BoxN X20 X19.heap.size 36 [.slice none 0 0, .slice none 0 0]) := by unfold Hid; rw [hc20]; exact BoxN.new _ _ _
                  rw [← hc20]
                  clear hc20 hd20
                  refine hK.out _ _ ⟨hb20, box_at x0 hb20, box_at x1 hb20, box_at y0 hb20, box_at y1 hb20, box_at y2 hb20, box_at y3 hb20, box_at y4 hb20, box_at y5 hb20⟩ (fun _ => ?_)
                  clear hK K
                  try simp only [Act.put, List.setIfInBounds_toArray, List.set_cons_zero, List.set_cons_succ]
                  have HTL := Lib.hid HT20.out
                  have hgl : w1.heap.size ≤ X19.heap.size := hb19.size
                  have hlt := HT20.out.lt
                  refine wpV_done ?_
                  have fr := fun j => HTL.out.frozen j
                  have r0 := HTL.out.cell (i := 0) rfl
                  have r1 := HTL.out.cell (i := 1) rfl
                  go_wp2_with fail
                  refine NoPanic.normal ?_
                  go_wp2_with fail
                  have HBL : Hid (Below w1.heap.size w1 ((X20.setCell ⟨X19.heap.size, 0, none⟩ (.slice b0 m0 k0)).setCell ⟨X19.heap.size, 1, none⟩ (.slice b1 m1 k1))) := (hb20.setCell hgl _).setCell hgl _
                  have HOL : Hid ((kS rBoard).own ((X20.setCell ⟨X19.heap.size, 0, none⟩ (.slice b0 m0 k0)).setCell ⟨X19.heap.size, 1, none⟩ (.slice b1 m1 k1)) w1.heap.size ((X20.setCell ⟨X19.heap.size, 0, none⟩ (.slice b0 m0 k0)).setCell ⟨X19.heap.size, 1, none⟩ (.slice b1 m1 k1)).heap.size (.agg #[.slice b0 m0 k0, .slice b1 m1 k1]) ⟨d.keys, d.entries ++ [e]⟩) :=
                    (kS rBoard).own_mono ((kS rBoard).own_frame HQ20.out (fun k h1 h2 h3 => by rw [heap_setCell_other _ _ k _ (fun e => by simp at e; omega), heap_setCell_other _ _ k _ (fun e => by simp at e; omega)])) (by omega) (by rw [size_setC, size_setC]; omega)
                  go_meet
                  exact ⟨X19.heap.size, b0, m0, k0, b1, m1, k1, rfl, hgl, HBL.out, (HTL.out.set 0 _).set 1 _, HOL.out⟩
                · skip
                  refine wpV_do (by kernel_rfl) (fun K hK => ?_)
                  go_simp
                  obtain ⟨X21, hc21⟩ : ∃ x, x = X18.alloc (.cells #[.slice none 0 0, .slice none 0 0] 36) := ⟨_, rfl⟩
                  have hd21 : Below X18.heap.size X18 X21 := by rw [hc21]; exact (Below.refl _ _).alloc (Nat.le_refl _) _
                  have hb21 : Below w1.heap.size w1 X21 := hb18.trans (hd21.mono hb18.size)
                  have HF21 := Lib.hid ((Lib.hid HF18.out.more1).out.next hd21)
                  have HS21 := Lib.hid (HS18.out.below hd21)
                  have HT21 : Hid (BoxN X21 X18.heap.size 36 [.slice none 0 0, .slice none 0 0]) := by unfold Hid; rw [hc21]; exact BoxN.new _ _ _
                  rw [← hc21]
                  clear hc21 hd21
                  refine hK.out _ _ ⟨hb21, box_at x0 hb21, box_at x1 hb21, box_at y0 hb21, box_at y1 hb21, box_at y2 hb21, box_at y3 hb21, box_at y4 hb21, box_at y5 hb21⟩ (fun _ => ?_)
                  clear hK K
                  try simp only [Act.put, List.setIfInBounds_toArray, List.set_cons_zero, List.set_cons_succ]
                  refine wpV_do (by kernel_rfl) (fun K hK => ?_)
                  go_simp
                  go_at_call 121
                  have HRDB22 : Hid ((kS rBoard).rd X21 (.agg #[.slice a0 n0 c0, .slice ax18 nx18 cx18]) ⟨d.keys, d.entries ++ [e]⟩) := rdBoard.2 ⟨_, _, _, _, _, _, rfl, HKY.out.below hb21, HF21.out.1.rd hb21⟩
                  refine (spec_oOwn _ ⟨d.keys, d.entries ++ [e]⟩ _ hz1 hz2 HZ3.out HRDB22.out).mono ?_
                  rintro ex X22 ⟨vb22, rfl, hO22, hd22⟩
                  obtain ⟨b0, m0, k0, b1, m1, k1, rfl, _, _⟩ := rdBoard.1 ((kS rBoard).own_rd hO22)
                  have hb22 : Below w1.heap.size w1 X22 := hb21.trans (hd22.mono hb21.size)
                  have hqg22 := HT21.out.lt
                  have HT22 := Lib.hid (HT21.out.below hd22)
                  have HQ22 := Lib.hid hO22
                  have hqs22 := hd22.size
                  have hql22 := hb21.size
                  clear hO22 HRDB22 hd22
                  refine hK.out _ _ ⟨hb22, box_at x0 hb22, box_at x1 hb22, box_at y0 hb22, box_at y1 hb22, box_at y2 hb22, box_at y3 hb22, box_at y4 hb22, box_at y5 hb22⟩ (fun _ => ?_)
                  clear hK K
                  try simp only [Act.put, List.setIfInBounds_toArray, List.set_cons_zero, List.set_cons_succ]
                  have HTL := Lib.hid HT22.out
                  have hgl : w1.heap.size ≤ X18.heap.size := hb18.size
                  have hlt := HT22.out.lt
                  refine wpV_done ?_
                  have fr := fun j => HTL.out.frozen j
                  have r0 := HTL.out.cell (i := 0) rfl
                  have r1 := HTL.out.cell (i := 1) rfl
                  go_wp2_with fail
                  refine NoPanic.normal ?_
                  go_wp2_with fail
                  have HBL : Hid (Below w1.heap.size w1 ((X22.setCell ⟨X18.heap.size, 0, none⟩ (.slice b0 m0 k0)).setCell ⟨X18.heap.size, 1, none⟩ (.slice b1 m1 k1))) := (hb22.setCell hgl _).setCell hgl _
                  have HOL : Hid ((kS rBoard).own ((X22.setCell ⟨X18.heap.size, 0, none⟩ (.slice b0 m0 k0)).setCell ⟨X18.heap.size, 1, none⟩ (.slice b1 m1 k1)) w1.heap.size ((X22.setCell ⟨X18.heap.size, 0, none⟩ (.slice b0 m0 k0)).setCell ⟨X18.heap.size, 1, none⟩ (.slice b1 m1 k1)).heap.size (.agg #[.slice b0 m0 k0, .slice b1 m1 k1]) ⟨d.keys, d.entries ++ [e]⟩) :=
                    (kS rBoard).own_mono ((kS rBoard).own_frame HQ22.out (fun k h1 h2 h3 => by rw [heap_setCell_other _ _ k _ (fun e => by simp at e; omega), heap_setCell_other _ _ k _ (fun e => by simp at e; omega)])) (by omega) (by rw [size_setC, size_setC]; omega)
                  go_meet
                  exact ⟨X18.heap.size, b0, m0, k0, b1, m1, k1, rfl, hgl, HBL.out, (HTL.out.set 0 _).set 1 _, HOL.out⟩
              · skip
                refine wpV_do (by kernel_rfl) (fun K hK => ?_)
                go_simp
                obtain ⟨X23, hc23⟩ : ∃ x, x = X17.alloc (.cells #[.slice none 0 0, .slice none 0 0] 36) := ⟨_, rfl⟩
                have hd23 : Below X17.heap.size X17 X23 := by rw [hc23]; exact (Below.refl _ _).alloc (Nat.le_refl _) _
                have hb23 : Below w1.heap.size w1 X23 := hb17.trans (hd23.mono hb17.size)
                have HF23 := Lib.hid ((Lib.hid HF17.out.more1).out.next hd23)
                have HS23 := Lib.hid (HS17.out.below hd23)
                have HT23 : Hid (BoxN X23 X17.heap.size 36 [.slice none 0 0, .slice none 0 0]) := by unfold Hid; rw [hc23]; exact BoxN.new _ _ _
                rw [← hc23]
                clear hc23 hd23
                refine hK.out _ _ ⟨hb23, box_at x0 hb23, box_at x1 hb23, box_at y0 hb23, box_at y1 hb23, box_at y2 hb23, box_at y3 hb23, box_at y4 hb23, box_at y5 hb23⟩ (fun _ => ?_)
                clear hK K
                try simp only [Act.put, List.setIfInBounds_toArray, List.set_cons_zero, List.set_cons_succ]
                refine wpV_do (by kernel_rfl) (fun K hK => ?_)
                refine oper_append_ApC (d := e) 34 ti (.agg #[.int .i64 0, .int .i64 0, .slice none 0 0, .slice none 0 0, .slice none 0 0, .slice none 0 0]) Try.underlying34 HI.out.1 HI.out.2.1 HI.out.2.2.1 HI.out.2.2.2 rfl (by decide) rfl _ _ rfl HF23.out rfl rfl HS23.out HEE.out hb23 HZN.out (all2 (HS23.out.lt) (HT23.out.lt)) ?_
                intro x24 X24 hF24 hd24 hk24
                have hb24 : Below w1.heap.size w1 X24 := hb23.trans hd24
                have HS24 := Lib.hid (hk24 _ (by simp) _ _ HS23.out)
                have HT24 := Lib.hid (hk24 _ (by simp) _ _ HT23.out)
                obtain ⟨ax24, nx24, cx24, rfl⟩ := (hF24.1.rd hb24).shape
                have HF24 := Lib.hid hF24
                clear hF24 hd24 hk24
                refine hK.out _ _ ⟨hb24, box_at x0 hb24, box_at x1 hb24, box_at y0 hb24, box_at y1 hb24, box_at y2 hb24, box_at y3 hb24, box_at y4 hb24, box_at y5 hb24⟩ (fun _ => ?_)
                clear hK K
                try simp only [Act.put, List.setIfInBounds_toArray, List.set_cons_zero, List.set_cons_succ]
                repeat (refine' wpV_read _ (by kernel_rfl) (fun w' hS' => ?_) ?_; rotate_left; · ((try dsimp only at hS'); go_simp; (try with_reducible rfl)); (try simp only [Act.put, List.setIfInBounds_toArray, List.set_cons_zero, List.set_cons_succ]))
                refine wpV_do (by kernel_rfl) (fun K hK => ?_)
                go_simp
                go_at_call 121
                have HRDB25 : Hid ((kS rBoard).rd X24 (.agg #[.slice a0 n0 c0, .slice ax24 nx24 cx24]) ⟨d.keys, d.entries ++ [e]⟩) := rdBoard.2 ⟨_, _, _, _, _, _, rfl, HKY.out.below hb24, HF24.out.1.rd hb24⟩
                refine (spec_oOwn _ ⟨d.keys, d.entries ++ [e]⟩ _ hz1 hz2 HZ3.out HRDB25.out).mono ?_
                rintro ex X25 ⟨vb25, rfl, hO25, hd25⟩
                obtain ⟨b0, m0, k0, b1, m1, k1, rfl, _, _⟩ := rdBoard.1 ((kS rBoard).own_rd hO25)
                have hb25 : Below w1.heap.size w1 X25 := hb24.trans (hd25.mono hb24.size)
                have hqg25 := HT24.out.lt
                have HT25 := Lib.hid (HT24.out.below hd25)
                have HQ25 := Lib.hid hO25
                have hqs25 := hd25.size
                have hql25 := hb24.size
                clear hO25 HRDB25 hd25
                refine hK.out _ _ ⟨hb25, box_at x0 hb25, box_at x1 hb25, box_at y0 hb25, box_at y1 hb25, box_at y2 hb25, box_at y3 hb25, box_at y4 hb25, box_at y5 hb25⟩ (fun _ => ?_)
                clear hK K
                try simp only [Act.put, List.setIfInBounds_toArray, List.set_cons_zero, List.set_cons_succ]
                have HTL := Lib.hid HT25.out
                have hgl : w1.heap.size ≤ X17.heap.size := hb17.size
                have hlt := HT25.out.lt
                refine wpV_done ?_
                have fr := fun j => HTL.out.frozen j
                have r0 := HTL.out.cell (i := 0) rfl
                have r1 := HTL.out.cell (i := 1) rfl
                go_wp2_with fail
                refine NoPanic.normal ?_
                go_wp2_with fail
                have HBL : Hid (Below w1.heap.size w1 ((X25.setCell ⟨X17.heap.size, 0, none⟩ (.slice b0 m0 k0)).setCell ⟨X17.heap.size, 1, none⟩ (.slice b1 m1 k1))) := (hb25.setCell hgl _).setCell hgl _
                have HOL : Hid ((kS rBoard).own ((X25.setCell ⟨X17.heap.size, 0, none⟩ (.slice b0 m0 k0)).setCell ⟨X17.heap.size, 1, none⟩ (.slice b1 m1 k1)) w1.heap.size ((X25.setCell ⟨X17.heap.size, 0, none⟩ (.slice b0 m0 k0)).setCell ⟨X17.heap.size, 1, none⟩ (.slice b1 m1 k1)).heap.size (.agg #[.slice b0 m0 k0, .slice b1 m1 k1]) ⟨d.keys, d.entries ++ [e]⟩) :=
                  (kS rBoard).own_mono ((kS rBoard).own_frame HQ25.out (fun k h1 h2 h3 => by rw [heap_setCell_other _ _ k _ (fun e => by simp at e; omega), heap_setCell_other _ _ k _ (fun e => by simp at e; omega)])) (by omega) (by rw [size_setC, size_setC]; omega)
                go_meet
                exact ⟨X17.heap.size, b0, m0, k0, b1, m1, k1, rfl, hgl, HBL.out, (HTL.out.set 0 _).set 1 _, HOL.out⟩
            · skip
              refine wpV_do (by kernel_rfl) (fun K hK => ?_)
              go_simp
              obtain ⟨X26, hc26⟩ : ∃ x, x = X16.alloc (.cells #[.slice none 0 0, .slice none 0 0] 36) := ⟨_, rfl⟩
              have hd26 : Below X16.heap.size X16 X26 := by rw [hc26]; exact (Below.refl _ _).alloc (Nat.le_refl _) _
              have hb26 : Below w1.heap.size w1 X26 := hb16.trans (hd26.mono hb16.size)
              have HF26 := Lib.hid ((Lib.hid HF16.out.more1).out.next hd26)
              have HS26 := Lib.hid (HS16.out.below hd26)
              have HT26 : Hid (BoxN X26 X16.heap.size 36 [.slice none 0 0, .slice none 0 0]) := by unfold Hid; rw [hc26]; exact BoxN.new _ _ _
              rw [← hc26]
              clear hc26 hd26
              refine hK.out _ _ ⟨hb26, box_at x0 hb26, box_at x1 hb26, box_at y0 hb26, box_at y1 hb26, box_at y2 hb26, box_at y3 hb26, box_at y4 hb26, box_at y5 hb26⟩ (fun _ => ?_)
              clear hK K
              try simp only [Act.put, List.setIfInBounds_toArray, List.set_cons_zero, List.set_cons_succ]
              refine wpV_do (by kernel_rfl) (fun K hK => ?_)
              refine oper_append_ApD (es := d.entries) 34 ti (.agg #[.int .i64 0, .int .i64 0, .slice none 0 0, .slice none 0 0, .slice none 0 0, .slice none 0 0]) Try.underlying34 HI.out.1 HI.out.2.1 HI.out.2.2.1 HI.out.2.2.2 rfl (by decide) rfl _ _ rfl HF26.out rfl rfl HDE.out hb26 (by have := HZN.out; simp only [List.length_nil]; omega) (all2 (HS26.out.lt) (HT26.out.lt)) ?_
              intro x27 X27 hF27 hd27 hk27
              rw [List.nil_append] at hF27
              have hb27 : Below w1.heap.size w1 X27 := hb26.trans hd27
              have HS27 := Lib.hid (hk27 _ (by simp) _ _ HS26.out)
              have HT27 := Lib.hid (hk27 _ (by simp) _ _ HT26.out)
              obtain ⟨ax27, nx27, cx27, rfl⟩ := (hF27.1.rd hb27).shape
              have HF27 := Lib.hid hF27
              clear hF27 hd27 hk27
              refine hK.out _ _ ⟨hb27, box_at x0 hb27, box_at x1 hb27, box_at y0 hb27, box_at y1 hb27, box_at y2 hb27, box_at y3 hb27, box_at y4 hb27, box_at y5 hb27⟩ (fun _ => ?_)
              clear hK K
              try simp only [Act.put, List.setIfInBounds_toArray, List.set_cons_zero, List.set_cons_succ]
              refine wpV_do (by kernel_rfl) (fun K hK => ?_)
              refine oper_append_ApC (d := e) 34 ti (.agg #[.int .i64 0, .int .i64 0, .slice none 0 0, .slice none 0 0, .slice none 0 0, .slice none 0 0]) Try.underlying34 HI.out.1 HI.out.2.1 HI.out.2.2.1 HI.out.2.2.2 rfl (by decide) rfl _ _ rfl HF27.out rfl rfl HS27.out HEE.out hb27 HZN.out (all2 (HS27.out.lt) (HT27.out.lt)) ?_
              intro x28 X28 hF28 hd28 hk28
              have hb28 : Below w1.heap.size w1 X28 := hb27.trans hd28
              have HS28 := Lib.hid (hk28 _ (by simp) _ _ HS27.out)
              have HT28 := Lib.hid (hk28 _ (by simp) _ _ HT27.out)
              obtain ⟨ax28, nx28, cx28, rfl⟩ := (hF28.1.rd hb28).shape
              have HF28 := Lib.hid hF28
              clear hF28 hd28 hk28
              refine hK.out _ _ ⟨hb28, box_at x0 hb28, box_at x1 hb28, box_at y0 hb28, box_at y1 hb28, box_at y2 hb28, box_at y3 hb28, box_at y4 hb28, box_at y5 hb28⟩ (fun _ => ?_)
              clear hK K
              try simp only [Act.put, List.setIfInBounds_toArray, List.set_cons_zero, List.set_cons_succ]
              repeat (refine' wpV_read _ (by kernel_rfl) (fun w' hS' => ?_) ?_; rotate_left; · ((try dsimp only at hS'); go_simp; (try with_reducible rfl)); (try simp only [Act.put, List.setIfInBounds_toArray, List.set_cons_zero, List.set_cons_succ]))
              refine wpV_do (by kernel_rfl) (fun K hK => ?_)
              go_simp
              go_at_call 121
              have HRDB29 : Hid ((kS rBoard).rd X28 (.agg #[.slice a0 n0 c0, .slice ax28 nx28 cx28]) ⟨d.keys, d.entries ++ [e]⟩) := rdBoard.2 ⟨_, _, _, _, _, _, rfl, HKY.out.below hb28, HF28.out.1.rd hb28⟩
              refine (spec_oOwn _ ⟨d.keys, d.entries ++ [e]⟩ _ hz1 hz2 HZ3.out HRDB29.out).mono ?_
              rintro ex X29 ⟨vb29, rfl, hO29, hd29⟩
              obtain ⟨b0, m0, k0, b1, m1, k1, rfl, _, _⟩ := rdBoard.1 ((kS rBoard).own_rd hO29)
              have hb29 : Below w1.heap.size w1 X29 := hb28.trans (hd29.mono hb28.size)
              have hqg29 := HT28.out.lt
              have HT29 := Lib.hid (HT28.out.below hd29)
              have HQ29 := Lib.hid hO29
              have hqs29 := hd29.size
              have hql29 := hb28.size
              clear hO29 HRDB29 hd29
              refine hK.out _ _ ⟨hb29, box_at x0 hb29, box_at x1 hb29, box_at y0 hb29, box_at y1 hb29, box_at y2 hb29, box_at y3 hb29, box_at y4 hb29, box_at y5 hb29⟩ (fun _ => ?_)
              clear hK K
              try simp only [Act.put, List.setIfInBounds_toArray, List.set_cons_zero, List.set_cons_succ]
              have HTL := Lib.hid HT29.out
              have hgl : w1.heap.size ≤ X16.heap.size := hb16.size
              have hlt := HT29.out.lt
              refine wpV_done ?_
              have fr := fun j => HTL.out.frozen j
              have r0 := HTL.out.cell (i := 0) rfl
              have r1 := HTL.out.cell (i := 1) rfl
              go_wp2_with fail
              refine NoPanic.normal ?_
              go_wp2_with fail
              have HBL : Hid (Below w1.heap.size w1 ((X29.setCell ⟨X16.heap.size, 0, none⟩ (.slice b0 m0 k0)).setCell ⟨X16.heap.size, 1, none⟩ (.slice b1 m1 k1))) := (hb29.setCell hgl _).setCell hgl _
              have HOL : Hid ((kS rBoard).own ((X29.setCell ⟨X16.heap.size, 0, none⟩ (.slice b0 m0 k0)).setCell ⟨X16.heap.size, 1, none⟩ (.slice b1 m1 k1)) w1.heap.size ((X29.setCell ⟨X16.heap.size, 0, none⟩ (.slice b0 m0 k0)).setCell ⟨X16.heap.size, 1, none⟩ (.slice b1 m1 k1)).heap.size (.agg #[.slice b0 m0 k0, .slice b1 m1 k1]) ⟨d.keys, d.entries ++ [e]⟩) :=
                (kS rBoard).own_mono ((kS rBoard).own_frame HQ29.out (fun k h1 h2 h3 => by rw [heap_setCell_other _ _ k _ (fun e => by simp at e; omega), heap_setCell_other _ _ k _ (fun e => by simp at e; omega)])) (by omega) (by rw [size_setC, size_setC]; omega)
              go_meet
              exact ⟨X16.heap.size, b0, m0, k0, b1, m1, k1, rfl, hgl, HBL.out, (HTL.out.set 0 _).set 1 _, HOL.out⟩
          · skip
            refine wpV_do (by kernel_rfl) (fun K hK => ?_)
            go_simp
            obtain ⟨X30, hc30⟩ : ∃ x, x = X1.alloc (.cells #[.slice none 0 0, .slice none 0 0] 36) := ⟨_, rfl⟩
            have hd30 : Below X1.heap.size X1 X30 := by rw [hc30]; exact (Below.refl _ _).alloc (Nat.le_refl _) _
            have hb30 : Below w1.heap.size w1 X30 := hb1.trans (hd30.mono hb1.size)
            have HF30 := Lib.hid ((Lib.hid HF1.out.moreL).out.next hd30)
            have HT30 : Hid (BoxN X30 X1.heap.size 36 [.slice none 0 0, .slice none 0 0]) := by unfold Hid; rw [hc30]; exact BoxN.new _ _ _
            rw [← hc30]
            clear hc30 hd30
            refine hK.out _ _ ⟨hb30, box_at x0 hb30, box_at x1 hb30, box_at y0 hb30, box_at y1 hb30, box_at y2 hb30, box_at y3 hb30, box_at y4 hb30, box_at y5 hb30⟩ (fun _ => ?_)
            clear hK K
            try simp only [Act.put, List.setIfInBounds_toArray, List.set_cons_zero, List.set_cons_succ]
            refine wpV_or (by kernel_rfl) (fun K hK => ?_) ?_
            · skip
              refine oper_append_ApD (es := d.entries) 34 ti (.agg #[.int .i64 0, .int .i64 0, .slice none 0 0, .slice none 0 0, .slice none 0 0, .slice none 0 0]) Try.underlying34 HI.out.1 HI.out.2.1 HI.out.2.2.1 HI.out.2.2.2 rfl (by decide) rfl _ _ rfl HF30.out rfl rfl HDE.out hb30 (by have := HZN.out; simp only [List.length_nil]; omega) (all1 (HT30.out.lt)) ?_
              intro x31 X31 hF31 hd31 hk31
              rw [List.nil_append] at hF31
              have hb31 : Below w1.heap.size w1 X31 := hb30.trans hd31
              have HT31 := Lib.hid (hk31 _ (by simp) _ _ HT30.out)
              obtain ⟨ax31, nx31, cx31, rfl⟩ := (hF31.1.rd hb31).shape
              have HF31 := Lib.hid hF31
              clear hF31 hd31 hk31
              refine hK.out _ _ ⟨hb31, box_at x0 hb31, box_at x1 hb31, box_at y0 hb31, box_at y1 hb31, box_at y2 hb31, box_at y3 hb31, box_at y4 hb31, box_at y5 hb31⟩ (fun _ => ?_)
              clear hK K
              try simp only [Act.put, List.setIfInBounds_toArray, List.set_cons_zero, List.set_cons_succ]
              refine wpV_do (by kernel_rfl) (fun K hK => ?_)
              go_simp
              obtain ⟨X32, hc32⟩ : ∃ x, x = X31.alloc (.cells #[.int .i64 e.kind, .int .i64 e.author, .slice a2 n2 c2, .slice a3 n3 c3, .slice a4 n4 c4, .slice a5 n5 c5] 44) := ⟨_, rfl⟩
              have hd32 : Below X31.heap.size X31 X32 := by rw [hc32]; exact (Below.refl _ _).alloc (Nat.le_refl _) _
              have hb32 : Below w1.heap.size w1 X32 := hb31.trans (hd32.mono hb31.size)
              have HF32 := Lib.hid ((Lib.hid HF31.out.more2).out.next hd32)
              have HT32 := Lib.hid (HT31.out.below hd32)
              have HS32 : Hid (BoxN X32 X31.heap.size 44 [.int .i64 e.kind, .int .i64 e.author, .slice a2 n2 c2, .slice a3 n3 c3, .slice a4 n4 c4, .slice a5 n5 c5]) := by unfold Hid; rw [hc32]; exact BoxN.new _ _ _
              rw [← hc32]
              clear hc32 hd32
              refine hK.out _ _ ⟨hb32, box_at x0 hb32, box_at x1 hb32, box_at y0 hb32, box_at y1 hb32, box_at y2 hb32, box_at y3 hb32, box_at y4 hb32, box_at y5 hb32⟩ (fun _ => ?_)
              clear hK K
              try simp only [Act.put, List.setIfInBounds_toArray, List.set_cons_zero, List.set_cons_succ]
              refine wpV_do (by kernel_rfl) (fun K hK => ?_)
              refine oper_append_ApC (d := e) 34 ti (.agg #[.int .i64 0, .int .i64 0, .slice none 0 0, .slice none 0 0, .slice none 0 0, .slice none 0 0]) Try.underlying34 HI.out.1 HI.out.2.1 HI.out.2.2.1 HI.out.2.2.2 rfl (by decide) rfl _ _ rfl HF32.out rfl rfl HS32.out HEE.out hb32 HZN.out (all2 (HS32.out.lt) (HT32.out.lt)) ?_
              intro x33 X33 hF33 hd33 hk33
              have hb33 : Below w1.heap.size w1 X33 := hb32.trans hd33
              have HS33 := Lib.hid (hk33 _ (by simp) _ _ HS32.out)
              have HT33 := Lib.hid (hk33 _ (by simp) _ _ HT32.out)
              obtain ⟨ax33, nx33, cx33, rfl⟩ := (hF33.1.rd hb33).shape
              have HF33 := Lib.hid hF33
              clear hF33 hd33 hk33
              refine hK.out _ _ ⟨hb33, box_at x0 hb33, box_at x1 hb33, box_at y0 hb33, box_at y1 hb33, box_at y2 hb33, box_at y3 hb33, box_at y4 hb33, box_at y5 hb33⟩ (fun _ => ?_)
              clear hK K
              try simp only [Act.put, List.setIfInBounds_toArray, List.set_cons_zero, List.set_cons_succ]
              repeat (refine' wpV_read _ (by kernel_rfl) (fun w' hS' => ?_) ?_; rotate_left; · ((try dsimp only at hS'); go_simp; (try with_reducible rfl)); (try simp only [Act.put, List.setIfInBounds_toArray, List.set_cons_zero, List.set_cons_succ]))
              refine wpV_do (by kernel_rfl) (fun K hK => ?_)
              go_simp
              go_at_call 121
              have HRDB34 : Hid ((kS rBoard).rd X33 (.agg #[.slice a0 n0 c0, .slice ax33 nx33 cx33]) ⟨d.keys, d.entries ++ [e]⟩) := rdBoard.2 ⟨_, _, _, _, _, _, rfl, HKY.out.below hb33, HF33.out.1.rd hb33⟩
              refine (spec_oOwn _ ⟨d.keys, d.entries ++ [e]⟩ _ hz1 hz2 HZ3.out HRDB34.out).mono ?_
              rintro ex X34 ⟨vb34, rfl, hO34, hd34⟩
              obtain ⟨b0, m0, k0, b1, m1, k1, rfl, _, _⟩ := rdBoard.1 ((kS rBoard).own_rd hO34)
              have hb34 : Below w1.heap.size w1 X34 := hb33.trans (hd34.mono hb33.size)
              have hqg34 := HT33.out.lt
              have HT34 := Lib.hid (HT33.out.below hd34)
              have HQ34 := Lib.hid hO34
              have hqs34 := hd34.size
              have hql34 := hb33.size
              clear hO34 HRDB34 hd34
              refine hK.out _ _ ⟨hb34, box_at x0 hb34, box_at x1 hb34, box_at y0 hb34, box_at y1 hb34, box_at y2 hb34, box_at y3 hb34, box_at y4 hb34, box_at y5 hb34⟩ (fun _ => ?_)
              clear hK K
              try simp only [Act.put, List.setIfInBounds_toArray, List.set_cons_zero, List.set_cons_succ]
              have HTL := Lib.hid HT34.out
              have hgl : w1.heap.size ≤ X1.heap.size := hb1.size
              have hlt := HT34.out.lt
              refine wpV_done ?_
              have fr := fun j => HTL.out.frozen j
              have r0 := HTL.out.cell (i := 0) rfl
              have r1 := HTL.out.cell (i := 1) rfl
              go_wp2_with fail
              refine NoPanic.normal ?_
              go_wp2_with fail
              have HBL : Hid (Below w1.heap.size w1 ((X34.setCell ⟨X1.heap.size, 0, none⟩ (.slice b0 m0 k0)).setCell ⟨X1.heap.size, 1, none⟩ (.slice b1 m1 k1))) := (hb34.setCell hgl _).setCell hgl _
              have HOL : Hid ((kS rBoard).own ((X34.setCell ⟨X1.heap.size, 0, none⟩ (.slice b0 m0 k0)).setCell ⟨X1.heap.size, 1, none⟩ (.slice b1 m1 k1)) w1.heap.size ((X34.setCell ⟨X1.heap.size, 0, none⟩ (.slice b0 m0 k0)).setCell ⟨X1.heap.size, 1, none⟩ (.slice b1 m1 k1)).heap.size (.agg #[.slice b0 m0 k0, .slice b1 m1 k1]) ⟨d.keys, d.entries ++ [e]⟩) :=
                (kS rBoard).own_mono ((kS rBoard).own_frame HQ34.out (fun k h1 h2 h3 => by rw [heap_setCell_other _ _ k _ (fun e => by simp at e; omega), heap_setCell_other _ _ k _ (fun e => by simp at e; omega)])) (by omega) (by rw [size_setC, size_setC]; omega)
              go_meet
              exact ⟨X1.heap.size, b0, m0, k0, b1, m1, k1, rfl, hgl, HBL.out, (HTL.out.set 0 _).set 1 _, HOL.out⟩
            · skip
              refine wpV_do (by kernel_rfl) (fun K hK => ?_)
              go_simp
              obtain ⟨X35, hc35⟩ : ∃ x, x = X30.alloc (.cells #[.int .i64 e.kind, .int .i64 e.author, .slice a2 n2 c2, .slice a3 n3 c3, .slice a4 n4 c4, .slice a5 n5 c5] 44) := ⟨_, rfl⟩
              have hd35 : Below X30.heap.size X30 X35 := by rw [hc35]; exact (Below.refl _ _).alloc (Nat.le_refl _) _
              have hb35 : Below w1.heap.size w1 X35 := hb30.trans (hd35.mono hb30.size)
              have HF35 := Lib.hid ((Lib.hid HF30.out.more2).out.next hd35)
              have HT35 := Lib.hid (HT30.out.below hd35)
              have HS35 : Hid (BoxN X35 X30.heap.size 44 [.int .i64 e.kind, .int .i64 e.author, .slice a2 n2 c2, .slice a3 n3 c3, .slice a4 n4 c4, .slice a5 n5 c5]) := by unfold Hid; rw [hc35]; exact BoxN.new _ _ _
              rw [← hc35]
              clear hc35 hd35
              refine hK.out _ _ ⟨hb35, box_at x0 hb35, box_at x1 hb35, box_at y0 hb35, box_at y1 hb35, box_at y2 hb35, box_at y3 hb35, box_at y4 hb35, box_at y5 hb35⟩ (fun _ => ?_)
              clear hK K
              try simp only [Act.put, List.setIfInBounds_toArray, List.set_cons_zero, List.set_cons_succ]
              refine wpV_do (by kernel_rfl) (fun K hK => ?_)
              refine oper_append_ApD (es := d.entries) 34 ti (.agg #[.int .i64 0, .int .i64 0, .slice none 0 0, .slice none 0 0, .slice none 0 0, .slice none 0 0]) Try.underlying34 HI.out.1 HI.out.2.1 HI.out.2.2.1 HI.out.2.2.2 rfl (by decide) rfl _ _ rfl HF35.out rfl rfl HDE.out hb35 (by have := HZN.out; simp only [List.length_nil]; omega) (all2 (HS35.out.lt) (HT35.out.lt)) ?_
              intro x36 X36 hF36 hd36 hk36
              rw [List.nil_append] at hF36
              have hb36 : Below w1.heap.size w1 X36 := hb35.trans hd36
              have HS36 := Lib.hid (hk36 _ (by simp) _ _ HS35.out)
              have HT36 := Lib.hid (hk36 _ (by simp) _ _ HT35.out)
              obtain ⟨ax36, nx36, cx36, rfl⟩ := (hF36.1.rd hb36).shape
              have HF36 := Lib.hid hF36
              clear hF36 hd36 hk36
              refine hK.out _ _ ⟨hb36, box_at x0 hb36, box_at x1 hb36, box_at y0 hb36, box_at y1 hb36, box_at y2 hb36, box_at y3 hb36, box_at y4 hb36, box_at y5 hb36⟩ (fun _ => ?_)
              clear hK K
              try simp only [Act.put, List.setIfInBounds_toArray, List.set_cons_zero, List.set_cons_succ]
              refine wpV_do (by kernel_rfl) (fun K hK => ?_)
              refine oper_append_ApC (d := e) 34 ti (.agg #[.int .i64 0, .int .i64 0, .slice none 0 0, .slice none 0 0, .slice none 0 0, .slice none 0 0]) Try.underlying34 HI.out.1 HI.out.2.1 HI.out.2.2.1 HI.out.2.2.2 rfl (by decide) rfl _ _ rfl HF36.out rfl rfl HS36.out HEE.out hb36 HZN.out (all2 (HS36.out.lt) (HT36.out.lt)) ?_
              intro x37 X37 hF37 hd37 hk37
              have hb37 : Below w1.heap.size w1 X37 := hb36.trans hd37
              have HS37 := Lib.hid (hk37 _ (by simp) _ _ HS36.out)
              have HT37 := Lib.hid (hk37 _ (by simp) _ _ HT36.out)
              obtain ⟨ax37, nx37, cx37, rfl⟩ := (hF37.1.rd hb37).shape
              have HF37 := Lib.hid hF37
              clear hF37 hd37 hk37
              refine hK.out _ _ ⟨hb37, box_at x0 hb37, box_at x1 hb37, box_at y0 hb37, box_at y1 hb37, box_at y2 hb37, box_at y3 hb37, box_at y4 hb37, box_at y5 hb37⟩ (fun _ => ?_)
              clear hK K
              try simp only [Act.put, List.setIfInBounds_toArray, List.set_cons_zero, List.set_cons_succ]
              repeat (refine' wpV_read _ (by kernel_rfl) (fun w' hS' => ?_) ?_; rotate_left; · ((try dsimp only at hS'); go_simp; (try with_reducible rfl)); (try simp only [Act.put, List.setIfInBounds_toArray, List.set_cons_zero, List.set_cons_succ]))
              refine wpV_do (by kernel_rfl) (fun K hK => ?_)
              go_simp
              go_at_call 121
              have HRDB38 : Hid ((kS rBoard).rd X37 (.agg #[.slice a0 n0 c0, .slice ax37 nx37 cx37]) ⟨d.keys, d.entries ++ [e]⟩) := rdBoard.2 ⟨_, _, _, _, _, _, rfl, HKY.out.below hb37, HF37.out.1.rd hb37⟩
              refine (spec_oOwn _ ⟨d.keys, d.entries ++ [e]⟩ _ hz1 hz2 HZ3.out HRDB38.out).mono ?_
              rintro ex X38 ⟨vb38, rfl, hO38, hd38⟩
              obtain ⟨b0, m0, k0, b1, m1, k1, rfl, _, _⟩ := rdBoard.1 ((kS rBoard).own_rd hO38)
              have hb38 : Below w1.heap.size w1 X38 := hb37.trans (hd38.mono hb37.size)
              have hqg38 := HT37.out.lt
              have HT38 := Lib.hid (HT37.out.below hd38)
              have HQ38 := Lib.hid hO38
              have hqs38 := hd38.size
              have hql38 := hb37.size
              clear hO38 HRDB38 hd38
              refine hK.out _ _ ⟨hb38, box_at x0 hb38, box_at x1 hb38, box_at y0 hb38, box_at y1 hb38, box_at y2 hb38, box_at y3 hb38, box_at y4 hb38, box_at y5 hb38⟩ (fun _ => ?_)
              clear hK K
              try simp only [Act.put, List.setIfInBounds_toArray, List.set_cons_zero, List.set_cons_succ]
              have HTL := Lib.hid HT38.out
              have hgl : w1.heap.size ≤ X1.heap.size := hb1.size
              have hlt := HT38.out.lt
              refine wpV_done ?_
              have fr := fun j => HTL.out.frozen j
              have r0 := HTL.out.cell (i := 0) rfl
              have r1 := HTL.out.cell (i := 1) rfl
              go_wp2_with fail
              refine NoPanic.normal ?_
              go_wp2_with fail
              have HBL : Hid (Below w1.heap.size w1 ((X38.setCell ⟨X1.heap.size, 0, none⟩ (.slice b0 m0 k0)).setCell ⟨X1.heap.size, 1, none⟩ (.slice b1 m1 k1))) := (hb38.setCell hgl _).setCell hgl _
              have HOL : Hid ((kS rBoard).own ((X38.setCell ⟨X1.heap.size, 0, none⟩ (.slice b0 m0 k0)).setCell ⟨X1.heap.size, 1, none⟩ (.slice b1 m1 k1)) w1.heap.size ((X38.setCell ⟨X1.heap.size, 0, none⟩ (.slice b0 m0 k0)).setCell ⟨X1.heap.size, 1, none⟩ (.slice b1 m1 k1)).heap.size (.agg #[.slice b0 m0 k0, .slice b1 m1 k1]) ⟨d.keys, d.entries ++ [e]⟩) :=
                (kS rBoard).own_mono ((kS rBoard).own_frame HQ38.out (fun k h1 h2 h3 => by rw [heap_setCell_other _ _ k _ (fun e => by simp at e; omega), heap_setCell_other _ _ k _ (fun e => by simp at e; omega)])) (by omega) (by rw [size_setC, size_setC]; omega)
              go_meet
              exact ⟨X1.heap.size, b0, m0, k0, b1, m1, k1, rfl, hgl, HBL.out, (HTL.out.set 0 _).set 1 _, HOL.out⟩
      · skip
        refine wpV_or (by kernel_rfl) (fun K hK => ?_) ?_
        · skip
          go_simp
          obtain ⟨X39, hc39⟩ : ∃ x, x = X0.alloc (.cells #[.int .i64 e.kind, .int .i64 e.author, .slice a2 n2 c2, .slice a3 n3 c3, .slice a4 n4 c4, .slice a5 n5 c5] 44) := ⟨_, rfl⟩
          have hd39 : Below X0.heap.size X0 X39 := by rw [hc39]; exact (Below.refl _ _).alloc (Nat.le_refl _) _
          have hb39 : Below w1.heap.size w1 X39 := hb0.trans (hd39.mono hb0.size)
          have HS39 : Hid (BoxN X39 X0.heap.size 44 [.int .i64 e.kind, .int .i64 e.author, .slice a2 n2 c2, .slice a3 n3 c3, .slice a4 n4 c4, .slice a5 n5 c5]) := by unfold Hid; rw [hc39]; exact BoxN.new _ _ _
          rw [← hc39]
          clear hc39 hd39
          refine hK.out _ _ ⟨hb39, box_at x0 hb39, box_at x1 hb39, box_at y0 hb39, box_at y1 hb39, box_at y2 hb39, box_at y3 hb39, box_at y4 hb39, box_at y5 hb39⟩ (fun _ => ?_)
          clear hK K
          try simp only [Act.put, List.setIfInBounds_toArray, List.set_cons_zero, List.set_cons_succ]
          refine wpV_or (by kernel_rfl) (fun K hK => ?_) ?_
          · skip
            go_simp
            obtain ⟨X40, hc40⟩ : ∃ x, x = X39.alloc (.cells #[] 44) := ⟨_, rfl⟩
            have hd40 : Below X39.heap.size X39 X40 := by rw [hc40]; exact (Below.refl _ _).alloc (Nat.le_refl _) _
            have hb40 : Below w1.heap.size w1 X40 := hb39.trans (hd40.mono hb39.size)
            have HS40 := Lib.hid (HS39.out.below hd40)
            have HF40 : Hid (ApF w1 X40 (.slice (some ⟨X39.heap.size, 0, none⟩) 0 0) [] [X0.heap.size]) := by unfold Hid; rw [hc40]; exact ApF.new hb39.size (all1 (HS39.out.lt))
            rw [← hc40]
            clear hc40 hd40
            refine hK.out _ _ ⟨hb40, box_at x0 hb40, box_at x1 hb40, box_at y0 hb40, box_at y1 hb40, box_at y2 hb40, box_at y3 hb40, box_at y4 hb40, box_at y5 hb40⟩ (fun _ => ?_)
            clear hK K
            try simp only [Act.put, List.setIfInBounds_toArray, List.set_cons_zero, List.set_cons_succ]
            refine wpV_or (by kernel_rfl) (fun K hK => ?_) ?_
            · skip
              refine oper_append_ApD (es := d.entries) 34 ti (.agg #[.int .i64 0, .int .i64 0, .slice none 0 0, .slice none 0 0, .slice none 0 0, .slice none 0 0]) Try.underlying34 HI.out.1 HI.out.2.1 HI.out.2.2.1 HI.out.2.2.2 rfl (by decide) rfl _ _ rfl HF40.out rfl rfl HDE.out hb40 (by have := HZN.out; simp only [List.length_nil]; omega) (all1 (HS40.out.lt)) ?_
              intro x41 X41 hF41 hd41 hk41
              rw [List.nil_append] at hF41
              have hb41 : Below w1.heap.size w1 X41 := hb40.trans hd41
              have HS41 := Lib.hid (hk41 _ (by simp) _ _ HS40.out)
              obtain ⟨ax41, nx41, cx41, rfl⟩ := (hF41.1.rd hb41).shape
              have HF41 := Lib.hid hF41
              clear hF41 hd41 hk41
              refine hK.out _ _ ⟨hb41, box_at x0 hb41, box_at x1 hb41, box_at y0 hb41, box_at y1 hb41, box_at y2 hb41, box_at y3 hb41, box_at y4 hb41, box_at y5 hb41⟩ (fun _ => ?_)
              clear hK K
              try simp only [Act.put, List.setIfInBounds_toArray, List.set_cons_zero, List.set_cons_succ]
              refine wpV_or (by kernel_rfl) (fun K hK => ?_) ?_
              · skip
                refine oper_append_ApC (d := e) 34 ti (.agg #[.int .i64 0, .int .i64 0, .slice none 0 0, .slice none 0 0, .slice none 0 0, .slice none 0 0]) Try.underlying34 HI.out.1 HI.out.2.1 HI.out.2.2.1 HI.out.2.2.2 rfl (by decide) rfl _ _ rfl HF41.out rfl rfl HS41.out HEE.out hb41 HZN.out (all1 (HS41.out.lt)) ?_
                intro x42 X42 hF42 hd42 hk42
                have hb42 : Below w1.heap.size w1 X42 := hb41.trans hd42
                have HS42 := Lib.hid (hk42 _ (by simp) _ _ HS41.out)
                obtain ⟨ax42, nx42, cx42, rfl⟩ := (hF42.1.rd hb42).shape
                have HF42 := Lib.hid hF42
                clear hF42 hd42 hk42
                refine hK.out _ _ ⟨hb42, box_at x0 hb42, box_at x1 hb42, box_at y0 hb42, box_at y1 hb42, box_at y2 hb42, box_at y3 hb42, box_at y4 hb42, box_at y5 hb42⟩ (fun _ => ?_)
                clear hK K
                try simp only [Act.put, List.setIfInBounds_toArray, List.set_cons_zero, List.set_cons_succ]
                repeat (refine' wpV_read _ (by kernel_rfl) (fun w' hS' => ?_) ?_; rotate_left; · ((try dsimp only at hS'); go_simp; (try with_reducible rfl)); (try simp only [Act.put, List.setIfInBounds_toArray, List.set_cons_zero, List.set_cons_succ]))
                refine wpV_or (by kernel_rfl) (fun K hK => ?_) ?_
                · skip
                  go_simp
                  go_at_call 121
                  have HRDB43 : Hid ((kS rBoard).rd X42 (.agg #[.slice a0 n0 c0, .slice ax42 nx42 cx42]) ⟨d.keys, d.entries ++ [e]⟩) := rdBoard.2 ⟨_, _, _, _, _, _, rfl, HKY.out.below hb42, HF42.out.1.rd hb42⟩
                  refine (spec_oOwn _ ⟨d.keys, d.entries ++ [e]⟩ _ hz1 hz2 HZ3.out HRDB43.out).mono ?_
                  rintro ex X43 ⟨vb43, rfl, hO43, hd43⟩
                  obtain ⟨b0, m0, k0, b1, m1, k1, rfl, _, _⟩ := rdBoard.1 ((kS rBoard).own_rd hO43)
                  have hb43 : Below w1.heap.size w1 X43 := hb42.trans (hd43.mono hb42.size)
                  have HQ43 := Lib.hid hO43
                  have hqs43 := hd43.size
                  have hql43 := hb42.size
                  clear hO43 HRDB43 hd43
                  refine hK.out _ _ ⟨hb43, box_at x0 hb43, box_at x1 hb43, box_at y0 hb43, box_at y1 hb43, box_at y2 hb43, box_at y3 hb43, box_at y4 hb43, box_at y5 hb43⟩ (fun _ => ?_)
                  clear hK K
                  try simp only [Act.put, List.setIfInBounds_toArray, List.set_cons_zero, List.set_cons_succ]
                  refine wpV_do (by kernel_rfl) (fun K hK => ?_)
                  go_simp
                  obtain ⟨X44, hc44⟩ : ∃ x, x = X43.alloc (.cells #[.slice none 0 0, .slice none 0 0] 36) := ⟨_, rfl⟩
                  have hd44 : Below X43.heap.size X43 X44 := by rw [hc44]; exact (Below.refl _ _).alloc (Nat.le_refl _) _
                  have hb44 : Below w1.heap.size w1 X44 := hb43.trans (hd44.mono hb43.size)
                  have HQ44 := Lib.hid ((kS rBoard).next HQ43.out hd44)
                  have hqs44 := (hd44).size
                  have HT44 : Hid (BoxN X44 X43.heap.size 36 [.slice none 0 0, .slice none 0 0]) := by unfold Hid; rw [hc44]; exact BoxN.new _ _ _
                  rw [← hc44]
                  clear hc44 hd44
                  refine hK.out _ _ ⟨hb44, box_at x0 hb44, box_at x1 hb44, box_at y0 hb44, box_at y1 hb44, box_at y2 hb44, box_at y3 hb44, box_at y4 hb44, box_at y5 hb44⟩ (fun _ => ?_)
                  clear hK K
                  try simp only [Act.put, List.setIfInBounds_toArray, List.set_cons_zero, List.set_cons_succ]
                  have HTL := Lib.hid HT44.out
                  have hgl : w1.heap.size ≤ X43.heap.size := hb43.size
                  have hlt := HT44.out.lt
                  refine wpV_done ?_
                  have fr := fun j => HTL.out.frozen j
                  have r0 := HTL.out.cell (i := 0) rfl
                  have r1 := HTL.out.cell (i := 1) rfl
                  go_wp2_with fail
                  refine NoPanic.normal ?_
                  go_wp2_with fail
                  have HBL : Hid (Below w1.heap.size w1 ((X44.setCell ⟨X43.heap.size, 0, none⟩ (.slice b0 m0 k0)).setCell ⟨X43.heap.size, 1, none⟩ (.slice b1 m1 k1))) := (hb44.setCell hgl _).setCell hgl _
                  have HOL : Hid ((kS rBoard).own ((X44.setCell ⟨X43.heap.size, 0, none⟩ (.slice b0 m0 k0)).setCell ⟨X43.heap.size, 1, none⟩ (.slice b1 m1 k1)) w1.heap.size ((X44.setCell ⟨X43.heap.size, 0, none⟩ (.slice b0 m0 k0)).setCell ⟨X43.heap.size, 1, none⟩ (.slice b1 m1 k1)).heap.size (.agg #[.slice b0 m0 k0, .slice b1 m1 k1]) ⟨d.keys, d.entries ++ [e]⟩) :=
                    (kS rBoard).own_mono ((kS rBoard).own_frame HQ44.out (fun k h1 h2 h3 => by rw [heap_setCell_other _ _ k _ (fun e => by simp at e; omega), heap_setCell_other _ _ k _ (fun e => by simp at e; omega)])) (by omega) (by rw [size_setC, size_setC]; omega)
                  go_meet
                  exact ⟨X43.heap.size, b0, m0, k0, b1, m1, k1, rfl, hgl, HBL.out, (HTL.out.set 0 _).set 1 _, HOL.out⟩
                · skip
                  refine wpV_do (by kernel_rfl) (fun K hK => ?_)
                  go_simp
                  obtain ⟨X45, hc45⟩ : ∃ x, x = X42.alloc (.cells #[.slice none 0 0, .slice none 0 0] 36) := ⟨_, rfl⟩
                  have hd45 : Below X42.heap.size X42 X45 := by rw [hc45]; exact (Below.refl _ _).alloc (Nat.le_refl _) _
                  have hb45 : Below w1.heap.size w1 X45 := hb42.trans (hd45.mono hb42.size)
                  have HF45 := Lib.hid ((Lib.hid HF42.out.more1).out.next hd45)
                  have HS45 := Lib.hid (HS42.out.below hd45)
                  have HT45 : Hid (BoxN X45 X42.heap.size 36 [.slice none 0 0, .slice none 0 0]) := by unfold Hid; rw [hc45]; exact BoxN.new _ _ _
                  rw [← hc45]
                  clear hc45 hd45
                  refine hK.out _ _ ⟨hb45, box_at x0 hb45, box_at x1 hb45, box_at y0 hb45, box_at y1 hb45, box_at y2 hb45, box_at y3 hb45, box_at y4 hb45, box_at y5 hb45⟩ (fun _ => ?_)
                  clear hK K
                  try simp only [Act.put, List.setIfInBounds_toArray, List.set_cons_zero, List.set_cons_succ]
                  refine wpV_do (by kernel_rfl) (fun K hK => ?_)
                  go_simp
                  go_at_call 121
                  have HRDB46 : Hid ((kS rBoard).rd X45 (.agg #[.slice a0 n0 c0, .slice ax42 nx42 cx42]) ⟨d.keys, d.entries ++ [e]⟩) := rdBoard.2 ⟨_, _, _, _, _, _, rfl, HKY.out.below hb45, HF45.out.1.rd hb45⟩
                  refine (spec_oOwn _ ⟨d.keys, d.entries ++ [e]⟩ _ hz1 hz2 HZ3.out HRDB46.out).mono ?_
                  rintro ex X46 ⟨vb46, rfl, hO46, hd46⟩
                  obtain ⟨b0, m0, k0, b1, m1, k1, rfl, _, _⟩ := rdBoard.1 ((kS rBoard).own_rd hO46)
                  have hb46 : Below w1.heap.size w1 X46 := hb45.trans (hd46.mono hb45.size)
                  have hqg46 := HT45.out.lt
                  have HT46 := Lib.hid (HT45.out.below hd46)
                  have HQ46 := Lib.hid hO46
                  have hqs46 := hd46.size
                  have hql46 := hb45.size
                  clear hO46 HRDB46 hd46
                  refine hK.out _ _ ⟨hb46, box_at x0 hb46, box_at x1 hb46, box_at y0 hb46, box_at y1 hb46, box_at y2 hb46, box_at y3 hb46, box_at y4 hb46, box_at y5 hb46⟩ (fun _ => ?_)
                  clear hK K
                  try simp only [Act.put, List.setIfInBounds_toArray, List.set_cons_zero, List.set_cons_succ]
                  have HTL := Lib.hid HT46.out
                  have hgl : w1.heap.size ≤ X42.heap.size := hb42.size
                  have hlt := HT46.out.lt
                  refine wpV_done ?_
                  have fr := fun j => HTL.out.frozen j
                  have r0 := HTL.out.cell (i := 0) rfl
                  have r1 := HTL.out.cell (i := 1) rfl
                  go_wp2_with fail
                  refine NoPanic.normal ?_
                  go_wp2_with fail
                  have HBL : Hid (Below w1.heap.size w1 ((X46.setCell ⟨X42.heap.size, 0, none⟩ (.slice b0 m0 k0)).setCell ⟨X42.heap.size, 1, none⟩ (.slice b1 m1 k1))) := (hb46.setCell hgl _).setCell hgl _
                  have HOL : Hid ((kS rBoard).own ((X46.setCell ⟨X42.heap.size, 0, none⟩ (.slice b0 m0 k0)).setCell ⟨X42.heap.size, 1, none⟩ (.slice b1 m1 k1)) w1.heap.size ((X46.setCell ⟨X42.heap.size, 0, none⟩ (.slice b0 m0 k0)).setCell ⟨X42.heap.size, 1, none⟩ (.slice b1 m1 k1)).heap.size (.agg #[.slice b0 m0 k0, .slice b1 m1 k1]) ⟨d.keys, d.entries ++ [e]⟩) :=
                    (kS rBoard).own_mono ((kS rBoard).own_frame HQ46.out (fun k h1 h2 h3 => by rw [heap_setCell_other _ _ k _ (fun e => by simp at e; omega), heap_setCell_other _ _ k _ (fun e => by simp at e; omega)])) (by omega) (by rw [size_setC, size_setC]; omega)
                  go_meet
                  exact ⟨X42.heap.size, b0, m0, k0, b1, m1, k1, rfl, hgl, HBL.out, (HTL.out.set 0 _).set 1 _, HOL.out⟩
              · skip
                refine wpV_do (by kernel_rfl) (fun K hK => ?_)
                go_simp
                obtain ⟨X47, hc47⟩ : ∃ x, x = X41.alloc (.cells #[.slice none 0 0, .slice none 0 0] 36) := ⟨_, rfl⟩
                have hd47 : Below X41.heap.size X41 X47 := by rw [hc47]; exact (Below.refl _ _).alloc (Nat.le_refl _) _
                have hb47 : Below w1.heap.size w1 X47 := hb41.trans (hd47.mono hb41.size)
                have HF47 := Lib.hid ((Lib.hid HF41.out.more1).out.next hd47)
                have HS47 := Lib.hid (HS41.out.below hd47)
                have HT47 : Hid (BoxN X47 X41.heap.size 36 [.slice none 0 0, .slice none 0 0]) := by unfold Hid; rw [hc47]; exact BoxN.new _ _ _
                rw [← hc47]
                clear hc47 hd47
                refine hK.out _ _ ⟨hb47, box_at x0 hb47, box_at x1 hb47, box_at y0 hb47, box_at y1 hb47, box_at y2 hb47, box_at y3 hb47, box_at y4 hb47, box_at y5 hb47⟩ (fun _ => ?_)
                clear hK K
                try simp only [Act.put, List.setIfInBounds_toArray, List.set_cons_zero, List.set_cons_succ]
                refine wpV_do (by kernel_rfl) (fun K hK => ?_)
                refine oper_append_ApC (d := e) 34 ti (.agg #[.int .i64 0, .int .i64 0, .slice none 0 0, .slice none 0 0, .slice none 0 0, .slice none 0 0]) Try.underlying34 HI.out.1 HI.out.2.1 HI.out.2.2.1 HI.out.2.2.2 rfl (by decide) rfl _ _ rfl HF47.out rfl rfl HS47.out HEE.out hb47 HZN.out (all2 (HS47.out.lt) (HT47.out.lt)) ?_
                intro x48 X48 hF48 hd48 hk48
                have hb48 : Below w1.heap.size w1 X48 := hb47.trans hd48
                have HS48 := Lib.hid (hk48 _ (by simp) _ _ HS47.out)
                have HT48 := Lib.hid (hk48 _ (by simp) _ _ HT47.out)
                obtain ⟨ax48, nx48, cx48, rfl⟩ := (hF48.1.rd hb48).shape
                have HF48 := Lib.hid hF48
                clear hF48 hd48 hk48
                refine hK.out _ _ ⟨hb48, box_at x0 hb48, box_at x1 hb48, box_at y0 hb48, box_at y1 hb48, box_at y2 hb48, box_at y3 hb48, box_at y4 hb48, box_at y5 hb48⟩ (fun _ => ?_)
                clear hK K
                try simp only [Act.put, List.setIfInBounds_toArray, List.set_cons_zero, List.set_cons_succ]
                repeat (refine' wpV_read _ (by kernel_rfl) (fun w' hS' => ?_) ?_; rotate_left; · ((try dsimp only at hS'); go_simp; (try with_reducible rfl)); (try simp only [Act.put, List.setIfInBounds_toArray, List.set_cons_zero, List.set_cons_succ]))
                refine wpV_do (by kernel_rfl) (fun K hK => ?_)
                go_simp
                go_at_call 121
                have HRDB49 : Hid ((kS rBoard).rd X48 (.agg #[.slice a0 n0 c0, .slice ax48 nx48 cx48]) ⟨d.keys, d.entries ++ [e]⟩) := rdBoard.2 ⟨_, _, _, _, _, _, rfl, HKY.out.below hb48, HF48.out.1.rd hb48⟩
                refine (spec_oOwn _ ⟨d.keys, d.entries ++ [e]⟩ _ hz1 hz2 HZ3.out HRDB49.out).mono ?_
                rintro ex X49 ⟨vb49, rfl, hO49, hd49⟩
                obtain ⟨b0, m0, k0, b1, m1, k1, rfl, _, _⟩ := rdBoard.1 ((kS rBoard).own_rd hO49)
                have hb49 : Below w1.heap.size w1 X49 := hb48.trans (hd49.mono hb48.size)
                have hqg49 := HT48.out.lt
                have HT49 := Lib.hid (HT48.out.below hd49)
                have HQ49 := Lib.hid hO49
                have hqs49 := hd49.size
                have hql49 := hb48.size
                clear hO49 HRDB49 hd49
                refine hK.out _ _ ⟨hb49, box_at x0 hb49, box_at x1 hb49, box_at y0 hb49, box_at y1 hb49, box_at y2 hb49, box_at y3 hb49, box_at y4 hb49, box_at y5 hb49⟩ (fun _ => ?_)
                clear hK K
                try simp only [Act.put, List.setIfInBounds_toArray, List.set_cons_zero, List.set_cons_succ]
                have HTL := Lib.hid HT49.out
                have hgl : w1.heap.size ≤ X41.heap.size := hb41.size
                have hlt := HT49.out.lt
                refine wpV_done ?_
                have fr := fun j => HTL.out.frozen j
                have r0 := HTL.out.cell (i := 0) rfl
                have r1 := HTL.out.cell (i := 1) rfl
                go_wp2_with fail
                refine NoPanic.normal ?_
                go_wp2_with fail
                have HBL : Hid (Below w1.heap.size w1 ((X49.setCell ⟨X41.heap.size, 0, none⟩ (.slice b0 m0 k0)).setCell ⟨X41.heap.size, 1, none⟩ (.slice b1 m1 k1))) := (hb49.setCell hgl _).setCell hgl _
                have HOL : Hid ((kS rBoard).own ((X49.setCell ⟨X41.heap.size, 0, none⟩ (.slice b0 m0 k0)).setCell ⟨X41.heap.size, 1, none⟩ (.slice b1 m1 k1)) w1.heap.size ((X49.setCell ⟨X41.heap.size, 0, none⟩ (.slice b0 m0 k0)).setCell ⟨X41.heap.size, 1, none⟩ (.slice b1 m1 k1)).heap.size (.agg #[.slice b0 m0 k0, .slice b1 m1 k1]) ⟨d.keys, d.entries ++ [e]⟩) :=
                  (kS rBoard).own_mono ((kS rBoard).own_frame HQ49.out (fun k h1 h2 h3 => by rw [heap_setCell_other _ _ k _ (fun e => by simp at e; omega), heap_setCell_other _ _ k _ (fun e => by simp at e; omega)])) (by omega) (by rw [size_setC, size_setC]; omega)
                go_meet
                exact ⟨X41.heap.size, b0, m0, k0, b1, m1, k1, rfl, hgl, HBL.out, (HTL.out.set 0 _).set 1 _, HOL.out⟩
            · skip
              refine wpV_do (by kernel_rfl) (fun K hK => ?_)
              go_simp
              obtain ⟨X50, hc50⟩ : ∃ x, x = X40.alloc (.cells #[.slice none 0 0, .slice none 0 0] 36) := ⟨_, rfl⟩
              have hd50 : Below X40.heap.size X40 X50 := by rw [hc50]; exact (Below.refl _ _).alloc (Nat.le_refl _) _
              have hb50 : Below w1.heap.size w1 X50 := hb40.trans (hd50.mono hb40.size)
              have HF50 := Lib.hid ((Lib.hid HF40.out.more1).out.next hd50)
              have HS50 := Lib.hid (HS40.out.below hd50)
              have HT50 : Hid (BoxN X50 X40.heap.size 36 [.slice none 0 0, .slice none 0 0]) := by unfold Hid; rw [hc50]; exact BoxN.new _ _ _
              rw [← hc50]
              clear hc50 hd50
              refine hK.out _ _ ⟨hb50, box_at x0 hb50, box_at x1 hb50, box_at y0 hb50, box_at y1 hb50, box_at y2 hb50, box_at y3 hb50, box_at y4 hb50, box_at y5 hb50⟩ (fun _ => ?_)
              clear hK K
              try simp only [Act.put, List.setIfInBounds_toArray, List.set_cons_zero, List.set_cons_succ]
              refine wpV_do (by kernel_rfl) (fun K hK => ?_)
              refine oper_append_ApD (es := d.entries) 34 ti (.agg #[.int .i64 0, .int .i64 0, .slice none 0 0, .slice none 0 0, .slice none 0 0, .slice none 0 0]) Try.underlying34 HI.out.1 HI.out.2.1 HI.out.2.2.1 HI.out.2.2.2 rfl (by decide) rfl _ _ rfl HF50.out rfl rfl HDE.out hb50 (by have := HZN.out; simp only [List.length_nil]; omega) (all2 (HS50.out.lt) (HT50.out.lt)) ?_
              intro x51 X51 hF51 hd51 hk51
              rw [List.nil_append] at hF51
              have hb51 : Below w1.heap.size w1 X51 := hb50.trans hd51
              have HS51 := Lib.hid (hk51 _ (by simp) _ _ HS50.out)
              have HT51 := Lib.hid (hk51 _ (by simp) _ _ HT50.out)
              obtain ⟨ax51, nx51, cx51, rfl⟩ := (hF51.1.rd hb51).shape
              have HF51 := Lib.hid hF51
              clear hF51 hd51 hk51
              refine hK.out _ _ ⟨hb51, box_at x0 hb51, box_at x1 hb51, box_at y0 hb51, box_at y1 hb51, box_at y2 hb51, box_at y3 hb51, box_at y4 hb51, box_at y5 hb51⟩ (fun _ => ?_)
              clear hK K
              try simp only [Act.put, List.setIfInBounds_toArray, List.set_cons_zero, List.set_cons_succ]
              refine wpV_do (by kernel_rfl) (fun K hK => ?_)
              refine oper_append_ApC (d := e) 34 ti (.agg #[.int .i64 0, .int .i64 0, .slice none 0 0, .slice none 0 0, .slice none 0 0, .slice none 0 0]) Try.underlying34 HI.out.1 HI.out.2.1 HI.out.2.2.1 HI.out.2.2.2 rfl (by decide) rfl _ _ rfl HF51.out rfl rfl HS51.out HEE.out hb51 HZN.out (all2 (HS51.out.lt) (HT51.out.lt)) ?_
              intro x52 X52 hF52 hd52 hk52
              have hb52 : Below w1.heap.size w1 X52 := hb51.trans hd52
              have HS52 := Lib.hid (hk52 _ (by simp) _ _ HS51.out)
              have HT52 := Lib.hid (hk52 _ (by simp) _ _ HT51.out)
              obtain ⟨ax52, nx52, cx52, rfl⟩ := (hF52.1.rd hb52).shape
              have HF52 := Lib.hid hF52
              clear hF52 hd52 hk52
              refine hK.out _ _ ⟨hb52, box_at x0 hb52, box_at x1 hb52, box_at y0 hb52, box_at y1 hb52, box_at y2 hb52, box_at y3 hb52, box_at y4 hb52, box_at y5 hb52⟩ (fun _ => ?_)
              clear hK K
              try simp only [Act.put, List.setIfInBounds_toArray, List.set_cons_zero, List.set_cons_succ]
              repeat (refine' wpV_read _ (by kernel_rfl) (fun w' hS' => ?_) ?_; rotate_left; · ((try dsimp only at hS'); go_simp; (try with_reducible rfl)); (try simp only [Act.put, List.setIfInBounds_toArray, List.set_cons_zero, List.set_cons_succ]))
              refine wpV_do (by kernel_rfl) (fun K hK => ?_)
              go_simp
              go_at_call 121
              have HRDB53 : Hid ((kS rBoard).rd X52 (.agg #[.slice a0 n0 c0, .slice ax52 nx52 cx52]) ⟨d.keys, d.entries ++ [e]⟩) := rdBoard.2 ⟨_, _, _, _, _, _, rfl, HKY.out.below hb52, HF52.out.1.rd hb52⟩
              refine (spec_oOwn _ ⟨d.keys, d.entries ++ [e]⟩ _ hz1 hz2 HZ3.out HRDB53.out).mono ?_
              rintro ex X53 ⟨vb53, rfl, hO53, hd53⟩
              obtain ⟨b0, m0, k0, b1, m1, k1, rfl, _, _⟩ := rdBoard.1 ((kS rBoard).own_rd hO53)
              have hb53 : Below w1.heap.size w1 X53 := hb52.trans (hd53.mono hb52.size)
              have hqg53 := HT52.out.lt
              have HT53 := Lib.hid (HT52.out.below hd53)
              have HQ53 := Lib.hid hO53
              have hqs53 := hd53.size
              have hql53 := hb52.size
              clear hO53 HRDB53 hd53
              refine hK.out _ _ ⟨hb53, box_at x0 hb53, box_at x1 hb53, box_at y0 hb53, box_at y1 hb53, box_at y2 hb53, box_at y3 hb53, box_at y4 hb53, box_at y5 hb53⟩ (fun _ => ?_)
              clear hK K
              try simp only [Act.put, List.setIfInBounds_toArray, List.set_cons_zero, List.set_cons_succ]
              have HTL := Lib.hid HT53.out
              have hgl : w1.heap.size ≤ X40.heap.size := hb40.size
              have hlt := HT53.out.lt
              refine wpV_done ?_
              have fr := fun j => HTL.out.frozen j
              have r0 := HTL.out.cell (i := 0) rfl
              have r1 := HTL.out.cell (i := 1) rfl
              go_wp2_with fail
              refine NoPanic.normal ?_
              go_wp2_with fail
              have HBL : Hid (Below w1.heap.size w1 ((X53.setCell ⟨X40.heap.size, 0, none⟩ (.slice b0 m0 k0)).setCell ⟨X40.heap.size, 1, none⟩ (.slice b1 m1 k1))) := (hb53.setCell hgl _).setCell hgl _
              have HOL : Hid ((kS rBoard).own ((X53.setCell ⟨X40.heap.size, 0, none⟩ (.slice b0 m0 k0)).setCell ⟨X40.heap.size, 1, none⟩ (.slice b1 m1 k1)) w1.heap.size ((X53.setCell ⟨X40.heap.size, 0, none⟩ (.slice b0 m0 k0)).setCell ⟨X40.heap.size, 1, none⟩ (.slice b1 m1 k1)).heap.size (.agg #[.slice b0 m0 k0, .slice b1 m1 k1]) ⟨d.keys, d.entries ++ [e]⟩) :=
                (kS rBoard).own_mono ((kS rBoard).own_frame HQ53.out (fun k h1 h2 h3 => by rw [heap_setCell_other _ _ k _ (fun e => by simp at e; omega), heap_setCell_other _ _ k _ (fun e => by simp at e; omega)])) (by omega) (by rw [size_setC, size_setC]; omega)
              go_meet
              exact ⟨X40.heap.size, b0, m0, k0, b1, m1, k1, rfl, hgl, HBL.out, (HTL.out.set 0 _).set 1 _, HOL.out⟩
          · skip
            refine wpV_do (by kernel_rfl) (fun K hK => ?_)
            go_simp
            obtain ⟨X54, hc54⟩ : ∃ x, x = X39.alloc (.cells #[.slice none 0 0, .slice none 0 0] 36) := ⟨_, rfl⟩
            have hd54 : Below X39.heap.size X39 X54 := by rw [hc54]; exact (Below.refl _ _).alloc (Nat.le_refl _) _
            have hb54 : Below w1.heap.size w1 X54 := hb39.trans (hd54.mono hb39.size)
            have HS54 := Lib.hid (HS39.out.below hd54)
            have HT54 : Hid (BoxN X54 X39.heap.size 36 [.slice none 0 0, .slice none 0 0]) := by unfold Hid; rw [hc54]; exact BoxN.new _ _ _
            rw [← hc54]
            clear hc54 hd54
            refine hK.out _ _ ⟨hb54, box_at x0 hb54, box_at x1 hb54, box_at y0 hb54, box_at y1 hb54, box_at y2 hb54, box_at y3 hb54, box_at y4 hb54, box_at y5 hb54⟩ (fun _ => ?_)
            clear hK K
            try simp only [Act.put, List.setIfInBounds_toArray, List.set_cons_zero, List.set_cons_succ]
            refine wpV_do (by kernel_rfl) (fun K hK => ?_)
            go_simp
            obtain ⟨X55, hc55⟩ : ∃ x, x = X54.alloc (.cells #[] 44) := ⟨_, rfl⟩
            have hd55 : Below X54.heap.size X54 X55 := by rw [hc55]; exact (Below.refl _ _).alloc (Nat.le_refl _) _
            have hb55 : Below w1.heap.size w1 X55 := hb54.trans (hd55.mono hb54.size)
            have HS55 := Lib.hid (HS54.out.below hd55)
            have HT55 := Lib.hid (HT54.out.below hd55)
            have HF55 : Hid (ApF w1 X55 (.slice (some ⟨X54.heap.size, 0, none⟩) 0 0) [] [X0.heap.size, X39.heap.size]) := by unfold Hid; rw [hc55]; exact ApF.new hb54.size (all2 (HS54.out.lt) (HT54.out.lt))
            rw [← hc55]
            clear hc55 hd55
            refine hK.out _ _ ⟨hb55, box_at x0 hb55, box_at x1 hb55, box_at y0 hb55, box_at y1 hb55, box_at y2 hb55, box_at y3 hb55, box_at y4 hb55, box_at y5 hb55⟩ (fun _ => ?_)
            clear hK K
            try simp only [Act.put, List.setIfInBounds_toArray, List.set_cons_zero, List.set_cons_succ]
            refine wpV_do (by kernel_rfl) (fun K hK => ?_)
            refine oper_append_ApD (es := d.entries) 34 ti (.agg #[.int .i64 0, .int .i64 0, .slice none 0 0, .slice none 0 0, .slice none 0 0, .slice none 0 0]) Try.underlying34 HI.out.1 HI.out.2.1 HI.out.2.2.1 HI.out.2.2.2 rfl (by decide) rfl _ _ rfl HF55.out rfl rfl HDE.out hb55 (by have := HZN.out; simp only [List.length_nil]; omega) (all2 (HS55.out.lt) (HT55.out.lt)) ?_
            intro x56 X56 hF56 hd56 hk56
            rw [List.nil_append] at hF56
            have hb56 : Below w1.heap.size w1 X56 := hb55.trans hd56
            have HS56 := Lib.hid (hk56 _ (by simp) _ _ HS55.out)
            have HT56 := Lib.hid (hk56 _ (by simp) _ _ HT55.out)
            obtain ⟨ax56, nx56, cx56, rfl⟩ := (hF56.1.rd hb56).shape
            have HF56 := Lib.hid hF56
            clear hF56 hd56 hk56
            refine hK.out _ _ ⟨hb56, box_at x0 hb56, box_at x1 hb56, box_at y0 hb56, box_at y1 hb56, box_at y2 hb56, box_at y3 hb56, box_at y4 hb56, box_at y5 hb56⟩ (fun _ => ?_)
            clear hK K
            try simp only [Act.put, List.setIfInBounds_toArray, List.set_cons_zero, List.set_cons_succ]
            refine wpV_do (by kernel_rfl) (fun K hK => ?_)
            refine oper_append_ApC (d := e) 34 ti (.agg #[.int .i64 0, .int .i64 0, .slice none 0 0, .slice none 0 0, .slice none 0 0, .slice none 0 0]) Try.underlying34 HI.out.1 HI.out.2.1 HI.out.2.2.1 HI.out.2.2.2 rfl (by decide) rfl _ _ rfl HF56.out rfl rfl HS56.out HEE.out hb56 HZN.out (all2 (HS56.out.lt) (HT56.out.lt)) ?_
            intro x57 X57 hF57 hd57 hk57
            have hb57 : Below w1.heap.size w1 X57 := hb56.trans hd57
            have HS57 := Lib.hid (hk57 _ (by simp) _ _ HS56.out)
            have HT57 := Lib.hid (hk57 _ (by simp) _ _ HT56.out)
            obtain ⟨ax57, nx57, cx57, rfl⟩ := (hF57.1.rd hb57).shape
            have HF57 := Lib.hid hF57
            clear hF57 hd57 hk57
            refine hK.out _ _ ⟨hb57, box_at x0 hb57, box_at x1 hb57, box_at y0 hb57, box_at y1 hb57, box_at y2 hb57, box_at y3 hb57, box_at y4 hb57, box_at y5 hb57⟩ (fun _ => ?_)
            clear hK K
            try simp only [Act.put, List.setIfInBounds_toArray, List.set_cons_zero, List.set_cons_succ]
            repeat (refine' wpV_read _ (by kernel_rfl) (fun w' hS' => ?_) ?_; rotate_left; · ((try dsimp only at hS'); go_simp; (try with_reducible rfl)); (try simp only [Act.put, List.setIfInBounds_toArray, List.set_cons_zero, List.set_cons_succ]))
            refine wpV_do (by kernel_rfl) (fun K hK => ?_)
            go_simp
            go_at_call 121
            have HRDB58 : Hid ((kS rBoard).rd X57 (.agg #[.slice a0 n0 c0, .slice ax57 nx57 cx57]) ⟨d.keys, d.entries ++ [e]⟩) := rdBoard.2 ⟨_, _, _, _, _, _, rfl, HKY.out.below hb57, HF57.out.1.rd hb57⟩
            refine (spec_oOwn _ ⟨d.keys, d.entries ++ [e]⟩ _ hz1 hz2 HZ3.out HRDB58.out).mono ?_
            rintro ex X58 ⟨vb58, rfl, hO58, hd58⟩
            obtain ⟨b0, m0, k0, b1, m1, k1, rfl, _, _⟩ := rdBoard.1 ((kS rBoard).own_rd hO58)
            have hb58 : Below w1.heap.size w1 X58 := hb57.trans (hd58.mono hb57.size)
            have hqg58 := HT57.out.lt
            have HT58 := Lib.hid (HT57.out.below hd58)
            have HQ58 := Lib.hid hO58
            have hqs58 := hd58.size
            have hql58 := hb57.size
            clear hO58 HRDB58 hd58
            refine hK.out _ _ ⟨hb58, box_at x0 hb58, box_at x1 hb58, box_at y0 hb58, box_at y1 hb58, box_at y2 hb58, box_at y3 hb58, box_at y4 hb58, box_at y5 hb58⟩ (fun _ => ?_)
            clear hK K
            try simp only [Act.put, List.setIfInBounds_toArray, List.set_cons_zero, List.set_cons_succ]
            have HTL := Lib.hid HT58.out
            have hgl : w1.heap.size ≤ X39.heap.size := hb39.size
            have hlt := HT58.out.lt
            refine wpV_done ?_
            have fr := fun j => HTL.out.frozen j
            have r0 := HTL.out.cell (i := 0) rfl
            have r1 := HTL.out.cell (i := 1) rfl
            go_wp2_with fail
            refine NoPanic.normal ?_
            go_wp2_with fail
            have HBL : Hid (Below w1.heap.size w1 ((X58.setCell ⟨X39.heap.size, 0, none⟩ (.slice b0 m0 k0)).setCell ⟨X39.heap.size, 1, none⟩ (.slice b1 m1 k1))) := (hb58.setCell hgl _).setCell hgl _
            have HOL : Hid ((kS rBoard).own ((X58.setCell ⟨X39.heap.size, 0, none⟩ (.slice b0 m0 k0)).setCell ⟨X39.heap.size, 1, none⟩ (.slice b1 m1 k1)) w1.heap.size ((X58.setCell ⟨X39.heap.size, 0, none⟩ (.slice b0 m0 k0)).setCell ⟨X39.heap.size, 1, none⟩ (.slice b1 m1 k1)).heap.size (.agg #[.slice b0 m0 k0, .slice b1 m1 k1]) ⟨d.keys, d.entries ++ [e]⟩) :=
              (kS rBoard).own_mono ((kS rBoard).own_frame HQ58.out (fun k h1 h2 h3 => by rw [heap_setCell_other _ _ k _ (fun e => by simp at e; omega), heap_setCell_other _ _ k _ (fun e => by simp at e; omega)])) (by omega) (by rw [size_setC, size_setC]; omega)
            go_meet
            exact ⟨X39.heap.size, b0, m0, k0, b1, m1, k1, rfl, hgl, HBL.out, (HTL.out.set 0 _).set 1 _, HOL.out⟩
        · skip
          refine wpV_do (by kernel_rfl) (fun K hK => ?_)
          go_simp
          obtain ⟨X59, hc59⟩ : ∃ x, x = X0.alloc (.cells #[.slice none 0 0, .slice none 0 0] 36) := ⟨_, rfl⟩
          have hd59 : Below X0.heap.size X0 X59 := by rw [hc59]; exact (Below.refl _ _).alloc (Nat.le_refl _) _
          have hb59 : Below w1.heap.size w1 X59 := hb0.trans (hd59.mono hb0.size)
          have HT59 : Hid (BoxN X59 X0.heap.size 36 [.slice none 0 0, .slice none 0 0]) := by unfold Hid; rw [hc59]; exact BoxN.new _ _ _
          rw [← hc59]
          clear hc59 hd59
          refine hK.out _ _ ⟨hb59, box_at x0 hb59, box_at x1 hb59, box_at y0 hb59, box_at y1 hb59, box_at y2 hb59, box_at y3 hb59, box_at y4 hb59, box_at y5 hb59⟩ (fun _ => ?_)
          clear hK K
          try simp only [Act.put, List.setIfInBounds_toArray, List.set_cons_zero, List.set_cons_succ]
          refine wpV_or (by kernel_rfl) (fun K hK => ?_) ?_
          · skip
            go_simp
            obtain ⟨X60, hc60⟩ : ∃ x, x = X59.alloc (.cells #[] 44) := ⟨_, rfl⟩
            have hd60 : Below X59.heap.size X59 X60 := by rw [hc60]; exact (Below.refl _ _).alloc (Nat.le_refl _) _
            have hb60 : Below w1.heap.size w1 X60 := hb59.trans (hd60.mono hb59.size)
            have HT60 := Lib.hid (HT59.out.below hd60)
            have HF60 : Hid (ApF w1 X60 (.slice (some ⟨X59.heap.size, 0, none⟩) 0 0) [] [X0.heap.size]) := by unfold Hid; rw [hc60]; exact ApF.new hb59.size (all1 (HT59.out.lt))
            rw [← hc60]
            clear hc60 hd60
            refine hK.out _ _ ⟨hb60, box_at x0 hb60, box_at x1 hb60, box_at y0 hb60, box_at y1 hb60, box_at y2 hb60, box_at y3 hb60, box_at y4 hb60, box_at y5 hb60⟩ (fun _ => ?_)
            clear hK K
            try simp only [Act.put, List.setIfInBounds_toArray, List.set_cons_zero, List.set_cons_succ]
            refine wpV_or (by kernel_rfl) (fun K hK => ?_) ?_
            · skip
              refine oper_append_ApD (es := d.entries) 34 ti (.agg #[.int .i64 0, .int .i64 0, .slice none 0 0, .slice none 0 0, .slice none 0 0, .slice none 0 0]) Try.underlying34 HI.out.1 HI.out.2.1 HI.out.2.2.1 HI.out.2.2.2 rfl (by decide) rfl _ _ rfl HF60.out rfl rfl HDE.out hb60 (by have := HZN.out; simp only [List.length_nil]; omega) (all1 (HT60.out.lt)) ?_
              intro x61 X61 hF61 hd61 hk61
              rw [List.nil_append] at hF61
              have hb61 : Below w1.heap.size w1 X61 := hb60.trans hd61
              have HT61 := Lib.hid (hk61 _ (by simp) _ _ HT60.out)
              obtain ⟨ax61, nx61, cx61, rfl⟩ := (hF61.1.rd hb61).shape
              have HF61 := Lib.hid hF61
              clear hF61 hd61 hk61
              refine hK.out _ _ ⟨hb61, box_at x0 hb61, box_at x1 hb61, box_at y0 hb61, box_at y1 hb61, box_at y2 hb61, box_at y3 hb61, box_at y4 hb61, box_at y5 hb61⟩ (fun _ => ?_)
              clear hK K
              try simp only [Act.put, List.setIfInBounds_toArray, List.set_cons_zero, List.set_cons_succ]
              refine wpV_do (by kernel_rfl) (fun K hK => ?_)
              go_simp
              obtain ⟨X62, hc62⟩ : ∃ x, x = X61.alloc (.cells #[.int .i64 e.kind, .int .i64 e.author, .slice a2 n2 c2, .slice a3 n3 c3, .slice a4 n4 c4, .slice a5 n5 c5] 44) := ⟨_, rfl⟩
              have hd62 : Below X61.heap.size X61 X62 := by rw [hc62]; exact (Below.refl _ _).alloc (Nat.le_refl _) _
              have hb62 : Below w1.heap.size w1 X62 := hb61.trans (hd62.mono hb61.size)
              have HF62 := Lib.hid ((Lib.hid HF61.out.more2).out.next hd62)
              have HT62 := Lib.hid (HT61.out.below hd62)
              have HS62 : Hid (BoxN X62 X61.heap.size 44 [.int .i64 e.kind, .int .i64 e.author, .slice a2 n2 c2, .slice a3 n3 c3, .slice a4 n4 c4, .slice a5 n5 c5]) := by unfold Hid; rw [hc62]; exact BoxN.new _ _ _
              rw [← hc62]
              clear hc62 hd62
              refine hK.out _ _ ⟨hb62, box_at x0 hb62, box_at x1 hb62, box_at y0 hb62, box_at y1 hb62, box_at y2 hb62, box_at y3 hb62, box_at y4 hb62, box_at y5 hb62⟩ (fun _ => ?_)
              clear hK K
              try simp only [Act.put, List.setIfInBounds_toArray, List.set_cons_zero, List.set_cons_succ]
              refine wpV_do (by kernel_rfl) (fun K hK => ?_)
              refine oper_append_ApC (d := e) 34 ti (.agg #[.int .i64 0, .int .i64 0, .slice none 0 0, .slice none 0 0, .slice none 0 0, .slice none 0 0]) Try.underlying34 HI.out.1 HI.out.2.1 HI.out.2.2.1 HI.out.2.2.2 rfl (by decide) rfl _ _ rfl HF62.out rfl rfl HS62.out HEE.out hb62 HZN.out (all2 (HS62.out.lt) (HT62.out.lt)) ?_
              intro x63 X63 hF63 hd63 hk63
              have hb63 : Below w1.heap.size w1 X63 := hb62.trans hd63
              have HS63 := Lib.hid (hk63 _ (by simp) _ _ HS62.out)
              have HT63 := Lib.hid (hk63 _ (by simp) _ _ HT62.out)
              obtain ⟨ax63, nx63, cx63, rfl⟩ := (hF63.1.rd hb63).shape
              have HF63 := Lib.hid hF63
              clear hF63 hd63 hk63
              refine hK.out _ _ ⟨hb63, box_at x0 hb63, box_at x1 hb63, box_at y0 hb63, box_at y1 hb63, box_at y2 hb63, box_at y3 hb63, box_at y4 hb63, box_at y5 hb63⟩ (fun _ => ?_)
              clear hK K
              try simp only [Act.put, List.setIfInBounds_toArray, List.set_cons_zero, List.set_cons_succ]
              repeat (refine' wpV_read _ (by kernel_rfl) (fun w' hS' => ?_) ?_; rotate_left; · ((try dsimp only at hS'); go_simp; (try with_reducible rfl)); (try simp only [Act.put, List.setIfInBounds_toArray, List.set_cons_zero, List.set_cons_succ]))
              refine wpV_do (by kernel_rfl) (fun K hK => ?_)
              go_simp
              go_at_call 121
              have HRDB64 : Hid ((kS rBoard).rd X63 (.agg #[.slice a0 n0 c0, .slice ax63 nx63 cx63]) ⟨d.keys, d.entries ++ [e]⟩) := rdBoard.2 ⟨_, _, _, _, _, _, rfl, HKY.out.below hb63, HF63.out.1.rd hb63⟩
              refine (spec_oOwn _ ⟨d.keys, d.entries ++ [e]⟩ _ hz1 hz2 HZ3.out HRDB64.out).mono ?_
              rintro ex X64 ⟨vb64, rfl, hO64, hd64⟩
              obtain ⟨b0, m0, k0, b1, m1, k1, rfl, _, _⟩ := rdBoard.1 ((kS rBoard).own_rd hO64)
              have hb64 : Below w1.heap.size w1 X64 := hb63.trans (hd64.mono hb63.size)
              have hqg64 := HT63.out.lt
              have HT64 := Lib.hid (HT63.out.below hd64)
              have HQ64 := Lib.hid hO64
              have hqs64 := hd64.size
              have hql64 := hb63.size
              clear hO64 HRDB64 hd64
              refine hK.out _ _ ⟨hb64, box_at x0 hb64, box_at x1 hb64, box_at y0 hb64, box_at y1 hb64, box_at y2 hb64, box_at y3 hb64, box_at y4 hb64, box_at y5 hb64⟩ (fun _ => ?_)
              clear hK K
              try simp only [Act.put, List.setIfInBounds_toArray, List.set_cons_zero, List.set_cons_succ]
              have HTL := Lib.hid HT64.out
              have hgl : w1.heap.size ≤ X0.heap.size := hb0.size
              have hlt := HT64.out.lt
              refine wpV_done ?_
              have fr := fun j => HTL.out.frozen j
              have r0 := HTL.out.cell (i := 0) rfl
              have r1 := HTL.out.cell (i := 1) rfl
              go_wp2_with fail
              refine NoPanic.normal ?_
              go_wp2_with fail
              have HBL : Hid (Below w1.heap.size w1 ((X64.setCell ⟨X0.heap.size, 0, none⟩ (.slice b0 m0 k0)).setCell ⟨X0.heap.size, 1, none⟩ (.slice b1 m1 k1))) := (hb64.setCell hgl _).setCell hgl _
              have HOL : Hid ((kS rBoard).own ((X64.setCell ⟨X0.heap.size, 0, none⟩ (.slice b0 m0 k0)).setCell ⟨X0.heap.size, 1, none⟩ (.slice b1 m1 k1)) w1.heap.size ((X64.setCell ⟨X0.heap.size, 0, none⟩ (.slice b0 m0 k0)).setCell ⟨X0.heap.size, 1, none⟩ (.slice b1 m1 k1)).heap.size (.agg #[.slice b0 m0 k0, .slice b1 m1 k1]) ⟨d.keys, d.entries ++ [e]⟩) :=
                (kS rBoard).own_mono ((kS rBoard).own_frame HQ64.out (fun k h1 h2 h3 => by rw [heap_setCell_other _ _ k _ (fun e => by simp at e; omega), heap_setCell_other _ _ k _ (fun e => by simp at e; omega)])) (by omega) (by rw [size_setC, size_setC]; omega)
              go_meet
              exact ⟨X0.heap.size, b0, m0, k0, b1, m1, k1, rfl, hgl, HBL.out, (HTL.out.set 0 _).set 1 _, HOL.out⟩
            · skip
              refine wpV_do (by kernel_rfl) (fun K hK => ?_)
              go_simp
              obtain ⟨X65, hc65⟩ : ∃ x, x = X60.alloc (.cells #[.int .i64 e.kind, .int .i64 e.author, .slice a2 n2 c2, .slice a3 n3 c3, .slice a4 n4 c4, .slice a5 n5 c5] 44) := ⟨_, rfl⟩
              have hd65 : Below X60.heap.size X60 X65 := by rw [hc65]; exact (Below.refl _ _).alloc (Nat.le_refl _) _
              have hb65 : Below w1.heap.size w1 X65 := hb60.trans (hd65.mono hb60.size)
              have HF65 := Lib.hid ((Lib.hid HF60.out.more2).out.next hd65)
              have HT65 := Lib.hid (HT60.out.below hd65)
              have HS65 : Hid (BoxN X65 X60.heap.size 44 [.int .i64 e.kind, .int .i64 e.author, .slice a2 n2 c2, .slice a3 n3 c3, .slice a4 n4 c4, .slice a5 n5 c5]) := by unfold Hid; rw [hc65]; exact BoxN.new _ _ _
              rw [← hc65]
              clear hc65 hd65
              refine hK.out _ _ ⟨hb65, box_at x0 hb65, box_at x1 hb65, box_at y0 hb65, box_at y1 hb65, box_at y2 hb65, box_at y3 hb65, box_at y4 hb65, box_at y5 hb65⟩ (fun _ => ?_)
              clear hK K
              try simp only [Act.put, List.setIfInBounds_toArray, List.set_cons_zero, List.set_cons_succ]
              refine wpV_do (by kernel_rfl) (fun K hK => ?_)
              refine oper_append_ApD (es := d.entries) 34 ti (.agg #[.int .i64 0, .int .i64 0, .slice none 0 0, .slice none 0 0, .slice none 0 0, .slice none 0 0]) Try.underlying34 HI.out.1 HI.out.2.1 HI.out.2.2.1 HI.out.2.2.2 rfl (by decide) rfl _ _ rfl HF65.out rfl rfl HDE.out hb65 (by have := HZN.out; simp only [List.length_nil]; omega) (all2 (HS65.out.lt) (HT65.out.lt)) ?_
              intro x66 X66 hF66 hd66 hk66
              rw [List.nil_append] at hF66
              have hb66 : Below w1.heap.size w1 X66 := hb65.trans hd66
              have HS66 := Lib.hid (hk66 _ (by simp) _ _ HS65.out)
              have HT66 := Lib.hid (hk66 _ (by simp) _ _ HT65.out)
              obtain ⟨ax66, nx66, cx66, rfl⟩ := (hF66.1.rd hb66).shape
              have HF66 := Lib.hid hF66
              clear hF66 hd66 hk66
              refine hK.out _ _ ⟨hb66, box_at x0 hb66, box_at x1 hb66, box_at y0 hb66, box_at y1 hb66, box_at y2 hb66, box_at y3 hb66, box_at y4 hb66, box_at y5 hb66⟩ (fun _ => ?_)
              clear hK K
              try simp only [Act.put, List.setIfInBounds_toArray, List.set_cons_zero, List.set_cons_succ]
              refine wpV_do (by kernel_rfl) (fun K hK => ?_)
              refine oper_append_ApC (d := e) 34 ti (.agg #[.int .i64 0, .int .i64 0, .slice none 0 0, .slice none 0 0, .slice none 0 0, .slice none 0 0]) Try.underlying34 HI.out.1 HI.out.2.1 HI.out.2.2.1 HI.out.2.2.2 rfl (by decide) rfl _ _ rfl HF66.out rfl rfl HS66.out HEE.out hb66 HZN.out (all2 (HS66.out.lt) (HT66.out.lt)) ?_
              intro x67 X67 hF67 hd67 hk67
              have hb67 : Below w1.heap.size w1 X67 := hb66.trans hd67
              have HS67 := Lib.hid (hk67 _ (by simp) _ _ HS66.out)
              have HT67 := Lib.hid (hk67 _ (by simp) _ _ HT66.out)
              obtain ⟨ax67, nx67, cx67, rfl⟩ := (hF67.1.rd hb67).shape
              have HF67 := Lib.hid hF67
              clear hF67 hd67 hk67
              refine hK.out _ _ ⟨hb67, box_at x0 hb67, box_at x1 hb67, box_at y0 hb67, box_at y1 hb67, box_at y2 hb67, box_at y3 hb67, box_at y4 hb67, box_at y5 hb67⟩ (fun _ => ?_)
              clear hK K
              try simp only [Act.put, List.setIfInBounds_toArray, List.set_cons_zero, List.set_cons_succ]
              repeat (refine' wpV_read _ (by kernel_rfl) (fun w' hS' => ?_) ?_; rotate_left; · ((try dsimp only at hS'); go_simp; (try with_reducible rfl)); (try simp only [Act.put, List.setIfInBounds_toArray, List.set_cons_zero, List.set_cons_succ]))
              refine wpV_do (by kernel_rfl) (fun K hK => ?_)
              go_simp
              go_at_call 121
              have HRDB68 : Hid ((kS rBoard).rd X67 (.agg #[.slice a0 n0 c0, .slice ax67 nx67 cx67]) ⟨d.keys, d.entries ++ [e]⟩) := rdBoard.2 ⟨_, _, _, _, _, _, rfl, HKY.out.below hb67, HF67.out.1.rd hb67⟩
              refine (spec_oOwn _ ⟨d.keys, d.entries ++ [e]⟩ _ hz1 hz2 HZ3.out HRDB68.out).mono ?_
              rintro ex X68 ⟨vb68, rfl, hO68, hd68⟩
              obtain ⟨b0, m0, k0, b1, m1, k1, rfl, _, _⟩ := rdBoard.1 ((kS rBoard).own_rd hO68)
              have hb68 : Below w1.heap.size w1 X68 := hb67.trans (hd68.mono hb67.size)
              have hqg68 := HT67.out.lt
              have HT68 := Lib.hid (HT67.out.below hd68)
              have HQ68 := Lib.hid hO68
              have hqs68 := hd68.size
              have hql68 := hb67.size
              clear hO68 HRDB68 hd68
              refine hK.out _ _ ⟨hb68, box_at x0 hb68, box_at x1 hb68, box_at y0 hb68, box_at y1 hb68, box_at y2 hb68, box_at y3 hb68, box_at y4 hb68, box_at y5 hb68⟩ (fun _ => ?_)
              clear hK K
              try simp only [Act.put, List.setIfInBounds_toArray, List.set_cons_zero, List.set_cons_succ]
              have HTL := Lib.hid HT68.out
              have hgl : w1.heap.size ≤ X0.heap.size := hb0.size
              have hlt := HT68.out.lt
              refine wpV_done ?_
              have fr := fun j => HTL.out.frozen j
              have r0 := HTL.out.cell (i := 0) rfl
              have r1 := HTL.out.cell (i := 1) rfl
              go_wp2_with fail
              refine NoPanic.normal ?_
              go_wp2_with fail
              have HBL : Hid (Below w1.heap.size w1 ((X68.setCell ⟨X0.heap.size, 0, none⟩ (.slice b0 m0 k0)).setCell ⟨X0.heap.size, 1, none⟩ (.slice b1 m1 k1))) := (hb68.setCell hgl _).setCell hgl _
              have HOL : Hid ((kS rBoard).own ((X68.setCell ⟨X0.heap.size, 0, none⟩ (.slice b0 m0 k0)).setCell ⟨X0.heap.size, 1, none⟩ (.slice b1 m1 k1)) w1.heap.size ((X68.setCell ⟨X0.heap.size, 0, none⟩ (.slice b0 m0 k0)).setCell ⟨X0.heap.size, 1, none⟩ (.slice b1 m1 k1)).heap.size (.agg #[.slice b0 m0 k0, .slice b1 m1 k1]) ⟨d.keys, d.entries ++ [e]⟩) :=
                (kS rBoard).own_mono ((kS rBoard).own_frame HQ68.out (fun k h1 h2 h3 => by rw [heap_setCell_other _ _ k _ (fun e => by simp at e; omega), heap_setCell_other _ _ k _ (fun e => by simp at e; omega)])) (by omega) (by rw [size_setC, size_setC]; omega)
              go_meet
              exact ⟨X0.heap.size, b0, m0, k0, b1, m1, k1, rfl, hgl, HBL.out, (HTL.out.set 0 _).set 1 _, HOL.out⟩
          · skip
            refine wpV_do (by kernel_rfl) (fun K hK => ?_)
            go_simp
            obtain ⟨X69, hc69⟩ : ∃ x, x = X59.alloc (.cells #[.int .i64 e.kind, .int .i64 e.author, .slice a2 n2 c2, .slice a3 n3 c3, .slice a4 n4 c4, .slice a5 n5 c5] 44) := ⟨_, rfl⟩
            have hd69 : Below X59.heap.size X59 X69 := by rw [hc69]; exact (Below.refl _ _).alloc (Nat.le_refl _) _
            have hb69 : Below w1.heap.size w1 X69 := hb59.trans (hd69.mono hb59.size)
            have HT69 := Lib.hid (HT59.out.below hd69)
            have HS69 : Hid (BoxN X69 X59.heap.size 44 [.int .i64 e.kind, .int .i64 e.author, .slice a2 n2 c2, .slice a3 n3 c3, .slice a4 n4 c4, .slice a5 n5 c5]) := by unfold Hid; rw [hc69]; exact BoxN.new _ _ _
            rw [← hc69]
            clear hc69 hd69
            refine hK.out _ _ ⟨hb69, box_at x0 hb69, box_at x1 hb69, box_at y0 hb69, box_at y1 hb69, box_at y2 hb69, box_at y3 hb69, box_at y4 hb69, box_at y5 hb69⟩ (fun _ => ?_)
            clear hK K
            try simp only [Act.put, List.setIfInBounds_toArray, List.set_cons_zero, List.set_cons_succ]
            refine wpV_do (by kernel_rfl) (fun K hK => ?_)
            go_simp
            obtain ⟨X70, hc70⟩ : ∃ x, x = X69.alloc (.cells #[] 44) := ⟨_, rfl⟩
            have hd70 : Below X69.heap.size X69 X70 := by rw [hc70]; exact (Below.refl _ _).alloc (Nat.le_refl _) _
            have hb70 : Below w1.heap.size w1 X70 := hb69.trans (hd70.mono hb69.size)
            have HS70 := Lib.hid (HS69.out.below hd70)
            have HT70 := Lib.hid (HT69.out.below hd70)
            have HF70 : Hid (ApF w1 X70 (.slice (some ⟨X69.heap.size, 0, none⟩) 0 0) [] [X59.heap.size, X0.heap.size]) := by unfold Hid; rw [hc70]; exact ApF.new hb69.size (all2 (HS69.out.lt) (HT69.out.lt))
            rw [← hc70]
            clear hc70 hd70
            refine hK.out _ _ ⟨hb70, box_at x0 hb70, box_at x1 hb70, box_at y0 hb70, box_at y1 hb70, box_at y2 hb70, box_at y3 hb70, box_at y4 hb70, box_at y5 hb70⟩ (fun _ => ?_)
            clear hK K
            try simp only [Act.put, List.setIfInBounds_toArray, List.set_cons_zero, List.set_cons_succ]
            refine wpV_do (by kernel_rfl) (fun K hK => ?_)
            refine oper_append_ApD (es := d.entries) 34 ti (.agg #[.int .i64 0, .int .i64 0, .slice none 0 0, .slice none 0 0, .slice none 0 0, .slice none 0 0]) Try.underlying34 HI.out.1 HI.out.2.1 HI.out.2.2.1 HI.out.2.2.2 rfl (by decide) rfl _ _ rfl HF70.out rfl rfl HDE.out hb70 (by have := HZN.out; simp only [List.length_nil]; omega) (all2 (HS70.out.lt) (HT70.out.lt)) ?_
            intro x71 X71 hF71 hd71 hk71
            rw [List.nil_append] at hF71
            have hb71 : Below w1.heap.size w1 X71 := hb70.trans hd71
            have HS71 := Lib.hid (hk71 _ (by simp) _ _ HS70.out)
            have HT71 := Lib.hid (hk71 _ (by simp) _ _ HT70.out)
            obtain ⟨ax71, nx71, cx71, rfl⟩ := (hF71.1.rd hb71).shape
            have HF71 := Lib.hid hF71
            clear hF71 hd71 hk71
            refine hK.out _ _ ⟨hb71, box_at x0 hb71, box_at x1 hb71, box_at y0 hb71, box_at y1 hb71, box_at y2 hb71, box_at y3 hb71, box_at y4 hb71, box_at y5 hb71⟩ (fun _ => ?_)
            clear hK K
            try simp only [Act.put, List.setIfInBounds_toArray, List.set_cons_zero, List.set_cons_succ]
            refine wpV_do (by kernel_rfl) (fun K hK => ?_)
            refine oper_append_ApC (d := e) 34 ti (.agg #[.int .i64 0, .int .i64 0, .slice none 0 0, .slice none 0 0, .slice none 0 0, .slice none 0 0]) Try.underlying34 HI.out.1 HI.out.2.1 HI.out.2.2.1 HI.out.2.2.2 rfl (by decide) rfl _ _ rfl HF71.out rfl rfl HS71.out HEE.out hb71 HZN.out (all2 (HS71.out.lt) (HT71.out.lt)) ?_
            intro x72 X72 hF72 hd72 hk72
            have hb72 : Below w1.heap.size w1 X72 := hb71.trans hd72
            have HS72 := Lib.hid (hk72 _ (by simp) _ _ HS71.out)
            have HT72 := Lib.hid (hk72 _ (by simp) _ _ HT71.out)
            obtain ⟨ax72, nx72, cx72, rfl⟩ := (hF72.1.rd hb72).shape
            have HF72 := Lib.hid hF72
            clear hF72 hd72 hk72
            refine hK.out _ _ ⟨hb72, box_at x0 hb72, box_at x1 hb72, box_at y0 hb72, box_at y1 hb72, box_at y2 hb72, box_at y3 hb72, box_at y4 hb72, box_at y5 hb72⟩ (fun _ => ?_)
            clear hK K
            try simp only [Act.put, List.setIfInBounds_toArray, List.set_cons_zero, List.set_cons_succ]
            repeat (refine' wpV_read _ (by kernel_rfl) (fun w' hS' => ?_) ?_; rotate_left; · ((try dsimp only at hS'); go_simp; (try with_reducible rfl)); (try simp only [Act.put, List.setIfInBounds_toArray, List.set_cons_zero, List.set_cons_succ]))
            refine wpV_do (by kernel_rfl) (fun K hK => ?_)
            go_simp
            go_at_call 121
            have HRDB73 : Hid ((kS rBoard).rd X72 (.agg #[.slice a0 n0 c0, .slice ax72 nx72 cx72]) ⟨d.keys, d.entries ++ [e]⟩) := rdBoard.2 ⟨_, _, _, _, _, _, rfl, HKY.out.below hb72, HF72.out.1.rd hb72⟩
            refine (spec_oOwn _ ⟨d.keys, d.entries ++ [e]⟩ _ hz1 hz2 HZ3.out HRDB73.out).mono ?_
            rintro ex X73 ⟨vb73, rfl, hO73, hd73⟩
            obtain ⟨b0, m0, k0, b1, m1, k1, rfl, _, _⟩ := rdBoard.1 ((kS rBoard).own_rd hO73)
            have hb73 : Below w1.heap.size w1 X73 := hb72.trans (hd73.mono hb72.size)
            have hqg73 := HT72.out.lt
            have HT73 := Lib.hid (HT72.out.below hd73)
            have HQ73 := Lib.hid hO73
            have hqs73 := hd73.size
            have hql73 := hb72.size
            clear hO73 HRDB73 hd73
            refine hK.out _ _ ⟨hb73, box_at x0 hb73, box_at x1 hb73, box_at y0 hb73, box_at y1 hb73, box_at y2 hb73, box_at y3 hb73, box_at y4 hb73, box_at y5 hb73⟩ (fun _ => ?_)
            clear hK K
            try simp only [Act.put, List.setIfInBounds_toArray, List.set_cons_zero, List.set_cons_succ]
            have HTL := Lib.hid HT73.out
            have hgl : w1.heap.size ≤ X0.heap.size := hb0.size
            have hlt := HT73.out.lt
            refine wpV_done ?_
            have fr := fun j => HTL.out.frozen j
            have r0 := HTL.out.cell (i := 0) rfl
            have r1 := HTL.out.cell (i := 1) rfl
            go_wp2_with fail
            refine NoPanic.normal ?_
            go_wp2_with fail
            have HBL : Hid (Below w1.heap.size w1 ((X73.setCell ⟨X0.heap.size, 0, none⟩ (.slice b0 m0 k0)).setCell ⟨X0.heap.size, 1, none⟩ (.slice b1 m1 k1))) := (hb73.setCell hgl _).setCell hgl _
            have HOL : Hid ((kS rBoard).own ((X73.setCell ⟨X0.heap.size, 0, none⟩ (.slice b0 m0 k0)).setCell ⟨X0.heap.size, 1, none⟩ (.slice b1 m1 k1)) w1.heap.size ((X73.setCell ⟨X0.heap.size, 0, none⟩ (.slice b0 m0 k0)).setCell ⟨X0.heap.size, 1, none⟩ (.slice b1 m1 k1)).heap.size (.agg #[.slice b0 m0 k0, .slice b1 m1 k1]) ⟨d.keys, d.entries ++ [e]⟩) :=
              (kS rBoard).own_mono ((kS rBoard).own_frame HQ73.out (fun k h1 h2 h3 => by rw [heap_setCell_other _ _ k _ (fun e => by simp at e; omega), heap_setCell_other _ _ k _ (fun e => by simp at e; omega)])) (by omega) (by rw [size_setC, size_setC]; omega)
            go_meet
            exact ⟨X0.heap.size, b0, m0, k0, b1, m1, k1, rfl, hgl, HBL.out, (HTL.out.set 0 _).set 1 _, HOL.out⟩
    case rest =>
      obtain ⟨g, b0, m0, k0, b1, m1, k1, rfl, hgl, HBX, HO, HOW⟩ := hcut
      obtain ⟨U, hU⟩ : ∃ X, X = wc := ⟨_, rfl⟩
      rw [← hU] at HBX HO HOW ⊢
      clear hU x0 x1 y0 y1 y2 y3 y4 y5 HDE HEE HKY
      replace g0 := box_at g0 HBX.out
      replace g1 := box_at g1 HBX.out
      replace g2 := box_at g2 HBX.out
      have o0 := HO.out.cell (i := 0) rfl
      have o1 := HO.out.cell (i := 1) rfl
      have hsU := HBX.out.size
      go_wp2_with fail
      refine (spec_oBoard gr ⟨d.keys, d.entries ++ [e]⟩ _ _ HG.out ((kS rBoard).own_rd HOW.out)).mono ?_
      rintro ex u2 ⟨rfl, hb2⟩
      rw [HQB.out]
      have HB2 : Hid (Below W.heap.size W u2) := Below.next HB1.out (HBX.out.trans (hb2.mono hsU))
      have HO2 := Lib.hid (HO.out.below hb2)
      have HOW2 := Lib.hid ((kS rBoard).next HOW.out hb2)
      have hs3 := hb2.size
      have HR2 := Lib.hid (HR.out.below HB2.out)
      have HBE : Hid (Below w.heap.size w u2) := Below.next HB.out HB2.out
      clear hb2 g0 g1 g2 HR HO HOW o0 o1
      have r0 := HR2.out.cell (i := 0) rfl
      have r1 := HR2.out.cell (i := 1) rfl
      have fr := fun j => HR2.out.frozen j
      have o0 := HO2.out.cell (i := 0) rfl
      have o1 := HO2.out.cell (i := 1) rfl
      cases q1 with
      | false =>
        go_wp2_with fail
        have HRF := Lib.hid ((HR2.out.set 0 (.slice none 0 0)).set 1 (.slice none 0 0))
        obtain ⟨Z, hZ⟩ : ∃ Z, Z = (u2.setCell ⟨w.heap.size + 1 + 1 + 1, 0, none⟩ (.slice none 0 0)).setCell ⟨w.heap.size + 1 + 1 + 1, 1, none⟩ (.slice none 0 0) := ⟨_, rfl⟩
        have hZs : Z.heap.size = u2.heap.size := by rw [hZ]; simp [World.setCell]
        have hZo : ∀ k, k ≠ w.heap.size + 3 → Z.heap[k]? = u2.heap[k]? := fun k hk => by
          rw [hZ, heap_setCell_other _ _ k _ (fun e => hk (by simpa using e)), heap_setCell_other _ _ k _ (fun e => hk (by simpa using e))]
        have HBF : Hid (Below w.heap.size w Z) := by unfold Hid; rw [hZ]; exact (HBE.out.setCell (by show w.heap.size ≤ w.heap.size + 1 + 1 + 1; omega) _).setCell (by show w.heap.size ≤ w.heap.size + 1 + 1 + 1; omega) _
        have hEs := HBE.out.size
        have HFIN : Hid ((kS rBoard).own Z w.heap.size Z.heap.size (.agg #[.slice none 0 0, .slice none 0 0]) dR) := by unfold Hid; rw [← HDR.out, apD_no H1.out]; exact own_board0 Z w.heap.size Z.heap.size (by rw [hZs]; omega)
        rw [← hZ] at HRF ⊢
        clear r0 r1 fr hZ hZo hZs o0 o1
        have r0 := HRF.out.cell (i := 0) rfl
        have r1 := HRF.out.cell (i := 1) rfl
        try (go_wp2_with fail)
        refine bodyPost_ret (v := .tuple #[.agg #[.slice none 0 0, .slice none 0 0], .bool false]) (by simp [results, Try.results17, go_sem, r0, r1]) rfl ⟨_, rfl, HFIN.out, HBF.out⟩
      | true =>
        go_wp2_with fail
        have HRF := Lib.hid ((HR2.out.set 0 (.slice b0 m0 k0)).set 1 (.slice b1 m1 k1))
        obtain ⟨Z, hZ⟩ : ∃ Z, Z = (u2.setCell ⟨w.heap.size + 1 + 1 + 1, 0, none⟩ (.slice b0 m0 k0)).setCell ⟨w.heap.size + 1 + 1 + 1, 1, none⟩ (.slice b1 m1 k1) := ⟨_, rfl⟩
        have hZs : Z.heap.size = u2.heap.size := by rw [hZ]; simp [World.setCell]
        have hZo : ∀ k, k ≠ w.heap.size + 3 → Z.heap[k]? = u2.heap[k]? := fun k hk => by
          rw [hZ, heap_setCell_other _ _ k _ (fun e => hk (by simpa using e)), heap_setCell_other _ _ k _ (fun e => hk (by simpa using e))]
        have HBF : Hid (Below w.heap.size w Z) := by unfold Hid; rw [hZ]; exact (HBE.out.setCell (by show w.heap.size ≤ w.heap.size + 1 + 1 + 1; omega) _).setCell (by show w.heap.size ≤ w.heap.size + 1 + 1 + 1; omega) _
        have hEs := HBE.out.size
        have HFIN : Hid ((kS rBoard).own Z w.heap.size Z.heap.size (.agg #[.slice b0 m0 k0, .slice b1 m1 k1]) dR) := by unfold Hid; rw [← HDR.out, apD_yes H1.out]; exact (kS rBoard).own_mono ((kS rBoard).own_frame HOW2.out (fun k h1 h2 h3 => hZo k (by have := HSW.out; omega))) (by have := HSW.out; omega) (by rw [hZs]; omega)
        rw [← hZ] at HRF ⊢
        clear r0 r1 fr hZ hZo hZs o0 o1
        have r0 := HRF.out.cell (i := 0) rfl
        have r1 := HRF.out.cell (i := 1) rfl
        try (go_wp2_with fail)
        refine bodyPost_ret (v := .tuple #[.agg #[.slice b0 m0 k0, .slice b1 m1 k1], .bool true]) (by simp [results, Try.results17, go_sem, r0, r1]) rfl ⟨_, rfl, HFIN.out, HBF.out⟩
end Go.Proofs.Ytboahnklilmdpaa
