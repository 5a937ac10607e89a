/- Walks: AppendEntry. -/
import Derived.Test.YtboahnklilmdpaaApd4U
namespace Go.Proofs.Ytboahnklilmdpaa
open Go.RowKit
set_option linter.unusedSimpArgs false
set_option linter.unusedVariables false

/-- may the entry be appended; the longer board -/
noncomputable def apB (gr : GroupD) (d : BoardD) (e : EntryD) : Bool := vbR gr ⟨d.keys, d.entries ++ [e]⟩
noncomputable def apD (gr : GroupD) (d : BoardD) (e : EntryD) : BoardD := if apB gr d e = true then ⟨d.keys, d.entries ++ [e]⟩ else ⟨[], []⟩
theorem apD_no {gr : GroupD} {d : BoardD} {e : EntryD} (h : apB gr d e = false) : apD gr d e = ⟨[], []⟩ := by unfold apD; rw [h]; rfl
theorem apD_yes {gr : GroupD} {d : BoardD} {e : EntryD} (h : apB gr d e = true) : apD gr d e = ⟨d.keys, d.entries ++ [e]⟩ := by unfold apD; rw [if_pos h]
theorem szEntryS_at {es : List EntryD} : ∀ e ∈ es, szEntry e ≤ (es.map szEntry).sum := by
  induction es with
  | nil => intro e he; cases he
  | cons x es ih =>
    intro e he
    rw [List.map_cons, List.sum_cons]
    rcases List.mem_cons.1 he with rfl | he
    · omega
    · have := ih e he; omega
theorem ap_sizes {d : BoardD} {e : EntryD} (hz : (szBoard d : Int) ≤ 1048576) (hze : (szEntry e : Int) ≤ 1048576) :
    d.keys.length ≤ 1000000000 ∧ (d.entries ++ [e]).length ≤ 2000000 ∧ ∀ x ∈ d.entries ++ [e], x.data.length ≤ 1000000000 ∧ szProof x.sign ≤ 1000000000 := by
  unfold szBoard szEntryS at hz
  refine ⟨by omega, by rw [List.length_append]; simp only [List.length_cons, List.length_nil]; omega, fun x hx => ?_⟩
  have hx2 : szEntry x ≤ 1048576 := by
    rcases List.mem_append.1 hx with hx | hx
    · have := szEntryS_at x hx; omega
    · rw [List.mem_singleton.1 hx]; omega
  unfold szEntry at hx2
  exact ⟨by omega, by omega⟩
theorem own_board0 (w : World) (lo hi : Nat) (h : lo ≤ hi) : (kS rBoard).own w lo hi (.agg #[.slice none 0 0, .slice none 0 0]) ⟨[], []⟩ :=
  own_board (l1 := lo) (h1 := lo) (l2 := lo) (h2 := lo) ⟨OwnI.nil w lo, fun k hk => by cases hk⟩ (OwnR.nil _ _ _ _ _) ⟨Nat.le_refl _, h⟩ ⟨Nat.le_refl _, h⟩ (.inl (Nat.le_refl _)) (Nat.le_refl _)
theorem rd1R {δ : Type} {R : RowK δ} {W : World} {row : List Value} {d : δ} (g : Nat) (h : R.rd W row d) (hc : ∀ k, k < R.width → W.cell? ⟨g, k, none⟩ = row[k]?) : RdR R W (.slice (some ⟨g, 0, none⟩) 1 1) [d] := by
  refine ⟨some ⟨g, 0, none⟩, 1, 1, rfl, rfl, Nat.le_refl _, by unfold maxLen; omega, .inr (.inr ⟨g, 0, rfl, fun i hi => ⟨row, fun k hk => ?_, ?_⟩⟩)⟩
  · obtain rfl : i = 0 := by simp at hi; omega
    rw [Nat.zero_mul, Nat.zero_add, Nat.zero_add]; exact hc k hk
  · obtain rfl : i = 0 := by simp at hi; omega
    exact h
set_option maxRecDepth 100000 in
set_option maxHeartbeats 4000000 in
theorem impl_AppendEntry (gr : GroupD) (v : Value) (d : BoardD) (ve : Value) (e : EntryD) (w : World) (hgr : I64 gr.g) (hz : (szBoard d : Int) ≤ 1048576) (h : (kS rBoard).rd w v d) (hze : (szEntry e : Int) ≤ 1048576) (he : (kS rEntry).rd w ve e) :
    Calls Try.prog 21 #[.agg #[.int .i64 gr.p, .int .i64 gr.q, .int .i64 gr.g], v, ve] w fun x w' => ∃ v', x = .returned (.tuple #[v', .bool (apB gr d e)]) ∧ (kS rBoard).own w' w.heap.size w'.heap.size v' (apD gr d e) ∧ Below w.heap.size w w' := by
  clear hgr
  obtain ⟨hz1, hz2, hz3⟩ := ap_sizes hz hze
  clear hz hze
  have HZ3 := Lib.hid hz3; clear hz3
  obtain ⟨a0, n0, c0, a1, n1, c1, rfl, _, _⟩ := rdBoard.1 h
  obtain ⟨a2, n2, c2, a3, n3, c3, a4, n4, c4, a5, n5, c5, rfl, _, _, _, _, _, _⟩ := rdEntry.1 he
  obtain ⟨W, hW⟩ : ∃ W, W = (((w.alloc (.cells #[.int .i64 gr.p, .int .i64 gr.q, .int .i64 gr.g] 39)).alloc (.cells #[.slice a0 n0 c0, .slice a1 n1 c1] 36)).alloc (.cells #[.int .i64 e.kind, .int .i64 e.author, .slice a2 n2 c2, .slice a3 n3 c3, .slice a4 n4 c4, .slice a5 n5 c5] 44)).alloc (.cells #[.slice none 0 0, .slice none 0 0] 36) := ⟨_, rfl⟩
  have HB : Hid (Below w.heap.size w W) := by unfold Hid; rw [hW]; (repeat (first | exact Below.refl _ _ | assumption | refine Below.drew ?_ | refine Below.alloc ?_ (by first | (simp; done) | (simp; omega)) _ | refine Below.setCell ?_ (by first | (simp; done) | (simp; omega)) _))
  have HD : Hid ((kS rBoard).rd W (.agg #[.slice a0 n0 c0, .slice a1 n1 c1]) d) := (kS rBoard).rd_below h HB.out
  have HE : Hid ((kS rEntry).rd W (.agg #[.int .i64 e.kind, .int .i64 e.author, .slice a2 n2 c2, .slice a3 n3 c3, .slice a4 n4 c4, .slice a5 n5 c5]) e) := (kS rEntry).rd_below he HB.out
  clear h he
  have g0 : W.cell? ⟨w.heap.size, 0, none⟩ = some (.int .i64 gr.p) := by rw [hW]; simp [go_sem]
  have g1 : W.cell? ⟨w.heap.size, 1, none⟩ = some (.int .i64 gr.q) := by rw [hW]; simp [go_sem]
  have g2 : W.cell? ⟨w.heap.size, 2, none⟩ = some (.int .i64 gr.g) := by rw [hW]; simp [go_sem]
  have x0 : W.cell? ⟨w.heap.size + 1, 0, none⟩ = some (.slice a0 n0 c0) := by rw [hW]; simp [go_sem]
  have x1 : W.cell? ⟨w.heap.size + 1, 1, none⟩ = some (.slice a1 n1 c1) := by rw [hW]; simp [go_sem]
  have y0 : W.cell? ⟨w.heap.size + 1 + 1, 0, none⟩ = some (.int .i64 e.kind) := by rw [hW]; simp [go_sem]
  have y1 : W.cell? ⟨w.heap.size + 1 + 1, 1, none⟩ = some (.int .i64 e.author) := by rw [hW]; simp [go_sem]
  have y2 : W.cell? ⟨w.heap.size + 1 + 1, 2, none⟩ = some (.slice a2 n2 c2) := by rw [hW]; simp [go_sem]
  have y3 : W.cell? ⟨w.heap.size + 1 + 1, 3, none⟩ = some (.slice a3 n3 c3) := by rw [hW]; simp [go_sem]
  have y4 : W.cell? ⟨w.heap.size + 1 + 1, 4, none⟩ = some (.slice a4 n4 c4) := by rw [hW]; simp [go_sem]
  have y5 : W.cell? ⟨w.heap.size + 1 + 1, 5, none⟩ = some (.slice a5 n5 c5) := by rw [hW]; simp [go_sem]
  have HR : Hid (BoxN W (w.heap.size + 1 + 1 + 1) 36 [.slice none 0 0, .slice none 0 0]) := by unfold Hid; rw [hW]; have h := BoxN.new (((w.alloc (.cells #[.int .i64 gr.p, .int .i64 gr.q, .int .i64 gr.g] 39)).alloc (.cells #[.slice a0 n0 c0, .slice a1 n1 c1] 36)).alloc (.cells #[.int .i64 e.kind, .int .i64 e.author, .slice a2 n2 c2, .slice a3 n3 c3, .slice a4 n4 c4, .slice a5 n5 c5] 44)) [.slice none 0 0, .slice none 0 0] 36; simpa using h
  have HSW : Hid (W.heap.size = w.heap.size + 4) := by unfold Hid; rw [hW]; simp
  (obtain ⟨q1, h_q⟩ : ∃ b_q, apB gr d e = b_q := ⟨_, rfl⟩); have H1 := Lib.hid h_q; clear h_q
  (obtain ⟨dR, h_q⟩ : ∃ b_q, apD gr d e = b_q := ⟨_, rfl⟩); have HDR := Lib.hid h_q; clear h_q
  rw [H1.out, HDR.out]
  go_enter Try.func21, Try.ntmps21
  go_wp2_with fail
  rw [← hW]
  clear hW
  try (go_wp2_with fail)
  obtain ⟨V, hV⟩ : ∃ V, V = W.alloc (.cells #[.int .i64 e.kind, .int .i64 e.author, .slice a2 n2 c2, .slice a3 n3 c3, .slice a4 n4 c4, .slice a5 n5 c5] 44) := ⟨_, rfl⟩
  rw [← hV]
  have HBV : Hid (Below W.heap.size W V) := by unfold Hid; rw [hV]; exact (Below.refl _ _).alloc (Nat.le_refl _) _
  have HMV : Hid (RdR rEntry V (.slice (some ⟨w.heap.size + 1 + 1 + 1 + 1, 0, none⟩) 1 1) [e]) := by
    unfold Hid
    obtain ⟨row, e1, e2⟩ := (kS rEntry).rd_below HE.out HBV.out
    obtain rfl : [.int .i64 e.kind, .int .i64 e.author, .slice a2 n2 c2, .slice a3 n3 c3, .slice a4 n4 c4, .slice a5 n5 c5] = row := by have h := Value.agg.inj e1; simpa using congrArg Array.toList h
    refine rd1R _ e2 (fun k hk => ?_)
    have h := new_cells W [.int .i64 e.kind, .int .i64 e.author, .slice a2 n2 c2, .slice a3 n3 c3, .slice a4 n4 c4, .slice a5 n5 c5] 44 k
    rw [hV]
    rw [HSW.out] at h
    exact h
  clear hV y0 y1 y2 y3 y4 y5 x0 x1 HE
  refine (impl_copyBoard _ _ d [e] _ hz1 hz2 HZ3.out ((kS rBoard).rd_below HD.out HBV.out) HMV.out).mono ?_
  rintro ex u1 ⟨vb, rfl, hown, hb1⟩
  obtain ⟨b0, m0, k0, b1, m1, k1, rfl, _, _⟩ := rdBoard.1 ((kS rBoard).own_rd hown)
  have HOW := Lib.hid hown
  have hs1 := hb1.size
  have hsV := HBV.out.size
  have HB1 : Hid (Below W.heap.size W u1) := Below.next HBV.out hb1
  clear hown hb1 HD HMV
  have hs2 := HB1.out.size
  obtain ⟨U, hU⟩ : ∃ U, U = u1.alloc (.cells #[.slice b0 m0 k0, .slice b1 m1 k1] 36) := ⟨_, rfl⟩
  have HBU : Hid (Below u1.heap.size u1 U) := by unfold Hid; rw [hU]; exact (Below.refl _ _).alloc (Nat.le_refl _) _
  have HO : Hid (BoxN U u1.heap.size 36 [.slice b0 m0 k0, .slice b1 m1 k1]) := by unfold Hid; rw [hU]; exact BoxN.new _ _ _
  have HBWU : Hid (Below W.heap.size W U) := Below.next HB1.out HBU.out
  have HOU := Lib.hid ((kS rBoard).next HOW.out HBU.out)
  have hltw : w.heap.size < u1.heap.size := by have := HSW.out; omega
  replace g0 := box_at g0 HB1.out
  replace g1 := box_at g1 HB1.out
  replace g2 := box_at g2 HB1.out
  go_wp2_with fail
  rw [← hU]
  replace g0 := box_at g0 HBU.out
  replace g1 := box_at g1 HBU.out
  replace g2 := box_at g2 HBU.out
  clear hU
  try (go_wp2_with fail)
  refine (impl_areBoard gr ⟨d.keys, d.entries ++ [e]⟩ _ _ ((kS rBoard).own_rd HOU.out)).mono ?_
  rintro ex u2 ⟨rfl, hb2⟩
  rw [show vbR gr ⟨d.keys, d.entries ++ [e]⟩ = q1 from H1.out]
  have HB2 : Hid (Below W.heap.size W u2) := Below.next HBWU.out hb2
  have HO2 := Lib.hid (HO.out.below hb2)
  have HOW2 := Lib.hid ((kS rBoard).next HOU.out hb2)
  have hs3 := hb2.size
  have hsU := HBU.out.size
  have HR2 := Lib.hid (HR.out.below HB2.out)
  have HBE : Hid (Below w.heap.size w u2) := Below.next HB.out HB2.out
  clear hb2 g0 g1 g2 HR HO HOW HOU HBWU HBU HB1 HBV
  have r0 := HR2.out.cell (i := 0) rfl
  have r1 := HR2.out.cell (i := 1) rfl
  have fr := fun j => HR2.out.frozen j
  have o0 := HO2.out.cell (i := 0) rfl
  have o1 := HO2.out.cell (i := 1) rfl
  cases q1 with
  | false =>
    go_wp2_with fail
    have HRF := Lib.hid ((HR2.out.set 0 (.slice none 0 0)).set 1 (.slice none 0 0))
    obtain ⟨Z, hZ⟩ : ∃ Z, Z = (u2.setCell ⟨w.heap.size + 1 + 1 + 1, 0, none⟩ (.slice none 0 0)).setCell ⟨w.heap.size + 1 + 1 + 1, 1, none⟩ (.slice none 0 0) := ⟨_, rfl⟩
    have hZs : Z.heap.size = u2.heap.size := by rw [hZ]; simp [World.setCell]
    have hZo : ∀ k, k ≠ w.heap.size + 3 → Z.heap[k]? = u2.heap[k]? := fun k hk => by
      rw [hZ, heap_setCell_other _ _ k _ (fun e => hk (by simpa using e)), heap_setCell_other _ _ k _ (fun e => hk (by simpa using e))]
    have HBF : Hid (Below w.heap.size w Z) := by unfold Hid; rw [hZ]; exact (HBE.out.setCell (by show w.heap.size ≤ w.heap.size + 1 + 1 + 1; omega) _).setCell (by show w.heap.size ≤ w.heap.size + 1 + 1 + 1; omega) _
    have hEs := HBE.out.size
    have HFIN : Hid ((kS rBoard).own Z w.heap.size Z.heap.size (.agg #[.slice none 0 0, .slice none 0 0]) dR) := by unfold Hid; rw [← HDR.out, apD_no H1.out]; exact own_board0 Z w.heap.size Z.heap.size (by rw [hZs]; omega)
    rw [← hZ] at HRF ⊢
    clear r0 r1 fr hZ hZo hZs o0 o1
    have r0 := HRF.out.cell (i := 0) rfl
    have r1 := HRF.out.cell (i := 1) rfl
    try (go_wp2_with fail)
    refine bodyPost_ret (v := .tuple #[.agg #[.slice none 0 0, .slice none 0 0], .bool false]) (by simp [results, Try.results21, go_sem, r0, r1]) rfl ⟨_, rfl, HFIN.out, HBF.out⟩
  | true =>
    go_wp2_with fail
    have HRF := Lib.hid ((HR2.out.set 0 (.slice b0 m0 k0)).set 1 (.slice b1 m1 k1))
    obtain ⟨Z, hZ⟩ : ∃ Z, Z = (u2.setCell ⟨w.heap.size + 1 + 1 + 1, 0, none⟩ (.slice b0 m0 k0)).setCell ⟨w.heap.size + 1 + 1 + 1, 1, none⟩ (.slice b1 m1 k1) := ⟨_, rfl⟩
    have hZs : Z.heap.size = u2.heap.size := by rw [hZ]; simp [World.setCell]
    have hZo : ∀ k, k ≠ w.heap.size + 3 → Z.heap[k]? = u2.heap[k]? := fun k hk => by
      rw [hZ, heap_setCell_other _ _ k _ (fun e => hk (by simpa using e)), heap_setCell_other _ _ k _ (fun e => hk (by simpa using e))]
    have HBF : Hid (Below w.heap.size w Z) := by unfold Hid; rw [hZ]; exact (HBE.out.setCell (by show w.heap.size ≤ w.heap.size + 1 + 1 + 1; omega) _).setCell (by show w.heap.size ≤ w.heap.size + 1 + 1 + 1; omega) _
    have hEs := HBE.out.size
    have HFIN : Hid ((kS rBoard).own Z w.heap.size Z.heap.size (.agg #[.slice b0 m0 k0, .slice b1 m1 k1]) dR) := by unfold Hid; rw [← HDR.out, apD_yes H1.out]; exact (kS rBoard).own_mono ((kS rBoard).own_frame HOW2.out (fun k h1 h2 h3 => hZo k (by have := HSW.out; omega))) (by have := HSW.out; omega) (by rw [hZs]; omega)
    rw [← hZ] at HRF ⊢
    clear r0 r1 fr hZ hZo hZs o0 o1
    have r0 := HRF.out.cell (i := 0) rfl
    have r1 := HRF.out.cell (i := 1) rfl
    try (go_wp2_with fail)
    refine bodyPost_ret (v := .tuple #[.agg #[.slice b0 m0 k0, .slice b1 m1 k1], .bool true]) (by simp [results, Try.results21, go_sem, r0, r1]) rfl ⟨_, rfl, HFIN.out, HBF.out⟩
end Go.Proofs.Ytboahnklilmdpaa
