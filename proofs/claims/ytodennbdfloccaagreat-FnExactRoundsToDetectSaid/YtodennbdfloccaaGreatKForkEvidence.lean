/- The struct ForkEvidence as a kind (printed by genkind.py): its data, its row, the walks of the laws' helpers. -/
import Derived.Test.YtodennbdfloccaaGreatBa
import Derived.Test.YtodennbdfloccaaGreatBk
namespace Go.Proofs.YtodennbdfloccaaGreat
open Go.RowKit
set_option linter.unusedSimpArgs false
set_option linter.unusedVariables false

structure ForkEvidenceD where
  first : HeadD
  second : HeadD
deriving DecidableEq
abbrev rForkEvidence : RowK ForkEvidenceD := rMap (rA rHead rHead) (fun d => (d.first, d.second))
theorem ForkEvidenceD.ext_iff' {a b : ForkEvidenceD} : a = b ↔ a.first = b.first ∧ a.second = b.second := by
  cases a; cases b; simp
/-- what it counts for in the laws' bound; the marks that it holds -/
def szForkEvidence (d : ForkEvidenceD) : Nat := szHead d.first + szHead d.second
def cnForkEvidence (d : ForkEvidenceD) : Nat := cnHead d.first + cnHead d.second
theorem cnForkEvidence_le (d : ForkEvidenceD) : cnForkEvidence d ≤ 4 * szForkEvidence d := by
  unfold cnForkEvidence szForkEvidence; have := cnHead_le d.first; have := cnHead_le d.second; omega
theorem rdForkEvidence {w : World} {v : Value} {d : ForkEvidenceD} : (kS rForkEvidence).rd w v d ↔ ∃ a3 n3 c3 a4 n4 c4 a5 n5 c5 a9 n9 c9 a10 n10 c10 a11 n11 c11, v = .agg #[.int .i64 d.first.author, .int .i64 d.first.size, .int .i64 d.first.root, .slice a3 n3 c3, .slice a4 n4 c4, .slice a5 n5 c5, .int .i64 d.second.author, .int .i64 d.second.size, .int .i64 d.second.root, .slice a9 n9 c9, .slice a10 n10 c10, .slice a11 n11 c11] ∧ I64 d.first.author ∧ I64 d.first.size ∧ I64 d.first.root ∧ I64 d.second.author ∧ I64 d.second.size ∧ I64 d.second.root ∧ sInts.rd w (.slice a3 n3 c3) d.first.sign.c ∧ sInts.rd w (.slice a4 n4 c4) d.first.sign.h ∧ sInts.rd w (.slice a5 n5 c5) d.first.sign.r ∧ sInts.rd w (.slice a9 n9 c9) d.second.sign.c ∧ sInts.rd w (.slice a10 n10 c10) d.second.sign.h ∧ sInts.rd w (.slice a11 n11 c11) d.second.sign.r := by
  constructor
  · rintro ⟨_, rfl, ⟨_, _, rfl, ⟨_, rfl, i1, ⟨_, rfl, i2, ⟨_, rfl, i3, ⟨v4, _, rfl, h5, ⟨v6, _, rfl, h7, ⟨v8, _, rfl, h9, rfl⟩⟩⟩⟩⟩⟩, ⟨_, rfl, i10, ⟨_, rfl, i11, ⟨_, rfl, i12, ⟨v13, _, rfl, h14, ⟨v15, _, rfl, h16, ⟨v17, _, rfl, h18, rfl⟩⟩⟩⟩⟩⟩⟩⟩
    obtain ⟨_, _, _, rfl⟩ := sInts.sl h5
    obtain ⟨_, _, _, rfl⟩ := sInts.sl h7
    obtain ⟨_, _, _, rfl⟩ := sInts.sl h9
    obtain ⟨_, _, _, rfl⟩ := sInts.sl h14
    obtain ⟨_, _, _, rfl⟩ := sInts.sl h16
    obtain ⟨_, _, _, rfl⟩ := sInts.sl h18
    exact ⟨_, _, _, _, _, _, _, _, _, _, _, _, _, _, _, _, _, _, rfl, i1, i2, i3, i10, i11, i12, h5, h7, h9, h14, h16, h18⟩
  · rintro ⟨a3, n3, c3, a4, n4, c4, a5, n5, c5, a9, n9, c9, a10, n10, c10, a11, n11, c11, rfl, g0, g1, g2, g3, g4, g5, g6, g7, g8, g9, g10, g11⟩
    exact ⟨_, rfl, ⟨_, _, rfl, ⟨_, rfl, g0, ⟨_, rfl, g1, ⟨_, rfl, g2, ⟨_, _, rfl, g6, ⟨_, _, rfl, g7, ⟨_, _, rfl, g8, rfl⟩⟩⟩⟩⟩⟩, ⟨_, rfl, g3, ⟨_, rfl, g4, ⟨_, rfl, g5, ⟨_, _, rfl, g9, ⟨_, _, rfl, g10, ⟨_, _, rfl, g11, rfl⟩⟩⟩⟩⟩⟩⟩⟩
set_option maxHeartbeats 2000000 in
theorem laws_eqForkEvidence (v1 v2 : Value) (d1 d2 : ForkEvidenceD) (w : World) (h1 : (kS rForkEvidence).rd w v1 d1) (h2 : (kS rForkEvidence).rd w v2 d2) :
    Calls Tryz.prog 24 #[v1, v2] w fun e w' => e = .returned (.bool (decide (d1 = d2))) ∧ Below w.heap.size w w' := by
  obtain ⟨a3x, n3x, c3x, a4x, n4x, c4x, a5x, n5x, c5x, a9x, n9x, c9x, a10x, n10x, c10x, a11x, n11x, c11x, rfl, j0x, j1x, j2x, j6x, j7x, j8x, k3x, k4x, k5x, k9x, k10x, k11x⟩ := rdForkEvidence.1 h1
  have Ffirstx : Hid ((kS rHead).rd w (.agg #[.int .i64 d1.first.author, .int .i64 d1.first.size, .int .i64 d1.first.root, .slice a3x n3x c3x, .slice a4x n4x c4x, .slice a5x n5x c5x]) d1.first) := rdHead.2 ⟨_, _, _, _, _, _, _, _, _, rfl, j0x, j1x, j2x, k3x, k4x, k5x⟩
  have Fsecondx : Hid ((kS rHead).rd w (.agg #[.int .i64 d1.second.author, .int .i64 d1.second.size, .int .i64 d1.second.root, .slice a9x n9x c9x, .slice a10x n10x c10x, .slice a11x n11x c11x]) d1.second) := rdHead.2 ⟨_, _, _, _, _, _, _, _, _, rfl, j6x, j7x, j8x, k9x, k10x, k11x⟩
  clear k3x k4x k5x k9x k10x k11x
  clear j0x j1x j2x j6x j7x j8x
  obtain ⟨a3y, n3y, c3y, a4y, n4y, c4y, a5y, n5y, c5y, a9y, n9y, c9y, a10y, n10y, c10y, a11y, n11y, c11y, rfl, j0y, j1y, j2y, j6y, j7y, j8y, k3y, k4y, k5y, k9y, k10y, k11y⟩ := rdForkEvidence.1 h2
  have Ffirsty : Hid ((kS rHead).rd w (.agg #[.int .i64 d2.first.author, .int .i64 d2.first.size, .int .i64 d2.first.root, .slice a3y n3y c3y, .slice a4y n4y c4y, .slice a5y n5y c5y]) d2.first) := rdHead.2 ⟨_, _, _, _, _, _, _, _, _, rfl, j0y, j1y, j2y, k3y, k4y, k5y⟩
  have Fsecondy : Hid ((kS rHead).rd w (.agg #[.int .i64 d2.second.author, .int .i64 d2.second.size, .int .i64 d2.second.root, .slice a9y n9y c9y, .slice a10y n10y c10y, .slice a11y n11y c11y]) d2.second) := rdHead.2 ⟨_, _, _, _, _, _, _, _, _, rfl, j6y, j7y, j8y, k9y, k10y, k11y⟩
  clear k3y k4y k5y k9y k10y k11y
  clear j0y j1y j2y j6y j7y j8y
  clear h1 h2
  obtain ⟨W, hW⟩ : ∃ W, W = (w.alloc (.cells #[.int .i64 d1.first.author, .int .i64 d1.first.size, .int .i64 d1.first.root, .slice a3x n3x c3x, .slice a4x n4x c4x, .slice a5x n5x c5x, .int .i64 d1.second.author, .int .i64 d1.second.size, .int .i64 d1.second.root, .slice a9x n9x c9x, .slice a10x n10x c10x, .slice a11x n11x c11x] 58)).alloc (.cells #[.int .i64 d2.first.author, .int .i64 d2.first.size, .int .i64 d2.first.root, .slice a3y n3y c3y, .slice a4y n4y c4y, .slice a5y n5y c5y, .int .i64 d2.second.author, .int .i64 d2.second.size, .int .i64 d2.second.root, .slice a9y n9y c9y, .slice a10y n10y c10y, .slice a11y n11y c11y] 58) := ⟨_, rfl⟩
  have hs1 : (w.alloc (.cells #[.int .i64 d1.first.author, .int .i64 d1.first.size, .int .i64 d1.first.root, .slice a3x n3x c3x, .slice a4x n4x c4x, .slice a5x n5x c5x, .int .i64 d1.second.author, .int .i64 d1.second.size, .int .i64 d1.second.root, .slice a9x n9x c9x, .slice a10x n10x c10x, .slice a11x n11x c11x] 58)).heap.size = w.heap.size + 1 := by simp
  have HB0 : Hid (Below w.heap.size w W) := by unfold Hid; rw [hW]; (repeat (first | exact Below.refl _ _ | assumption | refine Below.drew ?_ | refine Below.alloc ?_ (by first | (simp; done) | (simp; omega)) _ | refine Below.setCell ?_ (by first | (simp; done) | (simp; omega)) _))
  have BX : Hid (BoxN W w.heap.size 58 [.int .i64 d1.first.author, .int .i64 d1.first.size, .int .i64 d1.first.root, .slice a3x n3x c3x, .slice a4x n4x c4x, .slice a5x n5x c5x, .int .i64 d1.second.author, .int .i64 d1.second.size, .int .i64 d1.second.root, .slice a9x n9x c9x, .slice a10x n10x c10x, .slice a11x n11x c11x]) := by unfold Hid; rw [hW]; exact (BoxN.new w [.int .i64 d1.first.author, .int .i64 d1.first.size, .int .i64 d1.first.root, .slice a3x n3x c3x, .slice a4x n4x c4x, .slice a5x n5x c5x, .int .i64 d1.second.author, .int .i64 d1.second.size, .int .i64 d1.second.root, .slice a9x n9x c9x, .slice a10x n10x c10x, .slice a11x n11x c11x] _).alloc _
  have BY : Hid (BoxN W (w.heap.size + 1) 58 [.int .i64 d2.first.author, .int .i64 d2.first.size, .int .i64 d2.first.root, .slice a3y n3y c3y, .slice a4y n4y c4y, .slice a5y n5y c5y, .int .i64 d2.second.author, .int .i64 d2.second.size, .int .i64 d2.second.root, .slice a9y n9y c9y, .slice a10y n10y c10y, .slice a11y n11y c11y]) := by unfold Hid; rw [hW, ← hs1]; exact BoxN.new _ [.int .i64 d2.first.author, .int .i64 d2.first.size, .int .i64 d2.first.root, .slice a3y n3y c3y, .slice a4y n4y c4y, .slice a5y n5y c5y, .int .i64 d2.second.author, .int .i64 d2.second.size, .int .i64 d2.second.root, .slice a9y n9y c9y, .slice a10y n10y c10y, .slice a11y n11y c11y] _
  obtain ⟨q_first, hq_first⟩ : ∃ q, decide (d1.first = d2.first) = q := ⟨_, rfl⟩
  obtain ⟨q_second, hq_second⟩ : ∃ q, decide (d1.second = d2.second) = q := ⟨_, rfl⟩
  have HR : Hid (decide (d1 = d2) = (q_first && (q_second))) := by
    unfold Hid; rw [← hq_first, ← hq_second, Bool.eq_iff_iff]; simp only [Bool.and_eq_true, decide_eq_true_eq]; exact ForkEvidenceD.ext_iff'
  have Q_first := Lib.hid hq_first; clear hq_first
  have Q_second := Lib.hid hq_second; clear hq_second
  clear hs1
  have HA0 : Hid (Below W.heap.size W W) := Below.refl _ _
  go_enter Tryz.func24, Tryz.ntmps24
  go_wp2_with fail
  rw [← hW]
  clear hW
  refine (laws_eqHead _ _ d1.first d2.first _ ((kS rHead).rd_below Ffirstx.out HB0.out) ((kS rHead).rd_below Ffirsty.out HB0.out)).mono ?_
  rintro e w1 ⟨rfl, hb⟩
  rw [Q_first.out]
  have HB1 := Lib.hid (HB0.out.trans (hb.mono HB0.out.size))
  have HA1 := Lib.hid (HA0.out.trans (hb.mono HA0.out.size)); clear hb
  cases q_first with
  | false =>
    go_wp2_with fail
    go_ret
    exact ⟨ret_bool (by rw [HR.out]; (try rfl)), HB1.out⟩
  | true =>
  have px6 := BX.out.below HA1.out |>.cell (i := 6) rfl
  have px7 := BX.out.below HA1.out |>.cell (i := 7) rfl
  have px8 := BX.out.below HA1.out |>.cell (i := 8) rfl
  have px9 := BX.out.below HA1.out |>.cell (i := 9) rfl
  have px10 := BX.out.below HA1.out |>.cell (i := 10) rfl
  have px11 := BX.out.below HA1.out |>.cell (i := 11) rfl
  have py6 := BY.out.below HA1.out |>.cell (i := 6) rfl
  have py7 := BY.out.below HA1.out |>.cell (i := 7) rfl
  have py8 := BY.out.below HA1.out |>.cell (i := 8) rfl
  have py9 := BY.out.below HA1.out |>.cell (i := 9) rfl
  have py10 := BY.out.below HA1.out |>.cell (i := 10) rfl
  have py11 := BY.out.below HA1.out |>.cell (i := 11) rfl
  go_wp2_with fail
  clear px6 px7 px8 px9 px10 px11 py6 py7 py8 py9 py10 py11
  refine (laws_eqHead _ _ d1.second d2.second _ ((kS rHead).rd_below Fsecondx.out HB1.out) ((kS rHead).rd_below Fsecondy.out HB1.out)).mono ?_
  rintro e w2 ⟨rfl, hb⟩
  rw [Q_second.out]
  have HB2 := Lib.hid (HB1.out.trans (hb.mono HB1.out.size))
  have HA2 := Lib.hid (HA1.out.trans (hb.mono HA1.out.size)); clear hb
  cases q_second with
  | false =>
    go_wp2_with fail
    go_ret
    exact ⟨ret_bool (by rw [HR.out]; (try rfl)), HB2.out⟩
  | true =>
  go_wp2_with fail
  go_ret
  exact ⟨ret_bool (by rw [HR.out]; (try rfl)), HB2.out⟩
/-- the struct with marks in its slices, from k0 on -/
def mkForkEvidence (k0 : Nat) (d : ForkEvidenceD) : ForkEvidenceD := ⟨mkHead (k0) d.first, mkHead (k0 + cnHead d.first) d.second⟩
set_option maxHeartbeats 2000000 in
theorem laws_markForkEvidence (lo hi : Nat) (v : Value) (k0 : Nat) (d : ForkEvidenceD) (w : World) (h : (kS rForkEvidence).own w lo hi v d) (hk : k0 + cnForkEvidence d ≤ 9223372036854775806) (hhi : hi ≤ w.heap.size) :
    Calls Tryz.prog 28 #[v, .int .i64 k0] w fun e w' => e = .returned (.int .i64 (k0 + cnForkEvidence d : Nat)) ∧ (kS rForkEvidence).own w' lo hi v (mkForkEvidence k0 d) ∧ Within lo hi w w' := by
  have HK : Hid (k0 + cnForkEvidence d = k0 + cnHead d.first + cnHead d.second) := by unfold Hid cnForkEvidence; omega
  unfold cnForkEvidence at hk
  obtain ⟨_, rfl, ⟨_, _, l_first, h_first, m_first, t_first, rfl, o_first, o_second, q_first, r_first, s_first⟩⟩ := h
  obtain ⟨_, rfl, i37, ⟨_, rfl, i38, ⟨_, rfl, i39, ⟨v40, _, rfl, h41, ⟨v42, _, rfl, h43, ⟨v44, _, rfl, h45, rfl⟩⟩⟩⟩⟩⟩ := rHead.own_rd o_first
  clear i37
  clear i38
  clear i39
  obtain ⟨ea_first0, en_first0, ec_first0, rfl⟩ := sInts.sl h41
  clear h41
  obtain ⟨ea_first1, en_first1, ec_first1, rfl⟩ := sInts.sl h43
  clear h43
  obtain ⟨ea_first2, en_first2, ec_first2, rfl⟩ := sInts.sl h45
  clear h45
  obtain ⟨_, rfl, i46, ⟨_, rfl, i47, ⟨_, rfl, i48, ⟨v49, _, rfl, h50, ⟨v51, _, rfl, h52, ⟨v53, _, rfl, h54, rfl⟩⟩⟩⟩⟩⟩ := rHead.own_rd o_second
  clear i46
  clear i47
  clear i48
  obtain ⟨ea_second0, en_second0, ec_second0, rfl⟩ := sInts.sl h50
  clear h50
  obtain ⟨ea_second1, en_second1, ec_second1, rfl⟩ := sInts.sl h52
  clear h52
  obtain ⟨ea_second2, en_second2, ec_second2, rfl⟩ := sInts.sl h54
  clear h54
  obtain ⟨W, hW⟩ : ∃ W, W = w.alloc (.cells #[.int .i64 d.first.author, .int .i64 d.first.size, .int .i64 d.first.root, .slice ea_first0 en_first0 ec_first0, .slice ea_first1 en_first1 ec_first1, .slice ea_first2 en_first2 ec_first2, .int .i64 d.second.author, .int .i64 d.second.size, .int .i64 d.second.root, .slice ea_second0 en_second0 ec_second0, .slice ea_second1 en_second1 ec_second1, .slice ea_second2 en_second2 ec_second2] 58) := ⟨_, rfl⟩
  have hb : Below w.heap.size w W := by rw [hW]; exact (Below.refl _ _).alloc (Nat.le_refl _) _
  have hs0 : W.heap.size = w.heap.size + 1 := by rw [hW]; simp
  have BX0 : Hid (BoxN W w.heap.size 58 [.int .i64 d.first.author, .int .i64 d.first.size, .int .i64 d.first.root, .slice ea_first0 en_first0 ec_first0, .slice ea_first1 en_first1 ec_first1, .slice ea_first2 en_first2 ec_first2, .int .i64 d.second.author, .int .i64 d.second.size, .int .i64 d.second.root, .slice ea_second0 en_second0 ec_second0, .slice ea_second1 en_second1 ec_second1, .slice ea_second2 en_second2 ec_second2]) := by unfold Hid; rw [hW]; exact BoxN.new w [.int .i64 d.first.author, .int .i64 d.first.size, .int .i64 d.first.root, .slice ea_first0 en_first0 ec_first0, .slice ea_first1 en_first1 ec_first1, .slice ea_first2 en_first2 ec_first2, .int .i64 d.second.author, .int .i64 d.second.size, .int .i64 d.second.root, .slice ea_second0 en_second0 ec_second0, .slice ea_second1 en_second1 ec_second1, .slice ea_second2 en_second2 ec_second2] _
  have O_first := Lib.hid (RowK.next o_first hb)
  clear o_first
  have O_second := Lib.hid (RowK.next o_second hb)
  clear o_second
  have G0 : Hid (Within lo hi w W) := Within.of_below hb
  clear hb
  go_enter Tryz.func28, Tryz.ntmps28
  go_wp2_with fail
  rw [← hW]
  clear hW
  refine (laws_markHead l_first h_first _ (k0) d.first W ⟨_, rfl, O_first.out⟩ (by omega) (by omega)).mono ?_
  rintro e w1 ⟨rfl, X, g⟩
  obtain ⟨_, hX, X⟩ := X
  have hX2 := congrArg (fun v => match v with | Value.agg a => a.toList | _ => []) hX
  simp only at hX2
  subst hX2
  clear hX
  replace O_first := Lib.hid X; clear X
  have us1 := g.size
  have BX1 := Lib.hid (BX0.out.kept g (.inr (by omega)))
  replace O_second := Lib.hid (RowK.kept O_second.out g (by omega))
  have G1 := Lib.hid (G0.out.trans (g.mono (by omega) (by omega))); clear g
  have p6 := BX1.out.cell (i := 6) rfl
  have p7 := BX1.out.cell (i := 7) rfl
  have p8 := BX1.out.cell (i := 8) rfl
  have p9 := BX1.out.cell (i := 9) rfl
  have p10 := BX1.out.cell (i := 10) rfl
  have p11 := BX1.out.cell (i := 11) rfl
  go_wp2_with fail
  clear p6 p7 p8 p9 p10 p11
  refine (laws_markHead m_first t_first _ (k0 + cnHead d.first) d.second w1 ⟨_, rfl, O_second.out⟩ (by omega) (by omega)).mono ?_
  rintro e w2 ⟨rfl, X, g⟩
  obtain ⟨_, hX, X⟩ := X
  have hX2 := congrArg (fun v => match v with | Value.agg a => a.toList | _ => []) hX
  simp only at hX2
  subst hX2
  clear hX
  replace O_second := Lib.hid X; clear X
  have us2 := g.size
  have BX2 := Lib.hid (BX1.out.kept g (.inr (by omega)))
  replace O_first := Lib.hid (RowK.kept O_first.out g (by omega))
  have G2 := Lib.hid (G1.out.trans (g.mono (by omega) (by omega))); clear g
  go_wp2_with fail
  go_ret
  refine ⟨ret_int (by rw [HK.out]; (try omega)), ⟨_, rfl, ⟨_, _, l_first, h_first, m_first, t_first, rfl, O_first.out, O_second.out, q_first, r_first, s_first⟩⟩, G2.out⟩
set_option maxHeartbeats 2000000 in
theorem laws_heldForkEvidence (v : Value) (k0 : Nat) (d : ForkEvidenceD) (w : World) (h : (kS rForkEvidence).rd w v (mkForkEvidence k0 d)) (hk : k0 + cnForkEvidence d ≤ 9223372036854775806) :
    Calls Tryz.prog 29 #[v, .int .i64 k0] w fun e w' => e = .returned (.int .i64 (k0 + cnForkEvidence d : Nat)) ∧ Below w.heap.size w w' := by
  have HK : Hid (k0 + cnForkEvidence d = k0 + cnHead d.first + cnHead d.second) := by unfold Hid cnForkEvidence; omega
  unfold cnForkEvidence at hk
  obtain ⟨D, hD⟩ : ∃ D, mkForkEvidence k0 d = D := ⟨_, rfl⟩
  have D_first : Hid (D.first = mkHead (k0) d.first) := by unfold Hid; rw [← hD]; rfl
  have D_second : Hid (D.second = mkHead (k0 + cnHead d.first) d.second) := by unfold Hid; rw [← hD]; rfl
  rw [hD] at h; clear hD
  obtain ⟨a3, n3, c3, a4, n4, c4, a5, n5, c5, a9, n9, c9, a10, n10, c10, a11, n11, c11, rfl, j0, j1, j2, j6, j7, j8, k3, k4, k5, k9, k10, k11⟩ := rdForkEvidence.1 h
  have Ffirst : Hid ((kS rHead).rd w (.agg #[.int .i64 D.first.author, .int .i64 D.first.size, .int .i64 D.first.root, .slice a3 n3 c3, .slice a4 n4 c4, .slice a5 n5 c5]) D.first) := rdHead.2 ⟨_, _, _, _, _, _, _, _, _, rfl, j0, j1, j2, k3, k4, k5⟩
  have Fsecond : Hid ((kS rHead).rd w (.agg #[.int .i64 D.second.author, .int .i64 D.second.size, .int .i64 D.second.root, .slice a9 n9 c9, .slice a10 n10 c10, .slice a11 n11 c11]) D.second) := rdHead.2 ⟨_, _, _, _, _, _, _, _, _, rfl, j6, j7, j8, k9, k10, k11⟩
  clear k3 k4 k5 k9 k10 k11
  clear j0 j1 j2 j6 j7 j8
  clear h
  obtain ⟨W, hW⟩ : ∃ W, W = w.alloc (.cells #[.int .i64 D.first.author, .int .i64 D.first.size, .int .i64 D.first.root, .slice a3 n3 c3, .slice a4 n4 c4, .slice a5 n5 c5, .int .i64 D.second.author, .int .i64 D.second.size, .int .i64 D.second.root, .slice a9 n9 c9, .slice a10 n10 c10, .slice a11 n11 c11] 58) := ⟨_, rfl⟩
  have HB0 : Hid (Below w.heap.size w W) := by unfold Hid; rw [hW]; exact (Below.refl _ _).alloc (Nat.le_refl _) _
  have BX : Hid (BoxN W w.heap.size 58 [.int .i64 D.first.author, .int .i64 D.first.size, .int .i64 D.first.root, .slice a3 n3 c3, .slice a4 n4 c4, .slice a5 n5 c5, .int .i64 D.second.author, .int .i64 D.second.size, .int .i64 D.second.root, .slice a9 n9 c9, .slice a10 n10 c10, .slice a11 n11 c11]) := by unfold Hid; rw [hW]; exact BoxN.new w [.int .i64 D.first.author, .int .i64 D.first.size, .int .i64 D.first.root, .slice a3 n3 c3, .slice a4 n4 c4, .slice a5 n5 c5, .int .i64 D.second.author, .int .i64 D.second.size, .int .i64 D.second.root, .slice a9 n9 c9, .slice a10 n10 c10, .slice a11 n11 c11] _
  have HA0 : Hid (Below W.heap.size W W) := Below.refl _ _
  go_enter Tryz.func29, Tryz.ntmps29
  go_wp2_with fail
  rw [← hW]
  clear hW
  refine (laws_heldHead _ (k0) d.first _ ((kS rHead).rd_below (by rw [← D_first.out]; exact Ffirst.out) HB0.out) (by omega)).mono ?_
  rintro e w1 ⟨rfl, hb⟩
  have HB1 := Lib.hid (HB0.out.trans (hb.mono HB0.out.size))
  have HA1 := Lib.hid (HA0.out.trans (hb.mono HA0.out.size)); clear hb
  have hnn0 : ¬ (((k0 + cnHead d.first : Nat) : Int) < 0) := by omega
  have p6 := BX.out.below HA1.out |>.cell (i := 6) rfl
  have p7 := BX.out.below HA1.out |>.cell (i := 7) rfl
  have p8 := BX.out.below HA1.out |>.cell (i := 8) rfl
  have p9 := BX.out.below HA1.out |>.cell (i := 9) rfl
  have p10 := BX.out.below HA1.out |>.cell (i := 10) rfl
  have p11 := BX.out.below HA1.out |>.cell (i := 11) rfl
  go_wp2_with fail
  clear p6 p7 p8 p9 p10 p11
  refine (laws_heldHead _ (k0 + cnHead d.first) d.second _ ((kS rHead).rd_below (by rw [← D_second.out]; exact Fsecond.out) HB1.out) (by omega)).mono ?_
  rintro e w2 ⟨rfl, hb⟩
  have HB2 := Lib.hid (HB1.out.trans (hb.mono HB1.out.size))
  have HA2 := Lib.hid (HA1.out.trans (hb.mono HA1.out.size)); clear hb
  have hnn1 : ¬ (((k0 + cnHead d.first + cnHead d.second : Nat) : Int) < 0) := by omega
  go_wp2_with fail
  go_ret
  exact ⟨ret_int (by rw [HK.out]; (try omega)), HB2.out⟩
end Go.Proofs.YtodennbdfloccaaGreat
