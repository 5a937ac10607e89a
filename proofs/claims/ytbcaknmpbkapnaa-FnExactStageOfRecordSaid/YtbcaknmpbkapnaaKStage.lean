/- The struct Stage as a kind (printed by genkind.py): its data, its row, the walks of the laws' helpers. -/
import Derived.Test.YtbcaknmpbkapnaaBa
import Derived.Test.YtbcaknmpbkapnaaKCipherS
import Derived.Test.YtbcaknmpbkapnaaKMatrixProof
import Derived.Test.YtbcaknmpbkapnaaKPolyProof
namespace Go.Proofs.Ytbcaknmpbkapnaa
open Go.RowKit
set_option linter.unusedSimpArgs false
set_option linter.unusedVariables false

structure StageD where
  argument : Int
  out : List CipherD
  matrix : MatrixProofD
  poly : PolyProofD
deriving DecidableEq
abbrev rStage : RowK StageD := rMap (rI (rS (kR 75 rCipher) (rA rMatrixProof rPolyProof))) (fun d => (d.argument, (d.out, (d.matrix, d.poly))))
theorem StageD.ext_iff' {a b : StageD} : a = b ↔ a.argument = b.argument ∧ a.out = b.out ∧ a.matrix = b.matrix ∧ a.poly = b.poly := by
  cases a; cases b; simp
/-- what it counts for in the laws' bound; the marks that it holds -/
def szStage (d : StageD) : Nat := szCipherS d.out + szMatrixProof d.matrix + szPolyProof d.poly
def cnStage (d : StageD) : Nat := cnCipherS d.out + cnMatrixProof d.matrix + cnPolyProof d.poly
theorem cnStage_le (d : StageD) : cnStage d ≤ 4 * szStage d := by
  unfold cnStage szStage; have := cnCipherS_le d.out; have := cnMatrixProof_le d.matrix; have := cnPolyProof_le d.poly; omega
theorem rdStage {w : World} {v : Value} {d : StageD} : (kS rStage).rd w v d ↔ ∃ a1 n1 c1 a2 n2 c2 a3 n3 c3 a4 n4 c4 a5 n5 c5 a6 n6 c6 a7 n7 c7 a8 n8 c8 a9 n9 c9 a10 n10 c10 a11 n11 c11 a12 n12 c12, v = .agg #[.int .i64 d.argument, .slice a1 n1 c1, .slice a2 n2 c2, .slice a3 n3 c3, .slice a4 n4 c4, .slice a5 n5 c5, .slice a6 n6 c6, .slice a7 n7 c7, .slice a8 n8 c8, .slice a9 n9 c9, .slice a10 n10 c10, .slice a11 n11 c11, .slice a12 n12 c12] ∧ I64 d.argument ∧ (kR 75 rCipher).rd w (.slice a1 n1 c1) d.out ∧ sInts.rd w (.slice a2 n2 c2) d.matrix.columns ∧ sInts.rd w (.slice a3 n3 c3) d.matrix.chain ∧ sInts.rd w (.slice a4 n4 c4) d.matrix.pi.c ∧ sInts.rd w (.slice a5 n5 c5) d.matrix.pi.h ∧ sInts.rd w (.slice a6 n6 c6) d.matrix.pi.r ∧ sInts.rd w (.slice a7 n7 c7) d.poly.places ∧ sInts.rd w (.slice a8 n8 c8) d.poly.powers ∧ sInts.rd w (.slice a9 n9 c9) d.poly.chain ∧ sInts.rd w (.slice a10 n10 c10) d.poly.pi.c ∧ sInts.rd w (.slice a11 n11 c11) d.poly.pi.h ∧ sInts.rd w (.slice a12 n12 c12) d.poly.pi.r := by
  constructor
  · rintro ⟨_, rfl, ⟨_, rfl, i1, ⟨v2, _, rfl, h3, ⟨_, _, rfl, ⟨v4, _, rfl, h5, ⟨v6, _, rfl, h7, ⟨v8, _, rfl, h9, ⟨v10, _, rfl, h11, ⟨v12, _, rfl, h13, rfl⟩⟩⟩⟩⟩, ⟨v14, _, rfl, h15, ⟨v16, _, rfl, h17, ⟨v18, _, rfl, h19, ⟨v20, _, rfl, h21, ⟨v22, _, rfl, h23, ⟨v24, _, rfl, h25, rfl⟩⟩⟩⟩⟩⟩⟩⟩⟩⟩
    obtain ⟨_, _, _, rfl⟩ := (kR 75 rCipher).sl h3
    obtain ⟨_, _, _, rfl⟩ := sInts.sl h5
    obtain ⟨_, _, _, rfl⟩ := sInts.sl h7
    obtain ⟨_, _, _, rfl⟩ := sInts.sl h9
    obtain ⟨_, _, _, rfl⟩ := sInts.sl h11
    obtain ⟨_, _, _, rfl⟩ := sInts.sl h13
    obtain ⟨_, _, _, rfl⟩ := sInts.sl h15
    obtain ⟨_, _, _, rfl⟩ := sInts.sl h17
    obtain ⟨_, _, _, rfl⟩ := sInts.sl h19
    obtain ⟨_, _, _, rfl⟩ := sInts.sl h21
    obtain ⟨_, _, _, rfl⟩ := sInts.sl h23
    obtain ⟨_, _, _, rfl⟩ := sInts.sl h25
    exact ⟨_, _, _, _, _, _, _, _, _, _, _, _, _, _, _, _, _, _, _, _, _, _, _, _, _, _, _, _, _, _, _, _, _, _, _, _, rfl, i1, h3, h5, h7, h9, h11, h13, h15, h17, h19, h21, h23, h25⟩
  · rintro ⟨a1, n1, c1, a2, n2, c2, a3, n3, c3, a4, n4, c4, a5, n5, c5, a6, n6, c6, a7, n7, c7, a8, n8, c8, a9, n9, c9, a10, n10, c10, a11, n11, c11, a12, n12, c12, rfl, g0, g1, g2, g3, g4, g5, g6, g7, g8, g9, g10, g11, g12⟩
    exact ⟨_, rfl, ⟨_, rfl, g0, ⟨_, _, rfl, g1, ⟨_, _, rfl, ⟨_, _, rfl, g2, ⟨_, _, rfl, g3, ⟨_, _, rfl, g4, ⟨_, _, rfl, g5, ⟨_, _, rfl, g6, rfl⟩⟩⟩⟩⟩, ⟨_, _, rfl, g7, ⟨_, _, rfl, g8, ⟨_, _, rfl, g9, ⟨_, _, rfl, g10, ⟨_, _, rfl, g11, ⟨_, _, rfl, g12, rfl⟩⟩⟩⟩⟩⟩⟩⟩⟩⟩
set_option maxHeartbeats 2000000 in
theorem laws_eqStage (v1 v2 : Value) (d1 d2 : StageD) (w : World) (h1 : (kS rStage).rd w v1 d1) (h2 : (kS rStage).rd w v2 d2) :
    Calls Try.prog 15 #[v1, v2] w fun e w' => e = .returned (.bool (decide (d1 = d2))) ∧ Below w.heap.size w w' := by
  obtain ⟨a1x, n1x, c1x, a2x, n2x, c2x, a3x, n3x, c3x, a4x, n4x, c4x, a5x, n5x, c5x, a6x, n6x, c6x, a7x, n7x, c7x, a8x, n8x, c8x, a9x, n9x, c9x, a10x, n10x, c10x, a11x, n11x, c11x, a12x, n12x, c12x, rfl, j0x, k1x, k2x, k3x, k4x, k5x, k6x, k7x, k8x, k9x, k10x, k11x, k12x⟩ := rdStage.1 h1
  have Foutx := Lib.hid k1x
  have Fmatrixx : Hid ((kS rMatrixProof).rd w (.agg #[.slice a2x n2x c2x, .slice a3x n3x c3x, .slice a4x n4x c4x, .slice a5x n5x c5x, .slice a6x n6x c6x]) d1.matrix) := rdMatrixProof.2 ⟨_, _, _, _, _, _, _, _, _, _, _, _, _, _, _, rfl, k2x, k3x, k4x, k5x, k6x⟩
  have Fpolyx : Hid ((kS rPolyProof).rd w (.agg #[.slice a7x n7x c7x, .slice a8x n8x c8x, .slice a9x n9x c9x, .slice a10x n10x c10x, .slice a11x n11x c11x, .slice a12x n12x c12x]) d1.poly) := rdPolyProof.2 ⟨_, _, _, _, _, _, _, _, _, _, _, _, _, _, _, _, _, _, rfl, k7x, k8x, k9x, k10x, k11x, k12x⟩
  clear k1x k2x k3x k4x k5x k6x k7x k8x k9x k10x k11x k12x
  clear j0x
  obtain ⟨a1y, n1y, c1y, a2y, n2y, c2y, a3y, n3y, c3y, a4y, n4y, c4y, a5y, n5y, c5y, a6y, n6y, c6y, a7y, n7y, c7y, a8y, n8y, c8y, a9y, n9y, c9y, a10y, n10y, c10y, a11y, n11y, c11y, a12y, n12y, c12y, rfl, j0y, k1y, k2y, k3y, k4y, k5y, k6y, k7y, k8y, k9y, k10y, k11y, k12y⟩ := rdStage.1 h2
  have Fouty := Lib.hid k1y
  have Fmatrixy : Hid ((kS rMatrixProof).rd w (.agg #[.slice a2y n2y c2y, .slice a3y n3y c3y, .slice a4y n4y c4y, .slice a5y n5y c5y, .slice a6y n6y c6y]) d2.matrix) := rdMatrixProof.2 ⟨_, _, _, _, _, _, _, _, _, _, _, _, _, _, _, rfl, k2y, k3y, k4y, k5y, k6y⟩
  have Fpolyy : Hid ((kS rPolyProof).rd w (.agg #[.slice a7y n7y c7y, .slice a8y n8y c8y, .slice a9y n9y c9y, .slice a10y n10y c10y, .slice a11y n11y c11y, .slice a12y n12y c12y]) d2.poly) := rdPolyProof.2 ⟨_, _, _, _, _, _, _, _, _, _, _, _, _, _, _, _, _, _, rfl, k7y, k8y, k9y, k10y, k11y, k12y⟩
  clear k1y k2y k3y k4y k5y k6y k7y k8y k9y k10y k11y k12y
  clear j0y
  clear h1 h2
  obtain ⟨W, hW⟩ : ∃ W, W = (w.alloc (.cells #[.int .i64 d1.argument, .slice a1x n1x c1x, .slice a2x n2x c2x, .slice a3x n3x c3x, .slice a4x n4x c4x, .slice a5x n5x c5x, .slice a6x n6x c6x, .slice a7x n7x c7x, .slice a8x n8x c8x, .slice a9x n9x c9x, .slice a10x n10x c10x, .slice a11x n11x c11x, .slice a12x n12x c12x] 42)).alloc (.cells #[.int .i64 d2.argument, .slice a1y n1y c1y, .slice a2y n2y c2y, .slice a3y n3y c3y, .slice a4y n4y c4y, .slice a5y n5y c5y, .slice a6y n6y c6y, .slice a7y n7y c7y, .slice a8y n8y c8y, .slice a9y n9y c9y, .slice a10y n10y c10y, .slice a11y n11y c11y, .slice a12y n12y c12y] 42) := ⟨_, rfl⟩
  have hs1 : (w.alloc (.cells #[.int .i64 d1.argument, .slice a1x n1x c1x, .slice a2x n2x c2x, .slice a3x n3x c3x, .slice a4x n4x c4x, .slice a5x n5x c5x, .slice a6x n6x c6x, .slice a7x n7x c7x, .slice a8x n8x c8x, .slice a9x n9x c9x, .slice a10x n10x c10x, .slice a11x n11x c11x, .slice a12x n12x c12x] 42)).heap.size = w.heap.size + 1 := by simp
  have HB0 : Hid (Below w.heap.size w W) := by unfold Hid; rw [hW]; (repeat (first | exact Below.refl _ _ | assumption | refine Below.drew ?_ | refine Below.alloc ?_ (by first | (simp; done) | (simp; omega)) _ | refine Below.setCell ?_ (by first | (simp; done) | (simp; omega)) _))
  have BX : Hid (BoxN W w.heap.size 42 [.int .i64 d1.argument, .slice a1x n1x c1x, .slice a2x n2x c2x, .slice a3x n3x c3x, .slice a4x n4x c4x, .slice a5x n5x c5x, .slice a6x n6x c6x, .slice a7x n7x c7x, .slice a8x n8x c8x, .slice a9x n9x c9x, .slice a10x n10x c10x, .slice a11x n11x c11x, .slice a12x n12x c12x]) := by unfold Hid; rw [hW]; exact (BoxN.new w [.int .i64 d1.argument, .slice a1x n1x c1x, .slice a2x n2x c2x, .slice a3x n3x c3x, .slice a4x n4x c4x, .slice a5x n5x c5x, .slice a6x n6x c6x, .slice a7x n7x c7x, .slice a8x n8x c8x, .slice a9x n9x c9x, .slice a10x n10x c10x, .slice a11x n11x c11x, .slice a12x n12x c12x] _).alloc _
  have BY : Hid (BoxN W (w.heap.size + 1) 42 [.int .i64 d2.argument, .slice a1y n1y c1y, .slice a2y n2y c2y, .slice a3y n3y c3y, .slice a4y n4y c4y, .slice a5y n5y c5y, .slice a6y n6y c6y, .slice a7y n7y c7y, .slice a8y n8y c8y, .slice a9y n9y c9y, .slice a10y n10y c10y, .slice a11y n11y c11y, .slice a12y n12y c12y]) := by unfold Hid; rw [hW, ← hs1]; exact BoxN.new _ [.int .i64 d2.argument, .slice a1y n1y c1y, .slice a2y n2y c2y, .slice a3y n3y c3y, .slice a4y n4y c4y, .slice a5y n5y c5y, .slice a6y n6y c6y, .slice a7y n7y c7y, .slice a8y n8y c8y, .slice a9y n9y c9y, .slice a10y n10y c10y, .slice a11y n11y c11y, .slice a12y n12y c12y] _
  obtain ⟨q_argument, hq_argument⟩ : ∃ q, decide (d1.argument = d2.argument) = q := ⟨_, rfl⟩
  obtain ⟨q_out, hq_out⟩ : ∃ q, decide (d1.out = d2.out) = q := ⟨_, rfl⟩
  obtain ⟨q_matrix, hq_matrix⟩ : ∃ q, decide (d1.matrix = d2.matrix) = q := ⟨_, rfl⟩
  obtain ⟨q_poly, hq_poly⟩ : ∃ q, decide (d1.poly = d2.poly) = q := ⟨_, rfl⟩
  have HR : Hid (decide (d1 = d2) = (q_argument && (q_out && (q_matrix && (q_poly))))) := by
    unfold Hid; rw [← hq_argument, ← hq_out, ← hq_matrix, ← hq_poly, Bool.eq_iff_iff]; simp only [Bool.and_eq_true, decide_eq_true_eq]; exact StageD.ext_iff'
  have Q_argument := Lib.hid hq_argument; clear hq_argument
  have Q_out := Lib.hid hq_out; clear hq_out
  have Q_matrix := Lib.hid hq_matrix; clear hq_matrix
  have Q_poly := Lib.hid hq_poly; clear hq_poly
  clear hs1
  have HA0 : Hid (Below W.heap.size W W) := Below.refl _ _
  cases q_argument with
  | false =>
    have hb_argument : (d1.argument != d2.argument) = true := by rw [bne_iff_ne]; exact of_decide_eq_false Q_argument.out
    go_enter Try.func15, Try.ntmps15
    go_wp2_with fail
    (try (go_quiet (fail); go_wp2_with fail))
    go_ret
    exact ⟨ret_bool (by rw [HR.out]; (try rfl)), by (repeat (first | exact Below.refl _ _ | assumption | refine Below.drew ?_ | refine Below.alloc ?_ (by first | (simp; done) | (simp; omega)) _ | refine Below.setCell ?_ (by first | (simp; done) | (simp; omega)) _))⟩
  | true =>
  have hb_argument : (d1.argument != d2.argument) = false := by rw [bne_eq_false_iff_eq]; exact of_decide_eq_true Q_argument.out
  go_enter Try.func15, Try.ntmps15
  go_wp2_with fail
  rw [← hW]
  clear hW
  refine (laws_eqCipherS _ _ d1.out d2.out _ ((kR 75 rCipher).rd_below Foutx.out HB0.out) ((kR 75 rCipher).rd_below Fouty.out HB0.out)).mono ?_
  rintro e w1 ⟨rfl, hb⟩
  rw [Q_out.out]
  have HB1 := Lib.hid (HB0.out.trans (hb.mono HB0.out.size))
  have HA1 := Lib.hid (HA0.out.trans (hb.mono HA0.out.size)); clear hb
  cases q_out with
  | false =>
    go_wp2_with fail
    go_ret
    exact ⟨ret_bool (by rw [HR.out]; (try rfl)), HB1.out⟩
  | true =>
  have px2 := BX.out.below HA1.out |>.cell (i := 2) rfl
  have px3 := BX.out.below HA1.out |>.cell (i := 3) rfl
  have px4 := BX.out.below HA1.out |>.cell (i := 4) rfl
  have px5 := BX.out.below HA1.out |>.cell (i := 5) rfl
  have px6 := BX.out.below HA1.out |>.cell (i := 6) rfl
  have py2 := BY.out.below HA1.out |>.cell (i := 2) rfl
  have py3 := BY.out.below HA1.out |>.cell (i := 3) rfl
  have py4 := BY.out.below HA1.out |>.cell (i := 4) rfl
  have py5 := BY.out.below HA1.out |>.cell (i := 5) rfl
  have py6 := BY.out.below HA1.out |>.cell (i := 6) rfl
  go_wp2_with fail
  clear px2 px3 px4 px5 px6 py2 py3 py4 py5 py6
  refine (laws_eqMatrixProof _ _ d1.matrix d2.matrix _ ((kS rMatrixProof).rd_below Fmatrixx.out HB1.out) ((kS rMatrixProof).rd_below Fmatrixy.out HB1.out)).mono ?_
  rintro e w2 ⟨rfl, hb⟩
  rw [Q_matrix.out]
  have HB2 := Lib.hid (HB1.out.trans (hb.mono HB1.out.size))
  have HA2 := Lib.hid (HA1.out.trans (hb.mono HA1.out.size)); clear hb
  cases q_matrix with
  | false =>
    go_wp2_with fail
    go_ret
    exact ⟨ret_bool (by rw [HR.out]; (try rfl)), HB2.out⟩
  | true =>
  have px7 := BX.out.below HA2.out |>.cell (i := 7) rfl
  have px8 := BX.out.below HA2.out |>.cell (i := 8) rfl
  have px9 := BX.out.below HA2.out |>.cell (i := 9) rfl
  have px10 := BX.out.below HA2.out |>.cell (i := 10) rfl
  have px11 := BX.out.below HA2.out |>.cell (i := 11) rfl
  have px12 := BX.out.below HA2.out |>.cell (i := 12) rfl
  have py7 := BY.out.below HA2.out |>.cell (i := 7) rfl
  have py8 := BY.out.below HA2.out |>.cell (i := 8) rfl
  have py9 := BY.out.below HA2.out |>.cell (i := 9) rfl
  have py10 := BY.out.below HA2.out |>.cell (i := 10) rfl
  have py11 := BY.out.below HA2.out |>.cell (i := 11) rfl
  have py12 := BY.out.below HA2.out |>.cell (i := 12) rfl
  go_wp2_with fail
  clear px7 px8 px9 px10 px11 px12 py7 py8 py9 py10 py11 py12
  refine (laws_eqPolyProof _ _ d1.poly d2.poly _ ((kS rPolyProof).rd_below Fpolyx.out HB2.out) ((kS rPolyProof).rd_below Fpolyy.out HB2.out)).mono ?_
  rintro e w3 ⟨rfl, hb⟩
  rw [Q_poly.out]
  have HB3 := Lib.hid (HB2.out.trans (hb.mono HB2.out.size))
  have HA3 := Lib.hid (HA2.out.trans (hb.mono HA2.out.size)); clear hb
  cases q_poly with
  | false =>
    go_wp2_with fail
    go_ret
    exact ⟨ret_bool (by rw [HR.out]; (try rfl)), HB3.out⟩
  | true =>
  go_wp2_with fail
  go_ret
  exact ⟨ret_bool (by rw [HR.out]; (try rfl)), HB3.out⟩
/-- the struct with marks in its slices, from k0 on -/
def mkStage (k0 : Nat) (d : StageD) : StageD := ⟨d.argument, mkCipherS (k0) d.out, mkMatrixProof (k0 + cnCipherS d.out) d.matrix, mkPolyProof (k0 + cnCipherS d.out + cnMatrixProof d.matrix) d.poly⟩
set_option maxHeartbeats 2000000 in
theorem laws_markStage (lo hi : Nat) (v : Value) (k0 : Nat) (d : StageD) (w : World) (h : (kS rStage).own w lo hi v d) (hk : k0 + cnStage d ≤ 9223372036854775806) (hhi : hi ≤ w.heap.size) :
    Calls Try.prog 16 #[v, .int .i64 k0] w fun e w' => e = .returned (.int .i64 (k0 + cnStage d : Nat)) ∧ (kS rStage).own w' lo hi v (mkStage k0 d) ∧ Within lo hi w w' := by
  have HK : Hid (k0 + cnStage d = k0 + cnCipherS d.out + cnMatrixProof d.matrix + cnPolyProof d.poly) := by unfold Hid cnStage; omega
  unfold cnStage at hk
  obtain ⟨_, rfl, ⟨_, rfl, i_argument, ⟨_, _, l_out, h_out, m_out, t_out, rfl, o_out, ⟨_, _, l_matrix, h_matrix, m_matrix, t_matrix, rfl, o_matrix, o_poly, q_matrix, r_matrix, s_matrix⟩, q_out, r_out, s_out⟩⟩⟩ := h
  obtain ⟨ea_out, en_out, ec_out, rfl⟩ := (kR 75 rCipher).sl ((kR 75 rCipher).own_rd o_out)
  obtain ⟨v48, _, rfl, h49, ⟨v50, _, rfl, h51, ⟨v52, _, rfl, h53, ⟨v54, _, rfl, h55, ⟨v56, _, rfl, h57, rfl⟩⟩⟩⟩⟩ := rMatrixProof.own_rd o_matrix
  obtain ⟨ea_matrix0, en_matrix0, ec_matrix0, rfl⟩ := sInts.sl h49
  clear h49
  obtain ⟨ea_matrix1, en_matrix1, ec_matrix1, rfl⟩ := sInts.sl h51
  clear h51
  obtain ⟨ea_matrix2, en_matrix2, ec_matrix2, rfl⟩ := sInts.sl h53
  clear h53
  obtain ⟨ea_matrix3, en_matrix3, ec_matrix3, rfl⟩ := sInts.sl h55
  clear h55
  obtain ⟨ea_matrix4, en_matrix4, ec_matrix4, rfl⟩ := sInts.sl h57
  clear h57
  obtain ⟨v58, _, rfl, h59, ⟨v60, _, rfl, h61, ⟨v62, _, rfl, h63, ⟨v64, _, rfl, h65, ⟨v66, _, rfl, h67, ⟨v68, _, rfl, h69, rfl⟩⟩⟩⟩⟩⟩ := rPolyProof.own_rd o_poly
  obtain ⟨ea_poly0, en_poly0, ec_poly0, rfl⟩ := sInts.sl h59
  clear h59
  obtain ⟨ea_poly1, en_poly1, ec_poly1, rfl⟩ := sInts.sl h61
  clear h61
  obtain ⟨ea_poly2, en_poly2, ec_poly2, rfl⟩ := sInts.sl h63
  clear h63
  obtain ⟨ea_poly3, en_poly3, ec_poly3, rfl⟩ := sInts.sl h65
  clear h65
  obtain ⟨ea_poly4, en_poly4, ec_poly4, rfl⟩ := sInts.sl h67
  clear h67
  obtain ⟨ea_poly5, en_poly5, ec_poly5, rfl⟩ := sInts.sl h69
  clear h69
  obtain ⟨W, hW⟩ : ∃ W, W = w.alloc (.cells #[.int .i64 d.argument, .slice ea_out en_out ec_out, .slice ea_matrix0 en_matrix0 ec_matrix0, .slice ea_matrix1 en_matrix1 ec_matrix1, .slice ea_matrix2 en_matrix2 ec_matrix2, .slice ea_matrix3 en_matrix3 ec_matrix3, .slice ea_matrix4 en_matrix4 ec_matrix4, .slice ea_poly0 en_poly0 ec_poly0, .slice ea_poly1 en_poly1 ec_poly1, .slice ea_poly2 en_poly2 ec_poly2, .slice ea_poly3 en_poly3 ec_poly3, .slice ea_poly4 en_poly4 ec_poly4, .slice ea_poly5 en_poly5 ec_poly5] 42) := ⟨_, rfl⟩
  have hb : Below w.heap.size w W := by rw [hW]; exact (Below.refl _ _).alloc (Nat.le_refl _) _
  have hs0 : W.heap.size = w.heap.size + 1 := by rw [hW]; simp
  have BX0 : Hid (BoxN W w.heap.size 42 [.int .i64 d.argument, .slice ea_out en_out ec_out, .slice ea_matrix0 en_matrix0 ec_matrix0, .slice ea_matrix1 en_matrix1 ec_matrix1, .slice ea_matrix2 en_matrix2 ec_matrix2, .slice ea_matrix3 en_matrix3 ec_matrix3, .slice ea_matrix4 en_matrix4 ec_matrix4, .slice ea_poly0 en_poly0 ec_poly0, .slice ea_poly1 en_poly1 ec_poly1, .slice ea_poly2 en_poly2 ec_poly2, .slice ea_poly3 en_poly3 ec_poly3, .slice ea_poly4 en_poly4 ec_poly4, .slice ea_poly5 en_poly5 ec_poly5]) := by unfold Hid; rw [hW]; exact BoxN.new w [.int .i64 d.argument, .slice ea_out en_out ec_out, .slice ea_matrix0 en_matrix0 ec_matrix0, .slice ea_matrix1 en_matrix1 ec_matrix1, .slice ea_matrix2 en_matrix2 ec_matrix2, .slice ea_matrix3 en_matrix3 ec_matrix3, .slice ea_matrix4 en_matrix4 ec_matrix4, .slice ea_poly0 en_poly0 ec_poly0, .slice ea_poly1 en_poly1 ec_poly1, .slice ea_poly2 en_poly2 ec_poly2, .slice ea_poly3 en_poly3 ec_poly3, .slice ea_poly4 en_poly4 ec_poly4, .slice ea_poly5 en_poly5 ec_poly5] _
  have O_out := Lib.hid (Kind.next (K := (kR 75 rCipher).toKind) o_out hb)
  clear o_out
  have O_matrix := Lib.hid (RowK.next o_matrix hb)
  clear o_matrix
  have O_poly := Lib.hid (RowK.next o_poly hb)
  clear o_poly
  have G0 : Hid (Within lo hi w W) := Within.of_below hb
  clear hb
  go_enter Try.func16, Try.ntmps16
  go_wp2_with fail
  rw [← hW]
  clear hW
  refine (laws_markCipherS l_out h_out _ (k0) d.out W O_out.out (by omega) (by omega)).mono ?_
  rintro e w1 ⟨rfl, X, g⟩
  replace O_out := Lib.hid X; clear X
  have us1 := g.size
  have BX1 := Lib.hid (BX0.out.kept g (.inr (by omega)))
  replace O_matrix := Lib.hid (RowK.kept O_matrix.out g (by omega))
  replace O_poly := Lib.hid (RowK.kept O_poly.out g (by omega))
  have G1 := Lib.hid (G0.out.trans (g.mono (by omega) (by omega))); clear g
  have p2 := BX1.out.cell (i := 2) rfl
  have p3 := BX1.out.cell (i := 3) rfl
  have p4 := BX1.out.cell (i := 4) rfl
  have p5 := BX1.out.cell (i := 5) rfl
  have p6 := BX1.out.cell (i := 6) rfl
  go_wp2_with fail
  clear p2 p3 p4 p5 p6
  refine (laws_markMatrixProof l_matrix h_matrix _ (k0 + cnCipherS d.out) d.matrix w1 ⟨_, rfl, O_matrix.out⟩ (by omega) (by omega)).mono ?_
  rintro e w2 ⟨rfl, X, g⟩
  obtain ⟨_, hX, X⟩ := X
  have hX2 := congrArg (fun v => match v with | Value.agg a => a.toList | _ => []) hX
  simp only at hX2
  subst hX2
  clear hX
  replace O_matrix := Lib.hid X; clear X
  have us2 := g.size
  have BX2 := Lib.hid (BX1.out.kept g (.inr (by omega)))
  replace O_out := Lib.hid (Kind.kept (K := (kR 75 rCipher).toKind) O_out.out g (by omega))
  replace O_poly := Lib.hid (RowK.kept O_poly.out g (by omega))
  have G2 := Lib.hid (G1.out.trans (g.mono (by omega) (by omega))); clear g
  have p7 := BX2.out.cell (i := 7) rfl
  have p8 := BX2.out.cell (i := 8) rfl
  have p9 := BX2.out.cell (i := 9) rfl
  have p10 := BX2.out.cell (i := 10) rfl
  have p11 := BX2.out.cell (i := 11) rfl
  have p12 := BX2.out.cell (i := 12) rfl
  go_wp2_with fail
  clear p7 p8 p9 p10 p11 p12
  refine (laws_markPolyProof m_matrix t_matrix _ (k0 + cnCipherS d.out + cnMatrixProof d.matrix) d.poly w2 ⟨_, rfl, O_poly.out⟩ (by omega) (by omega)).mono ?_
  rintro e w3 ⟨rfl, X, g⟩
  obtain ⟨_, hX, X⟩ := X
  have hX2 := congrArg (fun v => match v with | Value.agg a => a.toList | _ => []) hX
  simp only at hX2
  subst hX2
  clear hX
  replace O_poly := Lib.hid X; clear X
  have us3 := g.size
  have BX3 := Lib.hid (BX2.out.kept g (.inr (by omega)))
  replace O_out := Lib.hid (Kind.kept (K := (kR 75 rCipher).toKind) O_out.out g (by omega))
  replace O_matrix := Lib.hid (RowK.kept O_matrix.out g (by omega))
  have G3 := Lib.hid (G2.out.trans (g.mono (by omega) (by omega))); clear g
  go_wp2_with fail
  go_ret
  refine ⟨ret_int (by rw [HK.out]; (try omega)), ⟨_, rfl, ⟨_, rfl, i_argument, ⟨_, _, l_out, h_out, m_out, t_out, rfl, O_out.out, ⟨_, _, l_matrix, h_matrix, m_matrix, t_matrix, rfl, O_matrix.out, O_poly.out, q_matrix, r_matrix, s_matrix⟩, q_out, r_out, s_out⟩⟩⟩, G3.out⟩
set_option maxHeartbeats 2000000 in
theorem laws_heldStage (v : Value) (k0 : Nat) (d : StageD) (w : World) (h : (kS rStage).rd w v (mkStage k0 d)) (hk : k0 + cnStage d ≤ 9223372036854775806) :
    Calls Try.prog 17 #[v, .int .i64 k0] w fun e w' => e = .returned (.int .i64 (k0 + cnStage d : Nat)) ∧ Below w.heap.size w w' := by
  have HK : Hid (k0 + cnStage d = k0 + cnCipherS d.out + cnMatrixProof d.matrix + cnPolyProof d.poly) := by unfold Hid cnStage; omega
  unfold cnStage at hk
  obtain ⟨D, hD⟩ : ∃ D, mkStage k0 d = D := ⟨_, rfl⟩
  have D_out : Hid (D.out = mkCipherS (k0) d.out) := by unfold Hid; rw [← hD]; rfl
  have D_matrix : Hid (D.matrix = mkMatrixProof (k0 + cnCipherS d.out) d.matrix) := by unfold Hid; rw [← hD]; rfl
  have D_poly : Hid (D.poly = mkPolyProof (k0 + cnCipherS d.out + cnMatrixProof d.matrix) d.poly) := by unfold Hid; rw [← hD]; rfl
  rw [hD] at h; clear hD
  obtain ⟨a1, n1, c1, a2, n2, c2, a3, n3, c3, a4, n4, c4, a5, n5, c5, a6, n6, c6, a7, n7, c7, a8, n8, c8, a9, n9, c9, a10, n10, c10, a11, n11, c11, a12, n12, c12, rfl, j0, k1, k2, k3, k4, k5, k6, k7, k8, k9, k10, k11, k12⟩ := rdStage.1 h
  have Fout := Lib.hid k1
  have Fmatrix : Hid ((kS rMatrixProof).rd w (.agg #[.slice a2 n2 c2, .slice a3 n3 c3, .slice a4 n4 c4, .slice a5 n5 c5, .slice a6 n6 c6]) D.matrix) := rdMatrixProof.2 ⟨_, _, _, _, _, _, _, _, _, _, _, _, _, _, _, rfl, k2, k3, k4, k5, k6⟩
  have Fpoly : Hid ((kS rPolyProof).rd w (.agg #[.slice a7 n7 c7, .slice a8 n8 c8, .slice a9 n9 c9, .slice a10 n10 c10, .slice a11 n11 c11, .slice a12 n12 c12]) D.poly) := rdPolyProof.2 ⟨_, _, _, _, _, _, _, _, _, _, _, _, _, _, _, _, _, _, rfl, k7, k8, k9, k10, k11, k12⟩
  clear k1 k2 k3 k4 k5 k6 k7 k8 k9 k10 k11 k12
  clear j0
  clear h
  obtain ⟨W, hW⟩ : ∃ W, W = w.alloc (.cells #[.int .i64 D.argument, .slice a1 n1 c1, .slice a2 n2 c2, .slice a3 n3 c3, .slice a4 n4 c4, .slice a5 n5 c5, .slice a6 n6 c6, .slice a7 n7 c7, .slice a8 n8 c8, .slice a9 n9 c9, .slice a10 n10 c10, .slice a11 n11 c11, .slice a12 n12 c12] 42) := ⟨_, rfl⟩
  have HB0 : Hid (Below w.heap.size w W) := by unfold Hid; rw [hW]; exact (Below.refl _ _).alloc (Nat.le_refl _) _
  have BX : Hid (BoxN W w.heap.size 42 [.int .i64 D.argument, .slice a1 n1 c1, .slice a2 n2 c2, .slice a3 n3 c3, .slice a4 n4 c4, .slice a5 n5 c5, .slice a6 n6 c6, .slice a7 n7 c7, .slice a8 n8 c8, .slice a9 n9 c9, .slice a10 n10 c10, .slice a11 n11 c11, .slice a12 n12 c12]) := by unfold Hid; rw [hW]; exact BoxN.new w [.int .i64 D.argument, .slice a1 n1 c1, .slice a2 n2 c2, .slice a3 n3 c3, .slice a4 n4 c4, .slice a5 n5 c5, .slice a6 n6 c6, .slice a7 n7 c7, .slice a8 n8 c8, .slice a9 n9 c9, .slice a10 n10 c10, .slice a11 n11 c11, .slice a12 n12 c12] _
  have HA0 : Hid (Below W.heap.size W W) := Below.refl _ _
  go_enter Try.func17, Try.ntmps17
  go_wp2_with fail
  rw [← hW]
  clear hW
  refine (laws_heldCipherS _ (k0) d.out _ ((kR 75 rCipher).rd_below (by rw [← D_out.out]; exact Fout.out) HB0.out) (by omega)).mono ?_
  rintro e w1 ⟨rfl, hb⟩
  have HB1 := Lib.hid (HB0.out.trans (hb.mono HB0.out.size))
  have HA1 := Lib.hid (HA0.out.trans (hb.mono HA0.out.size)); clear hb
  have hnn0 : ¬ (((k0 + cnCipherS d.out : Nat) : Int) < 0) := by omega
  have p2 := BX.out.below HA1.out |>.cell (i := 2) rfl
  have p3 := BX.out.below HA1.out |>.cell (i := 3) rfl
  have p4 := BX.out.below HA1.out |>.cell (i := 4) rfl
  have p5 := BX.out.below HA1.out |>.cell (i := 5) rfl
  have p6 := BX.out.below HA1.out |>.cell (i := 6) rfl
  go_wp2_with fail
  clear p2 p3 p4 p5 p6
  refine (laws_heldMatrixProof _ (k0 + cnCipherS d.out) d.matrix _ ((kS rMatrixProof).rd_below (by rw [← D_matrix.out]; exact Fmatrix.out) HB1.out) (by omega)).mono ?_
  rintro e w2 ⟨rfl, hb⟩
  have HB2 := Lib.hid (HB1.out.trans (hb.mono HB1.out.size))
  have HA2 := Lib.hid (HA1.out.trans (hb.mono HA1.out.size)); clear hb
  have hnn1 : ¬ (((k0 + cnCipherS d.out + cnMatrixProof d.matrix : Nat) : Int) < 0) := by omega
  have p7 := BX.out.below HA2.out |>.cell (i := 7) rfl
  have p8 := BX.out.below HA2.out |>.cell (i := 8) rfl
  have p9 := BX.out.below HA2.out |>.cell (i := 9) rfl
  have p10 := BX.out.below HA2.out |>.cell (i := 10) rfl
  have p11 := BX.out.below HA2.out |>.cell (i := 11) rfl
  have p12 := BX.out.below HA2.out |>.cell (i := 12) rfl
  go_wp2_with fail
  clear p7 p8 p9 p10 p11 p12
  refine (laws_heldPolyProof _ (k0 + cnCipherS d.out + cnMatrixProof d.matrix) d.poly _ ((kS rPolyProof).rd_below (by rw [← D_poly.out]; exact Fpoly.out) HB2.out) (by omega)).mono ?_
  rintro e w3 ⟨rfl, hb⟩
  have HB3 := Lib.hid (HB2.out.trans (hb.mono HB2.out.size))
  have HA3 := Lib.hid (HA2.out.trans (hb.mono HA2.out.size)); clear hb
  have hnn2 : ¬ (((k0 + cnCipherS d.out + cnMatrixProof d.matrix + cnPolyProof d.poly : Nat) : Int) < 0) := by omega
  go_wp2_with fail
  go_ret
  exact ⟨ret_int (by rw [HK.out]; (try omega)), HB3.out⟩
end Go.Proofs.Ytbcaknmpbkapnaa
