/- The struct MatrixProof as a kind (printed by genkind.py): its data, its row, the walks of the laws' helpers. -/
import Derived.Test.YtbcaknmpbkapnaaBa
import Derived.Test.YtbcaknmpbkapnaaBk
namespace Go.Proofs.Ytbcaknmpbkapnaa
open Go.RowKit
set_option linter.unusedSimpArgs false
set_option linter.unusedVariables false

structure MatrixProofD where
  columns : List Int
  chain : List Int
  pi : ProofD
deriving DecidableEq
abbrev rMatrixProof : RowK MatrixProofD := rMap (rS sInts (rS sInts rProof)) (fun d => (d.columns, (d.chain, d.pi)))
theorem MatrixProofD.ext_iff' {a b : MatrixProofD} : a = b ↔ a.columns = b.columns ∧ a.chain = b.chain ∧ a.pi = b.pi := by
  cases a; cases b; simp
/-- what it counts for in the laws' bound; the marks that it holds -/
def szMatrixProof (d : MatrixProofD) : Nat := d.columns.length + d.chain.length + szProof d.pi
def cnMatrixProof (d : MatrixProofD) : Nat := d.columns.length + d.chain.length + cnProof d.pi
theorem cnMatrixProof_le (d : MatrixProofD) : cnMatrixProof d ≤ 4 * szMatrixProof d := by
  unfold cnMatrixProof szMatrixProof; have := cnProof_le d.pi; omega
theorem rdMatrixProof {w : World} {v : Value} {d : MatrixProofD} : (kS rMatrixProof).rd w v d ↔ ∃ a0 n0 c0 a1 n1 c1 a2 n2 c2 a3 n3 c3 a4 n4 c4, v = .agg #[.slice a0 n0 c0, .slice a1 n1 c1, .slice a2 n2 c2, .slice a3 n3 c3, .slice a4 n4 c4] ∧ sInts.rd w (.slice a0 n0 c0) d.columns ∧ sInts.rd w (.slice a1 n1 c1) d.chain ∧ sInts.rd w (.slice a2 n2 c2) d.pi.c ∧ sInts.rd w (.slice a3 n3 c3) d.pi.h ∧ sInts.rd w (.slice a4 n4 c4) d.pi.r := by
  constructor
  · rintro ⟨_, rfl, ⟨v1, _, rfl, h2, ⟨v3, _, rfl, h4, ⟨v5, _, rfl, h6, ⟨v7, _, rfl, h8, ⟨v9, _, rfl, h10, rfl⟩⟩⟩⟩⟩⟩
    obtain ⟨_, _, _, rfl⟩ := sInts.sl h2
    obtain ⟨_, _, _, rfl⟩ := sInts.sl h4
    obtain ⟨_, _, _, rfl⟩ := sInts.sl h6
    obtain ⟨_, _, _, rfl⟩ := sInts.sl h8
    obtain ⟨_, _, _, rfl⟩ := sInts.sl h10
    exact ⟨_, _, _, _, _, _, _, _, _, _, _, _, _, _, _, rfl, h2, h4, h6, h8, h10⟩
  · rintro ⟨a0, n0, c0, a1, n1, c1, a2, n2, c2, a3, n3, c3, a4, n4, c4, rfl, g0, g1, g2, g3, g4⟩
    exact ⟨_, rfl, ⟨_, _, rfl, g0, ⟨_, _, rfl, g1, ⟨_, _, rfl, g2, ⟨_, _, rfl, g3, ⟨_, _, rfl, g4, rfl⟩⟩⟩⟩⟩⟩
set_option maxHeartbeats 2000000 in
theorem laws_eqMatrixProof (v1 v2 : Value) (d1 d2 : MatrixProofD) (w : World) (h1 : (kS rMatrixProof).rd w v1 d1) (h2 : (kS rMatrixProof).rd w v2 d2) :
    Calls Try.prog 35 #[v1, v2] w fun e w' => e = .returned (.bool (decide (d1 = d2))) ∧ Below w.heap.size w w' := by
  obtain ⟨a0x, n0x, c0x, a1x, n1x, c1x, a2x, n2x, c2x, a3x, n3x, c3x, a4x, n4x, c4x, rfl, k0x, k1x, k2x, k3x, k4x⟩ := rdMatrixProof.1 h1
  have Fcolumnsx := Lib.hid k0x
  have Fchainx := Lib.hid k1x
  have Fpix : Hid ((kS rProof).rd w (.agg #[.slice a2x n2x c2x, .slice a3x n3x c3x, .slice a4x n4x c4x]) d1.pi) := rdProof.2 ⟨_, _, _, _, _, _, _, _, _, rfl, k2x, k3x, k4x⟩
  clear k0x k1x k2x k3x k4x
  obtain ⟨a0y, n0y, c0y, a1y, n1y, c1y, a2y, n2y, c2y, a3y, n3y, c3y, a4y, n4y, c4y, rfl, k0y, k1y, k2y, k3y, k4y⟩ := rdMatrixProof.1 h2
  have Fcolumnsy := Lib.hid k0y
  have Fchainy := Lib.hid k1y
  have Fpiy : Hid ((kS rProof).rd w (.agg #[.slice a2y n2y c2y, .slice a3y n3y c3y, .slice a4y n4y c4y]) d2.pi) := rdProof.2 ⟨_, _, _, _, _, _, _, _, _, rfl, k2y, k3y, k4y⟩
  clear k0y k1y k2y k3y k4y
  clear h1 h2
  obtain ⟨W, hW⟩ : ∃ W, W = (w.alloc (.cells #[.slice a0x n0x c0x, .slice a1x n1x c1x, .slice a2x n2x c2x, .slice a3x n3x c3x, .slice a4x n4x c4x] 38)).alloc (.cells #[.slice a0y n0y c0y, .slice a1y n1y c1y, .slice a2y n2y c2y, .slice a3y n3y c3y, .slice a4y n4y c4y] 38) := ⟨_, rfl⟩
  have hs1 : (w.alloc (.cells #[.slice a0x n0x c0x, .slice a1x n1x c1x, .slice a2x n2x c2x, .slice a3x n3x c3x, .slice a4x n4x c4x] 38)).heap.size = w.heap.size + 1 := by simp
  have HB0 : Hid (Below w.heap.size w W) := by unfold Hid; rw [hW]; (repeat (first | exact Below.refl _ _ | assumption | refine Below.drew ?_ | refine Below.alloc ?_ (by first | (simp; done) | (simp; omega)) _ | refine Below.setCell ?_ (by first | (simp; done) | (simp; omega)) _))
  have BX : Hid (BoxN W w.heap.size 38 [.slice a0x n0x c0x, .slice a1x n1x c1x, .slice a2x n2x c2x, .slice a3x n3x c3x, .slice a4x n4x c4x]) := by unfold Hid; rw [hW]; exact (BoxN.new w [.slice a0x n0x c0x, .slice a1x n1x c1x, .slice a2x n2x c2x, .slice a3x n3x c3x, .slice a4x n4x c4x] _).alloc _
  have BY : Hid (BoxN W (w.heap.size + 1) 38 [.slice a0y n0y c0y, .slice a1y n1y c1y, .slice a2y n2y c2y, .slice a3y n3y c3y, .slice a4y n4y c4y]) := by unfold Hid; rw [hW, ← hs1]; exact BoxN.new _ [.slice a0y n0y c0y, .slice a1y n1y c1y, .slice a2y n2y c2y, .slice a3y n3y c3y, .slice a4y n4y c4y] _
  obtain ⟨q_columns, hq_columns⟩ : ∃ q, decide (d1.columns = d2.columns) = q := ⟨_, rfl⟩
  obtain ⟨q_chain, hq_chain⟩ : ∃ q, decide (d1.chain = d2.chain) = q := ⟨_, rfl⟩
  obtain ⟨q_pi, hq_pi⟩ : ∃ q, decide (d1.pi = d2.pi) = q := ⟨_, rfl⟩
  have HR : Hid (decide (d1 = d2) = (q_columns && (q_chain && (q_pi)))) := by
    unfold Hid; rw [← hq_columns, ← hq_chain, ← hq_pi, Bool.eq_iff_iff]; simp only [Bool.and_eq_true, decide_eq_true_eq]; exact MatrixProofD.ext_iff'
  have Q_columns := Lib.hid hq_columns; clear hq_columns
  have Q_chain := Lib.hid hq_chain; clear hq_chain
  have Q_pi := Lib.hid hq_pi; clear hq_pi
  clear hs1
  have HA0 : Hid (Below W.heap.size W W) := Below.refl _ _
  go_enter Try.func35, Try.ntmps35
  go_wp2_with fail
  rw [← hW]
  clear hW
  refine (laws_eqI _ _ d1.columns d2.columns _ (sInts.rd_below Fcolumnsx.out HB0.out) (sInts.rd_below Fcolumnsy.out HB0.out)).mono ?_
  rintro e w1 ⟨rfl, hb⟩
  rw [Q_columns.out]
  have HB1 := Lib.hid (HB0.out.trans (hb.mono HB0.out.size))
  have HA1 := Lib.hid (HA0.out.trans (hb.mono HA0.out.size)); clear hb
  cases q_columns with
  | false =>
    go_wp2_with fail
    go_ret
    exact ⟨ret_bool (by rw [HR.out]; (try rfl)), HB1.out⟩
  | true =>
  have px1 := BX.out.below HA1.out |>.cell (i := 1) rfl
  have py1 := BY.out.below HA1.out |>.cell (i := 1) rfl
  go_wp2_with fail
  clear px1 py1
  refine (laws_eqI _ _ d1.chain d2.chain _ (sInts.rd_below Fchainx.out HB1.out) (sInts.rd_below Fchainy.out HB1.out)).mono ?_
  rintro e w2 ⟨rfl, hb⟩
  rw [Q_chain.out]
  have HB2 := Lib.hid (HB1.out.trans (hb.mono HB1.out.size))
  have HA2 := Lib.hid (HA1.out.trans (hb.mono HA1.out.size)); clear hb
  cases q_chain with
  | false =>
    go_wp2_with fail
    go_ret
    exact ⟨ret_bool (by rw [HR.out]; (try rfl)), HB2.out⟩
  | true =>
  have px2 := BX.out.below HA2.out |>.cell (i := 2) rfl
  have px3 := BX.out.below HA2.out |>.cell (i := 3) rfl
  have px4 := BX.out.below HA2.out |>.cell (i := 4) rfl
  have py2 := BY.out.below HA2.out |>.cell (i := 2) rfl
  have py3 := BY.out.below HA2.out |>.cell (i := 3) rfl
  have py4 := BY.out.below HA2.out |>.cell (i := 4) rfl
  go_wp2_with fail
  clear px2 px3 px4 py2 py3 py4
  refine (laws_eqProof _ _ d1.pi d2.pi _ ((kS rProof).rd_below Fpix.out HB2.out) ((kS rProof).rd_below Fpiy.out HB2.out)).mono ?_
  rintro e w3 ⟨rfl, hb⟩
  rw [Q_pi.out]
  have HB3 := Lib.hid (HB2.out.trans (hb.mono HB2.out.size))
  have HA3 := Lib.hid (HA2.out.trans (hb.mono HA2.out.size)); clear hb
  cases q_pi with
  | false =>
    go_wp2_with fail
    go_ret
    exact ⟨ret_bool (by rw [HR.out]; (try rfl)), HB3.out⟩
  | true =>
  go_wp2_with fail
  go_ret
  exact ⟨ret_bool (by rw [HR.out]; (try rfl)), HB3.out⟩
/-- the struct with marks in its slices, from k0 on -/
def mkMatrixProof (k0 : Nat) (d : MatrixProofD) : MatrixProofD := ⟨mkI (k0) d.columns, mkI (k0 + d.columns.length) d.chain, mkProof (k0 + d.columns.length + d.chain.length) d.pi⟩
set_option maxHeartbeats 2000000 in
theorem laws_markMatrixProof (lo hi : Nat) (v : Value) (k0 : Nat) (d : MatrixProofD) (w : World) (h : (kS rMatrixProof).own w lo hi v d) (hk : k0 + cnMatrixProof d ≤ 9223372036854775806) (hhi : hi ≤ w.heap.size) :
    Calls Try.prog 37 #[v, .int .i64 k0] w fun e w' => e = .returned (.int .i64 (k0 + cnMatrixProof d : Nat)) ∧ (kS rMatrixProof).own w' lo hi v (mkMatrixProof k0 d) ∧ Within lo hi w w' := by
  have HK : Hid (k0 + cnMatrixProof d = k0 + d.columns.length + d.chain.length + cnProof d.pi) := by unfold Hid cnMatrixProof; omega
  unfold cnMatrixProof at hk
  obtain ⟨_, rfl, ⟨_, _, l_columns, h_columns, m_columns, t_columns, rfl, o_columns, ⟨_, _, l_chain, h_chain, m_chain, t_chain, rfl, o_chain, o_pi, q_chain, r_chain, s_chain⟩, q_columns, r_columns, s_columns⟩⟩ := h
  obtain ⟨ea_columns, en_columns, ec_columns, rfl⟩ := sInts.sl (sInts.own_rd o_columns)
  obtain ⟨ea_chain, en_chain, ec_chain, rfl⟩ := sInts.sl (sInts.own_rd o_chain)
  obtain ⟨v17, _, rfl, h18, ⟨v19, _, rfl, h20, ⟨v21, _, rfl, h22, rfl⟩⟩⟩ := rProof.own_rd o_pi
  obtain ⟨ea_pi0, en_pi0, ec_pi0, rfl⟩ := sInts.sl h18
  clear h18
  obtain ⟨ea_pi1, en_pi1, ec_pi1, rfl⟩ := sInts.sl h20
  clear h20
  obtain ⟨ea_pi2, en_pi2, ec_pi2, rfl⟩ := sInts.sl h22
  clear h22
  obtain ⟨W, hW⟩ : ∃ W, W = w.alloc (.cells #[.slice ea_columns en_columns ec_columns, .slice ea_chain en_chain ec_chain, .slice ea_pi0 en_pi0 ec_pi0, .slice ea_pi1 en_pi1 ec_pi1, .slice ea_pi2 en_pi2 ec_pi2] 38) := ⟨_, rfl⟩
  have hb : Below w.heap.size w W := by rw [hW]; exact (Below.refl _ _).alloc (Nat.le_refl _) _
  have hs0 : W.heap.size = w.heap.size + 1 := by rw [hW]; simp
  have BX0 : Hid (BoxN W w.heap.size 38 [.slice ea_columns en_columns ec_columns, .slice ea_chain en_chain ec_chain, .slice ea_pi0 en_pi0 ec_pi0, .slice ea_pi1 en_pi1 ec_pi1, .slice ea_pi2 en_pi2 ec_pi2]) := by unfold Hid; rw [hW]; exact BoxN.new w [.slice ea_columns en_columns ec_columns, .slice ea_chain en_chain ec_chain, .slice ea_pi0 en_pi0 ec_pi0, .slice ea_pi1 en_pi1 ec_pi1, .slice ea_pi2 en_pi2 ec_pi2] _
  have O_columns := Lib.hid (Kind.next (K := sInts.toKind) o_columns hb)
  clear o_columns
  have O_chain := Lib.hid (Kind.next (K := sInts.toKind) o_chain hb)
  clear o_chain
  have O_pi := Lib.hid (RowK.next o_pi hb)
  clear o_pi
  have G0 : Hid (Within lo hi w W) := Within.of_below hb
  clear hb
  go_enter Try.func37, Try.ntmps37
  go_wp2_with fail
  rw [← hW]
  clear hW
  refine (laws_markI l_columns h_columns _ (k0) d.columns W O_columns.out (by omega) (by omega)).mono ?_
  rintro e w1 ⟨rfl, X, g⟩
  replace O_columns := Lib.hid X; clear X
  have us1 := g.size
  have BX1 := Lib.hid (BX0.out.kept g (.inr (by omega)))
  replace O_chain := Lib.hid (Kind.kept (K := sInts.toKind) O_chain.out g (by omega))
  replace O_pi := Lib.hid (RowK.kept O_pi.out g (by omega))
  have G1 := Lib.hid (G0.out.trans (g.mono (by omega) (by omega))); clear g
  have p1 := BX1.out.cell (i := 1) rfl
  go_wp2_with fail
  clear p1
  refine (laws_markI l_chain h_chain _ (k0 + d.columns.length) d.chain w1 O_chain.out (by omega) (by omega)).mono ?_
  rintro e w2 ⟨rfl, X, g⟩
  replace O_chain := Lib.hid X; clear X
  have us2 := g.size
  have BX2 := Lib.hid (BX1.out.kept g (.inr (by omega)))
  replace O_columns := Lib.hid (Kind.kept (K := sInts.toKind) O_columns.out g (by omega))
  replace O_pi := Lib.hid (RowK.kept O_pi.out g (by omega))
  have G2 := Lib.hid (G1.out.trans (g.mono (by omega) (by omega))); clear g
  have p2 := BX2.out.cell (i := 2) rfl
  have p3 := BX2.out.cell (i := 3) rfl
  have p4 := BX2.out.cell (i := 4) rfl
  go_wp2_with fail
  clear p2 p3 p4
  refine (laws_markProof m_chain t_chain _ (k0 + d.columns.length + d.chain.length) d.pi w2 ⟨_, rfl, O_pi.out⟩ (by omega) (by omega)).mono ?_
  rintro e w3 ⟨rfl, X, g⟩
  obtain ⟨_, hX, X⟩ := X
  have hX2 := congrArg (fun v => match v with | Value.agg a => a.toList | _ => []) hX
  simp only at hX2
  subst hX2
  clear hX
  replace O_pi := Lib.hid X; clear X
  have us3 := g.size
  have BX3 := Lib.hid (BX2.out.kept g (.inr (by omega)))
  replace O_columns := Lib.hid (Kind.kept (K := sInts.toKind) O_columns.out g (by omega))
  replace O_chain := Lib.hid (Kind.kept (K := sInts.toKind) O_chain.out g (by omega))
  have G3 := Lib.hid (G2.out.trans (g.mono (by omega) (by omega))); clear g
  go_wp2_with fail
  go_ret
  refine ⟨ret_int (by rw [HK.out]; (try omega)), ⟨_, rfl, ⟨_, _, l_columns, h_columns, m_columns, t_columns, rfl, O_columns.out, ⟨_, _, l_chain, h_chain, m_chain, t_chain, rfl, O_chain.out, O_pi.out, q_chain, r_chain, s_chain⟩, q_columns, r_columns, s_columns⟩⟩, G3.out⟩
set_option maxHeartbeats 2000000 in
theorem laws_heldMatrixProof (v : Value) (k0 : Nat) (d : MatrixProofD) (w : World) (h : (kS rMatrixProof).rd w v (mkMatrixProof k0 d)) (hk : k0 + cnMatrixProof d ≤ 9223372036854775806) :
    Calls Try.prog 39 #[v, .int .i64 k0] w fun e w' => e = .returned (.int .i64 (k0 + cnMatrixProof d : Nat)) ∧ Below w.heap.size w w' := by
  have HK : Hid (k0 + cnMatrixProof d = k0 + d.columns.length + d.chain.length + cnProof d.pi) := by unfold Hid cnMatrixProof; omega
  unfold cnMatrixProof at hk
  obtain ⟨D, hD⟩ : ∃ D, mkMatrixProof k0 d = D := ⟨_, rfl⟩
  have D_columns : Hid (D.columns = mkI (k0) d.columns) := by unfold Hid; rw [← hD]; rfl
  have D_chain : Hid (D.chain = mkI (k0 + d.columns.length) d.chain) := by unfold Hid; rw [← hD]; rfl
  have D_pi : Hid (D.pi = mkProof (k0 + d.columns.length + d.chain.length) d.pi) := by unfold Hid; rw [← hD]; rfl
  rw [hD] at h; clear hD
  obtain ⟨a0, n0, c0, a1, n1, c1, a2, n2, c2, a3, n3, c3, a4, n4, c4, rfl, k0, k1, k2, k3, k4⟩ := rdMatrixProof.1 h
  have Fcolumns := Lib.hid k0
  have Fchain := Lib.hid k1
  have Fpi : Hid ((kS rProof).rd w (.agg #[.slice a2 n2 c2, .slice a3 n3 c3, .slice a4 n4 c4]) D.pi) := rdProof.2 ⟨_, _, _, _, _, _, _, _, _, rfl, k2, k3, k4⟩
  clear k0 k1 k2 k3 k4
  clear h
  obtain ⟨W, hW⟩ : ∃ W, W = w.alloc (.cells #[.slice a0 n0 c0, .slice a1 n1 c1, .slice a2 n2 c2, .slice a3 n3 c3, .slice a4 n4 c4] 38) := ⟨_, rfl⟩
  have HB0 : Hid (Below w.heap.size w W) := by unfold Hid; rw [hW]; exact (Below.refl _ _).alloc (Nat.le_refl _) _
  have BX : Hid (BoxN W w.heap.size 38 [.slice a0 n0 c0, .slice a1 n1 c1, .slice a2 n2 c2, .slice a3 n3 c3, .slice a4 n4 c4]) := by unfold Hid; rw [hW]; exact BoxN.new w [.slice a0 n0 c0, .slice a1 n1 c1, .slice a2 n2 c2, .slice a3 n3 c3, .slice a4 n4 c4] _
  have HA0 : Hid (Below W.heap.size W W) := Below.refl _ _
  go_enter Try.func39, Try.ntmps39
  go_wp2_with fail
  rw [← hW]
  clear hW
  refine (laws_heldI _ (k0) d.columns _ (sInts.rd_below (by rw [← D_columns.out]; exact Fcolumns.out) HB0.out) (by omega)).mono ?_
  rintro e w1 ⟨rfl, hb⟩
  have HB1 := Lib.hid (HB0.out.trans (hb.mono HB0.out.size))
  have HA1 := Lib.hid (HA0.out.trans (hb.mono HA0.out.size)); clear hb
  have hnn0 : ¬ (((k0 + d.columns.length : Nat) : Int) < 0) := by omega
  have p1 := BX.out.below HA1.out |>.cell (i := 1) rfl
  go_wp2_with fail
  clear p1
  refine (laws_heldI _ (k0 + d.columns.length) d.chain _ (sInts.rd_below (by rw [← D_chain.out]; exact Fchain.out) HB1.out) (by omega)).mono ?_
  rintro e w2 ⟨rfl, hb⟩
  have HB2 := Lib.hid (HB1.out.trans (hb.mono HB1.out.size))
  have HA2 := Lib.hid (HA1.out.trans (hb.mono HA1.out.size)); clear hb
  have hnn1 : ¬ (((k0 + d.columns.length + d.chain.length : Nat) : Int) < 0) := by omega
  have p2 := BX.out.below HA2.out |>.cell (i := 2) rfl
  have p3 := BX.out.below HA2.out |>.cell (i := 3) rfl
  have p4 := BX.out.below HA2.out |>.cell (i := 4) rfl
  go_wp2_with fail
  clear p2 p3 p4
  refine (laws_heldProof _ (k0 + d.columns.length + d.chain.length) d.pi _ ((kS rProof).rd_below (by rw [← D_pi.out]; exact Fpi.out) HB2.out) (by omega)).mono ?_
  rintro e w3 ⟨rfl, hb⟩
  have HB3 := Lib.hid (HB2.out.trans (hb.mono HB2.out.size))
  have HA3 := Lib.hid (HA2.out.trans (hb.mono HA2.out.size)); clear hb
  have hnn2 : ¬ (((k0 + d.columns.length + d.chain.length + cnProof d.pi : Nat) : Int) < 0) := by omega
  go_wp2_with fail
  go_ret
  exact ⟨ret_int (by rw [HK.out]; (try omega)), HB3.out⟩
end Go.Proofs.Ytbcaknmpbkapnaa
