/- The struct MatrixProof as a kind (printed by genkind.py): its data, its row, the walks of the laws' helpers. -/
import Derived.Test.YtcpigedjblkcfaaBa
import Derived.Test.YtcpigedjblkcfaaBk
namespace Go.Proofs.Ytcpigedjblkcfaa
open Go.RowKit
set_option linter.unusedSimpArgs false
set_option linter.unusedVariables false

structure MatrixProofD where
  columns : List Int
  chain : List Int
  pi : ProofD
deriving DecidableEq
abbrev rMatrixProof : RowK MatrixProofD := rMap (rS sInts (rS sInts rProof)) (fun d => (d.columns, (d.chain, d.pi)))
theorem MatrixProofD.ext_iff' {a b : MatrixProofD} : a = b ↔ a.columns = b.columns ∧ a.chain = b.chain ∧ a.pi = b.pi := by
  cases a; cases b; simp
/-- what it counts for in the laws' bound; the marks that it holds -/
def szMatrixProof (d : MatrixProofD) : Nat := d.columns.length + d.chain.length + szProof d.pi
def cnMatrixProof (d : MatrixProofD) : Nat := d.columns.length + d.chain.length + cnProof d.pi
theorem cnMatrixProof_le (d : MatrixProofD) : cnMatrixProof d ≤ 4 * szMatrixProof d := by
  unfold cnMatrixProof szMatrixProof; have := cnProof_le d.pi; omega
theorem rdMatrixProof {w : World} {v : Value} {d : MatrixProofD} : (kS rMatrixProof).rd w v d ↔ ∃ a0 n0 c0 a1 n1 c1 a2 n2 c2 a3 n3 c3 a4 n4 c4, v = .agg #[.slice a0 n0 c0, .slice a1 n1 c1, .slice a2 n2 c2, .slice a3 n3 c3, .slice a4 n4 c4] ∧ sInts.rd w (.slice a0 n0 c0) d.columns ∧ sInts.rd w (.slice a1 n1 c1) d.chain ∧ sInts.rd w (.slice a2 n2 c2) d.pi.c ∧ sInts.rd w (.slice a3 n3 c3) d.pi.h ∧ sInts.rd w (.slice a4 n4 c4) d.pi.r := by
  constructor
  · rintro ⟨_, rfl, ⟨v1, _, rfl, h2, ⟨v3, _, rfl, h4, ⟨v5, _, rfl, h6, ⟨v7, _, rfl, h8, ⟨v9, _, rfl, h10, rfl⟩⟩⟩⟩⟩⟩
    obtain ⟨_, _, _, rfl⟩ := sInts.sl h2
    obtain ⟨_, _, _, rfl⟩ := sInts.sl h4
    obtain ⟨_, _, _, rfl⟩ := sInts.sl h6
    obtain ⟨_, _, _, rfl⟩ := sInts.sl h8
    obtain ⟨_, _, _, rfl⟩ := sInts.sl h10
    exact ⟨_, _, _, _, _, _, _, _, _, _, _, _, _, _, _, rfl, h2, h4, h6, h8, h10⟩
  · rintro ⟨a0, n0, c0, a1, n1, c1, a2, n2, c2, a3, n3, c3, a4, n4, c4, rfl, g0, g1, g2, g3, g4⟩
    exact ⟨_, rfl, ⟨_, _, rfl, g0, ⟨_, _, rfl, g1, ⟨_, _, rfl, g2, ⟨_, _, rfl, g3, ⟨_, _, rfl, g4, rfl⟩⟩⟩⟩⟩⟩
set_option maxHeartbeats 2000000 in
theorem laws_szMatrixProof (v : Value) (d : MatrixProofD) (left : Int) (w : World) (h : (kS rMatrixProof).rd w v d) (h0 : 0 ≤ left) (h1 : left ≤ 1000000000) :
    Calls Try.prog 90 #[v, .int .i64 left] w fun e w' => (∃ r : Int, e = .returned (.int .i64 r) ∧ I64 r ∧ (0 ≤ r → (szMatrixProof d : Int) + r ≤ left)) ∧ Below w.heap.size w w' := by
  obtain ⟨a0, n0, c0, a1, n1, c1, a2, n2, c2, a3, n3, c3, a4, n4, c4, rfl, k0, k1, k2, k3, k4⟩ := rdMatrixProof.1 h
  have Fcolumns := Lib.hid k0
  have Fchain := Lib.hid k1
  have Fpi : Hid ((kS rProof).rd w (.agg #[.slice a2 n2 c2, .slice a3 n3 c3, .slice a4 n4 c4]) d.pi) := rdProof.2 ⟨_, _, _, _, _, _, _, _, _, rfl, k2, k3, k4⟩
  clear k0 k1 k2 k3 k4
  clear h
  obtain ⟨W, hW⟩ : ∃ W, W = w.alloc (.cells #[.slice a0 n0 c0, .slice a1 n1 c1, .slice a2 n2 c2, .slice a3 n3 c3, .slice a4 n4 c4] 49) := ⟨_, rfl⟩
  have HB0 : Hid (Below w.heap.size w W) := by unfold Hid; rw [hW]; exact (Below.refl _ _).alloc (Nat.le_refl _) _
  have BX : Hid (BoxN W w.heap.size 49 [.slice a0 n0 c0, .slice a1 n1 c1, .slice a2 n2 c2, .slice a3 n3 c3, .slice a4 n4 c4]) := by unfold Hid; rw [hW]; exact BoxN.new w [.slice a0 n0 c0, .slice a1 n1 c1, .slice a2 n2 c2, .slice a3 n3 c3, .slice a4 n4 c4] _
  go_enter Try.func90, Try.ntmps90
  go_wp2_with fail
  rw [← hW]
  clear hW
  have HA0 : Hid (Below W.heap.size W W) := Below.refl _ _
  refine (laws_szI _ d.columns left _ (sInts.rd_below Fcolumns.out HB0.out) h0 h1).mono ?_
  rintro e w1 ⟨⟨r0, rfl, hr0, hq0⟩, hb⟩
  have HB1 := Lib.hid (HB0.out.trans (hb.mono HB0.out.size))
  have HA1 := Lib.hid (HA0.out.trans (hb.mono HA0.out.size)); clear hb
  by_cases hn0 : r0 < 0
  · go_wp2_with fail
    go_ret
    exact ⟨⟨_, rfl, ⟨by decide, by decide⟩, fun h => by omega⟩, HB1.out⟩
  have hz0 := hq0 (by omega)
  have hp0 : r0 ≤ 1000000000 := by omega
  clear hq0
  have p1 := BX.out.below HA1.out |>.cell (i := 1) rfl
  go_wp2_with fail
  clear p1
  refine (laws_szI _ d.chain r0 _ (sInts.rd_below Fchain.out HB1.out) (by omega) hp0).mono ?_
  rintro e w2 ⟨⟨r1, rfl, hr1, hq1⟩, hb⟩
  have HB2 := Lib.hid (HB1.out.trans (hb.mono HB1.out.size))
  have HA2 := Lib.hid (HA1.out.trans (hb.mono HA1.out.size)); clear hb
  by_cases hn1 : r1 < 0
  · go_wp2_with fail
    go_ret
    exact ⟨⟨_, rfl, ⟨by decide, by decide⟩, fun h => by omega⟩, HB2.out⟩
  have hz1 := hq1 (by omega)
  have hp1 : r1 ≤ 1000000000 := by omega
  clear hq1
  have p2 := BX.out.below HA2.out |>.cell (i := 2) rfl
  have p3 := BX.out.below HA2.out |>.cell (i := 3) rfl
  have p4 := BX.out.below HA2.out |>.cell (i := 4) rfl
  go_wp2_with fail
  clear p2 p3 p4
  refine (laws_szProof _ d.pi r1 _ ((kS rProof).rd_below Fpi.out HB2.out) (by omega) hp1).mono ?_
  rintro e w3 ⟨⟨r2, rfl, hr2, hq2⟩, hb⟩
  have HB3 := Lib.hid (HB2.out.trans (hb.mono HB2.out.size))
  have HA3 := Lib.hid (HA2.out.trans (hb.mono HA2.out.size)); clear hb
  by_cases hn2 : r2 < 0
  · go_wp2_with fail
    go_ret
    exact ⟨⟨_, rfl, ⟨by decide, by decide⟩, fun h => by omega⟩, HB3.out⟩
  have hz2 := hq2 (by omega)
  have hp2 : r2 ≤ 1000000000 := by omega
  clear hq2
  go_wp2_with fail
  go_ret
  exact ⟨⟨_, rfl, hr2, fun h => by unfold szMatrixProof; omega⟩, HB3.out⟩
set_option maxHeartbeats 2000000 in
theorem laws_eqMatrixProof (v1 v2 : Value) (d1 d2 : MatrixProofD) (w : World) (h1 : (kS rMatrixProof).rd w v1 d1) (h2 : (kS rMatrixProof).rd w v2 d2) :
    Calls Try.prog 107 #[v1, v2] w fun e w' => e = .returned (.bool (decide (d1 = d2))) ∧ Below w.heap.size w w' := by
  obtain ⟨a0x, n0x, c0x, a1x, n1x, c1x, a2x, n2x, c2x, a3x, n3x, c3x, a4x, n4x, c4x, rfl, k0x, k1x, k2x, k3x, k4x⟩ := rdMatrixProof.1 h1
  have Fcolumnsx := Lib.hid k0x
  have Fchainx := Lib.hid k1x
  have Fpix : Hid ((kS rProof).rd w (.agg #[.slice a2x n2x c2x, .slice a3x n3x c3x, .slice a4x n4x c4x]) d1.pi) := rdProof.2 ⟨_, _, _, _, _, _, _, _, _, rfl, k2x, k3x, k4x⟩
  clear k0x k1x k2x k3x k4x
  obtain ⟨a0y, n0y, c0y, a1y, n1y, c1y, a2y, n2y, c2y, a3y, n3y, c3y, a4y, n4y, c4y, rfl, k0y, k1y, k2y, k3y, k4y⟩ := rdMatrixProof.1 h2
  have Fcolumnsy := Lib.hid k0y
  have Fchainy := Lib.hid k1y
  have Fpiy : Hid ((kS rProof).rd w (.agg #[.slice a2y n2y c2y, .slice a3y n3y c3y, .slice a4y n4y c4y]) d2.pi) := rdProof.2 ⟨_, _, _, _, _, _, _, _, _, rfl, k2y, k3y, k4y⟩
  clear k0y k1y k2y k3y k4y
  clear h1 h2
  obtain ⟨W, hW⟩ : ∃ W, W = (w.alloc (.cells #[.slice a0x n0x c0x, .slice a1x n1x c1x, .slice a2x n2x c2x, .slice a3x n3x c3x, .slice a4x n4x c4x] 59)).alloc (.cells #[.slice a0y n0y c0y, .slice a1y n1y c1y, .slice a2y n2y c2y, .slice a3y n3y c3y, .slice a4y n4y c4y] 59) := ⟨_, rfl⟩
  have hs1 : (w.alloc (.cells #[.slice a0x n0x c0x, .slice a1x n1x c1x, .slice a2x n2x c2x, .slice a3x n3x c3x, .slice a4x n4x c4x] 59)).heap.size = w.heap.size + 1 := by simp
  have HB0 : Hid (Below w.heap.size w W) := by unfold Hid; rw [hW]; (repeat (first | exact Below.refl _ _ | assumption | refine Below.drew ?_ | refine Below.alloc ?_ (by first | (simp; done) | (simp; omega)) _ | refine Below.setCell ?_ (by first | (simp; done) | (simp; omega)) _))
  have BX : Hid (BoxN W w.heap.size 59 [.slice a0x n0x c0x, .slice a1x n1x c1x, .slice a2x n2x c2x, .slice a3x n3x c3x, .slice a4x n4x c4x]) := by unfold Hid; rw [hW]; exact (BoxN.new w [.slice a0x n0x c0x, .slice a1x n1x c1x, .slice a2x n2x c2x, .slice a3x n3x c3x, .slice a4x n4x c4x] _).alloc _
  have BY : Hid (BoxN W (w.heap.size + 1) 59 [.slice a0y n0y c0y, .slice a1y n1y c1y, .slice a2y n2y c2y, .slice a3y n3y c3y, .slice a4y n4y c4y]) := by unfold Hid; rw [hW, ← hs1]; exact BoxN.new _ [.slice a0y n0y c0y, .slice a1y n1y c1y, .slice a2y n2y c2y, .slice a3y n3y c3y, .slice a4y n4y c4y] _
  obtain ⟨q_columns, hq_columns⟩ : ∃ q, decide (d1.columns = d2.columns) = q := ⟨_, rfl⟩
  obtain ⟨q_chain, hq_chain⟩ : ∃ q, decide (d1.chain = d2.chain) = q := ⟨_, rfl⟩
  obtain ⟨q_pi, hq_pi⟩ : ∃ q, decide (d1.pi = d2.pi) = q := ⟨_, rfl⟩
  have HR : Hid (decide (d1 = d2) = (q_columns && (q_chain && (q_pi)))) := by
    unfold Hid; rw [← hq_columns, ← hq_chain, ← hq_pi, Bool.eq_iff_iff]; simp only [Bool.and_eq_true, decide_eq_true_eq]; exact MatrixProofD.ext_iff'
  have Q_columns := Lib.hid hq_columns; clear hq_columns
  have Q_chain := Lib.hid hq_chain; clear hq_chain
  have Q_pi := Lib.hid hq_pi; clear hq_pi
  clear hs1
  have HA0 : Hid (Below W.heap.size W W) := Below.refl _ _
  go_enter Try.func107, Try.ntmps107
  go_wp2_with fail
  rw [← hW]
  clear hW
  refine (laws_eqI _ _ d1.columns d2.columns _ (sInts.rd_below Fcolumnsx.out HB0.out) (sInts.rd_below Fcolumnsy.out HB0.out)).mono ?_
  rintro e w1 ⟨rfl, hb⟩
  rw [Q_columns.out]
  have HB1 := Lib.hid (HB0.out.trans (hb.mono HB0.out.size))
  have HA1 := Lib.hid (HA0.out.trans (hb.mono HA0.out.size)); clear hb
  cases q_columns with
  | false =>
    go_wp2_with fail
    go_ret
    exact ⟨ret_bool (by rw [HR.out]; (try rfl)), HB1.out⟩
  | true =>
  have px1 := BX.out.below HA1.out |>.cell (i := 1) rfl
  have py1 := BY.out.below HA1.out |>.cell (i := 1) rfl
  go_wp2_with fail
  clear px1 py1
  refine (laws_eqI _ _ d1.chain d2.chain _ (sInts.rd_below Fchainx.out HB1.out) (sInts.rd_below Fchainy.out HB1.out)).mono ?_
  rintro e w2 ⟨rfl, hb⟩
  rw [Q_chain.out]
  have HB2 := Lib.hid (HB1.out.trans (hb.mono HB1.out.size))
  have HA2 := Lib.hid (HA1.out.trans (hb.mono HA1.out.size)); clear hb
  cases q_chain with
  | false =>
    go_wp2_with fail
    go_ret
    exact ⟨ret_bool (by rw [HR.out]; (try rfl)), HB2.out⟩
  | true =>
  have px2 := BX.out.below HA2.out |>.cell (i := 2) rfl
  have px3 := BX.out.below HA2.out |>.cell (i := 3) rfl
  have px4 := BX.out.below HA2.out |>.cell (i := 4) rfl
  have py2 := BY.out.below HA2.out |>.cell (i := 2) rfl
  have py3 := BY.out.below HA2.out |>.cell (i := 3) rfl
  have py4 := BY.out.below HA2.out |>.cell (i := 4) rfl
  go_wp2_with fail
  clear px2 px3 px4 py2 py3 py4
  refine (laws_eqProof _ _ d1.pi d2.pi _ ((kS rProof).rd_below Fpix.out HB2.out) ((kS rProof).rd_below Fpiy.out HB2.out)).mono ?_
  rintro e w3 ⟨rfl, hb⟩
  rw [Q_pi.out]
  have HB3 := Lib.hid (HB2.out.trans (hb.mono HB2.out.size))
  have HA3 := Lib.hid (HA2.out.trans (hb.mono HA2.out.size)); clear hb
  cases q_pi with
  | false =>
    go_wp2_with fail
    go_ret
    exact ⟨ret_bool (by rw [HR.out]; (try rfl)), HB3.out⟩
  | true =>
  go_wp2_with fail
  go_ret
  exact ⟨ret_bool (by rw [HR.out]; (try rfl)), HB3.out⟩
set_option maxHeartbeats 4000000 in
theorem laws_toMatrixProof (v : Value) (d : MatrixProofD) (w : World) (h : (kS rMatrixProof).rd w v d) (hl : (szMatrixProof d : Int) ≤ 1000000000) :
    Calls Try.prog 97 #[v] w fun e w' => ∃ v', e = .returned v' ∧ (kS rMatrixProof).own w' w.heap.size w'.heap.size v' d ∧ Below w.heap.size w w' := by
  unfold szMatrixProof at hl
  have L_columns : Hid (((d.columns.length : Nat) : Int) ≤ 1000000000) := by unfold Hid; omega
  have L_chain : Hid (((d.chain.length : Nat) : Int) ≤ 1000000000) := by unfold Hid; omega
  have L_pi : Hid (((szProof d.pi : Nat) : Int) ≤ 1000000000) := by unfold Hid; omega
  obtain ⟨a0, n0, c0, a1, n1, c1, a2, n2, c2, a3, n3, c3, a4, n4, c4, rfl, k0, k1, k2, k3, k4⟩ := rdMatrixProof.1 h
  have Fcolumns := Lib.hid k0
  have Fchain := Lib.hid k1
  have Fpi : Hid ((kS rProof).rd w (.agg #[.slice a2 n2 c2, .slice a3 n3 c3, .slice a4 n4 c4]) d.pi) := rdProof.2 ⟨_, _, _, _, _, _, _, _, _, rfl, k2, k3, k4⟩
  clear k0 k1 k2 k3 k4
  clear h hl
  obtain ⟨W, hW⟩ : ∃ W, W = ((w.alloc (.cells #[.slice a0 n0 c0, .slice a1 n1 c1, .slice a2 n2 c2, .slice a3 n3 c3, .slice a4 n4 c4] 49)).alloc (.cells #[.slice none 0 0, .slice none 0 0, .slice none 0 0, .slice none 0 0, .slice none 0 0] 59)).alloc (.cells #[.slice none 0 0, .slice none 0 0, .slice none 0 0, .slice none 0 0, .slice none 0 0] 59) := ⟨_, rfl⟩
  have hs1 : (w.alloc (.cells #[.slice a0 n0 c0, .slice a1 n1 c1, .slice a2 n2 c2, .slice a3 n3 c3, .slice a4 n4 c4] 49)).heap.size = w.heap.size + 1 := by simp
  have hs2 : ((w.alloc (.cells #[.slice a0 n0 c0, .slice a1 n1 c1, .slice a2 n2 c2, .slice a3 n3 c3, .slice a4 n4 c4] 49)).alloc (.cells #[.slice none 0 0, .slice none 0 0, .slice none 0 0, .slice none 0 0, .slice none 0 0] 59)).heap.size = w.heap.size + 1 + 1 := by simp
  have hs0 : W.heap.size = w.heap.size + 1 + 1 + 1 := by rw [hW]; simp
  have HB0 : Hid (Below w.heap.size w W) := by unfold Hid; rw [hW]; (repeat (first | exact Below.refl _ _ | assumption | refine Below.drew ?_ | refine Below.alloc ?_ (by first | (simp; done) | (simp; omega)) _ | refine Below.setCell ?_ (by first | (simp; done) | (simp; omega)) _))
  have BX0 : Hid (BoxN W w.heap.size 49 [.slice a0 n0 c0, .slice a1 n1 c1, .slice a2 n2 c2, .slice a3 n3 c3, .slice a4 n4 c4]) := by unfold Hid; rw [hW]; exact ((BoxN.new w [.slice a0 n0 c0, .slice a1 n1 c1, .slice a2 n2 c2, .slice a3 n3 c3, .slice a4 n4 c4] _).alloc _).alloc _
  have BR0 : Hid (BoxN W (w.heap.size + 1) 59 [.slice none 0 0, .slice none 0 0, .slice none 0 0, .slice none 0 0, .slice none 0 0]) := by unfold Hid; rw [hW, ← hs1]; exact (BoxN.new _ [.slice none 0 0, .slice none 0 0, .slice none 0 0, .slice none 0 0, .slice none 0 0] _).alloc _
  have BO0 : Hid (BoxN W (w.heap.size + 1 + 1) 59 [.slice none 0 0, .slice none 0 0, .slice none 0 0, .slice none 0 0, .slice none 0 0]) := by unfold Hid; rw [hW, ← hs2]; exact BoxN.new _ [.slice none 0 0, .slice none 0 0, .slice none 0 0, .slice none 0 0, .slice none 0 0] _
  have HW := Lib.hid hW; clear hW hs1 hs2
  go_enter Try.func97, Try.ntmps97
  go_wp2_with fail
  rw [← HW.out]
  refine (laws_toI _ d.columns W (sInts.rd_below Fcolumns.out HB0.out) L_columns.out).mono ?_
  rintro e w1 ⟨v1, rfl, X, hb⟩
  obtain ⟨ea_columns, en_columns, ec_columns, rfl⟩ := sInts.sl (sInts.own_rd X)
  have O_columns := Lib.hid X; clear X
  have us1 := hb.size
  have HB1 := Lib.hid (HB0.out.trans (hb.mono HB0.out.size))
  have BX1 := Lib.hid (BX0.out.below hb)
  have BR1 := Lib.hid (BR0.out.below hb)
  have BO1 := Lib.hid (BO0.out.below hb)
  clear hb
  have px0 := BX1.out.cell (i := 0) rfl
  have po0 := BO1.out.cell (i := 0) rfl
  have pr0 := BR1.out.cell (i := 0) rfl
  have px1 := BX1.out.cell (i := 1) rfl
  have po1 := BO1.out.cell (i := 1) rfl
  have pr1 := BR1.out.cell (i := 1) rfl
  have px2 := BX1.out.cell (i := 2) rfl
  have po2 := BO1.out.cell (i := 2) rfl
  have pr2 := BR1.out.cell (i := 2) rfl
  have px3 := BX1.out.cell (i := 3) rfl
  have po3 := BO1.out.cell (i := 3) rfl
  have pr3 := BR1.out.cell (i := 3) rfl
  have px4 := BX1.out.cell (i := 4) rfl
  have po4 := BO1.out.cell (i := 4) rfl
  have pr4 := BR1.out.cell (i := 4) rfl
  have fo := BO1.out.frozen
  have fr := BR1.out.frozen
  have st0 : w.heap.size < w1.heap.size := by omega
  have st1 : w.heap.size + 1 < w1.heap.size := by omega
  have st2 : w.heap.size + 1 + 1 < w1.heap.size := by omega
  go_wp2_with fail
  obtain ⟨u2, hU⟩ : ∃ U, U = ((w1).setCell ⟨w.heap.size + 1 + 1, 0, none⟩ (.slice ea_columns en_columns ec_columns)) := ⟨_, rfl⟩
  rw [← hU]
  have hwi : Within (w.heap.size + 1 + 1) (w.heap.size + 1 + 1 + 1) w1 u2 := by rw [hU]; exact (Within.refl _ _ _ |>.setCell (by omega) (by omega) _ _)
  have us2 : u2.heap.size = w1.heap.size := by rw [hU]; simp only [size_setC]
  have HB2 : Hid (Below w.heap.size w u2) := HB1.out.trans (hwi.below (by omega) (by omega))
  have BX2 : Hid (BoxN u2 w.heap.size 49 [.slice a0 n0 c0, .slice a1 n1 c1, .slice a2 n2 c2, .slice a3 n3 c3, .slice a4 n4 c4]) := BX1.out.kept hwi (.inl (by omega))
  have BR2 : Hid (BoxN u2 (w.heap.size + 1) 59 [.slice none 0 0, .slice none 0 0, .slice none 0 0, .slice none 0 0, .slice none 0 0]) := BR1.out.kept hwi (.inl (by omega))
  have BO2 : Hid (BoxN u2 (w.heap.size + 1 + 1) 59 [.slice ea_columns en_columns ec_columns, .slice none 0 0, .slice none 0 0, .slice none 0 0, .slice none 0 0]) := by unfold Hid; rw [hU]; exact (BO1.out.set 0 _)
  replace O_columns := Lib.hid (Kind.kept (K := sInts.toKind) O_columns.out hwi (.inr (by omega)))
  clear hwi hU
  clear px0 po0 pr0 px1 po1 pr1 px2 po2 pr2 px3 po3 pr3 px4 po4 pr4 fo fr st0 st1 st2
  refine (laws_toI _ d.chain u2 (sInts.rd_below Fchain.out HB2.out) L_chain.out).mono ?_
  rintro e w3 ⟨v3, rfl, X, hb⟩
  obtain ⟨ea_chain, en_chain, ec_chain, rfl⟩ := sInts.sl (sInts.own_rd X)
  have O_chain := Lib.hid X; clear X
  have us3 := hb.size
  have HB3 := Lib.hid (HB2.out.trans (hb.mono HB2.out.size))
  have BX3 := Lib.hid (BX2.out.below hb)
  have BR3 := Lib.hid (BR2.out.below hb)
  have BO3 := Lib.hid (BO2.out.below hb)
  replace O_columns := Lib.hid (Kind.next (K := sInts.toKind) O_columns.out hb)
  clear hb
  have px0 := BX3.out.cell (i := 0) rfl
  have po0 := BO3.out.cell (i := 0) rfl
  have pr0 := BR3.out.cell (i := 0) rfl
  have px1 := BX3.out.cell (i := 1) rfl
  have po1 := BO3.out.cell (i := 1) rfl
  have pr1 := BR3.out.cell (i := 1) rfl
  have px2 := BX3.out.cell (i := 2) rfl
  have po2 := BO3.out.cell (i := 2) rfl
  have pr2 := BR3.out.cell (i := 2) rfl
  have px3 := BX3.out.cell (i := 3) rfl
  have po3 := BO3.out.cell (i := 3) rfl
  have pr3 := BR3.out.cell (i := 3) rfl
  have px4 := BX3.out.cell (i := 4) rfl
  have po4 := BO3.out.cell (i := 4) rfl
  have pr4 := BR3.out.cell (i := 4) rfl
  have fo := BO3.out.frozen
  have fr := BR3.out.frozen
  have st0 : w.heap.size < w3.heap.size := by omega
  have st1 : w.heap.size + 1 < w3.heap.size := by omega
  have st2 : w.heap.size + 1 + 1 < w3.heap.size := by omega
  go_wp2_with fail
  obtain ⟨u4, hU⟩ : ∃ U, U = ((w3).setCell ⟨w.heap.size + 1 + 1, 1, none⟩ (.slice ea_chain en_chain ec_chain)) := ⟨_, rfl⟩
  rw [← hU]
  have hwi : Within (w.heap.size + 1 + 1) (w.heap.size + 1 + 1 + 1) w3 u4 := by rw [hU]; exact (Within.refl _ _ _ |>.setCell (by omega) (by omega) _ _)
  have us4 : u4.heap.size = w3.heap.size := by rw [hU]; simp only [size_setC]
  have HB4 : Hid (Below w.heap.size w u4) := HB3.out.trans (hwi.below (by omega) (by omega))
  have BX4 : Hid (BoxN u4 w.heap.size 49 [.slice a0 n0 c0, .slice a1 n1 c1, .slice a2 n2 c2, .slice a3 n3 c3, .slice a4 n4 c4]) := BX3.out.kept hwi (.inl (by omega))
  have BR4 : Hid (BoxN u4 (w.heap.size + 1) 59 [.slice none 0 0, .slice none 0 0, .slice none 0 0, .slice none 0 0, .slice none 0 0]) := BR3.out.kept hwi (.inl (by omega))
  have BO4 : Hid (BoxN u4 (w.heap.size + 1 + 1) 59 [.slice ea_columns en_columns ec_columns, .slice ea_chain en_chain ec_chain, .slice none 0 0, .slice none 0 0, .slice none 0 0]) := by unfold Hid; rw [hU]; exact (BO3.out.set 1 _)
  replace O_columns := Lib.hid (Kind.kept (K := sInts.toKind) O_columns.out hwi (.inr (by omega)))
  replace O_chain := Lib.hid (Kind.kept (K := sInts.toKind) O_chain.out hwi (.inr (by omega)))
  clear hwi hU
  clear px0 po0 pr0 px1 po1 pr1 px2 po2 pr2 px3 po3 pr3 px4 po4 pr4 fo fr st0 st1 st2
  refine (laws_toProof _ d.pi u4 ((kS rProof).rd_below Fpi.out HB4.out) L_pi.out).mono ?_
  rintro e w5 ⟨v5, rfl, X, hb⟩
  obtain ⟨_, rfl, X⟩ := X
  obtain ⟨v11, _, rfl, h12, ⟨v13, _, rfl, h14, ⟨v15, _, rfl, h16, rfl⟩⟩⟩ := rProof.own_rd X
  obtain ⟨ea_pi0, en_pi0, ec_pi0, rfl⟩ := sInts.sl h12
  clear h12
  obtain ⟨ea_pi1, en_pi1, ec_pi1, rfl⟩ := sInts.sl h14
  clear h14
  obtain ⟨ea_pi2, en_pi2, ec_pi2, rfl⟩ := sInts.sl h16
  clear h16
  have O_pi := Lib.hid X; clear X
  have us5 := hb.size
  have HB5 := Lib.hid (HB4.out.trans (hb.mono HB4.out.size))
  have BX5 := Lib.hid (BX4.out.below hb)
  have BR5 := Lib.hid (BR4.out.below hb)
  have BO5 := Lib.hid (BO4.out.below hb)
  replace O_columns := Lib.hid (Kind.next (K := sInts.toKind) O_columns.out hb)
  replace O_chain := Lib.hid (Kind.next (K := sInts.toKind) O_chain.out hb)
  clear hb
  have px0 := BX5.out.cell (i := 0) rfl
  have po0 := BO5.out.cell (i := 0) rfl
  have pr0 := BR5.out.cell (i := 0) rfl
  have px1 := BX5.out.cell (i := 1) rfl
  have po1 := BO5.out.cell (i := 1) rfl
  have pr1 := BR5.out.cell (i := 1) rfl
  have px2 := BX5.out.cell (i := 2) rfl
  have po2 := BO5.out.cell (i := 2) rfl
  have pr2 := BR5.out.cell (i := 2) rfl
  have px3 := BX5.out.cell (i := 3) rfl
  have po3 := BO5.out.cell (i := 3) rfl
  have pr3 := BR5.out.cell (i := 3) rfl
  have px4 := BX5.out.cell (i := 4) rfl
  have po4 := BO5.out.cell (i := 4) rfl
  have pr4 := BR5.out.cell (i := 4) rfl
  have fo := BO5.out.frozen
  have fr := BR5.out.frozen
  have st0 : w.heap.size < w5.heap.size := by omega
  have st1 : w.heap.size + 1 < w5.heap.size := by omega
  have st2 : w.heap.size + 1 + 1 < w5.heap.size := by omega
  go_wp2_with fail
  obtain ⟨V, hV⟩ : ∃ U, U = (((((((((w5).setCell ⟨w.heap.size + 1 + 1, 2, none⟩ (.slice ea_pi0 en_pi0 ec_pi0)).setCell ⟨w.heap.size + 1 + 1, 3, none⟩ (.slice ea_pi1 en_pi1 ec_pi1)).setCell ⟨w.heap.size + 1 + 1, 4, none⟩ (.slice ea_pi2 en_pi2 ec_pi2)).setCell ⟨w.heap.size + 1, 0, none⟩ (.slice ea_columns en_columns ec_columns)).setCell ⟨w.heap.size + 1, 1, none⟩ (.slice ea_chain en_chain ec_chain)).setCell ⟨w.heap.size + 1, 2, none⟩ (.slice ea_pi0 en_pi0 ec_pi0)).setCell ⟨w.heap.size + 1, 3, none⟩ (.slice ea_pi1 en_pi1 ec_pi1)).setCell ⟨w.heap.size + 1, 4, none⟩ (.slice ea_pi2 en_pi2 ec_pi2)) := ⟨_, rfl⟩
  rw [← hV]
  have hwi : Within (w.heap.size + 1) (w.heap.size + 1 + 1 + 1) w5 V := by rw [hV]; exact ((((((((Within.refl _ _ _ |>.setCell (by omega) (by omega) _ _) |>.setCell (by omega) (by omega) _ _) |>.setCell (by omega) (by omega) _ _) |>.setCell (by omega) (by omega) _ _) |>.setCell (by omega) (by omega) _ _) |>.setCell (by omega) (by omega) _ _) |>.setCell (by omega) (by omega) _ _) |>.setCell (by omega) (by omega) _ _)
  have hs : V.heap.size = w5.heap.size := by rw [hV]; simp only [size_setC]
  have BV : BoxN V (w.heap.size + 1) 59 [.slice ea_columns en_columns ec_columns, .slice ea_chain en_chain ec_chain, .slice ea_pi0 en_pi0 ec_pi0, .slice ea_pi1 en_pi1 ec_pi1, .slice ea_pi2 en_pi2 ec_pi2] := by rw [hV]; exact ((((((((BR5.out.other (by omega) _ _).other (by omega) _ _).other (by omega) _ _).set 0 _).set 1 _).set 2 _).set 3 _).set 4 _)
  replace O_columns := Lib.hid (Kind.kept (K := sInts.toKind) O_columns.out hwi (.inr (by omega)))
  replace O_chain := Lib.hid (Kind.kept (K := sInts.toKind) O_chain.out hwi (.inr (by omega)))
  replace O_pi := Lib.hid (RowK.kept O_pi.out hwi (.inr (by omega)))
  clear hV
  clear px0 po0 pr0 px1 po1 pr1 px2 po2 pr2 px3 po3 pr3 px4 po4 pr4 fo fr st0 st1 st2
  have r0 := BV.cell (i := 0) rfl
  have r1 := BV.cell (i := 1) rfl
  have r2 := BV.cell (i := 2) rfl
  have r3 := BV.cell (i := 3) rfl
  have r4 := BV.cell (i := 4) rfl
  refine bodyPost_ret (v := .agg #[.slice ea_columns en_columns ec_columns, .slice ea_chain en_chain ec_chain, .slice ea_pi0 en_pi0 ec_pi0, .slice ea_pi1 en_pi1 ec_pi1, .slice ea_pi2 en_pi2 ec_pi2]) (by simp [results, Try.results97, go_sem, r0, r1, r2, r3, r4]) rfl ⟨_, rfl, ⟨_, rfl, ⟨_, _, W.heap.size, w1.heap.size, u2.heap.size, V.heap.size, rfl, O_columns.out, ⟨_, _, u2.heap.size, w3.heap.size, u4.heap.size, V.heap.size, rfl, O_chain.out, (rProof.own_mono O_pi.out (by omega) (by omega)), ⟨by omega, by omega⟩, ⟨by omega, by omega⟩, by omega⟩, ⟨by omega, by omega⟩, ⟨by omega, by omega⟩, by omega⟩⟩, ?_⟩
  exact HB5.out.trans (hwi.below (by omega) (by omega))
/-- the struct with marks in its slices, from k0 on -/
def mkMatrixProof (k0 : Nat) (d : MatrixProofD) : MatrixProofD := ⟨mkI (k0) d.columns, mkI (k0 + d.columns.length) d.chain, mkProof (k0 + d.columns.length + d.chain.length) d.pi⟩
set_option maxHeartbeats 2000000 in
theorem laws_markMatrixProof (lo hi : Nat) (v : Value) (k0 : Nat) (d : MatrixProofD) (w : World) (h : (kS rMatrixProof).own w lo hi v d) (hk : k0 + cnMatrixProof d ≤ 9223372036854775806) (hhi : hi ≤ w.heap.size) :
    Calls Try.prog 110 #[v, .int .i64 k0] w fun e w' => e = .returned (.int .i64 (k0 + cnMatrixProof d : Nat)) ∧ (kS rMatrixProof).own w' lo hi v (mkMatrixProof k0 d) ∧ Within lo hi w w' := by
  have HK : Hid (k0 + cnMatrixProof d = k0 + d.columns.length + d.chain.length + cnProof d.pi) := by unfold Hid cnMatrixProof; omega
  unfold cnMatrixProof at hk
  obtain ⟨_, rfl, ⟨_, _, l_columns, h_columns, m_columns, t_columns, rfl, o_columns, ⟨_, _, l_chain, h_chain, m_chain, t_chain, rfl, o_chain, o_pi, q_chain, r_chain, s_chain⟩, q_columns, r_columns, s_columns⟩⟩ := h
  obtain ⟨ea_columns, en_columns, ec_columns, rfl⟩ := sInts.sl (sInts.own_rd o_columns)
  obtain ⟨ea_chain, en_chain, ec_chain, rfl⟩ := sInts.sl (sInts.own_rd o_chain)
  obtain ⟨v17, _, rfl, h18, ⟨v19, _, rfl, h20, ⟨v21, _, rfl, h22, rfl⟩⟩⟩ := rProof.own_rd o_pi
  obtain ⟨ea_pi0, en_pi0, ec_pi0, rfl⟩ := sInts.sl h18
  clear h18
  obtain ⟨ea_pi1, en_pi1, ec_pi1, rfl⟩ := sInts.sl h20
  clear h20
  obtain ⟨ea_pi2, en_pi2, ec_pi2, rfl⟩ := sInts.sl h22
  clear h22
  obtain ⟨W, hW⟩ : ∃ W, W = w.alloc (.cells #[.slice ea_columns en_columns ec_columns, .slice ea_chain en_chain ec_chain, .slice ea_pi0 en_pi0 ec_pi0, .slice ea_pi1 en_pi1 ec_pi1, .slice ea_pi2 en_pi2 ec_pi2] 59) := ⟨_, rfl⟩
  have hb : Below w.heap.size w W := by rw [hW]; exact (Below.refl _ _).alloc (Nat.le_refl _) _
  have hs0 : W.heap.size = w.heap.size + 1 := by rw [hW]; simp
  have BX0 : Hid (BoxN W w.heap.size 59 [.slice ea_columns en_columns ec_columns, .slice ea_chain en_chain ec_chain, .slice ea_pi0 en_pi0 ec_pi0, .slice ea_pi1 en_pi1 ec_pi1, .slice ea_pi2 en_pi2 ec_pi2]) := by unfold Hid; rw [hW]; exact BoxN.new w [.slice ea_columns en_columns ec_columns, .slice ea_chain en_chain ec_chain, .slice ea_pi0 en_pi0 ec_pi0, .slice ea_pi1 en_pi1 ec_pi1, .slice ea_pi2 en_pi2 ec_pi2] _
  have O_columns := Lib.hid (Kind.next (K := sInts.toKind) o_columns hb)
  clear o_columns
  have O_chain := Lib.hid (Kind.next (K := sInts.toKind) o_chain hb)
  clear o_chain
  have O_pi := Lib.hid (RowK.next o_pi hb)
  clear o_pi
  have G0 : Hid (Within lo hi w W) := Within.of_below hb
  clear hb
  go_enter Try.func110, Try.ntmps110
  go_wp2_with fail
  rw [← hW]
  clear hW
  refine (laws_markI l_columns h_columns _ (k0) d.columns W O_columns.out (by omega) (by omega)).mono ?_
  rintro e w1 ⟨rfl, X, g⟩
  replace O_columns := Lib.hid X; clear X
  have us1 := g.size
  have BX1 := Lib.hid (BX0.out.kept g (.inr (by omega)))
  replace O_chain := Lib.hid (Kind.kept (K := sInts.toKind) O_chain.out g (by omega))
  replace O_pi := Lib.hid (RowK.kept O_pi.out g (by omega))
  have G1 := Lib.hid (G0.out.trans (g.mono (by omega) (by omega))); clear g
  have p1 := BX1.out.cell (i := 1) rfl
  go_wp2_with fail
  clear p1
  refine (laws_markI l_chain h_chain _ (k0 + d.columns.length) d.chain w1 O_chain.out (by omega) (by omega)).mono ?_
  rintro e w2 ⟨rfl, X, g⟩
  replace O_chain := Lib.hid X; clear X
  have us2 := g.size
  have BX2 := Lib.hid (BX1.out.kept g (.inr (by omega)))
  replace O_columns := Lib.hid (Kind.kept (K := sInts.toKind) O_columns.out g (by omega))
  replace O_pi := Lib.hid (RowK.kept O_pi.out g (by omega))
  have G2 := Lib.hid (G1.out.trans (g.mono (by omega) (by omega))); clear g
  have p2 := BX2.out.cell (i := 2) rfl
  have p3 := BX2.out.cell (i := 3) rfl
  have p4 := BX2.out.cell (i := 4) rfl
  go_wp2_with fail
  clear p2 p3 p4
  refine (laws_markProof m_chain t_chain _ (k0 + d.columns.length + d.chain.length) d.pi w2 ⟨_, rfl, O_pi.out⟩ (by omega) (by omega)).mono ?_
  rintro e w3 ⟨rfl, X, g⟩
  obtain ⟨_, hX, X⟩ := X
  have hX2 := congrArg (fun v => match v with | Value.agg a => a.toList | _ => []) hX
  simp only at hX2
  subst hX2
  clear hX
  replace O_pi := Lib.hid X; clear X
  have us3 := g.size
  have BX3 := Lib.hid (BX2.out.kept g (.inr (by omega)))
  replace O_columns := Lib.hid (Kind.kept (K := sInts.toKind) O_columns.out g (by omega))
  replace O_chain := Lib.hid (Kind.kept (K := sInts.toKind) O_chain.out g (by omega))
  have G3 := Lib.hid (G2.out.trans (g.mono (by omega) (by omega))); clear g
  go_wp2_with fail
  go_ret
  refine ⟨ret_int (by rw [HK.out]; (try omega)), ⟨_, rfl, ⟨_, _, l_columns, h_columns, m_columns, t_columns, rfl, O_columns.out, ⟨_, _, l_chain, h_chain, m_chain, t_chain, rfl, O_chain.out, O_pi.out, q_chain, r_chain, s_chain⟩, q_columns, r_columns, s_columns⟩⟩, G3.out⟩
end Go.Proofs.Ytcpigedjblkcfaa
