/- The struct ForkEvidence as a kind (printed by genkind.py): its data, its row, the walks of the laws' helpers. -/
import Derived.Test.YtapfceghgkmgoaaRows1
import Derived.Test.YtapfceghgkmgoaaKHead
namespace Go.Proofs.Ytapfceghgkmgoaa
open Go.RowKit
set_option linter.unusedSimpArgs false
set_option linter.unusedVariables false

structure ForkEvidenceD where
  first : HeadD
  second : HeadD
deriving DecidableEq
abbrev rForkEvidence : RowK ForkEvidenceD := rMap (rA rHead rHead) (fun d => (d.first, d.second))
theorem ForkEvidenceD.ext_iff' {a b : ForkEvidenceD} : a = b ↔ a.first = b.first ∧ a.second = b.second := by
  cases a; cases b; simp
/-- what it counts for in the laws' bound; the marks that it holds -/
def szForkEvidence (d : ForkEvidenceD) : Nat := szHead d.first + szHead d.second
def cnForkEvidence (d : ForkEvidenceD) : Nat := cnHead d.first + cnHead d.second
theorem cnForkEvidence_le (d : ForkEvidenceD) : cnForkEvidence d ≤ 4 * szForkEvidence d := by
  unfold cnForkEvidence szForkEvidence; have := cnHead_le d.first; have := cnHead_le d.second; omega
theorem rdForkEvidence {w : World} {v : Value} {d : ForkEvidenceD} : (kS rForkEvidence).rd w v d ↔ ∃ a3 n3 c3 a4 n4 c4 a5 n5 c5 a9 n9 c9 a10 n10 c10 a11 n11 c11, v = .agg #[.int .i64 d.first.author, .int .i64 d.first.size, .int .i64 d.first.root, .slice a3 n3 c3, .slice a4 n4 c4, .slice a5 n5 c5, .int .i64 d.second.author, .int .i64 d.second.size, .int .i64 d.second.root, .slice a9 n9 c9, .slice a10 n10 c10, .slice a11 n11 c11] ∧ I64 d.first.author ∧ I64 d.first.size ∧ I64 d.first.root ∧ I64 d.second.author ∧ I64 d.second.size ∧ I64 d.second.root ∧ sInts.rd w (.slice a3 n3 c3) d.first.sign.c ∧ sInts.rd w (.slice a4 n4 c4) d.first.sign.h ∧ sInts.rd w (.slice a5 n5 c5) d.first.sign.r ∧ sInts.rd w (.slice a9 n9 c9) d.second.sign.c ∧ sInts.rd w (.slice a10 n10 c10) d.second.sign.h ∧ sInts.rd w (.slice a11 n11 c11) d.second.sign.r := by
  constructor
  · rintro ⟨_, rfl, ⟨_, _, rfl, ⟨_, rfl, i1, ⟨_, rfl, i2, ⟨_, rfl, i3, ⟨v4, _, rfl, h5, ⟨v6, _, rfl, h7, ⟨v8, _, rfl, h9, rfl⟩⟩⟩⟩⟩⟩, ⟨_, rfl, i10, ⟨_, rfl, i11, ⟨_, rfl, i12, ⟨v13, _, rfl, h14, ⟨v15, _, rfl, h16, ⟨v17, _, rfl, h18, rfl⟩⟩⟩⟩⟩⟩⟩⟩
    obtain ⟨_, _, _, rfl⟩ := sInts.sl h5
    obtain ⟨_, _, _, rfl⟩ := sInts.sl h7
    obtain ⟨_, _, _, rfl⟩ := sInts.sl h9
    obtain ⟨_, _, _, rfl⟩ := sInts.sl h14
    obtain ⟨_, _, _, rfl⟩ := sInts.sl h16
    obtain ⟨_, _, _, rfl⟩ := sInts.sl h18
    exact ⟨_, _, _, _, _, _, _, _, _, _, _, _, _, _, _, _, _, _, rfl, i1, i2, i3, i10, i11, i12, h5, h7, h9, h14, h16, h18⟩
  · rintro ⟨a3, n3, c3, a4, n4, c4, a5, n5, c5, a9, n9, c9, a10, n10, c10, a11, n11, c11, rfl, g0, g1, g2, g3, g4, g5, g6, g7, g8, g9, g10, g11⟩
    exact ⟨_, rfl, ⟨_, _, rfl, ⟨_, rfl, g0, ⟨_, rfl, g1, ⟨_, rfl, g2, ⟨_, _, rfl, g6, ⟨_, _, rfl, g7, ⟨_, _, rfl, g8, rfl⟩⟩⟩⟩⟩⟩, ⟨_, rfl, g3, ⟨_, rfl, g4, ⟨_, rfl, g5, ⟨_, _, rfl, g9, ⟨_, _, rfl, g10, ⟨_, _, rfl, g11, rfl⟩⟩⟩⟩⟩⟩⟩⟩
set_option maxHeartbeats 2000000 in
theorem laws_szForkEvidence (v : Value) (d : ForkEvidenceD) (left : Int) (w : World) (h : (kS rForkEvidence).rd w v d) (h0 : 0 ≤ left) (h1 : left ≤ 1000000000) :
    Calls Try.prog 61 #[v, .int .i64 left] w fun e w' => (∃ r : Int, e = .returned (.int .i64 r) ∧ I64 r ∧ (0 ≤ r → (szForkEvidence d : Int) + r ≤ left)) ∧ Below w.heap.size w w' := by
  obtain ⟨a3, n3, c3, a4, n4, c4, a5, n5, c5, a9, n9, c9, a10, n10, c10, a11, n11, c11, rfl, j0, j1, j2, j6, j7, j8, k3, k4, k5, k9, k10, k11⟩ := rdForkEvidence.1 h
  have Ffirst : Hid ((kS rHead).rd w (.agg #[.int .i64 d.first.author, .int .i64 d.first.size, .int .i64 d.first.root, .slice a3 n3 c3, .slice a4 n4 c4, .slice a5 n5 c5]) d.first) := rdHead.2 ⟨_, _, _, _, _, _, _, _, _, rfl, j0, j1, j2, k3, k4, k5⟩
  have Fsecond : Hid ((kS rHead).rd w (.agg #[.int .i64 d.second.author, .int .i64 d.second.size, .int .i64 d.second.root, .slice a9 n9 c9, .slice a10 n10 c10, .slice a11 n11 c11]) d.second) := rdHead.2 ⟨_, _, _, _, _, _, _, _, _, rfl, j6, j7, j8, k9, k10, k11⟩
  clear k3 k4 k5 k9 k10 k11
  clear j0 j1 j2 j6 j7 j8
  clear h
  obtain ⟨W, hW⟩ : ∃ W, W = w.alloc (.cells #[.int .i64 d.first.author, .int .i64 d.first.size, .int .i64 d.first.root, .slice a3 n3 c3, .slice a4 n4 c4, .slice a5 n5 c5, .int .i64 d.second.author, .int .i64 d.second.size, .int .i64 d.second.root, .slice a9 n9 c9, .slice a10 n10 c10, .slice a11 n11 c11] 103) := ⟨_, rfl⟩
  have HB0 : Hid (Below w.heap.size w W) := by unfold Hid; rw [hW]; exact (Below.refl _ _).alloc (Nat.le_refl _) _
  have BX : Hid (BoxN W w.heap.size 103 [.int .i64 d.first.author, .int .i64 d.first.size, .int .i64 d.first.root, .slice a3 n3 c3, .slice a4 n4 c4, .slice a5 n5 c5, .int .i64 d.second.author, .int .i64 d.second.size, .int .i64 d.second.root, .slice a9 n9 c9, .slice a10 n10 c10, .slice a11 n11 c11]) := by unfold Hid; rw [hW]; exact BoxN.new w [.int .i64 d.first.author, .int .i64 d.first.size, .int .i64 d.first.root, .slice a3 n3 c3, .slice a4 n4 c4, .slice a5 n5 c5, .int .i64 d.second.author, .int .i64 d.second.size, .int .i64 d.second.root, .slice a9 n9 c9, .slice a10 n10 c10, .slice a11 n11 c11] _
  go_enter Try.func61, Try.ntmps61
  go_wp2_with fail
  rw [← hW]
  clear hW
  have HA0 : Hid (Below W.heap.size W W) := Below.refl _ _
  refine (laws_szHead _ d.first left _ ((kS rHead).rd_below Ffirst.out HB0.out) h0 h1).mono ?_
  rintro e w1 ⟨⟨r0, rfl, hr0, hq0⟩, hb⟩
  have HB1 := Lib.hid (HB0.out.trans (hb.mono HB0.out.size))
  have HA1 := Lib.hid (HA0.out.trans (hb.mono HA0.out.size)); clear hb
  by_cases hn0 : r0 < 0
  · go_wp2_with fail
    go_ret
    exact ⟨⟨_, rfl, ⟨by decide, by decide⟩, fun h => by omega⟩, HB1.out⟩
  have hz0 := hq0 (by omega)
  have hp0 : r0 ≤ 1000000000 := by omega
  clear hq0
  have p6 := BX.out.below HA1.out |>.cell (i := 6) rfl
  have p7 := BX.out.below HA1.out |>.cell (i := 7) rfl
  have p8 := BX.out.below HA1.out |>.cell (i := 8) rfl
  have p9 := BX.out.below HA1.out |>.cell (i := 9) rfl
  have p10 := BX.out.below HA1.out |>.cell (i := 10) rfl
  have p11 := BX.out.below HA1.out |>.cell (i := 11) rfl
  go_wp2_with fail
  clear p6 p7 p8 p9 p10 p11
  refine (laws_szHead _ d.second r0 _ ((kS rHead).rd_below Fsecond.out HB1.out) (by omega) hp0).mono ?_
  rintro e w2 ⟨⟨r1, rfl, hr1, hq1⟩, hb⟩
  have HB2 := Lib.hid (HB1.out.trans (hb.mono HB1.out.size))
  have HA2 := Lib.hid (HA1.out.trans (hb.mono HA1.out.size)); clear hb
  by_cases hn1 : r1 < 0
  · go_wp2_with fail
    go_ret
    exact ⟨⟨_, rfl, ⟨by decide, by decide⟩, fun h => by omega⟩, HB2.out⟩
  have hz1 := hq1 (by omega)
  have hp1 : r1 ≤ 1000000000 := by omega
  clear hq1
  go_wp2_with fail
  go_ret
  exact ⟨⟨_, rfl, hr1, fun h => by unfold szForkEvidence; omega⟩, HB2.out⟩
set_option maxHeartbeats 2000000 in
theorem laws_eqForkEvidence (v1 v2 : Value) (d1 d2 : ForkEvidenceD) (w : World) (h1 : (kS rForkEvidence).rd w v1 d1) (h2 : (kS rForkEvidence).rd w v2 d2) :
    Calls Try.prog 65 #[v1, v2] w fun e w' => e = .returned (.bool (decide (d1 = d2))) ∧ Below w.heap.size w w' := by
  obtain ⟨a3x, n3x, c3x, a4x, n4x, c4x, a5x, n5x, c5x, a9x, n9x, c9x, a10x, n10x, c10x, a11x, n11x, c11x, rfl, j0x, j1x, j2x, j6x, j7x, j8x, k3x, k4x, k5x, k9x, k10x, k11x⟩ := rdForkEvidence.1 h1
  have Ffirstx : Hid ((kS rHead).rd w (.agg #[.int .i64 d1.first.author, .int .i64 d1.first.size, .int .i64 d1.first.root, .slice a3x n3x c3x, .slice a4x n4x c4x, .slice a5x n5x c5x]) d1.first) := rdHead.2 ⟨_, _, _, _, _, _, _, _, _, rfl, j0x, j1x, j2x, k3x, k4x, k5x⟩
  have Fsecondx : Hid ((kS rHead).rd w (.agg #[.int .i64 d1.second.author, .int .i64 d1.second.size, .int .i64 d1.second.root, .slice a9x n9x c9x, .slice a10x n10x c10x, .slice a11x n11x c11x]) d1.second) := rdHead.2 ⟨_, _, _, _, _, _, _, _, _, rfl, j6x, j7x, j8x, k9x, k10x, k11x⟩
  clear k3x k4x k5x k9x k10x k11x
  clear j0x j1x j2x j6x j7x j8x
  obtain ⟨a3y, n3y, c3y, a4y, n4y, c4y, a5y, n5y, c5y, a9y, n9y, c9y, a10y, n10y, c10y, a11y, n11y, c11y, rfl, j0y, j1y, j2y, j6y, j7y, j8y, k3y, k4y, k5y, k9y, k10y, k11y⟩ := rdForkEvidence.1 h2
  have Ffirsty : Hid ((kS rHead).rd w (.agg #[.int .i64 d2.first.author, .int .i64 d2.first.size, .int .i64 d2.first.root, .slice a3y n3y c3y, .slice a4y n4y c4y, .slice a5y n5y c5y]) d2.first) := rdHead.2 ⟨_, _, _, _, _, _, _, _, _, rfl, j0y, j1y, j2y, k3y, k4y, k5y⟩
  have Fsecondy : Hid ((kS rHead).rd w (.agg #[.int .i64 d2.second.author, .int .i64 d2.second.size, .int .i64 d2.second.root, .slice a9y n9y c9y, .slice a10y n10y c10y, .slice a11y n11y c11y]) d2.second) := rdHead.2 ⟨_, _, _, _, _, _, _, _, _, rfl, j6y, j7y, j8y, k9y, k10y, k11y⟩
  clear k3y k4y k5y k9y k10y k11y
  clear j0y j1y j2y j6y j7y j8y
  clear h1 h2
  obtain ⟨W, hW⟩ : ∃ W, W = (w.alloc (.cells #[.int .i64 d1.first.author, .int .i64 d1.first.size, .int .i64 d1.first.root, .slice a3x n3x c3x, .slice a4x n4x c4x, .slice a5x n5x c5x, .int .i64 d1.second.author, .int .i64 d1.second.size, .int .i64 d1.second.root, .slice a9x n9x c9x, .slice a10x n10x c10x, .slice a11x n11x c11x] 108)).alloc (.cells #[.int .i64 d2.first.author, .int .i64 d2.first.size, .int .i64 d2.first.root, .slice a3y n3y c3y, .slice a4y n4y c4y, .slice a5y n5y c5y, .int .i64 d2.second.author, .int .i64 d2.second.size, .int .i64 d2.second.root, .slice a9y n9y c9y, .slice a10y n10y c10y, .slice a11y n11y c11y] 108) := ⟨_, rfl⟩
  have hs1 : (w.alloc (.cells #[.int .i64 d1.first.author, .int .i64 d1.first.size, .int .i64 d1.first.root, .slice a3x n3x c3x, .slice a4x n4x c4x, .slice a5x n5x c5x, .int .i64 d1.second.author, .int .i64 d1.second.size, .int .i64 d1.second.root, .slice a9x n9x c9x, .slice a10x n10x c10x, .slice a11x n11x c11x] 108)).heap.size = w.heap.size + 1 := by simp
  have HB0 : Hid (Below w.heap.size w W) := by unfold Hid; rw [hW]; (repeat (first | exact Below.refl _ _ | assumption | refine Below.drew ?_ | refine Below.alloc ?_ (by first | (simp; done) | (simp; omega)) _ | refine Below.setCell ?_ (by first | (simp; done) | (simp; omega)) _))
  have BX : Hid (BoxN W w.heap.size 108 [.int .i64 d1.first.author, .int .i64 d1.first.size, .int .i64 d1.first.root, .slice a3x n3x c3x, .slice a4x n4x c4x, .slice a5x n5x c5x, .int .i64 d1.second.author, .int .i64 d1.second.size, .int .i64 d1.second.root, .slice a9x n9x c9x, .slice a10x n10x c10x, .slice a11x n11x c11x]) := by unfold Hid; rw [hW]; exact (BoxN.new w [.int .i64 d1.first.author, .int .i64 d1.first.size, .int .i64 d1.first.root, .slice a3x n3x c3x, .slice a4x n4x c4x, .slice a5x n5x c5x, .int .i64 d1.second.author, .int .i64 d1.second.size, .int .i64 d1.second.root, .slice a9x n9x c9x, .slice a10x n10x c10x, .slice a11x n11x c11x] _).alloc _
  have BY : Hid (BoxN W (w.heap.size + 1) 108 [.int .i64 d2.first.author, .int .i64 d2.first.size, .int .i64 d2.first.root, .slice a3y n3y c3y, .slice a4y n4y c4y, .slice a5y n5y c5y, .int .i64 d2.second.author, .int .i64 d2.second.size, .int .i64 d2.second.root, .slice a9y n9y c9y, .slice a10y n10y c10y, .slice a11y n11y c11y]) := by unfold Hid; rw [hW, ← hs1]; exact BoxN.new _ [.int .i64 d2.first.author, .int .i64 d2.first.size, .int .i64 d2.first.root, .slice a3y n3y c3y, .slice a4y n4y c4y, .slice a5y n5y c5y, .int .i64 d2.second.author, .int .i64 d2.second.size, .int .i64 d2.second.root, .slice a9y n9y c9y, .slice a10y n10y c10y, .slice a11y n11y c11y] _
  obtain ⟨q_first, hq_first⟩ : ∃ q, decide (d1.first = d2.first) = q := ⟨_, rfl⟩
  obtain ⟨q_second, hq_second⟩ : ∃ q, decide (d1.second = d2.second) = q := ⟨_, rfl⟩
  have HR : Hid (decide (d1 = d2) = (q_first && (q_second))) := by
    unfold Hid; rw [← hq_first, ← hq_second, Bool.eq_iff_iff]; simp only [Bool.and_eq_true, decide_eq_true_eq]; exact ForkEvidenceD.ext_iff'
  have Q_first := Lib.hid hq_first; clear hq_first
  have Q_second := Lib.hid hq_second; clear hq_second
  clear hs1
  have HA0 : Hid (Below W.heap.size W W) := Below.refl _ _
  go_enter Try.func65, Try.ntmps65
  go_wp2_with fail
  rw [← hW]
  clear hW
  refine (laws_eqHead _ _ d1.first d2.first _ ((kS rHead).rd_below Ffirstx.out HB0.out) ((kS rHead).rd_below Ffirsty.out HB0.out)).mono ?_
  rintro e w1 ⟨rfl, hb⟩
  rw [Q_first.out]
  have HB1 := Lib.hid (HB0.out.trans (hb.mono HB0.out.size))
  have HA1 := Lib.hid (HA0.out.trans (hb.mono HA0.out.size)); clear hb
  cases q_first with
  | false =>
    go_wp2_with fail
    go_ret
    exact ⟨ret_bool (by rw [HR.out]; (try rfl)), HB1.out⟩
  | true =>
  have px6 := BX.out.below HA1.out |>.cell (i := 6) rfl
  have px7 := BX.out.below HA1.out |>.cell (i := 7) rfl
  have px8 := BX.out.below HA1.out |>.cell (i := 8) rfl
  have px9 := BX.out.below HA1.out |>.cell (i := 9) rfl
  have px10 := BX.out.below HA1.out |>.cell (i := 10) rfl
  have px11 := BX.out.below HA1.out |>.cell (i := 11) rfl
  have py6 := BY.out.below HA1.out |>.cell (i := 6) rfl
  have py7 := BY.out.below HA1.out |>.cell (i := 7) rfl
  have py8 := BY.out.below HA1.out |>.cell (i := 8) rfl
  have py9 := BY.out.below HA1.out |>.cell (i := 9) rfl
  have py10 := BY.out.below HA1.out |>.cell (i := 10) rfl
  have py11 := BY.out.below HA1.out |>.cell (i := 11) rfl
  go_wp2_with fail
  clear px6 px7 px8 px9 px10 px11 py6 py7 py8 py9 py10 py11
  refine (laws_eqHead _ _ d1.second d2.second _ ((kS rHead).rd_below Fsecondx.out HB1.out) ((kS rHead).rd_below Fsecondy.out HB1.out)).mono ?_
  rintro e w2 ⟨rfl, hb⟩
  rw [Q_second.out]
  have HB2 := Lib.hid (HB1.out.trans (hb.mono HB1.out.size))
  have HA2 := Lib.hid (HA1.out.trans (hb.mono HA1.out.size)); clear hb
  cases q_second with
  | false =>
    go_wp2_with fail
    go_ret
    exact ⟨ret_bool (by rw [HR.out]; (try rfl)), HB2.out⟩
  | true =>
  go_wp2_with fail
  go_ret
  exact ⟨ret_bool (by rw [HR.out]; (try rfl)), HB2.out⟩
set_option maxHeartbeats 4000000 in
theorem laws_toForkEvidence (v : Value) (d : ForkEvidenceD) (w : World) (h : (kS rForkEvidence).rd w v d) (hl : (szForkEvidence d : Int) ≤ 1000000000) :
    Calls Try.prog 63 #[v] w fun e w' => ∃ v', e = .returned v' ∧ (kS rForkEvidence).own w' w.heap.size w'.heap.size v' d ∧ Below w.heap.size w w' := by
  unfold szForkEvidence at hl
  have L_first : Hid (((szHead d.first : Nat) : Int) ≤ 1000000000) := by unfold Hid; omega
  have L_second : Hid (((szHead d.second : Nat) : Int) ≤ 1000000000) := by unfold Hid; omega
  obtain ⟨a3, n3, c3, a4, n4, c4, a5, n5, c5, a9, n9, c9, a10, n10, c10, a11, n11, c11, rfl, j0, j1, j2, j6, j7, j8, k3, k4, k5, k9, k10, k11⟩ := rdForkEvidence.1 h
  have Ffirst : Hid ((kS rHead).rd w (.agg #[.int .i64 d.first.author, .int .i64 d.first.size, .int .i64 d.first.root, .slice a3 n3 c3, .slice a4 n4 c4, .slice a5 n5 c5]) d.first) := rdHead.2 ⟨_, _, _, _, _, _, _, _, _, rfl, j0, j1, j2, k3, k4, k5⟩
  have Fsecond : Hid ((kS rHead).rd w (.agg #[.int .i64 d.second.author, .int .i64 d.second.size, .int .i64 d.second.root, .slice a9 n9 c9, .slice a10 n10 c10, .slice a11 n11 c11]) d.second) := rdHead.2 ⟨_, _, _, _, _, _, _, _, _, rfl, j6, j7, j8, k9, k10, k11⟩
  clear k3 k4 k5 k9 k10 k11
  have J0 := Lib.hid j0
  have J1 := Lib.hid j1
  have J2 := Lib.hid j2
  have J6 := Lib.hid j6
  have J7 := Lib.hid j7
  have J8 := Lib.hid j8
  clear j0 j1 j2 j6 j7 j8
  clear h hl
  obtain ⟨W, hW⟩ : ∃ W, W = ((w.alloc (.cells #[.int .i64 d.first.author, .int .i64 d.first.size, .int .i64 d.first.root, .slice a3 n3 c3, .slice a4 n4 c4, .slice a5 n5 c5, .int .i64 d.second.author, .int .i64 d.second.size, .int .i64 d.second.root, .slice a9 n9 c9, .slice a10 n10 c10, .slice a11 n11 c11] 103)).alloc (.cells #[.int .i64 0, .int .i64 0, .int .i64 0, .slice none 0 0, .slice none 0 0, .slice none 0 0, .int .i64 0, .int .i64 0, .int .i64 0, .slice none 0 0, .slice none 0 0, .slice none 0 0] 108)).alloc (.cells #[.int .i64 0, .int .i64 0, .int .i64 0, .slice none 0 0, .slice none 0 0, .slice none 0 0, .int .i64 0, .int .i64 0, .int .i64 0, .slice none 0 0, .slice none 0 0, .slice none 0 0] 108) := ⟨_, rfl⟩
  have hs1 : (w.alloc (.cells #[.int .i64 d.first.author, .int .i64 d.first.size, .int .i64 d.first.root, .slice a3 n3 c3, .slice a4 n4 c4, .slice a5 n5 c5, .int .i64 d.second.author, .int .i64 d.second.size, .int .i64 d.second.root, .slice a9 n9 c9, .slice a10 n10 c10, .slice a11 n11 c11] 103)).heap.size = w.heap.size + 1 := by simp
  have hs2 : ((w.alloc (.cells #[.int .i64 d.first.author, .int .i64 d.first.size, .int .i64 d.first.root, .slice a3 n3 c3, .slice a4 n4 c4, .slice a5 n5 c5, .int .i64 d.second.author, .int .i64 d.second.size, .int .i64 d.second.root, .slice a9 n9 c9, .slice a10 n10 c10, .slice a11 n11 c11] 103)).alloc (.cells #[.int .i64 0, .int .i64 0, .int .i64 0, .slice none 0 0, .slice none 0 0, .slice none 0 0, .int .i64 0, .int .i64 0, .int .i64 0, .slice none 0 0, .slice none 0 0, .slice none 0 0] 108)).heap.size = w.heap.size + 1 + 1 := by simp
  have hs0 : W.heap.size = w.heap.size + 1 + 1 + 1 := by rw [hW]; simp
  have HB0 : Hid (Below w.heap.size w W) := by unfold Hid; rw [hW]; (repeat (first | exact Below.refl _ _ | assumption | refine Below.drew ?_ | refine Below.alloc ?_ (by first | (simp; done) | (simp; omega)) _ | refine Below.setCell ?_ (by first | (simp; done) | (simp; omega)) _))
  have BX0 : Hid (BoxN W w.heap.size 103 [.int .i64 d.first.author, .int .i64 d.first.size, .int .i64 d.first.root, .slice a3 n3 c3, .slice a4 n4 c4, .slice a5 n5 c5, .int .i64 d.second.author, .int .i64 d.second.size, .int .i64 d.second.root, .slice a9 n9 c9, .slice a10 n10 c10, .slice a11 n11 c11]) := by unfold Hid; rw [hW]; exact ((BoxN.new w [.int .i64 d.first.author, .int .i64 d.first.size, .int .i64 d.first.root, .slice a3 n3 c3, .slice a4 n4 c4, .slice a5 n5 c5, .int .i64 d.second.author, .int .i64 d.second.size, .int .i64 d.second.root, .slice a9 n9 c9, .slice a10 n10 c10, .slice a11 n11 c11] _).alloc _).alloc _
  have BR0 : Hid (BoxN W (w.heap.size + 1) 108 [.int .i64 0, .int .i64 0, .int .i64 0, .slice none 0 0, .slice none 0 0, .slice none 0 0, .int .i64 0, .int .i64 0, .int .i64 0, .slice none 0 0, .slice none 0 0, .slice none 0 0]) := by unfold Hid; rw [hW, ← hs1]; exact (BoxN.new _ [.int .i64 0, .int .i64 0, .int .i64 0, .slice none 0 0, .slice none 0 0, .slice none 0 0, .int .i64 0, .int .i64 0, .int .i64 0, .slice none 0 0, .slice none 0 0, .slice none 0 0] _).alloc _
  have BO0 : Hid (BoxN W (w.heap.size + 1 + 1) 108 [.int .i64 0, .int .i64 0, .int .i64 0, .slice none 0 0, .slice none 0 0, .slice none 0 0, .int .i64 0, .int .i64 0, .int .i64 0, .slice none 0 0, .slice none 0 0, .slice none 0 0]) := by unfold Hid; rw [hW, ← hs2]; exact BoxN.new _ [.int .i64 0, .int .i64 0, .int .i64 0, .slice none 0 0, .slice none 0 0, .slice none 0 0, .int .i64 0, .int .i64 0, .int .i64 0, .slice none 0 0, .slice none 0 0, .slice none 0 0] _
  have HW := Lib.hid hW; clear hW hs1 hs2
  go_enter Try.func63, Try.ntmps63
  go_wp2_with fail
  rw [← HW.out]
  refine (laws_toHead _ d.first W ((kS rHead).rd_below Ffirst.out HB0.out) L_first.out).mono ?_
  rintro e w1 ⟨v1, rfl, X, hb⟩
  obtain ⟨_, rfl, X⟩ := X
  obtain ⟨_, rfl, i19, ⟨_, rfl, i20, ⟨_, rfl, i21, ⟨v22, _, rfl, h23, ⟨v24, _, rfl, h25, ⟨v26, _, rfl, h27, rfl⟩⟩⟩⟩⟩⟩ := rHead.own_rd X
  clear i19
  clear i20
  clear i21
  obtain ⟨ea_first0, en_first0, ec_first0, rfl⟩ := sInts.sl h23
  clear h23
  obtain ⟨ea_first1, en_first1, ec_first1, rfl⟩ := sInts.sl h25
  clear h25
  obtain ⟨ea_first2, en_first2, ec_first2, rfl⟩ := sInts.sl h27
  clear h27
  have O_first := Lib.hid X; clear X
  have us1 := hb.size
  have HB1 := Lib.hid (HB0.out.trans (hb.mono HB0.out.size))
  have BX1 := Lib.hid (BX0.out.below hb)
  have BR1 := Lib.hid (BR0.out.below hb)
  have BO1 := Lib.hid (BO0.out.below hb)
  clear hb
  have px0 := BX1.out.cell (i := 0) rfl
  have po0 := BO1.out.cell (i := 0) rfl
  have pr0 := BR1.out.cell (i := 0) rfl
  have px1 := BX1.out.cell (i := 1) rfl
  have po1 := BO1.out.cell (i := 1) rfl
  have pr1 := BR1.out.cell (i := 1) rfl
  have px2 := BX1.out.cell (i := 2) rfl
  have po2 := BO1.out.cell (i := 2) rfl
  have pr2 := BR1.out.cell (i := 2) rfl
  have px3 := BX1.out.cell (i := 3) rfl
  have po3 := BO1.out.cell (i := 3) rfl
  have pr3 := BR1.out.cell (i := 3) rfl
  have px4 := BX1.out.cell (i := 4) rfl
  have po4 := BO1.out.cell (i := 4) rfl
  have pr4 := BR1.out.cell (i := 4) rfl
  have px5 := BX1.out.cell (i := 5) rfl
  have po5 := BO1.out.cell (i := 5) rfl
  have pr5 := BR1.out.cell (i := 5) rfl
  have px6 := BX1.out.cell (i := 6) rfl
  have po6 := BO1.out.cell (i := 6) rfl
  have pr6 := BR1.out.cell (i := 6) rfl
  have px7 := BX1.out.cell (i := 7) rfl
  have po7 := BO1.out.cell (i := 7) rfl
  have pr7 := BR1.out.cell (i := 7) rfl
  have px8 := BX1.out.cell (i := 8) rfl
  have po8 := BO1.out.cell (i := 8) rfl
  have pr8 := BR1.out.cell (i := 8) rfl
  have px9 := BX1.out.cell (i := 9) rfl
  have po9 := BO1.out.cell (i := 9) rfl
  have pr9 := BR1.out.cell (i := 9) rfl
  have px10 := BX1.out.cell (i := 10) rfl
  have po10 := BO1.out.cell (i := 10) rfl
  have pr10 := BR1.out.cell (i := 10) rfl
  have px11 := BX1.out.cell (i := 11) rfl
  have po11 := BO1.out.cell (i := 11) rfl
  have pr11 := BR1.out.cell (i := 11) rfl
  have fo := BO1.out.frozen
  have fr := BR1.out.frozen
  have st0 : w.heap.size < w1.heap.size := by omega
  have st1 : w.heap.size + 1 < w1.heap.size := by omega
  have st2 : w.heap.size + 1 + 1 < w1.heap.size := by omega
  go_wp2_with fail
  obtain ⟨u2, hU⟩ : ∃ U, U = (((((((w1).setCell ⟨w.heap.size + 1 + 1, 0, none⟩ (.int .i64 d.first.author)).setCell ⟨w.heap.size + 1 + 1, 1, none⟩ (.int .i64 d.first.size)).setCell ⟨w.heap.size + 1 + 1, 2, none⟩ (.int .i64 d.first.root)).setCell ⟨w.heap.size + 1 + 1, 3, none⟩ (.slice ea_first0 en_first0 ec_first0)).setCell ⟨w.heap.size + 1 + 1, 4, none⟩ (.slice ea_first1 en_first1 ec_first1)).setCell ⟨w.heap.size + 1 + 1, 5, none⟩ (.slice ea_first2 en_first2 ec_first2)) := ⟨_, rfl⟩
  rw [← hU]
  have hwi : Within (w.heap.size + 1 + 1) (w.heap.size + 1 + 1 + 1) w1 u2 := by rw [hU]; exact ((((((Within.refl _ _ _ |>.setCell (by omega) (by omega) _ _) |>.setCell (by omega) (by omega) _ _) |>.setCell (by omega) (by omega) _ _) |>.setCell (by omega) (by omega) _ _) |>.setCell (by omega) (by omega) _ _) |>.setCell (by omega) (by omega) _ _)
  have us2 : u2.heap.size = w1.heap.size := by rw [hU]; simp only [size_setC]
  have HB2 : Hid (Below w.heap.size w u2) := HB1.out.trans (hwi.below (by omega) (by omega))
  have BX2 : Hid (BoxN u2 w.heap.size 103 [.int .i64 d.first.author, .int .i64 d.first.size, .int .i64 d.first.root, .slice a3 n3 c3, .slice a4 n4 c4, .slice a5 n5 c5, .int .i64 d.second.author, .int .i64 d.second.size, .int .i64 d.second.root, .slice a9 n9 c9, .slice a10 n10 c10, .slice a11 n11 c11]) := BX1.out.kept hwi (.inl (by omega))
  have BR2 : Hid (BoxN u2 (w.heap.size + 1) 108 [.int .i64 0, .int .i64 0, .int .i64 0, .slice none 0 0, .slice none 0 0, .slice none 0 0, .int .i64 0, .int .i64 0, .int .i64 0, .slice none 0 0, .slice none 0 0, .slice none 0 0]) := BR1.out.kept hwi (.inl (by omega))
  have BO2 : Hid (BoxN u2 (w.heap.size + 1 + 1) 108 [.int .i64 d.first.author, .int .i64 d.first.size, .int .i64 d.first.root, .slice ea_first0 en_first0 ec_first0, .slice ea_first1 en_first1 ec_first1, .slice ea_first2 en_first2 ec_first2, .int .i64 0, .int .i64 0, .int .i64 0, .slice none 0 0, .slice none 0 0, .slice none 0 0]) := by unfold Hid; rw [hU]; exact ((((((BO1.out.set 0 _).set 1 _).set 2 _).set 3 _).set 4 _).set 5 _)
  replace O_first := Lib.hid (RowK.kept O_first.out hwi (.inr (by omega)))
  clear hwi hU
  clear px0 po0 pr0 px1 po1 pr1 px2 po2 pr2 px3 po3 pr3 px4 po4 pr4 px5 po5 pr5 px6 po6 pr6 px7 po7 pr7 px8 po8 pr8 px9 po9 pr9 px10 po10 pr10 px11 po11 pr11 fo fr st0 st1 st2
  refine (laws_toHead _ d.second u2 ((kS rHead).rd_below Fsecond.out HB2.out) L_second.out).mono ?_
  rintro e w3 ⟨v3, rfl, X, hb⟩
  obtain ⟨_, rfl, X⟩ := X
  obtain ⟨_, rfl, i28, ⟨_, rfl, i29, ⟨_, rfl, i30, ⟨v31, _, rfl, h32, ⟨v33, _, rfl, h34, ⟨v35, _, rfl, h36, rfl⟩⟩⟩⟩⟩⟩ := rHead.own_rd X
  clear i28
  clear i29
  clear i30
  obtain ⟨ea_second0, en_second0, ec_second0, rfl⟩ := sInts.sl h32
  clear h32
  obtain ⟨ea_second1, en_second1, ec_second1, rfl⟩ := sInts.sl h34
  clear h34
  obtain ⟨ea_second2, en_second2, ec_second2, rfl⟩ := sInts.sl h36
  clear h36
  have O_second := Lib.hid X; clear X
  have us3 := hb.size
  have HB3 := Lib.hid (HB2.out.trans (hb.mono HB2.out.size))
  have BX3 := Lib.hid (BX2.out.below hb)
  have BR3 := Lib.hid (BR2.out.below hb)
  have BO3 := Lib.hid (BO2.out.below hb)
  replace O_first := Lib.hid (RowK.next O_first.out hb)
  clear hb
  have px0 := BX3.out.cell (i := 0) rfl
  have po0 := BO3.out.cell (i := 0) rfl
  have pr0 := BR3.out.cell (i := 0) rfl
  have px1 := BX3.out.cell (i := 1) rfl
  have po1 := BO3.out.cell (i := 1) rfl
  have pr1 := BR3.out.cell (i := 1) rfl
  have px2 := BX3.out.cell (i := 2) rfl
  have po2 := BO3.out.cell (i := 2) rfl
  have pr2 := BR3.out.cell (i := 2) rfl
  have px3 := BX3.out.cell (i := 3) rfl
  have po3 := BO3.out.cell (i := 3) rfl
  have pr3 := BR3.out.cell (i := 3) rfl
  have px4 := BX3.out.cell (i := 4) rfl
  have po4 := BO3.out.cell (i := 4) rfl
  have pr4 := BR3.out.cell (i := 4) rfl
  have px5 := BX3.out.cell (i := 5) rfl
  have po5 := BO3.out.cell (i := 5) rfl
  have pr5 := BR3.out.cell (i := 5) rfl
  have px6 := BX3.out.cell (i := 6) rfl
  have po6 := BO3.out.cell (i := 6) rfl
  have pr6 := BR3.out.cell (i := 6) rfl
  have px7 := BX3.out.cell (i := 7) rfl
  have po7 := BO3.out.cell (i := 7) rfl
  have pr7 := BR3.out.cell (i := 7) rfl
  have px8 := BX3.out.cell (i := 8) rfl
  have po8 := BO3.out.cell (i := 8) rfl
  have pr8 := BR3.out.cell (i := 8) rfl
  have px9 := BX3.out.cell (i := 9) rfl
  have po9 := BO3.out.cell (i := 9) rfl
  have pr9 := BR3.out.cell (i := 9) rfl
  have px10 := BX3.out.cell (i := 10) rfl
  have po10 := BO3.out.cell (i := 10) rfl
  have pr10 := BR3.out.cell (i := 10) rfl
  have px11 := BX3.out.cell (i := 11) rfl
  have po11 := BO3.out.cell (i := 11) rfl
  have pr11 := BR3.out.cell (i := 11) rfl
  have fo := BO3.out.frozen
  have fr := BR3.out.frozen
  have st0 : w.heap.size < w3.heap.size := by omega
  have st1 : w.heap.size + 1 < w3.heap.size := by omega
  have st2 : w.heap.size + 1 + 1 < w3.heap.size := by omega
  go_wp2_with fail
  obtain ⟨V, hV⟩ : ∃ U, U = (((((((((((((((((((w3).setCell ⟨w.heap.size + 1 + 1, 6, none⟩ (.int .i64 d.second.author)).setCell ⟨w.heap.size + 1 + 1, 7, none⟩ (.int .i64 d.second.size)).setCell ⟨w.heap.size + 1 + 1, 8, none⟩ (.int .i64 d.second.root)).setCell ⟨w.heap.size + 1 + 1, 9, none⟩ (.slice ea_second0 en_second0 ec_second0)).setCell ⟨w.heap.size + 1 + 1, 10, none⟩ (.slice ea_second1 en_second1 ec_second1)).setCell ⟨w.heap.size + 1 + 1, 11, none⟩ (.slice ea_second2 en_second2 ec_second2)).setCell ⟨w.heap.size + 1, 0, none⟩ (.int .i64 d.first.author)).setCell ⟨w.heap.size + 1, 1, none⟩ (.int .i64 d.first.size)).setCell ⟨w.heap.size + 1, 2, none⟩ (.int .i64 d.first.root)).setCell ⟨w.heap.size + 1, 3, none⟩ (.slice ea_first0 en_first0 ec_first0)).setCell ⟨w.heap.size + 1, 4, none⟩ (.slice ea_first1 en_first1 ec_first1)).setCell ⟨w.heap.size + 1, 5, none⟩ (.slice ea_first2 en_first2 ec_first2)).setCell ⟨w.heap.size + 1, 6, none⟩ (.int .i64 d.second.author)).setCell ⟨w.heap.size + 1, 7, none⟩ (.int .i64 d.second.size)).setCell ⟨w.heap.size + 1, 8, none⟩ (.int .i64 d.second.root)).setCell ⟨w.heap.size + 1, 9, none⟩ (.slice ea_second0 en_second0 ec_second0)).setCell ⟨w.heap.size + 1, 10, none⟩ (.slice ea_second1 en_second1 ec_second1)).setCell ⟨w.heap.size + 1, 11, none⟩ (.slice ea_second2 en_second2 ec_second2)) := ⟨_, rfl⟩
  rw [← hV]
  have hwi : Within (w.heap.size + 1) (w.heap.size + 1 + 1 + 1) w3 V := by rw [hV]; exact ((((((((((((((((((Within.refl _ _ _ |>.setCell (by omega) (by omega) _ _) |>.setCell (by omega) (by omega) _ _) |>.setCell (by omega) (by omega) _ _) |>.setCell (by omega) (by omega) _ _) |>.setCell (by omega) (by omega) _ _) |>.setCell (by omega) (by omega) _ _) |>.setCell (by omega) (by omega) _ _) |>.setCell (by omega) (by omega) _ _) |>.setCell (by omega) (by omega) _ _) |>.setCell (by omega) (by omega) _ _) |>.setCell (by omega) (by omega) _ _) |>.setCell (by omega) (by omega) _ _) |>.setCell (by omega) (by omega) _ _) |>.setCell (by omega) (by omega) _ _) |>.setCell (by omega) (by omega) _ _) |>.setCell (by omega) (by omega) _ _) |>.setCell (by omega) (by omega) _ _) |>.setCell (by omega) (by omega) _ _)
  have hs : V.heap.size = w3.heap.size := by rw [hV]; simp only [size_setC]
  have BV : BoxN V (w.heap.size + 1) 108 [.int .i64 d.first.author, .int .i64 d.first.size, .int .i64 d.first.root, .slice ea_first0 en_first0 ec_first0, .slice ea_first1 en_first1 ec_first1, .slice ea_first2 en_first2 ec_first2, .int .i64 d.second.author, .int .i64 d.second.size, .int .i64 d.second.root, .slice ea_second0 en_second0 ec_second0, .slice ea_second1 en_second1 ec_second1, .slice ea_second2 en_second2 ec_second2] := by rw [hV]; exact ((((((((((((((((((BR3.out.other (by omega) _ _).other (by omega) _ _).other (by omega) _ _).other (by omega) _ _).other (by omega) _ _).other (by omega) _ _).set 0 _).set 1 _).set 2 _).set 3 _).set 4 _).set 5 _).set 6 _).set 7 _).set 8 _).set 9 _).set 10 _).set 11 _)
  replace O_first := Lib.hid (RowK.kept O_first.out hwi (.inr (by omega)))
  replace O_second := Lib.hid (RowK.kept O_second.out hwi (.inr (by omega)))
  clear hV
  clear px0 po0 pr0 px1 po1 pr1 px2 po2 pr2 px3 po3 pr3 px4 po4 pr4 px5 po5 pr5 px6 po6 pr6 px7 po7 pr7 px8 po8 pr8 px9 po9 pr9 px10 po10 pr10 px11 po11 pr11 fo fr st0 st1 st2
  have r0 := BV.cell (i := 0) rfl
  have r1 := BV.cell (i := 1) rfl
  have r2 := BV.cell (i := 2) rfl
  have r3 := BV.cell (i := 3) rfl
  have r4 := BV.cell (i := 4) rfl
  have r5 := BV.cell (i := 5) rfl
  have r6 := BV.cell (i := 6) rfl
  have r7 := BV.cell (i := 7) rfl
  have r8 := BV.cell (i := 8) rfl
  have r9 := BV.cell (i := 9) rfl
  have r10 := BV.cell (i := 10) rfl
  have r11 := BV.cell (i := 11) rfl
  refine bodyPost_ret (v := .agg #[.int .i64 d.first.author, .int .i64 d.first.size, .int .i64 d.first.root, .slice ea_first0 en_first0 ec_first0, .slice ea_first1 en_first1 ec_first1, .slice ea_first2 en_first2 ec_first2, .int .i64 d.second.author, .int .i64 d.second.size, .int .i64 d.second.root, .slice ea_second0 en_second0 ec_second0, .slice ea_second1 en_second1 ec_second1, .slice ea_second2 en_second2 ec_second2]) (by simp [results, Try.results63, go_sem, r0, r1, r2, r3, r4, r5, r6, r7, r8, r9, r10, r11]) rfl ⟨_, rfl, ⟨_, rfl, ⟨_, _, W.heap.size, w1.heap.size, u2.heap.size, V.heap.size, rfl, O_first.out, (rHead.own_mono O_second.out (by omega) (by omega)), ⟨by omega, by omega⟩, ⟨by omega, by omega⟩, by omega⟩⟩, ?_⟩
  exact HB3.out.trans (hwi.below (by omega) (by omega))
/-- the struct with marks in its slices, from k0 on -/
def mkForkEvidence (k0 : Nat) (d : ForkEvidenceD) : ForkEvidenceD := ⟨mkHead (k0) d.first, mkHead (k0 + cnHead d.first) d.second⟩
end Go.Proofs.Ytapfceghgkmgoaa
