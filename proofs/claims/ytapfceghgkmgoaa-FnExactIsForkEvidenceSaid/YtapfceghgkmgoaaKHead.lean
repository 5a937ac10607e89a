/- The struct Head as a kind (printed by genkind.py): its data, its row, the walks of the laws' helpers. -/
import Derived.Test.YtapfceghgkmgoaaRows1
import Derived.Test.YtapfceghgkmgoaaKProof
namespace Go.Proofs.Ytapfceghgkmgoaa
open Go.RowKit
set_option linter.unusedSimpArgs false
set_option linter.unusedVariables false

structure HeadD where
  author : Int
  size : Int
  root : Int
  sign : ProofD
deriving DecidableEq
abbrev rHead : RowK HeadD := rMap (rI (rI (rI rProof))) (fun d => (d.author, (d.size, (d.root, d.sign))))
theorem HeadD.ext_iff' {a b : HeadD} : a = b ↔ a.author = b.author ∧ a.size = b.size ∧ a.root = b.root ∧ a.sign = b.sign := by
  cases a; cases b; simp
/-- what it counts for in the laws' bound; the marks that it holds -/
def szHead (d : HeadD) : Nat := szProof d.sign
def cnHead (d : HeadD) : Nat := cnProof d.sign
theorem cnHead_le (d : HeadD) : cnHead d ≤ 4 * szHead d := by
  unfold cnHead szHead; have := cnProof_le d.sign; omega
theorem rdHead {w : World} {v : Value} {d : HeadD} : (kS rHead).rd w v d ↔ ∃ a3 n3 c3 a4 n4 c4 a5 n5 c5, v = .agg #[.int .i64 d.author, .int .i64 d.size, .int .i64 d.root, .slice a3 n3 c3, .slice a4 n4 c4, .slice a5 n5 c5] ∧ I64 d.author ∧ I64 d.size ∧ I64 d.root ∧ sInts.rd w (.slice a3 n3 c3) d.sign.c ∧ sInts.rd w (.slice a4 n4 c4) d.sign.h ∧ sInts.rd w (.slice a5 n5 c5) d.sign.r := by
  constructor
  · rintro ⟨_, rfl, ⟨_, rfl, i1, ⟨_, rfl, i2, ⟨_, rfl, i3, ⟨v4, _, rfl, h5, ⟨v6, _, rfl, h7, ⟨v8, _, rfl, h9, rfl⟩⟩⟩⟩⟩⟩⟩
    obtain ⟨_, _, _, rfl⟩ := sInts.sl h5
    obtain ⟨_, _, _, rfl⟩ := sInts.sl h7
    obtain ⟨_, _, _, rfl⟩ := sInts.sl h9
    exact ⟨_, _, _, _, _, _, _, _, _, rfl, i1, i2, i3, h5, h7, h9⟩
  · rintro ⟨a3, n3, c3, a4, n4, c4, a5, n5, c5, rfl, g0, g1, g2, g3, g4, g5⟩
    exact ⟨_, rfl, ⟨_, rfl, g0, ⟨_, rfl, g1, ⟨_, rfl, g2, ⟨_, _, rfl, g3, ⟨_, _, rfl, g4, ⟨_, _, rfl, g5, rfl⟩⟩⟩⟩⟩⟩⟩
set_option maxHeartbeats 2000000 in
theorem laws_szHead (v : Value) (d : HeadD) (left : Int) (w : World) (h : (kS rHead).rd w v d) (h0 : 0 ≤ left) (h1 : left ≤ 1000000000) :
    Calls Try.prog 151 #[v, .int .i64 left] w fun e w' => (∃ r : Int, e = .returned (.int .i64 r) ∧ I64 r ∧ (0 ≤ r → (szHead d : Int) + r ≤ left)) ∧ Below w.heap.size w w' := by
  obtain ⟨a3, n3, c3, a4, n4, c4, a5, n5, c5, rfl, j0, j1, j2, k3, k4, k5⟩ := rdHead.1 h
  have Fsign : Hid ((kS rProof).rd w (.agg #[.slice a3 n3 c3, .slice a4 n4 c4, .slice a5 n5 c5]) d.sign) := rdProof.2 ⟨_, _, _, _, _, _, _, _, _, rfl, k3, k4, k5⟩
  clear k3 k4 k5
  clear j0 j1 j2
  clear h
  obtain ⟨W, hW⟩ : ∃ W, W = w.alloc (.cells #[.int .i64 d.author, .int .i64 d.size, .int .i64 d.root, .slice a3 n3 c3, .slice a4 n4 c4, .slice a5 n5 c5] 101) := ⟨_, rfl⟩
  have HB0 : Hid (Below w.heap.size w W) := by unfold Hid; rw [hW]; exact (Below.refl _ _).alloc (Nat.le_refl _) _
  have BX : Hid (BoxN W w.heap.size 101 [.int .i64 d.author, .int .i64 d.size, .int .i64 d.root, .slice a3 n3 c3, .slice a4 n4 c4, .slice a5 n5 c5]) := by unfold Hid; rw [hW]; exact BoxN.new w [.int .i64 d.author, .int .i64 d.size, .int .i64 d.root, .slice a3 n3 c3, .slice a4 n4 c4, .slice a5 n5 c5] _
  go_enter Try.func151, Try.ntmps151
  go_wp2_with fail
  rw [← hW]
  clear hW
  have HA0 : Hid (Below W.heap.size W W) := Below.refl _ _
  refine (laws_szProof _ d.sign left _ ((kS rProof).rd_below Fsign.out HB0.out) h0 h1).mono ?_
  rintro e w1 ⟨⟨r0, rfl, hr0, hq0⟩, hb⟩
  have HB1 := Lib.hid (HB0.out.trans (hb.mono HB0.out.size))
  have HA1 := Lib.hid (HA0.out.trans (hb.mono HA0.out.size)); clear hb
  by_cases hn0 : r0 < 0
  · go_wp2_with fail
    go_ret
    exact ⟨⟨_, rfl, ⟨by decide, by decide⟩, fun h => by omega⟩, HB1.out⟩
  have hz0 := hq0 (by omega)
  have hp0 : r0 ≤ 1000000000 := by omega
  clear hq0
  go_wp2_with fail
  go_ret
  exact ⟨⟨_, rfl, hr0, fun h => by unfold szHead; omega⟩, HB1.out⟩
set_option maxHeartbeats 2000000 in
theorem laws_eqHead (v1 v2 : Value) (d1 d2 : HeadD) (w : World) (h1 : (kS rHead).rd w v1 d1) (h2 : (kS rHead).rd w v2 d2) :
    Calls Try.prog 53 #[v1, v2] w fun e w' => e = .returned (.bool (decide (d1 = d2))) ∧ Below w.heap.size w w' := by
  obtain ⟨a3x, n3x, c3x, a4x, n4x, c4x, a5x, n5x, c5x, rfl, j0x, j1x, j2x, k3x, k4x, k5x⟩ := rdHead.1 h1
  have Fsignx : Hid ((kS rProof).rd w (.agg #[.slice a3x n3x c3x, .slice a4x n4x c4x, .slice a5x n5x c5x]) d1.sign) := rdProof.2 ⟨_, _, _, _, _, _, _, _, _, rfl, k3x, k4x, k5x⟩
  clear k3x k4x k5x
  clear j0x j1x j2x
  obtain ⟨a3y, n3y, c3y, a4y, n4y, c4y, a5y, n5y, c5y, rfl, j0y, j1y, j2y, k3y, k4y, k5y⟩ := rdHead.1 h2
  have Fsigny : Hid ((kS rProof).rd w (.agg #[.slice a3y n3y c3y, .slice a4y n4y c4y, .slice a5y n5y c5y]) d2.sign) := rdProof.2 ⟨_, _, _, _, _, _, _, _, _, rfl, k3y, k4y, k5y⟩
  clear k3y k4y k5y
  clear j0y j1y j2y
  clear h1 h2
  obtain ⟨W, hW⟩ : ∃ W, W = (w.alloc (.cells #[.int .i64 d1.author, .int .i64 d1.size, .int .i64 d1.root, .slice a3x n3x c3x, .slice a4x n4x c4x, .slice a5x n5x c5x] 85)).alloc (.cells #[.int .i64 d2.author, .int .i64 d2.size, .int .i64 d2.root, .slice a3y n3y c3y, .slice a4y n4y c4y, .slice a5y n5y c5y] 85) := ⟨_, rfl⟩
  have hs1 : (w.alloc (.cells #[.int .i64 d1.author, .int .i64 d1.size, .int .i64 d1.root, .slice a3x n3x c3x, .slice a4x n4x c4x, .slice a5x n5x c5x] 85)).heap.size = w.heap.size + 1 := by simp
  have HB0 : Hid (Below w.heap.size w W) := by unfold Hid; rw [hW]; (repeat (first | exact Below.refl _ _ | assumption | refine Below.drew ?_ | refine Below.alloc ?_ (by first | (simp; done) | (simp; omega)) _ | refine Below.setCell ?_ (by first | (simp; done) | (simp; omega)) _))
  have BX : Hid (BoxN W w.heap.size 85 [.int .i64 d1.author, .int .i64 d1.size, .int .i64 d1.root, .slice a3x n3x c3x, .slice a4x n4x c4x, .slice a5x n5x c5x]) := by unfold Hid; rw [hW]; exact (BoxN.new w [.int .i64 d1.author, .int .i64 d1.size, .int .i64 d1.root, .slice a3x n3x c3x, .slice a4x n4x c4x, .slice a5x n5x c5x] _).alloc _
  have BY : Hid (BoxN W (w.heap.size + 1) 85 [.int .i64 d2.author, .int .i64 d2.size, .int .i64 d2.root, .slice a3y n3y c3y, .slice a4y n4y c4y, .slice a5y n5y c5y]) := by unfold Hid; rw [hW, ← hs1]; exact BoxN.new _ [.int .i64 d2.author, .int .i64 d2.size, .int .i64 d2.root, .slice a3y n3y c3y, .slice a4y n4y c4y, .slice a5y n5y c5y] _
  obtain ⟨q_author, hq_author⟩ : ∃ q, decide (d1.author = d2.author) = q := ⟨_, rfl⟩
  obtain ⟨q_size, hq_size⟩ : ∃ q, decide (d1.size = d2.size) = q := ⟨_, rfl⟩
  obtain ⟨q_root, hq_root⟩ : ∃ q, decide (d1.root = d2.root) = q := ⟨_, rfl⟩
  obtain ⟨q_sign, hq_sign⟩ : ∃ q, decide (d1.sign = d2.sign) = q := ⟨_, rfl⟩
  have HR : Hid (decide (d1 = d2) = (q_author && (q_size && (q_root && (q_sign))))) := by
    unfold Hid; rw [← hq_author, ← hq_size, ← hq_root, ← hq_sign, Bool.eq_iff_iff]; simp only [Bool.and_eq_true, decide_eq_true_eq]; exact HeadD.ext_iff'
  have Q_author := Lib.hid hq_author; clear hq_author
  have Q_size := Lib.hid hq_size; clear hq_size
  have Q_root := Lib.hid hq_root; clear hq_root
  have Q_sign := Lib.hid hq_sign; clear hq_sign
  clear hs1
  have HA0 : Hid (Below W.heap.size W W) := Below.refl _ _
  cases q_author with
  | false =>
    have hb_author : (d1.author != d2.author) = true := by rw [bne_iff_ne]; exact of_decide_eq_false Q_author.out
    go_enter Try.func53, Try.ntmps53
    go_wp2_with fail
    (try (go_quiet (fail); go_wp2_with fail))
    go_ret
    exact ⟨ret_bool (by rw [HR.out]; rfl), by (repeat (first | exact Below.refl _ _ | assumption | refine Below.drew ?_ | refine Below.alloc ?_ (by first | (simp; done) | (simp; omega)) _ | refine Below.setCell ?_ (by first | (simp; done) | (simp; omega)) _))⟩
  | true =>
  have hb_author : (d1.author != d2.author) = false := by rw [bne_eq_false_iff_eq]; exact of_decide_eq_true Q_author.out
  cases q_size with
  | false =>
    have hb_size : (d1.size != d2.size) = true := by rw [bne_iff_ne]; exact of_decide_eq_false Q_size.out
    go_enter Try.func53, Try.ntmps53
    go_wp2_with fail
    (try (go_quiet (fail); go_wp2_with fail))
    go_ret
    exact ⟨ret_bool (by rw [HR.out]; rfl), by (repeat (first | exact Below.refl _ _ | assumption | refine Below.drew ?_ | refine Below.alloc ?_ (by first | (simp; done) | (simp; omega)) _ | refine Below.setCell ?_ (by first | (simp; done) | (simp; omega)) _))⟩
  | true =>
  have hb_size : (d1.size != d2.size) = false := by rw [bne_eq_false_iff_eq]; exact of_decide_eq_true Q_size.out
  cases q_root with
  | false =>
    have hb_root : (d1.root != d2.root) = true := by rw [bne_iff_ne]; exact of_decide_eq_false Q_root.out
    go_enter Try.func53, Try.ntmps53
    go_wp2_with fail
    (try (go_quiet (fail); go_wp2_with fail))
    go_ret
    exact ⟨ret_bool (by rw [HR.out]; rfl), by (repeat (first | exact Below.refl _ _ | assumption | refine Below.drew ?_ | refine Below.alloc ?_ (by first | (simp; done) | (simp; omega)) _ | refine Below.setCell ?_ (by first | (simp; done) | (simp; omega)) _))⟩
  | true =>
  have hb_root : (d1.root != d2.root) = false := by rw [bne_eq_false_iff_eq]; exact of_decide_eq_true Q_root.out
  go_enter Try.func53, Try.ntmps53
  go_wp2_with fail
  rw [← hW]
  clear hW
  refine (laws_eqProof _ _ d1.sign d2.sign _ ((kS rProof).rd_below Fsignx.out HB0.out) ((kS rProof).rd_below Fsigny.out HB0.out)).mono ?_
  rintro e w1 ⟨rfl, hb⟩
  rw [Q_sign.out]
  have HB1 := Lib.hid (HB0.out.trans (hb.mono HB0.out.size))
  have HA1 := Lib.hid (HA0.out.trans (hb.mono HA0.out.size)); clear hb
  cases q_sign with
  | false =>
    go_wp2_with fail
    go_ret
    exact ⟨ret_bool (by rw [HR.out]; rfl), HB1.out⟩
  | true =>
  go_wp2_with fail
  go_ret
  exact ⟨ret_bool (by rw [HR.out]; rfl), HB1.out⟩
set_option maxHeartbeats 4000000 in
theorem laws_toHead (v : Value) (d : HeadD) (w : World) (h : (kS rHead).rd w v d) (hl : (szHead d : Int) ≤ 1000000000) :
    Calls Try.prog 154 #[v] w fun e w' => ∃ v', e = .returned v' ∧ (kS rHead).own w' w.heap.size w'.heap.size v' d ∧ Below w.heap.size w w' := by
  unfold szHead at hl
  have L_sign : Hid (((szProof d.sign : Nat) : Int) ≤ 1000000000) := by unfold Hid; omega
  obtain ⟨a3, n3, c3, a4, n4, c4, a5, n5, c5, rfl, j0, j1, j2, k3, k4, k5⟩ := rdHead.1 h
  have Fsign : Hid ((kS rProof).rd w (.agg #[.slice a3 n3 c3, .slice a4 n4 c4, .slice a5 n5 c5]) d.sign) := rdProof.2 ⟨_, _, _, _, _, _, _, _, _, rfl, k3, k4, k5⟩
  clear k3 k4 k5
  have J0 := Lib.hid j0
  have J1 := Lib.hid j1
  have J2 := Lib.hid j2
  clear j0 j1 j2
  clear h hl
  obtain ⟨W, hW⟩ : ∃ W, W = ((w.alloc (.cells #[.int .i64 d.author, .int .i64 d.size, .int .i64 d.root, .slice a3 n3 c3, .slice a4 n4 c4, .slice a5 n5 c5] 101)).alloc (.cells #[.int .i64 0, .int .i64 0, .int .i64 0, .slice none 0 0, .slice none 0 0, .slice none 0 0] 85)).alloc (.cells #[.int .i64 0, .int .i64 0, .int .i64 0, .slice none 0 0, .slice none 0 0, .slice none 0 0] 85) := ⟨_, rfl⟩
  have hs1 : (w.alloc (.cells #[.int .i64 d.author, .int .i64 d.size, .int .i64 d.root, .slice a3 n3 c3, .slice a4 n4 c4, .slice a5 n5 c5] 101)).heap.size = w.heap.size + 1 := by simp
  have hs2 : ((w.alloc (.cells #[.int .i64 d.author, .int .i64 d.size, .int .i64 d.root, .slice a3 n3 c3, .slice a4 n4 c4, .slice a5 n5 c5] 101)).alloc (.cells #[.int .i64 0, .int .i64 0, .int .i64 0, .slice none 0 0, .slice none 0 0, .slice none 0 0] 85)).heap.size = w.heap.size + 1 + 1 := by simp
  have hs0 : W.heap.size = w.heap.size + 1 + 1 + 1 := by rw [hW]; simp
  have HB0 : Hid (Below w.heap.size w W) := by unfold Hid; rw [hW]; (repeat (first | exact Below.refl _ _ | assumption | refine Below.drew ?_ | refine Below.alloc ?_ (by first | (simp; done) | (simp; omega)) _ | refine Below.setCell ?_ (by first | (simp; done) | (simp; omega)) _))
  have BX0 : Hid (BoxN W w.heap.size 101 [.int .i64 d.author, .int .i64 d.size, .int .i64 d.root, .slice a3 n3 c3, .slice a4 n4 c4, .slice a5 n5 c5]) := by unfold Hid; rw [hW]; exact ((BoxN.new w [.int .i64 d.author, .int .i64 d.size, .int .i64 d.root, .slice a3 n3 c3, .slice a4 n4 c4, .slice a5 n5 c5] _).alloc _).alloc _
  have BR0 : Hid (BoxN W (w.heap.size + 1) 85 [.int .i64 0, .int .i64 0, .int .i64 0, .slice none 0 0, .slice none 0 0, .slice none 0 0]) := by unfold Hid; rw [hW, ← hs1]; exact (BoxN.new _ [.int .i64 0, .int .i64 0, .int .i64 0, .slice none 0 0, .slice none 0 0, .slice none 0 0] _).alloc _
  have BO0 : Hid (BoxN W (w.heap.size + 1 + 1) 85 [.int .i64 0, .int .i64 0, .int .i64 0, .slice none 0 0, .slice none 0 0, .slice none 0 0]) := by unfold Hid; rw [hW, ← hs2]; exact BoxN.new _ [.int .i64 0, .int .i64 0, .int .i64 0, .slice none 0 0, .slice none 0 0, .slice none 0 0] _
  have HW := Lib.hid hW; clear hW hs1 hs2
  go_enter Try.func154, Try.ntmps154
  go_wp2_with fail
  skip
  obtain ⟨u1, hU⟩ : ∃ U, U = ((((W).setCell ⟨w.heap.size + 1 + 1, 0, none⟩ (.int .i64 d.author)).setCell ⟨w.heap.size + 1 + 1, 1, none⟩ (.int .i64 d.size)).setCell ⟨w.heap.size + 1 + 1, 2, none⟩ (.int .i64 d.root)) := ⟨_, rfl⟩
  have hU2 : u1 = ((w.alloc (.cells #[.int .i64 d.author, .int .i64 d.size, .int .i64 d.root, .slice a3 n3 c3, .slice a4 n4 c4, .slice a5 n5 c5] 101)).alloc (.cells #[.int .i64 0, .int .i64 0, .int .i64 0, .slice none 0 0, .slice none 0 0, .slice none 0 0] 85)).alloc (.cells #[.int .i64 d.author, .int .i64 d.size, .int .i64 d.root, .slice none 0 0, .slice none 0 0, .slice none 0 0] 85) := by rw [hU, HW.out]; simp [go_sem]
  rw [← hU2]
  clear hU2
  have hwi : Within (w.heap.size + 1 + 1) (w.heap.size + 1 + 1 + 1) W u1 := by rw [hU]; exact (((Within.refl _ _ _ |>.setCell (by omega) (by omega) _ _) |>.setCell (by omega) (by omega) _ _) |>.setCell (by omega) (by omega) _ _)
  have us1 : u1.heap.size = W.heap.size := by rw [hU]; simp only [size_setC]
  have HB1 : Hid (Below w.heap.size w u1) := HB0.out.trans (hwi.below (by omega) (by omega))
  have BX1 : Hid (BoxN u1 w.heap.size 101 [.int .i64 d.author, .int .i64 d.size, .int .i64 d.root, .slice a3 n3 c3, .slice a4 n4 c4, .slice a5 n5 c5]) := BX0.out.kept hwi (.inl (by omega))
  have BR1 : Hid (BoxN u1 (w.heap.size + 1) 85 [.int .i64 0, .int .i64 0, .int .i64 0, .slice none 0 0, .slice none 0 0, .slice none 0 0]) := BR0.out.kept hwi (.inl (by omega))
  have BO1 : Hid (BoxN u1 (w.heap.size + 1 + 1) 85 [.int .i64 d.author, .int .i64 d.size, .int .i64 d.root, .slice none 0 0, .slice none 0 0, .slice none 0 0]) := by unfold Hid; rw [hU]; exact (((BO0.out.set 0 _).set 1 _).set 2 _)
  clear hwi hU
  refine (laws_toProof _ d.sign u1 ((kS rProof).rd_below Fsign.out HB1.out) L_sign.out).mono ?_
  rintro e w2 ⟨v2, rfl, X, hb⟩
  obtain ⟨_, rfl, X⟩ := X
  obtain ⟨v10, _, rfl, h11, ⟨v12, _, rfl, h13, ⟨v14, _, rfl, h15, rfl⟩⟩⟩ := rProof.own_rd X
  obtain ⟨ea_sign0, en_sign0, ec_sign0, rfl⟩ := sInts.sl h11
  clear h11
  obtain ⟨ea_sign1, en_sign1, ec_sign1, rfl⟩ := sInts.sl h13
  clear h13
  obtain ⟨ea_sign2, en_sign2, ec_sign2, rfl⟩ := sInts.sl h15
  clear h15
  have O_sign := Lib.hid X; clear X
  have us2 := hb.size
  have HB2 := Lib.hid (HB1.out.trans (hb.mono HB1.out.size))
  have BX2 := Lib.hid (BX1.out.below hb)
  have BR2 := Lib.hid (BR1.out.below hb)
  have BO2 := Lib.hid (BO1.out.below hb)
  clear hb
  have px0 := BX2.out.cell (i := 0) rfl
  have po0 := BO2.out.cell (i := 0) rfl
  have pr0 := BR2.out.cell (i := 0) rfl
  have px1 := BX2.out.cell (i := 1) rfl
  have po1 := BO2.out.cell (i := 1) rfl
  have pr1 := BR2.out.cell (i := 1) rfl
  have px2 := BX2.out.cell (i := 2) rfl
  have po2 := BO2.out.cell (i := 2) rfl
  have pr2 := BR2.out.cell (i := 2) rfl
  have px3 := BX2.out.cell (i := 3) rfl
  have po3 := BO2.out.cell (i := 3) rfl
  have pr3 := BR2.out.cell (i := 3) rfl
  have px4 := BX2.out.cell (i := 4) rfl
  have po4 := BO2.out.cell (i := 4) rfl
  have pr4 := BR2.out.cell (i := 4) rfl
  have px5 := BX2.out.cell (i := 5) rfl
  have po5 := BO2.out.cell (i := 5) rfl
  have pr5 := BR2.out.cell (i := 5) rfl
  have fo := BO2.out.frozen
  have fr := BR2.out.frozen
  have st0 : w.heap.size < w2.heap.size := by omega
  have st1 : w.heap.size + 1 < w2.heap.size := by omega
  have st2 : w.heap.size + 1 + 1 < w2.heap.size := by omega
  go_wp2_with fail
  obtain ⟨V, hV⟩ : ∃ U, U = ((((((((((w2).setCell ⟨w.heap.size + 1 + 1, 3, none⟩ (.slice ea_sign0 en_sign0 ec_sign0)).setCell ⟨w.heap.size + 1 + 1, 4, none⟩ (.slice ea_sign1 en_sign1 ec_sign1)).setCell ⟨w.heap.size + 1 + 1, 5, none⟩ (.slice ea_sign2 en_sign2 ec_sign2)).setCell ⟨w.heap.size + 1, 0, none⟩ (.int .i64 d.author)).setCell ⟨w.heap.size + 1, 1, none⟩ (.int .i64 d.size)).setCell ⟨w.heap.size + 1, 2, none⟩ (.int .i64 d.root)).setCell ⟨w.heap.size + 1, 3, none⟩ (.slice ea_sign0 en_sign0 ec_sign0)).setCell ⟨w.heap.size + 1, 4, none⟩ (.slice ea_sign1 en_sign1 ec_sign1)).setCell ⟨w.heap.size + 1, 5, none⟩ (.slice ea_sign2 en_sign2 ec_sign2)) := ⟨_, rfl⟩
  rw [← hV]
  have hwi : Within (w.heap.size + 1) (w.heap.size + 1 + 1 + 1) w2 V := by rw [hV]; exact (((((((((Within.refl _ _ _ |>.setCell (by omega) (by omega) _ _) |>.setCell (by omega) (by omega) _ _) |>.setCell (by omega) (by omega) _ _) |>.setCell (by omega) (by omega) _ _) |>.setCell (by omega) (by omega) _ _) |>.setCell (by omega) (by omega) _ _) |>.setCell (by omega) (by omega) _ _) |>.setCell (by omega) (by omega) _ _) |>.setCell (by omega) (by omega) _ _)
  have hs : V.heap.size = w2.heap.size := by rw [hV]; simp only [size_setC]
  have BV : BoxN V (w.heap.size + 1) 85 [.int .i64 d.author, .int .i64 d.size, .int .i64 d.root, .slice ea_sign0 en_sign0 ec_sign0, .slice ea_sign1 en_sign1 ec_sign1, .slice ea_sign2 en_sign2 ec_sign2] := by rw [hV]; exact (((((((((BR2.out.other (by omega) _ _).other (by omega) _ _).other (by omega) _ _).set 0 _).set 1 _).set 2 _).set 3 _).set 4 _).set 5 _)
  replace O_sign := Lib.hid (RowK.kept O_sign.out hwi (.inr (by omega)))
  clear hV
  clear px0 po0 pr0 px1 po1 pr1 px2 po2 pr2 px3 po3 pr3 px4 po4 pr4 px5 po5 pr5 fo fr st0 st1 st2
  have r0 := BV.cell (i := 0) rfl
  have r1 := BV.cell (i := 1) rfl
  have r2 := BV.cell (i := 2) rfl
  have r3 := BV.cell (i := 3) rfl
  have r4 := BV.cell (i := 4) rfl
  have r5 := BV.cell (i := 5) rfl
  refine bodyPost_ret (v := .agg #[.int .i64 d.author, .int .i64 d.size, .int .i64 d.root, .slice ea_sign0 en_sign0 ec_sign0, .slice ea_sign1 en_sign1 ec_sign1, .slice ea_sign2 en_sign2 ec_sign2]) (by simp [results, Try.results154, go_sem, r0, r1, r2, r3, r4, r5]) rfl ⟨_, rfl, ⟨_, rfl, ⟨_, rfl, J0.out, ⟨_, rfl, J1.out, ⟨_, rfl, J2.out, (rProof.own_mono O_sign.out (by omega) (by omega))⟩⟩⟩⟩, ?_⟩
  exact HB2.out.trans (hwi.below (by omega) (by omega))
/-- the struct with marks in its slices, from k0 on -/
def mkHead (k0 : Nat) (d : HeadD) : HeadD := ⟨d.author, d.size, d.root, mkProof (k0) d.sign⟩
set_option maxHeartbeats 2000000 in
theorem laws_markHead (lo hi : Nat) (v : Value) (k0 : Nat) (d : HeadD) (w : World) (h : (kS rHead).own w lo hi v d) (hk : k0 + cnHead d ≤ 9223372036854775806) (hhi : hi ≤ w.heap.size) :
    Calls Try.prog 54 #[v, .int .i64 k0] w fun e w' => e = .returned (.int .i64 (k0 + cnHead d : Nat)) ∧ (kS rHead).own w' lo hi v (mkHead k0 d) ∧ Within lo hi w w' := by
  have HK : Hid (k0 + cnHead d = k0 + cnProof d.sign) := by unfold Hid cnHead; omega
  unfold cnHead at hk
  obtain ⟨_, rfl, ⟨_, rfl, i_author, ⟨_, rfl, i_size, ⟨_, rfl, i_root, o_sign⟩⟩⟩⟩ := h
  obtain ⟨v16, _, rfl, h17, ⟨v18, _, rfl, h19, ⟨v20, _, rfl, h21, rfl⟩⟩⟩ := rProof.own_rd o_sign
  obtain ⟨ea_sign0, en_sign0, ec_sign0, rfl⟩ := sInts.sl h17
  clear h17
  obtain ⟨ea_sign1, en_sign1, ec_sign1, rfl⟩ := sInts.sl h19
  clear h19
  obtain ⟨ea_sign2, en_sign2, ec_sign2, rfl⟩ := sInts.sl h21
  clear h21
  obtain ⟨W, hW⟩ : ∃ W, W = w.alloc (.cells #[.int .i64 d.author, .int .i64 d.size, .int .i64 d.root, .slice ea_sign0 en_sign0 ec_sign0, .slice ea_sign1 en_sign1 ec_sign1, .slice ea_sign2 en_sign2 ec_sign2] 85) := ⟨_, rfl⟩
  have hb : Below w.heap.size w W := by rw [hW]; exact (Below.refl _ _).alloc (Nat.le_refl _) _
  have hs0 : W.heap.size = w.heap.size + 1 := by rw [hW]; simp
  have BX0 : Hid (BoxN W w.heap.size 85 [.int .i64 d.author, .int .i64 d.size, .int .i64 d.root, .slice ea_sign0 en_sign0 ec_sign0, .slice ea_sign1 en_sign1 ec_sign1, .slice ea_sign2 en_sign2 ec_sign2]) := by unfold Hid; rw [hW]; exact BoxN.new w [.int .i64 d.author, .int .i64 d.size, .int .i64 d.root, .slice ea_sign0 en_sign0 ec_sign0, .slice ea_sign1 en_sign1 ec_sign1, .slice ea_sign2 en_sign2 ec_sign2] _
  have O_sign := Lib.hid (RowK.next o_sign hb)
  clear o_sign
  have G0 : Hid (Within lo hi w W) := Within.of_below hb
  clear hb
  go_enter Try.func54, Try.ntmps54
  go_wp2_with fail
  rw [← hW]
  clear hW
  refine (laws_markProof lo hi _ (k0) d.sign W ⟨_, rfl, O_sign.out⟩ (by omega) (by omega)).mono ?_
  rintro e w1 ⟨rfl, X, g⟩
  obtain ⟨_, hX, X⟩ := X
  have hX2 := congrArg (fun v => match v with | Value.agg a => a.toList | _ => []) hX
  simp only at hX2
  subst hX2
  clear hX
  replace O_sign := Lib.hid X; clear X
  have us1 := g.size
  have BX1 := Lib.hid (BX0.out.kept g (.inr (by omega)))
  have G1 := Lib.hid (G0.out.trans (g.mono (by omega) (by omega))); clear g
  go_wp2_with fail
  go_ret
  refine ⟨ret_int (by rw [HK.out]; (try omega)), ⟨_, rfl, ⟨_, rfl, i_author, ⟨_, rfl, i_size, ⟨_, rfl, i_root, O_sign.out⟩⟩⟩⟩, G1.out⟩
set_option maxHeartbeats 2000000 in
theorem laws_heldHead (v : Value) (k0 : Nat) (d : HeadD) (w : World) (h : (kS rHead).rd w v (mkHead k0 d)) (hk : k0 + cnHead d ≤ 9223372036854775806) :
    Calls Try.prog 55 #[v, .int .i64 k0] w fun e w' => e = .returned (.int .i64 (k0 + cnHead d : Nat)) ∧ Below w.heap.size w w' := by
  have HK : Hid (k0 + cnHead d = k0 + cnProof d.sign) := by unfold Hid cnHead; omega
  unfold cnHead at hk
  obtain ⟨D, hD⟩ : ∃ D, mkHead k0 d = D := ⟨_, rfl⟩
  have D_sign : Hid (D.sign = mkProof (k0) d.sign) := by unfold Hid; rw [← hD]; rfl
  rw [hD] at h; clear hD
  obtain ⟨a3, n3, c3, a4, n4, c4, a5, n5, c5, rfl, j0, j1, j2, k3, k4, k5⟩ := rdHead.1 h
  have Fsign : Hid ((kS rProof).rd w (.agg #[.slice a3 n3 c3, .slice a4 n4 c4, .slice a5 n5 c5]) D.sign) := rdProof.2 ⟨_, _, _, _, _, _, _, _, _, rfl, k3, k4, k5⟩
  clear k3 k4 k5
  clear j0 j1 j2
  clear h
  obtain ⟨W, hW⟩ : ∃ W, W = w.alloc (.cells #[.int .i64 D.author, .int .i64 D.size, .int .i64 D.root, .slice a3 n3 c3, .slice a4 n4 c4, .slice a5 n5 c5] 85) := ⟨_, rfl⟩
  have HB0 : Hid (Below w.heap.size w W) := by unfold Hid; rw [hW]; exact (Below.refl _ _).alloc (Nat.le_refl _) _
  have BX : Hid (BoxN W w.heap.size 85 [.int .i64 D.author, .int .i64 D.size, .int .i64 D.root, .slice a3 n3 c3, .slice a4 n4 c4, .slice a5 n5 c5]) := by unfold Hid; rw [hW]; exact BoxN.new w [.int .i64 D.author, .int .i64 D.size, .int .i64 D.root, .slice a3 n3 c3, .slice a4 n4 c4, .slice a5 n5 c5] _
  have HA0 : Hid (Below W.heap.size W W) := Below.refl _ _
  go_enter Try.func55, Try.ntmps55
  go_wp2_with fail
  rw [← hW]
  clear hW
  refine (laws_heldProof _ (k0) d.sign _ ((kS rProof).rd_below (by rw [← D_sign.out]; exact Fsign.out) HB0.out) (by omega)).mono ?_
  rintro e w1 ⟨rfl, hb⟩
  have HB1 := Lib.hid (HB0.out.trans (hb.mono HB0.out.size))
  have HA1 := Lib.hid (HA0.out.trans (hb.mono HA0.out.size)); clear hb
  have hnn0 : ¬ (((k0 + cnProof d.sign : Nat) : Int) < 0) := by omega
  go_wp2_with fail
  go_ret
  exact ⟨ret_int (by rw [HK.out]; (try omega)), HB1.out⟩
end Go.Proofs.Ytapfceghgkmgoaa
