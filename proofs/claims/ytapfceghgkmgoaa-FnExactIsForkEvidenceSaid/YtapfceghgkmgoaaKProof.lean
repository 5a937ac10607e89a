/- The struct Proof as a kind (printed by genkind.py): its data, its row, the walks of the laws' helpers. -/
import Derived.Test.YtapfceghgkmgoaaRows1
namespace Go.Proofs.Ytapfceghgkmgoaa
open Go.RowKit
set_option linter.unusedSimpArgs false
set_option linter.unusedVariables false

structure ProofD where
  c : List Int
  h : List Int
  r : List Int
deriving DecidableEq
abbrev rProof : RowK ProofD := rMap (rS sInts (rS sInts (rS sInts rNil))) (fun d => (d.c, (d.h, (d.r, ()))))
theorem ProofD.ext_iff' {a b : ProofD} : a = b ↔ a.c = b.c ∧ a.h = b.h ∧ a.r = b.r := by
  cases a; cases b; simp
/-- what it counts for in the laws' bound; the marks that it holds -/
def szProof (d : ProofD) : Nat := d.c.length + d.h.length + d.r.length
def cnProof (d : ProofD) : Nat := d.c.length + d.h.length + d.r.length
theorem cnProof_le (d : ProofD) : cnProof d ≤ 4 * szProof d := by
  unfold cnProof szProof;  omega
theorem rdProof {w : World} {v : Value} {d : ProofD} : (kS rProof).rd w v d ↔ ∃ a0 n0 c0 a1 n1 c1 a2 n2 c2, v = .agg #[.slice a0 n0 c0, .slice a1 n1 c1, .slice a2 n2 c2] ∧ sInts.rd w (.slice a0 n0 c0) d.c ∧ sInts.rd w (.slice a1 n1 c1) d.h ∧ sInts.rd w (.slice a2 n2 c2) d.r := by
  constructor
  · rintro ⟨_, rfl, ⟨v1, _, rfl, h2, ⟨v3, _, rfl, h4, ⟨v5, _, rfl, h6, rfl⟩⟩⟩⟩
    obtain ⟨_, _, _, rfl⟩ := sInts.sl h2
    obtain ⟨_, _, _, rfl⟩ := sInts.sl h4
    obtain ⟨_, _, _, rfl⟩ := sInts.sl h6
    exact ⟨_, _, _, _, _, _, _, _, _, rfl, h2, h4, h6⟩
  · rintro ⟨a0, n0, c0, a1, n1, c1, a2, n2, c2, rfl, g0, g1, g2⟩
    exact ⟨_, rfl, ⟨_, _, rfl, g0, ⟨_, _, rfl, g1, ⟨_, _, rfl, g2, rfl⟩⟩⟩⟩
set_option maxHeartbeats 2000000 in
theorem laws_szProof (v : Value) (d : ProofD) (left : Int) (w : World) (h : (kS rProof).rd w v d) (h0 : 0 ≤ left) (h1 : left ≤ 1000000000) :
    Calls Try.prog 92 #[v, .int .i64 left] w fun e w' => (∃ r : Int, e = .returned (.int .i64 r) ∧ I64 r ∧ (0 ≤ r → (szProof d : Int) + r ≤ left)) ∧ Below w.heap.size w w' := by
  obtain ⟨a0, n0, c0, a1, n1, c1, a2, n2, c2, rfl, k0, k1, k2⟩ := rdProof.1 h
  have Fc := Lib.hid k0
  have Fh := Lib.hid k1
  have Fr := Lib.hid k2
  clear k0 k1 k2
  clear h
  obtain ⟨W, hW⟩ : ∃ W, W = w.alloc (.cells #[.slice a0 n0 c0, .slice a1 n1 c1, .slice a2 n2 c2] 39) := ⟨_, rfl⟩
  have HB0 : Hid (Below w.heap.size w W) := by unfold Hid; rw [hW]; exact (Below.refl _ _).alloc (Nat.le_refl _) _
  have BX : Hid (BoxN W w.heap.size 39 [.slice a0 n0 c0, .slice a1 n1 c1, .slice a2 n2 c2]) := by unfold Hid; rw [hW]; exact BoxN.new w [.slice a0 n0 c0, .slice a1 n1 c1, .slice a2 n2 c2] _
  go_enter Try.func92, Try.ntmps92
  go_wp2_with fail
  rw [← hW]
  clear hW
  have HA0 : Hid (Below W.heap.size W W) := Below.refl _ _
  refine (laws_szI _ d.c left _ (sInts.rd_below Fc.out HB0.out) h0 h1).mono ?_
  rintro e w1 ⟨⟨r0, rfl, hr0, hq0⟩, hb⟩
  have HB1 := Lib.hid (HB0.out.trans (hb.mono HB0.out.size))
  have HA1 := Lib.hid (HA0.out.trans (hb.mono HA0.out.size)); clear hb
  by_cases hn0 : r0 < 0
  · go_wp2_with fail
    go_ret
    exact ⟨⟨_, rfl, ⟨by decide, by decide⟩, fun h => by omega⟩, HB1.out⟩
  have hz0 := hq0 (by omega)
  have hp0 : r0 ≤ 1000000000 := by omega
  clear hq0
  have p1 := BX.out.below HA1.out |>.cell (i := 1) rfl
  go_wp2_with fail
  clear p1
  refine (laws_szI _ d.h r0 _ (sInts.rd_below Fh.out HB1.out) (by omega) hp0).mono ?_
  rintro e w2 ⟨⟨r1, rfl, hr1, hq1⟩, hb⟩
  have HB2 := Lib.hid (HB1.out.trans (hb.mono HB1.out.size))
  have HA2 := Lib.hid (HA1.out.trans (hb.mono HA1.out.size)); clear hb
  by_cases hn1 : r1 < 0
  · go_wp2_with fail
    go_ret
    exact ⟨⟨_, rfl, ⟨by decide, by decide⟩, fun h => by omega⟩, HB2.out⟩
  have hz1 := hq1 (by omega)
  have hp1 : r1 ≤ 1000000000 := by omega
  clear hq1
  have p2 := BX.out.below HA2.out |>.cell (i := 2) rfl
  go_wp2_with fail
  clear p2
  refine (laws_szI _ d.r r1 _ (sInts.rd_below Fr.out HB2.out) (by omega) hp1).mono ?_
  rintro e w3 ⟨⟨r2, rfl, hr2, hq2⟩, hb⟩
  have HB3 := Lib.hid (HB2.out.trans (hb.mono HB2.out.size))
  have HA3 := Lib.hid (HA2.out.trans (hb.mono HA2.out.size)); clear hb
  by_cases hn2 : r2 < 0
  · go_wp2_with fail
    go_ret
    exact ⟨⟨_, rfl, ⟨by decide, by decide⟩, fun h => by omega⟩, HB3.out⟩
  have hz2 := hq2 (by omega)
  have hp2 : r2 ≤ 1000000000 := by omega
  clear hq2
  go_wp2_with fail
  go_ret
  exact ⟨⟨_, rfl, hr2, fun h => by unfold szProof; omega⟩, HB3.out⟩
set_option maxHeartbeats 2000000 in
theorem laws_eqProof (v1 v2 : Value) (d1 d2 : ProofD) (w : World) (h1 : (kS rProof).rd w v1 d1) (h2 : (kS rProof).rd w v2 d2) :
    Calls Try.prog 100 #[v1, v2] w fun e w' => e = .returned (.bool (decide (d1 = d2))) ∧ Below w.heap.size w w' := by
  obtain ⟨a0x, n0x, c0x, a1x, n1x, c1x, a2x, n2x, c2x, rfl, k0x, k1x, k2x⟩ := rdProof.1 h1
  have Fcx := Lib.hid k0x
  have Fhx := Lib.hid k1x
  have Frx := Lib.hid k2x
  clear k0x k1x k2x
  obtain ⟨a0y, n0y, c0y, a1y, n1y, c1y, a2y, n2y, c2y, rfl, k0y, k1y, k2y⟩ := rdProof.1 h2
  have Fcy := Lib.hid k0y
  have Fhy := Lib.hid k1y
  have Fry := Lib.hid k2y
  clear k0y k1y k2y
  clear h1 h2
  obtain ⟨W, hW⟩ : ∃ W, W = (w.alloc (.cells #[.slice a0x n0x c0x, .slice a1x n1x c1x, .slice a2x n2x c2x] 47)).alloc (.cells #[.slice a0y n0y c0y, .slice a1y n1y c1y, .slice a2y n2y c2y] 47) := ⟨_, rfl⟩
  have hs1 : (w.alloc (.cells #[.slice a0x n0x c0x, .slice a1x n1x c1x, .slice a2x n2x c2x] 47)).heap.size = w.heap.size + 1 := by simp
  have HB0 : Hid (Below w.heap.size w W) := by unfold Hid; rw [hW]; (repeat (first | exact Below.refl _ _ | assumption | refine Below.drew ?_ | refine Below.alloc ?_ (by first | (simp; done) | (simp; omega)) _ | refine Below.setCell ?_ (by first | (simp; done) | (simp; omega)) _))
  have BX : Hid (BoxN W w.heap.size 47 [.slice a0x n0x c0x, .slice a1x n1x c1x, .slice a2x n2x c2x]) := by unfold Hid; rw [hW]; exact (BoxN.new w [.slice a0x n0x c0x, .slice a1x n1x c1x, .slice a2x n2x c2x] _).alloc _
  have BY : Hid (BoxN W (w.heap.size + 1) 47 [.slice a0y n0y c0y, .slice a1y n1y c1y, .slice a2y n2y c2y]) := by unfold Hid; rw [hW, ← hs1]; exact BoxN.new _ [.slice a0y n0y c0y, .slice a1y n1y c1y, .slice a2y n2y c2y] _
  obtain ⟨q_c, hq_c⟩ : ∃ q, decide (d1.c = d2.c) = q := ⟨_, rfl⟩
  obtain ⟨q_h, hq_h⟩ : ∃ q, decide (d1.h = d2.h) = q := ⟨_, rfl⟩
  obtain ⟨q_r, hq_r⟩ : ∃ q, decide (d1.r = d2.r) = q := ⟨_, rfl⟩
  have HR : Hid (decide (d1 = d2) = (q_c && (q_h && (q_r)))) := by
    unfold Hid; rw [← hq_c, ← hq_h, ← hq_r, Bool.eq_iff_iff]; simp only [Bool.and_eq_true, decide_eq_true_eq]; exact ProofD.ext_iff'
  have Q_c := Lib.hid hq_c; clear hq_c
  have Q_h := Lib.hid hq_h; clear hq_h
  have Q_r := Lib.hid hq_r; clear hq_r
  clear hs1
  have HA0 : Hid (Below W.heap.size W W) := Below.refl _ _
  go_enter Try.func100, Try.ntmps100
  go_wp2_with fail
  rw [← hW]
  clear hW
  refine (laws_eqI _ _ d1.c d2.c _ (sInts.rd_below Fcx.out HB0.out) (sInts.rd_below Fcy.out HB0.out)).mono ?_
  rintro e w1 ⟨rfl, hb⟩
  rw [Q_c.out]
  have HB1 := Lib.hid (HB0.out.trans (hb.mono HB0.out.size))
  have HA1 := Lib.hid (HA0.out.trans (hb.mono HA0.out.size)); clear hb
  cases q_c with
  | false =>
    go_wp2_with fail
    go_ret
    exact ⟨ret_bool (by rw [HR.out]; rfl), HB1.out⟩
  | true =>
  have px1 := BX.out.below HA1.out |>.cell (i := 1) rfl
  have py1 := BY.out.below HA1.out |>.cell (i := 1) rfl
  go_wp2_with fail
  clear px1 py1
  refine (laws_eqI _ _ d1.h d2.h _ (sInts.rd_below Fhx.out HB1.out) (sInts.rd_below Fhy.out HB1.out)).mono ?_
  rintro e w2 ⟨rfl, hb⟩
  rw [Q_h.out]
  have HB2 := Lib.hid (HB1.out.trans (hb.mono HB1.out.size))
  have HA2 := Lib.hid (HA1.out.trans (hb.mono HA1.out.size)); clear hb
  cases q_h with
  | false =>
    go_wp2_with fail
    go_ret
    exact ⟨ret_bool (by rw [HR.out]; rfl), HB2.out⟩
  | true =>
  have px2 := BX.out.below HA2.out |>.cell (i := 2) rfl
  have py2 := BY.out.below HA2.out |>.cell (i := 2) rfl
  go_wp2_with fail
  clear px2 py2
  refine (laws_eqI _ _ d1.r d2.r _ (sInts.rd_below Frx.out HB2.out) (sInts.rd_below Fry.out HB2.out)).mono ?_
  rintro e w3 ⟨rfl, hb⟩
  rw [Q_r.out]
  have HB3 := Lib.hid (HB2.out.trans (hb.mono HB2.out.size))
  have HA3 := Lib.hid (HA2.out.trans (hb.mono HA2.out.size)); clear hb
  cases q_r with
  | false =>
    go_wp2_with fail
    go_ret
    exact ⟨ret_bool (by rw [HR.out]; rfl), HB3.out⟩
  | true =>
  go_wp2_with fail
  go_ret
  exact ⟨ret_bool (by rw [HR.out]; rfl), HB3.out⟩
set_option maxHeartbeats 4000000 in
theorem laws_toProof (v : Value) (d : ProofD) (w : World) (h : (kS rProof).rd w v d) (hl : (szProof d : Int) ≤ 1000000000) :
    Calls Try.prog 96 #[v] w fun e w' => ∃ v', e = .returned v' ∧ (kS rProof).own w' w.heap.size w'.heap.size v' d ∧ Below w.heap.size w w' := by
  unfold szProof at hl
  have L_c : Hid (((d.c.length : Nat) : Int) ≤ 1000000000) := by unfold Hid; omega
  have L_h : Hid (((d.h.length : Nat) : Int) ≤ 1000000000) := by unfold Hid; omega
  have L_r : Hid (((d.r.length : Nat) : Int) ≤ 1000000000) := by unfold Hid; omega
  obtain ⟨a0, n0, c0, a1, n1, c1, a2, n2, c2, rfl, k0, k1, k2⟩ := rdProof.1 h
  have Fc := Lib.hid k0
  have Fh := Lib.hid k1
  have Fr := Lib.hid k2
  clear k0 k1 k2
  clear h hl
  obtain ⟨W, hW⟩ : ∃ W, W = ((w.alloc (.cells #[.slice a0 n0 c0, .slice a1 n1 c1, .slice a2 n2 c2] 39)).alloc (.cells #[.slice none 0 0, .slice none 0 0, .slice none 0 0] 47)).alloc (.cells #[.slice none 0 0, .slice none 0 0, .slice none 0 0] 47) := ⟨_, rfl⟩
  have hs1 : (w.alloc (.cells #[.slice a0 n0 c0, .slice a1 n1 c1, .slice a2 n2 c2] 39)).heap.size = w.heap.size + 1 := by simp
  have hs2 : ((w.alloc (.cells #[.slice a0 n0 c0, .slice a1 n1 c1, .slice a2 n2 c2] 39)).alloc (.cells #[.slice none 0 0, .slice none 0 0, .slice none 0 0] 47)).heap.size = w.heap.size + 1 + 1 := by simp
  have hs0 : W.heap.size = w.heap.size + 1 + 1 + 1 := by rw [hW]; simp
  have HB0 : Hid (Below w.heap.size w W) := by unfold Hid; rw [hW]; (repeat (first | exact Below.refl _ _ | assumption | refine Below.drew ?_ | refine Below.alloc ?_ (by first | (simp; done) | (simp; omega)) _ | refine Below.setCell ?_ (by first | (simp; done) | (simp; omega)) _))
  have BX0 : Hid (BoxN W w.heap.size 39 [.slice a0 n0 c0, .slice a1 n1 c1, .slice a2 n2 c2]) := by unfold Hid; rw [hW]; exact ((BoxN.new w [.slice a0 n0 c0, .slice a1 n1 c1, .slice a2 n2 c2] _).alloc _).alloc _
  have BR0 : Hid (BoxN W (w.heap.size + 1) 47 [.slice none 0 0, .slice none 0 0, .slice none 0 0]) := by unfold Hid; rw [hW, ← hs1]; exact (BoxN.new _ [.slice none 0 0, .slice none 0 0, .slice none 0 0] _).alloc _
  have BO0 : Hid (BoxN W (w.heap.size + 1 + 1) 47 [.slice none 0 0, .slice none 0 0, .slice none 0 0]) := by unfold Hid; rw [hW, ← hs2]; exact BoxN.new _ [.slice none 0 0, .slice none 0 0, .slice none 0 0] _
  have HW := Lib.hid hW; clear hW hs1 hs2
  go_enter Try.func96, Try.ntmps96
  go_wp2_with fail
  rw [← HW.out]
  refine (laws_toI _ d.c W (sInts.rd_below Fc.out HB0.out) L_c.out).mono ?_
  rintro e w1 ⟨v1, rfl, X, hb⟩
  obtain ⟨ea_c, en_c, ec_c, rfl⟩ := sInts.sl (sInts.own_rd X)
  have O_c := Lib.hid X; clear X
  have us1 := hb.size
  have HB1 := Lib.hid (HB0.out.trans (hb.mono HB0.out.size))
  have BX1 := Lib.hid (BX0.out.below hb)
  have BR1 := Lib.hid (BR0.out.below hb)
  have BO1 := Lib.hid (BO0.out.below hb)
  clear hb
  have px0 := BX1.out.cell (i := 0) rfl
  have po0 := BO1.out.cell (i := 0) rfl
  have pr0 := BR1.out.cell (i := 0) rfl
  have px1 := BX1.out.cell (i := 1) rfl
  have po1 := BO1.out.cell (i := 1) rfl
  have pr1 := BR1.out.cell (i := 1) rfl
  have px2 := BX1.out.cell (i := 2) rfl
  have po2 := BO1.out.cell (i := 2) rfl
  have pr2 := BR1.out.cell (i := 2) rfl
  have fo := BO1.out.frozen
  have fr := BR1.out.frozen
  have st0 : w.heap.size < w1.heap.size := by omega
  have st1 : w.heap.size + 1 < w1.heap.size := by omega
  have st2 : w.heap.size + 1 + 1 < w1.heap.size := by omega
  go_wp2_with fail
  obtain ⟨u2, hU⟩ : ∃ U, U = ((w1).setCell ⟨w.heap.size + 1 + 1, 0, none⟩ (.slice ea_c en_c ec_c)) := ⟨_, rfl⟩
  rw [← hU]
  have hwi : Within (w.heap.size + 1 + 1) (w.heap.size + 1 + 1 + 1) w1 u2 := by rw [hU]; exact (Within.refl _ _ _ |>.setCell (by omega) (by omega) _ _)
  have us2 : u2.heap.size = w1.heap.size := by rw [hU]; simp only [size_setC]
  have HB2 : Hid (Below w.heap.size w u2) := HB1.out.trans (hwi.below (by omega) (by omega))
  have BX2 : Hid (BoxN u2 w.heap.size 39 [.slice a0 n0 c0, .slice a1 n1 c1, .slice a2 n2 c2]) := BX1.out.kept hwi (.inl (by omega))
  have BR2 : Hid (BoxN u2 (w.heap.size + 1) 47 [.slice none 0 0, .slice none 0 0, .slice none 0 0]) := BR1.out.kept hwi (.inl (by omega))
  have BO2 : Hid (BoxN u2 (w.heap.size + 1 + 1) 47 [.slice ea_c en_c ec_c, .slice none 0 0, .slice none 0 0]) := by unfold Hid; rw [hU]; exact (BO1.out.set 0 _)
  replace O_c := Lib.hid (Kind.kept (K := sInts.toKind) O_c.out hwi (.inr (by omega)))
  clear hwi hU
  clear px0 po0 pr0 px1 po1 pr1 px2 po2 pr2 fo fr st0 st1 st2
  refine (laws_toI _ d.h u2 (sInts.rd_below Fh.out HB2.out) L_h.out).mono ?_
  rintro e w3 ⟨v3, rfl, X, hb⟩
  obtain ⟨ea_h, en_h, ec_h, rfl⟩ := sInts.sl (sInts.own_rd X)
  have O_h := Lib.hid X; clear X
  have us3 := hb.size
  have HB3 := Lib.hid (HB2.out.trans (hb.mono HB2.out.size))
  have BX3 := Lib.hid (BX2.out.below hb)
  have BR3 := Lib.hid (BR2.out.below hb)
  have BO3 := Lib.hid (BO2.out.below hb)
  replace O_c := Lib.hid (Kind.next (K := sInts.toKind) O_c.out hb)
  clear hb
  have px0 := BX3.out.cell (i := 0) rfl
  have po0 := BO3.out.cell (i := 0) rfl
  have pr0 := BR3.out.cell (i := 0) rfl
  have px1 := BX3.out.cell (i := 1) rfl
  have po1 := BO3.out.cell (i := 1) rfl
  have pr1 := BR3.out.cell (i := 1) rfl
  have px2 := BX3.out.cell (i := 2) rfl
  have po2 := BO3.out.cell (i := 2) rfl
  have pr2 := BR3.out.cell (i := 2) rfl
  have fo := BO3.out.frozen
  have fr := BR3.out.frozen
  have st0 : w.heap.size < w3.heap.size := by omega
  have st1 : w.heap.size + 1 < w3.heap.size := by omega
  have st2 : w.heap.size + 1 + 1 < w3.heap.size := by omega
  go_wp2_with fail
  obtain ⟨u4, hU⟩ : ∃ U, U = ((w3).setCell ⟨w.heap.size + 1 + 1, 1, none⟩ (.slice ea_h en_h ec_h)) := ⟨_, rfl⟩
  rw [← hU]
  have hwi : Within (w.heap.size + 1 + 1) (w.heap.size + 1 + 1 + 1) w3 u4 := by rw [hU]; exact (Within.refl _ _ _ |>.setCell (by omega) (by omega) _ _)
  have us4 : u4.heap.size = w3.heap.size := by rw [hU]; simp only [size_setC]
  have HB4 : Hid (Below w.heap.size w u4) := HB3.out.trans (hwi.below (by omega) (by omega))
  have BX4 : Hid (BoxN u4 w.heap.size 39 [.slice a0 n0 c0, .slice a1 n1 c1, .slice a2 n2 c2]) := BX3.out.kept hwi (.inl (by omega))
  have BR4 : Hid (BoxN u4 (w.heap.size + 1) 47 [.slice none 0 0, .slice none 0 0, .slice none 0 0]) := BR3.out.kept hwi (.inl (by omega))
  have BO4 : Hid (BoxN u4 (w.heap.size + 1 + 1) 47 [.slice ea_c en_c ec_c, .slice ea_h en_h ec_h, .slice none 0 0]) := by unfold Hid; rw [hU]; exact (BO3.out.set 1 _)
  replace O_c := Lib.hid (Kind.kept (K := sInts.toKind) O_c.out hwi (.inr (by omega)))
  replace O_h := Lib.hid (Kind.kept (K := sInts.toKind) O_h.out hwi (.inr (by omega)))
  clear hwi hU
  clear px0 po0 pr0 px1 po1 pr1 px2 po2 pr2 fo fr st0 st1 st2
  refine (laws_toI _ d.r u4 (sInts.rd_below Fr.out HB4.out) L_r.out).mono ?_
  rintro e w5 ⟨v5, rfl, X, hb⟩
  obtain ⟨ea_r, en_r, ec_r, rfl⟩ := sInts.sl (sInts.own_rd X)
  have O_r := Lib.hid X; clear X
  have us5 := hb.size
  have HB5 := Lib.hid (HB4.out.trans (hb.mono HB4.out.size))
  have BX5 := Lib.hid (BX4.out.below hb)
  have BR5 := Lib.hid (BR4.out.below hb)
  have BO5 := Lib.hid (BO4.out.below hb)
  replace O_c := Lib.hid (Kind.next (K := sInts.toKind) O_c.out hb)
  replace O_h := Lib.hid (Kind.next (K := sInts.toKind) O_h.out hb)
  clear hb
  have px0 := BX5.out.cell (i := 0) rfl
  have po0 := BO5.out.cell (i := 0) rfl
  have pr0 := BR5.out.cell (i := 0) rfl
  have px1 := BX5.out.cell (i := 1) rfl
  have po1 := BO5.out.cell (i := 1) rfl
  have pr1 := BR5.out.cell (i := 1) rfl
  have px2 := BX5.out.cell (i := 2) rfl
  have po2 := BO5.out.cell (i := 2) rfl
  have pr2 := BR5.out.cell (i := 2) rfl
  have fo := BO5.out.frozen
  have fr := BR5.out.frozen
  have st0 : w.heap.size < w5.heap.size := by omega
  have st1 : w.heap.size + 1 < w5.heap.size := by omega
  have st2 : w.heap.size + 1 + 1 < w5.heap.size := by omega
  go_wp2_with fail
  obtain ⟨V, hV⟩ : ∃ U, U = (((((w5).setCell ⟨w.heap.size + 1 + 1, 2, none⟩ (.slice ea_r en_r ec_r)).setCell ⟨w.heap.size + 1, 0, none⟩ (.slice ea_c en_c ec_c)).setCell ⟨w.heap.size + 1, 1, none⟩ (.slice ea_h en_h ec_h)).setCell ⟨w.heap.size + 1, 2, none⟩ (.slice ea_r en_r ec_r)) := ⟨_, rfl⟩
  rw [← hV]
  have hwi : Within (w.heap.size + 1) (w.heap.size + 1 + 1 + 1) w5 V := by rw [hV]; exact ((((Within.refl _ _ _ |>.setCell (by omega) (by omega) _ _) |>.setCell (by omega) (by omega) _ _) |>.setCell (by omega) (by omega) _ _) |>.setCell (by omega) (by omega) _ _)
  have hs : V.heap.size = w5.heap.size := by rw [hV]; simp only [size_setC]
  have BV : BoxN V (w.heap.size + 1) 47 [.slice ea_c en_c ec_c, .slice ea_h en_h ec_h, .slice ea_r en_r ec_r] := by rw [hV]; exact ((((BR5.out.other (by omega) _ _).set 0 _).set 1 _).set 2 _)
  replace O_c := Lib.hid (Kind.kept (K := sInts.toKind) O_c.out hwi (.inr (by omega)))
  replace O_h := Lib.hid (Kind.kept (K := sInts.toKind) O_h.out hwi (.inr (by omega)))
  replace O_r := Lib.hid (Kind.kept (K := sInts.toKind) O_r.out hwi (.inr (by omega)))
  clear hV
  clear px0 po0 pr0 px1 po1 pr1 px2 po2 pr2 fo fr st0 st1 st2
  have r0 := BV.cell (i := 0) rfl
  have r1 := BV.cell (i := 1) rfl
  have r2 := BV.cell (i := 2) rfl
  refine bodyPost_ret (v := .agg #[.slice ea_c en_c ec_c, .slice ea_h en_h ec_h, .slice ea_r en_r ec_r]) (by simp [results, Try.results96, go_sem, r0, r1, r2]) rfl ⟨_, rfl, ⟨_, rfl, ⟨_, _, W.heap.size, w1.heap.size, u2.heap.size, V.heap.size, rfl, O_c.out, ⟨_, _, u2.heap.size, w3.heap.size, u4.heap.size, V.heap.size, rfl, O_h.out, ⟨_, _, u4.heap.size, w5.heap.size, V.heap.size, V.heap.size, rfl, O_r.out, rfl, ⟨by omega, by omega⟩, ⟨by omega, by omega⟩, by omega⟩, ⟨by omega, by omega⟩, ⟨by omega, by omega⟩, by omega⟩, ⟨by omega, by omega⟩, ⟨by omega, by omega⟩, by omega⟩⟩, ?_⟩
  exact HB5.out.trans (hwi.below (by omega) (by omega))
/-- the struct with marks in its slices, from k0 on -/
def mkProof (k0 : Nat) (d : ProofD) : ProofD := ⟨mkI (k0) d.c, mkI (k0 + d.c.length) d.h, mkI (k0 + d.c.length + d.h.length) d.r⟩
set_option maxHeartbeats 2000000 in
theorem laws_markProof (lo hi : Nat) (v : Value) (k0 : Nat) (d : ProofD) (w : World) (h : (kS rProof).own w lo hi v d) (hk : k0 + cnProof d ≤ 9223372036854775806) (hhi : hi ≤ w.heap.size) :
    Calls Try.prog 111 #[v, .int .i64 k0] w fun e w' => e = .returned (.int .i64 (k0 + cnProof d : Nat)) ∧ (kS rProof).own w' lo hi v (mkProof k0 d) ∧ Within lo hi w w' := by
  have HK : Hid (k0 + cnProof d = k0 + d.c.length + d.h.length + d.r.length) := by unfold Hid cnProof; omega
  unfold cnProof at hk
  obtain ⟨_, rfl, ⟨_, _, l_c, h_c, m_c, t_c, rfl, o_c, ⟨_, _, l_h, h_h, m_h, t_h, rfl, o_h, ⟨_, _, l_r, h_r, m_r, t_r, rfl, o_r, rfl, q_r, r_r, s_r⟩, q_h, r_h, s_h⟩, q_c, r_c, s_c⟩⟩ := h
  obtain ⟨ea_c, en_c, ec_c, rfl⟩ := sInts.sl (sInts.own_rd o_c)
  obtain ⟨ea_h, en_h, ec_h, rfl⟩ := sInts.sl (sInts.own_rd o_h)
  obtain ⟨ea_r, en_r, ec_r, rfl⟩ := sInts.sl (sInts.own_rd o_r)
  obtain ⟨W, hW⟩ : ∃ W, W = w.alloc (.cells #[.slice ea_c en_c ec_c, .slice ea_h en_h ec_h, .slice ea_r en_r ec_r] 47) := ⟨_, rfl⟩
  have hb : Below w.heap.size w W := by rw [hW]; exact (Below.refl _ _).alloc (Nat.le_refl _) _
  have hs0 : W.heap.size = w.heap.size + 1 := by rw [hW]; simp
  have BX0 : Hid (BoxN W w.heap.size 47 [.slice ea_c en_c ec_c, .slice ea_h en_h ec_h, .slice ea_r en_r ec_r]) := by unfold Hid; rw [hW]; exact BoxN.new w [.slice ea_c en_c ec_c, .slice ea_h en_h ec_h, .slice ea_r en_r ec_r] _
  have O_c := Lib.hid (Kind.next (K := sInts.toKind) o_c hb)
  clear o_c
  have O_h := Lib.hid (Kind.next (K := sInts.toKind) o_h hb)
  clear o_h
  have O_r := Lib.hid (Kind.next (K := sInts.toKind) o_r hb)
  clear o_r
  have G0 : Hid (Within lo hi w W) := Within.of_below hb
  clear hb
  go_enter Try.func111, Try.ntmps111
  go_wp2_with fail
  rw [← hW]
  clear hW
  refine (laws_markI l_c h_c _ (k0) d.c W O_c.out (by omega) (by omega)).mono ?_
  rintro e w1 ⟨rfl, X, g⟩
  replace O_c := Lib.hid X; clear X
  have us1 := g.size
  have BX1 := Lib.hid (BX0.out.kept g (.inr (by omega)))
  replace O_h := Lib.hid (Kind.kept (K := sInts.toKind) O_h.out g (by omega))
  replace O_r := Lib.hid (Kind.kept (K := sInts.toKind) O_r.out g (by omega))
  have G1 := Lib.hid (G0.out.trans (g.mono (by omega) (by omega))); clear g
  have p1 := BX1.out.cell (i := 1) rfl
  go_wp2_with fail
  clear p1
  refine (laws_markI l_h h_h _ (k0 + d.c.length) d.h w1 O_h.out (by omega) (by omega)).mono ?_
  rintro e w2 ⟨rfl, X, g⟩
  replace O_h := Lib.hid X; clear X
  have us2 := g.size
  have BX2 := Lib.hid (BX1.out.kept g (.inr (by omega)))
  replace O_c := Lib.hid (Kind.kept (K := sInts.toKind) O_c.out g (by omega))
  replace O_r := Lib.hid (Kind.kept (K := sInts.toKind) O_r.out g (by omega))
  have G2 := Lib.hid (G1.out.trans (g.mono (by omega) (by omega))); clear g
  have p2 := BX2.out.cell (i := 2) rfl
  go_wp2_with fail
  clear p2
  refine (laws_markI l_r h_r _ (k0 + d.c.length + d.h.length) d.r w2 O_r.out (by omega) (by omega)).mono ?_
  rintro e w3 ⟨rfl, X, g⟩
  replace O_r := Lib.hid X; clear X
  have us3 := g.size
  have BX3 := Lib.hid (BX2.out.kept g (.inr (by omega)))
  replace O_c := Lib.hid (Kind.kept (K := sInts.toKind) O_c.out g (by omega))
  replace O_h := Lib.hid (Kind.kept (K := sInts.toKind) O_h.out g (by omega))
  have G3 := Lib.hid (G2.out.trans (g.mono (by omega) (by omega))); clear g
  go_wp2_with fail
  go_ret
  refine ⟨ret_int (by rw [HK.out]; (try omega)), ⟨_, rfl, ⟨_, _, l_c, h_c, m_c, t_c, rfl, O_c.out, ⟨_, _, l_h, h_h, m_h, t_h, rfl, O_h.out, ⟨_, _, l_r, h_r, m_r, t_r, rfl, O_r.out, rfl, q_r, r_r, s_r⟩, q_h, r_h, s_h⟩, q_c, r_c, s_c⟩⟩, G3.out⟩
set_option maxHeartbeats 2000000 in
theorem laws_heldProof (v : Value) (k0 : Nat) (d : ProofD) (w : World) (h : (kS rProof).rd w v (mkProof k0 d)) (hk : k0 + cnProof d ≤ 9223372036854775806) :
    Calls Try.prog 119 #[v, .int .i64 k0] w fun e w' => e = .returned (.int .i64 (k0 + cnProof d : Nat)) ∧ Below w.heap.size w w' := by
  have HK : Hid (k0 + cnProof d = k0 + d.c.length + d.h.length + d.r.length) := by unfold Hid cnProof; omega
  unfold cnProof at hk
  obtain ⟨D, hD⟩ : ∃ D, mkProof k0 d = D := ⟨_, rfl⟩
  have D_c : Hid (D.c = mkI (k0) d.c) := by unfold Hid; rw [← hD]; rfl
  have D_h : Hid (D.h = mkI (k0 + d.c.length) d.h) := by unfold Hid; rw [← hD]; rfl
  have D_r : Hid (D.r = mkI (k0 + d.c.length + d.h.length) d.r) := by unfold Hid; rw [← hD]; rfl
  rw [hD] at h; clear hD
  obtain ⟨a0, n0, c0, a1, n1, c1, a2, n2, c2, rfl, k0, k1, k2⟩ := rdProof.1 h
  have Fc := Lib.hid k0
  have Fh := Lib.hid k1
  have Fr := Lib.hid k2
  clear k0 k1 k2
  clear h
  obtain ⟨W, hW⟩ : ∃ W, W = w.alloc (.cells #[.slice a0 n0 c0, .slice a1 n1 c1, .slice a2 n2 c2] 47) := ⟨_, rfl⟩
  have HB0 : Hid (Below w.heap.size w W) := by unfold Hid; rw [hW]; exact (Below.refl _ _).alloc (Nat.le_refl _) _
  have BX : Hid (BoxN W w.heap.size 47 [.slice a0 n0 c0, .slice a1 n1 c1, .slice a2 n2 c2]) := by unfold Hid; rw [hW]; exact BoxN.new w [.slice a0 n0 c0, .slice a1 n1 c1, .slice a2 n2 c2] _
  have HA0 : Hid (Below W.heap.size W W) := Below.refl _ _
  go_enter Try.func119, Try.ntmps119
  go_wp2_with fail
  rw [← hW]
  clear hW
  refine (laws_heldI _ (k0) d.c _ (sInts.rd_below (by rw [← D_c.out]; exact Fc.out) HB0.out) (by omega)).mono ?_
  rintro e w1 ⟨rfl, hb⟩
  have HB1 := Lib.hid (HB0.out.trans (hb.mono HB0.out.size))
  have HA1 := Lib.hid (HA0.out.trans (hb.mono HA0.out.size)); clear hb
  have hnn0 : ¬ (((k0 + d.c.length : Nat) : Int) < 0) := by omega
  have p1 := BX.out.below HA1.out |>.cell (i := 1) rfl
  go_wp2_with fail
  clear p1
  refine (laws_heldI _ (k0 + d.c.length) d.h _ (sInts.rd_below (by rw [← D_h.out]; exact Fh.out) HB1.out) (by omega)).mono ?_
  rintro e w2 ⟨rfl, hb⟩
  have HB2 := Lib.hid (HB1.out.trans (hb.mono HB1.out.size))
  have HA2 := Lib.hid (HA1.out.trans (hb.mono HA1.out.size)); clear hb
  have hnn1 : ¬ (((k0 + d.c.length + d.h.length : Nat) : Int) < 0) := by omega
  have p2 := BX.out.below HA2.out |>.cell (i := 2) rfl
  go_wp2_with fail
  clear p2
  refine (laws_heldI _ (k0 + d.c.length + d.h.length) d.r _ (sInts.rd_below (by rw [← D_r.out]; exact Fr.out) HB2.out) (by omega)).mono ?_
  rintro e w3 ⟨rfl, hb⟩
  have HB3 := Lib.hid (HB2.out.trans (hb.mono HB2.out.size))
  have HA3 := Lib.hid (HA2.out.trans (hb.mono HA2.out.size)); clear hb
  have hnn2 : ¬ (((k0 + d.c.length + d.h.length + d.r.length : Nat) : Int) < 0) := by omega
  go_wp2_with fail
  go_ret
  exact ⟨ret_int (by rw [HK.out]; (try omega)), HB3.out⟩
end Go.Proofs.Ytapfceghgkmgoaa
