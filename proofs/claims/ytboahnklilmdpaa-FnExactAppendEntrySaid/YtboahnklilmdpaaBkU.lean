/- Bundle of walks and laws: KProof, KHead, KEntry. -/
import Derived.Test.YtboahnklilmdpaaBaU
/- The struct Proof as a kind (printed by genkind.py): its data, its row, the walks of the laws' helpers. -/

namespace Go.Proofs.Ytboahnklilmdpaa
open Go.RowKit
set_option linter.unusedSimpArgs false
set_option linter.unusedVariables false

structure ProofD where
  c : List Int
  h : List Int
  r : List Int
deriving DecidableEq
abbrev rProof : RowK ProofD := rMap (rS sInts (rS sInts (rS sInts rNil))) (fun d => (d.c, (d.h, (d.r, ()))))
theorem ProofD.ext_iff' {a b : ProofD} : a = b ↔ a.c = b.c ∧ a.h = b.h ∧ a.r = b.r := by
  cases a; cases b; simp
/-- what it counts for in the laws' bound; the marks that it holds -/
def szProof (d : ProofD) : Nat := d.c.length + d.h.length + d.r.length
def cnProof (d : ProofD) : Nat := d.c.length + d.h.length + d.r.length
theorem cnProof_le (d : ProofD) : cnProof d ≤ 4 * szProof d := by
  unfold cnProof szProof;  omega
theorem rdProof {w : World} {v : Value} {d : ProofD} : (kS rProof).rd w v d ↔ ∃ a0 n0 c0 a1 n1 c1 a2 n2 c2, v = .agg #[.slice a0 n0 c0, .slice a1 n1 c1, .slice a2 n2 c2] ∧ sInts.rd w (.slice a0 n0 c0) d.c ∧ sInts.rd w (.slice a1 n1 c1) d.h ∧ sInts.rd w (.slice a2 n2 c2) d.r := by
  constructor
  · rintro ⟨_, rfl, ⟨v1, _, rfl, h2, ⟨v3, _, rfl, h4, ⟨v5, _, rfl, h6, rfl⟩⟩⟩⟩
    obtain ⟨_, _, _, rfl⟩ := sInts.sl h2
    obtain ⟨_, _, _, rfl⟩ := sInts.sl h4
    obtain ⟨_, _, _, rfl⟩ := sInts.sl h6
    exact ⟨_, _, _, _, _, _, _, _, _, rfl, h2, h4, h6⟩
  · rintro ⟨a0, n0, c0, a1, n1, c1, a2, n2, c2, rfl, g0, g1, g2⟩
    exact ⟨_, rfl, ⟨_, _, rfl, g0, ⟨_, _, rfl, g1, ⟨_, _, rfl, g2, rfl⟩⟩⟩⟩
set_option maxHeartbeats 2000000 in
theorem laws_szProof (v : Value) (d : ProofD) (left : Int) (w : World) (h : (kS rProof).rd w v d) (h0 : 0 ≤ left) (h1 : left ≤ 1000000000) :
    Calls Try.prog 119 #[v, .int .i64 left] w fun e w' => (∃ r : Int, e = .returned (.int .i64 r) ∧ I64 r ∧ (0 ≤ r → (szProof d : Int) + r ≤ left)) ∧ Below w.heap.size w w' := by
  obtain ⟨a0, n0, c0, a1, n1, c1, a2, n2, c2, rfl, k0, k1, k2⟩ := rdProof.1 h
  have Fc := Lib.hid k0
  have Fh := Lib.hid k1
  have Fr := Lib.hid k2
  clear k0 k1 k2
  clear h
  obtain ⟨W, hW⟩ : ∃ W, W = w.alloc (.cells #[.slice a0 n0 c0, .slice a1 n1 c1, .slice a2 n2 c2] 29) := ⟨_, rfl⟩
  have HB0 : Hid (Below w.heap.size w W) := by unfold Hid; rw [hW]; exact (Below.refl _ _).alloc (Nat.le_refl _) _
  have BX : Hid (BoxN W w.heap.size 29 [.slice a0 n0 c0, .slice a1 n1 c1, .slice a2 n2 c2]) := by unfold Hid; rw [hW]; exact BoxN.new w [.slice a0 n0 c0, .slice a1 n1 c1, .slice a2 n2 c2] _
  go_enter Try.func119, Try.ntmps119
  go_wp2_with fail
  rw [← hW]
  clear hW
  have HA0 : Hid (Below W.heap.size W W) := Below.refl _ _
  refine (laws_szI _ d.c left _ (sInts.rd_below Fc.out HB0.out) h0 h1).mono ?_
  rintro e w1 ⟨⟨r0, rfl, hr0, hq0⟩, hb⟩
  have HB1 := Lib.hid (HB0.out.trans (hb.mono HB0.out.size))
  have HA1 := Lib.hid (HA0.out.trans (hb.mono HA0.out.size)); clear hb
  by_cases hn0 : r0 < 0
  · go_wp2_with fail
    go_ret
    exact ⟨⟨_, rfl, ⟨by decide, by decide⟩, fun h => by omega⟩, HB1.out⟩
  have hz0 := hq0 (by omega)
  have hp0 : r0 ≤ 1000000000 := by omega
  clear hq0
  have p1 := BX.out.below HA1.out |>.cell (i := 1) rfl
  go_wp2_with fail
  clear p1
  refine (laws_szI _ d.h r0 _ (sInts.rd_below Fh.out HB1.out) (by omega) hp0).mono ?_
  rintro e w2 ⟨⟨r1, rfl, hr1, hq1⟩, hb⟩
  have HB2 := Lib.hid (HB1.out.trans (hb.mono HB1.out.size))
  have HA2 := Lib.hid (HA1.out.trans (hb.mono HA1.out.size)); clear hb
  by_cases hn1 : r1 < 0
  · go_wp2_with fail
    go_ret
    exact ⟨⟨_, rfl, ⟨by decide, by decide⟩, fun h => by omega⟩, HB2.out⟩
  have hz1 := hq1 (by omega)
  have hp1 : r1 ≤ 1000000000 := by omega
  clear hq1
  have p2 := BX.out.below HA2.out |>.cell (i := 2) rfl
  go_wp2_with fail
  clear p2
  refine (laws_szI _ d.r r1 _ (sInts.rd_below Fr.out HB2.out) (by omega) hp1).mono ?_
  rintro e w3 ⟨⟨r2, rfl, hr2, hq2⟩, hb⟩
  have HB3 := Lib.hid (HB2.out.trans (hb.mono HB2.out.size))
  have HA3 := Lib.hid (HA2.out.trans (hb.mono HA2.out.size)); clear hb
  by_cases hn2 : r2 < 0
  · go_wp2_with fail
    go_ret
    exact ⟨⟨_, rfl, ⟨by decide, by decide⟩, fun h => by omega⟩, HB3.out⟩
  have hz2 := hq2 (by omega)
  have hp2 : r2 ≤ 1000000000 := by omega
  clear hq2
  go_wp2_with fail
  go_ret
  exact ⟨⟨_, rfl, hr2, fun h => by unfold szProof; omega⟩, HB3.out⟩
set_option maxHeartbeats 2000000 in
theorem laws_eqProof (v1 v2 : Value) (d1 d2 : ProofD) (w : World) (h1 : (kS rProof).rd w v1 d1) (h2 : (kS rProof).rd w v2 d2) :
    Calls Try.prog 128 #[v1, v2] w fun e w' => e = .returned (.bool (decide (d1 = d2))) ∧ Below w.heap.size w w' := by
  obtain ⟨a0x, n0x, c0x, a1x, n1x, c1x, a2x, n2x, c2x, rfl, k0x, k1x, k2x⟩ := rdProof.1 h1
  have Fcx := Lib.hid k0x
  have Fhx := Lib.hid k1x
  have Frx := Lib.hid k2x
  clear k0x k1x k2x
  obtain ⟨a0y, n0y, c0y, a1y, n1y, c1y, a2y, n2y, c2y, rfl, k0y, k1y, k2y⟩ := rdProof.1 h2
  have Fcy := Lib.hid k0y
  have Fhy := Lib.hid k1y
  have Fry := Lib.hid k2y
  clear k0y k1y k2y
  clear h1 h2
  obtain ⟨W, hW⟩ : ∃ W, W = (w.alloc (.cells #[.slice a0x n0x c0x, .slice a1x n1x c1x, .slice a2x n2x c2x] 42)).alloc (.cells #[.slice a0y n0y c0y, .slice a1y n1y c1y, .slice a2y n2y c2y] 42) := ⟨_, rfl⟩
  have hs1 : (w.alloc (.cells #[.slice a0x n0x c0x, .slice a1x n1x c1x, .slice a2x n2x c2x] 42)).heap.size = w.heap.size + 1 := by simp
  have HB0 : Hid (Below w.heap.size w W) := by unfold Hid; rw [hW]; (repeat (first | exact Below.refl _ _ | assumption | refine Below.drew ?_ | refine Below.alloc ?_ (by first | (simp; done) | (simp; omega)) _ | refine Below.setCell ?_ (by first | (simp; done) | (simp; omega)) _))
  have BX : Hid (BoxN W w.heap.size 42 [.slice a0x n0x c0x, .slice a1x n1x c1x, .slice a2x n2x c2x]) := by unfold Hid; rw [hW]; exact (BoxN.new w [.slice a0x n0x c0x, .slice a1x n1x c1x, .slice a2x n2x c2x] _).alloc _
  have BY : Hid (BoxN W (w.heap.size + 1) 42 [.slice a0y n0y c0y, .slice a1y n1y c1y, .slice a2y n2y c2y]) := by unfold Hid; rw [hW, ← hs1]; exact BoxN.new _ [.slice a0y n0y c0y, .slice a1y n1y c1y, .slice a2y n2y c2y] _
  obtain ⟨q_c, hq_c⟩ : ∃ q, decide (d1.c = d2.c) = q := ⟨_, rfl⟩
  obtain ⟨q_h, hq_h⟩ : ∃ q, decide (d1.h = d2.h) = q := ⟨_, rfl⟩
  obtain ⟨q_r, hq_r⟩ : ∃ q, decide (d1.r = d2.r) = q := ⟨_, rfl⟩
  have HR : Hid (decide (d1 = d2) = (q_c && (q_h && (q_r)))) := by
    unfold Hid; rw [← hq_c, ← hq_h, ← hq_r, Bool.eq_iff_iff]; simp only [Bool.and_eq_true, decide_eq_true_eq]; exact ProofD.ext_iff'
  have Q_c := Lib.hid hq_c; clear hq_c
  have Q_h := Lib.hid hq_h; clear hq_h
  have Q_r := Lib.hid hq_r; clear hq_r
  clear hs1
  have HA0 : Hid (Below W.heap.size W W) := Below.refl _ _
  go_enter Try.func128, Try.ntmps128
  go_wp2_with fail
  rw [← hW]
  clear hW
  refine (laws_eqI _ _ d1.c d2.c _ (sInts.rd_below Fcx.out HB0.out) (sInts.rd_below Fcy.out HB0.out)).mono ?_
  rintro e w1 ⟨rfl, hb⟩
  rw [Q_c.out]
  have HB1 := Lib.hid (HB0.out.trans (hb.mono HB0.out.size))
  have HA1 := Lib.hid (HA0.out.trans (hb.mono HA0.out.size)); clear hb
  cases q_c with
  | false =>
    go_wp2_with fail
    go_ret
    exact ⟨ret_bool (by rw [HR.out]; rfl), HB1.out⟩
  | true =>
  have px1 := BX.out.below HA1.out |>.cell (i := 1) rfl
  have py1 := BY.out.below HA1.out |>.cell (i := 1) rfl
  go_wp2_with fail
  clear px1 py1
  refine (laws_eqI _ _ d1.h d2.h _ (sInts.rd_below Fhx.out HB1.out) (sInts.rd_below Fhy.out HB1.out)).mono ?_
  rintro e w2 ⟨rfl, hb⟩
  rw [Q_h.out]
  have HB2 := Lib.hid (HB1.out.trans (hb.mono HB1.out.size))
  have HA2 := Lib.hid (HA1.out.trans (hb.mono HA1.out.size)); clear hb
  cases q_h with
  | false =>
    go_wp2_with fail
    go_ret
    exact ⟨ret_bool (by rw [HR.out]; rfl), HB2.out⟩
  | true =>
  have px2 := BX.out.below HA2.out |>.cell (i := 2) rfl
  have py2 := BY.out.below HA2.out |>.cell (i := 2) rfl
  go_wp2_with fail
  clear px2 py2
  refine (laws_eqI _ _ d1.r d2.r _ (sInts.rd_below Frx.out HB2.out) (sInts.rd_below Fry.out HB2.out)).mono ?_
  rintro e w3 ⟨rfl, hb⟩
  rw [Q_r.out]
  have HB3 := Lib.hid (HB2.out.trans (hb.mono HB2.out.size))
  have HA3 := Lib.hid (HA2.out.trans (hb.mono HA2.out.size)); clear hb
  cases q_r with
  | false =>
    go_wp2_with fail
    go_ret
    exact ⟨ret_bool (by rw [HR.out]; rfl), HB3.out⟩
  | true =>
  go_wp2_with fail
  go_ret
  exact ⟨ret_bool (by rw [HR.out]; rfl), HB3.out⟩
set_option maxHeartbeats 4000000 in
theorem laws_toProof (v : Value) (d : ProofD) (w : World) (h : (kS rProof).rd w v d) (hl : (szProof d : Int) ≤ 1000000000) :
    Calls Try.prog 124 #[v] w fun e w' => ∃ v', e = .returned v' ∧ (kS rProof).own w' w.heap.size w'.heap.size v' d ∧ Below w.heap.size w w' := by
  unfold szProof at hl
  have L_c : Hid (((d.c.length : Nat) : Int) ≤ 1000000000) := by unfold Hid; omega
  have L_h : Hid (((d.h.length : Nat) : Int) ≤ 1000000000) := by unfold Hid; omega
  have L_r : Hid (((d.r.length : Nat) : Int) ≤ 1000000000) := by unfold Hid; omega
  obtain ⟨a0, n0, c0, a1, n1, c1, a2, n2, c2, rfl, k0, k1, k2⟩ := rdProof.1 h
  have Fc := Lib.hid k0
  have Fh := Lib.hid k1
  have Fr := Lib.hid k2
  clear k0 k1 k2
  clear h hl
  obtain ⟨W, hW⟩ : ∃ W, W = ((w.alloc (.cells #[.slice a0 n0 c0, .slice a1 n1 c1, .slice a2 n2 c2] 29)).alloc (.cells #[.slice none 0 0, .slice none 0 0, .slice none 0 0] 42)).alloc (.cells #[.slice none 0 0, .slice none 0 0, .slice none 0 0] 42) := ⟨_, rfl⟩
  have hs1 : (w.alloc (.cells #[.slice a0 n0 c0, .slice a1 n1 c1, .slice a2 n2 c2] 29)).heap.size = w.heap.size + 1 := by simp
  have hs2 : ((w.alloc (.cells #[.slice a0 n0 c0, .slice a1 n1 c1, .slice a2 n2 c2] 29)).alloc (.cells #[.slice none 0 0, .slice none 0 0, .slice none 0 0] 42)).heap.size = w.heap.size + 1 + 1 := by simp
  have hs0 : W.heap.size = w.heap.size + 1 + 1 + 1 := by rw [hW]; simp
  have HB0 : Hid (Below w.heap.size w W) := by unfold Hid; rw [hW]; (repeat (first | exact Below.refl _ _ | assumption | refine Below.drew ?_ | refine Below.alloc ?_ (by first | (simp; done) | (simp; omega)) _ | refine Below.setCell ?_ (by first | (simp; done) | (simp; omega)) _))
  have BX0 : Hid (BoxN W w.heap.size 29 [.slice a0 n0 c0, .slice a1 n1 c1, .slice a2 n2 c2]) := by unfold Hid; rw [hW]; exact ((BoxN.new w [.slice a0 n0 c0, .slice a1 n1 c1, .slice a2 n2 c2] _).alloc _).alloc _
  have BR0 : Hid (BoxN W (w.heap.size + 1) 42 [.slice none 0 0, .slice none 0 0, .slice none 0 0]) := by unfold Hid; rw [hW, ← hs1]; exact (BoxN.new _ [.slice none 0 0, .slice none 0 0, .slice none 0 0] _).alloc _
  have BO0 : Hid (BoxN W (w.heap.size + 1 + 1) 42 [.slice none 0 0, .slice none 0 0, .slice none 0 0]) := by unfold Hid; rw [hW, ← hs2]; exact BoxN.new _ [.slice none 0 0, .slice none 0 0, .slice none 0 0] _
  have HW := Lib.hid hW; clear hW hs1 hs2
  go_enter Try.func124, Try.ntmps124
  go_wp2_with fail
  rw [← HW.out]
  refine (laws_toI _ d.c W (sInts.rd_below Fc.out HB0.out) L_c.out).mono ?_
  rintro e w1 ⟨v1, rfl, X, hb⟩
  obtain ⟨ea_c, en_c, ec_c, rfl⟩ := sInts.sl (sInts.own_rd X)
  have O_c := Lib.hid X; clear X
  have us1 := hb.size
  have HB1 := Lib.hid (HB0.out.trans (hb.mono HB0.out.size))
  have BX1 := Lib.hid (BX0.out.below hb)
  have BR1 := Lib.hid (BR0.out.below hb)
  have BO1 := Lib.hid (BO0.out.below hb)
  clear hb
  have px0 := BX1.out.cell (i := 0) rfl
  have po0 := BO1.out.cell (i := 0) rfl
  have pr0 := BR1.out.cell (i := 0) rfl
  have px1 := BX1.out.cell (i := 1) rfl
  have po1 := BO1.out.cell (i := 1) rfl
  have pr1 := BR1.out.cell (i := 1) rfl
  have px2 := BX1.out.cell (i := 2) rfl
  have po2 := BO1.out.cell (i := 2) rfl
  have pr2 := BR1.out.cell (i := 2) rfl
  have fo := BO1.out.frozen
  have fr := BR1.out.frozen
  have st0 : w.heap.size < w1.heap.size := by omega
  have st1 : w.heap.size + 1 < w1.heap.size := by omega
  have st2 : w.heap.size + 1 + 1 < w1.heap.size := by omega
  go_wp2_with fail
  obtain ⟨u2, hU⟩ : ∃ U, U = ((w1).setCell ⟨w.heap.size + 1 + 1, 0, none⟩ (.slice ea_c en_c ec_c)) := ⟨_, rfl⟩
  rw [← hU]
  have hwi : Within (w.heap.size + 1 + 1) (w.heap.size + 1 + 1 + 1) w1 u2 := by rw [hU]; exact (Within.refl _ _ _ |>.setCell (by omega) (by omega) _ _)
  have us2 : u2.heap.size = w1.heap.size := by rw [hU]; simp only [size_setC]
  have HB2 : Hid (Below w.heap.size w u2) := HB1.out.trans (hwi.below (by omega) (by omega))
  have BX2 : Hid (BoxN u2 w.heap.size 29 [.slice a0 n0 c0, .slice a1 n1 c1, .slice a2 n2 c2]) := BX1.out.kept hwi (.inl (by omega))
  have BR2 : Hid (BoxN u2 (w.heap.size + 1) 42 [.slice none 0 0, .slice none 0 0, .slice none 0 0]) := BR1.out.kept hwi (.inl (by omega))
  have BO2 : Hid (BoxN u2 (w.heap.size + 1 + 1) 42 [.slice ea_c en_c ec_c, .slice none 0 0, .slice none 0 0]) := by unfold Hid; rw [hU]; exact (BO1.out.set 0 _)
  replace O_c := Lib.hid (Kind.kept (K := sInts.toKind) O_c.out hwi (.inr (by omega)))
  clear hwi hU
  clear px0 po0 pr0 px1 po1 pr1 px2 po2 pr2 fo fr st0 st1 st2
  refine (laws_toI _ d.h u2 (sInts.rd_below Fh.out HB2.out) L_h.out).mono ?_
  rintro e w3 ⟨v3, rfl, X, hb⟩
  obtain ⟨ea_h, en_h, ec_h, rfl⟩ := sInts.sl (sInts.own_rd X)
  have O_h := Lib.hid X; clear X
  have us3 := hb.size
  have HB3 := Lib.hid (HB2.out.trans (hb.mono HB2.out.size))
  have BX3 := Lib.hid (BX2.out.below hb)
  have BR3 := Lib.hid (BR2.out.below hb)
  have BO3 := Lib.hid (BO2.out.below hb)
  replace O_c := Lib.hid (Kind.next (K := sInts.toKind) O_c.out hb)
  clear hb
  have px0 := BX3.out.cell (i := 0) rfl
  have po0 := BO3.out.cell (i := 0) rfl
  have pr0 := BR3.out.cell (i := 0) rfl
  have px1 := BX3.out.cell (i := 1) rfl
  have po1 := BO3.out.cell (i := 1) rfl
  have pr1 := BR3.out.cell (i := 1) rfl
  have px2 := BX3.out.cell (i := 2) rfl
  have po2 := BO3.out.cell (i := 2) rfl
  have pr2 := BR3.out.cell (i := 2) rfl
  have fo := BO3.out.frozen
  have fr := BR3.out.frozen
  have st0 : w.heap.size < w3.heap.size := by omega
  have st1 : w.heap.size + 1 < w3.heap.size := by omega
  have st2 : w.heap.size + 1 + 1 < w3.heap.size := by omega
  go_wp2_with fail
  obtain ⟨u4, hU⟩ : ∃ U, U = ((w3).setCell ⟨w.heap.size + 1 + 1, 1, none⟩ (.slice ea_h en_h ec_h)) := ⟨_, rfl⟩
  rw [← hU]
  have hwi : Within (w.heap.size + 1 + 1) (w.heap.size + 1 + 1 + 1) w3 u4 := by rw [hU]; exact (Within.refl _ _ _ |>.setCell (by omega) (by omega) _ _)
  have us4 : u4.heap.size = w3.heap.size := by rw [hU]; simp only [size_setC]
  have HB4 : Hid (Below w.heap.size w u4) := HB3.out.trans (hwi.below (by omega) (by omega))
  have BX4 : Hid (BoxN u4 w.heap.size 29 [.slice a0 n0 c0, .slice a1 n1 c1, .slice a2 n2 c2]) := BX3.out.kept hwi (.inl (by omega))
  have BR4 : Hid (BoxN u4 (w.heap.size + 1) 42 [.slice none 0 0, .slice none 0 0, .slice none 0 0]) := BR3.out.kept hwi (.inl (by omega))
  have BO4 : Hid (BoxN u4 (w.heap.size + 1 + 1) 42 [.slice ea_c en_c ec_c, .slice ea_h en_h ec_h, .slice none 0 0]) := by unfold Hid; rw [hU]; exact (BO3.out.set 1 _)
  replace O_c := Lib.hid (Kind.kept (K := sInts.toKind) O_c.out hwi (.inr (by omega)))
  replace O_h := Lib.hid (Kind.kept (K := sInts.toKind) O_h.out hwi (.inr (by omega)))
  clear hwi hU
  clear px0 po0 pr0 px1 po1 pr1 px2 po2 pr2 fo fr st0 st1 st2
  refine (laws_toI _ d.r u4 (sInts.rd_below Fr.out HB4.out) L_r.out).mono ?_
  rintro e w5 ⟨v5, rfl, X, hb⟩
  obtain ⟨ea_r, en_r, ec_r, rfl⟩ := sInts.sl (sInts.own_rd X)
  have O_r := Lib.hid X; clear X
  have us5 := hb.size
  have HB5 := Lib.hid (HB4.out.trans (hb.mono HB4.out.size))
  have BX5 := Lib.hid (BX4.out.below hb)
  have BR5 := Lib.hid (BR4.out.below hb)
  have BO5 := Lib.hid (BO4.out.below hb)
  replace O_c := Lib.hid (Kind.next (K := sInts.toKind) O_c.out hb)
  replace O_h := Lib.hid (Kind.next (K := sInts.toKind) O_h.out hb)
  clear hb
  have px0 := BX5.out.cell (i := 0) rfl
  have po0 := BO5.out.cell (i := 0) rfl
  have pr0 := BR5.out.cell (i := 0) rfl
  have px1 := BX5.out.cell (i := 1) rfl
  have po1 := BO5.out.cell (i := 1) rfl
  have pr1 := BR5.out.cell (i := 1) rfl
  have px2 := BX5.out.cell (i := 2) rfl
  have po2 := BO5.out.cell (i := 2) rfl
  have pr2 := BR5.out.cell (i := 2) rfl
  have fo := BO5.out.frozen
  have fr := BR5.out.frozen
  have st0 : w.heap.size < w5.heap.size := by omega
  have st1 : w.heap.size + 1 < w5.heap.size := by omega
  have st2 : w.heap.size + 1 + 1 < w5.heap.size := by omega
  go_wp2_with fail
  obtain ⟨V, hV⟩ : ∃ U, U = (((((w5).setCell ⟨w.heap.size + 1 + 1, 2, none⟩ (.slice ea_r en_r ec_r)).setCell ⟨w.heap.size + 1, 0, none⟩ (.slice ea_c en_c ec_c)).setCell ⟨w.heap.size + 1, 1, none⟩ (.slice ea_h en_h ec_h)).setCell ⟨w.heap.size + 1, 2, none⟩ (.slice ea_r en_r ec_r)) := ⟨_, rfl⟩
  rw [← hV]
  have hwi : Within (w.heap.size + 1) (w.heap.size + 1 + 1 + 1) w5 V := by rw [hV]; exact ((((Within.refl _ _ _ |>.setCell (by omega) (by omega) _ _) |>.setCell (by omega) (by omega) _ _) |>.setCell (by omega) (by omega) _ _) |>.setCell (by omega) (by omega) _ _)
  have hs : V.heap.size = w5.heap.size := by rw [hV]; simp only [size_setC]
  have BV : BoxN V (w.heap.size + 1) 42 [.slice ea_c en_c ec_c, .slice ea_h en_h ec_h, .slice ea_r en_r ec_r] := by rw [hV]; exact ((((BR5.out.other (by omega) _ _).set 0 _).set 1 _).set 2 _)
  replace O_c := Lib.hid (Kind.kept (K := sInts.toKind) O_c.out hwi (.inr (by omega)))
  replace O_h := Lib.hid (Kind.kept (K := sInts.toKind) O_h.out hwi (.inr (by omega)))
  replace O_r := Lib.hid (Kind.kept (K := sInts.toKind) O_r.out hwi (.inr (by omega)))
  clear hV
  clear px0 po0 pr0 px1 po1 pr1 px2 po2 pr2 fo fr st0 st1 st2
  have r0 := BV.cell (i := 0) rfl
  have r1 := BV.cell (i := 1) rfl
  have r2 := BV.cell (i := 2) rfl
  refine bodyPost_ret (v := .agg #[.slice ea_c en_c ec_c, .slice ea_h en_h ec_h, .slice ea_r en_r ec_r]) (by simp [results, Try.results124, go_sem, r0, r1, r2]) rfl ⟨_, rfl, ⟨_, rfl, ⟨_, _, W.heap.size, w1.heap.size, u2.heap.size, V.heap.size, rfl, O_c.out, ⟨_, _, u2.heap.size, w3.heap.size, u4.heap.size, V.heap.size, rfl, O_h.out, ⟨_, _, u4.heap.size, w5.heap.size, V.heap.size, V.heap.size, rfl, O_r.out, rfl, ⟨by omega, by omega⟩, ⟨by omega, by omega⟩, by omega⟩, ⟨by omega, by omega⟩, ⟨by omega, by omega⟩, by omega⟩, ⟨by omega, by omega⟩, ⟨by omega, by omega⟩, by omega⟩⟩, ?_⟩
  exact HB5.out.trans (hwi.below (by omega) (by omega))
/-- the struct with marks in its slices, from k0 on -/
def mkProof (k0 : Nat) (d : ProofD) : ProofD := ⟨mkI (k0) d.c, mkI (k0 + d.c.length) d.h, mkI (k0 + d.c.length + d.h.length) d.r⟩
set_option maxHeartbeats 2000000 in
theorem laws_markProof (lo hi : Nat) (v : Value) (k0 : Nat) (d : ProofD) (w : World) (h : (kS rProof).own w lo hi v d) (hk : k0 + cnProof d ≤ 9223372036854775806) (hhi : hi ≤ w.heap.size) :
    Calls Try.prog 130 #[v, .int .i64 k0] w fun e w' => e = .returned (.int .i64 (k0 + cnProof d : Nat)) ∧ (kS rProof).own w' lo hi v (mkProof k0 d) ∧ Within lo hi w w' := by
  have HK : Hid (k0 + cnProof d = k0 + d.c.length + d.h.length + d.r.length) := by unfold Hid cnProof; omega
  unfold cnProof at hk
  obtain ⟨_, rfl, ⟨_, _, l_c, h_c, m_c, t_c, rfl, o_c, ⟨_, _, l_h, h_h, m_h, t_h, rfl, o_h, ⟨_, _, l_r, h_r, m_r, t_r, rfl, o_r, rfl, q_r, r_r, s_r⟩, q_h, r_h, s_h⟩, q_c, r_c, s_c⟩⟩ := h
  obtain ⟨ea_c, en_c, ec_c, rfl⟩ := sInts.sl (sInts.own_rd o_c)
  obtain ⟨ea_h, en_h, ec_h, rfl⟩ := sInts.sl (sInts.own_rd o_h)
  obtain ⟨ea_r, en_r, ec_r, rfl⟩ := sInts.sl (sInts.own_rd o_r)
  obtain ⟨W, hW⟩ : ∃ W, W = w.alloc (.cells #[.slice ea_c en_c ec_c, .slice ea_h en_h ec_h, .slice ea_r en_r ec_r] 42) := ⟨_, rfl⟩
  have hb : Below w.heap.size w W := by rw [hW]; exact (Below.refl _ _).alloc (Nat.le_refl _) _
  have hs0 : W.heap.size = w.heap.size + 1 := by rw [hW]; simp
  have BX0 : Hid (BoxN W w.heap.size 42 [.slice ea_c en_c ec_c, .slice ea_h en_h ec_h, .slice ea_r en_r ec_r]) := by unfold Hid; rw [hW]; exact BoxN.new w [.slice ea_c en_c ec_c, .slice ea_h en_h ec_h, .slice ea_r en_r ec_r] _
  have O_c := Lib.hid (Kind.next (K := sInts.toKind) o_c hb)
  clear o_c
  have O_h := Lib.hid (Kind.next (K := sInts.toKind) o_h hb)
  clear o_h
  have O_r := Lib.hid (Kind.next (K := sInts.toKind) o_r hb)
  clear o_r
  have G0 : Hid (Within lo hi w W) := Within.of_below hb
  clear hb
  go_enter Try.func130, Try.ntmps130
  go_wp2_with fail
  rw [← hW]
  clear hW
  refine (laws_markI l_c h_c _ (k0) d.c W O_c.out (by omega) (by omega)).mono ?_
  rintro e w1 ⟨rfl, X, g⟩
  replace O_c := Lib.hid X; clear X
  have us1 := g.size
  have BX1 := Lib.hid (BX0.out.kept g (.inr (by omega)))
  replace O_h := Lib.hid (Kind.kept (K := sInts.toKind) O_h.out g (by omega))
  replace O_r := Lib.hid (Kind.kept (K := sInts.toKind) O_r.out g (by omega))
  have G1 := Lib.hid (G0.out.trans (g.mono (by omega) (by omega))); clear g
  have p1 := BX1.out.cell (i := 1) rfl
  go_wp2_with fail
  clear p1
  refine (laws_markI l_h h_h _ (k0 + d.c.length) d.h w1 O_h.out (by omega) (by omega)).mono ?_
  rintro e w2 ⟨rfl, X, g⟩
  replace O_h := Lib.hid X; clear X
  have us2 := g.size
  have BX2 := Lib.hid (BX1.out.kept g (.inr (by omega)))
  replace O_c := Lib.hid (Kind.kept (K := sInts.toKind) O_c.out g (by omega))
  replace O_r := Lib.hid (Kind.kept (K := sInts.toKind) O_r.out g (by omega))
  have G2 := Lib.hid (G1.out.trans (g.mono (by omega) (by omega))); clear g
  have p2 := BX2.out.cell (i := 2) rfl
  go_wp2_with fail
  clear p2
  refine (laws_markI l_r h_r _ (k0 + d.c.length + d.h.length) d.r w2 O_r.out (by omega) (by omega)).mono ?_
  rintro e w3 ⟨rfl, X, g⟩
  replace O_r := Lib.hid X; clear X
  have us3 := g.size
  have BX3 := Lib.hid (BX2.out.kept g (.inr (by omega)))
  replace O_c := Lib.hid (Kind.kept (K := sInts.toKind) O_c.out g (by omega))
  replace O_h := Lib.hid (Kind.kept (K := sInts.toKind) O_h.out g (by omega))
  have G3 := Lib.hid (G2.out.trans (g.mono (by omega) (by omega))); clear g
  go_wp2_with fail
  go_ret
  refine ⟨ret_int (by rw [HK.out]; (try omega)), ⟨_, rfl, ⟨_, _, l_c, h_c, m_c, t_c, rfl, O_c.out, ⟨_, _, l_h, h_h, m_h, t_h, rfl, O_h.out, ⟨_, _, l_r, h_r, m_r, t_r, rfl, O_r.out, rfl, q_r, r_r, s_r⟩, q_h, r_h, s_h⟩, q_c, r_c, s_c⟩⟩, G3.out⟩
end Go.Proofs.Ytboahnklilmdpaa
/- The struct Head as a kind (printed by genkind.py): its data, its row, the walks of the laws' helpers. -/


namespace Go.Proofs.Ytboahnklilmdpaa
open Go.RowKit
set_option linter.unusedSimpArgs false
set_option linter.unusedVariables false

structure HeadD where
  author : Int
  size : Int
  root : Int
  sign : ProofD
deriving DecidableEq
theorem HeadD.ext_iff' {a b : HeadD} : a = b ↔ a.author = b.author ∧ a.size = b.size ∧ a.root = b.root ∧ a.sign = b.sign := by
  cases a; cases b; simp
end Go.Proofs.Ytboahnklilmdpaa
/- The struct Entry as a kind (printed by genkind.py): its data, its row, the walks of the laws' helpers. -/


namespace Go.Proofs.Ytboahnklilmdpaa
open Go.RowKit
set_option linter.unusedSimpArgs false
set_option linter.unusedVariables false

structure EntryD where
  kind : Int
  author : Int
  data : List Int
  sign : ProofD
deriving DecidableEq
abbrev rEntry : RowK EntryD := rMap (rI (rI (rS sInts rProof))) (fun d => (d.kind, (d.author, (d.data, d.sign))))
theorem EntryD.ext_iff' {a b : EntryD} : a = b ↔ a.kind = b.kind ∧ a.author = b.author ∧ a.data = b.data ∧ a.sign = b.sign := by
  cases a; cases b; simp
/-- what it counts for in the laws' bound; the marks that it holds -/
def szEntry (d : EntryD) : Nat := d.data.length + szProof d.sign
def cnEntry (d : EntryD) : Nat := d.data.length + cnProof d.sign
theorem cnEntry_le (d : EntryD) : cnEntry d ≤ 4 * szEntry d := by
  unfold cnEntry szEntry; have := cnProof_le d.sign; omega
theorem rdEntry {w : World} {v : Value} {d : EntryD} : (kS rEntry).rd w v d ↔ ∃ a2 n2 c2 a3 n3 c3 a4 n4 c4 a5 n5 c5, v = .agg #[.int .i64 d.kind, .int .i64 d.author, .slice a2 n2 c2, .slice a3 n3 c3, .slice a4 n4 c4, .slice a5 n5 c5] ∧ I64 d.kind ∧ I64 d.author ∧ sInts.rd w (.slice a2 n2 c2) d.data ∧ sInts.rd w (.slice a3 n3 c3) d.sign.c ∧ sInts.rd w (.slice a4 n4 c4) d.sign.h ∧ sInts.rd w (.slice a5 n5 c5) d.sign.r := by
  constructor
  · rintro ⟨_, rfl, ⟨_, rfl, i1, ⟨_, rfl, i2, ⟨v3, _, rfl, h4, ⟨v5, _, rfl, h6, ⟨v7, _, rfl, h8, ⟨v9, _, rfl, h10, rfl⟩⟩⟩⟩⟩⟩⟩
    obtain ⟨_, _, _, rfl⟩ := sInts.sl h4
    obtain ⟨_, _, _, rfl⟩ := sInts.sl h6
    obtain ⟨_, _, _, rfl⟩ := sInts.sl h8
    obtain ⟨_, _, _, rfl⟩ := sInts.sl h10
    exact ⟨_, _, _, _, _, _, _, _, _, _, _, _, rfl, i1, i2, h4, h6, h8, h10⟩
  · rintro ⟨a2, n2, c2, a3, n3, c3, a4, n4, c4, a5, n5, c5, rfl, g0, g1, g2, g3, g4, g5⟩
    exact ⟨_, rfl, ⟨_, rfl, g0, ⟨_, rfl, g1, ⟨_, _, rfl, g2, ⟨_, _, rfl, g3, ⟨_, _, rfl, g4, ⟨_, _, rfl, g5, rfl⟩⟩⟩⟩⟩⟩⟩
set_option maxHeartbeats 2000000 in
theorem laws_szEntry (v : Value) (d : EntryD) (left : Int) (w : World) (h : (kS rEntry).rd w v d) (h0 : 0 ≤ left) (h1 : left ≤ 1000000000) :
    Calls Try.prog 16 #[v, .int .i64 left] w fun e w' => (∃ r : Int, e = .returned (.int .i64 r) ∧ I64 r ∧ (0 ≤ r → (szEntry d : Int) + r ≤ left)) ∧ Below w.heap.size w w' := by
  obtain ⟨a2, n2, c2, a3, n3, c3, a4, n4, c4, a5, n5, c5, rfl, j0, j1, k2, k3, k4, k5⟩ := rdEntry.1 h
  have Fdata := Lib.hid k2
  have Fsign : Hid ((kS rProof).rd w (.agg #[.slice a3 n3 c3, .slice a4 n4 c4, .slice a5 n5 c5]) d.sign) := rdProof.2 ⟨_, _, _, _, _, _, _, _, _, rfl, k3, k4, k5⟩
  clear k2 k3 k4 k5
  clear j0 j1
  clear h
  obtain ⟨W, hW⟩ : ∃ W, W = w.alloc (.cells #[.int .i64 d.kind, .int .i64 d.author, .slice a2 n2 c2, .slice a3 n3 c3, .slice a4 n4 c4, .slice a5 n5 c5] 31) := ⟨_, rfl⟩
  have HB0 : Hid (Below w.heap.size w W) := by unfold Hid; rw [hW]; exact (Below.refl _ _).alloc (Nat.le_refl _) _
  have BX : Hid (BoxN W w.heap.size 31 [.int .i64 d.kind, .int .i64 d.author, .slice a2 n2 c2, .slice a3 n3 c3, .slice a4 n4 c4, .slice a5 n5 c5]) := by unfold Hid; rw [hW]; exact BoxN.new w [.int .i64 d.kind, .int .i64 d.author, .slice a2 n2 c2, .slice a3 n3 c3, .slice a4 n4 c4, .slice a5 n5 c5] _
  go_enter Try.func16, Try.ntmps16
  go_wp2_with fail
  rw [← hW]
  clear hW
  have HA0 : Hid (Below W.heap.size W W) := Below.refl _ _
  refine (laws_szI _ d.data left _ (sInts.rd_below Fdata.out HB0.out) h0 h1).mono ?_
  rintro e w1 ⟨⟨r0, rfl, hr0, hq0⟩, hb⟩
  have HB1 := Lib.hid (HB0.out.trans (hb.mono HB0.out.size))
  have HA1 := Lib.hid (HA0.out.trans (hb.mono HA0.out.size)); clear hb
  by_cases hn0 : r0 < 0
  · go_wp2_with fail
    go_ret
    exact ⟨⟨_, rfl, ⟨by decide, by decide⟩, fun h => by omega⟩, HB1.out⟩
  have hz0 := hq0 (by omega)
  have hp0 : r0 ≤ 1000000000 := by omega
  clear hq0
  have p3 := BX.out.below HA1.out |>.cell (i := 3) rfl
  have p4 := BX.out.below HA1.out |>.cell (i := 4) rfl
  have p5 := BX.out.below HA1.out |>.cell (i := 5) rfl
  go_wp2_with fail
  clear p3 p4 p5
  refine (laws_szProof _ d.sign r0 _ ((kS rProof).rd_below Fsign.out HB1.out) (by omega) hp0).mono ?_
  rintro e w2 ⟨⟨r1, rfl, hr1, hq1⟩, hb⟩
  have HB2 := Lib.hid (HB1.out.trans (hb.mono HB1.out.size))
  have HA2 := Lib.hid (HA1.out.trans (hb.mono HA1.out.size)); clear hb
  by_cases hn1 : r1 < 0
  · go_wp2_with fail
    go_ret
    exact ⟨⟨_, rfl, ⟨by decide, by decide⟩, fun h => by omega⟩, HB2.out⟩
  have hz1 := hq1 (by omega)
  have hp1 : r1 ≤ 1000000000 := by omega
  clear hq1
  go_wp2_with fail
  go_ret
  exact ⟨⟨_, rfl, hr1, fun h => by unfold szEntry; omega⟩, HB2.out⟩
set_option maxHeartbeats 2000000 in
theorem laws_eqEntry (v1 v2 : Value) (d1 d2 : EntryD) (w : World) (h1 : (kS rEntry).rd w v1 d1) (h2 : (kS rEntry).rd w v2 d2) :
    Calls Try.prog 23 #[v1, v2] w fun e w' => e = .returned (.bool (decide (d1 = d2))) ∧ Below w.heap.size w w' := by
  obtain ⟨a2x, n2x, c2x, a3x, n3x, c3x, a4x, n4x, c4x, a5x, n5x, c5x, rfl, j0x, j1x, k2x, k3x, k4x, k5x⟩ := rdEntry.1 h1
  have Fdatax := Lib.hid k2x
  have Fsignx : Hid ((kS rProof).rd w (.agg #[.slice a3x n3x c3x, .slice a4x n4x c4x, .slice a5x n5x c5x]) d1.sign) := rdProof.2 ⟨_, _, _, _, _, _, _, _, _, rfl, k3x, k4x, k5x⟩
  clear k2x k3x k4x k5x
  clear j0x j1x
  obtain ⟨a2y, n2y, c2y, a3y, n3y, c3y, a4y, n4y, c4y, a5y, n5y, c5y, rfl, j0y, j1y, k2y, k3y, k4y, k5y⟩ := rdEntry.1 h2
  have Fdatay := Lib.hid k2y
  have Fsigny : Hid ((kS rProof).rd w (.agg #[.slice a3y n3y c3y, .slice a4y n4y c4y, .slice a5y n5y c5y]) d2.sign) := rdProof.2 ⟨_, _, _, _, _, _, _, _, _, rfl, k3y, k4y, k5y⟩
  clear k2y k3y k4y k5y
  clear j0y j1y
  clear h1 h2
  obtain ⟨W, hW⟩ : ∃ W, W = (w.alloc (.cells #[.int .i64 d1.kind, .int .i64 d1.author, .slice a2x n2x c2x, .slice a3x n3x c3x, .slice a4x n4x c4x, .slice a5x n5x c5x] 44)).alloc (.cells #[.int .i64 d2.kind, .int .i64 d2.author, .slice a2y n2y c2y, .slice a3y n3y c3y, .slice a4y n4y c4y, .slice a5y n5y c5y] 44) := ⟨_, rfl⟩
  have hs1 : (w.alloc (.cells #[.int .i64 d1.kind, .int .i64 d1.author, .slice a2x n2x c2x, .slice a3x n3x c3x, .slice a4x n4x c4x, .slice a5x n5x c5x] 44)).heap.size = w.heap.size + 1 := by simp
  have HB0 : Hid (Below w.heap.size w W) := by unfold Hid; rw [hW]; (repeat (first | exact Below.refl _ _ | assumption | refine Below.drew ?_ | refine Below.alloc ?_ (by first | (simp; done) | (simp; omega)) _ | refine Below.setCell ?_ (by first | (simp; done) | (simp; omega)) _))
  have BX : Hid (BoxN W w.heap.size 44 [.int .i64 d1.kind, .int .i64 d1.author, .slice a2x n2x c2x, .slice a3x n3x c3x, .slice a4x n4x c4x, .slice a5x n5x c5x]) := by unfold Hid; rw [hW]; exact (BoxN.new w [.int .i64 d1.kind, .int .i64 d1.author, .slice a2x n2x c2x, .slice a3x n3x c3x, .slice a4x n4x c4x, .slice a5x n5x c5x] _).alloc _
  have BY : Hid (BoxN W (w.heap.size + 1) 44 [.int .i64 d2.kind, .int .i64 d2.author, .slice a2y n2y c2y, .slice a3y n3y c3y, .slice a4y n4y c4y, .slice a5y n5y c5y]) := by unfold Hid; rw [hW, ← hs1]; exact BoxN.new _ [.int .i64 d2.kind, .int .i64 d2.author, .slice a2y n2y c2y, .slice a3y n3y c3y, .slice a4y n4y c4y, .slice a5y n5y c5y] _
  obtain ⟨q_kind, hq_kind⟩ : ∃ q, decide (d1.kind = d2.kind) = q := ⟨_, rfl⟩
  obtain ⟨q_author, hq_author⟩ : ∃ q, decide (d1.author = d2.author) = q := ⟨_, rfl⟩
  obtain ⟨q_data, hq_data⟩ : ∃ q, decide (d1.data = d2.data) = q := ⟨_, rfl⟩
  obtain ⟨q_sign, hq_sign⟩ : ∃ q, decide (d1.sign = d2.sign) = q := ⟨_, rfl⟩
  have HR : Hid (decide (d1 = d2) = (q_kind && (q_author && (q_data && (q_sign))))) := by
    unfold Hid; rw [← hq_kind, ← hq_author, ← hq_data, ← hq_sign, Bool.eq_iff_iff]; simp only [Bool.and_eq_true, decide_eq_true_eq]; exact EntryD.ext_iff'
  have Q_kind := Lib.hid hq_kind; clear hq_kind
  have Q_author := Lib.hid hq_author; clear hq_author
  have Q_data := Lib.hid hq_data; clear hq_data
  have Q_sign := Lib.hid hq_sign; clear hq_sign
  clear hs1
  have HA0 : Hid (Below W.heap.size W W) := Below.refl _ _
  cases q_kind with
  | false =>
    have hb_kind : (d1.kind != d2.kind) = true := by rw [bne_iff_ne]; exact of_decide_eq_false Q_kind.out
    go_enter Try.func23, Try.ntmps23
    go_wp2_with fail
    (try (go_quiet (fail); go_wp2_with fail))
    go_ret
    exact ⟨ret_bool (by rw [HR.out]; (try rfl)), by (repeat (first | exact Below.refl _ _ | assumption | refine Below.drew ?_ | refine Below.alloc ?_ (by first | (simp; done) | (simp; omega)) _ | refine Below.setCell ?_ (by first | (simp; done) | (simp; omega)) _))⟩
  | true =>
  have hb_kind : (d1.kind != d2.kind) = false := by rw [bne_eq_false_iff_eq]; exact of_decide_eq_true Q_kind.out
  cases q_author with
  | false =>
    have hb_author : (d1.author != d2.author) = true := by rw [bne_iff_ne]; exact of_decide_eq_false Q_author.out
    go_enter Try.func23, Try.ntmps23
    go_wp2_with fail
    (try (go_quiet (fail); go_wp2_with fail))
    go_ret
    exact ⟨ret_bool (by rw [HR.out]; (try rfl)), by (repeat (first | exact Below.refl _ _ | assumption | refine Below.drew ?_ | refine Below.alloc ?_ (by first | (simp; done) | (simp; omega)) _ | refine Below.setCell ?_ (by first | (simp; done) | (simp; omega)) _))⟩
  | true =>
  have hb_author : (d1.author != d2.author) = false := by rw [bne_eq_false_iff_eq]; exact of_decide_eq_true Q_author.out
  go_enter Try.func23, Try.ntmps23
  go_wp2_with fail
  rw [← hW]
  clear hW
  refine (laws_eqI _ _ d1.data d2.data _ (sInts.rd_below Fdatax.out HB0.out) (sInts.rd_below Fdatay.out HB0.out)).mono ?_
  rintro e w1 ⟨rfl, hb⟩
  rw [Q_data.out]
  have HB1 := Lib.hid (HB0.out.trans (hb.mono HB0.out.size))
  have HA1 := Lib.hid (HA0.out.trans (hb.mono HA0.out.size)); clear hb
  cases q_data with
  | false =>
    go_wp2_with fail
    go_ret
    exact ⟨ret_bool (by rw [HR.out]; (try rfl)), HB1.out⟩
  | true =>
  have px3 := BX.out.below HA1.out |>.cell (i := 3) rfl
  have px4 := BX.out.below HA1.out |>.cell (i := 4) rfl
  have px5 := BX.out.below HA1.out |>.cell (i := 5) rfl
  have py3 := BY.out.below HA1.out |>.cell (i := 3) rfl
  have py4 := BY.out.below HA1.out |>.cell (i := 4) rfl
  have py5 := BY.out.below HA1.out |>.cell (i := 5) rfl
  go_wp2_with fail
  clear px3 px4 px5 py3 py4 py5
  refine (laws_eqProof _ _ d1.sign d2.sign _ ((kS rProof).rd_below Fsignx.out HB1.out) ((kS rProof).rd_below Fsigny.out HB1.out)).mono ?_
  rintro e w2 ⟨rfl, hb⟩
  rw [Q_sign.out]
  have HB2 := Lib.hid (HB1.out.trans (hb.mono HB1.out.size))
  have HA2 := Lib.hid (HA1.out.trans (hb.mono HA1.out.size)); clear hb
  cases q_sign with
  | false =>
    go_wp2_with fail
    go_ret
    exact ⟨ret_bool (by rw [HR.out]; (try rfl)), HB2.out⟩
  | true =>
  go_wp2_with fail
  go_ret
  exact ⟨ret_bool (by rw [HR.out]; (try rfl)), HB2.out⟩
set_option maxHeartbeats 4000000 in
theorem laws_toEntry (v : Value) (d : EntryD) (w : World) (h : (kS rEntry).rd w v d) (hl : (szEntry d : Int) ≤ 1000000000) :
    Calls Try.prog 20 #[v] w fun e w' => ∃ v', e = .returned v' ∧ (kS rEntry).own w' w.heap.size w'.heap.size v' d ∧ Below w.heap.size w w' := by
  unfold szEntry at hl
  have L_data : Hid (((d.data.length : Nat) : Int) ≤ 1000000000) := by unfold Hid; omega
  have L_sign : Hid (((szProof d.sign : Nat) : Int) ≤ 1000000000) := by unfold Hid; omega
  obtain ⟨a2, n2, c2, a3, n3, c3, a4, n4, c4, a5, n5, c5, rfl, j0, j1, k2, k3, k4, k5⟩ := rdEntry.1 h
  have Fdata := Lib.hid k2
  have Fsign : Hid ((kS rProof).rd w (.agg #[.slice a3 n3 c3, .slice a4 n4 c4, .slice a5 n5 c5]) d.sign) := rdProof.2 ⟨_, _, _, _, _, _, _, _, _, rfl, k3, k4, k5⟩
  clear k2 k3 k4 k5
  have J0 := Lib.hid j0
  have J1 := Lib.hid j1
  clear j0 j1
  clear h hl
  obtain ⟨W, hW⟩ : ∃ W, W = ((w.alloc (.cells #[.int .i64 d.kind, .int .i64 d.author, .slice a2 n2 c2, .slice a3 n3 c3, .slice a4 n4 c4, .slice a5 n5 c5] 31)).alloc (.cells #[.int .i64 0, .int .i64 0, .slice none 0 0, .slice none 0 0, .slice none 0 0, .slice none 0 0] 44)).alloc (.cells #[.int .i64 0, .int .i64 0, .slice none 0 0, .slice none 0 0, .slice none 0 0, .slice none 0 0] 44) := ⟨_, rfl⟩
  have hs1 : (w.alloc (.cells #[.int .i64 d.kind, .int .i64 d.author, .slice a2 n2 c2, .slice a3 n3 c3, .slice a4 n4 c4, .slice a5 n5 c5] 31)).heap.size = w.heap.size + 1 := by simp
  have hs2 : ((w.alloc (.cells #[.int .i64 d.kind, .int .i64 d.author, .slice a2 n2 c2, .slice a3 n3 c3, .slice a4 n4 c4, .slice a5 n5 c5] 31)).alloc (.cells #[.int .i64 0, .int .i64 0, .slice none 0 0, .slice none 0 0, .slice none 0 0, .slice none 0 0] 44)).heap.size = w.heap.size + 1 + 1 := by simp
  have hs0 : W.heap.size = w.heap.size + 1 + 1 + 1 := by rw [hW]; simp
  have HB0 : Hid (Below w.heap.size w W) := by unfold Hid; rw [hW]; (repeat (first | exact Below.refl _ _ | assumption | refine Below.drew ?_ | refine Below.alloc ?_ (by first | (simp; done) | (simp; omega)) _ | refine Below.setCell ?_ (by first | (simp; done) | (simp; omega)) _))
  have BX0 : Hid (BoxN W w.heap.size 31 [.int .i64 d.kind, .int .i64 d.author, .slice a2 n2 c2, .slice a3 n3 c3, .slice a4 n4 c4, .slice a5 n5 c5]) := by unfold Hid; rw [hW]; exact ((BoxN.new w [.int .i64 d.kind, .int .i64 d.author, .slice a2 n2 c2, .slice a3 n3 c3, .slice a4 n4 c4, .slice a5 n5 c5] _).alloc _).alloc _
  have BR0 : Hid (BoxN W (w.heap.size + 1) 44 [.int .i64 0, .int .i64 0, .slice none 0 0, .slice none 0 0, .slice none 0 0, .slice none 0 0]) := by unfold Hid; rw [hW, ← hs1]; exact (BoxN.new _ [.int .i64 0, .int .i64 0, .slice none 0 0, .slice none 0 0, .slice none 0 0, .slice none 0 0] _).alloc _
  have BO0 : Hid (BoxN W (w.heap.size + 1 + 1) 44 [.int .i64 0, .int .i64 0, .slice none 0 0, .slice none 0 0, .slice none 0 0, .slice none 0 0]) := by unfold Hid; rw [hW, ← hs2]; exact BoxN.new _ [.int .i64 0, .int .i64 0, .slice none 0 0, .slice none 0 0, .slice none 0 0, .slice none 0 0] _
  have HW := Lib.hid hW; clear hW hs1 hs2
  go_enter Try.func20, Try.ntmps20
  go_wp2_with fail
  skip
  obtain ⟨u1, hU⟩ : ∃ U, U = (((W).setCell ⟨w.heap.size + 1 + 1, 0, none⟩ (.int .i64 d.kind)).setCell ⟨w.heap.size + 1 + 1, 1, none⟩ (.int .i64 d.author)) := ⟨_, rfl⟩
  have hU2 : u1 = ((w.alloc (.cells #[.int .i64 d.kind, .int .i64 d.author, .slice a2 n2 c2, .slice a3 n3 c3, .slice a4 n4 c4, .slice a5 n5 c5] 31)).alloc (.cells #[.int .i64 0, .int .i64 0, .slice none 0 0, .slice none 0 0, .slice none 0 0, .slice none 0 0] 44)).alloc (.cells #[.int .i64 d.kind, .int .i64 d.author, .slice none 0 0, .slice none 0 0, .slice none 0 0, .slice none 0 0] 44) := by rw [hU, HW.out]; simp [go_sem]
  rw [← hU2]
  clear hU2
  have hwi : Within (w.heap.size + 1 + 1) (w.heap.size + 1 + 1 + 1) W u1 := by rw [hU]; exact ((Within.refl _ _ _ |>.setCell (by omega) (by omega) _ _) |>.setCell (by omega) (by omega) _ _)
  have us1 : u1.heap.size = W.heap.size := by rw [hU]; simp only [size_setC]
  have HB1 : Hid (Below w.heap.size w u1) := HB0.out.trans (hwi.below (by omega) (by omega))
  have BX1 : Hid (BoxN u1 w.heap.size 31 [.int .i64 d.kind, .int .i64 d.author, .slice a2 n2 c2, .slice a3 n3 c3, .slice a4 n4 c4, .slice a5 n5 c5]) := BX0.out.kept hwi (.inl (by omega))
  have BR1 : Hid (BoxN u1 (w.heap.size + 1) 44 [.int .i64 0, .int .i64 0, .slice none 0 0, .slice none 0 0, .slice none 0 0, .slice none 0 0]) := BR0.out.kept hwi (.inl (by omega))
  have BO1 : Hid (BoxN u1 (w.heap.size + 1 + 1) 44 [.int .i64 d.kind, .int .i64 d.author, .slice none 0 0, .slice none 0 0, .slice none 0 0, .slice none 0 0]) := by unfold Hid; rw [hU]; exact ((BO0.out.set 0 _).set 1 _)
  clear hwi hU
  refine (laws_toI _ d.data u1 (sInts.rd_below Fdata.out HB1.out) L_data.out).mono ?_
  rintro e w2 ⟨v2, rfl, X, hb⟩
  obtain ⟨ea_data, en_data, ec_data, rfl⟩ := sInts.sl (sInts.own_rd X)
  have O_data := Lib.hid X; clear X
  have us2 := hb.size
  have HB2 := Lib.hid (HB1.out.trans (hb.mono HB1.out.size))
  have BX2 := Lib.hid (BX1.out.below hb)
  have BR2 := Lib.hid (BR1.out.below hb)
  have BO2 := Lib.hid (BO1.out.below hb)
  clear hb
  have px0 := BX2.out.cell (i := 0) rfl
  have po0 := BO2.out.cell (i := 0) rfl
  have pr0 := BR2.out.cell (i := 0) rfl
  have px1 := BX2.out.cell (i := 1) rfl
  have po1 := BO2.out.cell (i := 1) rfl
  have pr1 := BR2.out.cell (i := 1) rfl
  have px2 := BX2.out.cell (i := 2) rfl
  have po2 := BO2.out.cell (i := 2) rfl
  have pr2 := BR2.out.cell (i := 2) rfl
  have px3 := BX2.out.cell (i := 3) rfl
  have po3 := BO2.out.cell (i := 3) rfl
  have pr3 := BR2.out.cell (i := 3) rfl
  have px4 := BX2.out.cell (i := 4) rfl
  have po4 := BO2.out.cell (i := 4) rfl
  have pr4 := BR2.out.cell (i := 4) rfl
  have px5 := BX2.out.cell (i := 5) rfl
  have po5 := BO2.out.cell (i := 5) rfl
  have pr5 := BR2.out.cell (i := 5) rfl
  have fo := BO2.out.frozen
  have fr := BR2.out.frozen
  have st0 : w.heap.size < w2.heap.size := by omega
  have st1 : w.heap.size + 1 < w2.heap.size := by omega
  have st2 : w.heap.size + 1 + 1 < w2.heap.size := by omega
  go_wp2_with fail
  obtain ⟨u3, hU⟩ : ∃ U, U = ((w2).setCell ⟨w.heap.size + 1 + 1, 2, none⟩ (.slice ea_data en_data ec_data)) := ⟨_, rfl⟩
  rw [← hU]
  have hwi : Within (w.heap.size + 1 + 1) (w.heap.size + 1 + 1 + 1) w2 u3 := by rw [hU]; exact (Within.refl _ _ _ |>.setCell (by omega) (by omega) _ _)
  have us3 : u3.heap.size = w2.heap.size := by rw [hU]; simp only [size_setC]
  have HB3 : Hid (Below w.heap.size w u3) := HB2.out.trans (hwi.below (by omega) (by omega))
  have BX3 : Hid (BoxN u3 w.heap.size 31 [.int .i64 d.kind, .int .i64 d.author, .slice a2 n2 c2, .slice a3 n3 c3, .slice a4 n4 c4, .slice a5 n5 c5]) := BX2.out.kept hwi (.inl (by omega))
  have BR3 : Hid (BoxN u3 (w.heap.size + 1) 44 [.int .i64 0, .int .i64 0, .slice none 0 0, .slice none 0 0, .slice none 0 0, .slice none 0 0]) := BR2.out.kept hwi (.inl (by omega))
  have BO3 : Hid (BoxN u3 (w.heap.size + 1 + 1) 44 [.int .i64 d.kind, .int .i64 d.author, .slice ea_data en_data ec_data, .slice none 0 0, .slice none 0 0, .slice none 0 0]) := by unfold Hid; rw [hU]; exact (BO2.out.set 2 _)
  replace O_data := Lib.hid (Kind.kept (K := sInts.toKind) O_data.out hwi (.inr (by omega)))
  clear hwi hU
  clear px0 po0 pr0 px1 po1 pr1 px2 po2 pr2 px3 po3 pr3 px4 po4 pr4 px5 po5 pr5 fo fr st0 st1 st2
  refine (laws_toProof _ d.sign u3 ((kS rProof).rd_below Fsign.out HB3.out) L_sign.out).mono ?_
  rintro e w4 ⟨v4, rfl, X, hb⟩
  obtain ⟨_, rfl, X⟩ := X
  obtain ⟨v11, _, rfl, h12, ⟨v13, _, rfl, h14, ⟨v15, _, rfl, h16, rfl⟩⟩⟩ := rProof.own_rd X
  obtain ⟨ea_sign0, en_sign0, ec_sign0, rfl⟩ := sInts.sl h12
  clear h12
  obtain ⟨ea_sign1, en_sign1, ec_sign1, rfl⟩ := sInts.sl h14
  clear h14
  obtain ⟨ea_sign2, en_sign2, ec_sign2, rfl⟩ := sInts.sl h16
  clear h16
  have O_sign := Lib.hid X; clear X
  have us4 := hb.size
  have HB4 := Lib.hid (HB3.out.trans (hb.mono HB3.out.size))
  have BX4 := Lib.hid (BX3.out.below hb)
  have BR4 := Lib.hid (BR3.out.below hb)
  have BO4 := Lib.hid (BO3.out.below hb)
  replace O_data := Lib.hid (Kind.next (K := sInts.toKind) O_data.out hb)
  clear hb
  have px0 := BX4.out.cell (i := 0) rfl
  have po0 := BO4.out.cell (i := 0) rfl
  have pr0 := BR4.out.cell (i := 0) rfl
  have px1 := BX4.out.cell (i := 1) rfl
  have po1 := BO4.out.cell (i := 1) rfl
  have pr1 := BR4.out.cell (i := 1) rfl
  have px2 := BX4.out.cell (i := 2) rfl
  have po2 := BO4.out.cell (i := 2) rfl
  have pr2 := BR4.out.cell (i := 2) rfl
  have px3 := BX4.out.cell (i := 3) rfl
  have po3 := BO4.out.cell (i := 3) rfl
  have pr3 := BR4.out.cell (i := 3) rfl
  have px4 := BX4.out.cell (i := 4) rfl
  have po4 := BO4.out.cell (i := 4) rfl
  have pr4 := BR4.out.cell (i := 4) rfl
  have px5 := BX4.out.cell (i := 5) rfl
  have po5 := BO4.out.cell (i := 5) rfl
  have pr5 := BR4.out.cell (i := 5) rfl
  have fo := BO4.out.frozen
  have fr := BR4.out.frozen
  have st0 : w.heap.size < w4.heap.size := by omega
  have st1 : w.heap.size + 1 < w4.heap.size := by omega
  have st2 : w.heap.size + 1 + 1 < w4.heap.size := by omega
  go_wp2_with fail
  obtain ⟨V, hV⟩ : ∃ U, U = ((((((((((w4).setCell ⟨w.heap.size + 1 + 1, 3, none⟩ (.slice ea_sign0 en_sign0 ec_sign0)).setCell ⟨w.heap.size + 1 + 1, 4, none⟩ (.slice ea_sign1 en_sign1 ec_sign1)).setCell ⟨w.heap.size + 1 + 1, 5, none⟩ (.slice ea_sign2 en_sign2 ec_sign2)).setCell ⟨w.heap.size + 1, 0, none⟩ (.int .i64 d.kind)).setCell ⟨w.heap.size + 1, 1, none⟩ (.int .i64 d.author)).setCell ⟨w.heap.size + 1, 2, none⟩ (.slice ea_data en_data ec_data)).setCell ⟨w.heap.size + 1, 3, none⟩ (.slice ea_sign0 en_sign0 ec_sign0)).setCell ⟨w.heap.size + 1, 4, none⟩ (.slice ea_sign1 en_sign1 ec_sign1)).setCell ⟨w.heap.size + 1, 5, none⟩ (.slice ea_sign2 en_sign2 ec_sign2)) := ⟨_, rfl⟩
  rw [← hV]
  have hwi : Within (w.heap.size + 1) (w.heap.size + 1 + 1 + 1) w4 V := by rw [hV]; exact (((((((((Within.refl _ _ _ |>.setCell (by omega) (by omega) _ _) |>.setCell (by omega) (by omega) _ _) |>.setCell (by omega) (by omega) _ _) |>.setCell (by omega) (by omega) _ _) |>.setCell (by omega) (by omega) _ _) |>.setCell (by omega) (by omega) _ _) |>.setCell (by omega) (by omega) _ _) |>.setCell (by omega) (by omega) _ _) |>.setCell (by omega) (by omega) _ _)
  have hs : V.heap.size = w4.heap.size := by rw [hV]; simp only [size_setC]
  have BV : BoxN V (w.heap.size + 1) 44 [.int .i64 d.kind, .int .i64 d.author, .slice ea_data en_data ec_data, .slice ea_sign0 en_sign0 ec_sign0, .slice ea_sign1 en_sign1 ec_sign1, .slice ea_sign2 en_sign2 ec_sign2] := by rw [hV]; exact (((((((((BR4.out.other (by omega) _ _).other (by omega) _ _).other (by omega) _ _).set 0 _).set 1 _).set 2 _).set 3 _).set 4 _).set 5 _)
  replace O_data := Lib.hid (Kind.kept (K := sInts.toKind) O_data.out hwi (.inr (by omega)))
  replace O_sign := Lib.hid (RowK.kept O_sign.out hwi (.inr (by omega)))
  clear hV
  clear px0 po0 pr0 px1 po1 pr1 px2 po2 pr2 px3 po3 pr3 px4 po4 pr4 px5 po5 pr5 fo fr st0 st1 st2
  have r0 := BV.cell (i := 0) rfl
  have r1 := BV.cell (i := 1) rfl
  have r2 := BV.cell (i := 2) rfl
  have r3 := BV.cell (i := 3) rfl
  have r4 := BV.cell (i := 4) rfl
  have r5 := BV.cell (i := 5) rfl
  refine bodyPost_ret (v := .agg #[.int .i64 d.kind, .int .i64 d.author, .slice ea_data en_data ec_data, .slice ea_sign0 en_sign0 ec_sign0, .slice ea_sign1 en_sign1 ec_sign1, .slice ea_sign2 en_sign2 ec_sign2]) (by simp [results, Try.results20, go_sem, r0, r1, r2, r3, r4, r5]) rfl ⟨_, rfl, ⟨_, rfl, ⟨_, rfl, J0.out, ⟨_, rfl, J1.out, ⟨_, _, u1.heap.size, w2.heap.size, u3.heap.size, V.heap.size, rfl, O_data.out, (rProof.own_mono O_sign.out (by omega) (by omega)), ⟨by omega, by omega⟩, ⟨by omega, by omega⟩, by omega⟩⟩⟩⟩, ?_⟩
  exact HB4.out.trans (hwi.below (by omega) (by omega))
/-- the struct with marks in its slices, from k0 on -/
def mkEntry (k0 : Nat) (d : EntryD) : EntryD := ⟨d.kind, d.author, mkI (k0) d.data, mkProof (k0 + d.data.length) d.sign⟩
set_option maxHeartbeats 2000000 in
theorem laws_markEntry (lo hi : Nat) (v : Value) (k0 : Nat) (d : EntryD) (w : World) (h : (kS rEntry).own w lo hi v d) (hk : k0 + cnEntry d ≤ 9223372036854775806) (hhi : hi ≤ w.heap.size) :
    Calls Try.prog 25 #[v, .int .i64 k0] w fun e w' => e = .returned (.int .i64 (k0 + cnEntry d : Nat)) ∧ (kS rEntry).own w' lo hi v (mkEntry k0 d) ∧ Within lo hi w w' := by
  have HK : Hid (k0 + cnEntry d = k0 + d.data.length + cnProof d.sign) := by unfold Hid cnEntry; omega
  unfold cnEntry at hk
  obtain ⟨_, rfl, ⟨_, rfl, i_kind, ⟨_, rfl, i_author, ⟨_, _, l_data, h_data, m_data, t_data, rfl, o_data, o_sign, q_data, r_data, s_data⟩⟩⟩⟩ := h
  obtain ⟨ea_data, en_data, ec_data, rfl⟩ := sInts.sl (sInts.own_rd o_data)
  obtain ⟨v17, _, rfl, h18, ⟨v19, _, rfl, h20, ⟨v21, _, rfl, h22, rfl⟩⟩⟩ := rProof.own_rd o_sign
  obtain ⟨ea_sign0, en_sign0, ec_sign0, rfl⟩ := sInts.sl h18
  clear h18
  obtain ⟨ea_sign1, en_sign1, ec_sign1, rfl⟩ := sInts.sl h20
  clear h20
  obtain ⟨ea_sign2, en_sign2, ec_sign2, rfl⟩ := sInts.sl h22
  clear h22
  obtain ⟨W, hW⟩ : ∃ W, W = w.alloc (.cells #[.int .i64 d.kind, .int .i64 d.author, .slice ea_data en_data ec_data, .slice ea_sign0 en_sign0 ec_sign0, .slice ea_sign1 en_sign1 ec_sign1, .slice ea_sign2 en_sign2 ec_sign2] 44) := ⟨_, rfl⟩
  have hb : Below w.heap.size w W := by rw [hW]; exact (Below.refl _ _).alloc (Nat.le_refl _) _
  have hs0 : W.heap.size = w.heap.size + 1 := by rw [hW]; simp
  have BX0 : Hid (BoxN W w.heap.size 44 [.int .i64 d.kind, .int .i64 d.author, .slice ea_data en_data ec_data, .slice ea_sign0 en_sign0 ec_sign0, .slice ea_sign1 en_sign1 ec_sign1, .slice ea_sign2 en_sign2 ec_sign2]) := by unfold Hid; rw [hW]; exact BoxN.new w [.int .i64 d.kind, .int .i64 d.author, .slice ea_data en_data ec_data, .slice ea_sign0 en_sign0 ec_sign0, .slice ea_sign1 en_sign1 ec_sign1, .slice ea_sign2 en_sign2 ec_sign2] _
  have O_data := Lib.hid (Kind.next (K := sInts.toKind) o_data hb)
  clear o_data
  have O_sign := Lib.hid (RowK.next o_sign hb)
  clear o_sign
  have G0 : Hid (Within lo hi w W) := Within.of_below hb
  clear hb
  go_enter Try.func25, Try.ntmps25
  go_wp2_with fail
  rw [← hW]
  clear hW
  refine (laws_markI l_data h_data _ (k0) d.data W O_data.out (by omega) (by omega)).mono ?_
  rintro e w1 ⟨rfl, X, g⟩
  replace O_data := Lib.hid X; clear X
  have us1 := g.size
  have BX1 := Lib.hid (BX0.out.kept g (.inr (by omega)))
  replace O_sign := Lib.hid (RowK.kept O_sign.out g (by omega))
  have G1 := Lib.hid (G0.out.trans (g.mono (by omega) (by omega))); clear g
  have p3 := BX1.out.cell (i := 3) rfl
  have p4 := BX1.out.cell (i := 4) rfl
  have p5 := BX1.out.cell (i := 5) rfl
  go_wp2_with fail
  clear p3 p4 p5
  refine (laws_markProof m_data t_data _ (k0 + d.data.length) d.sign w1 ⟨_, rfl, O_sign.out⟩ (by omega) (by omega)).mono ?_
  rintro e w2 ⟨rfl, X, g⟩
  obtain ⟨_, hX, X⟩ := X
  have hX2 := congrArg (fun v => match v with | Value.agg a => a.toList | _ => []) hX
  simp only at hX2
  subst hX2
  clear hX
  replace O_sign := Lib.hid X; clear X
  have us2 := g.size
  have BX2 := Lib.hid (BX1.out.kept g (.inr (by omega)))
  replace O_data := Lib.hid (Kind.kept (K := sInts.toKind) O_data.out g (by omega))
  have G2 := Lib.hid (G1.out.trans (g.mono (by omega) (by omega))); clear g
  go_wp2_with fail
  go_ret
  refine ⟨ret_int (by rw [HK.out]; (try omega)), ⟨_, rfl, ⟨_, rfl, i_kind, ⟨_, rfl, i_author, ⟨_, _, l_data, h_data, m_data, t_data, rfl, O_data.out, O_sign.out, q_data, r_data, s_data⟩⟩⟩⟩, G2.out⟩
end Go.Proofs.Ytboahnklilmdpaa
