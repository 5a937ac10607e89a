/- Bundle of walks and laws: KProof, KHead, KEntry. -/
import Derived.Test.YtbcaknmpbkapnaaBa
/- The struct Proof as a kind (printed by genkind.py): its data, its row, the walks of the laws' helpers. -/

namespace Go.Proofs.Ytbcaknmpbkapnaa
open Go.RowKit
set_option linter.unusedSimpArgs false
set_option linter.unusedVariables false

structure ProofD where
  c : List Int
  h : List Int
  r : List Int
deriving DecidableEq
abbrev rProof : RowK ProofD := rMap (rS sInts (rS sInts (rS sInts rNil))) (fun d => (d.c, (d.h, (d.r, ()))))
theorem ProofD.ext_iff' {a b : ProofD} : a = b ↔ a.c = b.c ∧ a.h = b.h ∧ a.r = b.r := by
  cases a; cases b; simp
/-- what it counts for in the laws' bound; the marks that it holds -/
def szProof (d : ProofD) : Nat := d.c.length + d.h.length + d.r.length
def cnProof (d : ProofD) : Nat := d.c.length + d.h.length + d.r.length
theorem cnProof_le (d : ProofD) : cnProof d ≤ 4 * szProof d := by
  unfold cnProof szProof;  omega
theorem rdProof {w : World} {v : Value} {d : ProofD} : (kS rProof).rd w v d ↔ ∃ a0 n0 c0 a1 n1 c1 a2 n2 c2, v = .agg #[.slice a0 n0 c0, .slice a1 n1 c1, .slice a2 n2 c2] ∧ sInts.rd w (.slice a0 n0 c0) d.c ∧ sInts.rd w (.slice a1 n1 c1) d.h ∧ sInts.rd w (.slice a2 n2 c2) d.r := by
  constructor
  · rintro ⟨_, rfl, ⟨v1, _, rfl, h2, ⟨v3, _, rfl, h4, ⟨v5, _, rfl, h6, rfl⟩⟩⟩⟩
    obtain ⟨_, _, _, rfl⟩ := sInts.sl h2
    obtain ⟨_, _, _, rfl⟩ := sInts.sl h4
    obtain ⟨_, _, _, rfl⟩ := sInts.sl h6
    exact ⟨_, _, _, _, _, _, _, _, _, rfl, h2, h4, h6⟩
  · rintro ⟨a0, n0, c0, a1, n1, c1, a2, n2, c2, rfl, g0, g1, g2⟩
    exact ⟨_, rfl, ⟨_, _, rfl, g0, ⟨_, _, rfl, g1, ⟨_, _, rfl, g2, rfl⟩⟩⟩⟩
set_option maxHeartbeats 2000000 in
theorem laws_eqProof (v1 v2 : Value) (d1 d2 : ProofD) (w : World) (h1 : (kS rProof).rd w v1 d1) (h2 : (kS rProof).rd w v2 d2) :
    Calls Try.prog 26 #[v1, v2] w fun e w' => e = .returned (.bool (decide (d1 = d2))) ∧ Below w.heap.size w w' := by
  obtain ⟨a0x, n0x, c0x, a1x, n1x, c1x, a2x, n2x, c2x, rfl, k0x, k1x, k2x⟩ := rdProof.1 h1
  have Fcx := Lib.hid k0x
  have Fhx := Lib.hid k1x
  have Frx := Lib.hid k2x
  clear k0x k1x k2x
  obtain ⟨a0y, n0y, c0y, a1y, n1y, c1y, a2y, n2y, c2y, rfl, k0y, k1y, k2y⟩ := rdProof.1 h2
  have Fcy := Lib.hid k0y
  have Fhy := Lib.hid k1y
  have Fry := Lib.hid k2y
  clear k0y k1y k2y
  clear h1 h2
  obtain ⟨W, hW⟩ : ∃ W, W = (w.alloc (.cells #[.slice a0x n0x c0x, .slice a1x n1x c1x, .slice a2x n2x c2x] 26)).alloc (.cells #[.slice a0y n0y c0y, .slice a1y n1y c1y, .slice a2y n2y c2y] 26) := ⟨_, rfl⟩
  have hs1 : (w.alloc (.cells #[.slice a0x n0x c0x, .slice a1x n1x c1x, .slice a2x n2x c2x] 26)).heap.size = w.heap.size + 1 := by simp
  have HB0 : Hid (Below w.heap.size w W) := by unfold Hid; rw [hW]; (repeat (first | exact Below.refl _ _ | assumption | refine Below.drew ?_ | refine Below.alloc ?_ (by first | (simp; done) | (simp; omega)) _ | refine Below.setCell ?_ (by first | (simp; done) | (simp; omega)) _))
  have BX : Hid (BoxN W w.heap.size 26 [.slice a0x n0x c0x, .slice a1x n1x c1x, .slice a2x n2x c2x]) := by unfold Hid; rw [hW]; exact (BoxN.new w [.slice a0x n0x c0x, .slice a1x n1x c1x, .slice a2x n2x c2x] _).alloc _
  have BY : Hid (BoxN W (w.heap.size + 1) 26 [.slice a0y n0y c0y, .slice a1y n1y c1y, .slice a2y n2y c2y]) := by unfold Hid; rw [hW, ← hs1]; exact BoxN.new _ [.slice a0y n0y c0y, .slice a1y n1y c1y, .slice a2y n2y c2y] _
  obtain ⟨q_c, hq_c⟩ : ∃ q, decide (d1.c = d2.c) = q := ⟨_, rfl⟩
  obtain ⟨q_h, hq_h⟩ : ∃ q, decide (d1.h = d2.h) = q := ⟨_, rfl⟩
  obtain ⟨q_r, hq_r⟩ : ∃ q, decide (d1.r = d2.r) = q := ⟨_, rfl⟩
  have HR : Hid (decide (d1 = d2) = (q_c && (q_h && (q_r)))) := by
    unfold Hid; rw [← hq_c, ← hq_h, ← hq_r, Bool.eq_iff_iff]; simp only [Bool.and_eq_true, decide_eq_true_eq]; exact ProofD.ext_iff'
  have Q_c := Lib.hid hq_c; clear hq_c
  have Q_h := Lib.hid hq_h; clear hq_h
  have Q_r := Lib.hid hq_r; clear hq_r
  clear hs1
  have HA0 : Hid (Below W.heap.size W W) := Below.refl _ _
  go_enter Try.func26, Try.ntmps26
  go_wp2_with fail
  rw [← hW]
  clear hW
  refine (laws_eqI _ _ d1.c d2.c _ (sInts.rd_below Fcx.out HB0.out) (sInts.rd_below Fcy.out HB0.out)).mono ?_
  rintro e w1 ⟨rfl, hb⟩
  rw [Q_c.out]
  have HB1 := Lib.hid (HB0.out.trans (hb.mono HB0.out.size))
  have HA1 := Lib.hid (HA0.out.trans (hb.mono HA0.out.size)); clear hb
  cases q_c with
  | false =>
    go_wp2_with fail
    go_ret
    exact ⟨ret_bool (by rw [HR.out]; rfl), HB1.out⟩
  | true =>
  have px1 := BX.out.below HA1.out |>.cell (i := 1) rfl
  have py1 := BY.out.below HA1.out |>.cell (i := 1) rfl
  go_wp2_with fail
  clear px1 py1
  refine (laws_eqI _ _ d1.h d2.h _ (sInts.rd_below Fhx.out HB1.out) (sInts.rd_below Fhy.out HB1.out)).mono ?_
  rintro e w2 ⟨rfl, hb⟩
  rw [Q_h.out]
  have HB2 := Lib.hid (HB1.out.trans (hb.mono HB1.out.size))
  have HA2 := Lib.hid (HA1.out.trans (hb.mono HA1.out.size)); clear hb
  cases q_h with
  | false =>
    go_wp2_with fail
    go_ret
    exact ⟨ret_bool (by rw [HR.out]; rfl), HB2.out⟩
  | true =>
  have px2 := BX.out.below HA2.out |>.cell (i := 2) rfl
  have py2 := BY.out.below HA2.out |>.cell (i := 2) rfl
  go_wp2_with fail
  clear px2 py2
  refine (laws_eqI _ _ d1.r d2.r _ (sInts.rd_below Frx.out HB2.out) (sInts.rd_below Fry.out HB2.out)).mono ?_
  rintro e w3 ⟨rfl, hb⟩
  rw [Q_r.out]
  have HB3 := Lib.hid (HB2.out.trans (hb.mono HB2.out.size))
  have HA3 := Lib.hid (HA2.out.trans (hb.mono HA2.out.size)); clear hb
  cases q_r with
  | false =>
    go_wp2_with fail
    go_ret
    exact ⟨ret_bool (by rw [HR.out]; rfl), HB3.out⟩
  | true =>
  go_wp2_with fail
  go_ret
  exact ⟨ret_bool (by rw [HR.out]; rfl), HB3.out⟩
/-- the struct with marks in its slices, from k0 on -/
def mkProof (k0 : Nat) (d : ProofD) : ProofD := ⟨mkI (k0) d.c, mkI (k0 + d.c.length) d.h, mkI (k0 + d.c.length + d.h.length) d.r⟩
set_option maxHeartbeats 2000000 in
theorem laws_markProof (lo hi : Nat) (v : Value) (k0 : Nat) (d : ProofD) (w : World) (h : (kS rProof).own w lo hi v d) (hk : k0 + cnProof d ≤ 9223372036854775806) (hhi : hi ≤ w.heap.size) :
    Calls Try.prog 29 #[v, .int .i64 k0] w fun e w' => e = .returned (.int .i64 (k0 + cnProof d : Nat)) ∧ (kS rProof).own w' lo hi v (mkProof k0 d) ∧ Within lo hi w w' := by
  have HK : Hid (k0 + cnProof d = k0 + d.c.length + d.h.length + d.r.length) := by unfold Hid cnProof; omega
  unfold cnProof at hk
  obtain ⟨_, rfl, ⟨_, _, l_c, h_c, m_c, t_c, rfl, o_c, ⟨_, _, l_h, h_h, m_h, t_h, rfl, o_h, ⟨_, _, l_r, h_r, m_r, t_r, rfl, o_r, rfl, q_r, r_r, s_r⟩, q_h, r_h, s_h⟩, q_c, r_c, s_c⟩⟩ := h
  obtain ⟨ea_c, en_c, ec_c, rfl⟩ := sInts.sl (sInts.own_rd o_c)
  obtain ⟨ea_h, en_h, ec_h, rfl⟩ := sInts.sl (sInts.own_rd o_h)
  obtain ⟨ea_r, en_r, ec_r, rfl⟩ := sInts.sl (sInts.own_rd o_r)
  obtain ⟨W, hW⟩ : ∃ W, W = w.alloc (.cells #[.slice ea_c en_c ec_c, .slice ea_h en_h ec_h, .slice ea_r en_r ec_r] 26) := ⟨_, rfl⟩
  have hb : Below w.heap.size w W := by rw [hW]; exact (Below.refl _ _).alloc (Nat.le_refl _) _
  have hs0 : W.heap.size = w.heap.size + 1 := by rw [hW]; simp
  have BX0 : Hid (BoxN W w.heap.size 26 [.slice ea_c en_c ec_c, .slice ea_h en_h ec_h, .slice ea_r en_r ec_r]) := by unfold Hid; rw [hW]; exact BoxN.new w [.slice ea_c en_c ec_c, .slice ea_h en_h ec_h, .slice ea_r en_r ec_r] _
  have O_c := Lib.hid (Kind.next (K := sInts.toKind) o_c hb)
  clear o_c
  have O_h := Lib.hid (Kind.next (K := sInts.toKind) o_h hb)
  clear o_h
  have O_r := Lib.hid (Kind.next (K := sInts.toKind) o_r hb)
  clear o_r
  have G0 : Hid (Within lo hi w W) := Within.of_below hb
  clear hb
  go_enter Try.func29, Try.ntmps29
  go_wp2_with fail
  rw [← hW]
  clear hW
  refine (laws_markI l_c h_c _ (k0) d.c W O_c.out (by omega) (by omega)).mono ?_
  rintro e w1 ⟨rfl, X, g⟩
  replace O_c := Lib.hid X; clear X
  have us1 := g.size
  have BX1 := Lib.hid (BX0.out.kept g (.inr (by omega)))
  replace O_h := Lib.hid (Kind.kept (K := sInts.toKind) O_h.out g (by omega))
  replace O_r := Lib.hid (Kind.kept (K := sInts.toKind) O_r.out g (by omega))
  have G1 := Lib.hid (G0.out.trans (g.mono (by omega) (by omega))); clear g
  have p1 := BX1.out.cell (i := 1) rfl
  go_wp2_with fail
  clear p1
  refine (laws_markI l_h h_h _ (k0 + d.c.length) d.h w1 O_h.out (by omega) (by omega)).mono ?_
  rintro e w2 ⟨rfl, X, g⟩
  replace O_h := Lib.hid X; clear X
  have us2 := g.size
  have BX2 := Lib.hid (BX1.out.kept g (.inr (by omega)))
  replace O_c := Lib.hid (Kind.kept (K := sInts.toKind) O_c.out g (by omega))
  replace O_r := Lib.hid (Kind.kept (K := sInts.toKind) O_r.out g (by omega))
  have G2 := Lib.hid (G1.out.trans (g.mono (by omega) (by omega))); clear g
  have p2 := BX2.out.cell (i := 2) rfl
  go_wp2_with fail
  clear p2
  refine (laws_markI l_r h_r _ (k0 + d.c.length + d.h.length) d.r w2 O_r.out (by omega) (by omega)).mono ?_
  rintro e w3 ⟨rfl, X, g⟩
  replace O_r := Lib.hid X; clear X
  have us3 := g.size
  have BX3 := Lib.hid (BX2.out.kept g (.inr (by omega)))
  replace O_c := Lib.hid (Kind.kept (K := sInts.toKind) O_c.out g (by omega))
  replace O_h := Lib.hid (Kind.kept (K := sInts.toKind) O_h.out g (by omega))
  have G3 := Lib.hid (G2.out.trans (g.mono (by omega) (by omega))); clear g
  go_wp2_with fail
  go_ret
  refine ⟨ret_int (by rw [HK.out]; (try omega)), ⟨_, rfl, ⟨_, _, l_c, h_c, m_c, t_c, rfl, O_c.out, ⟨_, _, l_h, h_h, m_h, t_h, rfl, O_h.out, ⟨_, _, l_r, h_r, m_r, t_r, rfl, O_r.out, rfl, q_r, r_r, s_r⟩, q_h, r_h, s_h⟩, q_c, r_c, s_c⟩⟩, G3.out⟩
set_option maxHeartbeats 2000000 in
theorem laws_heldProof (v : Value) (k0 : Nat) (d : ProofD) (w : World) (h : (kS rProof).rd w v (mkProof k0 d)) (hk : k0 + cnProof d ≤ 9223372036854775806) :
    Calls Try.prog 32 #[v, .int .i64 k0] w fun e w' => e = .returned (.int .i64 (k0 + cnProof d : Nat)) ∧ Below w.heap.size w w' := by
  have HK : Hid (k0 + cnProof d = k0 + d.c.length + d.h.length + d.r.length) := by unfold Hid cnProof; omega
  unfold cnProof at hk
  obtain ⟨D, hD⟩ : ∃ D, mkProof k0 d = D := ⟨_, rfl⟩
  have D_c : Hid (D.c = mkI (k0) d.c) := by unfold Hid; rw [← hD]; rfl
  have D_h : Hid (D.h = mkI (k0 + d.c.length) d.h) := by unfold Hid; rw [← hD]; rfl
  have D_r : Hid (D.r = mkI (k0 + d.c.length + d.h.length) d.r) := by unfold Hid; rw [← hD]; rfl
  rw [hD] at h; clear hD
  obtain ⟨a0, n0, c0, a1, n1, c1, a2, n2, c2, rfl, k0, k1, k2⟩ := rdProof.1 h
  have Fc := Lib.hid k0
  have Fh := Lib.hid k1
  have Fr := Lib.hid k2
  clear k0 k1 k2
  clear h
  obtain ⟨W, hW⟩ : ∃ W, W = w.alloc (.cells #[.slice a0 n0 c0, .slice a1 n1 c1, .slice a2 n2 c2] 26) := ⟨_, rfl⟩
  have HB0 : Hid (Below w.heap.size w W) := by unfold Hid; rw [hW]; exact (Below.refl _ _).alloc (Nat.le_refl _) _
  have BX : Hid (BoxN W w.heap.size 26 [.slice a0 n0 c0, .slice a1 n1 c1, .slice a2 n2 c2]) := by unfold Hid; rw [hW]; exact BoxN.new w [.slice a0 n0 c0, .slice a1 n1 c1, .slice a2 n2 c2] _
  have HA0 : Hid (Below W.heap.size W W) := Below.refl _ _
  go_enter Try.func32, Try.ntmps32
  go_wp2_with fail
  rw [← hW]
  clear hW
  refine (laws_heldI _ (k0) d.c _ (sInts.rd_below (by rw [← D_c.out]; exact Fc.out) HB0.out) (by omega)).mono ?_
  rintro e w1 ⟨rfl, hb⟩
  have HB1 := Lib.hid (HB0.out.trans (hb.mono HB0.out.size))
  have HA1 := Lib.hid (HA0.out.trans (hb.mono HA0.out.size)); clear hb
  have hnn0 : ¬ (((k0 + d.c.length : Nat) : Int) < 0) := by omega
  have p1 := BX.out.below HA1.out |>.cell (i := 1) rfl
  go_wp2_with fail
  clear p1
  refine (laws_heldI _ (k0 + d.c.length) d.h _ (sInts.rd_below (by rw [← D_h.out]; exact Fh.out) HB1.out) (by omega)).mono ?_
  rintro e w2 ⟨rfl, hb⟩
  have HB2 := Lib.hid (HB1.out.trans (hb.mono HB1.out.size))
  have HA2 := Lib.hid (HA1.out.trans (hb.mono HA1.out.size)); clear hb
  have hnn1 : ¬ (((k0 + d.c.length + d.h.length : Nat) : Int) < 0) := by omega
  have p2 := BX.out.below HA2.out |>.cell (i := 2) rfl
  go_wp2_with fail
  clear p2
  refine (laws_heldI _ (k0 + d.c.length + d.h.length) d.r _ (sInts.rd_below (by rw [← D_r.out]; exact Fr.out) HB2.out) (by omega)).mono ?_
  rintro e w3 ⟨rfl, hb⟩
  have HB3 := Lib.hid (HB2.out.trans (hb.mono HB2.out.size))
  have HA3 := Lib.hid (HA2.out.trans (hb.mono HA2.out.size)); clear hb
  have hnn2 : ¬ (((k0 + d.c.length + d.h.length + d.r.length : Nat) : Int) < 0) := by omega
  go_wp2_with fail
  go_ret
  exact ⟨ret_int (by rw [HK.out]; (try omega)), HB3.out⟩
end Go.Proofs.Ytbcaknmpbkapnaa
/- The struct Head as a kind (printed by genkind.py): its data, its row, the walks of the laws' helpers. -/


namespace Go.Proofs.Ytbcaknmpbkapnaa
open Go.RowKit
set_option linter.unusedSimpArgs false
set_option linter.unusedVariables false

structure HeadD where
  author : Int
  size : Int
  root : Int
  sign : ProofD
deriving DecidableEq
abbrev rHead : RowK HeadD := rMap (rI (rI (rI rProof))) (fun d => (d.author, (d.size, (d.root, d.sign))))
theorem HeadD.ext_iff' {a b : HeadD} : a = b ↔ a.author = b.author ∧ a.size = b.size ∧ a.root = b.root ∧ a.sign = b.sign := by
  cases a; cases b; simp
/-- what it counts for in the laws' bound; the marks that it holds -/
def szHead (d : HeadD) : Nat := szProof d.sign
def cnHead (d : HeadD) : Nat := cnProof d.sign
theorem cnHead_le (d : HeadD) : cnHead d ≤ 4 * szHead d := by
  unfold cnHead szHead; have := cnProof_le d.sign; omega
theorem rdHead {w : World} {v : Value} {d : HeadD} : (kS rHead).rd w v d ↔ ∃ a3 n3 c3 a4 n4 c4 a5 n5 c5, v = .agg #[.int .i64 d.author, .int .i64 d.size, .int .i64 d.root, .slice a3 n3 c3, .slice a4 n4 c4, .slice a5 n5 c5] ∧ I64 d.author ∧ I64 d.size ∧ I64 d.root ∧ sInts.rd w (.slice a3 n3 c3) d.sign.c ∧ sInts.rd w (.slice a4 n4 c4) d.sign.h ∧ sInts.rd w (.slice a5 n5 c5) d.sign.r := by
  constructor
  · rintro ⟨_, rfl, ⟨_, rfl, i1, ⟨_, rfl, i2, ⟨_, rfl, i3, ⟨v4, _, rfl, h5, ⟨v6, _, rfl, h7, ⟨v8, _, rfl, h9, rfl⟩⟩⟩⟩⟩⟩⟩
    obtain ⟨_, _, _, rfl⟩ := sInts.sl h5
    obtain ⟨_, _, _, rfl⟩ := sInts.sl h7
    obtain ⟨_, _, _, rfl⟩ := sInts.sl h9
    exact ⟨_, _, _, _, _, _, _, _, _, rfl, i1, i2, i3, h5, h7, h9⟩
  · rintro ⟨a3, n3, c3, a4, n4, c4, a5, n5, c5, rfl, g0, g1, g2, g3, g4, g5⟩
    exact ⟨_, rfl, ⟨_, rfl, g0, ⟨_, rfl, g1, ⟨_, rfl, g2, ⟨_, _, rfl, g3, ⟨_, _, rfl, g4, ⟨_, _, rfl, g5, rfl⟩⟩⟩⟩⟩⟩⟩
/-- the struct with marks in its slices, from k0 on -/
def mkHead (k0 : Nat) (d : HeadD) : HeadD := ⟨d.author, d.size, d.root, mkProof (k0) d.sign⟩
end Go.Proofs.Ytbcaknmpbkapnaa
/- The struct Entry as a kind (printed by genkind.py): its data, its row, the walks of the laws' helpers. -/


namespace Go.Proofs.Ytbcaknmpbkapnaa
open Go.RowKit
set_option linter.unusedSimpArgs false
set_option linter.unusedVariables false

structure EntryD where
  kind : Int
  author : Int
  data : List Int
  sign : ProofD
deriving DecidableEq
abbrev rEntry : RowK EntryD := rMap (rI (rI (rS sInts rProof))) (fun d => (d.kind, (d.author, (d.data, d.sign))))
theorem EntryD.ext_iff' {a b : EntryD} : a = b ↔ a.kind = b.kind ∧ a.author = b.author ∧ a.data = b.data ∧ a.sign = b.sign := by
  cases a; cases b; simp
/-- what it counts for in the laws' bound; the marks that it holds -/
def szEntry (d : EntryD) : Nat := d.data.length + szProof d.sign
def cnEntry (d : EntryD) : Nat := d.data.length + cnProof d.sign
theorem cnEntry_le (d : EntryD) : cnEntry d ≤ 4 * szEntry d := by
  unfold cnEntry szEntry; have := cnProof_le d.sign; omega
theorem rdEntry {w : World} {v : Value} {d : EntryD} : (kS rEntry).rd w v d ↔ ∃ a2 n2 c2 a3 n3 c3 a4 n4 c4 a5 n5 c5, v = .agg #[.int .i64 d.kind, .int .i64 d.author, .slice a2 n2 c2, .slice a3 n3 c3, .slice a4 n4 c4, .slice a5 n5 c5] ∧ I64 d.kind ∧ I64 d.author ∧ sInts.rd w (.slice a2 n2 c2) d.data ∧ sInts.rd w (.slice a3 n3 c3) d.sign.c ∧ sInts.rd w (.slice a4 n4 c4) d.sign.h ∧ sInts.rd w (.slice a5 n5 c5) d.sign.r := by
  constructor
  · rintro ⟨_, rfl, ⟨_, rfl, i1, ⟨_, rfl, i2, ⟨v3, _, rfl, h4, ⟨v5, _, rfl, h6, ⟨v7, _, rfl, h8, ⟨v9, _, rfl, h10, rfl⟩⟩⟩⟩⟩⟩⟩
    obtain ⟨_, _, _, rfl⟩ := sInts.sl h4
    obtain ⟨_, _, _, rfl⟩ := sInts.sl h6
    obtain ⟨_, _, _, rfl⟩ := sInts.sl h8
    obtain ⟨_, _, _, rfl⟩ := sInts.sl h10
    exact ⟨_, _, _, _, _, _, _, _, _, _, _, _, rfl, i1, i2, h4, h6, h8, h10⟩
  · rintro ⟨a2, n2, c2, a3, n3, c3, a4, n4, c4, a5, n5, c5, rfl, g0, g1, g2, g3, g4, g5⟩
    exact ⟨_, rfl, ⟨_, rfl, g0, ⟨_, rfl, g1, ⟨_, _, rfl, g2, ⟨_, _, rfl, g3, ⟨_, _, rfl, g4, ⟨_, _, rfl, g5, rfl⟩⟩⟩⟩⟩⟩⟩
/-- the struct with marks in its slices, from k0 on -/
def mkEntry (k0 : Nat) (d : EntryD) : EntryD := ⟨d.kind, d.author, mkI (k0) d.data, mkProof (k0 + d.data.length) d.sign⟩
end Go.Proofs.Ytbcaknmpbkapnaa
