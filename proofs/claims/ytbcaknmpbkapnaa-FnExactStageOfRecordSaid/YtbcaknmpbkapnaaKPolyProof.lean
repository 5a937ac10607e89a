/- The struct PolyProof as a kind (printed by genkind.py): its data, its row, the walks of the laws' helpers. -/
import Derived.Test.YtbcaknmpbkapnaaBa
import Derived.Test.YtbcaknmpbkapnaaBk
namespace Go.Proofs.Ytbcaknmpbkapnaa
open Go.RowKit
set_option linter.unusedSimpArgs false
set_option linter.unusedVariables false

structure PolyProofD where
  places : List Int
  powers : List Int
  chain : List Int
  pi : ProofD
deriving DecidableEq
abbrev rPolyProof : RowK PolyProofD := rMap (rS sInts (rS sInts (rS sInts rProof))) (fun d => (d.places, (d.powers, (d.chain, d.pi))))
theorem PolyProofD.ext_iff' {a b : PolyProofD} : a = b ↔ a.places = b.places ∧ a.powers = b.powers ∧ a.chain = b.chain ∧ a.pi = b.pi := by
  cases a; cases b; simp
/-- what it counts for in the laws' bound; the marks that it holds -/
def szPolyProof (d : PolyProofD) : Nat := d.places.length + d.powers.length + d.chain.length + szProof d.pi
def cnPolyProof (d : PolyProofD) : Nat := d.places.length + d.powers.length + d.chain.length + cnProof d.pi
theorem cnPolyProof_le (d : PolyProofD) : cnPolyProof d ≤ 4 * szPolyProof d := by
  unfold cnPolyProof szPolyProof; have := cnProof_le d.pi; omega
theorem rdPolyProof {w : World} {v : Value} {d : PolyProofD} : (kS rPolyProof).rd w v d ↔ ∃ a0 n0 c0 a1 n1 c1 a2 n2 c2 a3 n3 c3 a4 n4 c4 a5 n5 c5, v = .agg #[.slice a0 n0 c0, .slice a1 n1 c1, .slice a2 n2 c2, .slice a3 n3 c3, .slice a4 n4 c4, .slice a5 n5 c5] ∧ sInts.rd w (.slice a0 n0 c0) d.places ∧ sInts.rd w (.slice a1 n1 c1) d.powers ∧ sInts.rd w (.slice a2 n2 c2) d.chain ∧ sInts.rd w (.slice a3 n3 c3) d.pi.c ∧ sInts.rd w (.slice a4 n4 c4) d.pi.h ∧ sInts.rd w (.slice a5 n5 c5) d.pi.r := by
  constructor
  · rintro ⟨_, rfl, ⟨v1, _, rfl, h2, ⟨v3, _, rfl, h4, ⟨v5, _, rfl, h6, ⟨v7, _, rfl, h8, ⟨v9, _, rfl, h10, ⟨v11, _, rfl, h12, rfl⟩⟩⟩⟩⟩⟩⟩
    obtain ⟨_, _, _, rfl⟩ := sInts.sl h2
    obtain ⟨_, _, _, rfl⟩ := sInts.sl h4
    obtain ⟨_, _, _, rfl⟩ := sInts.sl h6
    obtain ⟨_, _, _, rfl⟩ := sInts.sl h8
    obtain ⟨_, _, _, rfl⟩ := sInts.sl h10
    obtain ⟨_, _, _, rfl⟩ := sInts.sl h12
    exact ⟨_, _, _, _, _, _, _, _, _, _, _, _, _, _, _, _, _, _, rfl, h2, h4, h6, h8, h10, h12⟩
  · rintro ⟨a0, n0, c0, a1, n1, c1, a2, n2, c2, a3, n3, c3, a4, n4, c4, a5, n5, c5, rfl, g0, g1, g2, g3, g4, g5⟩
    exact ⟨_, rfl, ⟨_, _, rfl, g0, ⟨_, _, rfl, g1, ⟨_, _, rfl, g2, ⟨_, _, rfl, g3, ⟨_, _, rfl, g4, ⟨_, _, rfl, g5, rfl⟩⟩⟩⟩⟩⟩⟩
set_option maxHeartbeats 2000000 in
theorem laws_eqPolyProof (v1 v2 : Value) (d1 d2 : PolyProofD) (w : World) (h1 : (kS rPolyProof).rd w v1 d1) (h2 : (kS rPolyProof).rd w v2 d2) :
    Calls Try.prog 36 #[v1, v2] w fun e w' => e = .returned (.bool (decide (d1 = d2))) ∧ Below w.heap.size w w' := by
  obtain ⟨a0x, n0x, c0x, a1x, n1x, c1x, a2x, n2x, c2x, a3x, n3x, c3x, a4x, n4x, c4x, a5x, n5x, c5x, rfl, k0x, k1x, k2x, k3x, k4x, k5x⟩ := rdPolyProof.1 h1
  have Fplacesx := Lib.hid k0x
  have Fpowersx := Lib.hid k1x
  have Fchainx := Lib.hid k2x
  have Fpix : Hid ((kS rProof).rd w (.agg #[.slice a3x n3x c3x, .slice a4x n4x c4x, .slice a5x n5x c5x]) d1.pi) := rdProof.2 ⟨_, _, _, _, _, _, _, _, _, rfl, k3x, k4x, k5x⟩
  clear k0x k1x k2x k3x k4x k5x
  obtain ⟨a0y, n0y, c0y, a1y, n1y, c1y, a2y, n2y, c2y, a3y, n3y, c3y, a4y, n4y, c4y, a5y, n5y, c5y, rfl, k0y, k1y, k2y, k3y, k4y, k5y⟩ := rdPolyProof.1 h2
  have Fplacesy := Lib.hid k0y
  have Fpowersy := Lib.hid k1y
  have Fchainy := Lib.hid k2y
  have Fpiy : Hid ((kS rProof).rd w (.agg #[.slice a3y n3y c3y, .slice a4y n4y c4y, .slice a5y n5y c5y]) d2.pi) := rdProof.2 ⟨_, _, _, _, _, _, _, _, _, rfl, k3y, k4y, k5y⟩
  clear k0y k1y k2y k3y k4y k5y
  clear h1 h2
  obtain ⟨W, hW⟩ : ∃ W, W = (w.alloc (.cells #[.slice a0x n0x c0x, .slice a1x n1x c1x, .slice a2x n2x c2x, .slice a3x n3x c3x, .slice a4x n4x c4x, .slice a5x n5x c5x] 40)).alloc (.cells #[.slice a0y n0y c0y, .slice a1y n1y c1y, .slice a2y n2y c2y, .slice a3y n3y c3y, .slice a4y n4y c4y, .slice a5y n5y c5y] 40) := ⟨_, rfl⟩
  have hs1 : (w.alloc (.cells #[.slice a0x n0x c0x, .slice a1x n1x c1x, .slice a2x n2x c2x, .slice a3x n3x c3x, .slice a4x n4x c4x, .slice a5x n5x c5x] 40)).heap.size = w.heap.size + 1 := by simp
  have HB0 : Hid (Below w.heap.size w W) := by unfold Hid; rw [hW]; (repeat (first | exact Below.refl _ _ | assumption | refine Below.drew ?_ | refine Below.alloc ?_ (by first | (simp; done) | (simp; omega)) _ | refine Below.setCell ?_ (by first | (simp; done) | (simp; omega)) _))
  have BX : Hid (BoxN W w.heap.size 40 [.slice a0x n0x c0x, .slice a1x n1x c1x, .slice a2x n2x c2x, .slice a3x n3x c3x, .slice a4x n4x c4x, .slice a5x n5x c5x]) := by unfold Hid; rw [hW]; exact (BoxN.new w [.slice a0x n0x c0x, .slice a1x n1x c1x, .slice a2x n2x c2x, .slice a3x n3x c3x, .slice a4x n4x c4x, .slice a5x n5x c5x] _).alloc _
  have BY : Hid (BoxN W (w.heap.size + 1) 40 [.slice a0y n0y c0y, .slice a1y n1y c1y, .slice a2y n2y c2y, .slice a3y n3y c3y, .slice a4y n4y c4y, .slice a5y n5y c5y]) := by unfold Hid; rw [hW, ← hs1]; exact BoxN.new _ [.slice a0y n0y c0y, .slice a1y n1y c1y, .slice a2y n2y c2y, .slice a3y n3y c3y, .slice a4y n4y c4y, .slice a5y n5y c5y] _
  obtain ⟨q_places, hq_places⟩ : ∃ q, decide (d1.places = d2.places) = q := ⟨_, rfl⟩
  obtain ⟨q_powers, hq_powers⟩ : ∃ q, decide (d1.powers = d2.powers) = q := ⟨_, rfl⟩
  obtain ⟨q_chain, hq_chain⟩ : ∃ q, decide (d1.chain = d2.chain) = q := ⟨_, rfl⟩
  obtain ⟨q_pi, hq_pi⟩ : ∃ q, decide (d1.pi = d2.pi) = q := ⟨_, rfl⟩
  have HR : Hid (decide (d1 = d2) = (q_places && (q_powers && (q_chain && (q_pi))))) := by
    unfold Hid; rw [← hq_places, ← hq_powers, ← hq_chain, ← hq_pi, Bool.eq_iff_iff]; simp only [Bool.and_eq_true, decide_eq_true_eq]; exact PolyProofD.ext_iff'
  have Q_places := Lib.hid hq_places; clear hq_places
  have Q_powers := Lib.hid hq_powers; clear hq_powers
  have Q_chain := Lib.hid hq_chain; clear hq_chain
  have Q_pi := Lib.hid hq_pi; clear hq_pi
  clear hs1
  have HA0 : Hid (Below W.heap.size W W) := Below.refl _ _
  go_enter Try.func36, Try.ntmps36
  go_wp2_with fail
  rw [← hW]
  clear hW
  refine (laws_eqI _ _ d1.places d2.places _ (sInts.rd_below Fplacesx.out HB0.out) (sInts.rd_below Fplacesy.out HB0.out)).mono ?_
  rintro e w1 ⟨rfl, hb⟩
  rw [Q_places.out]
  have HB1 := Lib.hid (HB0.out.trans (hb.mono HB0.out.size))
  have HA1 := Lib.hid (HA0.out.trans (hb.mono HA0.out.size)); clear hb
  cases q_places with
  | false =>
    go_wp2_with fail
    go_ret
    exact ⟨ret_bool (by rw [HR.out]; (try rfl)), HB1.out⟩
  | true =>
  have px1 := BX.out.below HA1.out |>.cell (i := 1) rfl
  have py1 := BY.out.below HA1.out |>.cell (i := 1) rfl
  go_wp2_with fail
  clear px1 py1
  refine (laws_eqI _ _ d1.powers d2.powers _ (sInts.rd_below Fpowersx.out HB1.out) (sInts.rd_below Fpowersy.out HB1.out)).mono ?_
  rintro e w2 ⟨rfl, hb⟩
  rw [Q_powers.out]
  have HB2 := Lib.hid (HB1.out.trans (hb.mono HB1.out.size))
  have HA2 := Lib.hid (HA1.out.trans (hb.mono HA1.out.size)); clear hb
  cases q_powers with
  | false =>
    go_wp2_with fail
    go_ret
    exact ⟨ret_bool (by rw [HR.out]; (try rfl)), HB2.out⟩
  | true =>
  have px2 := BX.out.below HA2.out |>.cell (i := 2) rfl
  have py2 := BY.out.below HA2.out |>.cell (i := 2) rfl
  go_wp2_with fail
  clear px2 py2
  refine (laws_eqI _ _ d1.chain d2.chain _ (sInts.rd_below Fchainx.out HB2.out) (sInts.rd_below Fchainy.out HB2.out)).mono ?_
  rintro e w3 ⟨rfl, hb⟩
  rw [Q_chain.out]
  have HB3 := Lib.hid (HB2.out.trans (hb.mono HB2.out.size))
  have HA3 := Lib.hid (HA2.out.trans (hb.mono HA2.out.size)); clear hb
  cases q_chain with
  | false =>
    go_wp2_with fail
    go_ret
    exact ⟨ret_bool (by rw [HR.out]; (try rfl)), HB3.out⟩
  | true =>
  have px3 := BX.out.below HA3.out |>.cell (i := 3) rfl
  have px4 := BX.out.below HA3.out |>.cell (i := 4) rfl
  have px5 := BX.out.below HA3.out |>.cell (i := 5) rfl
  have py3 := BY.out.below HA3.out |>.cell (i := 3) rfl
  have py4 := BY.out.below HA3.out |>.cell (i := 4) rfl
  have py5 := BY.out.below HA3.out |>.cell (i := 5) rfl
  go_wp2_with fail
  clear px3 px4 px5 py3 py4 py5
  refine (laws_eqProof _ _ d1.pi d2.pi _ ((kS rProof).rd_below Fpix.out HB3.out) ((kS rProof).rd_below Fpiy.out HB3.out)).mono ?_
  rintro e w4 ⟨rfl, hb⟩
  rw [Q_pi.out]
  have HB4 := Lib.hid (HB3.out.trans (hb.mono HB3.out.size))
  have HA4 := Lib.hid (HA3.out.trans (hb.mono HA3.out.size)); clear hb
  cases q_pi with
  | false =>
    go_wp2_with fail
    go_ret
    exact ⟨ret_bool (by rw [HR.out]; (try rfl)), HB4.out⟩
  | true =>
  go_wp2_with fail
  go_ret
  exact ⟨ret_bool (by rw [HR.out]; (try rfl)), HB4.out⟩
/-- the struct with marks in its slices, from k0 on -/
def mkPolyProof (k0 : Nat) (d : PolyProofD) : PolyProofD := ⟨mkI (k0) d.places, mkI (k0 + d.places.length) d.powers, mkI (k0 + d.places.length + d.powers.length) d.chain, mkProof (k0 + d.places.length + d.powers.length + d.chain.length) d.pi⟩
set_option maxHeartbeats 2000000 in
theorem laws_markPolyProof (lo hi : Nat) (v : Value) (k0 : Nat) (d : PolyProofD) (w : World) (h : (kS rPolyProof).own w lo hi v d) (hk : k0 + cnPolyProof d ≤ 9223372036854775806) (hhi : hi ≤ w.heap.size) :
    Calls Try.prog 38 #[v, .int .i64 k0] w fun e w' => e = .returned (.int .i64 (k0 + cnPolyProof d : Nat)) ∧ (kS rPolyProof).own w' lo hi v (mkPolyProof k0 d) ∧ Within lo hi w w' := by
  have HK : Hid (k0 + cnPolyProof d = k0 + d.places.length + d.powers.length + d.chain.length + cnProof d.pi) := by unfold Hid cnPolyProof; omega
  unfold cnPolyProof at hk
  obtain ⟨_, rfl, ⟨_, _, l_places, h_places, m_places, t_places, rfl, o_places, ⟨_, _, l_powers, h_powers, m_powers, t_powers, rfl, o_powers, ⟨_, _, l_chain, h_chain, m_chain, t_chain, rfl, o_chain, o_pi, q_chain, r_chain, s_chain⟩, q_powers, r_powers, s_powers⟩, q_places, r_places, s_places⟩⟩ := h
  obtain ⟨ea_places, en_places, ec_places, rfl⟩ := sInts.sl (sInts.own_rd o_places)
  obtain ⟨ea_powers, en_powers, ec_powers, rfl⟩ := sInts.sl (sInts.own_rd o_powers)
  obtain ⟨ea_chain, en_chain, ec_chain, rfl⟩ := sInts.sl (sInts.own_rd o_chain)
  obtain ⟨v19, _, rfl, h20, ⟨v21, _, rfl, h22, ⟨v23, _, rfl, h24, rfl⟩⟩⟩ := rProof.own_rd o_pi
  obtain ⟨ea_pi0, en_pi0, ec_pi0, rfl⟩ := sInts.sl h20
  clear h20
  obtain ⟨ea_pi1, en_pi1, ec_pi1, rfl⟩ := sInts.sl h22
  clear h22
  obtain ⟨ea_pi2, en_pi2, ec_pi2, rfl⟩ := sInts.sl h24
  clear h24
  obtain ⟨W, hW⟩ : ∃ W, W = w.alloc (.cells #[.slice ea_places en_places ec_places, .slice ea_powers en_powers ec_powers, .slice ea_chain en_chain ec_chain, .slice ea_pi0 en_pi0 ec_pi0, .slice ea_pi1 en_pi1 ec_pi1, .slice ea_pi2 en_pi2 ec_pi2] 40) := ⟨_, rfl⟩
  have hb : Below w.heap.size w W := by rw [hW]; exact (Below.refl _ _).alloc (Nat.le_refl _) _
  have hs0 : W.heap.size = w.heap.size + 1 := by rw [hW]; simp
  have BX0 : Hid (BoxN W w.heap.size 40 [.slice ea_places en_places ec_places, .slice ea_powers en_powers ec_powers, .slice ea_chain en_chain ec_chain, .slice ea_pi0 en_pi0 ec_pi0, .slice ea_pi1 en_pi1 ec_pi1, .slice ea_pi2 en_pi2 ec_pi2]) := by unfold Hid; rw [hW]; exact BoxN.new w [.slice ea_places en_places ec_places, .slice ea_powers en_powers ec_powers, .slice ea_chain en_chain ec_chain, .slice ea_pi0 en_pi0 ec_pi0, .slice ea_pi1 en_pi1 ec_pi1, .slice ea_pi2 en_pi2 ec_pi2] _
  have O_places := Lib.hid (Kind.next (K := sInts.toKind) o_places hb)
  clear o_places
  have O_powers := Lib.hid (Kind.next (K := sInts.toKind) o_powers hb)
  clear o_powers
  have O_chain := Lib.hid (Kind.next (K := sInts.toKind) o_chain hb)
  clear o_chain
  have O_pi := Lib.hid (RowK.next o_pi hb)
  clear o_pi
  have G0 : Hid (Within lo hi w W) := Within.of_below hb
  clear hb
  go_enter Try.func38, Try.ntmps38
  go_wp2_with fail
  rw [← hW]
  clear hW
  refine (laws_markI l_places h_places _ (k0) d.places W O_places.out (by omega) (by omega)).mono ?_
  rintro e w1 ⟨rfl, X, g⟩
  replace O_places := Lib.hid X; clear X
  have us1 := g.size
  have BX1 := Lib.hid (BX0.out.kept g (.inr (by omega)))
  replace O_powers := Lib.hid (Kind.kept (K := sInts.toKind) O_powers.out g (by omega))
  replace O_chain := Lib.hid (Kind.kept (K := sInts.toKind) O_chain.out g (by omega))
  replace O_pi := Lib.hid (RowK.kept O_pi.out g (by omega))
  have G1 := Lib.hid (G0.out.trans (g.mono (by omega) (by omega))); clear g
  have p1 := BX1.out.cell (i := 1) rfl
  go_wp2_with fail
  clear p1
  refine (laws_markI l_powers h_powers _ (k0 + d.places.length) d.powers w1 O_powers.out (by omega) (by omega)).mono ?_
  rintro e w2 ⟨rfl, X, g⟩
  replace O_powers := Lib.hid X; clear X
  have us2 := g.size
  have BX2 := Lib.hid (BX1.out.kept g (.inr (by omega)))
  replace O_places := Lib.hid (Kind.kept (K := sInts.toKind) O_places.out g (by omega))
  replace O_chain := Lib.hid (Kind.kept (K := sInts.toKind) O_chain.out g (by omega))
  replace O_pi := Lib.hid (RowK.kept O_pi.out g (by omega))
  have G2 := Lib.hid (G1.out.trans (g.mono (by omega) (by omega))); clear g
  have p2 := BX2.out.cell (i := 2) rfl
  go_wp2_with fail
  clear p2
  refine (laws_markI l_chain h_chain _ (k0 + d.places.length + d.powers.length) d.chain w2 O_chain.out (by omega) (by omega)).mono ?_
  rintro e w3 ⟨rfl, X, g⟩
  replace O_chain := Lib.hid X; clear X
  have us3 := g.size
  have BX3 := Lib.hid (BX2.out.kept g (.inr (by omega)))
  replace O_places := Lib.hid (Kind.kept (K := sInts.toKind) O_places.out g (by omega))
  replace O_powers := Lib.hid (Kind.kept (K := sInts.toKind) O_powers.out g (by omega))
  replace O_pi := Lib.hid (RowK.kept O_pi.out g (by omega))
  have G3 := Lib.hid (G2.out.trans (g.mono (by omega) (by omega))); clear g
  have p3 := BX3.out.cell (i := 3) rfl
  have p4 := BX3.out.cell (i := 4) rfl
  have p5 := BX3.out.cell (i := 5) rfl
  go_wp2_with fail
  clear p3 p4 p5
  refine (laws_markProof m_chain t_chain _ (k0 + d.places.length + d.powers.length + d.chain.length) d.pi w3 ⟨_, rfl, O_pi.out⟩ (by omega) (by omega)).mono ?_
  rintro e w4 ⟨rfl, X, g⟩
  obtain ⟨_, hX, X⟩ := X
  have hX2 := congrArg (fun v => match v with | Value.agg a => a.toList | _ => []) hX
  simp only at hX2
  subst hX2
  clear hX
  replace O_pi := Lib.hid X; clear X
  have us4 := g.size
  have BX4 := Lib.hid (BX3.out.kept g (.inr (by omega)))
  replace O_places := Lib.hid (Kind.kept (K := sInts.toKind) O_places.out g (by omega))
  replace O_powers := Lib.hid (Kind.kept (K := sInts.toKind) O_powers.out g (by omega))
  replace O_chain := Lib.hid (Kind.kept (K := sInts.toKind) O_chain.out g (by omega))
  have G4 := Lib.hid (G3.out.trans (g.mono (by omega) (by omega))); clear g
  go_wp2_with fail
  go_ret
  refine ⟨ret_int (by rw [HK.out]; (try omega)), ⟨_, rfl, ⟨_, _, l_places, h_places, m_places, t_places, rfl, O_places.out, ⟨_, _, l_powers, h_powers, m_powers, t_powers, rfl, O_powers.out, ⟨_, _, l_chain, h_chain, m_chain, t_chain, rfl, O_chain.out, O_pi.out, q_chain, r_chain, s_chain⟩, q_powers, r_powers, s_powers⟩, q_places, r_places, s_places⟩⟩, G4.out⟩
set_option maxHeartbeats 2000000 in
theorem laws_heldPolyProof (v : Value) (k0 : Nat) (d : PolyProofD) (w : World) (h : (kS rPolyProof).rd w v (mkPolyProof k0 d)) (hk : k0 + cnPolyProof d ≤ 9223372036854775806) :
    Calls Try.prog 40 #[v, .int .i64 k0] w fun e w' => e = .returned (.int .i64 (k0 + cnPolyProof d : Nat)) ∧ Below w.heap.size w w' := by
  have HK : Hid (k0 + cnPolyProof d = k0 + d.places.length + d.powers.length + d.chain.length + cnProof d.pi) := by unfold Hid cnPolyProof; omega
  unfold cnPolyProof at hk
  obtain ⟨D, hD⟩ : ∃ D, mkPolyProof k0 d = D := ⟨_, rfl⟩
  have D_places : Hid (D.places = mkI (k0) d.places) := by unfold Hid; rw [← hD]; rfl
  have D_powers : Hid (D.powers = mkI (k0 + d.places.length) d.powers) := by unfold Hid; rw [← hD]; rfl
  have D_chain : Hid (D.chain = mkI (k0 + d.places.length + d.powers.length) d.chain) := by unfold Hid; rw [← hD]; rfl
  have D_pi : Hid (D.pi = mkProof (k0 + d.places.length + d.powers.length + d.chain.length) d.pi) := by unfold Hid; rw [← hD]; rfl
  rw [hD] at h; clear hD
  obtain ⟨a0, n0, c0, a1, n1, c1, a2, n2, c2, a3, n3, c3, a4, n4, c4, a5, n5, c5, rfl, k0, k1, k2, k3, k4, k5⟩ := rdPolyProof.1 h
  have Fplaces := Lib.hid k0
  have Fpowers := Lib.hid k1
  have Fchain := Lib.hid k2
  have Fpi : Hid ((kS rProof).rd w (.agg #[.slice a3 n3 c3, .slice a4 n4 c4, .slice a5 n5 c5]) D.pi) := rdProof.2 ⟨_, _, _, _, _, _, _, _, _, rfl, k3, k4, k5⟩
  clear k0 k1 k2 k3 k4 k5
  clear h
  obtain ⟨W, hW⟩ : ∃ W, W = w.alloc (.cells #[.slice a0 n0 c0, .slice a1 n1 c1, .slice a2 n2 c2, .slice a3 n3 c3, .slice a4 n4 c4, .slice a5 n5 c5] 40) := ⟨_, rfl⟩
  have HB0 : Hid (Below w.heap.size w W) := by unfold Hid; rw [hW]; exact (Below.refl _ _).alloc (Nat.le_refl _) _
  have BX : Hid (BoxN W w.heap.size 40 [.slice a0 n0 c0, .slice a1 n1 c1, .slice a2 n2 c2, .slice a3 n3 c3, .slice a4 n4 c4, .slice a5 n5 c5]) := by unfold Hid; rw [hW]; exact BoxN.new w [.slice a0 n0 c0, .slice a1 n1 c1, .slice a2 n2 c2, .slice a3 n3 c3, .slice a4 n4 c4, .slice a5 n5 c5] _
  have HA0 : Hid (Below W.heap.size W W) := Below.refl _ _
  go_enter Try.func40, Try.ntmps40
  go_wp2_with fail
  rw [← hW]
  clear hW
  refine (laws_heldI _ (k0) d.places _ (sInts.rd_below (by rw [← D_places.out]; exact Fplaces.out) HB0.out) (by omega)).mono ?_
  rintro e w1 ⟨rfl, hb⟩
  have HB1 := Lib.hid (HB0.out.trans (hb.mono HB0.out.size))
  have HA1 := Lib.hid (HA0.out.trans (hb.mono HA0.out.size)); clear hb
  have hnn0 : ¬ (((k0 + d.places.length : Nat) : Int) < 0) := by omega
  have p1 := BX.out.below HA1.out |>.cell (i := 1) rfl
  go_wp2_with fail
  clear p1
  refine (laws_heldI _ (k0 + d.places.length) d.powers _ (sInts.rd_below (by rw [← D_powers.out]; exact Fpowers.out) HB1.out) (by omega)).mono ?_
  rintro e w2 ⟨rfl, hb⟩
  have HB2 := Lib.hid (HB1.out.trans (hb.mono HB1.out.size))
  have HA2 := Lib.hid (HA1.out.trans (hb.mono HA1.out.size)); clear hb
  have hnn1 : ¬ (((k0 + d.places.length + d.powers.length : Nat) : Int) < 0) := by omega
  have p2 := BX.out.below HA2.out |>.cell (i := 2) rfl
  go_wp2_with fail
  clear p2
  refine (laws_heldI _ (k0 + d.places.length + d.powers.length) d.chain _ (sInts.rd_below (by rw [← D_chain.out]; exact Fchain.out) HB2.out) (by omega)).mono ?_
  rintro e w3 ⟨rfl, hb⟩
  have HB3 := Lib.hid (HB2.out.trans (hb.mono HB2.out.size))
  have HA3 := Lib.hid (HA2.out.trans (hb.mono HA2.out.size)); clear hb
  have hnn2 : ¬ (((k0 + d.places.length + d.powers.length + d.chain.length : Nat) : Int) < 0) := by omega
  have p3 := BX.out.below HA3.out |>.cell (i := 3) rfl
  have p4 := BX.out.below HA3.out |>.cell (i := 4) rfl
  have p5 := BX.out.below HA3.out |>.cell (i := 5) rfl
  go_wp2_with fail
  clear p3 p4 p5
  refine (laws_heldProof _ (k0 + d.places.length + d.powers.length + d.chain.length) d.pi _ ((kS rProof).rd_below (by rw [← D_pi.out]; exact Fpi.out) HB3.out) (by omega)).mono ?_
  rintro e w4 ⟨rfl, hb⟩
  have HB4 := Lib.hid (HB3.out.trans (hb.mono HB3.out.size))
  have HA4 := Lib.hid (HA3.out.trans (hb.mono HA3.out.size)); clear hb
  have hnn3 : ¬ (((k0 + d.places.length + d.powers.length + d.chain.length + cnProof d.pi : Nat) : Int) < 0) := by omega
  go_wp2_with fail
  go_ret
  exact ⟨ret_int (by rw [HK.out]; (try omega)), HB4.out⟩
end Go.Proofs.Ytbcaknmpbkapnaa
