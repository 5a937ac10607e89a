/- The struct Sealed as a kind (printed by genkind.py): its data, its row, the walks of the laws' helpers. -/
import Derived.Test.YtbcaknmpbkapnaaBa
import Derived.Test.YtbcaknmpbkapnaaKCipherS
import Derived.Test.YtbcaknmpbkapnaaKProofS
import Derived.Test.YtbcaknmpbkapnaaBk
namespace Go.Proofs.Ytbcaknmpbkapnaa
open Go.RowKit
set_option linter.unusedSimpArgs false
set_option linter.unusedVariables false

structure SealedD where
  voter : Int
  ciphers : List CipherD
  proofs : List ProofD
  sum : ProofD
deriving DecidableEq
abbrev rSealed : RowK SealedD := rMap (rI (rS (kR 75 rCipher) (rS (kR 26 rProof) rProof))) (fun d => (d.voter, (d.ciphers, (d.proofs, d.sum))))
theorem SealedD.ext_iff' {a b : SealedD} : a = b ↔ a.voter = b.voter ∧ a.ciphers = b.ciphers ∧ a.proofs = b.proofs ∧ a.sum = b.sum := by
  cases a; cases b; simp
/-- what it counts for in the laws' bound; the marks that it holds -/
def szSealed (d : SealedD) : Nat := szCipherS d.ciphers + szProofS d.proofs + szProof d.sum
def cnSealed (d : SealedD) : Nat := cnCipherS d.ciphers + cnProofS d.proofs + cnProof d.sum
theorem cnSealed_le (d : SealedD) : cnSealed d ≤ 4 * szSealed d := by
  unfold cnSealed szSealed; have := cnCipherS_le d.ciphers; have := cnProofS_le d.proofs; have := cnProof_le d.sum; omega
theorem rdSealed {w : World} {v : Value} {d : SealedD} : (kS rSealed).rd w v d ↔ ∃ a1 n1 c1 a2 n2 c2 a3 n3 c3 a4 n4 c4 a5 n5 c5, v = .agg #[.int .i64 d.voter, .slice a1 n1 c1, .slice a2 n2 c2, .slice a3 n3 c3, .slice a4 n4 c4, .slice a5 n5 c5] ∧ I64 d.voter ∧ (kR 75 rCipher).rd w (.slice a1 n1 c1) d.ciphers ∧ (kR 26 rProof).rd w (.slice a2 n2 c2) d.proofs ∧ sInts.rd w (.slice a3 n3 c3) d.sum.c ∧ sInts.rd w (.slice a4 n4 c4) d.sum.h ∧ sInts.rd w (.slice a5 n5 c5) d.sum.r := by
  constructor
  · rintro ⟨_, rfl, ⟨_, rfl, i1, ⟨v2, _, rfl, h3, ⟨v4, _, rfl, h5, ⟨v6, _, rfl, h7, ⟨v8, _, rfl, h9, ⟨v10, _, rfl, h11, rfl⟩⟩⟩⟩⟩⟩⟩
    obtain ⟨_, _, _, rfl⟩ := (kR 75 rCipher).sl h3
    obtain ⟨_, _, _, rfl⟩ := (kR 26 rProof).sl h5
    obtain ⟨_, _, _, rfl⟩ := sInts.sl h7
    obtain ⟨_, _, _, rfl⟩ := sInts.sl h9
    obtain ⟨_, _, _, rfl⟩ := sInts.sl h11
    exact ⟨_, _, _, _, _, _, _, _, _, _, _, _, _, _, _, rfl, i1, h3, h5, h7, h9, h11⟩
  · rintro ⟨a1, n1, c1, a2, n2, c2, a3, n3, c3, a4, n4, c4, a5, n5, c5, rfl, g0, g1, g2, g3, g4, g5⟩
    exact ⟨_, rfl, ⟨_, rfl, g0, ⟨_, _, rfl, g1, ⟨_, _, rfl, g2, ⟨_, _, rfl, g3, ⟨_, _, rfl, g4, ⟨_, _, rfl, g5, rfl⟩⟩⟩⟩⟩⟩⟩
set_option maxHeartbeats 2000000 in
theorem laws_eqSealed (v1 v2 : Value) (d1 d2 : SealedD) (w : World) (h1 : (kS rSealed).rd w v1 d1) (h2 : (kS rSealed).rd w v2 d2) :
    Calls Try.prog 8 #[v1, v2] w fun e w' => e = .returned (.bool (decide (d1 = d2))) ∧ Below w.heap.size w w' := by
  obtain ⟨a1x, n1x, c1x, a2x, n2x, c2x, a3x, n3x, c3x, a4x, n4x, c4x, a5x, n5x, c5x, rfl, j0x, k1x, k2x, k3x, k4x, k5x⟩ := rdSealed.1 h1
  have Fciphersx := Lib.hid k1x
  have Fproofsx := Lib.hid k2x
  have Fsumx : Hid ((kS rProof).rd w (.agg #[.slice a3x n3x c3x, .slice a4x n4x c4x, .slice a5x n5x c5x]) d1.sum) := rdProof.2 ⟨_, _, _, _, _, _, _, _, _, rfl, k3x, k4x, k5x⟩
  clear k1x k2x k3x k4x k5x
  clear j0x
  obtain ⟨a1y, n1y, c1y, a2y, n2y, c2y, a3y, n3y, c3y, a4y, n4y, c4y, a5y, n5y, c5y, rfl, j0y, k1y, k2y, k3y, k4y, k5y⟩ := rdSealed.1 h2
  have Fciphersy := Lib.hid k1y
  have Fproofsy := Lib.hid k2y
  have Fsumy : Hid ((kS rProof).rd w (.agg #[.slice a3y n3y c3y, .slice a4y n4y c4y, .slice a5y n5y c5y]) d2.sum) := rdProof.2 ⟨_, _, _, _, _, _, _, _, _, rfl, k3y, k4y, k5y⟩
  clear k1y k2y k3y k4y k5y
  clear j0y
  clear h1 h2
  obtain ⟨W, hW⟩ : ∃ W, W = (w.alloc (.cells #[.int .i64 d1.voter, .slice a1x n1x c1x, .slice a2x n2x c2x, .slice a3x n3x c3x, .slice a4x n4x c4x, .slice a5x n5x c5x] 28)).alloc (.cells #[.int .i64 d2.voter, .slice a1y n1y c1y, .slice a2y n2y c2y, .slice a3y n3y c3y, .slice a4y n4y c4y, .slice a5y n5y c5y] 28) := ⟨_, rfl⟩
  have hs1 : (w.alloc (.cells #[.int .i64 d1.voter, .slice a1x n1x c1x, .slice a2x n2x c2x, .slice a3x n3x c3x, .slice a4x n4x c4x, .slice a5x n5x c5x] 28)).heap.size = w.heap.size + 1 := by simp
  have HB0 : Hid (Below w.heap.size w W) := by unfold Hid; rw [hW]; (repeat (first | exact Below.refl _ _ | assumption | refine Below.drew ?_ | refine Below.alloc ?_ (by first | (simp; done) | (simp; omega)) _ | refine Below.setCell ?_ (by first | (simp; done) | (simp; omega)) _))
  have BX : Hid (BoxN W w.heap.size 28 [.int .i64 d1.voter, .slice a1x n1x c1x, .slice a2x n2x c2x, .slice a3x n3x c3x, .slice a4x n4x c4x, .slice a5x n5x c5x]) := by unfold Hid; rw [hW]; exact (BoxN.new w [.int .i64 d1.voter, .slice a1x n1x c1x, .slice a2x n2x c2x, .slice a3x n3x c3x, .slice a4x n4x c4x, .slice a5x n5x c5x] _).alloc _
  have BY : Hid (BoxN W (w.heap.size + 1) 28 [.int .i64 d2.voter, .slice a1y n1y c1y, .slice a2y n2y c2y, .slice a3y n3y c3y, .slice a4y n4y c4y, .slice a5y n5y c5y]) := by unfold Hid; rw [hW, ← hs1]; exact BoxN.new _ [.int .i64 d2.voter, .slice a1y n1y c1y, .slice a2y n2y c2y, .slice a3y n3y c3y, .slice a4y n4y c4y, .slice a5y n5y c5y] _
  obtain ⟨q_voter, hq_voter⟩ : ∃ q, decide (d1.voter = d2.voter) = q := ⟨_, rfl⟩
  obtain ⟨q_ciphers, hq_ciphers⟩ : ∃ q, decide (d1.ciphers = d2.ciphers) = q := ⟨_, rfl⟩
  obtain ⟨q_proofs, hq_proofs⟩ : ∃ q, decide (d1.proofs = d2.proofs) = q := ⟨_, rfl⟩
  obtain ⟨q_sum, hq_sum⟩ : ∃ q, decide (d1.sum = d2.sum) = q := ⟨_, rfl⟩
  have HR : Hid (decide (d1 = d2) = (q_voter && (q_ciphers && (q_proofs && (q_sum))))) := by
    unfold Hid; rw [← hq_voter, ← hq_ciphers, ← hq_proofs, ← hq_sum, Bool.eq_iff_iff]; simp only [Bool.and_eq_true, decide_eq_true_eq]; exact SealedD.ext_iff'
  have Q_voter := Lib.hid hq_voter; clear hq_voter
  have Q_ciphers := Lib.hid hq_ciphers; clear hq_ciphers
  have Q_proofs := Lib.hid hq_proofs; clear hq_proofs
  have Q_sum := Lib.hid hq_sum; clear hq_sum
  clear hs1
  have HA0 : Hid (Below W.heap.size W W) := Below.refl _ _
  cases q_voter with
  | false =>
    have hb_voter : (d1.voter != d2.voter) = true := by rw [bne_iff_ne]; exact of_decide_eq_false Q_voter.out
    go_enter Try.func8, Try.ntmps8
    go_wp2_with fail
    (try (go_quiet (fail); go_wp2_with fail))
    go_ret
    exact ⟨ret_bool (by rw [HR.out]; (try rfl)), by (repeat (first | exact Below.refl _ _ | assumption | refine Below.drew ?_ | refine Below.alloc ?_ (by first | (simp; done) | (simp; omega)) _ | refine Below.setCell ?_ (by first | (simp; done) | (simp; omega)) _))⟩
  | true =>
  have hb_voter : (d1.voter != d2.voter) = false := by rw [bne_eq_false_iff_eq]; exact of_decide_eq_true Q_voter.out
  go_enter Try.func8, Try.ntmps8
  go_wp2_with fail
  rw [← hW]
  clear hW
  refine (laws_eqCipherS _ _ d1.ciphers d2.ciphers _ ((kR 75 rCipher).rd_below Fciphersx.out HB0.out) ((kR 75 rCipher).rd_below Fciphersy.out HB0.out)).mono ?_
  rintro e w1 ⟨rfl, hb⟩
  rw [Q_ciphers.out]
  have HB1 := Lib.hid (HB0.out.trans (hb.mono HB0.out.size))
  have HA1 := Lib.hid (HA0.out.trans (hb.mono HA0.out.size)); clear hb
  cases q_ciphers with
  | false =>
    go_wp2_with fail
    go_ret
    exact ⟨ret_bool (by rw [HR.out]; (try rfl)), HB1.out⟩
  | true =>
  have px2 := BX.out.below HA1.out |>.cell (i := 2) rfl
  have py2 := BY.out.below HA1.out |>.cell (i := 2) rfl
  go_wp2_with fail
  clear px2 py2
  refine (laws_eqProofS _ _ d1.proofs d2.proofs _ ((kR 26 rProof).rd_below Fproofsx.out HB1.out) ((kR 26 rProof).rd_below Fproofsy.out HB1.out)).mono ?_
  rintro e w2 ⟨rfl, hb⟩
  rw [Q_proofs.out]
  have HB2 := Lib.hid (HB1.out.trans (hb.mono HB1.out.size))
  have HA2 := Lib.hid (HA1.out.trans (hb.mono HA1.out.size)); clear hb
  cases q_proofs with
  | false =>
    go_wp2_with fail
    go_ret
    exact ⟨ret_bool (by rw [HR.out]; (try rfl)), HB2.out⟩
  | true =>
  have px3 := BX.out.below HA2.out |>.cell (i := 3) rfl
  have px4 := BX.out.below HA2.out |>.cell (i := 4) rfl
  have px5 := BX.out.below HA2.out |>.cell (i := 5) rfl
  have py3 := BY.out.below HA2.out |>.cell (i := 3) rfl
  have py4 := BY.out.below HA2.out |>.cell (i := 4) rfl
  have py5 := BY.out.below HA2.out |>.cell (i := 5) rfl
  go_wp2_with fail
  clear px3 px4 px5 py3 py4 py5
  refine (laws_eqProof _ _ d1.sum d2.sum _ ((kS rProof).rd_below Fsumx.out HB2.out) ((kS rProof).rd_below Fsumy.out HB2.out)).mono ?_
  rintro e w3 ⟨rfl, hb⟩
  rw [Q_sum.out]
  have HB3 := Lib.hid (HB2.out.trans (hb.mono HB2.out.size))
  have HA3 := Lib.hid (HA2.out.trans (hb.mono HA2.out.size)); clear hb
  cases q_sum with
  | false =>
    go_wp2_with fail
    go_ret
    exact ⟨ret_bool (by rw [HR.out]; (try rfl)), HB3.out⟩
  | true =>
  go_wp2_with fail
  go_ret
  exact ⟨ret_bool (by rw [HR.out]; (try rfl)), HB3.out⟩
/-- the struct with marks in its slices, from k0 on -/
def mkSealed (k0 : Nat) (d : SealedD) : SealedD := ⟨d.voter, mkCipherS (k0) d.ciphers, mkProofS (k0 + cnCipherS d.ciphers) d.proofs, mkProof (k0 + cnCipherS d.ciphers + cnProofS d.proofs) d.sum⟩
set_option maxHeartbeats 2000000 in
theorem laws_markSealed (lo hi : Nat) (v : Value) (k0 : Nat) (d : SealedD) (w : World) (h : (kS rSealed).own w lo hi v d) (hk : k0 + cnSealed d ≤ 9223372036854775806) (hhi : hi ≤ w.heap.size) :
    Calls Try.prog 11 #[v, .int .i64 k0] w fun e w' => e = .returned (.int .i64 (k0 + cnSealed d : Nat)) ∧ (kS rSealed).own w' lo hi v (mkSealed k0 d) ∧ Within lo hi w w' := by
  have HK : Hid (k0 + cnSealed d = k0 + cnCipherS d.ciphers + cnProofS d.proofs + cnProof d.sum) := by unfold Hid cnSealed; omega
  unfold cnSealed at hk
  obtain ⟨_, rfl, ⟨_, rfl, i_voter, ⟨_, _, l_ciphers, h_ciphers, m_ciphers, t_ciphers, rfl, o_ciphers, ⟨_, _, l_proofs, h_proofs, m_proofs, t_proofs, rfl, o_proofs, o_sum, q_proofs, r_proofs, s_proofs⟩, q_ciphers, r_ciphers, s_ciphers⟩⟩⟩ := h
  obtain ⟨ea_ciphers, en_ciphers, ec_ciphers, rfl⟩ := (kR 75 rCipher).sl ((kR 75 rCipher).own_rd o_ciphers)
  obtain ⟨ea_proofs, en_proofs, ec_proofs, rfl⟩ := (kR 26 rProof).sl ((kR 26 rProof).own_rd o_proofs)
  obtain ⟨v18, _, rfl, h19, ⟨v20, _, rfl, h21, ⟨v22, _, rfl, h23, rfl⟩⟩⟩ := rProof.own_rd o_sum
  obtain ⟨ea_sum0, en_sum0, ec_sum0, rfl⟩ := sInts.sl h19
  clear h19
  obtain ⟨ea_sum1, en_sum1, ec_sum1, rfl⟩ := sInts.sl h21
  clear h21
  obtain ⟨ea_sum2, en_sum2, ec_sum2, rfl⟩ := sInts.sl h23
  clear h23
  obtain ⟨W, hW⟩ : ∃ W, W = w.alloc (.cells #[.int .i64 d.voter, .slice ea_ciphers en_ciphers ec_ciphers, .slice ea_proofs en_proofs ec_proofs, .slice ea_sum0 en_sum0 ec_sum0, .slice ea_sum1 en_sum1 ec_sum1, .slice ea_sum2 en_sum2 ec_sum2] 28) := ⟨_, rfl⟩
  have hb : Below w.heap.size w W := by rw [hW]; exact (Below.refl _ _).alloc (Nat.le_refl _) _
  have hs0 : W.heap.size = w.heap.size + 1 := by rw [hW]; simp
  have BX0 : Hid (BoxN W w.heap.size 28 [.int .i64 d.voter, .slice ea_ciphers en_ciphers ec_ciphers, .slice ea_proofs en_proofs ec_proofs, .slice ea_sum0 en_sum0 ec_sum0, .slice ea_sum1 en_sum1 ec_sum1, .slice ea_sum2 en_sum2 ec_sum2]) := by unfold Hid; rw [hW]; exact BoxN.new w [.int .i64 d.voter, .slice ea_ciphers en_ciphers ec_ciphers, .slice ea_proofs en_proofs ec_proofs, .slice ea_sum0 en_sum0 ec_sum0, .slice ea_sum1 en_sum1 ec_sum1, .slice ea_sum2 en_sum2 ec_sum2] _
  have O_ciphers := Lib.hid (Kind.next (K := (kR 75 rCipher).toKind) o_ciphers hb)
  clear o_ciphers
  have O_proofs := Lib.hid (Kind.next (K := (kR 26 rProof).toKind) o_proofs hb)
  clear o_proofs
  have O_sum := Lib.hid (RowK.next o_sum hb)
  clear o_sum
  have G0 : Hid (Within lo hi w W) := Within.of_below hb
  clear hb
  go_enter Try.func11, Try.ntmps11
  go_wp2_with fail
  rw [← hW]
  clear hW
  refine (laws_markCipherS l_ciphers h_ciphers _ (k0) d.ciphers W O_ciphers.out (by omega) (by omega)).mono ?_
  rintro e w1 ⟨rfl, X, g⟩
  replace O_ciphers := Lib.hid X; clear X
  have us1 := g.size
  have BX1 := Lib.hid (BX0.out.kept g (.inr (by omega)))
  replace O_proofs := Lib.hid (Kind.kept (K := (kR 26 rProof).toKind) O_proofs.out g (by omega))
  replace O_sum := Lib.hid (RowK.kept O_sum.out g (by omega))
  have G1 := Lib.hid (G0.out.trans (g.mono (by omega) (by omega))); clear g
  have p2 := BX1.out.cell (i := 2) rfl
  go_wp2_with fail
  clear p2
  refine (laws_markProofS l_proofs h_proofs _ (k0 + cnCipherS d.ciphers) d.proofs w1 O_proofs.out (by omega) (by omega)).mono ?_
  rintro e w2 ⟨rfl, X, g⟩
  replace O_proofs := Lib.hid X; clear X
  have us2 := g.size
  have BX2 := Lib.hid (BX1.out.kept g (.inr (by omega)))
  replace O_ciphers := Lib.hid (Kind.kept (K := (kR 75 rCipher).toKind) O_ciphers.out g (by omega))
  replace O_sum := Lib.hid (RowK.kept O_sum.out g (by omega))
  have G2 := Lib.hid (G1.out.trans (g.mono (by omega) (by omega))); clear g
  have p3 := BX2.out.cell (i := 3) rfl
  have p4 := BX2.out.cell (i := 4) rfl
  have p5 := BX2.out.cell (i := 5) rfl
  go_wp2_with fail
  clear p3 p4 p5
  refine (laws_markProof m_proofs t_proofs _ (k0 + cnCipherS d.ciphers + cnProofS d.proofs) d.sum w2 ⟨_, rfl, O_sum.out⟩ (by omega) (by omega)).mono ?_
  rintro e w3 ⟨rfl, X, g⟩
  obtain ⟨_, hX, X⟩ := X
  have hX2 := congrArg (fun v => match v with | Value.agg a => a.toList | _ => []) hX
  simp only at hX2
  subst hX2
  clear hX
  replace O_sum := Lib.hid X; clear X
  have us3 := g.size
  have BX3 := Lib.hid (BX2.out.kept g (.inr (by omega)))
  replace O_ciphers := Lib.hid (Kind.kept (K := (kR 75 rCipher).toKind) O_ciphers.out g (by omega))
  replace O_proofs := Lib.hid (Kind.kept (K := (kR 26 rProof).toKind) O_proofs.out g (by omega))
  have G3 := Lib.hid (G2.out.trans (g.mono (by omega) (by omega))); clear g
  go_wp2_with fail
  go_ret
  refine ⟨ret_int (by rw [HK.out]; (try omega)), ⟨_, rfl, ⟨_, rfl, i_voter, ⟨_, _, l_ciphers, h_ciphers, m_ciphers, t_ciphers, rfl, O_ciphers.out, ⟨_, _, l_proofs, h_proofs, m_proofs, t_proofs, rfl, O_proofs.out, O_sum.out, q_proofs, r_proofs, s_proofs⟩, q_ciphers, r_ciphers, s_ciphers⟩⟩⟩, G3.out⟩
set_option maxHeartbeats 2000000 in
theorem laws_heldSealed (v : Value) (k0 : Nat) (d : SealedD) (w : World) (h : (kS rSealed).rd w v (mkSealed k0 d)) (hk : k0 + cnSealed d ≤ 9223372036854775806) :
    Calls Try.prog 12 #[v, .int .i64 k0] w fun e w' => e = .returned (.int .i64 (k0 + cnSealed d : Nat)) ∧ Below w.heap.size w w' := by
  have HK : Hid (k0 + cnSealed d = k0 + cnCipherS d.ciphers + cnProofS d.proofs + cnProof d.sum) := by unfold Hid cnSealed; omega
  unfold cnSealed at hk
  obtain ⟨D, hD⟩ : ∃ D, mkSealed k0 d = D := ⟨_, rfl⟩
  have D_ciphers : Hid (D.ciphers = mkCipherS (k0) d.ciphers) := by unfold Hid; rw [← hD]; rfl
  have D_proofs : Hid (D.proofs = mkProofS (k0 + cnCipherS d.ciphers) d.proofs) := by unfold Hid; rw [← hD]; rfl
  have D_sum : Hid (D.sum = mkProof (k0 + cnCipherS d.ciphers + cnProofS d.proofs) d.sum) := by unfold Hid; rw [← hD]; rfl
  rw [hD] at h; clear hD
  obtain ⟨a1, n1, c1, a2, n2, c2, a3, n3, c3, a4, n4, c4, a5, n5, c5, rfl, j0, k1, k2, k3, k4, k5⟩ := rdSealed.1 h
  have Fciphers := Lib.hid k1
  have Fproofs := Lib.hid k2
  have Fsum : Hid ((kS rProof).rd w (.agg #[.slice a3 n3 c3, .slice a4 n4 c4, .slice a5 n5 c5]) D.sum) := rdProof.2 ⟨_, _, _, _, _, _, _, _, _, rfl, k3, k4, k5⟩
  clear k1 k2 k3 k4 k5
  clear j0
  clear h
  obtain ⟨W, hW⟩ : ∃ W, W = w.alloc (.cells #[.int .i64 D.voter, .slice a1 n1 c1, .slice a2 n2 c2, .slice a3 n3 c3, .slice a4 n4 c4, .slice a5 n5 c5] 28) := ⟨_, rfl⟩
  have HB0 : Hid (Below w.heap.size w W) := by unfold Hid; rw [hW]; exact (Below.refl _ _).alloc (Nat.le_refl _) _
  have BX : Hid (BoxN W w.heap.size 28 [.int .i64 D.voter, .slice a1 n1 c1, .slice a2 n2 c2, .slice a3 n3 c3, .slice a4 n4 c4, .slice a5 n5 c5]) := by unfold Hid; rw [hW]; exact BoxN.new w [.int .i64 D.voter, .slice a1 n1 c1, .slice a2 n2 c2, .slice a3 n3 c3, .slice a4 n4 c4, .slice a5 n5 c5] _
  have HA0 : Hid (Below W.heap.size W W) := Below.refl _ _
  go_enter Try.func12, Try.ntmps12
  go_wp2_with fail
  rw [← hW]
  clear hW
  refine (laws_heldCipherS _ (k0) d.ciphers _ ((kR 75 rCipher).rd_below (by rw [← D_ciphers.out]; exact Fciphers.out) HB0.out) (by omega)).mono ?_
  rintro e w1 ⟨rfl, hb⟩
  have HB1 := Lib.hid (HB0.out.trans (hb.mono HB0.out.size))
  have HA1 := Lib.hid (HA0.out.trans (hb.mono HA0.out.size)); clear hb
  have hnn0 : ¬ (((k0 + cnCipherS d.ciphers : Nat) : Int) < 0) := by omega
  have p2 := BX.out.below HA1.out |>.cell (i := 2) rfl
  go_wp2_with fail
  clear p2
  refine (laws_heldProofS _ (k0 + cnCipherS d.ciphers) d.proofs _ ((kR 26 rProof).rd_below (by rw [← D_proofs.out]; exact Fproofs.out) HB1.out) (by omega)).mono ?_
  rintro e w2 ⟨rfl, hb⟩
  have HB2 := Lib.hid (HB1.out.trans (hb.mono HB1.out.size))
  have HA2 := Lib.hid (HA1.out.trans (hb.mono HA1.out.size)); clear hb
  have hnn1 : ¬ (((k0 + cnCipherS d.ciphers + cnProofS d.proofs : Nat) : Int) < 0) := by omega
  have p3 := BX.out.below HA2.out |>.cell (i := 3) rfl
  have p4 := BX.out.below HA2.out |>.cell (i := 4) rfl
  have p5 := BX.out.below HA2.out |>.cell (i := 5) rfl
  go_wp2_with fail
  clear p3 p4 p5
  refine (laws_heldProof _ (k0 + cnCipherS d.ciphers + cnProofS d.proofs) d.sum _ ((kS rProof).rd_below (by rw [← D_sum.out]; exact Fsum.out) HB2.out) (by omega)).mono ?_
  rintro e w3 ⟨rfl, hb⟩
  have HB3 := Lib.hid (HB2.out.trans (hb.mono HB2.out.size))
  have HA3 := Lib.hid (HA2.out.trans (hb.mono HA2.out.size)); clear hb
  have hnn2 : ¬ (((k0 + cnCipherS d.ciphers + cnProofS d.proofs + cnProof d.sum : Nat) : Int) < 0) := by omega
  go_wp2_with fail
  go_ret
  exact ⟨ret_int (by rw [HK.out]; (try omega)), HB3.out⟩
end Go.Proofs.Ytbcaknmpbkapnaa
