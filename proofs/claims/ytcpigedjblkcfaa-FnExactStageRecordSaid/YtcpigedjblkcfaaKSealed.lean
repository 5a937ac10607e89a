/- The struct Sealed as a kind (printed by genkind.py): its data, its row, the walks of the laws' helpers. -/
import Derived.Test.YtcpigedjblkcfaaBa
import Derived.Test.YtcpigedjblkcfaaKCipherS
import Derived.Test.YtcpigedjblkcfaaKProofS
import Derived.Test.YtcpigedjblkcfaaBk
namespace Go.Proofs.Ytcpigedjblkcfaa
open Go.RowKit
set_option linter.unusedSimpArgs false
set_option linter.unusedVariables false

structure SealedD where
  voter : Int
  ciphers : List CipherD
  proofs : List ProofD
  sum : ProofD
deriving DecidableEq
abbrev rSealed : RowK SealedD := rMap (rI (rS (kR 105 rCipher) (rS (kR 57 rProof) rProof))) (fun d => (d.voter, (d.ciphers, (d.proofs, d.sum))))
theorem SealedD.ext_iff' {a b : SealedD} : a = b ↔ a.voter = b.voter ∧ a.ciphers = b.ciphers ∧ a.proofs = b.proofs ∧ a.sum = b.sum := by
  cases a; cases b; simp
/-- what it counts for in the laws' bound; the marks that it holds -/
def szSealed (d : SealedD) : Nat := szCipherS d.ciphers + szProofS d.proofs + szProof d.sum
def cnSealed (d : SealedD) : Nat := cnCipherS d.ciphers + cnProofS d.proofs + cnProof d.sum
theorem cnSealed_le (d : SealedD) : cnSealed d ≤ 4 * szSealed d := by
  unfold cnSealed szSealed; have := cnCipherS_le d.ciphers; have := cnProofS_le d.proofs; have := cnProof_le d.sum; omega
theorem rdSealed {w : World} {v : Value} {d : SealedD} : (kS rSealed).rd w v d ↔ ∃ a1 n1 c1 a2 n2 c2 a3 n3 c3 a4 n4 c4 a5 n5 c5, v = .agg #[.int .i64 d.voter, .slice a1 n1 c1, .slice a2 n2 c2, .slice a3 n3 c3, .slice a4 n4 c4, .slice a5 n5 c5] ∧ I64 d.voter ∧ (kR 105 rCipher).rd w (.slice a1 n1 c1) d.ciphers ∧ (kR 57 rProof).rd w (.slice a2 n2 c2) d.proofs ∧ sInts.rd w (.slice a3 n3 c3) d.sum.c ∧ sInts.rd w (.slice a4 n4 c4) d.sum.h ∧ sInts.rd w (.slice a5 n5 c5) d.sum.r := by
  constructor
  · rintro ⟨_, rfl, ⟨_, rfl, i1, ⟨v2, _, rfl, h3, ⟨v4, _, rfl, h5, ⟨v6, _, rfl, h7, ⟨v8, _, rfl, h9, ⟨v10, _, rfl, h11, rfl⟩⟩⟩⟩⟩⟩⟩
    obtain ⟨_, _, _, rfl⟩ := (kR 105 rCipher).sl h3
    obtain ⟨_, _, _, rfl⟩ := (kR 57 rProof).sl h5
    obtain ⟨_, _, _, rfl⟩ := sInts.sl h7
    obtain ⟨_, _, _, rfl⟩ := sInts.sl h9
    obtain ⟨_, _, _, rfl⟩ := sInts.sl h11
    exact ⟨_, _, _, _, _, _, _, _, _, _, _, _, _, _, _, rfl, i1, h3, h5, h7, h9, h11⟩
  · rintro ⟨a1, n1, c1, a2, n2, c2, a3, n3, c3, a4, n4, c4, a5, n5, c5, rfl, g0, g1, g2, g3, g4, g5⟩
    exact ⟨_, rfl, ⟨_, rfl, g0, ⟨_, _, rfl, g1, ⟨_, _, rfl, g2, ⟨_, _, rfl, g3, ⟨_, _, rfl, g4, ⟨_, _, rfl, g5, rfl⟩⟩⟩⟩⟩⟩⟩
/-- the struct with marks in its slices, from k0 on -/
def mkSealed (k0 : Nat) (d : SealedD) : SealedD := ⟨d.voter, mkCipherS (k0) d.ciphers, mkProofS (k0 + cnCipherS d.ciphers) d.proofs, mkProof (k0 + cnCipherS d.ciphers + cnProofS d.proofs) d.sum⟩
end Go.Proofs.Ytcpigedjblkcfaa
