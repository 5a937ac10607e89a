/- Slices of Proof as a kind (printed by genkinds.py): the walks of the laws' helpers. -/
import Derived.Test.YtcpigedjblkcfaaBk
import Derived.Test.YtcpigedjblkcfaaBa
namespace Go.Proofs.Ytcpigedjblkcfaa
open Go.RowKit
set_option linter.unusedSimpArgs false
set_option linter.unusedVariables false

def szProofS (ds : List ProofD) : Nat := ds.length + (ds.map szProof).sum
/-- the marks of an element in a row -/
def fcProof (d : ProofD) : Nat := 0 + cnProof d
def cnProofS (ds : List ProofD) : Nat := (ds.map fcProof).sum
theorem cnProofS_le (ds : List ProofD) : cnProofS ds ≤ 4 * szProofS ds := by
  unfold cnProofS szProofS
  induction ds with
  | nil => simp
  | cons d ds ih =>
    have := cnProof_le d
    simp only [List.map_cons, List.sum_cons, List.length_cons, fcProof] at *
    omega
theorem sumProofS_succ {f : ProofD → Nat} {ds : List ProofD} {k : Nat} (h : k < ds.length) : ((ds.take (k + 1)).map f).sum = ((ds.take k).map f).sum + f ds[k] := by
  rw [List.take_succ_eq_append_getElem h, List.map_append, List.sum_append]; simp
theorem sumProofS_le {f : ProofD → Nat} {ds : List ProofD} {k : Nat} : ((ds.take k).map f).sum ≤ (ds.map f).sum := by
  conv => rhs; rw [← List.take_append_drop k ds]
  rw [List.map_append, List.sum_append]; omega
/-- an element in a row, with marks from k0 on; a slice of them -/
def fmProof (k0 : Nat) (d : ProofD) : ProofD := ⟨mkI (k0) d.c, mkI (k0 + d.c.length) d.h, mkI (k0 + d.c.length + d.h.length) d.r⟩
def mkProofS : Nat → List ProofD → List ProofD
  | _, [] => []
  | k0, d :: ds => fmProof k0 d :: mkProofS (k0 + fcProof d) ds
theorem mkProofS_length : ∀ {k0 : Nat} {ds : List ProofD}, (mkProofS k0 ds).length = ds.length
  | _, [] => rfl
  | k0, d :: ds => by rw [mkProofS, List.length_cons, List.length_cons, mkProofS_length]
theorem mkProofS_at : ∀ {k0 i : Nat} {ds : List ProofD} (h : i < ds.length) (h' : i < (mkProofS k0 ds).length), (mkProofS k0 ds)[i] = fmProof (k0 + ((ds.take i).map fcProof).sum) ds[i]
  | _, _, [], h, _ => by simp at h
  | k0, 0, d :: ds, _, _ => by simp [mkProofS]
  | k0, i + 1, d :: ds, h, h' => by
    have := mkProofS_at (k0 := k0 + fcProof d) (i := i) (ds := ds) (by simpa using h) (by rw [mkProofS_length]; simpa using h)
    simp only [mkProofS, List.getElem_cons_succ, List.take_succ_cons, List.map_cons, List.sum_cons]
    rw [this, Nat.add_assoc]
theorem fcProof_end (k0 : Nat) (d : ProofD) : k0 + fcProof d = k0 + d.c.length + d.h.length + d.r.length := by
  unfold fcProof; unfold cnProof; omega
end Go.Proofs.Ytcpigedjblkcfaa
