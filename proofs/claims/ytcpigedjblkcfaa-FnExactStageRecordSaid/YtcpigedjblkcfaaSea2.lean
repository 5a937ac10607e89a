/- Walks: sealed ballots as records. -/
import Derived.Test.YtcpigedjblkcfaaSea1
import Derived.Test.YtcpigedjblkcfaaFr
import Derived.Test.YtcpigedjblkcfaaKSealed
import Derived.Test.YtcpigedjblkcfaaBm
namespace Go.Proofs.Ytcpigedjblkcfaa
open Go.RowKit
set_option linter.unusedSimpArgs false
set_option linter.unusedVariables false

def seaParts (d : SealedD) : List (List Int) := [d.voter] :: cipL d.ciphers :: (d.proofs ++ [d.sum]).map epL
def voterB (n : Int) : Bool := decide (0 ≤ n ∧ n ≤ 999999)
def seaB (d : SealedD) : Bool := voterB d.voter && recB (joinL (seaParts d))
def seaR (d : SealedD) : List Int := if seaB d = true then joinL (seaParts d) else []
/-- the lists of the first k proofs -/
def seaTo (v : Int) (cs : List CipherD) (ps : List ProofD) (k : Nat) : List (List Int) := [v] :: cipL cs :: (ps.take k).map epL
theorem seaTo_succ {v : Int} {cs : List CipherD} {ps : List ProofD} {k : Nat} (h : k < ps.length) : seaTo v cs ps (k + 1) = seaTo v cs ps k ++ [epL ps[k]] := by
  unfold seaTo
  rw [List.take_succ_eq_append_getElem h, List.map_append]; simp
theorem seaTo_length {v : Int} {cs : List CipherD} {ps : List ProofD} {k : Nat} (h : k ≤ ps.length) : (seaTo v cs ps k).length = 2 + k := by
  unfold seaTo; simp; omega
theorem seaTo_all (d : SealedD) : seaTo d.voter d.ciphers (d.proofs ++ [d.sum]) (d.proofs ++ [d.sum]).length = seaParts d := by unfold seaTo seaParts; rw [List.take_of_length_le (Nat.le_refl _)]
theorem le_sum_mem {x : Nat} : ∀ {l : List Nat}, x ∈ l → x ≤ l.sum := by
  intro l
  induction l with
  | nil => intro h; cases h
  | cons y l ih =>
    intro h
    rw [List.sum_cons]
    rcases List.mem_cons.1 h with rfl | h
    · omega
    · have := ih h; omega
theorem recB_parts {ls : List (List Int)} (h : recB (joinL ls) = true) : ls.length ≤ 399 ∧ ∀ l ∈ ls, recB l = true := by
  unfold recB at h
  rw [Bool.and_eq_true, decide_eq_true_iff] at h
  obtain ⟨h1, h2⟩ := h
  have hl : (joinL ls).length = 1 + total ls + ls.length := by
    rw [← joinTo_all, joinTo_length (Nat.le_refl _), List.take_of_length_le (Nat.le_refl _)]
  refine ⟨by omega, fun l hm => ?_⟩
  have hmem : ∀ x ∈ l, x ∈ joinL ls := fun x hx => by
    unfold joinL
    refine List.mem_cons_of_mem _ (List.mem_flatten.2 ⟨cnt l, List.mem_map.2 ⟨l, hm, rfl⟩, ?_⟩)
    unfold cnt; exact List.mem_cons_of_mem _ hx
  have hle : l.length ≤ total ls := by
    unfold total
    exact le_sum_mem (List.mem_map.2 ⟨l, hm, rfl⟩)
  unfold recB
  rw [Bool.and_eq_true, decide_eq_true_iff]
  exact ⟨by omega, List.all_eq_true.2 fun x hx => List.all_eq_true.1 h2 x (hmem x hx)⟩
theorem seaB_no {d : SealedD} {l : List Int} (hm : l ∈ seaParts d) (h : recB l = false) : seaB d = false := by
  unfold seaB
  cases hj : recB (joinL (seaParts d)) with
  | false => simp
  | true => rw [(recB_parts hj).2 l hm] at h; cases h
theorem seaB_many {d : SealedD} (h : 400 < d.proofs.length) : seaB d = false := by
  unfold seaB
  cases hj : recB (joinL (seaParts d)) with
  | false => simp
  | true =>
    have := (recB_parts hj).1
    simp [seaParts] at this; omega
theorem epL_length (d : ProofD) : (epL d).length = szProof d + 3 := by
  unfold epL szProof; simp [cnt]; omega
theorem sz_mem {ds : List ProofD} {d : ProofD} (h : d ∈ ds) : szProof d ≤ (ds.map szProof).sum := le_sum_mem (List.mem_map.2 ⟨d, h, rfl⟩)
theorem sum_epL (ds : List ProofD) : ((ds.map epL).map List.length).sum = (ds.map szProof).sum + 3 * ds.length := by
  induction ds with
  | nil => rfl
  | cons x ds ih => simp only [List.map_cons, List.sum_cons, List.length_cons, ih, epL_length]; omega
theorem seaTo_total {v : Int} {cs : List CipherD} {ps : List ProofD} {k : Nat} (h : k ≤ ps.length) : total (seaTo v cs ps k) ≤ 2 + 2 * cs.length + (ps.map szProof).sum + 3 * k := by
  unfold seaTo total
  simp only [List.map_cons, List.sum_cons, List.length_cons, List.length_nil, cipL_length, sum_epL, List.length_take]
  have : ((ps.take k).map szProof).sum ≤ (ps.map szProof).sum := by
    conv => rhs; rw [← List.take_append_drop k ps]
    rw [List.map_append, List.sum_append]; omega
  have h2 : min k ps.length = k := by omega
  rw [h2]; omega
theorem OwnL.two {w : World} {a1 b1 a2 b2 lo : Nat} {v1 v2 : Value} {d1 d2 : List Int} (h1 : kInts.own w a1 b1 v1 d1) (h2 : kInts.own w a2 b2 v2 d2) (hd : b1 ≤ a2 ∨ b2 ≤ a1) (q1 : lo ≤ a1) (q2 : lo ≤ a2) (r1 : b1 ≤ w.heap.size) (r2 : b2 ≤ w.heap.size) (hlo : lo ≤ w.heap.size) :
    OwnL 38 kInts (w.alloc (.cells #[v1, v2] 38)) lo (w.alloc (.cells #[v1, v2] 38)).heap.size (.slice (some ⟨w.heap.size, 0, none⟩) 2 2) [d1, d2] := by
  have hO := World.ownsRow_lit (e := 38) (size := 1) w #[v1, v2] 2 hlo (by unfold maxLen; omega) (by simp)
  have hb : Below w.heap.size w (w.alloc (.cells #[v1, v2] 38)) := (Below.refl _ _).alloc (Nat.le_refl _) _
  have hs : (w.alloc (.cells #[v1, v2] 38)).heap.size = w.heap.size + 1 := by simp
  refine ⟨[v1, v2], fun i => if i = 0 then a1 else a2, fun i => if i = 0 then b1 else b2, rfl, by simpa using hO, fun g hg => ?_, fun i k1 k2 => ?_, fun i j hi hj hij => ?_⟩
  · cases hg
    refine ⟨by simp, fun i hi => .inr ?_⟩
    by_cases h0 : i = 0
    · simpa [h0] using r1
    · simpa [h0] using r2
  · have hi : i = 0 ∨ i = 1 := by simp at k1; omega
    rcases hi with rfl | rfl
    · exact ⟨Kind.next (K := kInts) h1 hb, q1, by simp; omega⟩
    · exact ⟨Kind.next (K := kInts) h2 hb, q2, by simp; omega⟩
  · simp only [List.length_cons, List.length_nil] at hi hj
    have h' : (i = 0 ∧ j = 1) ∨ (i = 1 ∧ j = 0) := by omega
    rcases h' with ⟨rfl, rfl⟩ | ⟨rfl, rfl⟩
    · simpa using hd
    · simpa using hd.symm
end Go.Proofs.Ytcpigedjblkcfaa
