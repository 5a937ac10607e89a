/- Bundle of walks and laws: MerkleP, Merkle, Merkle2, Merkle3, Merkle4, Sets, ReachP, Reach, Reach2, Entry. -/
import Derived.Test.YtboahnklilmdpaaBaU
import Derived.Lib.BitFns
import Derived.Test.YtboahnklilmdpaaChecked
import Derived.Lib.Strings
import Derived.Lib.Slices
import Derived.Lib.Small
import Derived.Lib.Walk
import Derived.Deep.QuietTactic
import Derived.BigQuiet
/- Merkle trees as functions on lists: plain Lean. -/



namespace Go.Proofs.Ytboahnklilmdpaa
open Go.RowKit

/-- the greatest power of 2 that is less than a number of at least 2 -/
def splitN (n : Nat) : Nat := 2 ^ (Lib.bitLen (n - 1) - 1)
def sNode : ByteArray := ⟨#[110, 111, 100, 101]⟩
def sEmpty : ByteArray := ⟨#[101, 109, 112, 116, 121]⟩
/-- the digest of a node -/
def node (a b : Int) : Int := hashOf (lab sNode ++ [a, b])
def emptyD : Int := hashOf (lab sEmpty ++ [])
/-- the root of leaves -/
def rootN : Nat → List Int → Int
  | 0, _ => 0
  | f + 1, l => if l.length = 0 then emptyD else if l.length = 1 then nth l 0 else node (rootN f (l.take (splitN l.length))) (rootN f (l.drop (splitN l.length)))
def root (l : List Int) : Int := rootN 65 l

theorem digestB_hash (l : List Int) : digestB (hashOf l) = true := by have := hashOf_bd l; simp [digestB, this.1, this.2]
/-- the number of binary digits 1 -/
def onesF : Nat → Nat → Nat
  | 0, _ => 0
  | f + 1, n => n % 2 + onesF f (n / 2)
def ones (n : Nat) : Nat := onesF 7 n
end Go.Proofs.Ytboahnklilmdpaa
/- Walks: Merkle trees. -/


namespace Go.Proofs.Ytboahnklilmdpaa
open Go.RowKit
set_option linter.unusedSimpArgs false
set_option linter.unusedVariables false

end Go.Proofs.Ytboahnklilmdpaa
/- Walks: paths of Merkle trees (printed by gen_merkle2.py). -/

namespace Go.Proofs.Ytboahnklilmdpaa
open Go.RowKit
set_option linter.unusedSimpArgs false
set_option linter.unusedVariables false

/-- append as a step of a region that draws its order -/
theorem step_append_ints {ops : Array Oper} {o : Oper} {a : Act} {w : World} {K : Act → World → Prop} {Q : Exit → Act → World → Prop} {E : Prop} (hg : o.guard = none) (s x : Operand)
    (ho : o.op = .call { callee := .builtin .append, args := #[s, x], argTypes := #[24, 24] })
    (B : Nat) (v y : Value) (l m : List Int) (hs : a.eval s = v) (hown : OwnI w B v l) (hx : a.eval x = y) (hy : Ints w y m) (hlen : l.length + m.length ≤ 1000000000000) (hB : B ≤ w.heap.size)
    (hK : ∀ v' w', OwnI w' B v' (l ++ m) → Below B w w' → K (a.put o.dst v') w') : if Region.wanted o (yielded ops a.tmps) = true then Oper.wp Try.prog o a w K Q else E := by
  rw [if_pos (by simp [Region.wanted, hg])]
  obtain ⟨v', w', hr, h1, h2⟩ := run_append_ints (t := 24) rfl hown hy hlen hB o.type
  unfold Oper.wp execOp
  simp only [ho, resolve, invoke, builtin, Sem.run_bind, Sem.run_pure, Result.andThen_ok, List.map_toArray, List.map_cons, List.map_nil, hs, hx, hr]
  exact hK v' w' h1 (hown.grown h2 hB)
end Go.Proofs.Ytboahnklilmdpaa
/- Walks: InclusionPath and ConsistencyPath (printed by gen_merkle3.py). -/

namespace Go.Proofs.Ytboahnklilmdpaa
open Go.RowKit
set_option linter.unusedSimpArgs false
set_option linter.unusedVariables false

end Go.Proofs.Ytboahnklilmdpaa
/- Walks: VerifyConsistency (printed by gen_merkle4.py). -/

namespace Go.Proofs.Ytboahnklilmdpaa
open Go.RowKit
set_option linter.unusedSimpArgs false
set_option linter.unusedVariables false

end Go.Proofs.Ytboahnklilmdpaa
/- Walks: sorted lists as sets (spec.l1Has, spec.l1Put). -/

namespace Go.Proofs.Ytboahnklilmdpaa
open Go.RowKit
set_option linter.unusedSimpArgs false
set_option linter.unusedVariables false

end Go.Proofs.Ytboahnklilmdpaa
/- The plain law of ReachOf: a set as a sorted list, and as marks. -/

namespace Go.Proofs.Ytboahnklilmdpaa
set_option linter.unusedSimpArgs false
set_option linter.unusedVariables false

end Go.Proofs.Ytboahnklilmdpaa
/- Walks: ReachOf. -/




namespace Go.Proofs.Ytboahnklilmdpaa
open Go.RowKit
set_option linter.unusedSimpArgs false
set_option linter.unusedVariables false

end Go.Proofs.Ytboahnklilmdpaa
/- Walks: pairs of readers (impl.arePairs). -/

namespace Go.Proofs.Ytboahnklilmdpaa
open Go.RowKit
set_option linter.unusedSimpArgs false
set_option linter.unusedVariables false

end Go.Proofs.Ytboahnklilmdpaa
/- Entries of a board: the digest of an entry. -/

namespace Go.Proofs.Ytboahnklilmdpaa
open Go.RowKit
set_option linter.unusedSimpArgs false
set_option linter.unusedVariables false

/-- an entry without its signature -/
def entB (k a : Int) (l : List Int) : Bool := decide (1 ≤ k ∧ k ≤ 9) && (decide (0 ≤ a ∧ a ≤ 39) && (decide (l.length ≤ 380) && l.all digestB))
def sEntry : ByteArray := ⟨#[101, 110, 116, 114, 121]⟩
/-- an entry at a place has a digest -/
def edB (k a t : Int) (l : List Int) : Bool := entB k a l && decide (0 ≤ t ∧ t ≤ 63)
def edI (k a t : Int) (l : List Int) : Int := if edB k a t l = true then hashOf (lab sEntry ++ ([k, a, t] ++ l)) else 0
theorem edI_yes {k a t : Int} {l : List Int} (h : edB k a t l = true) : edI k a t l = hashOf (lab sEntry ++ ([k, a, t] ++ l)) := by unfold edI; rw [if_pos h]
theorem edI_no {k a t : Int} {l : List Int} (h : edB k a t l = false) : edI k a t l = 0 := by unfold edI; rw [if_neg (by rw [h]; simp)]
theorem entB_parts {k a : Int} {l : List Int} (h : entB k a l = true) : (1 ≤ k ∧ k ≤ 9) ∧ (0 ≤ a ∧ a ≤ 39) ∧ l.length ≤ 380 ∧ l.all digestB = true := by
  unfold entB at h; simpa only [Bool.and_eq_true, decide_eq_true_iff] using h
theorem edB_parts {k a t : Int} {l : List Int} (h : edB k a t l = true) : (1 ≤ k ∧ k ≤ 9) ∧ (0 ≤ a ∧ a ≤ 39) ∧ l.length ≤ 380 ∧ l.all digestB = true ∧ 0 ≤ t ∧ t ≤ 63 := by
  unfold edB at h
  rw [Bool.and_eq_true, decide_eq_true_iff] at h
  obtain ⟨h1, h2, h3, h4⟩ := entB_parts h.1
  exact ⟨h1, h2, h3, h4, h.2⟩
theorem ed_all {k a t : Int} {l : List Int} (h : edB k a t l = true) : ([k, a, t] ++ l).all digestB = true := by
  obtain ⟨h1, h2, h3, h4, h5⟩ := edB_parts h
  simp only [List.all_append, h4, Bool.and_true]
  simp [digestB]; omega
theorem ed_labelled {k a t : Int} {l : List Int} (h : edB k a t l = true) : labelledB sEntry ([k, a, t] ++ l) = true := by
  obtain ⟨h1, h2, h3, h4, h5⟩ := edB_parts h
  have e : (lab sEntry).length = 6 := lab_length _
  have e2 : sEntry.size = 5 := rfl
  unfold labelledB hashable
  rw [List.all_append, ed_all h, lab_all _ (by rw [e2]; omega), List.length_append, List.length_append, e, e2]
  simp; omega

set_option maxHeartbeats 400000 in
theorem impl_isPlainEntry (k a : Int) (v : Value) (l : List Int) (w : World) (h : Ints w v l) :
    Calls Try.prog 336 #[.int .i64 k, .int .i64 a, v] w fun e w' => e = .returned (.bool (entB k a l)) ∧ Below w.heap.size w w' := by
  obtain ⟨ad, n, c, rfl⟩ := h.shape
  have e := h.len
  obtain ⟨k1, k2⟩ := h.capMax
  unfold maxLen at k2
  have HB : Hid (entB k a l = (decide (1 ≤ k ∧ k ≤ 9) && (decide (0 ≤ a ∧ a ≤ 39) && (decide (n ≤ 380) && l.all digestB)))) := by rw [← e]; rfl
  clear e
  have H := Lib.hid h; clear h
  go_enter Try.func336, Try.ntmps336
  go_wp2_with (first | (go_at_call 182; refine (impl_areAll _ l 319 #[] digestB _ H.out (decides_isDigest _)).mono ?_; rintro e w1 ⟨rfl, hb⟩) | (go_at_call 204; go_in))
  all_goals (go_ret; refine ⟨ret_bool ?_, by (repeat (first | exact Below.refl _ _ | assumption | refine Below.drew ?_ | refine Below.alloc ?_ (by first | (simp; done) | (simp; omega)) _ | refine Below.setCell ?_ (by first | (simp; done) | (simp; omega)) _))⟩)
  all_goals (rw [HB.out]; clear HB)
  all_goals (simp (disch := omega) only [decide_eq_true, decide_eq_false, Bool.true_and, Bool.and_true, Bool.false_and, Bool.and_false, Bool.true_or, Bool.or_true, Bool.false_or, Bool.or_false, Bool.not_true, Bool.not_false])
set_option maxHeartbeats 1000000 in
theorem spec_oPlain (k a : Int) (v s1 s2 s3 : Value) (l : List Int) (w : World) (h : Ints w v l) :
    Calls Try.prog 301 #[.agg #[.int .i64 k, .int .i64 a, v, s1, s2, s3]] w fun e w' => e = .returned (.bool (entB k a l)) ∧ Below w.heap.size w w' := by
  obtain ⟨ad, n, c, rfl⟩ := h.shape
  have e := h.len
  obtain ⟨k1, k2⟩ := h.capMax
  unfold maxLen at k2
  have HB : Hid (entB k a l = (decide (1 ≤ k ∧ k ≤ 9) && (decide (0 ≤ a ∧ a ≤ 39) && (decide (n ≤ 380) && l.all digestB)))) := by rw [← e]; rfl
  clear e
  have H := Lib.hid h; clear h
  have HD : Hid ((l.all fun x => decide (0 ≤ x ∧ x ≤ 4611686018427387903)) = l.all digestB) := rfl
  go_enter Try.func301, Try.ntmps301
  go_wp2_with (first | (go_at_call 264; refine (spec_l1All _ l _ _ _ (H.out.alloc _)).mono ?_; rintro e w1 ⟨rfl, rfl⟩; rw [HD.out]) | (go_at_call 162; go_in))
  all_goals (go_ret; refine ⟨ret_bool ?_, by (repeat (first | exact Below.refl _ _ | assumption | refine Below.drew ?_ | refine Below.alloc ?_ (by first | (simp; done) | (simp; omega)) _ | refine Below.setCell ?_ (by first | (simp; done) | (simp; omega)) _))⟩)
  all_goals (rw [HB.out]; clear HB)
  all_goals (simp (disch := omega) only [decide_eq_true, decide_eq_false, Bool.true_and, Bool.and_true, Bool.false_and, Bool.and_false, Bool.true_or, Bool.or_true, Bool.false_or, Bool.or_false, Bool.not_true, Bool.not_false])
theorem Ints.lit3 {B : Nat} (w : World) (hB : B ≤ w.heap.size) {g : Nat} (hg : g = w.heap.size) {x y z : Int} (h : I64 x) (h2 : I64 y) (h3 : I64 z) : OwnI (w.alloc (.cells #[.int .i64 x, .int .i64 y, .int .i64 z] 3)) B (.slice (some ⟨g, 0, none⟩) 3 3) [x, y, z] := by
  subst hg; exact OwnI.lit w hB (AllI64.cons h (AllI64.cons h2 (AllI64.one h3))) rfl (by simp [maxLen]) 3 rfl
set_option maxHeartbeats 1000000 in
theorem spec_oDigest (k a t : Int) (v s1 s2 s3 : Value) (l : List Int) (w : World) (h : Ints w v l) (hok : edB k a t l = true) :
    Calls Try.prog 326 #[.agg #[.int .i64 k, .int .i64 a, v, s1, s2, s3], .int .i64 t] w fun e w' => e = .returned (.int .i64 (hashOf (lab sEntry ++ ([k, a, t] ++ l)))) ∧ Below w.heap.size w w' := by
  obtain ⟨⟨h1, h2⟩, ⟨h3, h4⟩, h5, h6, h7, h8⟩ := edB_parts hok
  have HA : Hid (([k, a, t] ++ l).all digestB = true) := ed_all hok
  have HL : Hid (([k, a, t] ++ l).length ≤ 400) := by unfold Hid; rw [List.length_append]; simp; omega
  clear hok h6
  obtain ⟨ad, n, c, rfl⟩ := h.shape
  have H := Lib.hid h; clear h
  go_enter Try.func326, Try.ntmps326
  go_wp2_with (at_builtin; refine wpList_append_ints rfl _ _ rfl (w.heap.size + 1) _ _ [k, a, t] l rfl (Ints.lit3 _ (by simp) (by simp) ⟨by omega, by omega⟩ ⟨by omega, by omega⟩ ⟨by omega, by omega⟩) rfl ((H.out.alloc _).alloc _) (by simp; omega) (by simp) ?_; intro v' w1 hown1 hgr1)
  have hb : Below w.heap.size w w1 := below_of_grown (by (repeat (first | exact Below.refl _ _ | assumption | refine Below.drew ?_ | refine Below.alloc ?_ (by first | (simp; done) | (simp; omega)) _ | refine Below.setCell ?_ (by first | (simp; done) | (simp; omega)) _))) hgr1 (by first | (simp; done) | (simp; omega) | omega) (by first | (simp; done) | (simp; omega) | omega)
  have hO := Lib.hid hown1
  refine (spec_hLabelled sEntry _ _ _ hO.out.ints (by decide) (by have := HL.out; omega) HA.out).mono ?_
  rintro e w2 ⟨rfl, hb2⟩
  go_wp2_with fail
  go_ret
  exact ⟨rfl, hb.trans (hb2.mono hb.size)⟩
set_option maxHeartbeats 1000000 in
theorem impl_EntryDigest (k a t : Int) (v : Value) (l : List Int) (w : World) (h : Ints w v l) :
    Calls Try.prog 327 #[.int .i64 k, .int .i64 a, .int .i64 t, v] w fun e w' => e = .returned (.tuple #[.int .i64 (edI k a t l), .bool (edB k a t l)]) ∧ Below w.heap.size w w' := by
  have H := Lib.hid h; clear h
  cases hok : edB k a t l with
  | true =>
    obtain ⟨⟨h1, h2⟩, ⟨h3, h4⟩, h5, h6, h7, h8⟩ := edB_parts hok
    have HLB := Lib.hid (ed_labelled hok)
    have HI : Hid (edI k a t l = labelledI sEntry ([k, a, t] ++ l)) := by unfold Hid; rw [edI_yes hok]; unfold labelledI; rw [HLB.out]; simp
    have HE : Hid (entB k a l = true) := by unfold edB at hok; rw [Bool.and_eq_true] at hok; exact hok.1
    have HL : Hid (([k, a, t] ++ l).length ≤ 400) := by unfold Hid; rw [List.length_append]; simp; omega
    have HO := Lib.hid hok; clear hok h6
    go_enter Try.func327, Try.ntmps327
    go_wp2_with fail
    refine (impl_isPlainEntry k a v l _ H.out).mono ?_
    rintro e w1 ⟨rfl, hb⟩
    rw [HE.out]
    have hsz := hb.size
    go_wp2_with (first | (go_at_call 204; go_in) | (at_builtin; refine wpList_append_ints rfl _ _ rfl w1.heap.size _ _ [k, a, t] l rfl (Ints.lit3 _ (Nat.le_refl _) rfl ⟨by omega, by omega⟩ ⟨by omega, by omega⟩ ⟨by omega, by omega⟩) rfl ((H.out.below hb).alloc _) (by simp; omega) (by simp) ?_; intro v' w2 hown1 hgr1))
    have hb2 : Below w1.heap.size w1 w2 := below_of_grown (by (repeat (first | exact Below.refl _ _ | assumption | refine Below.drew ?_ | refine Below.alloc ?_ (by first | (simp; done) | (simp; omega)) _ | refine Below.setCell ?_ (by first | (simp; done) | (simp; omega)) _))) hgr1 (by first | (simp; done) | (simp; omega) | omega) (by first | (simp; done) | (simp; omega) | omega)
    have hO := Lib.hid hown1
    refine (impl_HashLabelled sEntry _ _ _ hO.out.ints (by decide) (by have := HL.out; omega)).mono ?_
    rintro e w3 ⟨rfl, hb3⟩
    rw [HLB.out]
    go_wp2_with fail
    go_ret2
    exact ⟨ret_int_bool (by first | (rw [HI.out]; done) | (rw [HI.out]; rfl) | exact HI.out.symm) rfl, hb.trans ((hb2.mono hsz).trans (hb3.mono (Nat.le_trans hsz hb2.size)))⟩
  | false =>
    have HI := Lib.hid (edI_no hok)
    cases hE : entB k a l with
    | true =>
      have ht : ¬ (0 ≤ t ∧ t ≤ 63) := by intro hh; unfold edB at hok; rw [hE] at hok; simp [hh] at hok
      have HE := Lib.hid hE; clear hE hok
      rcases (show t < 0 ∨ 0 ≤ t ∧ decide (t ≤ 63) = false by rw [decide_eq_false_iff_not]; omega) with ht | ⟨ht, ht'⟩
      all_goals
        go_enter Try.func327, Try.ntmps327
        go_wp2_with fail
        refine (impl_isPlainEntry k a v l _ H.out).mono ?_
        rintro e w1 ⟨rfl, hb⟩
        rw [HE.out]
        go_wp2_with (go_at_call 204; go_in)
        all_goals go_ret2
        all_goals exact ⟨ret_int_bool (by first | (rw [HI.out]; done) | (rw [HI.out]; rfl) | exact HI.out.symm) rfl, hb⟩
    | false =>
      have HE := Lib.hid hE; clear hE hok
      go_enter Try.func327, Try.ntmps327
      go_wp2_with fail
      refine (impl_isPlainEntry k a v l _ H.out).mono ?_
      rintro e w1 ⟨rfl, hb⟩
      rw [HE.out]
      go_wp2_with fail
      go_ret2
      exact ⟨ret_int_bool (by first | (rw [HI.out]; done) | (rw [HI.out]; rfl) | exact HI.out.symm) rfl, hb⟩
end Go.Proofs.Ytboahnklilmdpaa
