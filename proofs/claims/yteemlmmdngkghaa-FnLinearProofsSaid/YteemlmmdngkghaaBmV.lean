/- Bundle of walks and laws: MerkleP, Merkle, Merkle2, Merkle3, Merkle4, Sets, ReachP, Reach, Reach2, Entry. -/
import Derived.Test.YteemlmmdngkghaaBaV
import Derived.Lib.BitFns
import Derived.Test.YteemlmmdngkghaaChecked
import Derived.Lib.Strings
import Derived.Lib.Slices
import Derived.Lib.Small
import Derived.Lib.Walk
import Derived.Deep.QuietTactic
import Derived.BigQuiet
/- Merkle trees as functions on lists: plain Lean. -/



namespace Go.Proofs.Yteemlmmdngkghaa
open Go.RowKit

/-- the number of binary digits 1 -/
def onesF : Nat → Nat → Nat
  | 0, _ => 0
  | f + 1, n => n % 2 + onesF f (n / 2)
def ones (n : Nat) : Nat := onesF 7 n
end Go.Proofs.Yteemlmmdngkghaa
/- Walks: Merkle trees. -/


namespace Go.Proofs.Yteemlmmdngkghaa
open Go.RowKit
set_option linter.unusedSimpArgs false
set_option linter.unusedVariables false

end Go.Proofs.Yteemlmmdngkghaa
/- Walks: paths of Merkle trees (printed by gen_merkle2.py). -/

namespace Go.Proofs.Yteemlmmdngkghaa
open Go.RowKit
set_option linter.unusedSimpArgs false
set_option linter.unusedVariables false

/-- append as a step of a region that draws its order -/
theorem step_append_ints {ops : Array Oper} {o : Oper} {a : Act} {w : World} {K : Act → World → Prop} {Q : Exit → Act → World → Prop} {E : Prop} (hg : o.guard = none) (s x : Operand)
    (ho : o.op = .call { callee := .builtin .append, args := #[s, x], argTypes := #[26, 26] })
    (B : Nat) (v y : Value) (l m : List Int) (hs : a.eval s = v) (hown : OwnI w B v l) (hx : a.eval x = y) (hy : Ints w y m) (hlen : l.length + m.length ≤ 1000000000000) (hB : B ≤ w.heap.size)
    (hK : ∀ v' w', OwnI w' B v' (l ++ m) → Below B w w' → K (a.put o.dst v') w') : if Region.wanted o (yielded ops a.tmps) = true then Oper.wp Try.prog o a w K Q else E := by
  rw [if_pos (by simp [Region.wanted, hg])]
  obtain ⟨v', w', hr, h1, h2⟩ := run_append_ints (t := 26) rfl hown hy hlen hB o.type
  unfold Oper.wp execOp
  simp only [ho, resolve, invoke, builtin, Sem.run_bind, Sem.run_pure, Result.andThen_ok, List.map_toArray, List.map_cons, List.map_nil, hs, hx, hr]
  exact hK v' w' h1 (hown.grown h2 hB)
end Go.Proofs.Yteemlmmdngkghaa
/- Walks: InclusionPath and ConsistencyPath (printed by gen_merkle3.py). -/

namespace Go.Proofs.Yteemlmmdngkghaa
open Go.RowKit
set_option linter.unusedSimpArgs false
set_option linter.unusedVariables false

end Go.Proofs.Yteemlmmdngkghaa
/- Walks: VerifyConsistency (printed by gen_merkle4.py). -/

namespace Go.Proofs.Yteemlmmdngkghaa
open Go.RowKit
set_option linter.unusedSimpArgs false
set_option linter.unusedVariables false

end Go.Proofs.Yteemlmmdngkghaa
/- Walks: sorted lists as sets (spec.l1Has, spec.l1Put). -/

namespace Go.Proofs.Yteemlmmdngkghaa
open Go.RowKit
set_option linter.unusedSimpArgs false
set_option linter.unusedVariables false

end Go.Proofs.Yteemlmmdngkghaa
/- The plain law of ReachOf: a set as a sorted list, and as marks. -/

namespace Go.Proofs.Yteemlmmdngkghaa
set_option linter.unusedSimpArgs false
set_option linter.unusedVariables false

end Go.Proofs.Yteemlmmdngkghaa
/- Walks: ReachOf. -/




namespace Go.Proofs.Yteemlmmdngkghaa
open Go.RowKit
set_option linter.unusedSimpArgs false
set_option linter.unusedVariables false

/-- a function value that decides p on lists, in every world that has grown from w -/
structure DecidesR (w : World) (g : FuncId) (caps : Array Value) (p : List Int → Bool) : Prop where
  enters : ∀ args wr, (callFunc g args).run Try.prog wr = .ok (.enter g args) wr
  runs : ∀ v l wr, Ints wr v l → Below w.heap.size w wr → Calls Try.prog g (#[v] ++ caps) wr fun e w' => e = .returned (.bool (p l)) ∧ Below wr.heap.size wr w'
theorem DecidesR.below {w w' : World} {g : FuncId} {caps : Array Value} {p : List Int → Bool} (h : DecidesR w g caps p) (hb : Below w.heap.size w w') : DecidesR w' g caps p :=
  ⟨h.enters, fun v l wr hx hr => h.runs v l wr hx (hb.trans (hr.mono hb.size))⟩
set_option maxHeartbeats 400000 in
theorem slices_IndexFuncR (v : Value) (ls : List (List Int)) (g : FuncId) (caps : Array Value) (p : List Int → Bool) (w : World) (h : RdL kInts w v ls) (hp : DecidesR w g caps p) :
    Calls Try.prog 282 #[v, .func (.func g) #[] caps] w fun e w' => (∃ r : Int, e = .returned (.int .i64 r) ∧ decide (0 ≤ r) = ls.any p) ∧ Below w.heap.size w w' := by
  obtain ⟨a, n, c, rfl⟩ := h.shape
  have e := h.len
  obtain ⟨k1, k2⟩ := h.capMax
  unfold maxLen at k2
  have HE := Lib.hid e; clear e
  have hent := hp.enters
  have HP := Lib.hid hp; clear hp
  have H := Lib.hid h; clear h
  go_enter Try.func282, Try.ntmps282
  go_wp2
  go_loopg [8] n (fun g i wr => ∃ k : Nat, k + g = n ∧ i = .int .i64 k ∧ Hid ((ls.take k).any p = false) ∧ Below w.heap.size w wr)
  case atStart => exact ⟨0, by omega, rfl, by unfold Hid; simp, Below.refl _ _⟩
  case round =>
    obtain ⟨k, hkg, rfl, HF, hb⟩ := hrel
    by_cases hlt : k < n
    · have HK : Hid (k < ls.length) := by unfold Hid; rw [HE.out]; exact hlt
      obtain ⟨b, o, rfl, us, hcx⟩ := H.out.at_ (by omega)
      obtain ⟨hy, hr⟩ := hcx k HK.out
      have HR := Lib.hid (Ints.below hr hb); clear hr hcx
      rw [← hb.cell (p := ⟨b, o + k, none⟩) (World.block_lt_of_cell? w _ hy)] at hy
      have HS : Hid ((ls.take (k + 1)).any p = ((ls.take k).any p || p (ls[k]'HK.out))) := by unfold Hid; rw [List.take_succ_eq_append_getElem HK.out, List.any_append]; simp
      cases hpx : p (ls[k]'HK.out) with
      | true =>
        have HA : Hid (decide (0 ≤ (k : Int)) = ls.any p) := by
          unfold Hid; rw [decide_eq_true (by omega), eq_comm, List.any_eq_true]; exact ⟨_, List.getElem_mem HK.out, hpx⟩
        have HX := Lib.hid hpx
        clear hpx
        go_wp2_with fail
        refine (HP.out.runs _ _ _ HR.out hb).mono ?_
        rintro e w1 ⟨rfl, hb1⟩
        rw [HX.out]
        go_wp2_with fail
        go_ret
        exact ⟨⟨_, rfl, HA.out⟩, hb.trans (hb1.mono hb.size)⟩
      | false =>
        have HX := Lib.hid hpx
        clear hpx
        go_wp2_with fail
        refine (HP.out.runs _ _ _ HR.out hb).mono ?_
        rintro e w1 ⟨rfl, hb1⟩
        rw [HX.out]
        go_wp2_with fail
        go_roundg (n - (k + 1))
        case measure => omega
        case rel => exact ⟨k + 1, by omega, by go_num, by unfold Hid; rw [HS.out, HF.out, HX.out]; rfl, hb.trans (hb1.mono hb.size)⟩
    · obtain rfl : n = k := by omega
      have HA : Hid (decide (0 ≤ (-1 : Int)) = ls.any p) := by
        have := HF.out
        rw [List.take_of_length_le (by rw [HE.out]; exact Nat.le_refl _)] at this
        unfold Hid; rw [this]; rfl
      go_wp2_with fail
      go_ret
      exact ⟨⟨_, rfl, HA.out⟩, hb⟩
theorem slices_ContainsFuncR (v : Value) (ls : List (List Int)) (g : FuncId) (caps : Array Value) (p : List Int → Bool) (w : World) (h : RdL kInts w v ls) (hp : DecidesR w g caps p) :
    Calls Try.prog 238 #[v, .func (.func g) #[] caps] w fun e w' => e = .returned (.bool (ls.any p)) ∧ Below w.heap.size w w' := by
  have HP := Lib.hid hp; clear hp
  have H := Lib.hid h; clear h
  go_enter Try.func238, Try.ntmps238
  go_wp2_with fail
  refine (slices_IndexFuncR v ls g caps p _ H.out HP.out).mono ?_
  rintro e w1 ⟨⟨r, rfl, hr⟩, hb⟩
  have HR := Lib.hid hr; clear hr
  go_wp2_with fail
  go_ret
  exact ⟨ret_bool (by first | (rw [HR.out]; done) | (rw [HR.out]; rfl) | exact HR.out.symm), hb⟩
end Go.Proofs.Yteemlmmdngkghaa
/- Walks: pairs of readers (impl.arePairs). -/

namespace Go.Proofs.Yteemlmmdngkghaa
open Go.RowKit
set_option linter.unusedSimpArgs false
set_option linter.unusedVariables false

end Go.Proofs.Yteemlmmdngkghaa
/- Entries of a board: the digest of an entry. -/

namespace Go.Proofs.Yteemlmmdngkghaa
open Go.RowKit
set_option linter.unusedSimpArgs false
set_option linter.unusedVariables false

theorem Ints.lit3 {B : Nat} (w : World) (hB : B ≤ w.heap.size) {g : Nat} (hg : g = w.heap.size) {x y z : Int} (h : I64 x) (h2 : I64 y) (h3 : I64 z) : OwnI (w.alloc (.cells #[.int .i64 x, .int .i64 y, .int .i64 z] 3)) B (.slice (some ⟨g, 0, none⟩) 3 3) [x, y, z] := by
  subst hg; exact OwnI.lit w hB (AllI64.cons h (AllI64.cons h2 (AllI64.one h3))) rfl (by simp [maxLen]) 3 rfl
end Go.Proofs.Yteemlmmdngkghaa
