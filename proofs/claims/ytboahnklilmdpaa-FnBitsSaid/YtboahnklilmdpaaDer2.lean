/- Derived elements: walks of derive, hDerived. -/
import Derived.Test.YtboahnklilmdpaaDer1
namespace Go.Proofs.Ytboahnklilmdpaa
open Go.RowKit
set_option linter.unusedSimpArgs false
set_option linter.unusedVariables false

theorem Ints.lit5 (w : World) {a b c d e : Int} (ha : I64 a) (hb : I64 b) (hc : I64 c) (hd : I64 d) (he : I64 e) : Ints (w.alloc (.cells #[.int .i64 a, .int .i64 b, .int .i64 c, .int .i64 d, .int .i64 e] 3)) (.slice (some ⟨w.heap.size, 0, none⟩) 5 5) [a, b, c, d, e] :=
  (OwnI.lit w (Nat.le_refl _) (AllI64.cons ha (AllI64.cons hb (AllI64.cons hc (AllI64.cons hd (AllI64.one he))))) rfl (by simp [maxLen]) 5 rfl).ints
end Go.Proofs.Ytboahnklilmdpaa
