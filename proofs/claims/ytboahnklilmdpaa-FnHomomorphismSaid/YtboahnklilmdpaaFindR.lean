/- Function values that decide something of structs. -/
import Derived.Test.YtboahnklilmdpaaBa
namespace Go.Proofs.Ytboahnklilmdpaa
open Go.RowKit

/-- a function value that decides p on structs of a row, in every world that has grown from w -/
structure DecidesS {δ : Type} (R : RowK δ) (w : World) (g : FuncId) (caps : Array Value) (p : δ → Bool) : Prop where
  enters : ∀ args wr, (callFunc g args).run Try.prog wr = .ok (.enter g args) wr
  runs : ∀ v d wr, (kS R).rd wr v d → Below w.heap.size w wr → Calls Try.prog g (#[v] ++ caps) wr fun e w' => e = .returned (.bool (p d)) ∧ Below wr.heap.size wr w'
theorem DecidesS.below {δ : Type} {R : RowK δ} {w w' : World} {g : FuncId} {caps : Array Value} {p : δ → Bool} (h : DecidesS R w g caps p) (hb : Below w.heap.size w w') : DecidesS R w' g caps p :=
  ⟨h.enters, fun v d wr hx hr => h.runs v d wr hx (hb.trans (hr.mono hb.size))⟩
end Go.Proofs.Ytboahnklilmdpaa
