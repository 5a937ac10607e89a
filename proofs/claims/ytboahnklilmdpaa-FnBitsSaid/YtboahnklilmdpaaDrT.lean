/- What stays between two bounds of memory; bounds of commitments: plain (printed by gen_dro.py). -/
import Derived.Test.YtboahnklilmdpaaDrB
import Derived.Test.YtboahnklilmdpaaPfM
namespace Go.Proofs.Ytboahnklilmdpaa
open Go.RowKit
set_option linter.unusedSimpArgs false
set_option linter.unusedVariables false

/-- what holds in every world that agrees in the blocks from B on below T -/
def SinceT (B T : Nat) (w : World) (P : World → Prop) : Prop := T ≤ w.heap.size ∧ ∀ w', w.heap.size ≤ w'.heap.size → (∀ k, B ≤ k → k < T → w'.heap[k]? = w.heap[k]?) → P w'
theorem SinceT.of {B T : Nat} {w W : World} {P : World → Prop} (h : Since B w P) (hb : Below w.heap.size w W) (hT : w.heap.size ≤ T ∧ T ≤ W.heap.size) : SinceT B T W P :=
  ⟨hT.2, fun w' hs hk => h w' (Nat.le_trans hb.size hs) fun k h1 h2 => (hk k h1 (by omega)).trans (hb.block k h2)⟩
theorem SinceT.here {B T : Nat} {w : World} {P : World → Prop} (h : SinceT B T w P) : P w := h.2 w (Nat.le_refl _) fun _ _ _ => rfl
theorem SinceT.step {B T : Nat} {w w' : World} {P : World → Prop} (h : SinceT B T w P) (hs : w.heap.size ≤ w'.heap.size) (hb : ∀ k, B ≤ k → k < T → w'.heap[k]? = w.heap[k]?) : SinceT B T w' P :=
  ⟨Nat.le_trans h.1 hs, fun u h1 h2 => h.2 u (Nat.le_trans hs h1) fun k hk hlt => (h2 k hk hlt).trans (hb k hk hlt)⟩
theorem SinceT.within {B T lo hi : Nat} {w w' : World} {P : World → Prop} (h : SinceT B T w P) (hw : Within lo hi w w') (hT : T ≤ lo ∨ hi ≤ B) : SinceT B T w' P :=
  h.step hw.size fun k hk hlt => hw.block k (by have := h.1; omega) (by omega)
theorem SinceT.below {B T : Nat} {w w' : World} {P : World → Prop} (h : SinceT B T w P) (hb : Below w.heap.size w w') : SinceT B T w' P := h.step hb.size fun k _ hlt => hb.block k (by have := h.1; omega)
theorem SinceT.mono {B B' T : Nat} {w : World} {P : World → Prop} (h : SinceT B T w P) (hB : B' ≤ B) : Since B' w P := fun w' hs hk => h.2 w' hs fun k h1 h2 => hk k (by omega) (by have := h.1; omega)
theorem cmR_bd {gr : GroupD} {bh : Int} {bl : List Int} {m r : Int} : 0 ≤ cmR gr bh bl m r ∧ cmR gr bh bl m r ≤ 2000000000 := by
  unfold cmR
  split
  · rename_i h
    obtain ⟨h1, _, _⟩ := cmB_parts h
    have hg := goodG_ok (baB_parts h1).1
    have := coM_small hg bh m r
    exact ⟨this.1, this.2⟩
  · exact ⟨by omega, by omega⟩
end Go.Proofs.Ytboahnklilmdpaa
