/- Rows of structs: made, stored into, grown. No program is named here. -/
import Derived.Test.YtaobocbbaoanhaaRows1
namespace Go.Proofs.Ytaobocbbaoanhaa
open Go.RowKit
set_option linter.unusedSimpArgs false
set_option linter.unusedVariables false

theorem flat_made (z : List Value) (n : Nat) (hz : 0 < z.length) : (madeCells z.toArray (n * z.length)).toList = (List.replicate n z).flatten := by
  have hl : ((List.replicate n z).flatten).length = n * z.length := by
    rw [flat_len (s := z.length) (fun c hc => by rw [List.eq_of_mem_replicate hc])]; simp
  apply List.ext_getElem
  · rw [hl]; simp [madeCells]
  · intro j h1 h2
    have hj : j < n * z.length := by rw [← hl]; exact h2
    have e : j = (j / z.length) * z.length + j % z.length := by rw [Nat.mul_comm]; exact (Nat.div_add_mod j z.length).symm
    have hm := Nat.mod_lt j hz
    have h3 := flat_get (s := z.length) (css := List.replicate n z) (fun c hc => by rw [List.eq_of_mem_replicate hc]) (i := j / z.length) (k := j % z.length) hm
    rw [← e, List.getElem?_eq_getElem h2] at h3
    have hd : j / z.length < n := Nat.div_lt_of_lt_mul (by rw [Nat.mul_comm]; exact hj)
    rw [List.getElem?_eq_getElem (by simpa using hd)] at h3
    simp only [List.getElem_replicate, Option.bind_some, List.getElem?_eq_getElem hm, Option.some.injEq] at h3
    rw [h3]
    simp [madeCells, hm]
theorem flat_sets {W : Nat} {css : List (List Value)} (hu : ∀ c ∈ css, c.length = W) {k : Nat} (hk : k < css.length) (cs : List Value) (hl : cs.length = W) :
    ∀ m, m ≤ W → (List.range m).foldl (fun xs j => xs.set (k * W + j) (cs.getD j undef)) css.flatten = (css.set k (cs.take m ++ css[k].drop m)).flatten := by
  have hck : css[k].length = W := hu _ (List.getElem_mem hk)
  intro m
  induction m with
  | zero => intro _; simp
  | succ m ih =>
    intro hm
    rw [List.range_succ, List.foldl_append, ih (by omega)]
    simp only [List.foldl_cons, List.foldl_nil]
    have hu2 : ∀ c ∈ css.set k (cs.take m ++ css[k].drop m), c.length = W := fun c hc => by
      rcases List.mem_or_eq_of_mem_set hc with h | rfl
      · exact hu _ h
      · simp only [List.length_append, List.length_take, List.length_drop]; omega
    rw [flat_set hu2 (by simpa using hk) (by omega)]
    congr 1
    rw [List.set_set]
    congr 1
    simp only [List.getElem_set_self]
    rw [List.set_append, if_neg (by simp; omega)]
    have e : m - (cs.take m).length = 0 := by simp; omega
    rw [e, ← List.getElem_cons_drop (show m < css[k].length by omega), List.set_cons_zero, List.take_succ_eq_append_getElem (show m < cs.length by omega), List.append_assoc]
    simp [List.getD, show m < cs.length by omega]
theorem flat_sets_all {W : Nat} {css : List (List Value)} (hu : ∀ c ∈ css, c.length = W) {k : Nat} (hk : k < css.length) (cs : List Value) (hl : cs.length = W) :
    (List.range W).foldl (fun xs j => xs.set (k * W + j) (cs.getD j undef)) css.flatten = (css.set k cs).flatten := by
  have hck : css[k].length = W := hu _ (List.getElem_mem hk)
  rw [flat_sets hu hk cs hl W (Nat.le_refl _), List.take_of_length_le (by omega), List.drop_of_length_le (by omega), List.append_nil]
section
variable {δ : Type}
theorem OwnR.nil (e : TypeId) (R : RowK δ) (w : World) (lo hi : Nat) : OwnR e R w lo hi (.slice none 0 0) [] :=
  ⟨[], fun _ => 0, fun _ => 0, rfl, by simpa using World.ownsRow_nil w lo e R.width, (fun g h => by cases h), (fun i h1 _ => by simp at h1), (fun i j h _ _ => by simp at h)⟩
theorem OwnR.lit0 (e : TypeId) (R : RowK δ) (w : World) (B : Nat) (hB : B ≤ w.heap.size) : OwnR e R (w.alloc (.cells #[] e)) B (w.alloc (.cells #[] e)).heap.size (.slice (some ⟨w.heap.size, 0, none⟩) 0 0) [] := by
  have := World.ownsRow_lit (e := e) (size := R.width) w #[] 0 hB (Nat.zero_le _) (by simp)
  exact ⟨[], fun _ => 0, fun _ => 0, rfl, this, (fun g h => by cases h; exact ⟨by simp, fun i hi => by simp at hi⟩), (fun i h1 _ => by simp at h1), (fun i j h _ _ => by simp at h)⟩
end
/-- a cell of the row number k -/
theorem row_cell {w : World} {lo g n c W k j : Nat} {e : TypeId} {css : List (List Value)} {row : List Value} (hO : w.ownsRow lo e W (.slice (some ⟨g, 0, none⟩) n c) n (css.set k row).flatten) (hu : ∀ c ∈ css, c.length = W) (hl : css.length = n) (hk : k < n) (hr : row.length = W) (hj : j < W) :
    w.cell? ⟨g, k * W + j, none⟩ = row[j]? := by
  have hu2 : ∀ c ∈ css.set k row, c.length = W := fun c hc => by
    rcases List.mem_or_eq_of_mem_set hc with h | rfl
    · exact hu _ h
    · exact hr
  have hb : k * W + W ≤ n * W := by have := Nat.mul_le_mul_right W (show k + 1 ≤ n from hk); rw [Nat.succ_mul] at this; exact this
  rw [World.ownsRow.cellAt hO (k * W + j) (by omega), flat_get hu2 hj, List.getElem?_set_self (by omega)]
  rfl
/-- a store into it -/
theorem row_store {w : World} {lo g n c W k j : Nat} {e : TypeId} {css : List (List Value)} {row : List Value} (hO : w.ownsRow lo e W (.slice (some ⟨g, 0, none⟩) n c) n (css.set k row).flatten) (hu : ∀ c ∈ css, c.length = W) (hl : css.length = n) (hk : k < n) (hr : row.length = W) (hj : j < W) (x : Value) :
    (w.setCell ⟨g, k * W + j, none⟩ x).ownsRow lo e W (.slice (some ⟨g, 0, none⟩) n c) n (css.set k (row.set j x)).flatten := by
  have hu2 : ∀ c ∈ css.set k row, c.length = W := fun c hc => by
    rcases List.mem_or_eq_of_mem_set hc with h | rfl
    · exact hu _ h
    · exact hr
  have h1 := (World.ownsRow.stored hO (k * W + j) x).1
  rw [flat_set hu2 (by simp; omega) hj, List.getElem_set_self, List.set_set] at h1
  exact h1
end Go.Proofs.Ytaobocbbaoanhaa
