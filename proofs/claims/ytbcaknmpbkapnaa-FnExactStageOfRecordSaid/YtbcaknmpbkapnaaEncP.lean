/- Walks: EncodeProof, over the kind of KProof. -/
import Derived.Test.YtbcaknmpbkapnaaBa
import Derived.Test.YtbcaknmpbkapnaaBk
namespace Go.Proofs.Ytbcaknmpbkapnaa
open Go.RowKit
set_option linter.unusedSimpArgs false
set_option linter.unusedVariables false

def ProofD.cnt (d : ProofD) : Nat := d.c.length + d.h.length + d.r.length
def RdP (w : World) (v : Value) (d : ProofD) : Prop := ∃ a b c, v = .agg #[a, b, c] ∧ Ints w a d.c ∧ Ints w b d.h ∧ Ints w c d.r
theorem rdP_of {w : World} {v : Value} {d : ProofD} (h : (kS rProof).rd w v d) : RdP w v d := by
  obtain ⟨a0, n0, c0, a1, n1, c1, a2, n2, c2, rfl, h1, h2, h3⟩ := rdProof.1 h
  exact ⟨_, _, _, rfl, h1, h2, h3⟩
/-- EncodeProof -/
def epL (d : ProofD) : List Int := [cnt d.c, cnt d.h, cnt d.r].flatten
def epB (d : ProofD) : Bool := recB (epL d)
def epR (d : ProofD) : List Int := if epB d = true then epL d else []
theorem epR_length (d : ProofD) : (epR d).length ≤ 400 := by
  unfold epR; split
  · rename_i h; exact recB_len h
  · simp
theorem epL_eq (d : ProofD) : epL d = (([] ++ cnt d.c) ++ cnt d.h) ++ cnt d.r := by simp [epL]
set_option maxRecDepth 100000 in
set_option maxHeartbeats 2000000 in
theorem impl_EncodeProof (v : Value) (d : ProofD) (w : World) (hl : (d.cnt : Int) ≤ 1000000000) (h : RdP w v d) :
    Calls Try.prog 52 #[v] w fun e w' => ∃ v', e = .returned (.tuple #[v', .bool (epB d)]) ∧ InI w' w.heap.size w'.heap.size v' (epR d) ∧ Below w.heap.size w w' := by
  obtain ⟨a, b, c, rfl, ha, hb, hc⟩ := h
  unfold ProofD.cnt at hl
  have L1 : Hid (d.c.length + d.h.length + d.r.length ≤ 1000000000) := by unfold Hid; omega
  clear hl
  obtain ⟨a1, na, ca, rfl⟩ := Ints.shape ha
  obtain ⟨b1, nb, cb, rfl⟩ := Ints.shape hb
  obtain ⟨c1, nc, cc, rfl⟩ := Ints.shape hc
  obtain ⟨W, hW⟩ : ∃ W, W = w.alloc (.cells #[.slice a1 na ca, .slice b1 nb cb, .slice c1 nc cc] 26) := ⟨_, rfl⟩
  have A : Hid (Ints W (.slice a1 na ca) d.c) := by unfold Hid; rw [hW]; exact ha.alloc _
  have B : Hid (Ints W (.slice b1 nb cb) d.h) := by unfold Hid; rw [hW]; exact hb.alloc _
  have C : Hid (Ints W (.slice c1 nc cc) d.r) := by unfold Hid; rw [hW]; exact hc.alloc _
  have HWB : Hid (Below w.heap.size w W) := by unfold Hid; rw [hW]; exact (Below.refl _ _).alloc (Nat.le_refl _) _
  have p0 : W.cell? ⟨w.heap.size, 0, none⟩ = some (.slice a1 na ca) := by rw [hW]; simp [go_sem]
  have p1 : W.cell? ⟨w.heap.size, 1, none⟩ = some (.slice b1 nb cb) := by rw [hW]; simp [go_sem]
  have p2 : W.cell? ⟨w.heap.size, 2, none⟩ = some (.slice c1 nc cc) := by rw [hW]; simp [go_sem]
  have HV : Hid (∃ f : Value → Value, (∀ u : Value, (if recB (epL d) = true then u else .slice none 0 0) = f u) ∧ (∀ u, (f u = .slice none 0 0 ∧ epR d = []) ∨ (f u = u ∧ epR d = epL d))) := by
    unfold Hid
    cases hj : recB (epL d) with
    | false => exact ⟨fun _ => .slice none 0 0, fun u => by rw [if_neg (by simp)], fun u => .inl ⟨rfl, by unfold epR epB; rw [hj, if_neg (by simp)]⟩⟩
    | true => exact ⟨fun u => u, fun u => by rw [if_pos rfl], fun u => .inr ⟨rfl, by unfold epR epB; rw [hj, if_pos rfl]⟩⟩
  obtain ⟨f, hf1, hf2⟩ := HV.out
  clear HV
  have F1 := Lib.hid hf1; clear hf1
  have F2 := Lib.hid hf2; clear hf2
  have HJ : Hid (recB (epL d) = epB d) := rfl
  have LA : Hid (d.c.length ≤ 100000000000) := by have := L1.out; unfold Hid; omega
  have LB : Hid (d.h.length ≤ 100000000000) := by have := L1.out; unfold Hid; omega
  have LC : Hid (d.r.length ≤ 100000000000) := by have := L1.out; unfold Hid; omega
  have LT : Hid (total [cnt d.c, cnt d.h, cnt d.r] ≤ 2000000000) := by have := L1.out; unfold Hid; rw [total3, cnt_length, cnt_length, cnt_length]; omega
  clear ha hb hc
  go_enter Try.func52, Try.ntmps52
  go_wp2_with fail
  rw [← hW]
  clear hW
  go_region_held3 (fun w' => Below W.heap.size W w' ∧ w'.cell? ⟨w.heap.size, 0, none⟩ = some (.slice a1 na ca) ∧ w'.cell? ⟨w.heap.size, 1, none⟩ = some (.slice b1 nb cb) ∧ w'.cell? ⟨w.heap.size, 2, none⟩ = some (.slice c1 nc cc)) (first | exact keep_box3 p0 p1 p2 (Below.refl _ _).drew | exact keep_box3 p0 p1 p2 (keep_b (by assumption) (‹Below W.heap.size W _ ∧ _›).1) | exact keep_box3 p0 p1 p2 ((‹Below W.heap.size W _ ∧ _›).1.alloc (‹Below W.heap.size W _ ∧ _›).1.size _) | fail) ((first
    | (go_at_call 65; (with_reducible refine (impl_counted (.slice a1 na ca) d.c _ (A.out.below (‹Below W.heap.size W _ ∧ _›).1) LA.out).mono ?_); rintro e w1 ⟨v1, rfl, x1, hb1⟩; obtain ⟨y1, z1, rfl⟩ := x1.shape)
    | (go_at_call 65; (with_reducible refine (impl_counted (.slice b1 nb cb) d.h _ (B.out.below (‹Below W.heap.size W _ ∧ _›).1) LB.out).mono ?_); rintro e w2 ⟨v2, rfl, x2, hb2⟩; obtain ⟨y2, z2, rfl⟩ := x2.shape)
    | (go_at_call 65; (with_reducible refine (impl_counted (.slice c1 nc cc) d.r _ (C.out.below (‹Below W.heap.size W _ ∧ _›).1) LC.out).mono ?_); rintro e w3 ⟨v3, rfl, x3, hb3⟩; obtain ⟨y3, z3, rfl⟩ := x3.shape)
    | (go_at_call 67; (with_reducible refine (slices_Concat _ [cnt d.c, cnt d.h, cnt d.r] _ (rd3 ((x1.ints.below hb2).below hb3) (x2.ints.below hb3) x3.ints) LT.out).mono ?_); rintro e w4 ⟨v4, rfl, x4, hb4⟩)
    | (go_at_call 66; (with_reducible refine (impl_record v4 (epL d) _ x4.ints).mono ?_); rintro e w5 ⟨rfl, hb5⟩; rw [F1.out, HJ.out])
    | fail))
  go_wp2_with fail
  go_ret2
  have hbb := HWB.out.trans ((‹Below W.heap.size W _ ∧ _›).1.mono HWB.out.size)
  rcases F2.out v4 with ⟨q1, q2⟩ | ⟨q1, q2⟩
  · exact ⟨f v4, rfl, by rw [q1, q2]; exact InI.of_own (OwnI.nil _ _), hbb⟩
  · exact ⟨f v4, rfl, by rw [q1, q2]; exact InI.of_own ((x4.below hb5).mono (by have := hb3.size; have := hb2.size; have := hb1.size; have := HWB.out.size; simp at *; omega)), hbb⟩
end Go.Proofs.Ytbcaknmpbkapnaa
