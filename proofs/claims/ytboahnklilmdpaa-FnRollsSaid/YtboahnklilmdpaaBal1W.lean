/- Rolls and tags: the plain laws. -/
import Derived.Test.YtboahnklilmdpaaDrTW
import Derived.Test.YtboahnklilmdpaaCtW
import Derived.Test.YtboahnklilmdpaaBgW
import Derived.Test.YtboahnklilmdpaaBmW
import Derived.Test.YtboahnklilmdpaaRegVW
namespace Go.Proofs.Ytboahnklilmdpaa
open Go.RowKit
set_option linter.unusedSimpArgs false
set_option linter.unusedVariables false

/-- powers by an exponent that is not zero are different for different elements -/
theorem powE_inj {gr : GroupD} (hg : OkG gr) {z x y : Int} (hz : 0 < z) (hz2 : z < gr.q) (hx : elB gr x = true) (hy : elB gr y = true) (h : powE gr x z = powE gr y z) : x = y := by
  obtain ⟨k, hk⟩ := inverse_is hg.qp hz hz2
  have hq := hg.q1
  have e : ∀ u, elB gr u = true → powE gr (powE gr u z) k = u := fun u hu => by
    rw [powE_pow hg hu, powE_eq (b := 1) (by rw [hk]; exact (Int.emod_eq_of_lt (by omega) (by omega)).symm), powE_single hg hu]
  rw [← e x hx, ← e y hy, h]
def tgL (gr : GroupD) (s z : Int) (l : List CipherD) : List Int := l.map fun c => powE gr (deC gr s c) z
def egM (gr : GroupD) (s : Int) (l : List CipherD) : List Int := l.map (deC gr s)
def egL (gr : GroupD) (s : Int) (l : List CipherD) : List Int := (egM gr s l).map fun m => ((egM gr s l).idxOf m : Int)
theorem elT_deC {gr : GroupD} (hgd : goodG gr = true) {s : Int} {c : CipherD} (hc : ciB gr c = true) : elB gr (deC gr s c) = true := by
  have hg := goodG_ok hgd
  unfold ciB at hc
  rw [Bool.and_eq_true] at hc
  unfold deC
  rw [mulT]
  exact elT_mul hg hc.2 (elT_pow hg (elT_pow hg hc.1 s) (-1))
theorem nth_map {α : Type} {f : α → Int} {l : List α} {k : Nat} (h : k < l.length) : nth (l.map f) k = f l[k] := by
  simp [nth, List.getD, h]
theorem idx_iff {L : List Int} {x y : Int} (hx : x ∈ L) (hy : y ∈ L) : L.idxOf x = L.idxOf y ↔ x = y := by
  constructor
  · intro h
    have h1 := List.getElem_idxOf (List.idxOf_lt_length_of_mem hx)
    have h2 := List.getElem_idxOf (List.idxOf_lt_length_of_mem hy)
    rw [← h1, ← h2]
    congr 1
  · intro h; rw [h]
/-- tags are equal for equal messages only -/
theorem tag_tail {gr : GroupD} {s z : Int} {l : List CipherD} (hgd : goodG gr = true) (hz : expB gr z = true) (hz0 : z ≠ 0) (hl : l.all (ciB gr) = true) {i j : Nat} (hi : i < l.length) (hj : j < l.length) :
    (nth (tgL gr s z l) i == nth (tgL gr s z l) j) = (nth (egL gr s l) i == nth (egL gr s l) j) := by
  have hg := goodG_ok hgd
  obtain ⟨z0, z1⟩ := expB_bd hz
  have hci : ciB gr l[i] = true := List.all_eq_true.1 hl _ (List.getElem_mem _)
  have hcj : ciB gr l[j] = true := List.all_eq_true.1 hl _ (List.getElem_mem _)
  have hi' : i < (egM gr s l).length := by unfold egM; rw [List.length_map]; exact hi
  have hj' : j < (egM gr s l).length := by unfold egM; rw [List.length_map]; exact hj
  unfold tgL egL
  rw [nth_map hi, nth_map hj, nth_map hi', nth_map hj']
  have e1 : (egM gr s l)[i] = deC gr s l[i] := by simp [egM]
  have e2 : (egM gr s l)[j] = deC gr s l[j] := by simp [egM]
  have m1 : deC gr s l[i] ∈ egM gr s l := by rw [← e1]; exact List.getElem_mem _
  have m2 : deC gr s l[j] ∈ egM gr s l := by rw [← e2]; exact List.getElem_mem _
  rw [e1, e2, Bool.eq_iff_iff, beq_iff_eq, beq_iff_eq]
  constructor
  · intro h
    rw [powE_inj hg (by omega) (by omega) (elT_deC hgd hci) (elT_deC hgd hcj) h]
  · intro h
    have := (idx_iff m1 m2).1 (by omega)
    rw [this]
/-- the first place of a message among those so far -/
theorem idx_take {L : List Int} {k : Nat} (h : k < L.length) : (L.take (k + 1)).idxOf L[k] = L.idxOf L[k] := by
  have hm : L[k] ∈ L.take (k + 1) := by
    rw [List.take_succ_eq_append_getElem h]
    exact List.mem_append_right _ (List.mem_singleton_self _)
  generalize L[k] = x at hm ⊢
  have e : L = L.take (k + 1) ++ L.drop (k + 1) := (List.take_append_drop _ _).symm
  conv => rhs; rw [e]
  rw [List.idxOf_append, if_pos hm]
end Go.Proofs.Ytboahnklilmdpaa
namespace Go.Proofs.Ytboahnklilmdpaa
open Go.RowKit
set_option linter.unusedSimpArgs false
set_option linter.unusedVariables false

structure CastD where
  c : CipherD
  v : CipherD
  p : ProofD
/-- a credential -/
noncomputable def crB (gr : GroupD) (x : Int) : Bool := (x != 1) && elB gr x
theorem crB_el {gr : GroupD} {x : Int} (h : crB gr x = true) : elB gr x = true := by
  unfold crB at h; rw [Bool.and_eq_true] at h; exact h.2
end Go.Proofs.Ytboahnklilmdpaa
namespace Go.Proofs.Ytboahnklilmdpaa
open Go.RowKit
set_option linter.unusedSimpArgs false
set_option linter.unusedVariables false

/-- a cast in memory -/
def CaR (w : World) (v : Value) (x : CastD) : Prop := ∃ a b c, v = .agg #[.int .i64 x.c.a, .int .i64 x.c.b, .int .i64 x.v.a, .int .i64 x.v.b, a, b, c] ∧ ((I64 x.c.a ∧ I64 x.c.b) ∧ (I64 x.v.a ∧ I64 x.v.b)) ∧ Ints w a x.p.c ∧ Ints w b x.p.h ∧ Ints w c x.p.r
theorem CaR.below {w w' : World} {v : Value} {x : CastD} (h : CaR w v x) (hb : Below w.heap.size w w') : CaR w' v x := by
  obtain ⟨a, b, c, e, h0, h1, h2, h3⟩ := h; exact ⟨a, b, c, e, h0, h1.below hb, h2.below hb, h3.below hb⟩
set_option maxRecDepth 100000 in
set_option maxHeartbeats 2000000 in
theorem impl_isCredential (gr : GroupD) (x : Int) (w : World) (hg : OkG gr) (hx : I64 x) :
    Calls Try.prog 183 #[.agg #[.int .i64 gr.p, .int .i64 gr.q, .int .i64 gr.g], .int .i64 x] w fun e w' => e = .returned (.bool (crB gr x)) ∧ Below w.heap.size w w' := by
  have HG := Lib.hid hg
  clear hg
  cases hc1 : (x != 1) with
  | false =>
    have HV : Hid ((.bool (crB gr x) : Value) = .bool false) := by unfold Hid; simp [crB, hc1]
    rw [HV.out]
    go_enter Try.func183, Try.ntmps183
    go_wp2_with fail
    go_ret
    exact ⟨rfl, by (repeat (first | exact Below.refl _ _ | assumption | refine Below.drew ?_ | refine Below.alloc ?_ (by first | (simp; done) | (simp; omega)) _ | refine Below.setCell ?_ (by first | (simp; done) | (simp; omega)) _))⟩
  | true =>
    have HV : Hid ((.bool (crB gr x) : Value) = .bool (elB gr x)) := by unfold Hid; simp [crB, hc1]
    rw [HV.out]
    obtain ⟨W, hW⟩ : ∃ W, W = w.alloc (.cells #[.int .i64 gr.p, .int .i64 gr.q, .int .i64 gr.g] 39) := ⟨_, rfl⟩
    have HB : Hid (Below w.heap.size w W) := by unfold Hid; rw [hW]; (repeat (first | exact Below.refl _ _ | assumption | refine Below.drew ?_ | refine Below.alloc ?_ (by first | (simp; done) | (simp; omega)) _ | refine Below.setCell ?_ (by first | (simp; done) | (simp; omega)) _))
    have c0_0 : W.cell? ⟨w.heap.size, 0, none⟩ = some (.int .i64 gr.p) := by rw [hW]; simp [go_sem]
    have c0_1 : W.cell? ⟨w.heap.size, 1, none⟩ = some (.int .i64 gr.q) := by rw [hW]; simp [go_sem]
    have c0_2 : W.cell? ⟨w.heap.size, 2, none⟩ = some (.int .i64 gr.g) := by rw [hW]; simp [go_sem]
    have HSW : Hid (W.heap.size = w.heap.size + 1) := by unfold Hid; rw [hW]; simp
    go_enter Try.func183, Try.ntmps183
    go_wp2_with fail
    rw [← hW]
    have hse : w.heap.size + 1 = W.heap.size := by have := HSW.out; omega
    (try rw [hse])
    clear hse
    clear hW
    have hc : Below W.heap.size W W := Below.refl _ _
    go_wp2_with fail
    refine (impl_has gr x _ HG.out).mono ?_
    rintro e u1 ⟨rfl, hq1⟩
    replace hc := Below.next hc hq1
    replace c0_0 := box_at c0_0 hq1
    replace c0_1 := box_at c0_1 hq1
    replace c0_2 := box_at c0_2 hq1
    clear hq1
    go_wp2_with fail
    go_ret
    exact ⟨rfl, HB.out.trans (hc.mono HB.out.size)⟩
set_option maxRecDepth 100000 in
set_option maxHeartbeats 2000000 in
theorem spec_dCredential (gr : GroupD) (x : Int) (w : World) (hx : I64 x) :
    Calls Try.prog 185 #[.agg #[.int .i64 gr.p, .int .i64 gr.q, .int .i64 gr.g], .int .i64 x] w fun e w' => e = .returned (.bool (goodG gr && crB gr x)) ∧ Below w.heap.size w w' := by
  obtain ⟨W, hW⟩ : ∃ W, W = w.alloc (.cells #[.int .i64 gr.p, .int .i64 gr.q, .int .i64 gr.g] 39) := ⟨_, rfl⟩
  have HB : Hid (Below w.heap.size w W) := by unfold Hid; rw [hW]; (repeat (first | exact Below.refl _ _ | assumption | refine Below.drew ?_ | refine Below.alloc ?_ (by first | (simp; done) | (simp; omega)) _ | refine Below.setCell ?_ (by first | (simp; done) | (simp; omega)) _))
  have c0_0 : W.cell? ⟨w.heap.size, 0, none⟩ = some (.int .i64 gr.p) := by rw [hW]; simp [go_sem]
  have c0_1 : W.cell? ⟨w.heap.size, 1, none⟩ = some (.int .i64 gr.q) := by rw [hW]; simp [go_sem]
  have c0_2 : W.cell? ⟨w.heap.size, 2, none⟩ = some (.int .i64 gr.g) := by rw [hW]; simp [go_sem]
  have HSW : Hid (W.heap.size = w.heap.size + 1) := by unfold Hid; rw [hW]; simp
  go_enter Try.func185, Try.ntmps185
  go_wp2_with fail
  rw [← hW]
  have hse : w.heap.size + 1 = W.heap.size := by have := HSW.out; omega
  (try rw [hse])
  clear hse
  clear hW
  have hc : Below W.heap.size W W := Below.refl _ _
  have HCC : Hid (∀ u, Below W.heap.size W u → u.cell? ⟨w.heap.size, 0, none⟩ = some (.int .i64 gr.p) ∧ u.cell? ⟨w.heap.size, 1, none⟩ = some (.int .i64 gr.q) ∧ u.cell? ⟨w.heap.size, 2, none⟩ = some (.int .i64 gr.g)) := fun u h => ⟨box_at c0_0 h, box_at c0_1 h, box_at c0_2 h⟩
  go_wp2_with fail
  refine (spec_l2Good gr _).mono ?_
  rintro e u1 ⟨rfl, hq1⟩
  replace hc := Below.next hc hq1
  clear hq1 c0_0 c0_1 c0_2
  obtain ⟨c0_0, c0_1, c0_2⟩ := HCC.out _ hc
  cases hc1 : goodG gr with
  | false =>
    have Hhc1 := Lib.hid hc1
    clear hc1
    go_wp2_with fail
    have HV : Hid ((.bool (goodG gr && crB gr x) : Value) = .bool false) := by unfold Hid; simp [crB, Hhc1.out]
    go_ret
    exact ⟨congrArg Ending.returned HV.out.symm, HB.out.trans (hc.mono HB.out.size)⟩
  | true =>
    have HG := Lib.hid (goodG_ok hc1)
    have Hhc1 := Lib.hid hc1
    clear hc1
    go_wp2_with fail
    refine (spec_gIs gr _ [x] _ HG.out (OwnI.lit (B := 0) _ (Nat.zero_le _) (l := [x]) (AllI64.cons hx AllI64.nil) rfl (by simp [maxLen]) 1 rfl).ints).mono ?_
    rintro e u2 ⟨rfl, hq2⟩
    replace hq2 := Below.next (keep_al (Below.refl _ _) _) hq2
    replace hc := Below.next hc hq2
    clear hq2 c0_0 c0_1 c0_2
    obtain ⟨c0_0, c0_1, c0_2⟩ := HCC.out _ hc
    cases hc2 : [x].all (elB gr) with
    | false =>
      have Hhc2 := Lib.hid hc2
      clear hc2
      go_wp2_with fail
      have HV : Hid ((.bool (goodG gr && crB gr x) : Value) = .bool false) := by unfold Hid; have qhc2 := Hhc2.out; simp only [List.all_cons, List.all_nil, Bool.and_true] at qhc2; simp [crB, Hhc1.out, qhc2]
      go_ret
      exact ⟨congrArg Ending.returned HV.out.symm, HB.out.trans (hc.mono HB.out.size)⟩
    | true =>
      have Hhc2 := Lib.hid hc2
      clear hc2
      cases hc3 : (x != 1) with
      | false =>
        go_wp2_with fail
        have HV : Hid ((.bool (goodG gr && crB gr x) : Value) = .bool false) := by unfold Hid; have qhc2 := Hhc2.out; simp only [List.all_cons, List.all_nil, Bool.and_true] at qhc2; simp [crB, Hhc1.out, qhc2, hc3]
        go_ret
        exact ⟨congrArg Ending.returned HV.out.symm, HB.out.trans (hc.mono HB.out.size)⟩
      | true =>
        go_wp2_with fail
        have HV : Hid ((.bool (goodG gr && crB gr x) : Value) = .bool true) := by unfold Hid; have qhc2 := Hhc2.out; simp only [List.all_cons, List.all_nil, Bool.and_true] at qhc2; simp [crB, Hhc1.out, qhc2, hc3]
        go_ret
        exact ⟨congrArg Ending.returned HV.out.symm, HB.out.trans (hc.mono HB.out.size)⟩
end Go.Proofs.Ytboahnklilmdpaa
