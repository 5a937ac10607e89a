/- The law on products of powers and logarithms: its walk. -/
import Derived.Test.YtboahnklilmdpaaDrG7
import Derived.Test.YtboahnklilmdpaaPow3
namespace Go.Proofs.Ytboahnklilmdpaa
open Go.RowKit
set_option linter.unusedSimpArgs false
set_option linter.unusedVariables false

theorem elB_powE {gr : GroupD} (hg : OkG gr) {x : Int} (h : elB gr x = true) (e : Int) : elB gr (powE gr x e) = true := by
  have hp := hg.p1
  have hq := hg.q1
  obtain ⟨h0, h1⟩ := powE_bd hg x e
  have hx := elB_pow h
  obtain ⟨k, hk⟩ : ∃ k, (e % gr.q).toNat = k := ⟨_, rfl⟩
  have e1 : powM (powE gr x e) gr.q gr.p = 1 := by
    unfold powE powM
    rw [hk, emod_pow]
    unfold powM at hx
    rw [← Int.pow_mul, Nat.mul_comm, Int.pow_mul, ← emod_pow, hx]
    rw [show (1 : Int) ^ k = 1 from Int.one_pow]
    exact Int.emod_eq_of_lt (by omega) (by omega)
  have h2 : powE gr x e ≠ 0 := fun h3 => by
    rw [h3] at e1
    unfold powM at e1
    obtain ⟨n, hn⟩ : ∃ n, gr.q.toNat = n + 1 := ⟨gr.q.toNat - 1, by omega⟩
    rw [hn, Int.pow_succ, Int.mul_zero] at e1
    simp at e1
  unfold elB
  rw [e1, Bool.and_eq_true, decide_eq_true_iff]
  exact ⟨by omega, rfl⟩
theorem powE_yE {gr : GroupD} (b : Int) {j : Nat} (h : (j : Int) < gr.q) : powE gr b j = yE gr b j := by
  unfold powE yE
  rw [Int.emod_eq_of_lt (by omega) h]
def pwL (gr : GroupD) (l es : List Int) : List Int := (l.zip es).map fun x => powE gr x.1 x.2
theorem mulL_pwL (gr : GroupD) (l es : List Int) : mulL gr (pwL gr l es) = prodL gr l es := by
  unfold mulL pwL prodL
  rw [List.foldl_map]
theorem pwL_el {gr : GroupD} (hg : OkG gr) {l es : List Int} (h : l.all (elB gr) = true) : (pwL gr l es).all (elB gr) = true := by
  refine List.all_eq_true.2 fun y hy => ?_
  obtain ⟨x, hx, rfl⟩ := List.mem_map.1 hy
  exact elB_powE hg (List.all_eq_true.1 h _ (List.of_mem_zip hx).1) _
theorem pwL_length {gr : GroupD} {l es : List Int} (h : es.length = l.length) : (pwL gr l es).length = l.length := by
  unfold pwL; rw [List.length_map, List.length_zip, h, Nat.min_self]
theorem pwL_succ {gr : GroupD} {l es : List Int} {k : Nat} (h : k < l.length) (h2 : k < es.length) : (pwL gr l es).take (k + 1) = (pwL gr l es).take k ++ [powE gr (nth l k) (nth es k)] := by
  unfold pwL
  rw [← List.map_take, ← List.map_take, zip_take_succ h h2, List.map_append]; rfl
theorem ppB_parts {gr : GroupD} {l es : List Int} (h : ppB gr l es = true) : goodG gr = true ∧ l.length ≤ 24 ∧ es.length = l.length ∧ l.all (elB gr) = true ∧ es.all (expB gr) = true := by
  unfold ppB at h
  simp only [Bool.and_eq_true, decide_eq_true_iff] at h
  exact h
theorem loB_parts {gr : GroupD} {b x m : Int} (h : loB gr b x m = true) : goodG gr = true ∧ elB gr b = true ∧ ∃ j : Nat, loR gr b x m = j ∧ (j : Int) ≤ m ∧ (j : Int) < gr.q ∧ yE gr b j = x := by
  have hr : loR gr b x m = lgF gr b x 0 (lgM gr m) := by unfold loR; rw [if_pos h]
  unfold loB at h
  rw [Bool.and_eq_true, decide_eq_true_iff] at h
  obtain ⟨h1, h2⟩ := h
  unfold loA at h1
  simp only [Bool.and_eq_true, decide_eq_true_iff] at h1
  obtain ⟨hg, ⟨hb, _⟩, hm⟩ := h1
  refine ⟨hg, hb, ?_⟩
  rcases lgF_some (gr := gr) (b := b) (x := x) (n := lgM gr m) (k := 0) with h3 | ⟨j, h3, _, h4, h5⟩
  · rw [h3] at h2; omega
  · have := (goodG_ok hg).q1
    unfold lgM at h4
    exact ⟨j, hr.trans h3, by omega, by omega, h5⟩
end Go.Proofs.Ytboahnklilmdpaa
