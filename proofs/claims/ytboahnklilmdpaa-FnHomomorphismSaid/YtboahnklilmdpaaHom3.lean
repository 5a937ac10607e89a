/- The plain law of homomorphism (printed by gen_hom3.py). -/
import Derived.Test.YtboahnklilmdpaaHom1
namespace Go.Proofs.Ytboahnklilmdpaa
open Go.RowKit
set_option linter.unusedSimpArgs false
set_option linter.unusedVariables false

theorem powM_mul (a b m : Int) (k : Nat) : (a * b % m) ^ k % m = (a ^ k % m) * (b ^ k % m) % m := by
  rw [emod_pow, Int.mul_pow, Int.mul_emod]
theorem powE_mul (gr : GroupD) (a b e : Int) : powE gr (a * b % gr.p) e = powE gr a e * powE gr b e % gr.p := by
  unfold powE powM
  exact powM_mul _ _ _ _
theorem powE_comm (gr : GroupD) (x e f : Int) : powE gr (powE gr x e) f = powE gr (powE gr x f) e := by
  unfold powE powM
  rw [emod_pow, emod_pow, ← Int.pow_mul, ← Int.pow_mul, Nat.mul_comm]
theorem powE_one {gr : GroupD} (hg : OkG gr) (e : Int) : powE gr 1 e = 1 := by
  have := hg.p1
  unfold powE powM
  rw [Int.one_pow]
  exact Int.emod_eq_of_lt (by omega) (by omega)
theorem deC_mul (gr : GroupD) (s : Int) (x y : CipherD) : deC gr s (c2 gr x y) = deC gr s x * deC gr s y % gr.p := by
  unfold deC c2
  simp only [mulL2]
  rw [powE_mul, powE_mul]
  rw [← Int.mul_emod, ← Int.mul_emod]
  rw [Int.mul_assoc, Int.mul_assoc, Int.mul_left_comm y.b]
theorem deC_pow (gr : GroupD) (s : Int) (c : CipherD) (e : Int) : deC gr s (pwC gr c e) = powE gr (deC gr s c) e := by
  unfold deC pwC
  simp only [mulL2]
  rw [powE_mul, powE_comm gr c.a e s, powE_comm gr _ e (-1)]
theorem deC_one {gr : GroupD} (hg : OkG gr) (s : Int) : deC gr s ⟨1, 1⟩ = 1 := by
  have := hg.p1
  unfold deC
  rw [mulL2, powE_one hg, powE_one hg]
  show (1 : Int) * 1 % gr.p = 1
  exact Int.emod_eq_of_lt (by omega) (by omega)
/-- the product of powers decrypts to the product of powers of the messages -/
theorem deC_wC {gr : GroupD} (hg : OkG gr) (s : Int) (l : List CipherD) (es : List Int) : deC gr s (wC gr l es) = prodL gr (l.map (deC gr s)) es := by
  unfold wC prodL
  suffices h : ∀ (l : List CipherD) (es : List Int) (o : CipherD), deC gr s ((l.zip es).foldl (fun o x => c2 gr o (pwC gr x.1 x.2)) o) = ((l.map (deC gr s)).zip es).foldl (fun o x => o * powE gr x.1 x.2 % gr.p) (deC gr s o) by
    rw [h, deC_one hg]
  intro l
  induction l with
  | nil => intro es o; rfl
  | cons c l ih =>
    intro es o
    cases es with
    | nil => rfl
    | cons e es =>
      simp only [List.zip_cons_cons, List.map_cons, List.foldl_cons]
      rw [ih, deC_mul, deC_pow]
theorem wpB_parts {gr : GroupD} {l : List CipherD} {es : List Int} (h : wpB gr l es = true) : goodG gr = true ∧ cisB gr l = true ∧ es.length = l.length ∧ es.all (expB gr) = true := by
  unfold wpB at h
  simp only [Bool.and_eq_true, decide_eq_true_iff] at h
  exact ⟨h.1, h.2.1, h.2.2.1, h.2.2.2⟩
theorem ciB_c2 {gr : GroupD} (hgd : goodG gr = true) {x y : CipherD} (hx : ciB gr x = true) (hy : ciB gr y = true) : ciB gr (c2 gr x y) = true := by
  have hg := goodG_ok hgd
  unfold ciB at hx hy ⊢
  rw [Bool.and_eq_true] at hx hy ⊢
  exact ⟨elB_mul hg hx.1 hy.1, elB_mul hg hx.2 hy.2⟩
theorem ciB_pwC {gr : GroupD} (hgd : goodG gr = true) {x : CipherD} (e : Int) (hx : ciB gr x = true) : ciB gr (pwC gr x e) = true := by
  have hg := goodG_ok hgd
  unfold ciB at hx ⊢
  rw [Bool.and_eq_true] at hx ⊢
  exact ⟨elB_powE hg hx.1 e, elB_powE hg hx.2 e⟩
theorem ciB_wC {gr : GroupD} (hgd : goodG gr = true) {l : List CipherD} (es : List Int) (h : ∀ c ∈ l, ciB gr c = true) : ciB gr (wC gr l es) = true := by
  unfold wC
  have hg := goodG_ok hgd
  suffices H : ∀ (l : List CipherD) (es : List Int) (o : CipherD), (∀ c ∈ l, ciB gr c = true) → ciB gr o = true → ciB gr ((l.zip es).foldl (fun o x => c2 gr o (pwC gr x.1 x.2)) o) = true from
    H l es ⟨1, 1⟩ h (by unfold ciB; rw [elB_one hg]; rfl)
  intro l
  induction l with
  | nil => intro es o _ ho; exact ho
  | cons c l ih =>
    intro es o hl ho
    cases es with
    | nil => exact ho
    | cons e es =>
      rw [List.zip_cons_cons, List.foldl_cons]
      exact ih es _ (fun x hx => hl x (by simp [hx])) (ciB_c2 hgd ho (ciB_pwC hgd e (hl c (by simp))))
/-- all that the law's tail wants -/
theorem hom_tail {gr : GroupD} {l : List CipherD} {es : List Int} {s : Int} (h : wpB gr l es = true) (hs : expB gr s = true) :
    ppB gr (l.map (deC gr s)) es = true ∧ deB gr s (wpR gr l es) = true ∧ ppR gr (l.map (deC gr s)) es = deR gr s (wpR gr l es) ∧ mcB gr l = true ∧ (∀ c ∈ l, deB gr s c = true) ∧ (l.length = 0 → csB gr l = false) ∧ (0 < l.length → csB gr l = true ∧ csR gr l = mcR gr l) := by
  obtain ⟨h1, h2, h3, h4⟩ := wpB_parts h
  have hg := goodG_ok h1
  have h2' := h2
  unfold cisB at h2'
  simp only [Bool.and_eq_true, decide_eq_true_iff, List.all_eq_true] at h2'
  have hR : wpR gr l es = wC gr l es := by unfold wpR; rw [if_pos h]
  have hW := ciB_wC h1 es h2'.2
  have hD : deB gr s (wpR gr l es) = true := by unfold deB; rw [h1, hs, hR, hW]; rfl
  have hP : ppB gr (l.map (deC gr s)) es = true := by
    unfold ppB
    rw [h1, h4]
    simp only [List.length_map, Bool.true_and, Bool.and_true, Bool.and_eq_true, decide_eq_true_iff, List.all_eq_true]
    refine ⟨h2'.1, h3, fun x hx => ?_⟩
    obtain ⟨c, hc, rfl⟩ := List.mem_map.1 hx
    exact elB_deC h1 (h2'.2 c hc)
  refine ⟨hP, hD, ?_, ?_, fun c hc => ?_, fun h0 => ?_, fun h0 => ?_⟩
  · unfold ppR
    rw [if_pos hP, deR_eq hD, hR, deC_wC hg]
  · unfold mcB; rw [h1, h2]; rfl
  · unfold deB; rw [h1, hs, h2'.2 c hc]; rfl
  · unfold csB; rw [h0]; rfl
  · unfold csB csR mcB
    rw [h1, h2, if_pos h0, decide_eq_true h0]
    exact ⟨rfl, rfl⟩
/-- an exponent that was found is the logarithm -/
theorem dy_parts {gr : GroupD} {s m : Int} {c : CipherD} (h : dyB gr s c m = true) : deB gr s c = true ∧ ∃ j : Nat, dyR gr s c m = j ∧ (j : Int) < gr.q ∧ exB gr gr.g (j : Int) = true ∧ exR gr gr.g (j : Int) = deR gr s c := by
  unfold dyB at h
  rw [Bool.and_eq_true] at h
  obtain ⟨h1, h2⟩ := h
  obtain ⟨hg, hb, j, hj, hjm, hjq, hyj⟩ := loB_parts h2
  have hx : exB gr gr.g (j : Int) = true := by
    unfold exB
    rw [hg, hb, show expB gr (j : Int) = true from decide_eq_true ⟨by omega, by omega⟩]; rfl
  refine ⟨h1, j, by unfold dyR; rw [if_pos h1]; exact hj, hjq, hx, ?_⟩
  unfold exR
  rw [if_pos hx, powE_yE _ hjq, hyj]
theorem laws_qModE (n m : Int) (w : World) (hn : I64 n) (h1 : 0 < m) (h2 : m ≤ 4000000000) :
    Calls Try.prog 35 #[.int .i64 n, .int .i64 m] w fun e w' => (∃ r : Int, e = .returned (.int .i64 r) ∧ 0 ≤ r ∧ r < m) ∧ w = w' := by
  refine (laws_qMod n m w hn h1 h2).mono ?_
  rintro e w' ⟨rfl, rfl⟩
  exact ⟨⟨_, rfl, Int.emod_nonneg _ (by omega), Int.emod_lt_of_pos _ h1⟩, rfl⟩
theorem mapD_succ {gr : GroupD} {s : Int} {l : List CipherD} {k : Nat} (h : k < l.length) : (l.map (deC gr s)).take (k + 1) = (l.map (deC gr s)).take k ++ [deC gr s l[k]] := by
  rw [List.take_succ_eq_append_getElem (by rw [List.length_map]; exact h), List.getElem_map]
end Go.Proofs.Ytboahnklilmdpaa
