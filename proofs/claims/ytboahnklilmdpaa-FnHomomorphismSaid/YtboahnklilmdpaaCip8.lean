/- Ciphertexts: the plain law of re-encryption; comparison of lists (printed by gen_cip8.py). -/
import Derived.Test.YtboahnklilmdpaaCip7
import Derived.Test.YtboahnklilmdpaaLawPow
namespace Go.Proofs.Ytboahnklilmdpaa
open Go.RowKit
set_option linter.unusedSimpArgs false
set_option linter.unusedVariables false

theorem mulL2 {gr : GroupD} (a b : Int) : mulL gr [a, b] = a * b % gr.p := by
  unfold mulL
  simp only [List.foldl_cons, List.foldl_nil, Int.one_mul]
  rw [emod_mul_left]
theorem elB_intro {gr : GroupD} (hg : OkG gr) {x : Int} (h0 : 0 ≤ x) (h1 : x < gr.p) (h : powM x gr.q gr.p = 1) : elB gr x = true := by
  have hp := hg.p1
  have hq := hg.q1
  have h2 : x ≠ 0 := fun h3 => by
    rw [h3] at h
    unfold powM at h
    obtain ⟨n, hn⟩ : ∃ n, gr.q.toNat = n + 1 := ⟨gr.q.toNat - 1, by omega⟩
    rw [hn, Int.pow_succ, Int.mul_zero] at h
    simp at h
  unfold elB
  rw [h, Bool.and_eq_true, decide_eq_true_iff]
  exact ⟨by omega, rfl⟩
theorem elB_mul {gr : GroupD} (hg : OkG gr) {a b : Int} (ha : elB gr a = true) (hb : elB gr b = true) : elB gr (mulL gr [a, b]) = true := by
  have hp := hg.p1
  rw [mulL2]
  refine elB_intro hg (Int.emod_nonneg _ (by omega)) (Int.emod_lt_of_pos _ (by omega)) ?_
  have h1 := elB_pow ha
  have h2 := elB_pow hb
  unfold powM at h1 h2 ⊢
  rw [emod_pow, Int.mul_pow, Int.mul_emod, h1, h2]
  exact Int.emod_eq_of_lt (by omega) (by omega)
theorem elB_one {gr : GroupD} (hg : OkG gr) : elB gr 1 = true := by
  have hp := hg.p1
  refine elB_intro hg (by omega) (by omega) ?_
  unfold powM
  rw [Int.one_pow]
  exact Int.emod_eq_of_lt (by omega) (by omega)
theorem elB_gen {gr : GroupD} (h : goodG gr = true) : elB gr gr.g = true := by
  have hg := goodG_ok h
  refine elB_intro hg (by have := hg.g1; omega) (by have := hg.g2; omega) ?_
  unfold goodG at h
  simp only [Bool.and_eq_true, beq_iff_eq] at h
  exact h.2.2.2.2.2.2
/-- a power, and the power of the opposite exponent -/
theorem powE_opp {gr : GroupD} (hg : OkG gr) {x r : Int} (h : elB gr x = true) (hr : expB gr r = true) : powE gr x r * powE gr x ((-r) % gr.q) % gr.p = 1 := by
  have hp := hg.p1
  have hq := hg.q1
  obtain ⟨r0, r1⟩ := expB_bd hr
  have hx := elB_pow h
  unfold powM at hx
  unfold powE powM
  rw [← Int.mul_emod, ← Int.pow_add, Int.emod_emod]
  rcases Int.le_iff_eq_or_lt.1 r0 with h0 | h0
  · subst h0
    simp only [Int.zero_emod, Int.neg_zero, Int.toNat_zero, Nat.add_zero, Int.pow_zero]
    exact Int.emod_eq_of_lt (by omega) (by omega)
  · have e1 : r % gr.q = r := Int.emod_eq_of_lt (by omega) (by omega)
    have e2 : (-r) % gr.q = gr.q - r := by
      rw [show (-r) = (gr.q - r) - gr.q by omega, Int.sub_emod, Int.emod_self, Int.sub_zero, Int.emod_emod, Int.emod_eq_of_lt (by omega) (by omega)]
    rw [e1, e2, show r.toNat + (gr.q - r).toNat = gr.q.toNat by omega]
    exact hx
theorem expB_opp {gr : GroupD} (hg : OkG gr) (r : Int) : expB gr ((-r) % gr.q) = true := by
  have hq := hg.q1
  unfold expB
  rw [decide_eq_true_iff]
  have h1 := Int.emod_nonneg (-r) (show gr.q ≠ 0 by omega)
  have h2 := Int.emod_lt_of_pos (-r) (show 0 < gr.q by omega)
  omega
theorem mul_opp {p a x y : Int} (ha : 0 ≤ a) (ha2 : a < p) (h : x * y % p = 1) : (a * x % p) * y % p = a := by
  rw [emod_mul_left, Int.mul_assoc, ← emod_mul_right, h, Int.mul_one]
  exact Int.emod_eq_of_lt ha ha2
theorem ciB_reC {gr : GroupD} (hgd : goodG gr = true) {key : Int} {c : CipherD} {r : Int} (hk : elB gr key = true) (hc : ciB gr c = true) : ciB gr (reC gr key c r) = true := by
  have hg := goodG_ok hgd
  unfold ciB at hc ⊢
  rw [Bool.and_eq_true] at hc ⊢
  exact ⟨elB_mul hg hc.1 (elB_powE hg (elB_gen hgd) r), elB_mul hg hc.2 (elB_mul hg (elB_one hg) (elB_powE hg hk r))⟩
/-- re-encryption by opposite coins comes back -/
theorem reC_opp {gr : GroupD} (hgd : goodG gr = true) {key : Int} {c : CipherD} {r : Int} (hk : elB gr key = true) (hc : ciB gr c = true) (hr : expB gr r = true) : reC gr key (reC gr key c r) ((-r) % gr.q) = c := by
  have hg := goodG_ok hgd
  unfold ciB at hc
  rw [Bool.and_eq_true] at hc
  have ha := elB_bd hc.1
  have hb := elB_bd hc.2
  have one : ∀ e, mulL gr [1, powE gr key e] = powE gr key e := fun e => mulL_one (powE_bd hg key e).1 (powE_bd hg key e).2
  cases c with
  | mk a b =>
    simp only at ha hb
    unfold reC c2 enC
    simp only [one, mulL2]
    rw [mul_opp (by omega) (by omega) (powE_opp hg (elB_gen hgd) hr), mul_opp (by omega) (by omega) (powE_opp hg hk hr)]
theorem laws_qMod (n m : Int) (w : World) (hn : I64 n) (h1 : 0 < m) (h2 : m ≤ 4000000000) :
    Calls Try.prog 35 #[.int .i64 n, .int .i64 m] w fun e w' => e = .returned (.int .i64 (n % m)) ∧ w = w' := by
  have ht := tmod_bd n m h1
  have HM := Lib.hid (tmod_mod n m h1)
  have hn1 := hn.1; have hn2 := hn.2
  clear hn
  go_enter Try.func35, Try.ntmps35
  go_wp2
  go_ret
  exact ⟨ret_int (by first | exact HM.out | (have := HM.out; simpa using this)), rfl⟩
set_option maxRecDepth 100000 in
set_option maxHeartbeats 1000000 in
theorem laws_qCiphersEq (v1 v2 : Value) (l : List CipherD) (w : World) (h1 : RdR rCipher w v1 l) (h2 : RdR rCipher w v2 l) :
    Calls Try.prog 33 #[v1, v2] w fun e w' => e = .returned (.bool true) ∧ Below w.heap.size w w' := by
  obtain ⟨a1, n, c1, rfl⟩ := h1.shape
  obtain ⟨a2, n2, c2, rfl⟩ := h2.shape
  have e1 := h1.len
  have e2 := h2.len
  obtain ⟨k1, k2⟩ := h1.capMax
  unfold maxLen at k2
  obtain rfl : n = n2 := by omega
  have HE := Lib.hid e1
  clear e1 e2
  have H1 := Lib.hid h1
  have H2 := Lib.hid h2
  clear h1 h2
  have hnn : ((n : Int) == (n : Int)) = true := by simp
  go_enter Try.func33, Try.ntmps33
  go_wp2_with fail
  go_loopg [13] n (fun gh iv wr => ∃ k : Nat, k + gh = n ∧ iv = .int .i64 k ∧ Below w.heap.size w wr)
  case atStart => exact ⟨0, by omega, rfl, Below.refl _ _⟩
  case round =>
    obtain ⟨k, hkg, rfl, hb⟩ := hrel
    by_cases hlt : k < n
    · have HK : Hid (k < l.length) := by unfold Hid; rw [HE.out]; exact hlt
      obtain ⟨b1, o1, rfl, hc1⟩ := H1.out.at_ (by omega)
      obtain ⟨b2, o2, rfl, hc2⟩ := H2.out.at_ (by omega)
      obtain ⟨vs1, hx1, hr1⟩ := hc1 k HK.out
      obtain ⟨vs2, hx2, hr2⟩ := hc2 k HK.out
      generalize l[k]'HK.out = x at hr1 hr2
      obtain ⟨ers, _, _⟩ := (rdCipher (w := w) (v := .agg vs1.toArray) (d := x)).1 ⟨vs1, rfl, hr1⟩
      obtain rfl : vs1 = [.int .i64 x.a, .int .i64 x.b] := by have h := Value.agg.inj ers; simpa using congrArg Array.toList h
      obtain ⟨ers2, _, _⟩ := (rdCipher (w := w) (v := .agg vs2.toArray) (d := x)).1 ⟨vs2, rfl, hr2⟩
      obtain rfl : vs2 = [.int .i64 x.a, .int .i64 x.b] := by have h := Value.agg.inj ers2; simpa using congrArg Array.toList h
      clear ers ers2 hr1 hr2 hc1 hc2
      have y0 : wr.cell? ⟨b1, o1 + k * 2, none⟩ = some (.int .i64 x.a) := box_at (hx1 0 (by decide)) hb
      have y1 : wr.cell? ⟨b1, o1 + k * 2 + 1, none⟩ = some (.int .i64 x.b) := box_at (hx1 1 (by decide)) hb
      have y2 : wr.cell? ⟨b2, o2 + k * 2, none⟩ = some (.int .i64 x.a) := box_at (hx2 0 (by decide)) hb
      have y3 : wr.cell? ⟨b2, o2 + k * 2 + 1, none⟩ = some (.int .i64 x.b) := box_at (hx2 1 (by decide)) hb
      have hc : Below wr.heap.size wr wr := Below.refl _ _
      have HB := Lib.hid hb
      clear hb hx1 hx2
      have b0 : (0 : Int) ≤ (k : Int) := by omega
      have bk1 : (k : Int) < (n : Int) := by omega
      have xa : (x.a == x.a) = true := by simp
      have xb : (x.b == x.b) = true := by simp
      have hwk : IntKind.i64.wrap ((k : Int) + 1) = (k : Int) + 1 := IntWalk.i64_in _ (by omega)
      go_wp2_with fail
      try (go_wp2_with fail)
      refine wp_region_noPanic ?_
      refine wp_region_P (fun w' => w'.cell? ⟨b1, o1 + k * 2, none⟩ = some (.int .i64 x.a) ∧ w'.cell? ⟨b1, o1 + k * 2 + 1, none⟩ = some (.int .i64 x.b) ∧ w'.cell? ⟨b2, o2 + k * 2, none⟩ = some (.int .i64 x.a) ∧ w'.cell? ⟨b2, o2 + k * 2 + 1, none⟩ = some (.int .i64 x.b)) 11 [(0, []), (1, []), (2, [1, 0]), (3, [0]), (4, []), (5, []), (6, [1, 0]), (7, [0]), (8, [4, 0])] [] (by kernel_rfl) (by kernel_rfl) (by kernel_rfl) rfl (fun _ _ _ _ h => h) (fun w' h => ⟨box_at y0 h, box_at y1 h, box_at y2 h, box_at y3 h⟩) ?_
      simp only [pickP, pickN, List.getElem?_cons_zero, List.getElem?_cons_succ]
      -- 0: move t0
      refine' chainP_read (d := (some 16)) _ rfl rfl (fun w' hS' => ?_) ?_; rotate_left
      · simp only [lookP, allP, Act.put, List.getElem?_cons_zero, List.getElem?_cons_succ, List.setIfInBounds_toArray, List.set_cons_zero, List.set_cons_succ]
        (try dsimp only at hS')
        go_simp
        (try with_reducible rfl)
      -- 1: move t5
      refine' chainP_read (d := (some 17)) _ rfl rfl (fun w' hS' => ?_) ?_; rotate_left
      · simp only [lookP, allP, Act.put, List.getElem?_cons_zero, List.getElem?_cons_succ, List.setIfInBounds_toArray, List.set_cons_zero, List.set_cons_succ]
        (try dsimp only at hS')
        go_simp
        (try with_reducible rfl)
      -- 2: indexAddr 52 t16 t17
      refine' chainP_read (d := (some 18)) _ rfl rfl (fun w' hS' => ?_) ?_; rotate_left
      · simp only [lookP, allP, Act.put, List.getElem?_cons_zero, List.getElem?_cons_succ, List.setIfInBounds_toArray, List.set_cons_zero, List.set_cons_succ]
        (try dsimp only at hS')
        go_simp
        (try with_reducible rfl)
      -- 3: load 58 t18
      refine' chainP_read (d := (some 19)) _ rfl rfl (fun w' hS' => ?_) ?_; rotate_left
      · simp only [lookP, allP, Act.put, List.getElem?_cons_zero, List.getElem?_cons_succ, List.setIfInBounds_toArray, List.set_cons_zero, List.set_cons_succ]
        (try dsimp only at hS')
        go_simp
        (try with_reducible rfl)
      -- 4: move t1
      refine' chainP_read (d := (some 20)) _ rfl rfl (fun w' hS' => ?_) ?_; rotate_left
      · simp only [lookP, allP, Act.put, List.getElem?_cons_zero, List.getElem?_cons_succ, List.setIfInBounds_toArray, List.set_cons_zero, List.set_cons_succ]
        (try dsimp only at hS')
        go_simp
        (try with_reducible rfl)
      -- 5: move t5
      refine' chainP_read (d := (some 21)) _ rfl rfl (fun w' hS' => ?_) ?_; rotate_left
      · simp only [lookP, allP, Act.put, List.getElem?_cons_zero, List.getElem?_cons_succ, List.setIfInBounds_toArray, List.set_cons_zero, List.set_cons_succ]
        (try dsimp only at hS')
        go_simp
        (try with_reducible rfl)
      -- 6: indexAddr 52 t20 t21
      refine' chainP_read (d := (some 22)) _ rfl rfl (fun w' hS' => ?_) ?_; rotate_left
      · simp only [lookP, allP, Act.put, List.getElem?_cons_zero, List.getElem?_cons_succ, List.setIfInBounds_toArray, List.set_cons_zero, List.set_cons_succ]
        (try dsimp only at hS')
        go_simp
        (try with_reducible rfl)
      -- 7: load 58 t22
      refine' chainP_read (d := (some 23)) _ rfl rfl (fun w' hS' => ?_) ?_; rotate_left
      · simp only [lookP, allP, Act.put, List.getElem?_cons_zero, List.getElem?_cons_succ, List.setIfInBounds_toArray, List.set_cons_zero, List.set_cons_succ]
        (try dsimp only at hS')
        go_simp
        (try with_reducible rfl)
      -- 8: binOp Binneq 58 t19 t23 58
      refine' chainP_read (d := (some 24)) _ rfl rfl (fun w' hS' => ?_) ?_; rotate_left
      · simp only [lookP, allP, Act.put, List.getElem?_cons_zero, List.getElem?_cons_succ, List.setIfInBounds_toArray, List.set_cons_zero, List.set_cons_succ]
        (try dsimp only at hS')
        go_simp
        (try with_reducible rfl)
      refine chainP_nil (fun u1 hS' => ?_)
      simp only [allP, Act.put, List.setIfInBounds_toArray, List.set_cons_zero, List.set_cons_succ]
      have hq1 := hS'.1
      clear hS'
      replace hc := Below.next hc hq1
      replace y0 := box_at y0 hq1
      replace y1 := box_at y1 hq1
      replace y2 := box_at y2 hq1
      replace y3 := box_at y3 hq1
      clear hq1
      clear y0 y1 y2 y3
      have HC := Lib.hid hc
      clear hc
      go_wp2_with fail
      refine NoPanic.normal ?_
      go_wp2_with fail
      go_roundg (n - (k + 1))
      case measure => omega
      case rel => exact ⟨k + 1, by omega, by go_num, HB.out.trans (HC.out.mono HB.out.size)⟩
    · obtain rfl : n = k := by omega
      have HB := Lib.hid hb
      clear hb
      go_wp2_with fail
      go_ret
      exact ⟨rfl, HB.out⟩
end Go.Proofs.Ytboahnklilmdpaa
