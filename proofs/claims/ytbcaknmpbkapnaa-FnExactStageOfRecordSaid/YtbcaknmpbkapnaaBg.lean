/- Bundle of walks and laws: NumP, Grp1, Grp2, Grp3, Grp4, Grp5. -/
import Derived.Test.YtbcaknmpbkapnaaBa
import Derived.Test.YtbcaknmpbkapnaaBm
/- Residues and primes: plain Lean. -/

namespace Go.Proofs.Ytbcaknmpbkapnaa
open Go.RowKit

/-! ### powers of residues -/
theorem emod_mul_left (a b m : Int) : ((a % m) * b) % m = (a * b) % m := by rw [Int.mul_emod, Int.emod_emod, ← Int.mul_emod]
theorem emod_mul_right (a b m : Int) : (a * (b % m)) % m = (a * b) % m := by rw [Int.mul_emod, Int.emod_emod, ← Int.mul_emod]
theorem emod_pow (a m : Int) (k : Nat) : (a % m) ^ k % m = a ^ k % m := by
  induction k with
  | zero => simp
  | succ k ih => rw [Int.pow_succ, Int.pow_succ, Int.mul_emod, ih, Int.emod_emod, ← Int.mul_emod]
/-- the power of a residue -/
def powM (a e m : Int) : Int := a ^ e.toNat % m
theorem powM_bd {a e m : Int} (h : 0 < m) : 0 ≤ powM a e m ∧ powM a e m < m := ⟨Int.emod_nonneg _ (by omega), Int.emod_lt_of_pos _ h⟩
theorem sq_pow (a : Int) (k : Nat) : (a * a) ^ k = a ^ (2 * k) := by
  rw [Int.pow_mul, Int.pow_succ, Int.pow_succ, Int.pow_zero, Int.one_mul]
theorem powM_even {out a : Int} {e : Nat} {m : Int} (h : e % 2 = 0) : (out * (a * a % m) ^ (e / 2)) % m = (out * a ^ e) % m := by
  rw [Int.mul_emod, emod_pow, ← Int.mul_emod, sq_pow, show 2 * (e / 2) = e by omega]
theorem powM_odd {out a : Int} {e : Nat} {m : Int} (h : e % 2 = 1) : ((out * a % m) * (a * a % m) ^ (e / 2)) % m = (out * a ^ e) % m := by
  obtain ⟨k, rfl⟩ : ∃ k, e = 2 * k + 1 := ⟨e / 2, by omega⟩
  rw [emod_mul_left, Int.mul_emod, emod_pow, ← Int.mul_emod, sq_pow, show 2 * ((2 * k + 1) / 2) = 2 * k by omega, Int.pow_succ, Int.mul_assoc, Int.mul_comm a]
/-! ### primes -/
/-- a number with no divisor but 1 and itself -/
def Prm (n : Int) : Prop := 2 ≤ n ∧ ∀ d, 2 ≤ d → d * d ≤ n → n % d ≠ 0
noncomputable def primeB (n : Int) : Bool := @decide (Prm n) (Classical.propDecidable _)
theorem primeB_iff {n : Int} : primeB n = true ↔ Prm n := @decide_eq_true_iff _ (Classical.propDecidable _)
theorem primeB_no {n : Int} (h : ¬ Prm n) : primeB n = false := @decide_eq_false _ (Classical.propDecidable _) h
theorem primeB_yes {n : Int} (h : Prm n) : primeB n = true := primeB_iff.2 h
/-- no divisor from 2 up to d -/
def noDiv (n d : Int) : Prop := ∀ d', 2 ≤ d' → d' < d → n % d' ≠ 0
theorem noDiv_two (n : Int) : noDiv n 2 := fun d h1 h2 => by omega
theorem noDiv_succ {n d : Int} (h : noDiv n d) (hd : n % d ≠ 0) : noDiv n (d + 1) := fun d' h1 h2 => by
  by_cases e : d' = d
  · rw [e]; exact hd
  · exact h d' h1 (by omega)
theorem odd_no_even {n d : Int} (h : n % 2 = 1) (hd : d % 2 = 0) : n % d ≠ 0 := fun h0 => by
  have h1 := Int.dvd_of_emod_eq_zero h0
  have h2 := Int.dvd_of_emod_eq_zero hd
  have h3 := Int.emod_eq_zero_of_dvd (Int.dvd_trans h2 h1)
  omega
theorem sq_lt {d d' : Int} (h : 0 ≤ d') (h2 : d' < d) : d' * d' < d * d := Int.mul_lt_mul' (by omega) h2 h (by omega)
theorem sq_le {d d' : Int} (h : 0 ≤ d') (h2 : d' ≤ d) : d' * d' ≤ d * d := Int.mul_le_mul h2 h2 h (by omega)
theorem Prm_of_noDiv {n d : Int} (h2 : 2 ≤ n) (h : noDiv n d) (hd : n < d * d) (h0 : 0 ≤ d) : Prm n := ⟨h2, fun d' h3 h4 => by
  by_cases e : d' < d
  · exact h d' h3 e
  · have := sq_le (d := d') (d' := d) h0 (by omega); omega⟩
theorem not_Prm_of_dvd {n d : Int} (h1 : 2 ≤ d) (h2 : d * d ≤ n) (h : n % d = 0) : ¬ Prm n := fun hp => hp.2 d h1 h2 h
end Go.Proofs.Ytbcaknmpbkapnaa
/- Walks: residues, powers, primes. -/

namespace Go.Proofs.Ytbcaknmpbkapnaa
open Go.RowKit
set_option linter.unusedSimpArgs false
set_option linter.unusedVariables false

theorem tmod_mod (n m : Int) (hm : 0 < m) : (Int.tmod n m + m) % m = n % m := by
  have h1 : Int.tmod n m = n - m * Int.tdiv n m := by have := Int.tmod_add_mul_tdiv n m; omega
  rw [h1, show n - m * n.tdiv m + m = n + m * (1 - n.tdiv m) by rw [Int.mul_sub, Int.mul_one]; omega, Int.add_mul_emod_self_left]
theorem tmod_bd (n m : Int) (hm : 0 < m) : -m < Int.tmod n m ∧ Int.tmod n m < m := by
  have h1 := Int.tmod_lt_of_pos n hm
  have h2 : -m < Int.tmod n m := by
    have := Int.lt_tmod_of_pos n hm; omega
  exact ⟨h2, h1⟩
theorem and1_gen (x : Int) (h0 : 0 ≤ x) (h1 : x ≤ 4611686018427387903) : bits .and .i64 x 1 = x % 2 := by
  have h := bits_mask .i64 62 (by decide) (fun n h h' => IntWalk.i64_in n ⟨by omega, by
    have e : ((2 : Int) ^ 62) = 4611686018427387904 := by decide
    omega⟩) 1 (by decide) x h0 (by
    have e : ((2 : Int) ^ 62) = 4611686018427387904 := by decide
    omega)
  have e1 : ((2 : Int) ^ 1 - 1) = 1 := by decide
  have e2 : ((2 : Int) ^ 1) = 2 := by decide
  rw [e1, e2] at h
  exact h
end Go.Proofs.Ytbcaknmpbkapnaa
/- Walks: groups: validity, elements, exponents. -/


namespace Go.Proofs.Ytbcaknmpbkapnaa
open Go.RowKit
set_option linter.unusedSimpArgs false
set_option linter.unusedVariables false

structure GroupD where
  p : Int
  q : Int
  g : Int
/-- a valid group -/
noncomputable def goodG (gr : GroupD) : Bool := decide (3 ≤ gr.p ∧ gr.p ≤ 2000000000) && (decide (2 ≤ gr.q ∧ gr.q ≤ gr.p - 1) && (((gr.p - 1) % gr.q == 0) && (decide (2 ≤ gr.g ∧ gr.g ≤ gr.p - 1) && (primeB gr.p && (primeB gr.q && (powM gr.g gr.q gr.p == 1))))))
/-- what the walks want of a group -/
structure OkG (gr : GroupD) : Prop where
  p1 : 3 ≤ gr.p
  p2 : gr.p ≤ 2000000000
  q1 : 2 ≤ gr.q
  q2 : gr.q ≤ gr.p - 1
  g1 : 2 ≤ gr.g
  g2 : gr.g ≤ gr.p - 1
  div : (gr.p - 1) % gr.q = 0
  pp : Prm gr.p
  qp : Prm gr.q
  one : powM gr.g gr.q gr.p = 1
theorem goodG_ok {gr : GroupD} (h : goodG gr = true) : OkG gr := by
  unfold goodG at h
  simp only [Bool.and_eq_true, decide_eq_true_iff, beq_iff_eq] at h
  obtain ⟨⟨h1, h2⟩, ⟨h3, h4⟩, h5, ⟨h6, h7⟩, h8, h9, h10⟩ := h
  exact ⟨h1, h2, h3, h4, h6, h7, h5, primeB_iff.1 h8, primeB_iff.1 h9, h10⟩
/-- an element -/
def elB (gr : GroupD) (x : Int) : Bool := decide (1 ≤ x ∧ x ≤ gr.p - 1) && (powM x gr.q gr.p == 1)
/-- an exponent -/
def expB (gr : GroupD) (e : Int) : Bool := decide (0 ≤ e ∧ e ≤ gr.q - 1)
theorem elB_bd {gr : GroupD} {x : Int} (h : elB gr x = true) : 1 ≤ x ∧ x ≤ gr.p - 1 := by
  unfold elB at h; simp only [Bool.and_eq_true, decide_eq_true_iff] at h; exact h.1
theorem expB_bd {gr : GroupD} {x : Int} (h : expB gr x = true) : 0 ≤ x ∧ x ≤ gr.q - 1 := by
  unfold expB at h; simpa using h
/-- a method value (bound to the receiver r) that decides p on integers -/
structure DecidesM (w : World) (g : FuncId) (r : Value) (p : Int → Bool) : Prop where
  enters : ∀ args wr, (callFunc g args).run Try.prog wr = .ok (.enter g args) wr
  runs : ∀ x wr, I64 x → Below w.heap.size w wr → Calls Try.prog g #[r, .int .i64 x] wr fun e w' => e = .returned (.bool (p x)) ∧ Below wr.heap.size wr w'
theorem DecidesM.below {w w' : World} {g : FuncId} {r : Value} {p : Int → Bool} (h : DecidesM w g r p) (hb : Below w.heap.size w w') : DecidesM w' g r p :=
  ⟨h.enters, fun x wr hx hr => h.runs x wr hx (hb.trans (hr.mono hb.size))⟩
set_option maxHeartbeats 400000 in
theorem impl_areAllM1 (x : Int) (a : Addr) (g : FuncId) (r : Value) (p : Int → Bool) (w : World) (hx : I64 x) (hc : w.cell? a = some (.func (.func g) #[r] #[])) (hp : DecidesM w g r p) :
    Calls Try.prog 73 #[.int .i64 x, .pointer (some a)] w fun e w' => e = .returned (.bool (!p x)) ∧ Below w.heap.size w w' := by
  have hent := hp.enters
  have HP := Lib.hid hp; clear hp
  go_enter Try.func73, Try.ntmps73
  go_wp2_with fail
  refine (HP.out.runs _ _ hx (Below.refl _ _)).mono ?_
  rintro e w1 ⟨rfl, hb1⟩
  go_wp2_with fail
  go_ret
  exact ⟨rfl, hb1⟩
set_option maxHeartbeats 400000 in
theorem impl_areAllM (v : Value) (l : List Int) (g : FuncId) (r : Value) (p : Int → Bool) (w : World) (h : Ints w v l) (hp : DecidesM w g r p) :
    Calls Try.prog 61 #[v, .func (.func g) #[r] #[]] w fun e w' => e = .returned (.bool (l.all p)) ∧ Below w.heap.size w w' := by
  have HP := Lib.hid hp; clear hp
  have H := Lib.hid h; clear h
  have HD : Hid (Decides (w.alloc (.cells #[.func (.func g) #[r] #[]] 77)) 73 #[.pointer (some ⟨w.heap.size, 0, none⟩)] (fun x => !p x)) := by
    refine ⟨Try.call73, fun x wr hx hb => ?_⟩
    refine impl_areAllM1 x ⟨w.heap.size, 0, none⟩ g r p wr hx ?_ (HP.out.below (((Below.refl _ _).alloc (Nat.le_refl _) _).trans (hb.mono (by simp))))
    rw [hb.cell (p := ⟨w.heap.size, 0, none⟩) (by simp)]
    simp [go_sem]
  have HE : Hid ((!l.any fun x => !p x) = l.all p) := by
    unfold Hid; rw [List.all_eq_not_any_not]
  go_enter Try.func61, Try.ntmps61
  go_wp2_with fail
  refine (slices_ContainsFunc v l 73 _ (fun x => !p x) _ (H.out.alloc _) HD.out).mono ?_
  rintro e w1 ⟨rfl, hb⟩
  go_wp2_with fail
  go_ret
  exact ⟨ret_bool (by first | (rw [HE.out]; done) | (rw [HE.out]; rfl) | exact HE.out.symm), (by (repeat (first | exact Below.refl _ _ | assumption | refine Below.drew ?_ | refine Below.alloc ?_ (by first | (simp; done) | (simp; omega)) _ | refine Below.setCell ?_ (by first | (simp; done) | (simp; omega)) _)) : Below w.heap.size w (w.alloc _)).trans (hb.mono (by simp))⟩
end Go.Proofs.Ytbcaknmpbkapnaa
/- Walks: groups: powers, products. -/


namespace Go.Proofs.Ytbcaknmpbkapnaa
open Go.RowKit
set_option linter.unusedSimpArgs false
set_option linter.unusedVariables false

/-- the power of an element with any exponent -/
def powE (gr : GroupD) (x e : Int) : Int := powM x (e % gr.q) gr.p
/-- the product of elements -/
def mulL (gr : GroupD) (l : List Int) : Int := l.foldl (fun o x => o * x % gr.p) 1
/-- the product of powers -/
def prodL (gr : GroupD) (l es : List Int) : Int := (l.zip es).foldl (fun o x => o * powE gr x.1 x.2 % gr.p) 1
/-- numbers that can be multiplied -/
def Small (x : Int) : Prop := 0 ≤ x ∧ x ≤ 2000000000
def AllSmall (l : List Int) : Prop := ∀ x ∈ l, Small x
theorem AllSmall.at_ {l : List Int} (h : AllSmall l) (i : Nat) : Small (nth l i) := by
  by_cases hi : i < l.length
  · rw [nth_eq hi]; exact h _ (List.getElem_mem _)
  · have : nth l i = 0 := by simp [nth, List.getD, Nat.le_of_not_lt hi]
    rw [this]; exact ⟨by decide, by decide⟩
theorem elB_small {gr : GroupD} (hg : OkG gr) {x : Int} (h : elB gr x = true) : Small x := by
  have := elB_bd h; have := hg.p2; exact ⟨by omega, by omega⟩
theorem all_small {gr : GroupD} (hg : OkG gr) {l : List Int} (h : l.all (elB gr) = true) : AllSmall l := fun x hx => elB_small hg (List.all_eq_true.1 h x hx)
theorem powE_bd {gr : GroupD} (hg : OkG gr) (x e : Int) : 0 ≤ powE gr x e ∧ powE gr x e < gr.p := powM_bd (by have := hg.p1; omega)
theorem fold_bd {α : Type} {p : Int} (hp : 3 ≤ p) {f : Int → α → Int} (l : List α) : ∀ o : Int, 0 ≤ o → o < p → 0 ≤ l.foldl (fun o x => f o x % p) o ∧ l.foldl (fun o x => f o x % p) o < p := by
  induction l with
  | nil => intro o h1 h2; exact ⟨h1, h2⟩
  | cons a l ih => intro o _ _; exact ih _ (Int.emod_nonneg _ (by omega)) (Int.emod_lt_of_pos _ (by omega))
theorem mulL_bd {gr : GroupD} (hg : OkG gr) (l : List Int) : 0 ≤ mulL gr l ∧ mulL gr l < gr.p := fold_bd (f := fun o x => o * x) hg.p1 l 1 (by omega) (by have := hg.p1; omega)
theorem prodL_bd {gr : GroupD} (hg : OkG gr) (l es : List Int) : 0 ≤ prodL gr l es ∧ prodL gr l es < gr.p := fold_bd (f := fun o (x : Int × Int) => o * powE gr x.1 x.2) hg.p1 (l.zip es) 1 (by omega) (by have := hg.p1; omega)
theorem mulL_succ {gr : GroupD} {l : List Int} {k : Nat} (h : k < l.length) : mulL gr (l.take (k + 1)) = mulL gr (l.take k) * nth l k % gr.p := by
  unfold mulL; rw [take_succ_nth h, List.foldl_append]; rfl
theorem zip_take_succ {l es : List Int} {k : Nat} (h : k < l.length) (h2 : k < es.length) : (l.zip es).take (k + 1) = (l.zip es).take k ++ [(nth l k, nth es k)] := by
  rw [List.take_succ_eq_append_getElem (by rw [List.length_zip]; omega), List.getElem_zip, nth_eq h, nth_eq h2]
/-- the product of the first k powers -/
def prodTo (gr : GroupD) (l es : List Int) (k : Nat) : Int := ((l.zip es).take k).foldl (fun o x => o * powE gr x.1 x.2 % gr.p) 1
theorem prodTo_succ {gr : GroupD} {l es : List Int} {k : Nat} (h : k < l.length) (h2 : k < es.length) : prodTo gr l es (k + 1) = prodTo gr l es k * powE gr (nth l k) (nth es k) % gr.p := by
  unfold prodTo; rw [zip_take_succ h h2, List.foldl_append]; rfl
theorem prodTo_bd {gr : GroupD} (hg : OkG gr) (l es : List Int) (k : Nat) : 0 ≤ prodTo gr l es k ∧ prodTo gr l es k < gr.p := fold_bd (f := fun o (x : Int × Int) => o * powE gr x.1 x.2) hg.p1 ((l.zip es).take k) 1 (by omega) (by have := hg.p1; omega)
theorem prodTo_all {gr : GroupD} {l es : List Int} (h : l.length ≤ es.length) : prodTo gr l es l.length = prodL gr l es := by
  unfold prodTo prodL; rw [List.take_of_length_le (by rw [List.length_zip]; omega)]
theorem keep_al {w wa : World} (h : Below w.heap.size w wa) (o : Obj) : Below w.heap.size w (wa.alloc o) := h.alloc h.size o
theorem Ints.lit2 (w : World) {x y : Int} (hx : I64 x) (hy : I64 y) : Ints (w.alloc (.cells #[.int .i64 x, .int .i64 y] 3)) (.slice (some ⟨w.heap.size, 0, none⟩) 2 2) [x, y] :=
  (OwnI.lit w (Nat.le_refl _) (AllI64.cons hx (AllI64.one hy)) rfl (by simp [maxLen]) 2 rfl).ints
end Go.Proofs.Ytbcaknmpbkapnaa
/- Walks: challenges, images. -/




namespace Go.Proofs.Ytbcaknmpbkapnaa
open Go.RowKit
set_option linter.unusedSimpArgs false
set_option linter.unusedVariables false

theorem keep_tt {W wa w' : World} (h : Below W.heap.size W wa) (hb : Below W.heap.size wa w') : Below W.heap.size W w' := h.trans hb
/-- the list of a challenge -/
def chList (gr : GroupD) (l : List Int) : List Int := [gr.p, gr.q, gr.g] ++ l
/-- the challenge of a list, if it can be hashed -/
def chB (gr : GroupD) (s : ByteArray) (l : List Int) : Bool := labelledB s (chList gr l)
def chI (gr : GroupD) (s : ByteArray) (l : List Int) : Int := if chB gr s l = true then hashOf (lab s ++ chList gr l) % gr.q else 0
def chV (gr : GroupD) (s : ByteArray) (l : List Int) : Int := hashOf (lab s ++ chList gr l) % gr.q
theorem chV_bd {gr : GroupD} (hg : OkG gr) (s : ByteArray) (l : List Int) : 0 ≤ chV gr s l ∧ chV gr s l < gr.q := ⟨Int.emod_nonneg _ (by have := hg.q1; omega), Int.emod_lt_of_pos _ (by have := hg.q1; omega)⟩
theorem chI_yes {gr : GroupD} {s : ByteArray} {l : List Int} (h : chB gr s l = true) : chI gr s l = chV gr s l := by unfold chI; rw [if_pos h]; rfl
theorem chI_no {gr : GroupD} {s : ByteArray} {l : List Int} (h : chB gr s l = false) : chI gr s l = 0 := by unfold chI; rw [if_neg (by rw [h]; simp)]
theorem chList_digest {gr : GroupD} (hg : OkG gr) {l : List Int} (h : l.all digestB = true) : (chList gr l).all digestB = true := by
  obtain ⟨h1, h2, h3, h4, h5, h6, _, _, _, _⟩ := hg
  unfold chList
  rw [List.all_append, h]
  simp [digestB]; omega
theorem chB_yes {gr : GroupD} (hg : OkG gr) {s : ByteArray} {l : List Int} (h : l.all digestB = true) (hs : s.size ≤ 40) (hl : l.length ≤ 300) : chB gr s l = true := by
  have e : (lab s).length = s.size + 1 := lab_length s
  have e2 : (chList gr l).length = l.length + 3 := by simp [chList]
  unfold chB labelledB hashable
  rw [List.all_append, chList_digest hg h, lab_all _ (by omega), List.length_append, e, e2]
  simp; omega
theorem digest_small {x : Int} (h : Small x) : digestB x = true := by
  obtain ⟨h1, h2⟩ := h; simp [digestB]; omega
theorem digests_small {l : List Int} (h : AllSmall l) : l.all digestB = true := List.all_eq_true.2 fun x hx => digest_small (h x hx)
end Go.Proofs.Ytbcaknmpbkapnaa
/- Walks: rows of elements, images. -/

namespace Go.Proofs.Ytbcaknmpbkapnaa
open Go.RowKit
set_option linter.unusedSimpArgs false
set_option linter.unusedVariables false

theorem Below.cell' {B b o : Nat} {w w' : World} {x : Value} (h : Below B w w') (hb : b < B) (hc : w.cell? ⟨b, o, none⟩ = some x) : w'.cell? ⟨b, o, none⟩ = some x := (h.cell (p := ⟨b, o, none⟩) hb).trans hc
def headLen (ls : List (List Int)) : Nat := (ls.headD []).length
def rowB (gr : GroupD) (n : Nat) (r : List Int) : Bool := decide (r.length = n) && r.all (elB gr)
/-- the bases of a linear statement -/
def rowsB (gr : GroupD) (ls : List (List Int)) : Bool := decide (1 ≤ ls.length ∧ ls.length ≤ 8) && (decide (1 ≤ headLen ls ∧ headLen ls ≤ 8) && ls.all (rowB gr (headLen ls)))
def imagesL (gr : GroupD) (ls : List (List Int)) (es : List Int) : List Int := ls.map fun r => prodL gr r es
theorem rowsB_any (gr : GroupD) (n : Nat) (ls : List (List Int)) : (ls.any fun l => !rowB gr n l) = !(ls.all (rowB gr n)) := by
  induction ls with
  | nil => rfl
  | cons a ls ih => simp only [List.any_cons, List.all_cons, ih, Bool.not_and]
theorem headLen_eq {ls : List (List Int)} (h : 0 < ls.length) : headLen ls = (ls[0]'h).length := by
  cases ls with
  | nil => simp at h
  | cons a ls => rfl
theorem rowB_bd {gr : GroupD} (hg : OkG gr) {n : Nat} {r : List Int} (h : rowB gr n r = true) : r.length = n ∧ AllSmall r := by
  unfold rowB at h; simp only [Bool.and_eq_true, decide_eq_true_iff] at h
  exact ⟨h.1, all_small hg h.2⟩
theorem rowsB_bd {gr : GroupD} (hg : OkG gr) {ls : List (List Int)} (h : rowsB gr ls = true) : (1 ≤ ls.length ∧ ls.length ≤ 8) ∧ (1 ≤ headLen ls ∧ headLen ls ≤ 8) ∧ ∀ r ∈ ls, r.length = headLen ls ∧ AllSmall r := by
  unfold rowsB at h; simp only [Bool.and_eq_true, decide_eq_true_iff] at h
  exact ⟨h.1, h.2.1, fun r hr => rowB_bd hg (List.all_eq_true.1 h.2.2 r hr)⟩
theorem imagesL_succ {gr : GroupD} {ls : List (List Int)} {es : List Int} {k : Nat} (h : k < ls.length) : imagesL gr (ls.take (k + 1)) es = imagesL gr (ls.take k) es ++ [prodL gr ls[k] es] := by
  unfold imagesL; rw [List.take_succ_eq_append_getElem h, List.map_append]; rfl
theorem imagesL_length {gr : GroupD} {ls : List (List Int)} {es : List Int} : (imagesL gr ls es).length = ls.length := by simp [imagesL]
theorem flatten_take_succ' {ls : List (List Int)} {k : Nat} (h : k < ls.length) : (ls.take (k + 1)).flatten = (ls.take k).flatten ++ ls[k] := by
  rw [List.take_succ_eq_append_getElem h, List.flatten_append]; simp
theorem total_flatten (ls : List (List Int)) : ls.flatten.length = total ls := by unfold total; rw [List.length_flatten]
end Go.Proofs.Ytbcaknmpbkapnaa
