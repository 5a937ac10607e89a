/- Proofs of sums, of bits: the plain laws. -/
import Derived.Test.YteemlmmdngkghaaRegVU
import Derived.Test.YteemlmmdngkghaaGrpAU
namespace Go.Proofs.Yteemlmmdngkghaa
open Go.RowKit
set_option linter.unusedSimpArgs false
set_option linter.unusedVariables false

/-- the sum of a list, modulo q -/
def sumM (q : Int) (l : List Int) : Int := l.foldl (fun o x => (o + x) % q) 0
theorem sumM_succ {q : Int} {l : List Int} {k : Nat} (h : k < l.length) : sumM q (l.take (k + 1)) = (sumM q (l.take k) + nth l k) % q := by
  unfold sumM
  rw [List.take_succ_eq_append_getElem h, List.foldl_append]
  simp [nth, List.getD, h]
theorem sumM_bd {q : Int} (hq : 0 < q) (l : List Int) : 0 ≤ sumM q l ∧ sumM q l < q := by
  unfold sumM
  suffices h : ∀ o : Int, 0 ≤ o → o < q → 0 ≤ l.foldl (fun o x => (o + x) % q) o ∧ l.foldl (fun o x => (o + x) % q) o < q from h 0 (by omega) (by omega)
  induction l with
  | nil => intro o h1 h2; exact ⟨h1, h2⟩
  | cons a l ih => intro o _ _; exact ih _ (Int.emod_nonneg _ (by omega)) (Int.emod_lt_of_pos _ (by omega))
/-! ### sums -/
theorem coM_strip {gr : GroupD} (hgd : goodG gr = true) {bh : Int} (hh : elB gr bh = true) (m r : Int) : mulL gr [coM gr bh m r, powE gr gr.g (-m)] = powE gr bh r := by
  have hg := goodG_ok hgd
  rw [mulT, coM_eq, Int.mul_comm (powE gr gr.g m), mul_cancel hg (elT_pow hg hh r) (elT_gen hgd)]
/-! ### bits -/
/-- what H to some power is in a case of a bit -/
def bcI (gr : GroupD) (c k : Int) : Int := if k = 1 then mulL gr [c, powE gr gr.g (-1)] else c
def btE (gr : GroupD) (s : ByteArray) (bh c x y : Int) : Int := chV gr s [bh, c, x, y]
/-- the commit of the case that is not so, of the one that is so -/
def btX (gr : GroupD) (bh c k e z : Int) : Int := mulL gr [powE gr bh z, powE gr (bcI gr c k) (-e)]
def btD (gr : GroupD) (s : ByteArray) (bh m r : Int) (cs : List Int) : ProofD :=
  if m = 0 then
    ⟨[powE gr bh (nth cs 0), btX gr bh (coM gr bh m r) 1 (nth cs 1) (nth cs 2)],
     [(btE gr s bh (coM gr bh m r) (powE gr bh (nth cs 0)) (btX gr bh (coM gr bh m r) 1 (nth cs 1) (nth cs 2)) - nth cs 1) % gr.q, nth cs 1],
     [(nth cs 0 + (btE gr s bh (coM gr bh m r) (powE gr bh (nth cs 0)) (btX gr bh (coM gr bh m r) 1 (nth cs 1) (nth cs 2)) - nth cs 1) % gr.q * r) % gr.q, nth cs 2]⟩
  else
    ⟨[btX gr bh (coM gr bh m r) 0 (nth cs 1) (nth cs 2), powE gr bh (nth cs 0)],
     [nth cs 1, (btE gr s bh (coM gr bh m r) (btX gr bh (coM gr bh m r) 0 (nth cs 1) (nth cs 2)) (powE gr bh (nth cs 0)) - nth cs 1) % gr.q],
     [nth cs 2, (nth cs 0 + (btE gr s bh (coM gr bh m r) (btX gr bh (coM gr bh m r) 0 (nth cs 1) (nth cs 2)) (powE gr bh (nth cs 0)) - nth cs 1) % gr.q * r) % gr.q]⟩
def btK (gr : GroupD) (bh c : Int) (d : ProofD) (k : Nat) : Bool := powE gr bh (nth d.r k) == mulL gr [nth d.c k, powE gr (bcI gr c k) (nth d.h k)]
def btV (gr : GroupD) (s : ByteArray) (bh c : Int) (d : ProofD) : Bool := fmB gr d 2 2 2 && (btK gr bh c d 0 && (btK gr bh c d 1 && ((nth d.h 0 + nth d.h 1) % gr.q == btE gr s bh c (nth d.c 0) (nth d.c 1))))
theorem all_three {f : Int → Bool} {l : List Int} (h : l.length = 3) (ha : l.all f = true) : f (nth l 0) = true ∧ f (nth l 1) = true ∧ f (nth l 2) = true := by
  rw [list_three h] at ha
  simpa using ha
theorem elT_bcI {gr : GroupD} (hgd : goodG gr = true) {c : Int} (hc : elB gr c = true) (k : Int) : elB gr (bcI gr c k) = true := by
  have hg := goodG_ok hgd
  unfold bcI
  by_cases h : k = 1
  · rw [if_pos h, mulT]; exact elT_mul hg hc (elT_pow hg (elT_gen hgd) _)
  · rw [if_neg h]; exact hc
theorem btX_ok {gr : GroupD} (hgd : goodG gr = true) {bh c : Int} (hh : elB gr bh = true) (hc : elB gr c = true) (k e z : Int) : elB gr (btX gr bh c k e z) = true ∧ powE gr bh z = mulL gr [btX gr bh c k e z, powE gr (bcI gr c k) e] := by
  have hg := goodG_ok hgd
  unfold btX
  have h1 := elT_bcI hgd hc k
  refine ⟨by rw [mulT]; exact elT_mul hg (elT_pow hg hh z) (elT_pow hg h1 _), ?_⟩
  rw [mulT, mulT, mul_cancel' hg (elT_pow hg hh z) h1]
theorem btS_ok {gr : GroupD} (hgd : goodG gr = true) {bh : Int} (hh : elB gr bh = true) {m : Int} (hm : m = 0 ∨ m = 1) (r w e : Int) : powE gr bh ((w + e * r) % gr.q) = mulL gr [powE gr bh w, powE gr (bcI gr (coM gr bh m r) m) e] := by
  have hg := goodG_ok hgd
  have h1 : bcI gr (coM gr bh m r) m = powE gr bh r := by
    unfold bcI
    rcases hm with rfl | rfl
    · rw [if_neg (by omega), coM_eq, powE_zero hg, Int.one_mul, elT_mod hg (elT_pow hg hh r)]
    · rw [if_pos rfl, coM_strip hgd hh]
  rw [h1, sigma_eq hg hh, mulT]
theorem bit_sum {q e c : Int} (hq : 0 < q) (he : 0 ≤ e ∧ e < q) : ((e - c) % q + c) % q = e ∧ (c + (e - c) % q) % q = e := by
  have h1 : ((e - c) % q + c) % q = e := by
    rw [Int.emod_add_emod, show e - c + c = e by omega]
    exact Int.emod_eq_of_lt he.1 he.2
  exact ⟨h1, by rw [Int.add_comm]; exact h1⟩
end Go.Proofs.Yteemlmmdngkghaa
namespace Go.Proofs.Yteemlmmdngkghaa
open Go.RowKit
set_option linter.unusedSimpArgs false
set_option linter.unusedVariables false

structure RangeD where
  b : List Int
  p : List ProofD
/-- a bit of a number -/
def bitI (m : Int) (i : Nat) : Int := m / 2 ^ i % 2
theorem bitI_or (m : Int) (i : Nat) : bitI m i = 0 ∨ bitI m i = 1 := by unfold bitI; omega
/-- the own number of the first bit, behind k steps -/
def rg0 (q r : Int) (cs : List Int) : Nat → Int
  | 0 => r
  | k + 1 => (rg0 q r cs k - 2 ^ (k + 1) * nth cs k % q) % q
def rgL (q r : Int) (cs : List Int) (n : Nat) : List Int := rg0 q r cs (n - 1) :: cs.take (n - 1)
def rgB (gr : GroupD) (bh m : Int) (rs : List Int) (n : Nat) : List Int := (List.range n).map fun i => coM gr bh (bitI m i) (nth rs i)
def rgP (gr : GroupD) (s : ByteArray) (bh m : Int) (rs cs : List Int) (n : Nat) : List ProofD := (List.range n).map fun i => btD gr s bh (bitI m i) (nth rs i) ((cs.drop (n - 1 + 3 * i)).take 3)
def rgD (gr : GroupD) (s : ByteArray) (bh m r : Int) (n : Nat) (cs : List Int) : RangeD := ⟨rgB gr bh m (rgL gr.q r cs n) n, rgP gr s bh m (rgL gr.q r cs n) cs n⟩
/-- a number of bits that suits a group -/
def rnB (gr : GroupD) (n : Int) : Bool := decide (1 ≤ n ∧ n ≤ 16) && decide ((2 : Int) ^ n.toNat < gr.q)
noncomputable def prB (gr : GroupD) (bh : Int) (bl : List Int) (m r n : Int) (cs : List Int) : Bool := baB gr bh bl && (rnB gr n && (decide (0 ≤ m ∧ m ≤ 2 ^ n.toNat - 1) && (expB gr r && (decide ((cs.length : Int) = 4 * n - 1) && cs.all (expB gr)))))
noncomputable def prR (gr : GroupD) (s : ByteArray) (bh : Int) (bl : List Int) (m r n : Int) (cs : List Int) : RangeD := if prB gr bh bl m r n cs = true then rgD gr s bh m r n.toNat cs else ⟨[], []⟩
/-- the product of the powers of the bits -/
def rgV (gr : GroupD) (l : List Int) : Nat → Int
  | 0 => 1
  | k + 1 => mulL gr [rgV gr l k, powE gr (nth l k) (2 ^ k)]
noncomputable def vrA (gr : GroupD) (bh : Int) (bl : List Int) (c n : Int) : Bool := baB gr bh bl && (elB gr c && rnB gr n)
def bitsV (gr : GroupD) (s : ByteArray) (bh : Int) (x : RangeD) : Bool := (x.b.zip x.p).all fun z => btV gr s bh z.1 z.2
def vrV (gr : GroupD) (s : ByteArray) (bh c : Int) (n : Nat) (x : RangeD) : Bool := decide (x.b.length = n) && (decide (x.p.length = n) && (x.b.all (elB gr) && (bitsV gr s bh x && (rgV gr x.b n == c))))
theorem powE_coM {gr : GroupD} (hgd : goodG gr = true) {bh : Int} (hh : elB gr bh = true) (m r e : Int) : powE gr (coM gr bh m r) e = coM gr bh (m * e) (r * e) := by
  have hg := goodG_ok hgd
  rw [coM_eq, coM_eq, powE_mulB, powE_pow hg (elT_gen hgd), powE_pow hg hh]
def sumW (f : Nat → Int) : Nat → Int
  | 0 => 0
  | k + 1 => sumW f k + f k * 2 ^ k
theorem nth_range {f : Nat → Int} {n k : Nat} (h : k < n) : nth ((List.range n).map f) k = f k := by
  simp [nth, List.getD, h]
theorem rgV_eq {gr : GroupD} (hgd : goodG gr = true) {bh : Int} (hh : elB gr bh = true) (f g : Nat → Int) (n : Nat) (k : Nat) (hk : k ≤ n) :
    rgV gr ((List.range n).map fun i => coM gr bh (f i) (g i)) k = coM gr bh (sumW f k) (sumW g k) := by
  have hg := goodG_ok hgd
  have hp := hg.p1
  induction k with
  | zero =>
    unfold rgV sumW
    rw [coM_eq, powE_zero hg, powE_zero hg]
    exact (Int.emod_eq_of_lt (by omega) (by omega)).symm
  | succ k ih =>
    unfold rgV
    rw [ih (by omega), nth_range (f := fun i => coM gr bh (f i) (g i)) (show k < n by omega), powE_coM hgd hh, mulT, ← coM_add hgd hh]
    rfl
theorem sum_bits {m : Int} (k : Nat) : sumW (bitI m) k = m % 2 ^ k := by
  induction k with
  | zero => unfold sumW; rw [Int.pow_zero, Int.emod_one]
  | succ k ih =>
    unfold sumW
    rw [ih]
    unfold bitI
    have hp : (0 : Int) < 2 ^ k := Int.pow_pos (by decide)
    generalize hq : (2 : Int) ^ k = p at *
    rw [Int.pow_succ, hq]
    have h1 := Int.mul_ediv_add_emod m p
    have h2 := Int.mul_ediv_add_emod (m / p) 2
    have h3 := Int.emod_nonneg m (show p ≠ 0 by omega)
    have h4 := Int.emod_lt_of_pos m hp
    have h5 : 0 ≤ m / p % 2 ∧ m / p % 2 < 2 := by omega
    have e : m = (m % p + m / p % 2 * p) + p * 2 * (m / p / 2) := by
      have h6 : p * (m / p) = p * (2 * (m / p / 2)) + p * (m / p % 2) := by rw [← Int.mul_add, h2]
      rw [Int.mul_comm (m / p % 2) p, Int.mul_assoc]
      omega
    have e2 : (m % p + m / p % 2 * p) % (p * 2) = m % p + m / p % 2 * p := by
      refine Int.emod_eq_of_lt ?_ ?_
      · rcases (show m / p % 2 = 0 ∨ m / p % 2 = 1 by omega) with h | h <;> rw [h] <;> omega
      · rcases (show m / p % 2 = 0 ∨ m / p % 2 = 1 by omega) with h | h <;> rw [h] <;> omega
    conv => rhs; rw [e]
    rw [Int.add_mul_emod_self_left, e2]
theorem sum_own {q r : Int} {cs : List Int} {n : Nat} (hn : n ≤ cs.length) (k : Nat) (hk : k ≤ n) : (rg0 q r cs k + (sumW (fun i => nth (rg0 q r cs n :: cs.take n) i) (k + 1) - rg0 q r cs n)) % q = r % q := by
  induction k with
  | zero =>
    have : sumW (fun i => nth (rg0 q r cs n :: cs.take n) i) 1 = rg0 q r cs n := by
      show 0 + nth (rg0 q r cs n :: cs.take n) 0 * 2 ^ 0 = _
      rw [Int.pow_zero, Int.mul_one, Int.zero_add]; rfl
    rw [this, Int.sub_self, Int.add_zero]
    rfl
  | succ k ih =>
    have e1 : nth (rg0 q r cs n :: cs.take n) (k + 1) = nth cs k := by
      show nth (cs.take n) k = nth cs k
      simp [nth, List.getD, List.getElem?_take, show k < n by omega]
    have e2 : sumW (fun i => nth (rg0 q r cs n :: cs.take n) i) (k + 1 + 1) = sumW (fun i => nth (rg0 q r cs n :: cs.take n) i) (k + 1) + nth cs k * 2 ^ (k + 1) := by
      show sumW _ (k + 1) + nth (rg0 q r cs n :: cs.take n) (k + 1) * 2 ^ (k + 1) = _
      rw [e1]
    rw [e2]
    rw [← ih (by omega)]
    show ((rg0 q r cs k - 2 ^ (k + 1) * nth cs k % q) % q + _) % q = _
    rw [Int.emod_add_emod]
    generalize sumW (fun i => nth (rg0 q r cs n :: cs.take n) i) (k + 1) = S
    generalize rg0 q r cs n = Z
    generalize rg0 q r cs k = A
    rw [Int.mul_comm (2 ^ (k + 1))]
    generalize nth cs k * 2 ^ (k + 1) = T
    rw [show A - T % q + (S + T - Z) = (A + (S - Z)) + (T - T % q) by omega]
    have : (T - T % q) % q = 0 := by rw [Int.sub_emod, Int.emod_emod, Int.sub_self]; rfl
    rw [Int.add_emod, this, Int.add_zero, Int.emod_emod]
/-- a proof of a bit is right -/
theorem bit_right {gr : GroupD} {s : ByteArray} {bh m r : Int} {cs : List Int} (hgd : goodG gr = true) (hh : elB gr bh = true) (hm : m = 0 ∨ m = 1) (h3 : cs.length = 3) (hcs : cs.all (expB gr) = true) :
    btV gr s bh (coM gr bh m r) (btD gr s bh m r cs) = true := by
  obtain ⟨a1, a2, a3⟩ := all_three h3 hcs
  have hg := goodG_ok hgd
  have hq1 := hg.q1
  have hel := elT_coM hgd hh m r
  have n0 : ∀ a b : Int, nth [a, b] 0 = a := fun a b => rfl
  have n1 : ∀ a b : Int, nth [a, b] 1 = b := fun a b => rfl
  have S := fun w e => btS_ok hgd hh hm r w e
  have X0 := fun k e z => (btX_ok hgd hh hel k e z).1
  have X1 := fun k e z => (btX_ok hgd hh hel k e z).2
  have B1 := fun l c => (bit_sum (c := c) (show 0 < gr.q by omega) (chV_bd hg s l)).1
  have B2 := fun l c => (bit_sum (c := c) (show 0 < gr.q by omega) (chV_bd hg s l)).2
  rcases hm with rfl | rfl
  · unfold btV fmB btD btK
    rw [if_pos rfl]
    simp only [n0, n1, Int.natCast_zero, Int.natCast_one, List.length_cons, List.length_nil, List.all_cons, List.all_nil, elT_pow hg hh, X0, expT hg, a2, a3, S, ← X1, btE, B1, Bool.and_true, Bool.and_self, beq_self_eq_true, decide_true]
  · unfold btV fmB btD btK
    rw [if_neg (by omega)]
    simp only [n0, n1, Int.natCast_zero, Int.natCast_one, List.length_cons, List.length_nil, List.all_cons, List.all_nil, elT_pow hg hh, X0, expT hg, a2, a3, S, ← X1, btE, B2, Bool.and_true, Bool.and_self, beq_self_eq_true, decide_true]
/-- a proof of a range is right -/
theorem range_right {gr : GroupD} {s : ByteArray} {bh : Int} {m r n : Int} {cs : List Int} (hgd : goodG gr = true) (hh : elB gr bh = true) (hn : 1 ≤ n ∧ n ≤ 16) (hm : 0 ≤ m ∧ m ≤ 2 ^ n.toNat - 1) (hr : expB gr r = true) (hl : (cs.length : Int) = 4 * n - 1) (hcs : cs.all (expB gr) = true) :
    vrV gr s bh (coM gr bh m r) n.toNat (rgD gr s bh m r n.toNat cs) = true := by
  have hg := goodG_ok hgd
  have hq := hg.q1
  obtain ⟨N, hN⟩ : ∃ N : Nat, n = (N : Int) + 1 := ⟨(n - 1).toNat, by omega⟩
  have hN1 : n.toNat = N + 1 := by omega
  rw [hN1] at hm ⊢
  unfold vrV rgD
  simp only []
  have hcN : N ≤ cs.length := by omega
  have hex : ∀ x ∈ rgL gr.q r cs (N + 1), expB gr x = true := by
    intro x hx
    unfold rgL at hx
    rw [Nat.add_sub_cancel, List.mem_cons] at hx
    rcases hx with h | h
    · rw [h]
      cases N with
      | zero => exact hr
      | succ k => exact expT hg _
    · exact List.all_eq_true.1 hcs x (List.mem_of_mem_take h)
  have hlen : (rgL gr.q r cs (N + 1)).length = N + 1 := by
    unfold rgL; rw [Nat.add_sub_cancel, List.length_cons, List.length_take]; omega
  have b1 : (rgB gr bh m (rgL gr.q r cs (N + 1)) (N + 1)).length = N + 1 := by unfold rgB; simp
  have b2 : (rgP gr s bh m (rgL gr.q r cs (N + 1)) cs (N + 1)).length = N + 1 := by unfold rgP; simp
  have b3 : (rgB gr bh m (rgL gr.q r cs (N + 1)) (N + 1)).all (elB gr) = true := by
    unfold rgB
    rw [List.all_eq_true]
    intro x hx
    obtain ⟨i, _, rfl⟩ := List.mem_map.1 hx
    exact elT_coM hgd hh _ _
  have b4 : bitsV gr s bh ⟨rgB gr bh m (rgL gr.q r cs (N + 1)) (N + 1), rgP gr s bh m (rgL gr.q r cs (N + 1)) cs (N + 1)⟩ = true := by
    unfold bitsV rgB rgP
    simp only []
    rw [List.zip_map', List.all_eq_true]
    intro z hz
    obtain ⟨i, hi, rfl⟩ := List.mem_map.1 hz
    rw [List.mem_range] at hi
    exact bit_right hgd hh (bitI_or m i) (by rw [List.length_take, List.length_drop]; omega) (by
      rw [List.all_eq_true]
      intro x hx
      exact List.all_eq_true.1 hcs x (List.mem_of_mem_drop (List.mem_of_mem_take hx)))
  have b5 : rgV gr (rgB gr bh m (rgL gr.q r cs (N + 1)) (N + 1)) (N + 1) = coM gr bh m r := by
    unfold rgB
    rw [rgV_eq hgd hh (bitI m) (fun i => nth (rgL gr.q r cs (N + 1)) i) (N + 1) (N + 1) (Nat.le_refl _), sum_bits, Int.emod_eq_of_lt hm.1 (by omega)]
    have h := sum_own (q := gr.q) (r := r) hcN N (Nat.le_refl _)
    rw [show rg0 gr.q r cs N + (sumW (fun i => nth (rg0 gr.q r cs N :: cs.take N) i) (N + 1) - rg0 gr.q r cs N) = sumW (fun i => nth (rg0 gr.q r cs N :: cs.take N) i) (N + 1) by omega] at h
    rw [← coM_emod gr bh m, ← coM_emod gr bh m r]
    unfold rgL
    rw [Nat.add_sub_cancel, h]
  rw [b3, b4, b5]
  simp [b1, b2]
end Go.Proofs.Yteemlmmdngkghaa
namespace Go.Proofs.Yteemlmmdngkghaa
open Go.RowKit
set_option linter.unusedSimpArgs false
set_option linter.unusedVariables false

set_option maxRecDepth 100000 in
set_option maxHeartbeats 2000000 in
theorem impl_inv (gr : GroupD) (x : Int) (w : World) (hg : OkG gr) (hx : Small x) :
    Calls Try.prog 107 #[.agg #[.int .i64 gr.p, .int .i64 gr.q, .int .i64 gr.g], .int .i64 x] w fun e w' => e = .returned (.int .i64 (powE gr x (-1))) ∧ Below w.heap.size w w' := by
  have HG := Lib.hid hg
  clear hg
  obtain ⟨W, hW⟩ : ∃ W, W = w.alloc (.cells #[.int .i64 gr.p, .int .i64 gr.q, .int .i64 gr.g] 25) := ⟨_, rfl⟩
  have HB : Hid (Below w.heap.size w W) := by unfold Hid; rw [hW]; (repeat (first | exact Below.refl _ _ | assumption | refine Below.drew ?_ | refine Below.alloc ?_ (by first | (simp; done) | (simp; omega)) _ | refine Below.setCell ?_ (by first | (simp; done) | (simp; omega)) _))
  have c0_0 : W.cell? ⟨w.heap.size, 0, none⟩ = some (.int .i64 gr.p) := by rw [hW]; simp [go_sem]
  have c0_1 : W.cell? ⟨w.heap.size, 1, none⟩ = some (.int .i64 gr.q) := by rw [hW]; simp [go_sem]
  have c0_2 : W.cell? ⟨w.heap.size, 2, none⟩ = some (.int .i64 gr.g) := by rw [hW]; simp [go_sem]
  have HSW : Hid (W.heap.size = w.heap.size + 1) := by unfold Hid; rw [hW]; simp
  go_enter Try.func107, Try.ntmps107
  go_wp2_with fail
  rw [← hW]
  clear hW
  have hc : Below W.heap.size W W := Below.refl _ _
  go_wp2_with fail
  refine (impl_pow gr x (-1) _ HG.out hx ⟨by decide, by decide⟩).mono ?_
  rintro e u1 ⟨rfl, hq1⟩
  replace hc := Below.next hc hq1
  replace c0_0 := box_at c0_0 hq1
  replace c0_1 := box_at c0_1 hq1
  replace c0_2 := box_at c0_2 hq1
  clear hq1
  go_wp2_with fail
  go_ret
  exact ⟨rfl, HB.out.trans (hc.mono HB.out.size)⟩
set_option maxRecDepth 100000 in
set_option maxHeartbeats 2000000 in
theorem spec_gInv (gr : GroupD) (x : Int) (w : World) (hg : OkG gr) (hx : Small x) :
    Calls Try.prog 264 #[.agg #[.int .i64 gr.p, .int .i64 gr.q, .int .i64 gr.g], .int .i64 x] w fun e w' => e = .returned (.int .i64 (powE gr x (-1))) ∧ Below w.heap.size w w' := by
  have HG := Lib.hid hg
  have hg1 := hg.g1
  have hg2 := hg.g2
  have hp1 := hg.p1
  have hp2 := hg.p2
  have hq1 := hg.q1
  have hq2 := hg.q2
  clear hg
  obtain ⟨hx1, hx2⟩ := hx
  have hw1 : IntKind.i64.wrap (gr.q - 1) = gr.q - 1 := IntWalk.i64_in _ (by omega)
  have HEQ : Hid (powE gr x (-1) = powM x (gr.q - 1) gr.p) := by unfold Hid powE; rw [show (-1 : Int) % gr.q = gr.q - 1 from by rw [show (-1 : Int) = (gr.q - 1) - gr.q by omega, Int.sub_emod, Int.emod_self, Int.sub_zero, Int.emod_emod, Int.emod_eq_of_lt (by omega) (by omega)]]
  rw [HEQ.out]
  obtain ⟨W, hW⟩ : ∃ W, W = w.alloc (.cells #[.int .i64 gr.p, .int .i64 gr.q, .int .i64 gr.g] 25) := ⟨_, rfl⟩
  have HB : Hid (Below w.heap.size w W) := by unfold Hid; rw [hW]; (repeat (first | exact Below.refl _ _ | assumption | refine Below.drew ?_ | refine Below.alloc ?_ (by first | (simp; done) | (simp; omega)) _ | refine Below.setCell ?_ (by first | (simp; done) | (simp; omega)) _))
  have c0_0 : W.cell? ⟨w.heap.size, 0, none⟩ = some (.int .i64 gr.p) := by rw [hW]; simp [go_sem]
  have c0_1 : W.cell? ⟨w.heap.size, 1, none⟩ = some (.int .i64 gr.q) := by rw [hW]; simp [go_sem]
  have c0_2 : W.cell? ⟨w.heap.size, 2, none⟩ = some (.int .i64 gr.g) := by rw [hW]; simp [go_sem]
  have HSW : Hid (W.heap.size = w.heap.size + 1) := by unfold Hid; rw [hW]; simp
  go_enter Try.func264, Try.ntmps264
  go_wp2_with fail
  rw [← hW]
  clear hW
  have hc : Below W.heap.size W W := Below.refl _ _
  go_wp2_with fail
  refine (spec_nPower x (gr.q - 1) gr.p _ ⟨by omega, by omega⟩ ⟨by omega, by omega⟩ ⟨by omega, by omega⟩).mono ?_
  rintro e u1 ⟨rfl, rfl⟩
  go_wp2_with fail
  go_ret
  exact ⟨rfl, HB.out.trans (hc.mono HB.out.size)⟩
end Go.Proofs.Yteemlmmdngkghaa
namespace Go.Proofs.Yteemlmmdngkghaa
open Go.RowKit
set_option linter.unusedSimpArgs false
set_option linter.unusedVariables false

def sBit : ByteArray := { data := #[98, 105, 116] }
theorem bcI_small {gr : GroupD} (hg : OkG gr) {c : Int} (hc : Small c) (k : Int) : Small (bcI gr c k) := by
  unfold bcI
  split
  · exact mulL_small hg _
  · exact hc
set_option maxRecDepth 100000 in
set_option maxHeartbeats 2000000 in
theorem impl_bitCase (gr : GroupD) (c0 k0 : Int) (w : World) (hg : OkG gr) (sc0 : Small c0) :
    Calls Try.prog 192 #[.agg #[.int .i64 gr.p, .int .i64 gr.q, .int .i64 gr.g], .int .i64 c0, .int .i64 k0] w fun e w' => e = .returned (.int .i64 (bcI gr c0 k0)) ∧ Below w.heap.size w w' := by
  have HG := Lib.hid hg
  clear hg
  have zq1 := HG.out.g1
  have zq2 := HG.out.g2
  have zp2 := HG.out.p2
  have sgg : Small gr.g := ⟨by omega, by omega⟩
  cases hc1 : (k0 == 1) with
  | false =>
    have HK0 : Hid (¬ k0 = 1) := by unfold Hid; simpa using hc1
    have HV : Hid ((.int .i64 (bcI gr c0 k0) : Value) = .int .i64 c0) := by unfold Hid; simp [bcI, hc1, HK0.out]
    rw [HV.out]
    go_enter Try.func192, Try.ntmps192
    go_wp2_with fail
    go_ret
    exact ⟨rfl, by (repeat (first | exact Below.refl _ _ | assumption | refine Below.drew ?_ | refine Below.alloc ?_ (by first | (simp; done) | (simp; omega)) _ | refine Below.setCell ?_ (by first | (simp; done) | (simp; omega)) _))⟩
  | true =>
    have HK0 : Hid (k0 = 1) := by unfold Hid; simpa using hc1
    have HV : Hid ((.int .i64 (bcI gr c0 k0) : Value) = .int .i64 (mulL gr [c0, powE gr gr.g (-1)])) := by unfold Hid; simp [bcI, hc1, HK0.out]
    rw [HV.out]
    obtain ⟨W, hW⟩ : ∃ W, W = w.alloc (.cells #[.int .i64 gr.p, .int .i64 gr.q, .int .i64 gr.g] 25) := ⟨_, rfl⟩
    have HB : Hid (Below w.heap.size w W) := by unfold Hid; rw [hW]; (repeat (first | exact Below.refl _ _ | assumption | refine Below.drew ?_ | refine Below.alloc ?_ (by first | (simp; done) | (simp; omega)) _ | refine Below.setCell ?_ (by first | (simp; done) | (simp; omega)) _))
    have c0_0 : W.cell? ⟨w.heap.size, 0, none⟩ = some (.int .i64 gr.p) := by rw [hW]; simp [go_sem]
    have c0_1 : W.cell? ⟨w.heap.size, 1, none⟩ = some (.int .i64 gr.q) := by rw [hW]; simp [go_sem]
    have c0_2 : W.cell? ⟨w.heap.size, 2, none⟩ = some (.int .i64 gr.g) := by rw [hW]; simp [go_sem]
    have HSW : Hid (W.heap.size = w.heap.size + 1) := by unfold Hid; rw [hW]; simp
    go_enter Try.func192, Try.ntmps192
    go_wp2_with fail
    rw [← hW]
    have hse : w.heap.size + 1 = W.heap.size := by have := HSW.out; omega
    (try rw [hse])
    clear hse
    clear hW
    have hc : Below W.heap.size W W := Below.refl _ _
    try (go_wp2_with fail)
    refine wp_region_noPanic ?_
    refine wp_region_P (fun w' => w'.cell? ⟨w.heap.size, 0, none⟩ = some (.int .i64 gr.p) ∧ w'.cell? ⟨w.heap.size, 1, none⟩ = some (.int .i64 gr.q) ∧ w'.cell? ⟨w.heap.size, 2, none⟩ = some (.int .i64 gr.g)) 11 [(0, []), (1, []), (2, []), (3, []), (4, [0]), (5, [2, 0]), (6, [4, 0]), (7, [6, 0]), (8, [0])] [] (by kernel_rfl) (by kernel_rfl) (by kernel_rfl) rfl (fun _ _ _ _ h => h) (fun w' h => ⟨box_at c0_0 h, box_at c0_1 h, box_at c0_2 h⟩) ?_
    simp only [pickP, pickN, List.getElem?_cons_zero, List.getElem?_cons_succ]
    iterate 5 (refine' chainP_read _ rfl rfl (fun w' hS' => ?_) ?_; rotate_left; · (simp only [lookP, allP, Act.put, List.getElem?_cons_zero, List.getElem?_cons_succ, List.setIfInBounds_toArray, List.set_cons_zero, List.set_cons_succ]; (try dsimp only at hS'); go_simp; (try with_reducible rfl)))
    -- 5: call { callee := value (func 224), args := #[t11, t13], argTypes := #[39, 3] }
    refine chainP_call (d := (some 14)) (.int .i64 (powE gr gr.g (-1))) rfl rfl (fun w' hS' => ?_) ?_
    · simp only [lookP, allP, Act.put, List.getElem?_cons_zero, List.getElem?_cons_succ, List.setIfInBounds_toArray, List.set_cons_zero, List.set_cons_succ]
      intro K hK
      go_simp
      go_at_call 107
      refine (impl_inv gr gr.g _ HG.out sgg).mono ?_
      rintro e u ⟨rfl, hq⟩
      exact hK.out _ hq
    -- 6: buildSlice 24 2 #[(0, t10), (1, t14)]
    refine chainP_do (d := (some 15)) (fun v w => Ints w v [c0, powE gr gr.g (-1)]) (fun v w w' hb h => Ints.below h hb) rfl rfl (fun w' hS' => ?_) ?_
    · simp only [lookP, allP, Act.put, List.getElem?_cons_zero, List.getElem?_cons_succ, List.setIfInBounds_toArray, List.set_cons_zero, List.set_cons_succ]
      intro K hK
      go_simp
      refine hK.out _ _ ((Below.refl _ _).alloc (Nat.le_refl _) _) ?_
      exact (OwnI.lit (B := w'.heap.size) w' (Nat.le_refl _) (l := [c0, powE gr gr.g (-1)]) (AllI64.cons (small_64 sc0) (AllI64.cons (small_64 (powE_small HG.out _ _)) AllI64.nil)) rfl (by simp [maxLen]) 2 rfl).ints
    -- 7: call { callee := value (func 197), args := #[t9, t15], argTypes := #[39, 24] }
    refine chainP_call (d := (some 16)) (.int .i64 (mulL gr [c0, powE gr gr.g (-1)])) rfl rfl (fun w' hS' => ?_) ?_
    · simp only [lookP, allP, Act.put, List.getElem?_cons_zero, List.getElem?_cons_succ, List.setIfInBounds_toArray, List.set_cons_zero, List.set_cons_succ]
      intro x6 hx6
      intro K hK
      go_simp
      go_at_call 105
      refine (impl_mul gr _ [c0, powE gr gr.g (-1)] _ HG.out hx6 (AllSmall.cons sc0 (AllSmall.cons (powE_small HG.out _ _) AllSmall.nil))).mono ?_
      rintro e u ⟨rfl, hq⟩
      exact hK.out _ hq
    -- 8: assign t16
    refine' chainP_read (d := (some 6)) _ rfl rfl (fun w' hS' => ?_) ?_; rotate_left
    · simp only [lookP, allP, Act.put, List.getElem?_cons_zero, List.getElem?_cons_succ, List.setIfInBounds_toArray, List.set_cons_zero, List.set_cons_succ]
      (try dsimp only at hS')
      go_simp
      (try with_reducible rfl)
    refine chainP_nil (fun u1 hS' => ?_)
    simp only [allP, Act.put, List.setIfInBounds_toArray, List.set_cons_zero, List.set_cons_succ]
    intro x6 hx6
    have hq1 := hS'.1
    clear hS'
    replace hc := Below.next hc hq1
    replace c0_0 := box_at c0_0 hq1
    replace c0_1 := box_at c0_1 hq1
    replace c0_2 := box_at c0_2 hq1
    clear hq1
    go_wp2_with fail
    refine NoPanic.normal ?_
    go_wp2_with fail
    go_ret
    exact ⟨rfl, HB.out.trans (hc.mono HB.out.size)⟩
set_option maxRecDepth 100000 in
set_option maxHeartbeats 2000000 in
theorem spec_rCase (gr : GroupD) (c0 k0 : Int) (w : World) (hg : OkG gr) (sc0 : Small c0) :
    Calls Try.prog 197 #[.agg #[.int .i64 gr.p, .int .i64 gr.q, .int .i64 gr.g], .int .i64 c0, .int .i64 k0] w fun e w' => e = .returned (.int .i64 (bcI gr c0 k0)) ∧ Below w.heap.size w w' := by
  have HG := Lib.hid hg
  clear hg
  have zq1 := HG.out.g1
  have zq2 := HG.out.g2
  have zp2 := HG.out.p2
  have sgg : Small gr.g := ⟨by omega, by omega⟩
  cases hc1 : (k0 == 1) with
  | false =>
    have HK0 : Hid (¬ k0 = 1) := by unfold Hid; simpa using hc1
    have HV : Hid ((.int .i64 (bcI gr c0 k0) : Value) = .int .i64 c0) := by unfold Hid; simp [bcI, hc1, HK0.out]
    rw [HV.out]
    go_enter Try.func197, Try.ntmps197
    go_wp2_with fail
    go_ret
    exact ⟨rfl, by (repeat (first | exact Below.refl _ _ | assumption | refine Below.drew ?_ | refine Below.alloc ?_ (by first | (simp; done) | (simp; omega)) _ | refine Below.setCell ?_ (by first | (simp; done) | (simp; omega)) _))⟩
  | true =>
    have HK0 : Hid (k0 = 1) := by unfold Hid; simpa using hc1
    have HV : Hid ((.int .i64 (bcI gr c0 k0) : Value) = .int .i64 (mulL gr [c0, powE gr gr.g (-1)])) := by unfold Hid; simp [bcI, hc1, HK0.out]
    rw [HV.out]
    obtain ⟨W, hW⟩ : ∃ W, W = w.alloc (.cells #[.int .i64 gr.p, .int .i64 gr.q, .int .i64 gr.g] 25) := ⟨_, rfl⟩
    have HB : Hid (Below w.heap.size w W) := by unfold Hid; rw [hW]; (repeat (first | exact Below.refl _ _ | assumption | refine Below.drew ?_ | refine Below.alloc ?_ (by first | (simp; done) | (simp; omega)) _ | refine Below.setCell ?_ (by first | (simp; done) | (simp; omega)) _))
    have c0_0 : W.cell? ⟨w.heap.size, 0, none⟩ = some (.int .i64 gr.p) := by rw [hW]; simp [go_sem]
    have c0_1 : W.cell? ⟨w.heap.size, 1, none⟩ = some (.int .i64 gr.q) := by rw [hW]; simp [go_sem]
    have c0_2 : W.cell? ⟨w.heap.size, 2, none⟩ = some (.int .i64 gr.g) := by rw [hW]; simp [go_sem]
    have HSW : Hid (W.heap.size = w.heap.size + 1) := by unfold Hid; rw [hW]; simp
    go_enter Try.func197, Try.ntmps197
    go_wp2_with fail
    rw [← hW]
    have hse : w.heap.size + 1 = W.heap.size := by have := HSW.out; omega
    (try rw [hse])
    clear hse
    clear hW
    have hc : Below W.heap.size W W := Below.refl _ _
    try (go_wp2_with fail)
    refine wp_region_noPanic ?_
    refine wp_region_P (fun w' => w'.cell? ⟨w.heap.size, 0, none⟩ = some (.int .i64 gr.p) ∧ w'.cell? ⟨w.heap.size, 1, none⟩ = some (.int .i64 gr.q) ∧ w'.cell? ⟨w.heap.size, 2, none⟩ = some (.int .i64 gr.g)) 11 [(0, []), (1, []), (2, []), (3, []), (4, [0]), (5, [2, 0]), (6, [4, 0]), (7, [6, 0]), (8, [0])] [] (by kernel_rfl) (by kernel_rfl) (by kernel_rfl) rfl (fun _ _ _ _ h => h) (fun w' h => ⟨box_at c0_0 h, box_at c0_1 h, box_at c0_2 h⟩) ?_
    simp only [pickP, pickN, List.getElem?_cons_zero, List.getElem?_cons_succ]
    iterate 5 (refine' chainP_read _ rfl rfl (fun w' hS' => ?_) ?_; rotate_left; · (simp only [lookP, allP, Act.put, List.getElem?_cons_zero, List.getElem?_cons_succ, List.setIfInBounds_toArray, List.set_cons_zero, List.set_cons_succ]; (try dsimp only at hS'); go_simp; (try with_reducible rfl)))
    -- 5: call { callee := value (func 311), args := #[t11, t13], argTypes := #[39, 3] }
    refine chainP_call (d := (some 14)) (.int .i64 (powE gr gr.g (-1))) rfl rfl (fun w' hS' => ?_) ?_
    · simp only [lookP, allP, Act.put, List.getElem?_cons_zero, List.getElem?_cons_succ, List.setIfInBounds_toArray, List.set_cons_zero, List.set_cons_succ]
      intro K hK
      go_simp
      go_at_call 264
      refine (spec_gInv gr gr.g _ HG.out sgg).mono ?_
      rintro e u ⟨rfl, hq⟩
      exact hK.out _ hq
    -- 6: buildSlice 24 2 #[(0, t10), (1, t14)]
    refine chainP_do (d := (some 15)) (fun v w => Ints w v [c0, powE gr gr.g (-1)]) (fun v w w' hb h => Ints.below h hb) rfl rfl (fun w' hS' => ?_) ?_
    · simp only [lookP, allP, Act.put, List.getElem?_cons_zero, List.getElem?_cons_succ, List.setIfInBounds_toArray, List.set_cons_zero, List.set_cons_succ]
      intro K hK
      go_simp
      refine hK.out _ _ ((Below.refl _ _).alloc (Nat.le_refl _) _) ?_
      exact (OwnI.lit (B := w'.heap.size) w' (Nat.le_refl _) (l := [c0, powE gr gr.g (-1)]) (AllI64.cons (small_64 sc0) (AllI64.cons (small_64 (powE_small HG.out _ _)) AllI64.nil)) rfl (by simp [maxLen]) 2 rfl).ints
    -- 7: call { callee := value (func 211), args := #[t9, t15], argTypes := #[39, 24] }
    refine chainP_call (d := (some 16)) (.int .i64 (mulL gr [c0, powE gr gr.g (-1)])) rfl rfl (fun w' hS' => ?_) ?_
    · simp only [lookP, allP, Act.put, List.getElem?_cons_zero, List.getElem?_cons_succ, List.setIfInBounds_toArray, List.set_cons_zero, List.set_cons_succ]
      intro x6 hx6
      intro K hK
      go_simp
      go_at_call 125
      refine (spec_gMul gr _ [c0, powE gr gr.g (-1)] _ HG.out hx6 (AllSmall.cons sc0 (AllSmall.cons (powE_small HG.out _ _) AllSmall.nil))).mono ?_
      rintro e u ⟨rfl, hq⟩
      exact hK.out _ hq
    -- 8: assign t16
    refine' chainP_read (d := (some 6)) _ rfl rfl (fun w' hS' => ?_) ?_; rotate_left
    · simp only [lookP, allP, Act.put, List.getElem?_cons_zero, List.getElem?_cons_succ, List.setIfInBounds_toArray, List.set_cons_zero, List.set_cons_succ]
      (try dsimp only at hS')
      go_simp
      (try with_reducible rfl)
    refine chainP_nil (fun u1 hS' => ?_)
    simp only [allP, Act.put, List.setIfInBounds_toArray, List.set_cons_zero, List.set_cons_succ]
    intro x6 hx6
    have hq1 := hS'.1
    clear hS'
    replace hc := Below.next hc hq1
    replace c0_0 := box_at c0_0 hq1
    replace c0_1 := box_at c0_1 hq1
    replace c0_2 := box_at c0_2 hq1
    clear hq1
    go_wp2_with fail
    refine NoPanic.normal ?_
    go_wp2_with fail
    go_ret
    exact ⟨rfl, HB.out.trans (hc.mono HB.out.size)⟩
set_option maxRecDepth 100000 in
set_option maxHeartbeats 2000000 in
theorem spec_rBitChallenge (gr : GroupD) (bh : Int) (bv : Value) (bl : List Int) (c0 : Int) (xv : Value) (xs : List Int) (w : World) (hg : OkG gr) (hb : Ints w bv bl) (hxs : Ints w xv xs) (hl2 : xs.length = 2) (sbh : Small bh) (sc0 : Small c0) (sx0 : Small (nth xs 0)) (sx1 : Small (nth xs 1)) :
    Calls Try.prog 194 #[.agg #[.int .i64 gr.p, .int .i64 gr.q, .int .i64 gr.g], .agg #[.int .i64 bh, bv], .int .i64 c0, xv] w fun e w' => e = .returned (.int .i64 (btE gr sBit bh c0 (nth xs 0) (nth xs 1))) ∧ Below w.heap.size w w' := by
  have HG := Lib.hid hg
  clear hg
  obtain ⟨bva, bvn, bvc, rfl⟩ := hb.shape
  have Ebv := Lib.hid hb.len
  have Kbv := Lib.hid hb.capMax
  have Hbv := Lib.hid hb
  clear hb
  obtain ⟨xva, xvn, xvc, rfl⟩ := hxs.shape
  have Exv := Lib.hid hxs.len
  have Kxv := Lib.hid hxs.capMax
  have Hxv := Lib.hid hxs
  clear hxs
  obtain rfl : xvn = 2 := by have := Exv.out; omega
  obtain ⟨xvb, xvo, rfl, hx⟩ := Hxv.out.at_ (by omega)
  have Kxv0 : Hid (w.cell? ⟨xvb, xvo, none⟩ = some (.int .i64 (nth xs 0))) := by unfold Hid; have h := hx 0 (by omega); simpa using h
  have Kxv1 : Hid (w.cell? ⟨xvb, xvo + 1, none⟩ = some (.int .i64 (nth xs 1))) := by unfold Hid; have h := hx 1 (by omega); simpa using h
  clear hx
  have HAS : Hid (AllSmall [bh, c0, nth xs 0, nth xs 1]) := AllSmall.cons sbh (AllSmall.cons sc0 (AllSmall.cons sx0 (AllSmall.cons sx1 AllSmall.nil)))
  have HDG := Lib.hid (digests_small HAS.out)
  obtain ⟨E0, hE0⟩ : ∃ e, btE gr sBit bh c0 (nth xs 0) (nth xs 1) = e := ⟨_, rfl⟩
  have HEE : Hid (chV gr sBit [bh, c0, nth xs 0, nth xs 1] = E0) := hE0
  rw [hE0]
  clear hE0
  obtain ⟨W, hW⟩ : ∃ W, W = (w.alloc (.cells #[.int .i64 gr.p, .int .i64 gr.q, .int .i64 gr.g] 25)).alloc (.cells #[.int .i64 bh, (.slice bva bvn bvc)] 28) := ⟨_, rfl⟩
  have HB : Hid (Below w.heap.size w W) := by unfold Hid; rw [hW]; (repeat (first | exact Below.refl _ _ | assumption | refine Below.drew ?_ | refine Below.alloc ?_ (by first | (simp; done) | (simp; omega)) _ | refine Below.setCell ?_ (by first | (simp; done) | (simp; omega)) _))
  have c0_0 : W.cell? ⟨w.heap.size, 0, none⟩ = some (.int .i64 gr.p) := by rw [hW]; simp [go_sem]
  have c0_1 : W.cell? ⟨w.heap.size, 1, none⟩ = some (.int .i64 gr.q) := by rw [hW]; simp [go_sem]
  have c0_2 : W.cell? ⟨w.heap.size, 2, none⟩ = some (.int .i64 gr.g) := by rw [hW]; simp [go_sem]
  have c1_0 : W.cell? ⟨w.heap.size + 1, 0, none⟩ = some (.int .i64 bh) := by rw [hW]; simp [go_sem]
  have c1_1 : W.cell? ⟨w.heap.size + 1, 1, none⟩ = some ((.slice bva bvn bvc)) := by rw [hW]; simp [go_sem]
  have HSW : Hid (W.heap.size = w.heap.size + 2) := by unfold Hid; rw [hW]; simp
  have yxv0 := box_at Kxv0.out HB.out
  have yxv1 := box_at Kxv1.out HB.out
  go_enter Try.func194, Try.ntmps194
  go_wp2_with fail
  rw [← hW]
  have hse : w.heap.size + 1 + 1 = W.heap.size := by have := HSW.out; omega
  (try rw [hse])
  clear hse
  clear hW
  have hc : Below W.heap.size W W := Below.refl _ _
  try (go_wp2_with fail)
  refine wp_region_noPanic ?_
  refine wp_region_P (fun w' => w'.cell? ⟨w.heap.size, 0, none⟩ = some (.int .i64 gr.p) ∧ w'.cell? ⟨w.heap.size, 1, none⟩ = some (.int .i64 gr.q) ∧ w'.cell? ⟨w.heap.size, 2, none⟩ = some (.int .i64 gr.g) ∧ w'.cell? ⟨w.heap.size + 1, 0, none⟩ = some (.int .i64 bh) ∧ w'.cell? ⟨w.heap.size + 1, 1, none⟩ = some ((.slice bva bvn bvc)) ∧ w'.cell? ⟨xvb, xvo, none⟩ = some (.int .i64 (nth xs 0)) ∧ w'.cell? ⟨xvb, xvo + 1, none⟩ = some (.int .i64 (nth xs 1))) 15 [(0, []), (1, []), (2, [0]), (3, []), (4, []), (5, [0]), (6, [0]), (7, []), (8, [0]), (9, [0]), (10, [7, 6, 3, 0]), (11, [10, 0]), (12, [0])] [] (by kernel_rfl) (by kernel_rfl) (by kernel_rfl) rfl (fun _ _ _ _ h => h) (fun w' h => ⟨box_at c0_0 h, box_at c0_1 h, box_at c0_2 h, box_at c1_0 h, box_at c1_1 h, box_at yxv0 h, box_at yxv1 h⟩) ?_
  simp only [pickP, pickN, List.getElem?_cons_zero, List.getElem?_cons_succ]
  iterate 10 (refine' chainP_read _ rfl rfl (fun w' hS' => ?_) ?_; rotate_left; · (simp only [lookP, allP, Act.put, List.getElem?_cons_zero, List.getElem?_cons_succ, List.setIfInBounds_toArray, List.set_cons_zero, List.set_cons_succ]; (try dsimp only at hS'); go_simp; (try with_reducible rfl)))
  -- 10: buildSlice 24 4 #[(0, t11), (1, t12), (2, t15), (3, t18)]
  refine chainP_do (d := (some 19)) (fun v w => Ints w v [bh, c0, (nth xs 0), (nth xs 1)]) (fun v w w' hb h => Ints.below h hb) rfl rfl (fun w' hS' => ?_) ?_
  · simp only [lookP, allP, Act.put, List.getElem?_cons_zero, List.getElem?_cons_succ, List.setIfInBounds_toArray, List.set_cons_zero, List.set_cons_succ]
    intro K hK
    go_simp
    refine hK.out _ _ ((Below.refl _ _).alloc (Nat.le_refl _) _) ?_
    exact (OwnI.lit (B := w'.heap.size) w' (Nat.le_refl _) (l := [bh, c0, (nth xs 0), (nth xs 1)]) (AllI64.cons (small_64 sbh) (AllI64.cons (small_64 sc0) (AllI64.cons (small_64 sx0) (AllI64.cons (small_64 sx1) AllI64.nil)))) rfl (by simp [maxLen]) 4 rfl).ints
  -- 11: call { callee := value (func 277), args := #[t9, const (string { data := #[98, 105, 116] }), t19], argTypes := #[39, 9, 24] }
  refine chainP_call (d := (some 20)) (.int .i64 E0) rfl rfl (fun w' hS' => ?_) ?_
  · simp only [lookP, allP, Act.put, List.getElem?_cons_zero, List.getElem?_cons_succ, List.setIfInBounds_toArray, List.set_cons_zero, List.set_cons_succ]
    intro x10 hx10
    intro K hK
    go_simp
    go_at_call 242
    refine (spec_hChallenge gr sBit _ [bh, c0, (nth xs 0), (nth xs 1)] _ HG.out hx10 (by decide) (by simp) HDG.out).mono ?_
    rintro e u ⟨rfl, hq⟩
    rw [HEE.out]
    exact hK.out _ hq
  -- 12: assign t20
  refine' chainP_read (d := (some 8)) _ rfl rfl (fun w' hS' => ?_) ?_; rotate_left
  · simp only [lookP, allP, Act.put, List.getElem?_cons_zero, List.getElem?_cons_succ, List.setIfInBounds_toArray, List.set_cons_zero, List.set_cons_succ]
    (try dsimp only at hS')
    go_simp
    (try with_reducible rfl)
  refine chainP_nil (fun u1 hS' => ?_)
  simp only [allP, Act.put, List.setIfInBounds_toArray, List.set_cons_zero, List.set_cons_succ]
  intro x10 hx10
  have hq1 := hS'.1
  clear hS'
  replace hc := Below.next hc hq1
  replace c0_0 := box_at c0_0 hq1
  replace c0_1 := box_at c0_1 hq1
  replace c0_2 := box_at c0_2 hq1
  replace c1_0 := box_at c1_0 hq1
  replace c1_1 := box_at c1_1 hq1
  replace yxv0 := box_at yxv0 hq1
  replace yxv1 := box_at yxv1 hq1
  clear hq1
  go_wp2_with fail
  refine NoPanic.normal ?_
  go_wp2_with fail
  go_ret
  exact ⟨rfl, HB.out.trans (hc.mono HB.out.size)⟩
end Go.Proofs.Yteemlmmdngkghaa
