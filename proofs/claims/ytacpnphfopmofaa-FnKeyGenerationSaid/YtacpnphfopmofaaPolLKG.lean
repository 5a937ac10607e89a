/- SumDealings (printed by gen_sh5.py). -/
import Derived.Test.YtacpnphfopmofaaSh4KG
import Derived.Test.YtacpnphfopmofaaCom1KG
import Derived.Test.YtacpnphfopmofaaFindDealingKG
import Derived.Test.YtacpnphfopmofaaBgKG
import Derived.Test.YtacpnphfopmofaaBaKG
import Derived.Test.YtacpnphfopmofaaFrKG
import Derived.Test.YtacpnphfopmofaaSh2KG
import Derived.Test.YtacpnphfopmofaaRowIKG
import Derived.Deep.Cut
namespace Go.Proofs.Ytacpnphfopmofaa
open Go.RowKit
set_option linter.unusedSimpArgs false
set_option linter.unusedVariables false

/-- a dealing in new memory and a Bool are returned -/
def RetDB (e : Ending) (w : World) (B : Nat) (b : Bool) (d : DealingD) : Prop := ∃ x y, e = .returned (.tuple #[.agg #[x, y], .bool b]) ∧ OwnI w B x d.c ∧ OwnI w B y d.s
theorem RetDB.mk {w : World} {B : Nat} {x y : Value} {b : Bool} {d : DealingD} (h1 : OwnI w B x d.c) (h2 : OwnI w B y d.s) : RetDB (.returned (.tuple #[.agg #[x, y], .bool b])) w B b d := ⟨x, y, rfl, h1, h2⟩
end Go.Proofs.Ytacpnphfopmofaa
namespace Go.Proofs.Ytacpnphfopmofaa
open Go.RowKit
set_option linter.unusedSimpArgs false
set_option linter.unusedVariables false

theorem smL_nth (f : Int → Int → Int) (a b : List Int) (j : Nat) : ∀ k, k ≤ a.length → nth (smL f a b k) j = if j < k then f (nth a j) (nth b j) else nth a j := by
  intro k
  induction k with
  | zero => intro _; simp [smL]
  | succ k ih =>
    intro hk
    have ih := ih (by omega)
    have hl := smL_len f a b k
    unfold smL
    by_cases e : j = k
    · subst e
      have h1 : nth ((smL f a b j).set j (f (nth (smL f a b j) j) (nth b j))) j = f (nth (smL f a b j) j) (nth b j) := by
        simp [nth, List.getD, show j < (smL f a b j).length by omega]
      rw [h1, ih]; simp
    · have h1 : nth ((smL f a b k).set k (f (nth (smL f a b k) k) (nth b k))) j = nth (smL f a b k) j := by
        simp [nth, List.getD, List.getElem?_set_ne (show k ≠ j by omega)]
      rw [h1, ih]
      by_cases h2 : j < k
      · rw [if_pos h2, if_pos (by omega)]
      · rw [if_neg h2, if_neg (by omega)]
theorem smL_all_nth (f : Int → Int → Int) {a b : List Int} (hl : a.length = b.length) {j : Nat} (hj : j < b.length) : nth (smL f a b b.length) j = f (nth a j) (nth b j) := by
  rw [smL_nth f a b j _ (by omega), if_pos hj]
theorem atS_two (gr : GroupD) (i : Int) (a b : List Int) (k : Nat) : (atS gr i a k).2 = (atS gr i b k).2 := by
  induction k with
  | zero => rfl
  | succ k ih => unfold atS; show _ * i % gr.q = _ * i % gr.q; rw [ih]
theorem mul4_mod (a b c d p : Int) : (a * b % p) * (c * d % p) % p = (a * c % p) * (b * d % p) % p := by
  rw [← Int.mul_emod, ← Int.mul_emod]; congr 1; ac_rfl
theorem atS_sum {gr : GroupD} (hg : OkG gr) (i : Int) {a b : List Int} (hl : a.length = b.length) : ∀ k, k ≤ b.length → (atS gr i (smL (mulF gr) a b b.length) k).1 = (atS gr i a k).1 * (atS gr i b k).1 % gr.p := by
  intro k
  induction k with
  | zero =>
    intro _
    have h1 := hg.q1; have h2 := hg.q2
    show (1 : Int) = 1 * 1 % gr.p
    rw [Int.one_mul, Int.emod_eq_of_lt (by omega) (by omega)]
  | succ k ih =>
    intro hk
    have ih := ih (by omega)
    have e : nth (smL (mulF gr) a b b.length) k = nth a k * nth b k % gr.p := by
      rw [smL_all_nth _ hl (by omega)]; unfold mulF; rw [mulT]
    unfold atS
    show mulL gr [_, powE gr (nth (smL (mulF gr) a b b.length) k) _] = _
    rw [e, mulT, mulT, mulT, ih, powE_mulB, atS_two gr i (smL (mulF gr) a b b.length) b k, atS_two gr i a b k]
    rw [mul4_mod, ← Int.mul_emod]
theorem atE_sum {gr : GroupD} (hg : OkG gr) (i : Int) {a b : List Int} (hl : a.length = b.length) : atE gr (smL (mulF gr) a b b.length) i = atE gr a i * atE gr b i % gr.p := by
  unfold atE
  rw [smL_len, hl]
  exact atS_sum hg i hl _ (Nat.le_refl _)
theorem shrB_sum {gr : GroupD} (hG : shG gr = true) {a b : List Int} (hl : a.length = b.length) {i s t : Int} (h1 : shrB gr a i s = true) (h2 : shrB gr b i t = true) : shrB gr (smL (mulF gr) a b b.length) i (addF gr s t) = true := by
  have hg := shG_ok hG
  have hgen : elB gr gr.g = true := elT_gen (by unfold shG at hG; rw [Bool.and_eq_true] at hG; exact hG.2)
  unfold shrB at *
  rw [beq_iff_eq] at *
  rw [atE_sum hg i hl, ← h1, ← h2]
  unfold addF
  rw [powE_emod, powE_add hg hgen]
theorem bad_nil (gr : GroupD) (d : DealingD) : ∀ n, bdL gr d n = [] ↔ ∀ k, k < n → shrB gr d.c ((k : Int) + 1) (nth d.s k) = true := by
  intro n
  induction n with
  | zero => simp [bdL]
  | succ n ih =>
    unfold bdL
    by_cases h : shrB gr d.c ((n : Int) + 1) (nth d.s n) = true
    · rw [if_pos h, ih]
      constructor
      · intro h2 k hk
        rcases Nat.lt_or_ge k n with h3 | h3
        · exact h2 k h3
        · obtain rfl : k = n := by omega
          exact h
      · exact fun h2 k hk => h2 k (by omega)
    · rw [if_neg h]
      constructor
      · intro h2; simp at h2
      · exact fun h2 => absurd (h2 n (by omega)) h
theorem suX_bad {gr : GroupD} {f a d : DealingD} (hG : shG gr = true) (h1 : SameD gr f a) (h2 : SameD gr f d) (ha : badE gr a = []) (hd : badE gr d = []) : badE gr (suX gr a d) = [] := by
  have hlc : a.c.length = d.c.length := by rw [h1.lc, h2.lc]
  have hls : a.s.length = d.s.length := by rw [h1.ls, h2.ls]
  unfold badE at *
  rw [bad_nil] at *
  intro k hk
  have hk' : k < a.s.length := by rw [show (suX gr a d).s.length = a.s.length from smL_len _ _ _ _] at hk; exact hk
  show shrB gr (smL (mulF gr) a.c d.c d.c.length) _ (nth (smL (addF gr) a.s d.s d.s.length) k) = true
  rw [smL_all_nth _ hls (by omega)]
  exact shrB_sum hG hlc (ha k hk') (hd k (by omega))
theorem smF_bad {gr : GroupD} {l : List DealingD} (hG : shG gr = true) (hl : ∀ d ∈ l, SameD gr (hdD l) d) (hb : ∀ d ∈ l, badE gr d = []) : ∀ j, j < l.length → SameD gr (hdD l) (smF gr l j) ∧ badE gr (smF gr l j) = [] := by
  intro j
  induction j with
  | zero => intro h0; rw [show smF gr l 0 = hdD l from rfl, hdD_eq h0]; exact ⟨by have := hl _ (List.getElem_mem h0); rwa [hdD_eq h0] at this, hb _ (List.getElem_mem h0)⟩
  | succ j ih =>
    intro hj
    obtain ⟨i1, i2⟩ := ih (by omega)
    have hm := hl _ (List.getElem_mem hj)
    have hn := hb _ (List.getElem_mem hj)
    rw [show smF gr l (j + 1) = suX gr (smF gr l j) (atD l (j + 1)) from rfl, atD_eq hj]
    exact ⟨SameD.sum (shG_ok hG) i1 hm, suX_bad hG i1 hm i2 hn⟩
theorem deB_same {gr : GroupD} {f d : DealingD} (h : deB gr f = true) (hs : SameD gr f d) : deB gr d = true := by
  unfold deB lnB cmsB at *
  simp only [Bool.and_eq_true, decide_eq_true_iff, List.all_eq_true] at *
  rw [hs.lc, hs.ls]
  exact ⟨⟨h.1.1, hs.ec⟩, h.2.1, hs.es⟩
end Go.Proofs.Ytacpnphfopmofaa
namespace Go.Proofs.Ytacpnphfopmofaa
open Go.RowKit
set_option linter.unusedSimpArgs false
set_option linter.unusedVariables false

theorem nthE {l : List Int} {k : Nat} (h : k < l.length) : nth l k = l[k] := by simp [nth, List.getD, h]
end Go.Proofs.Ytacpnphfopmofaa
namespace Go.Proofs.Ytacpnphfopmofaa
open Go.RowKit
set_option linter.unusedSimpArgs false
set_option linter.unusedVariables false

/-- the element that a digest gives -/
def derX (gr : GroupD) (s : ByteArray) (k : Int) (c : Nat) : Int := powM (1 + hashOf (lab s ++ [gr.p, gr.q, gr.g, k, (c : Int)]) % (gr.p - 1)) ((gr.p - 1) / gr.q) gr.p
/-- the first of the first n that is not one, or nought -/
def derTo (gr : GroupD) (s : ByteArray) (k : Int) : Nat → Int
  | 0 => 0
  | n + 1 => if derTo gr s k n = 0 then (if derX gr s k n = 1 then 0 else derX gr s k n) else derTo gr s k n
/-- the derived element, or nought -/
def hD (gr : GroupD) (s : ByteArray) (k : Int) : Int := derTo gr s k 1000
end Go.Proofs.Ytacpnphfopmofaa
namespace Go.Proofs.Ytacpnphfopmofaa
open Go.RowKit
set_option linter.unusedSimpArgs false
set_option linter.unusedVariables false

/-- a contest is valid -/
def ctOk (k o l m p : Int) : Bool := decide (0 ≤ l ∧ l ≤ m ∧ ((k = 1 ∨ k = 3) ∧ 1 ≤ o ∧ o ≤ 8 ∧ m ≤ o ∧ p = 0 ∨ k = 2 ∧ 1 ≤ o ∧ o ≤ 8 ∧ 1 ≤ p ∧ p ≤ 5 ∧ m ≤ o * p ∨ k = 4 ∧ o = 0 ∧ m ≤ 5 ∧ p = 0))
theorem ctOk_bd {k o l m p : Int} (h : ctOk k o l m p = true) : 0 ≤ o ∧ o ≤ 8 ∧ 0 ≤ p ∧ p ≤ 5 ∧ 0 ≤ l ∧ l ≤ m ∧ m ≤ 40 := by
  unfold ctOk at h
  rw [decide_eq_true_iff] at h
  obtain ⟨h1, h2, h | ⟨h3, h4, h5, h6, h7, h8⟩ | h⟩ := h
  · omega
  · have := mul_bd (a := o) (b := p) (by omega) h5 (by omega) h7
    omega
  · omega
end Go.Proofs.Ytacpnphfopmofaa
namespace Go.Proofs.Ytacpnphfopmofaa
open Go.RowKit
set_option linter.unusedSimpArgs false
set_option linter.unusedVariables false

/-- the list of f 0, f 1, .. of length n -/
def tab (n : Nat) (f : Nat → Int) : List Int := (List.range n).map f
theorem tab_length (n : Nat) (f : Nat → Int) : (tab n f).length = n := by simp [tab]
theorem tab_mem {n : Nat} {f : Nat → Int} {x : Int} (h : x ∈ tab n f) : ∃ i, i < n ∧ f i = x := by
  simp only [tab, List.mem_map, List.mem_range] at h; exact h
/-- the number of digits, the last digit first -/
def codeL (b : Int) (l : List Int) : Int := l.foldr (fun d c => c * b + d) 0
/-- digits -/
def Digs (l : List Int) : Prop := l.length ≤ 8 ∧ ∀ x ∈ l, 0 ≤ x ∧ x ≤ 26
theorem codeL_bd0 {b : Int} (h1 : 0 ≤ b) (h2 : b ≤ 27) (l : List Int) : (∀ x ∈ l, 0 ≤ x ∧ x ≤ 26) → 0 ≤ codeL b l ∧ codeL b l < 27 ^ l.length := by
  induction l with
  | nil => intro _; exact ⟨Int.le_refl _, by show (0 : Int) < 27 ^ 0; decide⟩
  | cons a l ih =>
    intro h
    obtain ⟨i1, i2⟩ := ih (fun x hx => h x (List.mem_cons_of_mem _ hx))
    obtain ⟨a1, a2⟩ := h a (List.mem_cons_self ..)
    obtain ⟨m1, m2⟩ := mul_bd (a := codeL b l) (b := b) (A := 27 ^ l.length - 1) i1 (by omega) h1 h2
    have e : codeL b (a :: l) = codeL b l * b + a := rfl
    rw [e, List.length_cons, Int.pow_succ]
    omega
theorem codeL_bd {b : Int} (h1 : 0 ≤ b) (h2 : b ≤ 27) {l : List Int} (h : Digs l) : 0 ≤ codeL b l ∧ codeL b l ≤ 282429536480 := by
  obtain ⟨a, b⟩ := codeL_bd0 h1 h2 l h.2
  refine ⟨a, ?_⟩
  have h3 : l.length < 9 := by have := h.1; omega
  have e : (27 : Int) ^ l.length ≤ 282429536481 := by
    generalize l.length = n at h3
    obtain ⟨j, rfl⟩ : ∃ j : Fin 9, n = j := ⟨⟨n, h3⟩, rfl⟩
    revert j; decide
  omega
theorem Digs.drop {l : List Int} (h : Digs l) (k : Nat) : Digs (l.drop k) := ⟨by have := h.1; simp; omega, fun x hx => h.2 x (List.mem_of_mem_drop hx)⟩
theorem Digs.at_ {l : List Int} (h : Digs l) {k : Nat} (hk : k < l.length) : 0 ≤ nth l k ∧ nth l k ≤ 26 := by rw [nth_eq hk]; exact h.2 _ (List.getElem_mem hk)
/-- the base of a contest's codes -/
def ctBase (k o p : Int) : Int := if k = 2 then p + 1 else if k = 3 then o + 1 else if k = 4 then 27 else 2
/-- n digits that hold r, each of at most p, the last ones first -/
def scoreL (p : Int) : Nat → Int → List Int
  | 0, _ => []
  | n + 1, r => scoreL p n (r - min r p) ++ [min r p]
theorem scoreL_length (p : Int) (n : Nat) : ∀ r, (scoreL p n r).length = n := by
  induction n with
  | zero => intro r; rfl
  | succ n ih => intro r; simp [scoreL, ih]
theorem scoreL_digs {p : Int} (hp0 : 0 ≤ p) (hp : p ≤ 26) (n : Nat) : ∀ r, 0 ≤ r → ∀ x ∈ scoreL p n r, 0 ≤ x ∧ x ≤ 26 := by
  induction n with
  | zero => intro r _ x hx; cases hx
  | succ n ih =>
    intro r hr x hx
    rw [scoreL, List.mem_append] at hx
    rcases hx with hx | hx
    · exact ih _ (by omega) x hx
    · simp at hx; omega
/-- the digits of the greatest code -/
def grD (k : Int) (o m : Nat) (p : Int) : List Int :=
  if k = 1 then tab o (fun i => if (o : Int) - m ≤ i then 1 else 0)
  else if k = 2 then scoreL p o m
  else if k = 3 then tab m (fun i => (o : Int) - m + 1 + i)
  else tab m (fun _ => 26)
/-- the greatest code -/
def ctGr (k o m p : Int) : Int := codeL (ctBase k o p) (grD k o.toNat m.toNat p)
/-- what bounds a valid contest's numbers -/
structure CtN (k : Int) (o m : Nat) (p : Int) : Prop where
  k1 : k = 1 ∨ k = 2 ∨ k = 3 ∨ k = 4
  o8 : o ≤ 8
  p0 : 0 ≤ p
  p5 : p ≤ 5
  m40 : m ≤ 40
  mo : k = 1 ∨ k = 3 → m ≤ o
  m4 : k = 4 → m ≤ 5
theorem CtN.of {k o l m p : Int} (h : ctOk k o l m p = true) : ∃ on mn : Nat, o = on ∧ m = mn ∧ CtN k on mn p := by
  have hb := ctOk_bd h
  unfold ctOk at h; rw [decide_eq_true_iff] at h
  refine ⟨o.toNat, m.toNat, by omega, by omega, ⟨by omega, by omega, by omega, by omega, by omega, by omega, by omega⟩⟩
theorem CtN.digs {k p : Int} {o m : Nat} (h : CtN k o m p) : Digs (grD k o m p) := by
  obtain ⟨hk, ho, hp0, hp5, hm, hmo, hm4⟩ := h
  unfold grD
  rcases hk with rfl | rfl | rfl | rfl
  · have := hmo (.inl rfl)
    refine ⟨by simp [tab_length]; omega, fun x hx => ?_⟩
    simp only [if_true] at hx
    obtain ⟨i, hi, rfl⟩ := tab_mem hx
    split <;> omega
  · refine ⟨by simp [scoreL_length]; omega, fun x hx => ?_⟩
    exact scoreL_digs hp0 (by omega) o m (by omega) x (by simpa using hx)
  · have := hmo (.inr rfl)
    refine ⟨by simp [tab_length]; omega, fun x hx => ?_⟩
    obtain ⟨i, hi, rfl⟩ := tab_mem (show x ∈ tab m _ by simpa using hx)
    omega
  · have := hm4 rfl
    refine ⟨by simp [tab_length]; omega, fun x hx => ?_⟩
    obtain ⟨i, hi, rfl⟩ := tab_mem (show x ∈ tab m _ by simpa using hx)
    omega
theorem CtN.base {k p : Int} {o m : Nat} (h : CtN k o m p) : 0 ≤ ctBase k o p ∧ ctBase k o p ≤ 27 := by
  have := h.o8; have := h.p0; have := h.p5
  unfold ctBase; split
  · omega
  · split
    · omega
    · split <;> omega
theorem CtN.gr {k p : Int} {o m : Nat} (h : CtN k o m p) : 0 ≤ ctGr k o m p ∧ ctGr k o m p ≤ 282429536480 := by
  have := codeL_bd h.base.1 h.base.2 h.digs
  unfold ctGr; simpa using this
end Go.Proofs.Ytacpnphfopmofaa
namespace Go.Proofs.Ytacpnphfopmofaa
open Go.RowKit
set_option linter.unusedSimpArgs false
set_option linter.unusedVariables false

/-- each of the first n elements can be derived -/
def hsB (gr : GroupD) (s : ByteArray) (n : Nat) : Bool := (List.range n).all fun k => decide (0 < hD gr s k)
end Go.Proofs.Ytacpnphfopmofaa
namespace Go.Proofs.Ytacpnphfopmofaa
open Go.RowKit
set_option linter.unusedSimpArgs false
set_option linter.unusedVariables false

theorem BoxN.belowB {w w' : World} {b B : Nat} {t : TypeId} {cs : List Value} (h : BoxN w b t cs) (hb : Below B w w') (hB : b < B) : BoxN w' b t cs := (hb.block b hB).trans h
end Go.Proofs.Ytacpnphfopmofaa
namespace Go.Proofs.Ytacpnphfopmofaa
open Go.RowKit
set_option linter.unusedSimpArgs false
set_option linter.unusedVariables false

theorem OwnI.other {w : World} {B b : Nat} {v : Value} {l : List Int} (h : OwnI w B v l) (hb : b < B) (j : Nat) (x : Value) : OwnI (w.setCell ⟨b, j, none⟩ x) B v l :=
  h.kept (grownBy_setCell _ b j x) (.inr fun e => by have := (h.lt _ e).1; omega)
/-- a row of integers and a box of another type lie in different blocks -/
theorem OwnI.apart {w : World} {B b : Nat} {v : Value} {l : List Int} {t : TypeId} {cs : List Value} (h : OwnI w B v l) (hx : BoxN w b t cs) (ht : t ≠ 3) : ∀ k, v.ownBlock = some k → b ≠ k := by
  rintro k hk rfl
  rcases h.2.2 with h2 | ⟨g, cap, cur, rfl, hg, hr, r⟩
  · rw [h2.1] at hk; cases hk
  · cases hk
    unfold BoxN at hx
    rw [hx] at hr
    injection hr with hr
    injection hr with h1 h2 h3
    exact ht h2
theorem BoxN.grownR {w w' : World} {b : Nat} {t : TypeId} {cs : List Value} {row : Option Nat} (h : BoxN w b t cs) (hg : w.grownBy w' row) (hne : ∀ k, row = some k → b ≠ k) : BoxN w' b t cs :=
  (hg.block b h.lt (fun e => hne b e.symm rfl)).trans h
end Go.Proofs.Ytacpnphfopmofaa
namespace Go.Proofs.Ytacpnphfopmofaa
open Go.RowKit
set_option linter.unusedSimpArgs false
set_option linter.unusedVariables false

/-- what holds in every world that agrees in the blocks from B on below T -/
def SinceT (B T : Nat) (w : World) (P : World → Prop) : Prop := T ≤ w.heap.size ∧ ∀ w', w.heap.size ≤ w'.heap.size → (∀ k, B ≤ k → k < T → w'.heap[k]? = w.heap[k]?) → P w'
theorem SinceT.of {B T : Nat} {w W : World} {P : World → Prop} (h : Since B w P) (hb : Below w.heap.size w W) (hT : w.heap.size ≤ T ∧ T ≤ W.heap.size) : SinceT B T W P :=
  ⟨hT.2, fun w' hs hk => h w' (Nat.le_trans hb.size hs) fun k h1 h2 => (hk k h1 (by omega)).trans (hb.block k h2)⟩
theorem SinceT.here {B T : Nat} {w : World} {P : World → Prop} (h : SinceT B T w P) : P w := h.2 w (Nat.le_refl _) fun _ _ _ => rfl
theorem SinceT.step {B T : Nat} {w w' : World} {P : World → Prop} (h : SinceT B T w P) (hs : w.heap.size ≤ w'.heap.size) (hb : ∀ k, B ≤ k → k < T → w'.heap[k]? = w.heap[k]?) : SinceT B T w' P :=
  ⟨Nat.le_trans h.1 hs, fun u h1 h2 => h.2 u (Nat.le_trans hs h1) fun k hk hlt => (h2 k hk hlt).trans (hb k hk hlt)⟩
theorem SinceT.within {B T lo hi : Nat} {w w' : World} {P : World → Prop} (h : SinceT B T w P) (hw : Within lo hi w w') (hT : T ≤ lo ∨ hi ≤ B) : SinceT B T w' P :=
  h.step hw.size fun k hk hlt => hw.block k (by have := h.1; omega) (by omega)
theorem SinceT.below {B T : Nat} {w w' : World} {P : World → Prop} (h : SinceT B T w P) (hb : Below w.heap.size w w') : SinceT B T w' P := h.step hb.size fun k _ hlt => hb.block k (by have := h.1; omega)
theorem SinceT.mono {B B' T : Nat} {w : World} {P : World → Prop} (h : SinceT B T w P) (hB : B' ≤ B) : Since B' w P := fun w' hs hk => h.2 w' hs fun k h1 h2 => hk k (by omega) (by have := h.1; omega)
end Go.Proofs.Ytacpnphfopmofaa
namespace Go.Proofs.Ytacpnphfopmofaa
open Go.RowKit
set_option linter.unusedSimpArgs false
set_option linter.unusedVariables false

set_option maxHeartbeats 1000000 in
theorem spec_coinsZ (g : Nat) (P Q G z : Int) (w : World) (hz : z ≤ 0) :
    Calls Try.prog 82 #[.pointer (some ⟨g, 0, none⟩), .agg #[.int .i64 P, .int .i64 Q, .int .i64 G], .int .i64 z] w fun e w' => e = .returned (.slice none 0 0) ∧ Below w.heap.size w w' := by
  have hd : decide ((0 : Int) < z) = false := decide_eq_false (by omega)
  go_enter Try.func82, Try.ntmps82
  go_wp2_with fail
  refine wp_loop_rounds 1 ?_
  rw [rounds_succ]
  go_wp2_with fail
  go_ret
  exact ⟨rfl, by (repeat (first | exact Below.refl _ _ | assumption | refine Below.drew ?_ | refine Below.alloc ?_ (by first | (simp; done) | (simp; omega)) _ | refine Below.setCell ?_ (by first | (simp; done) | (simp; omega)) _))⟩
set_option maxRecDepth 100000 in
set_option maxHeartbeats 2000000 in
theorem spec_anyCoinsZ (w0 : World) (g : Nat) (n P Q G z : Int) (w : World) (h : Cur w0 w g n) (hb : Below w0.heap.size w0 w) (hn : n ≤ 900000000000000) (hz : z ≤ 0) :
    Calls Try.prog 100 #[.pointer (some ⟨g, 0, none⟩), .agg #[.int .i64 P, .int .i64 Q, .int .i64 G], .int .i64 z] w fun e w' => (∃ v' l, e = .returned v' ∧ Since w.heap.size w' (fun u => Ints u v' l) ∧ l.length ≤ 1) ∧ Cur w0 w' g (n + 4010) ∧ Within g (g + 1) w w' := by
  have hd : decide ((0 : Int) < z) = false := decide_eq_false (by omega)
  have hge := h.ge
  have hgw := h.lt
  obtain ⟨W, hW⟩ : ∃ W, W = w.alloc (.cells #[.int .i64 P, .int .i64 Q, .int .i64 G] 24) := ⟨_, rfl⟩
  have hbW : Below w.heap.size w W := by rw [hW]; (repeat (first | exact Below.refl _ _ | assumption | refine Below.drew ?_ | refine Below.alloc ?_ (by first | (simp; done) | (simp; omega)) _ | refine Below.setCell ?_ (by first | (simp; done) | (simp; omega)) _))
  have HX : Hid (BoxN W w.heap.size 24 [.int .i64 P, .int .i64 Q, .int .i64 G]) := by unfold Hid; rw [hW]; exact BoxN.new w [.int .i64 P, .int .i64 Q, .int .i64 G] 24
  have hsW : W.heap.size = w.heap.size + 1 := by rw [hW]; simp
  have HC := Lib.hid (h.keep hbW)
  have HWW : Hid (Within g (g + 1) w W) := Within.of_below hbW
  have HBB : Hid (Below w0.heap.size w0 W) := hb.trans (hbW.mono hb.size)
  have c0 := HX.out.cell (i := 0) rfl
  have c1 := HX.out.cell (i := 1) rfl
  have c2 := HX.out.cell (i := 2) rfl
  clear h hb
  go_enter Try.func100, Try.ntmps100
  go_wp2_with fail
  rw [← hW]
  clear hW hbW
  try (go_wp2_with fail)
  refine (spec_coinsZ g P Q G z _ (of_decide_eq_false hd |> Int.not_lt.1)).mono ?_
  rintro e w1 ⟨rfl, hb1⟩
  have hs1 := hb1.size
  replace HWW := Lib.hid (HWW.out.trans (Within.of_below hb1))
  replace HBB := Lib.hid (HBB.out.trans (hb1.mono HBB.out.size))
  replace HC := Lib.hid (HC.out.keep hb1)
  clear hb1 c0 c1 c2 HX
  go_wp2_with fail
  refine (spec_pick w0 g _ 30 _ HC.out HBB.out (by omega)).mono ?_
  rintro e wr ⟨⟨i, rfl, hi0, _, hi2, _⟩, hc, hw⟩
  clear hi2
  have hs2 := hw.size
  replace HWW := Lib.hid (HWW.out.trans hw)
  replace HC := Lib.hid hc
  clear hc hw
  rcases (by omega : i = 0 ∨ i = 1 ∨ i = 2 ∨ (i ≠ 0 ∧ i ≠ 1 ∧ i ≠ 2)) with rfl | rfl | rfl | ⟨i0, i1, i2⟩
  · go_wp2_with (at_builtin; refine wpList_append_ints rfl _ _ rfl w.heap.size _ _ [] [0] rfl (OwnI.nil _ _) rfl (Ints.lit1 _ ⟨by decide, by decide⟩) (by simp) (by simp; omega) ?_; intro v4 w4 hown4 hgr4)
    have hb4 := (OwnI.nil _ w.heap.size : OwnI _ w.heap.size (.slice none 0 0) []).grown hgr4 (by simp; omega)
    have hb5 := ((Below.refl w.heap.size wr).alloc (by omega) _).trans hb4
    go_ret
    exact ⟨⟨_, _, rfl, Since.of_ownI hown4 (Nat.le_refl _), by simp⟩, (HC.out.belowB hb5 (by omega)).mono (by omega), HWW.out.belowStep hb5⟩
  · go_wp2_with fail
    go_ret
    exact ⟨⟨_, [], rfl, fun u _ _ => Ints.nil u, by simp⟩, HC.out.mono (by omega), HWW.out⟩
  · go_wp2_with fail
    go_ret
    exact ⟨⟨_, [], rfl, fun u _ _ => Ints.nil u, by simp⟩, HC.out.mono (by omega), HWW.out⟩
  · have j0 : (i == 0) = false := by rw [beq_eq_false_iff_ne]; exact i0
    have j1 : (i == 1) = false := by rw [beq_eq_false_iff_ne]; exact i1
    have j2 : (i == 2) = false := by rw [beq_eq_false_iff_ne]; exact i2
    clear i0 i1 i2
    go_wp2_with fail
    go_ret
    exact ⟨⟨_, [], rfl, fun u _ _ => Ints.nil u, by simp⟩, HC.out.mono (by omega), HWW.out⟩
theorem spec_anyCoinsI (w0 : World) (g : Nat) (n P Q G z : Int) (w : World) (h : Cur w0 w g n) (hb : Below w0.heap.size w0 w) (hn : n ≤ 900000000000000) (hgr : GrB ⟨P, Q, G⟩) (hz : z ≤ 1000) :
    Calls Try.prog 100 #[.pointer (some ⟨g, 0, none⟩), .agg #[.int .i64 P, .int .i64 Q, .int .i64 G], .int .i64 z] w fun e w' => (∃ v' l, e = .returned v' ∧ Since w.heap.size w' (fun u => Ints u v' l) ∧ l.length ≤ 1001) ∧ Cur w0 w' g (n + 4010) ∧ Within g (g + 1) w w' := by
  by_cases h0 : z ≤ 0
  · refine (spec_anyCoinsZ w0 g n P Q G z w h hb hn h0).mono ?_
    rintro e w' ⟨⟨v, l, h1, h2, h3⟩, h4⟩
    exact ⟨⟨v, l, h1, h2, by omega⟩, h4⟩
  · obtain ⟨m, rfl⟩ : ∃ m : Nat, z = m := ⟨z.toNat, by omega⟩
    refine (spec_anyCoins w0 g n P Q G m w h hb hn hgr (by omega)).mono ?_
    rintro e w' ⟨⟨v, l, h1, h2, h3⟩, h4⟩
    exact ⟨⟨v, l, h1, h2, by omega⟩, h4⟩
end Go.Proofs.Ytacpnphfopmofaa
namespace Go.Proofs.Ytacpnphfopmofaa
open Go.RowKit
set_option linter.unusedSimpArgs false
set_option linter.unusedVariables false

theorem mkOk_shared : ∀ x ∈ ([11, 11, 13, 23, 23, 101, 1019] : List Int), MkOk x := by
  intro x hx
  simp only [List.mem_cons, List.not_mem_nil, or_false] at hx
  rcases hx with rfl | rfl | rfl | rfl | rfl | rfl | rfl
  · exact mkOk_tiny 11 (by simp)
  · exact mkOk_tiny 11 (by simp)
  · exact mkOk_tiny 13 (by simp)
  · exact mkOk_tiny 23 (by simp)
  · exact mkOk_tiny 23 (by simp)
  · exact mkOk_more 101 (by simp)
  · exact mkOk_more 1019 (by simp)
set_option maxRecDepth 100000 in
set_option maxHeartbeats 4000000 in
theorem spec_shared (w0 : World) (g : Nat) (n : Int) (w : World) (h : Cur w0 w g n) (hb : Below w0.heap.size w0 w) (hn : n ≤ 900000000000000) :
    Calls Try.prog 99 #[.pointer (some ⟨g, 0, none⟩)] w fun e w' => (∃ P Q G : Int, e = .returned (.agg #[.int .i64 P, .int .i64 Q, .int .i64 G]) ∧ (-7 ≤ P ∧ P ≤ 2000000010) ∧ (-7 ≤ Q ∧ Q ≤ 2000000010) ∧ (-7 ≤ G ∧ G ≤ 2000000010)) ∧ Cur w0 w' g (n + 100) ∧ Within g (g + 1) w w' := by
  have HC := Lib.hid h
  have hg := h.lt
  have hg0 := h.ge
  have HB0 := Lib.hid hb
  clear h hb
  obtain ⟨W, hW⟩ : ∃ W, W = w.alloc (.cells #[.int .i64 0, .int .i64 0, .int .i64 0] 24) := ⟨_, rfl⟩
  have hbW : Below w.heap.size w W := by rw [hW]; exact (Below.refl _ _).alloc (Nat.le_refl _) _
  have HX : Hid (BoxN W w.heap.size 24 [.int .i64 0, .int .i64 0, .int .i64 0]) := by unfold Hid; rw [hW]; exact BoxN.new w _ _
  have HSW : Hid (W.heap.size = w.heap.size + 1) := by unfold Hid; rw [hW]; simp
  have hsW : w.heap.size < W.heap.size := by have := HSW.out; omega
  replace HC := Lib.hid (HC.out.keep hbW)
  have HBW := Lib.hid hbW
  have HWW : Hid (Within g (g + 1) w W) := Within.of_below hbW
  have HB1 := Lib.hid (Below.next HB0.out hbW)
  clear hbW
  go_enter Try.func99, Try.ntmps99
  go_wp2_with fail
  rw [← hW]
  clear hW
  refine (spec_one w0 g _ 16 _ HC.out HB1.out (by omega)).mono ?_
  rintro e wP ⟨⟨q, rfl⟩, hc, hw⟩
  replace HX := Lib.hid (HX.out.kept hw (.inr (by omega)))
  replace HWW := Lib.hid (HWW.out.trans hw)
  replace HB1 := Lib.hid (hw.belowOf HB1.out (by omega))
  replace HC := Lib.hid hc
  have hsp := hw.size
  clear hc hw
  cases q with
  | false =>
    go_wp2_with fail
    refine (spec_among w0 g _ _ [11, 11, 13, 23, 23, 101, 1019] _ (HC.out.keep ((Below.refl _ _).alloc (Nat.le_refl _) _)) (HB1.out.alloc HB1.out.size _) (by omega) (Apart.of_ownI (OwnI.lit wP (Nat.le_refl _) (lit_I64 rfl) (by rfl) (by decide) 7 rfl) (by omega)) (by decide)).mono ?_
    rintro e w1 ⟨⟨x, rfl, hx⟩, hc, hw⟩
    obtain ⟨p0, j, hx1, hx2, hx3, hx4, hx5⟩ := mkOk_shared x hx
    have hw1 : Within g (g + 1) wP w1 := (Within.of_below ((Below.refl _ _).alloc (Nat.le_refl _) _)).trans hw
    have HX1 := Lib.hid (HX.out.kept hw1 (.inr (by omega)))
    have HW1 := Lib.hid (HWW.out.trans hw1)
    have HC1 := Lib.hid hc
    have hs1 := hw1.size
    clear hc hw hw1 hx
    go_wp2_with fail
    refine (spec_MakeGroup x p0 j _ hx1 hx2 hx3 hx4 hx5).mono ?_
    rintro e w2 ⟨⟨P, G, rfl, P1, P2, G1, G2⟩, hb2⟩
    have HX2 := Lib.hid (HX1.out.below hb2)
    have HW2 := Lib.hid (HW1.out.trans (Within.of_below hb2))
    have HC2 := Lib.hid (HC1.out.keep hb2)
    have hs2 := hb2.size
    obtain ⟨x1, x2⟩ := hx1
    clear hb2 hx2 hx3 hx4 hx5
    have r0 := fun o => (HX2.out.alloc o).cell (i := 0) rfl
    have r1 := fun o => (HX2.out.alloc o).cell (i := 1) rfl
    have r2 := fun o => (HX2.out.alloc o).cell (i := 2) rfl
    have fr := fun o j => (HX2.out.alloc o).frozen j
    go_wp2_with fail
    obtain ⟨Y, hY⟩ : ∃ Y, Y = ((((w2.alloc (.cells #[.int .i64 P, .int .i64 x, .int .i64 G] 24)).setCell ⟨w.heap.size, 0, none⟩ (.int .i64 P)).setCell ⟨w.heap.size, 1, none⟩ (.int .i64 x)).setCell ⟨w.heap.size, 2, none⟩ (.int .i64 G)) := ⟨_, rfl⟩
    have HXY : Hid (BoxN Y w.heap.size 24 [.int .i64 P, .int .i64 x, .int .i64 G]) := by unfold Hid; rw [hY]; exact (((HX2.out.alloc _).set 0 _).set 1 _).set 2 _
    have HBY : Hid (Below w.heap.size ((w2.alloc (.cells #[.int .i64 P, .int .i64 x, .int .i64 G] 24))) Y) := by unfold Hid; rw [hY]; exact (((Below.refl w.heap.size _).setCell (Nat.le_refl _) _).setCell (Nat.le_refl _) _).setCell (Nat.le_refl _) _
    rw [← hY]
    clear hY r0 r1 r2 fr
    have r0 := HXY.out.cell (i := 0) rfl
    have r1 := HXY.out.cell (i := 1) rfl
    have r2 := HXY.out.cell (i := 2) rfl
    refine bodyPost_ret (v := .agg #[.int .i64 P, .int .i64 x, .int .i64 G]) (by simp [results, Try.results99, go_sem, r0, r1, r2]) rfl ⟨⟨_, _, _, rfl, ⟨by omega, by omega⟩, ⟨by omega, by omega⟩, ⟨by omega, by omega⟩⟩, ((HC2.out.keep ((Below.refl _ _).alloc (Nat.le_refl _) _)).belowB HBY.out hg).mono (by omega), (HW2.out.allocR _).belowStep HBY.out⟩
  | true =>
    go_wp2_with fail
    refine (spec_anyGroup w0 g _ _ HC.out HB1.out (by omega)).mono ?_
    rintro e w1 ⟨⟨P, Q, G, rfl, ⟨P1, P2⟩, ⟨Q1, Q2⟩, ⟨G1, G2⟩⟩, hc, hw⟩
    replace HX := Lib.hid (HX.out.kept hw (.inr (by omega)))
    replace HWW := Lib.hid (HWW.out.trans hw)
    replace HC := Lib.hid hc
    have hs1 := hw.size
    clear hc hw
    have r0 := HX.out.cell (i := 0) rfl
    have r1 := HX.out.cell (i := 1) rfl
    have r2 := HX.out.cell (i := 2) rfl
    have fr := fun j => HX.out.frozen j
    go_wp2_with fail
    obtain ⟨Y, hY⟩ : ∃ Y, Y = (((w1.setCell ⟨w.heap.size, 0, none⟩ (.int .i64 P)).setCell ⟨w.heap.size, 1, none⟩ (.int .i64 Q)).setCell ⟨w.heap.size, 2, none⟩ (.int .i64 G)) := ⟨_, rfl⟩
    have HXY : Hid (BoxN Y w.heap.size 24 [.int .i64 P, .int .i64 Q, .int .i64 G]) := by unfold Hid; rw [hY]; exact (((HX.out).set 0 _).set 1 _).set 2 _
    have HBY : Hid (Below w.heap.size (w1) Y) := by unfold Hid; rw [hY]; exact (((Below.refl w.heap.size _).setCell (Nat.le_refl _) _).setCell (Nat.le_refl _) _).setCell (Nat.le_refl _) _
    rw [← hY]
    clear hY r0 r1 r2 fr
    have r0 := HXY.out.cell (i := 0) rfl
    have r1 := HXY.out.cell (i := 1) rfl
    have r2 := HXY.out.cell (i := 2) rfl
    refine bodyPost_ret (v := .agg #[.int .i64 P, .int .i64 Q, .int .i64 G]) (by simp [results, Try.results99, go_sem, r0, r1, r2]) rfl ⟨⟨_, _, _, rfl, ⟨by omega, by omega⟩, ⟨by omega, by omega⟩, ⟨by omega, by omega⟩⟩, ((HC.out).belowB HBY.out hg).mono (by omega), (HWW.out).belowStep HBY.out⟩
/-- the value of a polynomial -/
def hornE (q t : Int) (l : List Int) : Int := l.foldr (fun a y => (y * t + a) % q) 0
theorem hornE_drop {q t : Int} {l : List Int} {k : Nat} (h : k < l.length) : hornE q t (l.drop k) = (hornE q t (l.drop (k + 1)) * t + nth l k) % q := by
  have e : nth l k = l[k] := by simp [nth, List.getD, h]
  rw [← List.getElem_cons_drop h, e]; rfl
theorem hornE_bd {q : Int} (hq : 0 < q) (t : Int) (l : List Int) : 0 ≤ hornE q t l ∧ hornE q t l < q := by
  cases l with
  | nil => exact ⟨Int.le_refl _, hq⟩
  | cons a l => exact ⟨Int.emod_nonneg _ (by omega), Int.emod_lt_of_pos _ hq⟩
set_option maxHeartbeats 2000000 in
theorem spec_yEval (q : Int) (v : Value) (L : List Int) (x : Int) (w : World) (hq : 2 ≤ q ∧ q ≤ 2000000000) (h : Ints w v L) (hL : ∀ y ∈ L, 0 ≤ y ∧ y ≤ 2000000010) (hx : 0 ≤ x ∧ x ≤ 1000) :
    Calls Try.prog 162 #[.int .i64 q, v, .int .i64 x] w fun e w' => e = .returned (.int .i64 (hornE q x L)) ∧ Below w.heap.size w w' := by
  obtain ⟨hq1, hq2⟩ := hq
  obtain ⟨hx0, hx1⟩ := hx
  obtain ⟨a, n, c, rfl⟩ := h.shape
  have e := h.len
  obtain ⟨k1, k2⟩ := h.capMax
  unfold maxLen at k2
  have HE := Lib.hid e
  have HL := Lib.hid hL; clear hL
  have H := Lib.hid h; clear h
  have e1 : IntKind.i64.wrap ((n : Int) - 1) = (n : Int) - 1 := IntWalk.i64_in _ (by omega)
  have HN : Hid (hornE q x (L.drop n) = 0) := by unfold Hid; rw [← e, List.drop_length]; rfl
  clear e
  go_enter Try.func162, Try.ntmps162
  go_wp2_with fail
  go_loopg [7, 8] n (fun gg ov iv wr => ∃ (j : Nat) (o : Int), j = gg ∧ j ≤ n ∧ iv = .int .i64 ((j : Int) - 1) ∧ ov = .int .i64 o ∧ Hid (hornE q x (L.drop j) = o) ∧ 0 ≤ o ∧ o < q ∧ Below w.heap.size w wr)
  case atStart => exact ⟨n, 0, rfl, Nat.le_refl _, rfl, rfl, HN.out, by omega, by omega, Below.refl _ _⟩
  case round =>
    obtain ⟨j, o, hjg, hjn, rfl, rfl, HO, ho0, ho1, hb⟩ := hrel
    cases j with
    | zero =>
      have HR : Hid (hornE q x L = o) := HO.out
      have HB := Lib.hid hb; clear hb
      go_wp2_with fail
      go_ret
      exact ⟨ret_int HR.out.symm, HB.out⟩
    | succ j =>
      have ej : ((j + 1 : Nat) : Int) - 1 = (j : Int) := by omega
      rw [ej]
      clear ej
      have HK : Hid (j < L.length) := by unfold Hid; rw [HE.out]; omega
      obtain ⟨bk, oo, rfl, hcx⟩ := (H.out.below hb).at_ (by omega)
      have hy := hcx j (by omega)
      have hyb : 0 ≤ nth L j ∧ nth L j ≤ 2000000010 := by
        have e : nth L j = L[j]'HK.out := by simp [nth, List.getD, HK.out]
        rw [e]; exact HL.out _ (List.getElem_mem _)
      have HS : Hid (hornE q x (L.drop j) = (o * x + nth L j) % q) := by unfold Hid; rw [hornE_drop HK.out, HO.out]
      clear hcx
      obtain ⟨y, hyy⟩ : ∃ y, nth L j = y := ⟨_, rfl⟩
      rw [hyy] at hy hyb HS
      clear hyy
      obtain ⟨y0, y1⟩ := hyb
      obtain ⟨m0, m1⟩ := mulE_bd ho0 ho1 hq2 hx0 hx1
      have s0 : 0 ≤ (o * x + y) % q := Int.emod_nonneg _ (by omega)
      have s1 : (o * x + y) % q < q := Int.emod_lt_of_pos _ (by omega)
      have et2 : Int.tmod (o * x + y) q = (o * x + y) % q := Int.tmod_eq_emod_of_nonneg (by omega)
      have ew1 : IntKind.i64.wrap (o * x) = o * x := IntWalk.i64_in _ (by omega)
      have ew3 : IntKind.i64.wrap (o * x + y) = o * x + y := IntWalk.i64_in _ (by omega)
      have ew4 : IntKind.i64.wrap ((o * x + y) % q) = (o * x + y) % q := IntWalk.i64_in _ (by omega)
      have ew5 : IntKind.i64.wrap ((j : Int) - 1) = (j : Int) - 1 := IntWalk.i64_in _ (by omega)
      have hpz : ¬ q = 0 := by omega
      have hpz2 : (q == 0) = false := by rw [beq_eq_false_iff_ne]; omega
      have hj0 : (0 : Int) ≤ (j : Int) := by omega
      have hj1 : (j : Int) < (n : Int) := by omega
      have HB := Lib.hid hb; clear hb
      go_wp2_with fail
      go_roundg j
      case measure => omega
      case rel => exact ⟨j, _, rfl, by omega, by go_num, rfl, HS.out, s0, s1, HB.out⟩
theorem OwnI.belowT {w w' : World} {B T : Nat} {v : Value} {l : List Int} (h : OwnI w B v l) (hlt : ∀ k, v.ownBlock = some k → k < T) (hb : Below T w w') : OwnI w' B v l := ⟨h.1, ownsRow_frame h.2 fun k hk => hb.block k (hlt k hk)⟩
def dcL (gr : GroupD) (cs : List Int) : Nat → List Int
  | 0 => []
  | k + 1 => dcL gr cs k ++ [powE gr gr.g (nth cs k)]
def dsL (gr : GroupD) (cs : List Int) : Nat → List Int
  | 0 => []
  | k + 1 => dsL gr cs k ++ [hornE gr.q ((k : Int) + 1) cs]
theorem dcL_len (gr : GroupD) (cs : List Int) (k : Nat) : (dcL gr cs k).length = k := by
  induction k with
  | zero => rfl
  | succ k ih => unfold dcL; rw [List.length_append, ih]; rfl
theorem dsL_len (gr : GroupD) (cs : List Int) (k : Nat) : (dsL gr cs k).length = k := by
  induction k with
  | zero => rfl
  | succ k ih => unfold dsL; rw [List.length_append, ih]; rfl
set_option maxRecDepth 100000 in
set_option maxHeartbeats 8000000 in
theorem spec_sDeal (gr : GroupD) (cv : Value) (cs : List Int) (n : Nat) (w : World) (hg : OkG gr) (hcs : Ints w cv cs) (hel : ∀ y ∈ cs, 0 ≤ y ∧ y ≤ 2000000010) (hn : n ≤ 1000) (hl : cs.length ≤ 1000) :
    Calls Try.prog 107 #[.agg #[.int .i64 gr.p, .int .i64 gr.q, .int .i64 gr.g], cv, .int .i64 (n : Int)] w fun e w' => (∃ x y, e = .returned (.agg #[x, y]) ∧ OwnI w' w.heap.size x (dcL gr cs cs.length) ∧ OwnI w' w.heap.size y (dsL gr cs n) ∧ ∀ k, x.ownBlock = some k → y.ownBlock ≠ some k) ∧ Below w.heap.size w w' := by
  have HG := Lib.hid hg
  have HEL := Lib.hid hel
  have HGS : Hid (Small gr.g) := by have h1 := hg.g1; have h2 := hg.g2; have h3 := hg.p2; exact ⟨by omega, by omega⟩
  have HQ : Hid (2 ≤ gr.q ∧ gr.q ≤ 2000000000) := ⟨hg.q1, by have := hg.q2; have := hg.p2; omega⟩
  clear hg hel
  obtain ⟨cva, cvn, cvc, rfl⟩ := hcs.shape
  have Ecv := Lib.hid hcs.len
  obtain ⟨k1', k2'⟩ := hcs.capMax
  unfold maxLen at k2'
  have Hcv := Lib.hid hcs
  have hcn : cvn ≤ 1000 := by have := Ecv.out; omega
  clear hcs hl
  obtain ⟨W, hW⟩ : ∃ W, W = (w.alloc (.cells #[.int .i64 gr.p, .int .i64 gr.q, .int .i64 gr.g] 24)).alloc (.cells #[.slice none 0 0, .slice none 0 0] 57) := ⟨_, rfl⟩
  have HB : Hid (Below w.heap.size w W) := by unfold Hid; rw [hW]; (repeat (first | exact Below.refl _ _ | assumption | refine Below.drew ?_ | refine Below.alloc ?_ (by first | (simp; done) | (simp; omega)) _ | refine Below.setCell ?_ (by first | (simp; done) | (simp; omega)) _))
  have HGX : Hid (BoxN W w.heap.size 24 [.int .i64 gr.p, .int .i64 gr.q, .int .i64 gr.g]) := by unfold Hid; rw [hW]; have h := (BoxN.new w [.int .i64 gr.p, .int .i64 gr.q, .int .i64 gr.g] 24).alloc (.cells #[.slice none 0 0, .slice none 0 0] 57); simpa using h
  have HRX : Hid (BoxN W (w.heap.size + 1) 57 [.slice none 0 0, .slice none 0 0]) := by unfold Hid; rw [hW]; have h := BoxN.new (w.alloc (.cells #[.int .i64 gr.p, .int .i64 gr.q, .int .i64 gr.g] 24)) [.slice none 0 0, .slice none 0 0] 57; simpa using h
  have hwW : w.heap.size + 1 < W.heap.size := HRX.out.lt
  obtain ⟨V, hV⟩ : ∃ V, V = W.alloc (.cells #[.slice none 0 0, .slice none 0 0] 57) := ⟨_, rfl⟩
  have hbV : Below W.heap.size W V := by rw [hV]; exact (Below.refl _ _).alloc (Nat.le_refl _) _
  have HZ : Hid (BoxN V W.heap.size 57 [.slice none 0 0, .slice none 0 0]) := by unfold Hid; rw [hV]; exact BoxN.new W _ _
  obtain ⟨bz, hbz⟩ : ∃ z, z = W.heap.size := ⟨_, rfl⟩
  have HBZ := Lib.hid hbz
  have hbz1 : W.heap.size ≤ bz := by omega
  have hbz2 : w.heap.size + 1 < bz := by omega
  rw [← hbz] at HZ
  have hVs : bz < V.heap.size := HZ.out.lt
  have HSW : Hid (w.heap.size + 1 + 1 = bz) := by unfold Hid; rw [hbz, hW]; simp
  go_enter Try.func107, Try.ntmps107
  go_wp2_with fail
  rw [← hW, ← hV]
  (try rw [HSW.out])
  (try rw [← hbz])
  clear hW hV hbz
  (try (go_wp2_with fail))
  go_loopg [13] cvn (fun gk iv wr => ∃ (v : Value) (k : Nat), k + gk = cvn ∧ iv = .int .i64 (k : Int) ∧ Hid (BoxN wr bz 57 [v, .slice none 0 0]) ∧ Hid (OwnI wr (bz + 1) v (dcL gr cs k)) ∧ Hid (Below W.heap.size W wr))
  case atStart => exact ⟨_, 0, by omega, rfl, HZ, OwnI.nil _ _, hbV⟩
  case round =>
    clear HZ hVs
    obtain ⟨v, k, hkg, rfl, HZ, HO, HWr⟩ := hrel
    have HKG := Lib.hid hkg
    have hgl : k < cvn → cvn - (k + 1) < gk := by omega
    have hbr : bz < wr.heap.size := HZ.out.lt
    have HBs : Hid (bz + 1 ≤ wr.heap.size) := by unfold Hid; omega
    obtain ⟨ao, co, rfl⟩ := HO.out.shape
    have HLB : Hid ((dcL gr cs k).length = k) := dcL_len ..
    rw [HLB.out] at HO HZ
    obtain ⟨LB, hLB⟩ : ∃ l, dcL gr cs k = l := ⟨_, rfl⟩
    rw [hLB] at HO HLB
    have HLe := Lib.hid hLB
    clear hkg hLB
    by_cases hlt : k < cvn
    · have hwk : IntKind.i64.wrap ((k : Int) + 1) = (k : Int) + 1 := IntWalk.i64_in _ (by omega)
      obtain ⟨b, o, e, hcx⟩ := Hcv.out.at_ (by have := Ecv.out; omega)
      cases e
      have yk := box_at (box_at (hcx k hlt) HB.out) HWr.out
      have HXI : Hid (I64 (nth cs k)) := nth_64 Hcv.out k
      clear hcx
      obtain ⟨x, hx⟩ : ∃ z, nth cs k = z := ⟨_, rfl⟩
      rw [hx] at yk HXI
      obtain ⟨Y, hY⟩ : ∃ z, powE gr gr.g x = z := ⟨_, rfl⟩
      have HY := Lib.hid hY
      have HYI : Hid (I64 Y) := by unfold Hid; rw [← hY]; exact small_64 (powE_small HG.out _ _)
      have HN1 : Hid (dcL gr cs (k + 1) = LB ++ [Y]) := by unfold Hid dcL; rw [HLe.out, hx, hY]
      clear hx hY
      have kk0 : (0 : Int) ≤ (k : Int) := by omega
      have kk1 : (k : Int) < (cvn : Int) := by omega
      have c0_0 := (HGX.out.below HWr.out).cell (i := 0) rfl
      have c0_1 := (HGX.out.below HWr.out).cell (i := 1) rfl
      have c0_2 := (HGX.out.below HWr.out).cell (i := 2) rfl
      have z0 := HZ.out.cell (i := 0) rfl
      have z1 := HZ.out.cell (i := 1) rfl
      have hc : Below wr.heap.size wr wr := Below.refl _ _
      go_wp2_with fail
      clear yk
      try (go_wp2_with fail)
      refine wp_region_noPanic ?_
      refine wp_region_P (fun w' => w'.cell? ⟨w.heap.size, 0, none⟩ = some (.int .i64 gr.p) ∧ w'.cell? ⟨w.heap.size, 1, none⟩ = some (.int .i64 gr.q) ∧ w'.cell? ⟨w.heap.size, 2, none⟩ = some (.int .i64 gr.g) ∧ w'.cell? ⟨bz, 0, none⟩ = some (.slice ao k co) ∧ w'.cell? ⟨bz, 1, none⟩ = some (.slice none 0 0)) 13 [(0, []), (1, [0]), (2, []), (3, []), (4, [0]), (5, []), (6, [3, 1, 0]), (7, [0])] [8, 9, 10] (by kernel_rfl) (by kernel_rfl) (by kernel_rfl) rfl (fun _ _ _ _ h => h) (fun w' h => ⟨box_at c0_0 h, box_at c0_1 h, box_at c0_2 h, box_at z0 h, box_at z1 h⟩) ?_
      simp only [pickP, pickN, List.getElem?_cons_zero, List.getElem?_cons_succ]
      iterate 6 (refine' chainP_read _ rfl rfl (fun w' hS' => ?_) ?_; rotate_left; · (simp only [lookP, allP, Act.put, List.getElem?_cons_zero, List.getElem?_cons_succ, List.setIfInBounds_toArray, List.set_cons_zero, List.set_cons_succ]; (try dsimp only at hS'); go_simp; (try with_reducible rfl)))
      -- 6: call { callee := value (func 80), args := #[t19, t21, t22], argTypes := #[24, 3, 3] }
      refine chainP_call (d := (some 23)) (.int .i64 Y) rfl rfl (fun w' hS' => ?_) ?_
      · simp only [lookP, allP, Act.put, List.getElem?_cons_zero, List.getElem?_cons_succ, List.setIfInBounds_toArray, List.set_cons_zero, List.set_cons_succ]
        intro K hK
        go_simp
        go_at_call 57
        refine (spec_gExp gr gr.g x _ HG.out HGS.out HXI.out).mono ?_
        rintro e u ⟨rfl, hq⟩
        rw [HY.out]
        exact hK.out _ hq
      -- 7: buildSlice 43 1 #[(0, t23)]
      refine chainP_do (d := (some 24)) (fun v w => Ints w v [Y]) (fun v w w' hb h => Ints.below h hb) rfl rfl (fun w' hS' => ?_) ?_
      · simp only [lookP, allP, Act.put, List.getElem?_cons_zero, List.getElem?_cons_succ, List.setIfInBounds_toArray, List.set_cons_zero, List.set_cons_succ]
        intro K hK
        go_simp
        refine hK.out _ _ ((Below.refl _ _).alloc (Nat.le_refl _) _) ?_
        exact (OwnI.lit (B := w'.heap.size) w' (Nat.le_refl _) (l := [Y]) (AllI64.cons HYI.out AllI64.nil) rfl (by simp [maxLen]) 1 rfl).ints
      refine chainP_nil (fun ua hS' => ?_)
      simp only [allP, Act.put, List.setIfInBounds_toArray, List.set_cons_zero, List.set_cons_succ]
      intro x7 hx7
      have hq1 := hS'.1
      clear hS'
      replace hc := Below.next hc hq1
      replace c0_0 := box_at c0_0 hq1
      replace c0_1 := box_at c0_1 hq1
      replace c0_2 := box_at c0_2 hq1
      replace z0 := box_at z0 hq1
      replace z1 := box_at z1 hq1
      clear hq1
      have hx7 := hx7
      have HO1 := Lib.hid (HO.out.below hc)
      have HZ1 := Lib.hid (HZ.out.below hc)
      have HW1 := Lib.hid (Below.next HWr.out hc)
      have hsu : bz < ua.heap.size := HZ1.out.lt
      have hsu2 : (bz + 1) ≤ ua.heap.size := by have := HBs.out; have := hc.size; omega
      have HL7 := Lib.hid hx7
      clear hc c0_0 c0_1 c0_2 z0 z1 HO HZ HWr hx7
      have y0 := HZ1.out.cell (i := 0) rfl
      go_wp2_with (at_builtin; refine wpList_append_intsN rfl _ _ rfl (bz + 1) _ _ LB [Y] rfl HO1.out rfl HL7.out (by rw [HLB.out]; simp; omega) (by omega) (k + 1) (by rw [HLB.out]; rfl) ?_; intro a5 c5 w5 hown5 hgr5; have hb5 : Below (bz + 1) ua w5 := HO1.out.grown hgr5 (by omega); have HZ5 := Lib.hid (HZ1.out.belowB hb5 (by omega)); have hs5 := hb5.size; have HO5 := Lib.hid hown5; have HW5 := Lib.hid (HW1.out.trans (hb5.mono (by omega))); clear hown5 hgr5 y0; have f5 := HZ5.out.frozen 0; have y1 := HZ5.out.cell (i := 0) rfl)
      refine NoPanic.normal ?_
      clear y1 f5
      go_wp2_with fail
      go_roundg (cvn - (k + 1))
      case measure => exact hgl hlt
      case rel => exact ⟨_, k + 1, by have := HKG.out; omega, by go_num, HZ5.out.set 0 _, by unfold Hid; rw [HN1.out]; exact HO5.out.other (by omega) _ _, HW5.out.setCell (p := ⟨bz, 0, none⟩) (by show W.heap.size ≤ bz; omega) _⟩
    · obtain rfl : cvn = k := by have := HKG.out; omega
      clear HLB
      obtain ⟨LC, rfl⟩ : ∃ l, l = LB := ⟨_, rfl⟩
      obtain ⟨V1, hV1⟩ : ∃ z, z = Value.slice ao cvn co := ⟨_, rfl⟩
      rw [← hV1] at HO HZ
      have HV1e := Lib.hid hV1
      clear hV1 hgl hlt
      obtain ⟨wT, rfl⟩ : ∃ u, u = wr := ⟨_, rfl⟩
      obtain ⟨T, hT⟩ : ∃ z, z = wT.heap.size := ⟨_, rfl⟩
      have HVT : Hid (∀ j, V1.ownBlock = some j → j < T) := fun j hj => by rw [hT]; exact (HO.out.lt j hj).2
      have hTT : bz < T := by omega
      have HTs : Hid (T ≤ wT.heap.size) := by unfold Hid; omega
      clear hT
      have HLc : Hid (dcL gr cs cs.length = LC) := by unfold Hid; rw [Ecv.out]; exact HLe.out
      have HV := HO
      have hb1 : Below W.heap.size W wT := HWr.out
      have HZT := HZ
      clear HO HZ HWr HBs HLe HKG
      go_wp2_with fail
      go_loopg [10] n (fun gk iv wr => ∃ (v : Value) (k : Nat), k + gk = n ∧ iv = .int .i64 ((k : Int) + 1) ∧ Hid (BoxN wr bz 57 [V1, v]) ∧ Hid (OwnI wr T v (dsL gr cs k)) ∧ Hid (OwnI wr (bz + 1) V1 LC) ∧ Hid (Below W.heap.size W wr) ∧ T ≤ wr.heap.size)
      case atStart => exact ⟨_, 0, by omega, rfl, HZT, OwnI.nil _ _, HV, hb1, HTs.out⟩
      case round =>
        clear HZT HV hb1
        obtain ⟨v, k, hkg, rfl, HZ, HO, HV, HWr, hTr⟩ := hrel
        have HKG := Lib.hid hkg
        have hgl : k < n → n - (k + 1) < gk := by omega
        have hbr : bz < wr.heap.size := HZ.out.lt
        have HBs : Hid (T ≤ wr.heap.size) := hTr
        obtain ⟨ao, co, rfl⟩ := HO.out.shape
        have HLB2 : Hid ((dsL gr cs k).length = k) := dsL_len ..
        rw [HLB2.out] at HO HZ
        obtain ⟨LB, hLB⟩ : ∃ l, dsL gr cs k = l := ⟨_, rfl⟩
        rw [hLB] at HO HLB2
        have HLB := HLB2
        have HLe := Lib.hid hLB
        clear hkg hLB HLB2
        by_cases hlt : k < n
        · have hwk : IntKind.i64.wrap ((k : Int) + 1 + 1) = (k : Int) + 1 + 1 := IntWalk.i64_in _ (by omega)
          obtain ⟨k1, hk1⟩ : ∃ z : Nat, z = k + 1 := ⟨_, rfl⟩
          have ek1 : (k : Int) + 1 = (k1 : Int) := by omega
          have HK1 : Hid (0 ≤ (k1 : Int) ∧ (k1 : Int) ≤ 1000) := ⟨by omega, by omega⟩
          obtain ⟨Y, hY⟩ : ∃ z, hornE gr.q (k1 : Int) cs = z := ⟨_, rfl⟩
          have HY := Lib.hid hY
          have HYI : Hid (I64 Y) := by unfold Hid; rw [← hY]; obtain ⟨h1, h2⟩ := hornE_bd (q := gr.q) (by have := HQ.out.1; omega) (k1 : Int) cs; exact ⟨by have := HQ.out.2; omega, by have := HQ.out.2; omega⟩
          have HN1 : Hid (dsL gr cs (k + 1) = LB ++ [Y]) := by unfold Hid dsL; rw [HLe.out, ek1, hY]
          have HEk := Lib.hid ek1
          rw [ek1] at hwk ⊢
          have hkn : k1 ≤ n := by omega
          clear hY ek1 hk1
          have c0_0 := (HGX.out.below HWr.out).cell (i := 0) rfl
          have c0_1 := (HGX.out.below HWr.out).cell (i := 1) rfl
          have c0_2 := (HGX.out.below HWr.out).cell (i := 2) rfl
          have z0 := HZ.out.cell (i := 0) rfl
          have z1 := HZ.out.cell (i := 1) rfl
          have hc : Below wr.heap.size wr wr := Below.refl _ _
          go_wp2_with fail
          try (go_wp2_with fail)
          refine wp_region_noPanic ?_
          refine wp_region_P (fun w' => w'.cell? ⟨w.heap.size, 0, none⟩ = some (.int .i64 gr.p) ∧ w'.cell? ⟨w.heap.size, 1, none⟩ = some (.int .i64 gr.q) ∧ w'.cell? ⟨w.heap.size, 2, none⟩ = some (.int .i64 gr.g) ∧ w'.cell? ⟨bz, 0, none⟩ = some (V1) ∧ w'.cell? ⟨bz, 1, none⟩ = some (.slice ao k co)) 13 [(0, []), (1, [0]), (2, []), (3, [0]), (4, []), (5, []), (6, [2, 1, 0]), (7, [0])] [8, 9, 10] (by kernel_rfl) (by kernel_rfl) (by kernel_rfl) rfl (fun _ _ _ _ h => h) (fun w' h => ⟨box_at c0_0 h, box_at c0_1 h, box_at c0_2 h, box_at z0 h, box_at z1 h⟩) ?_
          simp only [pickP, pickN, List.getElem?_cons_zero, List.getElem?_cons_succ]
          iterate 6 (refine' chainP_read _ rfl rfl (fun w' hS' => ?_) ?_; rotate_left; · (simp only [lookP, allP, Act.put, List.getElem?_cons_zero, List.getElem?_cons_succ, List.setIfInBounds_toArray, List.set_cons_zero, List.set_cons_succ]; (try dsimp only at hS'); go_simp; (try with_reducible rfl)))
          -- 6: call { callee := value (func 205), args := #[t36, t37, t38], argTypes := #[3, 43, 3] }
          refine chainP_call (d := (some 39)) (.int .i64 Y) rfl rfl (fun w' hS' => ?_) ?_
          · simp only [lookP, allP, Act.put, List.getElem?_cons_zero, List.getElem?_cons_succ, List.setIfInBounds_toArray, List.set_cons_zero, List.set_cons_succ]
            intro K hK
            go_simp
            go_at_call 162
            refine (spec_yEval gr.q _ cs (k1 : Int) _ HQ.out ((Hcv.out.below (HB.out.trans (HWr.out.mono HB.out.size))).below hS'.1) HEL.out HK1.out).mono ?_
            rintro e u ⟨rfl, hq⟩
            rw [HY.out]
            exact hK.out _ hq
          -- 7: buildSlice 43 1 #[(0, t39)]
          refine chainP_do (d := (some 40)) (fun v w => Ints w v [Y]) (fun v w w' hb h => Ints.below h hb) rfl rfl (fun w' hS' => ?_) ?_
          · simp only [lookP, allP, Act.put, List.getElem?_cons_zero, List.getElem?_cons_succ, List.setIfInBounds_toArray, List.set_cons_zero, List.set_cons_succ]
            intro K hK
            go_simp
            refine hK.out _ _ ((Below.refl _ _).alloc (Nat.le_refl _) _) ?_
            exact (OwnI.lit (B := w'.heap.size) w' (Nat.le_refl _) (l := [Y]) (AllI64.cons HYI.out AllI64.nil) rfl (by simp [maxLen]) 1 rfl).ints
          refine chainP_nil (fun ua hS' => ?_)
          simp only [allP, Act.put, List.setIfInBounds_toArray, List.set_cons_zero, List.set_cons_succ]
          intro x7 hx7
          have hq1 := hS'.1
          clear hS'
          replace hc := Below.next hc hq1
          replace c0_0 := box_at c0_0 hq1
          replace c0_1 := box_at c0_1 hq1
          replace c0_2 := box_at c0_2 hq1
          replace z0 := box_at z0 hq1
          replace z1 := box_at z1 hq1
          clear hq1
          have hx7 := hx7
          have HO1 := Lib.hid (HO.out.below hc)
          have HZ1 := Lib.hid (HZ.out.below hc)
          have HW1 := Lib.hid (Below.next HWr.out hc)
          have HV1 := Lib.hid (HV.out.below hc)
          have hsu : bz < ua.heap.size := HZ1.out.lt
          have hsu2 : T ≤ ua.heap.size := by have := HBs.out; have := hc.size; omega
          have HL7 := Lib.hid hx7
          clear hc c0_0 c0_1 c0_2 z0 z1 HO HZ HWr hx7
          have y0 := HZ1.out.cell (i := 1) rfl
          go_wp2_with (at_builtin; refine wpList_append_intsN rfl _ _ rfl T _ _ LB [Y] rfl HO1.out rfl HL7.out (by rw [HLB.out]; simp; omega) (by omega) (k + 1) (by rw [HLB.out]; rfl) ?_; intro a5 c5 w5 hown5 hgr5; have hb5 : Below T ua w5 := HO1.out.grown hgr5 (by omega); have HZ5 := Lib.hid (HZ1.out.belowB hb5 (by omega)); have hs5 := hb5.size; have HO5 := Lib.hid hown5; have HW5 := Lib.hid (HW1.out.trans (hb5.mono (by omega))); have HV5 := Lib.hid (HV1.out.belowT HVT.out hb5); clear hown5 hgr5 y0; have f5 := HZ5.out.frozen 1; have y1 := HZ5.out.cell (i := 1) rfl)
          refine NoPanic.normal ?_
          clear y1 f5
          go_wp2_with fail
          go_roundg (n - (k + 1))
          case measure => exact hgl hlt
          case rel => exact ⟨_, k + 1, by have := HKG.out; omega, by have := HEk.out; go_num, HZ5.out.set 1 _, by unfold Hid; rw [HN1.out]; exact HO5.out.other (by omega) _ _, HV5.out.other (by omega) _ _, HW5.out.setCell (p := ⟨bz, 1, none⟩) (by show W.heap.size ≤ bz; omega) _, by rw [size_setC]; omega⟩
        · obtain rfl : n = k := by have := HKG.out; omega
          have hd : decide ((n : Int) + 1 ≤ (n : Int)) = false := decide_eq_false (by omega)
          obtain ⟨va1, vc1, e1⟩ := HV.out.shape
          obtain ⟨ln1, hln1⟩ : ∃ z, LC.length = z := ⟨_, rfl⟩
          rw [hln1] at e1
          subst e1
          clear hln1 HV1e
          have z0 := HZ.out.cell (i := 0) rfl
          have z1 := HZ.out.cell (i := 1) rfl
          have HR := Lib.hid (HRX.out.below HWr.out)
          have r0 := HR.out.cell (i := 0) rfl
          have r1 := HR.out.cell (i := 1) rfl
          have fr := fun j => HR.out.frozen j
          go_wp2_with fail
          have HRF := Lib.hid ((HR.out.set 0 (.slice va1 ln1 vc1)).set 1 (.slice ao n co))
          have t0 := HRF.out.cell (i := 0) rfl
          have t1 := HRF.out.cell (i := 1) rfl
          (try (go_wp2_with fail))
          refine bodyPost_ret (v := .agg #[.slice va1 ln1 vc1, .slice ao n co]) (by simp [results, Try.results107, go_sem, t0, t1]) rfl ⟨⟨_, _, rfl, by rw [HLc.out]; exact ((HV.out.other (b := w.heap.size + 1) (by omega) 0 (.slice va1 ln1 vc1)).other (b := w.heap.size + 1) (by omega) 1 (.slice ao n co)).mono (by omega), by rw [HLe.out]; exact ((HO.out.other (b := w.heap.size + 1) (by omega) 0 (.slice va1 ln1 vc1)).other (b := w.heap.size + 1) (by omega) 1 (.slice ao n co)).mono (by omega), fun k h1 h2 => by have h3 := HVT.out k h1; have h4 := (HO.out.lt k h2).1; omega⟩, ((HB.out.trans (HWr.out.mono (by omega))).setCell (p := ⟨w.heap.size + 1, 0, none⟩) (by show w.heap.size ≤ w.heap.size + 1; omega) (.slice va1 ln1 vc1)).setCell (p := ⟨w.heap.size + 1, 1, none⟩) (by show w.heap.size ≤ w.heap.size + 1; omega) (.slice ao n co)⟩
end Go.Proofs.Ytacpnphfopmofaa
namespace Go.Proofs.Ytacpnphfopmofaa
open Go.RowKit
set_option linter.unusedSimpArgs false
set_option linter.unusedVariables false

/-- a dealing in rows of its own, apart -/
structure OwnD (w : World) (B : Nat) (x y : Value) (la lb : List Int) : Prop where
  oa : OwnI w B x la
  ob : OwnI w B y lb
  ne : ∀ k, x.ownBlock = some k → y.ownBlock ≠ some k
theorem OwnD.within {w w' : World} {B g : Nat} {x y : Value} {la lb : List Int} (h : OwnD w B x y la lb) (hw : Within g (g + 1) w w') (hg : g < B) : OwnD w' B x y la lb := ⟨h.oa.within hw hg, h.ob.within hw hg, h.ne⟩
theorem OwnD.below {w w' : World} {B : Nat} {x y : Value} {la lb : List Int} (h : OwnD w B x y la lb) (hb : Below w.heap.size w w') : OwnD w' B x y la lb := ⟨h.oa.below hb, h.ob.below hb, h.ne⟩
theorem OwnD.mono {w : World} {B B' : Nat} {x y : Value} {la lb : List Int} (h : OwnD w B x y la lb) (hB : B' ≤ B) : OwnD w B' x y la lb := ⟨h.oa.mono hB, h.ob.mono hB, h.ne⟩
theorem OwnD.other {w : World} {B b : Nat} {x y : Value} {la lb : List Int} (h : OwnD w B x y la lb) (hb : b < B) (j : Nat) (z : Value) : OwnD (w.setCell ⟨b, j, none⟩ z) B x y la lb := ⟨h.oa.other hb j z, h.ob.other hb j z, h.ne⟩
end Go.Proofs.Ytacpnphfopmofaa
namespace Go.Proofs.Ytacpnphfopmofaa
open Go.RowKit
set_option linter.unusedSimpArgs false
set_option linter.unusedVariables false

theorem Since.take {B : Nat} {w : World} {a : Option Addr} {n c k : Nat} {l : List Int} (h : Since B w (fun u => Ints u (.slice a n c) l)) (hk : k ≤ n) : Since B w (fun u => Ints u (.slice a k c) (l.take k)) := fun u hs hb => (h u hs hb).take hk
end Go.Proofs.Ytacpnphfopmofaa
namespace Go.Proofs.Ytacpnphfopmofaa
open Go.RowKit
set_option linter.unusedSimpArgs false
set_option linter.unusedVariables false

/-- the value of a polynomial over the integers -/
def evI (f : List Int) (x : Int) : Int := f.foldr (fun a o => o * x + a) 0
theorem evI_cons (a : Int) (f : List Int) (x : Int) : evI (a :: f) x = evI f x * x + a := rfl
/-- a function that is a polynomial with at most n coefficients -/
def IsP (n : Nat) (F : Int → Int) : Prop := ∃ f : List Int, f.length = n ∧ ∀ x, F x = evI f x
theorem IsP.zero (n : Nat) : IsP n (fun _ => 0) := by
  refine ⟨List.replicate n 0, by simp, fun x => ?_⟩
  induction n with
  | zero => rfl
  | succ n ih => rw [List.replicate_succ, evI_cons, ← ih]; simp
theorem evI_add (f g : List Int) (h : f.length = g.length) (x : Int) : evI (List.zipWith (· + ·) f g) x = evI f x + evI g x := by
  induction f generalizing g with
  | nil => cases g with
    | nil => rfl
    | cons b g => simp at h
  | cons a f ih => cases g with
    | nil => simp at h
    | cons b g =>
      rw [List.zipWith_cons_cons, evI_cons, evI_cons, evI_cons, ih g (by simpa using h), Int.add_mul]; omega
theorem IsP.add {n : Nat} {F G : Int → Int} (hF : IsP n F) (hG : IsP n G) : IsP n (fun x => F x + G x) := by
  obtain ⟨f, hf, hF⟩ := hF
  obtain ⟨g, hg, hG⟩ := hG
  exact ⟨List.zipWith (· + ·) f g, by simp [hf, hg], fun x => by show F x + G x = _; rw [evI_add f g (by omega), hF, hG]⟩
theorem IsP.up {n : Nat} {F : Int → Int} (hF : IsP n F) : IsP (n + 1) F := by
  obtain ⟨f, hf, hF⟩ := hF
  refine ⟨f ++ [0], by simp [hf], fun x => ?_⟩
  rw [hF]
  unfold evI
  rw [List.foldr_append]; simp
theorem IsP.le {n m : Nat} {F : Int → Int} (hF : IsP n F) (h : n ≤ m) : IsP m F := by
  obtain ⟨k, rfl⟩ : ∃ k, m = n + k := ⟨m - n, by omega⟩
  induction k with
  | zero => exact hF
  | succ k ih => exact (ih (by omega)).up
theorem IsP.one : IsP 1 (fun _ => 1) := ⟨[1], rfl, fun x => by simp [evI]⟩
theorem IsP.ev (f : List Int) : IsP f.length (evI f) := ⟨f, rfl, fun _ => rfl⟩
end Go.Proofs.Ytacpnphfopmofaa
