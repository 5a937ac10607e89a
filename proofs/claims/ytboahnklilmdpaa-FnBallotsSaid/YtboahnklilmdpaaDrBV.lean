/- The struct Cipher as a kind (printed by genkind.py): its data, its row, the walks of the laws' helpers. -/
import Derived.Test.YtboahnklilmdpaaBaV
import Derived.Test.YtboahnklilmdpaaDrG5V
import Derived.Test.YtboahnklilmdpaaRegQV
import Derived.Test.YtboahnklilmdpaaBgV
namespace Go.Proofs.Ytboahnklilmdpaa
open Go.RowKit
set_option linter.unusedSimpArgs false
set_option linter.unusedVariables false

structure CipherD where
  a : Int
  b : Int
deriving DecidableEq
abbrev rCipher : RowK CipherD := rMap (rI (rI rNil)) (fun d => (d.a, (d.b, ())))
theorem rdCipher {w : World} {v : Value} {d : CipherD} : (kS rCipher).rd w v d ↔ v = .agg #[.int .i64 d.a, .int .i64 d.b] ∧ I64 d.a ∧ I64 d.b := by
  constructor
  · rintro ⟨_, rfl, ⟨_, rfl, i1, ⟨_, rfl, i2, rfl⟩⟩⟩
    exact ⟨rfl, i1, i2⟩
  · rintro ⟨rfl, g0, g1⟩
    exact ⟨_, rfl, ⟨_, rfl, g0, ⟨_, rfl, g1, rfl⟩⟩⟩
end Go.Proofs.Ytboahnklilmdpaa
namespace Go.Proofs.Ytboahnklilmdpaa
open Go.RowKit
set_option linter.unusedSimpArgs false
set_option linter.unusedVariables false

theorem Since.mono {B B' : Nat} {w : World} {P : World → Prop} (h : Since B w P) (hB : B' ≤ B) : Since B' w P := fun w' hs hb => h w' hs fun k hk hlt => hb k (by omega) hlt
theorem Within.setNew {lo hi : Nat} {w u : World} (h : Within lo hi w u) {b : Nat} (hb : w.heap.size ≤ b) (j : Nat) (x : Value) : Within lo hi w (u.setCell ⟨b, j, none⟩ x) :=
  h.belowStep ((Below.refl w.heap.size u).setCell (p := ⟨b, j, none⟩) hb x)
theorem Cur.setNew {w0 u : World} {g : Nat} {n : Int} (h : Cur w0 u g n) {b : Nat} (hb : g < b) (j : Nat) (x : Value) : Cur w0 (u.setCell ⟨b, j, none⟩ x) g n := by
  obtain ⟨h1, v, p, s, hB, h2⟩ := h
  exact ⟨h1, v, p, s, hB.other (by omega) j x, h2⟩
set_option maxRecDepth 100000 in
set_option maxHeartbeats 4000000 in
theorem spec_anyCipher (w0 : World) (g : Nat) (n P Q G : Int) (w : World) (h : Cur w0 w g n) (hb : Below w0.heap.size w0 w) (hn : n ≤ 500000000000000) (hgr : GrB ⟨P, Q, G⟩) :
    Calls Try.prog 146 #[.pointer (some ⟨g, 0, none⟩), .agg #[.int .i64 P, .int .i64 Q, .int .i64 G]] w fun e w' => (∃ (xr0 : Int) (yr0 : Int), e = .returned (.agg #[.int .i64 xr0, .int .i64 yr0]) ∧ ((-10 ≤ xr0 ∧ xr0 ≤ 2000000010) ∧ (-10 ≤ yr0 ∧ yr0 ≤ 2000000010))) ∧ Cur w0 w' g (n + 100000) ∧ Within g (g + 1) w w' := by
  have HGR := Lib.hid hgr
  have HBB := Lib.hid hb
  have hge := h.ge
  have hgw := h.lt
  clear hgr hb
  obtain ⟨W, hW⟩ : ∃ W, W = (w.alloc (.cells #[.int .i64 P, .int .i64 Q, .int .i64 G] 39)).alloc (.cells #[.int .i64 0, .int .i64 0] 58) := ⟨_, rfl⟩
  have hbW : Below w.heap.size w W := by rw [hW]; (repeat (first | exact Below.refl _ _ | assumption | refine Below.drew ?_ | refine Below.alloc ?_ (by first | (simp; done) | (simp; omega)) _ | refine Below.setCell ?_ (by first | (simp; done) | (simp; omega)) _))
  have HZg : Hid (BoxN W w.heap.size 39 [.int .i64 P, .int .i64 Q, .int .i64 G]) := by unfold Hid; rw [hW]; have h := ((BoxN.new w [.int .i64 P, .int .i64 Q, .int .i64 G] 39).alloc (.cells #[.int .i64 0, .int .i64 0] 58)); simpa using h
  have HX0 : Hid (BoxN W (w.heap.size + 1) 58 [.int .i64 0, .int .i64 0]) := by unfold Hid; rw [hW]; have h := (BoxN.new (w.alloc (.cells #[.int .i64 P, .int .i64 Q, .int .i64 G] 39)) [.int .i64 0, .int .i64 0] 58); simpa using h
  have hsW : W.heap.size = w.heap.size + 2 := by rw [hW]; simp
  have HC := Lib.hid (h.keep hbW)
  have HWw := Lib.hid (Within.of_below hbW : Within g (g + 1) w W)
  have HBW : Hid (Below w0.heap.size w0 W) := HBB.out.trans (hbW.mono HBB.out.size)
  clear h
  go_enter Try.func146, Try.ntmps146
  go_wp2_with fail
  rw [← hW]
  have HW := Lib.hid (Within.refl g (g + 1) W)
  clear hW hbW
  have z_0_0 := HZg.out.cell (i := 0) rfl
  have z_0_1 := HZg.out.cell (i := 1) rfl
  have z_0_2 := HZg.out.cell (i := 2) rfl
  have z_1_0 := HX0.out.cell (i := 0) rfl
  have z_1_1 := HX0.out.cell (i := 1) rfl
  try (go_wp2_with fail)
  refine wp_region_noPanic ?_
  refine wp_region_Q (Within g (g + 1)) (DrawS w0 W g _ 5000 (fun w' => w'.cell? ⟨w.heap.size, 0, none⟩ = some (.int .i64 P) ∧ w'.cell? ⟨w.heap.size, 1, none⟩ = some (.int .i64 Q) ∧ w'.cell? ⟨w.heap.size, 2, none⟩ = some (.int .i64 G))) 10 [(0, []), (1, []), (2, [1, 0]), (3, []), (4, []), (5, [1, 0])] [6, 7] (by kernel_rfl) (by kernel_rfl) (by kernel_rfl) rfl (fun _ _ _ _ h => h) (DrawS.good _ _ _ _ _ _) ⟨(Within.refl _ _ _).drew, by simpa using HC.out.keep (Below.refl _ _).drew, ⟨box_at z_0_0 (Below.refl _ _).drew, box_at z_0_1 (Below.refl _ _).drew, box_at z_0_2 (Below.refl _ _).drew⟩⟩ ?_
  simp only [pickP, pickN, List.getElem?_cons_zero, List.getElem?_cons_succ]
  -- 0: move t0
  refine' chainQ_read (DrawS.good _ _ _ _ _ _) (d := (some 5)) _ rfl rfl (fun m w' hm' hS' => ?_) ?_; rotate_left
  · simp only [lookP, allP, Act.put, List.getElem?_cons_zero, List.getElem?_cons_succ, List.setIfInBounds_toArray, List.set_cons_zero, List.set_cons_succ]
    (try dsimp only [DrawS] at hS')
    go_simp
    (try with_reducible rfl)
  -- 1: load 39 t3
  refine' chainQ_read (DrawS.good _ _ _ _ _ _) (d := (some 6)) _ rfl rfl (fun m w' hm' hS' => ?_) ?_; rotate_left
  · simp only [lookP, allP, Act.put, List.getElem?_cons_zero, List.getElem?_cons_succ, List.setIfInBounds_toArray, List.set_cons_zero, List.set_cons_succ]
    (try dsimp only [DrawS] at hS')
    go_simp
    (try with_reducible rfl)
  -- 2: call { callee := value (func 135), args := #[t5, t6], argTypes := #[167, 39] }
  refine chainQ_do (d := (some 7)) (fun v u => ∃ (xq2 : Int), v = (.int .i64 xq2) ∧ (-10 ≤ xq2 ∧ xq2 ≤ 2000000010)) (fun v w1 w2 hw h => h) rfl rfl (fun m w' hm' hS' => ?_) ?_
  · simp only [lookP, allP, Act.put, List.getElem?_cons_zero, List.getElem?_cons_succ, List.setIfInBounds_toArray, List.set_cons_zero, List.set_cons_succ]
    intro K hK
    replace hm' : m < 6 := hm'
    go_simp
    go_at_call 135
    refine (spec_anyElement w0 g _ P Q G _ hS'.2.1 (hS'.1.belowOf (HW.out.belowOf HBW.out hge) hge) (by omega) HGR.out).mono ?_
    rintro e u ⟨⟨xq2, rfl, xq2l, xq2u⟩, hc, hw⟩
    exact hK.out _ _ hw ⟨hS'.1.trans hw, hc.mono (by omega), ⟨within_at (hS'.1.trans hw) z_0_0 (.inr (by omega)), within_at (hS'.1.trans hw) z_0_1 (.inr (by omega)), within_at (hS'.1.trans hw) z_0_2 (.inr (by omega))⟩⟩ ⟨xq2, rfl, ⟨xq2l, xq2u⟩⟩
  -- 3: move t0
  refine' chainQ_read (DrawS.good _ _ _ _ _ _) (d := (some 8)) _ rfl rfl (fun m w' hm' hS' => ?_) ?_; rotate_left
  · simp only [lookP, allP, Act.put, List.getElem?_cons_zero, List.getElem?_cons_succ, List.setIfInBounds_toArray, List.set_cons_zero, List.set_cons_succ]
    (try dsimp only [DrawS] at hS')
    go_simp
    (try with_reducible rfl)
  -- 4: load 39 t3
  refine' chainQ_read (DrawS.good _ _ _ _ _ _) (d := (some 9)) _ rfl rfl (fun m w' hm' hS' => ?_) ?_; rotate_left
  · simp only [lookP, allP, Act.put, List.getElem?_cons_zero, List.getElem?_cons_succ, List.setIfInBounds_toArray, List.set_cons_zero, List.set_cons_succ]
    (try dsimp only [DrawS] at hS')
    go_simp
    (try with_reducible rfl)
  -- 5: call { callee := value (func 135), args := #[t8, t9], argTypes := #[167, 39] }
  refine chainQ_do (d := (some 10)) (fun v u => ∃ (xq5 : Int), v = (.int .i64 xq5) ∧ (-10 ≤ xq5 ∧ xq5 ≤ 2000000010)) (fun v w1 w2 hw h => h) rfl rfl (fun m w' hm' hS' => ?_) ?_
  · simp only [lookP, allP, Act.put, List.getElem?_cons_zero, List.getElem?_cons_succ, List.setIfInBounds_toArray, List.set_cons_zero, List.set_cons_succ]
    intro K hK
    replace hm' : m < 6 := hm'
    go_simp
    go_at_call 135
    refine (spec_anyElement w0 g _ P Q G _ hS'.2.1 (hS'.1.belowOf (HW.out.belowOf HBW.out hge) hge) (by omega) HGR.out).mono ?_
    rintro e u ⟨⟨xq5, rfl, xq5l, xq5u⟩, hc, hw⟩
    exact hK.out _ _ hw ⟨hS'.1.trans hw, hc.mono (by omega), ⟨within_at (hS'.1.trans hw) z_0_0 (.inr (by omega)), within_at (hS'.1.trans hw) z_0_1 (.inr (by omega)), within_at (hS'.1.trans hw) z_0_2 (.inr (by omega))⟩⟩ ⟨xq5, rfl, ⟨xq5l, xq5u⟩⟩
  refine chainQ_nil (fun u1 hS' => ?_)
  simp only [allP, Act.put, List.setIfInBounds_toArray, List.set_cons_zero, List.set_cons_succ]
  intro x5 hx5
  intro x2 hx2
  replace hS' : DrawS w0 W g _ 5000 _ 6 u1 := hS'
  obtain ⟨hw, hc, hC⟩ := hS'
  obtain ⟨xq2, rfl, xq2l, xq2u⟩ := hx2
  obtain ⟨xq5, rfl, xq5l, xq5u⟩ := hx5
  have hsz1 := hw.size
  replace HZg := Lib.hid (HZg.out.kept hw (.inr (by omega)))
  replace HX0 := Lib.hid (HX0.out.kept hw (.inr (by omega)))
  replace HW := Lib.hid (HW.out.trans hw)
  replace HC := Lib.hid hc
  clear hc hw hC
  clear z_0_0 z_0_1 z_0_2 z_1_0 z_1_1
  have r_HX0_0 := HX0.out.cell (i := 0) rfl
  have r_HX0_1 := HX0.out.cell (i := 1) rfl
  have fr_HX0 := fun j => HX0.out.frozen j
  go_wp2_with fail
  refine NoPanic.normal ?_
  have FHX0 := Lib.hid ((HX0.out.set 0 (.int .i64 xq2)).set 1 (.int .i64 xq5))
  clear r_HX0_0 r_HX0_1 fr_HX0
  have t_HX0_0 := FHX0.out.cell (i := 0) rfl
  have t_HX0_1 := FHX0.out.cell (i := 1) rfl
  try (go_wp2_with fail)
  refine bodyPost_ret (v := .agg #[.int .i64 xq2, .int .i64 xq5]) (by simp [results, Try.results146, go_sem, t_HX0_0, t_HX0_1]) rfl ⟨⟨_, _, rfl, ⟨⟨by omega, by omega⟩, ⟨by omega, by omega⟩⟩⟩, ((HC.out.setNew (b := w.heap.size + 1) (by omega) 0 (.int .i64 xq2)).setNew (b := w.heap.size + 1) (by omega) 1 (.int .i64 xq5)).mono (by omega), (((HWw.out.trans HW.out).setNew (b := w.heap.size + 1) (by omega) 0 (.int .i64 xq2)).setNew (b := w.heap.size + 1) (by omega) 1 (.int .i64 xq5))⟩
end Go.Proofs.Ytboahnklilmdpaa
namespace Go.Proofs.Ytboahnklilmdpaa
open Go.RowKit
set_option linter.unusedSimpArgs false
set_option linter.unusedVariables false

/-- the element that a digest gives -/
def derX (gr : GroupD) (s : ByteArray) (k : Int) (c : Nat) : Int := powM (1 + hashOf (lab s ++ [gr.p, gr.q, gr.g, k, (c : Int)]) % (gr.p - 1)) ((gr.p - 1) / gr.q) gr.p
/-- the first of the first n that is not one, or nought -/
def derTo (gr : GroupD) (s : ByteArray) (k : Int) : Nat → Int
  | 0 => 0
  | n + 1 => if derTo gr s k n = 0 then (if derX gr s k n = 1 then 0 else derX gr s k n) else derTo gr s k n
/-- the derived element, or nought -/
def hD (gr : GroupD) (s : ByteArray) (k : Int) : Int := derTo gr s k 1000
end Go.Proofs.Ytboahnklilmdpaa
namespace Go.Proofs.Ytboahnklilmdpaa
open Go.RowKit
set_option linter.unusedSimpArgs false
set_option linter.unusedVariables false

/-- a contest is valid -/
def ctOk (k o l m p : Int) : Bool := decide (0 ≤ l ∧ l ≤ m ∧ ((k = 1 ∨ k = 3) ∧ 1 ≤ o ∧ o ≤ 8 ∧ m ≤ o ∧ p = 0 ∨ k = 2 ∧ 1 ≤ o ∧ o ≤ 8 ∧ 1 ≤ p ∧ p ≤ 5 ∧ m ≤ o * p ∨ k = 4 ∧ o = 0 ∧ m ≤ 5 ∧ p = 0))
theorem ctOk_bd {k o l m p : Int} (h : ctOk k o l m p = true) : 0 ≤ o ∧ o ≤ 8 ∧ 0 ≤ p ∧ p ≤ 5 ∧ 0 ≤ l ∧ l ≤ m ∧ m ≤ 40 := by
  unfold ctOk at h
  rw [decide_eq_true_iff] at h
  obtain ⟨h1, h2, h | ⟨h3, h4, h5, h6, h7, h8⟩ | h⟩ := h
  · omega
  · have := mul_bd (a := o) (b := p) (by omega) h5 (by omega) h7
    omega
  · omega
end Go.Proofs.Ytboahnklilmdpaa
namespace Go.Proofs.Ytboahnklilmdpaa
open Go.RowKit
set_option linter.unusedSimpArgs false
set_option linter.unusedVariables false

/-- the list of f 0, f 1, .. of length n -/
def tab (n : Nat) (f : Nat → Int) : List Int := (List.range n).map f
theorem tab_length (n : Nat) (f : Nat → Int) : (tab n f).length = n := by simp [tab]
theorem tab_mem {n : Nat} {f : Nat → Int} {x : Int} (h : x ∈ tab n f) : ∃ i, i < n ∧ f i = x := by
  simp only [tab, List.mem_map, List.mem_range] at h; exact h
/-- the number of digits, the last digit first -/
def codeL (b : Int) (l : List Int) : Int := l.foldr (fun d c => c * b + d) 0
/-- digits -/
def Digs (l : List Int) : Prop := l.length ≤ 8 ∧ ∀ x ∈ l, 0 ≤ x ∧ x ≤ 26
theorem codeL_bd0 {b : Int} (h1 : 0 ≤ b) (h2 : b ≤ 27) (l : List Int) : (∀ x ∈ l, 0 ≤ x ∧ x ≤ 26) → 0 ≤ codeL b l ∧ codeL b l < 27 ^ l.length := by
  induction l with
  | nil => intro _; exact ⟨Int.le_refl _, by show (0 : Int) < 27 ^ 0; decide⟩
  | cons a l ih =>
    intro h
    obtain ⟨i1, i2⟩ := ih (fun x hx => h x (List.mem_cons_of_mem _ hx))
    obtain ⟨a1, a2⟩ := h a (List.mem_cons_self ..)
    obtain ⟨m1, m2⟩ := mul_bd (a := codeL b l) (b := b) (A := 27 ^ l.length - 1) i1 (by omega) h1 h2
    have e : codeL b (a :: l) = codeL b l * b + a := rfl
    rw [e, List.length_cons, Int.pow_succ]
    omega
theorem codeL_bd {b : Int} (h1 : 0 ≤ b) (h2 : b ≤ 27) {l : List Int} (h : Digs l) : 0 ≤ codeL b l ∧ codeL b l ≤ 282429536480 := by
  obtain ⟨a, b⟩ := codeL_bd0 h1 h2 l h.2
  refine ⟨a, ?_⟩
  have h3 : l.length < 9 := by have := h.1; omega
  have e : (27 : Int) ^ l.length ≤ 282429536481 := by
    generalize l.length = n at h3
    obtain ⟨j, rfl⟩ : ∃ j : Fin 9, n = j := ⟨⟨n, h3⟩, rfl⟩
    revert j; decide
  omega
theorem Digs.drop {l : List Int} (h : Digs l) (k : Nat) : Digs (l.drop k) := ⟨by have := h.1; simp; omega, fun x hx => h.2 x (List.mem_of_mem_drop hx)⟩
theorem Digs.at_ {l : List Int} (h : Digs l) {k : Nat} (hk : k < l.length) : 0 ≤ nth l k ∧ nth l k ≤ 26 := by rw [nth_eq hk]; exact h.2 _ (List.getElem_mem hk)
/-- the base of a contest's codes -/
def ctBase (k o p : Int) : Int := if k = 2 then p + 1 else if k = 3 then o + 1 else if k = 4 then 27 else 2
/-- n digits that hold r, each of at most p, the last ones first -/
def scoreL (p : Int) : Nat → Int → List Int
  | 0, _ => []
  | n + 1, r => scoreL p n (r - min r p) ++ [min r p]
theorem scoreL_length (p : Int) (n : Nat) : ∀ r, (scoreL p n r).length = n := by
  induction n with
  | zero => intro r; rfl
  | succ n ih => intro r; simp [scoreL, ih]
theorem scoreL_digs {p : Int} (hp0 : 0 ≤ p) (hp : p ≤ 26) (n : Nat) : ∀ r, 0 ≤ r → ∀ x ∈ scoreL p n r, 0 ≤ x ∧ x ≤ 26 := by
  induction n with
  | zero => intro r _ x hx; cases hx
  | succ n ih =>
    intro r hr x hx
    rw [scoreL, List.mem_append] at hx
    rcases hx with hx | hx
    · exact ih _ (by omega) x hx
    · simp at hx; omega
/-- the digits of the greatest code -/
def grD (k : Int) (o m : Nat) (p : Int) : List Int :=
  if k = 1 then tab o (fun i => if (o : Int) - m ≤ i then 1 else 0)
  else if k = 2 then scoreL p o m
  else if k = 3 then tab m (fun i => (o : Int) - m + 1 + i)
  else tab m (fun _ => 26)
/-- the greatest code -/
def ctGr (k o m p : Int) : Int := codeL (ctBase k o p) (grD k o.toNat m.toNat p)
/-- what bounds a valid contest's numbers -/
structure CtN (k : Int) (o m : Nat) (p : Int) : Prop where
  k1 : k = 1 ∨ k = 2 ∨ k = 3 ∨ k = 4
  o8 : o ≤ 8
  p0 : 0 ≤ p
  p5 : p ≤ 5
  m40 : m ≤ 40
  mo : k = 1 ∨ k = 3 → m ≤ o
  m4 : k = 4 → m ≤ 5
theorem CtN.of {k o l m p : Int} (h : ctOk k o l m p = true) : ∃ on mn : Nat, o = on ∧ m = mn ∧ CtN k on mn p := by
  have hb := ctOk_bd h
  unfold ctOk at h; rw [decide_eq_true_iff] at h
  refine ⟨o.toNat, m.toNat, by omega, by omega, ⟨by omega, by omega, by omega, by omega, by omega, by omega, by omega⟩⟩
theorem CtN.digs {k p : Int} {o m : Nat} (h : CtN k o m p) : Digs (grD k o m p) := by
  obtain ⟨hk, ho, hp0, hp5, hm, hmo, hm4⟩ := h
  unfold grD
  rcases hk with rfl | rfl | rfl | rfl
  · have := hmo (.inl rfl)
    refine ⟨by simp [tab_length]; omega, fun x hx => ?_⟩
    simp only [if_true] at hx
    obtain ⟨i, hi, rfl⟩ := tab_mem hx
    split <;> omega
  · refine ⟨by simp [scoreL_length]; omega, fun x hx => ?_⟩
    exact scoreL_digs hp0 (by omega) o m (by omega) x (by simpa using hx)
  · have := hmo (.inr rfl)
    refine ⟨by simp [tab_length]; omega, fun x hx => ?_⟩
    obtain ⟨i, hi, rfl⟩ := tab_mem (show x ∈ tab m _ by simpa using hx)
    omega
  · have := hm4 rfl
    refine ⟨by simp [tab_length]; omega, fun x hx => ?_⟩
    obtain ⟨i, hi, rfl⟩ := tab_mem (show x ∈ tab m _ by simpa using hx)
    omega
theorem CtN.base {k p : Int} {o m : Nat} (h : CtN k o m p) : 0 ≤ ctBase k o p ∧ ctBase k o p ≤ 27 := by
  have := h.o8; have := h.p0; have := h.p5
  unfold ctBase; split
  · omega
  · split
    · omega
    · split <;> omega
theorem CtN.gr {k p : Int} {o m : Nat} (h : CtN k o m p) : 0 ≤ ctGr k o m p ∧ ctGr k o m p ≤ 282429536480 := by
  have := codeL_bd h.base.1 h.base.2 h.digs
  unfold ctGr; simpa using this
end Go.Proofs.Ytboahnklilmdpaa
namespace Go.Proofs.Ytboahnklilmdpaa
open Go.RowKit
set_option linter.unusedSimpArgs false
set_option linter.unusedVariables false

theorem BoxN.belowB {w w' : World} {b B : Nat} {t : TypeId} {cs : List Value} (h : BoxN w b t cs) (hb : Below B w w') (hB : b < B) : BoxN w' b t cs := (hb.block b hB).trans h
end Go.Proofs.Ytboahnklilmdpaa
namespace Go.Proofs.Ytboahnklilmdpaa
open Go.RowKit
set_option linter.unusedSimpArgs false
set_option linter.unusedVariables false

theorem OwnI.other {w : World} {B b : Nat} {v : Value} {l : List Int} (h : OwnI w B v l) (hb : b < B) (j : Nat) (x : Value) : OwnI (w.setCell ⟨b, j, none⟩ x) B v l :=
  h.kept (grownBy_setCell _ b j x) (.inr fun e => by have := (h.lt _ e).1; omega)
/-- a row of integers and a box of another type lie in different blocks -/
theorem OwnI.apart {w : World} {B b : Nat} {v : Value} {l : List Int} {t : TypeId} {cs : List Value} (h : OwnI w B v l) (hx : BoxN w b t cs) (ht : t ≠ 3) : ∀ k, v.ownBlock = some k → b ≠ k := by
  rintro k hk rfl
  rcases h.2.2 with h2 | ⟨g, cap, cur, rfl, hg, hr, r⟩
  · rw [h2.1] at hk; cases hk
  · cases hk
    unfold BoxN at hx
    rw [hx] at hr
    injection hr with hr
    injection hr with h1 h2 h3
    exact ht h2
theorem BoxN.grownR {w w' : World} {b : Nat} {t : TypeId} {cs : List Value} {row : Option Nat} (h : BoxN w b t cs) (hg : w.grownBy w' row) (hne : ∀ k, row = some k → b ≠ k) : BoxN w' b t cs :=
  (hg.block b h.lt (fun e => hne b e.symm rfl)).trans h
theorem Within.belowU {lo hi : Nat} {w u Y : World} (hw : Within lo hi u Y) (h : Below w.heap.size w u) (hlo : w.heap.size ≤ lo) : Below w.heap.size w Y := h.trans (hw.below h.size hlo)
theorem BoxN.otherN {w : World} {b b' : Nat} {t : TypeId} {cs : List Value} (h : BoxN w b t cs) (hb : b < b') (j : Nat) (x : Value) : BoxN (w.setCell ⟨b', j, none⟩ x) b t cs := h.other (by omega) j x
end Go.Proofs.Ytboahnklilmdpaa
