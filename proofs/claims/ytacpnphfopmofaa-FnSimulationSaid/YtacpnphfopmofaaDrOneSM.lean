/- The greatest code of a contest: plain laws, codes of digits. -/
import Derived.Test.YtacpnphfopmofaaCtSM
import Derived.Test.YtacpnphfopmofaaBmSM
import Derived.Test.YtacpnphfopmofaaSim1SM
import Derived.Test.YtacpnphfopmofaaRegVSM
import Derived.Test.YtacpnphfopmofaaPow2SM
import Derived.Test.YtacpnphfopmofaaDrG1SM
import Derived.Deep.Cut
namespace Go.Proofs.Ytacpnphfopmofaa
open Go.RowKit
set_option linter.unusedSimpArgs false
set_option linter.unusedVariables false

/-- the list of f 0, f 1, .. of length n -/
def tab (n : Nat) (f : Nat → Int) : List Int := (List.range n).map f
theorem tab_length (n : Nat) (f : Nat → Int) : (tab n f).length = n := by simp [tab]
theorem tab_mem {n : Nat} {f : Nat → Int} {x : Int} (h : x ∈ tab n f) : ∃ i, i < n ∧ f i = x := by
  simp only [tab, List.mem_map, List.mem_range] at h; exact h
/-- the number of digits, the last digit first -/
def codeL (b : Int) (l : List Int) : Int := l.foldr (fun d c => c * b + d) 0
/-- digits -/
def Digs (l : List Int) : Prop := l.length ≤ 8 ∧ ∀ x ∈ l, 0 ≤ x ∧ x ≤ 26
theorem codeL_bd0 {b : Int} (h1 : 0 ≤ b) (h2 : b ≤ 27) (l : List Int) : (∀ x ∈ l, 0 ≤ x ∧ x ≤ 26) → 0 ≤ codeL b l ∧ codeL b l < 27 ^ l.length := by
  induction l with
  | nil => intro _; exact ⟨Int.le_refl _, by show (0 : Int) < 27 ^ 0; decide⟩
  | cons a l ih =>
    intro h
    obtain ⟨i1, i2⟩ := ih (fun x hx => h x (List.mem_cons_of_mem _ hx))
    obtain ⟨a1, a2⟩ := h a (List.mem_cons_self ..)
    obtain ⟨m1, m2⟩ := mul_bd (a := codeL b l) (b := b) (A := 27 ^ l.length - 1) i1 (by omega) h1 h2
    have e : codeL b (a :: l) = codeL b l * b + a := rfl
    rw [e, List.length_cons, Int.pow_succ]
    omega
theorem codeL_bd {b : Int} (h1 : 0 ≤ b) (h2 : b ≤ 27) {l : List Int} (h : Digs l) : 0 ≤ codeL b l ∧ codeL b l ≤ 282429536480 := by
  obtain ⟨a, b⟩ := codeL_bd0 h1 h2 l h.2
  refine ⟨a, ?_⟩
  have h3 : l.length < 9 := by have := h.1; omega
  have e : (27 : Int) ^ l.length ≤ 282429536481 := by
    generalize l.length = n at h3
    obtain ⟨j, rfl⟩ : ∃ j : Fin 9, n = j := ⟨⟨n, h3⟩, rfl⟩
    revert j; decide
  omega
theorem Digs.drop {l : List Int} (h : Digs l) (k : Nat) : Digs (l.drop k) := ⟨by have := h.1; simp; omega, fun x hx => h.2 x (List.mem_of_mem_drop hx)⟩
theorem Digs.at_ {l : List Int} (h : Digs l) {k : Nat} (hk : k < l.length) : 0 ≤ nth l k ∧ nth l k ≤ 26 := by rw [nth_eq hk]; exact h.2 _ (List.getElem_mem hk)
/-- the base of a contest's codes -/
def ctBase (k o p : Int) : Int := if k = 2 then p + 1 else if k = 3 then o + 1 else if k = 4 then 27 else 2
/-- n digits that hold r, each of at most p, the last ones first -/
def scoreL (p : Int) : Nat → Int → List Int
  | 0, _ => []
  | n + 1, r => scoreL p n (r - min r p) ++ [min r p]
theorem scoreL_length (p : Int) (n : Nat) : ∀ r, (scoreL p n r).length = n := by
  induction n with
  | zero => intro r; rfl
  | succ n ih => intro r; simp [scoreL, ih]
theorem scoreL_digs {p : Int} (hp0 : 0 ≤ p) (hp : p ≤ 26) (n : Nat) : ∀ r, 0 ≤ r → ∀ x ∈ scoreL p n r, 0 ≤ x ∧ x ≤ 26 := by
  induction n with
  | zero => intro r _ x hx; cases hx
  | succ n ih =>
    intro r hr x hx
    rw [scoreL, List.mem_append] at hx
    rcases hx with hx | hx
    · exact ih _ (by omega) x hx
    · simp at hx; omega
/-- the digits of the greatest code -/
def grD (k : Int) (o m : Nat) (p : Int) : List Int :=
  if k = 1 then tab o (fun i => if (o : Int) - m ≤ i then 1 else 0)
  else if k = 2 then scoreL p o m
  else if k = 3 then tab m (fun i => (o : Int) - m + 1 + i)
  else tab m (fun _ => 26)
/-- the greatest code -/
def ctGr (k o m p : Int) : Int := codeL (ctBase k o p) (grD k o.toNat m.toNat p)
/-- what bounds a valid contest's numbers -/
structure CtN (k : Int) (o m : Nat) (p : Int) : Prop where
  k1 : k = 1 ∨ k = 2 ∨ k = 3 ∨ k = 4
  o8 : o ≤ 8
  p0 : 0 ≤ p
  p5 : p ≤ 5
  m40 : m ≤ 40
  mo : k = 1 ∨ k = 3 → m ≤ o
  m4 : k = 4 → m ≤ 5
theorem CtN.of {k o l m p : Int} (h : ctOk k o l m p = true) : ∃ on mn : Nat, o = on ∧ m = mn ∧ CtN k on mn p := by
  have hb := ctOk_bd h
  unfold ctOk at h; rw [decide_eq_true_iff] at h
  refine ⟨o.toNat, m.toNat, by omega, by omega, ⟨by omega, by omega, by omega, by omega, by omega, by omega, by omega⟩⟩
theorem CtN.digs {k p : Int} {o m : Nat} (h : CtN k o m p) : Digs (grD k o m p) := by
  obtain ⟨hk, ho, hp0, hp5, hm, hmo, hm4⟩ := h
  unfold grD
  rcases hk with rfl | rfl | rfl | rfl
  · have := hmo (.inl rfl)
    refine ⟨by simp [tab_length]; omega, fun x hx => ?_⟩
    simp only [if_true] at hx
    obtain ⟨i, hi, rfl⟩ := tab_mem hx
    split <;> omega
  · refine ⟨by simp [scoreL_length]; omega, fun x hx => ?_⟩
    exact scoreL_digs hp0 (by omega) o m (by omega) x (by simpa using hx)
  · have := hmo (.inr rfl)
    refine ⟨by simp [tab_length]; omega, fun x hx => ?_⟩
    obtain ⟨i, hi, rfl⟩ := tab_mem (show x ∈ tab m _ by simpa using hx)
    omega
  · have := hm4 rfl
    refine ⟨by simp [tab_length]; omega, fun x hx => ?_⟩
    obtain ⟨i, hi, rfl⟩ := tab_mem (show x ∈ tab m _ by simpa using hx)
    omega
theorem CtN.base {k p : Int} {o m : Nat} (h : CtN k o m p) : 0 ≤ ctBase k o p ∧ ctBase k o p ≤ 27 := by
  have := h.o8; have := h.p0; have := h.p5
  unfold ctBase; split
  · omega
  · split
    · omega
    · split <;> omega
theorem CtN.gr {k p : Int} {o m : Nat} (h : CtN k o m p) : 0 ≤ ctGr k o m p ∧ ctGr k o m p ≤ 282429536480 := by
  have := codeL_bd h.base.1 h.base.2 h.digs
  unfold ctGr; simpa using this
end Go.Proofs.Ytacpnphfopmofaa
namespace Go.Proofs.Ytacpnphfopmofaa
open Go.RowKit
set_option linter.unusedSimpArgs false
set_option linter.unusedVariables false

theorem BoxN.belowB {w w' : World} {b B : Nat} {t : TypeId} {cs : List Value} (h : BoxN w b t cs) (hb : Below B w w') (hB : b < B) : BoxN w' b t cs := (hb.block b hB).trans h
end Go.Proofs.Ytacpnphfopmofaa
namespace Go.Proofs.Ytacpnphfopmofaa
open Go.RowKit
set_option linter.unusedSimpArgs false
set_option linter.unusedVariables false

theorem OwnI.other {w : World} {B b : Nat} {v : Value} {l : List Int} (h : OwnI w B v l) (hb : b < B) (j : Nat) (x : Value) : OwnI (w.setCell ⟨b, j, none⟩ x) B v l :=
  h.kept (grownBy_setCell _ b j x) (.inr fun e => by have := (h.lt _ e).1; omega)
/-- a row of integers and a box of another type lie in different blocks -/
theorem OwnI.apart {w : World} {B b : Nat} {v : Value} {l : List Int} {t : TypeId} {cs : List Value} (h : OwnI w B v l) (hx : BoxN w b t cs) (ht : t ≠ 3) : ∀ k, v.ownBlock = some k → b ≠ k := by
  rintro k hk rfl
  rcases h.2.2 with h2 | ⟨g, cap, cur, rfl, hg, hr, r⟩
  · rw [h2.1] at hk; cases hk
  · cases hk
    unfold BoxN at hx
    rw [hx] at hr
    injection hr with hr
    injection hr with h1 h2 h3
    exact ht h2
theorem Within.belowU {lo hi : Nat} {w u Y : World} (hw : Within lo hi u Y) (h : Below w.heap.size w u) (hlo : w.heap.size ≤ lo) : Below w.heap.size w Y := h.trans (hw.below h.size hlo)
end Go.Proofs.Ytacpnphfopmofaa
namespace Go.Proofs.Ytacpnphfopmofaa
open Go.RowKit
set_option linter.unusedSimpArgs false
set_option linter.unusedVariables false

/-- what holds in every world that agrees in the blocks from B on below T -/
def SinceT (B T : Nat) (w : World) (P : World → Prop) : Prop := T ≤ w.heap.size ∧ ∀ w', w.heap.size ≤ w'.heap.size → (∀ k, B ≤ k → k < T → w'.heap[k]? = w.heap[k]?) → P w'
theorem SinceT.of {B T : Nat} {w W : World} {P : World → Prop} (h : Since B w P) (hb : Below w.heap.size w W) (hT : w.heap.size ≤ T ∧ T ≤ W.heap.size) : SinceT B T W P :=
  ⟨hT.2, fun w' hs hk => h w' (Nat.le_trans hb.size hs) fun k h1 h2 => (hk k h1 (by omega)).trans (hb.block k h2)⟩
theorem SinceT.here {B T : Nat} {w : World} {P : World → Prop} (h : SinceT B T w P) : P w := h.2 w (Nat.le_refl _) fun _ _ _ => rfl
theorem SinceT.step {B T : Nat} {w w' : World} {P : World → Prop} (h : SinceT B T w P) (hs : w.heap.size ≤ w'.heap.size) (hb : ∀ k, B ≤ k → k < T → w'.heap[k]? = w.heap[k]?) : SinceT B T w' P :=
  ⟨Nat.le_trans h.1 hs, fun u h1 h2 => h.2 u (Nat.le_trans hs h1) fun k hk hlt => (h2 k hk hlt).trans (hb k hk hlt)⟩
theorem SinceT.within {B T lo hi : Nat} {w w' : World} {P : World → Prop} (h : SinceT B T w P) (hw : Within lo hi w w') (hT : T ≤ lo ∨ hi ≤ B) : SinceT B T w' P :=
  h.step hw.size fun k hk hlt => hw.block k (by have := h.1; omega) (by omega)
theorem SinceT.below {B T : Nat} {w w' : World} {P : World → Prop} (h : SinceT B T w P) (hb : Below w.heap.size w w') : SinceT B T w' P := h.step hb.size fun k _ hlt => hb.block k (by have := h.1; omega)
theorem SinceT.mono {B B' T : Nat} {w : World} {P : World → Prop} (h : SinceT B T w P) (hB : B' ≤ B) : Since B' w P := fun w' hs hk => h.2 w' hs fun k h1 h2 => hk k (by omega) (by have := h.1; omega)
end Go.Proofs.Ytacpnphfopmofaa
namespace Go.Proofs.Ytacpnphfopmofaa
open Go.RowKit
set_option linter.unusedSimpArgs false
set_option linter.unusedVariables false

def FrR {δ : Type} (e : TypeId) (R : RowK δ) (w0 w : World) (B : Nat) (v : Value) (ds : List δ) : Prop :=
  ∃ css : List (List Value), css.length = ds.length ∧ w.ownsRow B e R.width v ds.length css.flatten ∧ ∀ i (h1 : i < css.length) (h2 : i < ds.length), R.rd w0 css[i] ds[i]
section
variable {δ : Type} {e : TypeId} {R : RowK δ} {w0 w w' : World} {B : Nat} {v : Value} {ds es : List δ}
theorem FrR.lens {css : List (List Value)} (hl : css.length = ds.length) (hel : ∀ i (h1 : i < css.length) (h2 : i < ds.length), R.rd w0 css[i] ds[i]) : ∀ c ∈ css, c.length = R.width := by
  intro c hc
  obtain ⟨i, hi, rfl⟩ := List.getElem_of_mem hc
  exact R.rd_len (hel i hi (by omega))
theorem FrR.ones {css : List (List Value)} (hl : css.length = ds.length) (hel : ∀ i (h1 : i < css.length) (h2 : i < ds.length), R.rd w0 css[i] ds[i]) : ∀ u ∈ css.flatten, u.oneCell' = true := by
  intro u hu
  obtain ⟨c, hc, hu⟩ := List.mem_flatten.1 hu
  obtain ⟨i, hi, rfl⟩ := List.getElem_of_mem hc
  exact R.rd_one (hel i hi (by omega)) u hu
theorem FrR.rd (h : FrR e R w0 w B v ds) (hb : Below w0.heap.size w0 w) : RdR R w v ds := by
  obtain ⟨css, hl, hO, hel⟩ := h
  have hlen := FrR.lens hl hel
  have hO' := hO
  obtain ⟨hl1, ⟨rfl, h0⟩ | ⟨g, c, cur, rfl, hbb, hgc, hnc, hcm, hcs, htake⟩⟩ := hO
  · have : ds = [] := List.eq_nil_of_length_eq_zero h0
    subst this; exact RdR.nil R w
  · refine ⟨some ⟨g, 0, none⟩, ds.length, c, rfl, rfl, hnc, hcm, .inr (.inr ⟨g, 0, rfl, fun i hi => ?_⟩)⟩
    refine ⟨css[i]'(by omega), fun k hk => ?_, R.rd_below (hel i (by omega) hi) hb⟩
    have h1 := World.ownsRow.cellAt hO' (i * R.width + k) (by
      have : (i + 1) * R.width ≤ ds.length * R.width := Nat.mul_le_mul_right _ hi
      rw [Nat.succ_mul] at this; omega)
    rw [Nat.zero_add, h1, flat_get hlen hk, List.getElem?_eq_getElem (by omega)]
    rfl
theorem FrR.nil (e : TypeId) (R : RowK δ) (w0 w : World) (B : Nat) : FrR e R w0 w B (.slice none 0 0) [] :=
  ⟨[], rfl, by simpa using World.ownsRow_nil w B e R.width, fun i h1 _ => by simp at h1⟩
theorem FrR.below (h : FrR e R w0 w B v ds) (hb : Below w.heap.size w w') : FrR e R w0 w' B v ds := by
  obtain ⟨css, hl, hO, hel⟩ := h
  exact ⟨css, hl, ownsRow_frame hO fun g hg => hb.block g (hO.lt g hg).2, hel⟩
theorem FrR.frame (h : FrR e R w0 w B v ds) (hf : ∀ g, v.ownBlock = some g → w'.heap[g]? = w.heap[g]?) : FrR e R w0 w' B v ds := by
  obtain ⟨css, hl, hO, hel⟩ := h
  exact ⟨css, hl, ownsRow_frame hO hf, hel⟩
theorem FrR.lt (h : FrR e R w0 w B v ds) : ∀ g, v.ownBlock = some g → B ≤ g ∧ g < w.heap.size := by
  obtain ⟨css, hl, hO, hel⟩ := h
  exact fun g hg => hO.lt g hg
theorem FrR.mono {B' : Nat} (h : FrR e R w0 w B v ds) (hB : B' ≤ B) : FrR e R w0 w B' v ds := by
  obtain ⟨css, hl, hO, hel⟩ := h
  exact ⟨css, hl, ownsRow_mono hO hB, hel⟩
end
end Go.Proofs.Ytacpnphfopmofaa
namespace Go.Proofs.Ytacpnphfopmofaa
open Go.RowKit
set_option linter.unusedSimpArgs false
set_option linter.unusedVariables false

theorem FrR.litE {δ : Type} {e : TypeId} {R : RowK δ} (w : World) (css : List (List Value)) {ds : List δ} {cs : Array Value} {n : Nat} (hcs : cs = css.flatten.toArray) (hl : css.length = ds.length) (hn : n = ds.length) (hm : n ≤ maxLen) (hsz : cs.size = n * R.width)
    (hel : ∀ i (h1 : i < css.length) (h2 : i < ds.length), R.rd w css[i] ds[i]) : FrR e R w (w.alloc (.cells cs e)) w.heap.size (.slice (some ⟨w.heap.size, 0, none⟩) n n) ds := by
  have hO := World.ownsRow_lit (e := e) (size := R.width) w cs n (Nat.le_refl _) hm hsz
  subst hcs
  rw [hn] at hO ⊢
  exact ⟨css, hl, by simpa using hO, hel⟩
def SmallE (d : EqualLogD) : Prop := (I64 d.g1 ∧ I64 d.y1) ∧ (I64 d.g2 ∧ I64 d.y2)
theorem rowE {w : World} {c : EqualLogD} (h : SmallE c) : rEqualLog.rd w [.int .i64 c.g1, .int .i64 c.y1, .int .i64 c.g2, .int .i64 c.y2] c := by
  obtain ⟨us, e, hr⟩ := (rdEqualLog (w := w)).2 ⟨rfl, h.1.1, h.1.2, h.2.1, h.2.2⟩
  obtain rfl : us = [.int .i64 c.g1, .int .i64 c.y1, .int .i64 c.g2, .int .i64 c.y2] := by have h := Value.agg.inj e; simpa using (congrArg Array.toList h).symm
  exact hr
theorem RdE.lit1 (w : World) {c : EqualLogD} (h : SmallE c) :
    RdR rEqualLog (w.alloc (.cells #[.int .i64 c.g1, .int .i64 c.y1, .int .i64 c.g2, .int .i64 c.y2] 31)) (.slice (some ⟨w.heap.size, 0, none⟩) 1 1) [c] := by
  refine (FrR.litE (e := 31) (R := rEqualLog) (ds := [c]) (n := 1) w [[.int .i64 c.g1, .int .i64 c.y1, .int .i64 c.g2, .int .i64 c.y2]] rfl rfl rfl (by unfold maxLen; omega) rfl (fun i h1 h2 => ?_)).rd ((Below.refl _ _).alloc (Nat.le_refl _) _)
  cases i with
  | zero => exact rowE h
  | succ i => simp at h2
/-- a row of statements of the call's own -/
def OwnE (w : World) (B : Nat) (v : Value) (l : List EqualLogD) : Prop := FrR 31 rEqualLog w w B v l
theorem rdE_any {w1 w2 : World} {vs : List Value} {d : EqualLogD} (h : rEqualLog.rd w1 vs d) : rEqualLog.rd w2 vs d := by
  obtain ⟨e, j1, j2, j3, j4⟩ := (rdEqualLog (w := w1) (v := .agg vs.toArray) (d := d)).1 ⟨vs, rfl, h⟩
  obtain rfl : vs = [.int .i64 d.g1, .int .i64 d.y1, .int .i64 d.g2, .int .i64 d.y2] := by have h := Value.agg.inj e; simpa using congrArg Array.toList h
  exact rowE ⟨⟨j1, j2⟩, ⟨j3, j4⟩⟩
theorem FrR.anyE {w1 w2 w : World} {B : Nat} {v : Value} {l : List EqualLogD} (h : FrR 31 rEqualLog w1 w B v l) : FrR 31 rEqualLog w2 w B v l := by
  obtain ⟨css, h1, h2, h3⟩ := h
  exact ⟨css, h1, h2, fun i k1 k2 => rdE_any (h3 i k1 k2)⟩
theorem OwnE.nil (w : World) (B : Nat) : OwnE w B (.slice none 0 0) [] := FrR.nil _ _ _ _ _
theorem OwnE.below {w w' : World} {B : Nat} {v : Value} {l : List EqualLogD} (h : OwnE w B v l) (hb : Below w.heap.size w w') : OwnE w' B v l := (FrR.below h hb).anyE
theorem OwnE.rd {w : World} {B : Nat} {v : Value} {l : List EqualLogD} (h : OwnE w B v l) : RdR rEqualLog w v l := FrR.rd h (Below.refl _ _)
theorem OwnE.frame {w w' : World} {B : Nat} {v : Value} {l : List EqualLogD} (h : OwnE w B v l) (hf : ∀ k, B ≤ k → k < w.heap.size → w'.heap[k]? = w.heap[k]?) : OwnE w' B v l :=
  (FrR.frame h fun g hg => hf g (FrR.lt h g hg).1 (FrR.lt h g hg).2).anyE
theorem OwnE.within {lo hi B : Nat} {w w' : World} {v : Value} {l : List EqualLogD} (h : OwnE w B v l) (hw : Within lo hi w w') (hd : hi ≤ B) : OwnE w' B v l := h.frame fun k hk hlt => hw.block k hlt (.inr (by omega))
theorem OwnE.shape {w : World} {B : Nat} {v : Value} {l : List EqualLogD} (h : OwnE w B v l) : ∃ a c, v = .slice a l.length c := by
  obtain ⟨a, n, c, rfl⟩ := h.rd.shape
  have := h.rd.len
  subst this
  exact ⟨a, c, rfl⟩
set_option maxRecDepth 100000 in
set_option maxHeartbeats 4000000 in
theorem spec_equalA (w0 : World) (g : Nat) (n P Q G : Int) (w : World) (h : Cur w0 w g n) (hb : Below w0.heap.size w0 w) (hn : n ≤ 500000000000000) (hgr : GrB ⟨P, Q, G⟩) (hp3 : P < 3) :
    Calls Try.prog 58 #[.pointer (some ⟨g, 0, none⟩), .agg #[.int .i64 P, .int .i64 Q, .int .i64 G]] w fun e w' => (∃ (xr01 : Int) (xr02 : Int) (xr03 : Int) (xr04 : Int) (xr1 : Int), e = .returned (.tuple #[.agg #[.int .i64 xr01, .int .i64 xr02, .int .i64 xr03, .int .i64 xr04], .int .i64 xr1]) ∧ ((-10 ≤ xr01 ∧ xr01 ≤ 2000000010) ∧ (-10 ≤ xr02 ∧ xr02 ≤ 2000000010)) ∧ ((-10 ≤ xr03 ∧ xr03 ≤ 2000000010) ∧ (-10 ≤ xr04 ∧ xr04 ≤ 2000000010)) ∧ (-10 ≤ xr1 ∧ xr1 ≤ 2000000010)) ∧ Cur w0 w' g (n + 60000) ∧ Within g (g + 1) w w' := by
  have HGR := Lib.hid hgr
  have HBB := Lib.hid hb
  have hge := h.ge
  have hgw := h.lt
  clear hgr hb
  obtain ⟨W, hW⟩ : ∃ W, W = (w.alloc (.cells #[.int .i64 P, .int .i64 Q, .int .i64 G] 24)).alloc (.cells #[.int .i64 0, .int .i64 0, .int .i64 0, .int .i64 0] 31) := ⟨_, rfl⟩
  have hbW : Below w.heap.size w W := by rw [hW]; (repeat (first | exact Below.refl _ _ | assumption | refine Below.drew ?_ | refine Below.alloc ?_ (by first | (simp; done) | (simp; omega)) _ | refine Below.setCell ?_ (by first | (simp; done) | (simp; omega)) _))
  have HZg : Hid (BoxN W w.heap.size 24 [.int .i64 P, .int .i64 Q, .int .i64 G]) := by unfold Hid; rw [hW]; have h := ((BoxN.new w [.int .i64 P, .int .i64 Q, .int .i64 G] 24).alloc (.cells #[.int .i64 0, .int .i64 0, .int .i64 0, .int .i64 0] 31)); simpa using h
  have HX0 : Hid (BoxN W (w.heap.size + 1) 31 [.int .i64 0, .int .i64 0, .int .i64 0, .int .i64 0]) := by unfold Hid; rw [hW]; have h := (BoxN.new (w.alloc (.cells #[.int .i64 P, .int .i64 Q, .int .i64 G] 24)) [.int .i64 0, .int .i64 0, .int .i64 0, .int .i64 0] 31); simpa using h
  have hsW : W.heap.size = w.heap.size + 2 := by rw [hW]; simp
  have HC := Lib.hid (h.keep hbW)
  have HWw := Lib.hid (Within.of_below hbW : Within g (g + 1) w W)
  have HBW : Hid (Below w0.heap.size w0 W) := HBB.out.trans (hbW.mono HBB.out.size)
  clear h
  have hd3 : decide (P < 3) = true := decide_eq_true hp3
  have t0 := HX0.out.cell (i := 0) rfl
  have t1 := HX0.out.cell (i := 1) rfl
  have t2 := HX0.out.cell (i := 2) rfl
  have t3 := HX0.out.cell (i := 3) rfl
  go_enter Try.func58, Try.ntmps58
  go_wp2_with fail
  (try rw [← hW])
  refine bodyPost_ret (v := .tuple #[.agg #[.int .i64 0, .int .i64 0, .int .i64 0, .int .i64 0], .int .i64 0]) (by simp [results, Try.results58, go_sem, t0, t1, t2, t3]) rfl ⟨⟨0, 0, 0, 0, 0, rfl, ⟨⟨by omega, by omega⟩, ⟨by omega, by omega⟩⟩, ⟨⟨by omega, by omega⟩, ⟨by omega, by omega⟩⟩, ⟨by omega, by omega⟩⟩, HC.out.mono (by omega), HWw.out⟩
set_option maxRecDepth 100000 in
set_option maxHeartbeats 4000000 in
theorem spec_equalB (w0 : World) (g : Nat) (n P Q G : Int) (w : World) (h : Cur w0 w g n) (hb : Below w0.heap.size w0 w) (hn : n ≤ 500000000000000) (hgr : GrB ⟨P, Q, G⟩) (hp3 : ¬ P < 3) (hq1 : Q < 1) :
    Calls Try.prog 58 #[.pointer (some ⟨g, 0, none⟩), .agg #[.int .i64 P, .int .i64 Q, .int .i64 G]] w fun e w' => (∃ (xr01 : Int) (xr02 : Int) (xr03 : Int) (xr04 : Int) (xr1 : Int), e = .returned (.tuple #[.agg #[.int .i64 xr01, .int .i64 xr02, .int .i64 xr03, .int .i64 xr04], .int .i64 xr1]) ∧ ((-10 ≤ xr01 ∧ xr01 ≤ 2000000010) ∧ (-10 ≤ xr02 ∧ xr02 ≤ 2000000010)) ∧ ((-10 ≤ xr03 ∧ xr03 ≤ 2000000010) ∧ (-10 ≤ xr04 ∧ xr04 ≤ 2000000010)) ∧ (-10 ≤ xr1 ∧ xr1 ≤ 2000000010)) ∧ Cur w0 w' g (n + 60000) ∧ Within g (g + 1) w w' := by
  have HGR := Lib.hid hgr
  have HBB := Lib.hid hb
  have hge := h.ge
  have hgw := h.lt
  clear hgr hb
  obtain ⟨W, hW⟩ : ∃ W, W = (w.alloc (.cells #[.int .i64 P, .int .i64 Q, .int .i64 G] 24)).alloc (.cells #[.int .i64 0, .int .i64 0, .int .i64 0, .int .i64 0] 31) := ⟨_, rfl⟩
  have hbW : Below w.heap.size w W := by rw [hW]; (repeat (first | exact Below.refl _ _ | assumption | refine Below.drew ?_ | refine Below.alloc ?_ (by first | (simp; done) | (simp; omega)) _ | refine Below.setCell ?_ (by first | (simp; done) | (simp; omega)) _))
  have HZg : Hid (BoxN W w.heap.size 24 [.int .i64 P, .int .i64 Q, .int .i64 G]) := by unfold Hid; rw [hW]; have h := ((BoxN.new w [.int .i64 P, .int .i64 Q, .int .i64 G] 24).alloc (.cells #[.int .i64 0, .int .i64 0, .int .i64 0, .int .i64 0] 31)); simpa using h
  have HX0 : Hid (BoxN W (w.heap.size + 1) 31 [.int .i64 0, .int .i64 0, .int .i64 0, .int .i64 0]) := by unfold Hid; rw [hW]; have h := (BoxN.new (w.alloc (.cells #[.int .i64 P, .int .i64 Q, .int .i64 G] 24)) [.int .i64 0, .int .i64 0, .int .i64 0, .int .i64 0] 31); simpa using h
  have hsW : W.heap.size = w.heap.size + 2 := by rw [hW]; simp
  have HC := Lib.hid (h.keep hbW)
  have HWw := Lib.hid (Within.of_below hbW : Within g (g + 1) w W)
  have HBW : Hid (Below w0.heap.size w0 W) := HBB.out.trans (hbW.mono HBB.out.size)
  clear h
  have hd3 : decide (P < 3) = false := decide_eq_false hp3
  have hd1 : decide (Q < 1) = true := decide_eq_true hq1
  have t0 := HX0.out.cell (i := 0) rfl
  have t1 := HX0.out.cell (i := 1) rfl
  have t2 := HX0.out.cell (i := 2) rfl
  have t3 := HX0.out.cell (i := 3) rfl
  go_enter Try.func58, Try.ntmps58
  go_wp2_with fail
  (try rw [← hW])
  refine bodyPost_ret (v := .tuple #[.agg #[.int .i64 0, .int .i64 0, .int .i64 0, .int .i64 0], .int .i64 0]) (by simp [results, Try.results58, go_sem, t0, t1, t2, t3]) rfl ⟨⟨0, 0, 0, 0, 0, rfl, ⟨⟨by omega, by omega⟩, ⟨by omega, by omega⟩⟩, ⟨⟨by omega, by omega⟩, ⟨by omega, by omega⟩⟩, ⟨by omega, by omega⟩⟩, HC.out.mono (by omega), HWw.out⟩
set_option maxRecDepth 100000 in
set_option maxHeartbeats 4000000 in
theorem spec_equalC (w0 : World) (g : Nat) (n P Q G : Int) (w : World) (h : Cur w0 w g n) (hb : Below w0.heap.size w0 w) (hn : n ≤ 500000000000000) (hgr : GrB ⟨P, Q, G⟩) (hp3 : ¬ P < 3) (hq1 : ¬ Q < 1) :
    Calls Try.prog 58 #[.pointer (some ⟨g, 0, none⟩), .agg #[.int .i64 P, .int .i64 Q, .int .i64 G]] w fun e w' => (∃ (xr01 : Int) (xr02 : Int) (xr03 : Int) (xr04 : Int) (xr1 : Int), e = .returned (.tuple #[.agg #[.int .i64 xr01, .int .i64 xr02, .int .i64 xr03, .int .i64 xr04], .int .i64 xr1]) ∧ ((-10 ≤ xr01 ∧ xr01 ≤ 2000000010) ∧ (-10 ≤ xr02 ∧ xr02 ≤ 2000000010)) ∧ ((-10 ≤ xr03 ∧ xr03 ≤ 2000000010) ∧ (-10 ≤ xr04 ∧ xr04 ≤ 2000000010)) ∧ (-10 ≤ xr1 ∧ xr1 ≤ 2000000010)) ∧ Cur w0 w' g (n + 60000) ∧ Within g (g + 1) w w' := by
  have HGR := Lib.hid hgr
  have HBB := Lib.hid hb
  have hge := h.ge
  have hgw := h.lt
  clear hgr hb
  obtain ⟨W, hW⟩ : ∃ W, W = (w.alloc (.cells #[.int .i64 P, .int .i64 Q, .int .i64 G] 24)).alloc (.cells #[.int .i64 0, .int .i64 0, .int .i64 0, .int .i64 0] 31) := ⟨_, rfl⟩
  have hbW : Below w.heap.size w W := by rw [hW]; (repeat (first | exact Below.refl _ _ | assumption | refine Below.drew ?_ | refine Below.alloc ?_ (by first | (simp; done) | (simp; omega)) _ | refine Below.setCell ?_ (by first | (simp; done) | (simp; omega)) _))
  have HZg : Hid (BoxN W w.heap.size 24 [.int .i64 P, .int .i64 Q, .int .i64 G]) := by unfold Hid; rw [hW]; have h := ((BoxN.new w [.int .i64 P, .int .i64 Q, .int .i64 G] 24).alloc (.cells #[.int .i64 0, .int .i64 0, .int .i64 0, .int .i64 0] 31)); simpa using h
  have HX0 : Hid (BoxN W (w.heap.size + 1) 31 [.int .i64 0, .int .i64 0, .int .i64 0, .int .i64 0]) := by unfold Hid; rw [hW]; have h := (BoxN.new (w.alloc (.cells #[.int .i64 P, .int .i64 Q, .int .i64 G] 24)) [.int .i64 0, .int .i64 0, .int .i64 0, .int .i64 0] 31); simpa using h
  have hsW : W.heap.size = w.heap.size + 2 := by rw [hW]; simp
  have HC := Lib.hid (h.keep hbW)
  have HWw := Lib.hid (Within.of_below hbW : Within g (g + 1) w W)
  have HBW : Hid (Below w0.heap.size w0 W) := HBB.out.trans (hbW.mono HBB.out.size)
  clear h
  have hd3 : decide (P < 3) = false := decide_eq_false hp3
  have hd1 : decide (Q < 1) = false := decide_eq_false hq1
  go_enter Try.func58, Try.ntmps58
  go_wp2_with fail
  rw [← hW]
  have HW := Lib.hid (Within.refl g (g + 1) W)
  clear hW hbW
  have hP2 : P ≤ 2000000010 := HGR.out.1.2
  have hQ2 : Q ≤ 2000000010 := HGR.out.2.1.2
  have z_0_0 := HZg.out.cell (i := 0) rfl
  have z_0_1 := HZg.out.cell (i := 1) rfl
  have z_0_2 := HZg.out.cell (i := 2) rfl
  have z_1_0 := HX0.out.cell (i := 0) rfl
  have z_1_1 := HX0.out.cell (i := 1) rfl
  have z_1_2 := HX0.out.cell (i := 2) rfl
  have z_1_3 := HX0.out.cell (i := 3) rfl
  try (go_wp2_with fail)
  clear z_0_0 z_0_1 z_0_2 z_1_0 z_1_1 z_1_2 z_1_3
  refine (spec_expo w0 g _ P Q G _ HC.out (HW.out.belowOf HBW.out hge) (by omega) HGR.out).mono ?_
  rintro e u1 ⟨⟨x1, rfl, x1l, x1u⟩, hc, hw⟩
  have hsz1 := hw.size
  replace HZg := Lib.hid (HZg.out.kept hw (.inr (by omega)))
  replace HX0 := Lib.hid (HX0.out.kept hw (.inr (by omega)))
  replace HW := Lib.hid (HW.out.trans hw)
  replace HC := Lib.hid hc
  clear hc hw
  have hgb : g < u1.heap.size := HC.out.lt
  have z_0_0 := HZg.out.cell (i := 0) rfl
  have z_0_1 := HZg.out.cell (i := 1) rfl
  have z_0_2 := HZg.out.cell (i := 2) rfl
  have z_1_0 := HX0.out.cell (i := 0) rfl
  have z_1_1 := HX0.out.cell (i := 1) rfl
  have z_1_2 := HX0.out.cell (i := 2) rfl
  have z_1_3 := HX0.out.cell (i := 3) rfl
  try (go_wp2_with fail)
  refine wp_region_noPanic ?_
  refine wp_region_Q (Within g (g + 1)) (DrawS w0 u1 g _ 5000 (fun w' => w'.cell? ⟨w.heap.size, 0, none⟩ = some (.int .i64 P) ∧ w'.cell? ⟨w.heap.size, 1, none⟩ = some (.int .i64 Q) ∧ w'.cell? ⟨w.heap.size, 2, none⟩ = some (.int .i64 G))) 11 [(0, []), (1, []), (2, [1, 0]), (3, []), (4, []), (5, [1, 0]), (6, [3, 0]), (7, [])] [8] (by kernel_rfl) (by kernel_rfl) (by kernel_rfl) rfl (fun _ _ _ _ h => h) (DrawS.good _ _ _ _ _ _) ⟨(Within.refl _ _ _).drew, by simpa using HC.out.keep (Below.refl _ _).drew, ⟨box_at z_0_0 (Below.refl _ _).drew, box_at z_0_1 (Below.refl _ _).drew, box_at z_0_2 (Below.refl _ _).drew⟩⟩ ?_
  simp only [pickP, pickN, List.getElem?_cons_zero, List.getElem?_cons_succ]
  iterate 2 (refine' chainQ_read (DrawS.good _ _ _ _ _ _) _ rfl rfl (fun m w' hm' hS' => ?_) ?_; rotate_left; · (simp only [lookP, allP, Act.put, List.getElem?_cons_zero, List.getElem?_cons_succ, List.setIfInBounds_toArray, List.set_cons_zero, List.set_cons_succ]; (try dsimp only [DrawS] at hS'); go_simp; (try with_reducible rfl)))
  -- 2: call { callee := value (func 83), args := #[t20, t21], argTypes := #[104, 24] }
  refine chainQ_do (d := (some 22)) (fun v u => ∃ (xq2 : Int), v = (.int .i64 xq2) ∧ (0 ≤ xq2 ∧ xq2 ≤ 2000000010)) (fun v w1 w2 hw h => h) rfl rfl (fun m w' hm' hS' => ?_) ?_
  · simp only [lookP, allP, Act.put, List.getElem?_cons_zero, List.getElem?_cons_succ, List.setIfInBounds_toArray, List.set_cons_zero, List.set_cons_succ]
    intro K hK
    replace hm' : m < 8 := hm'
    go_simp
    go_at_call 60
    refine (spec_element w0 g _ P Q G _ hS'.2.1 (hS'.1.belowOf (HW.out.belowOf HBW.out hge) hge) (by omega) HGR.out).mono ?_
    rintro e u ⟨⟨xq2, rfl, xq2l, xq2u⟩, hc, hw⟩
    exact hK.out _ _ hw ⟨hS'.1.trans hw, hc.mono (by omega), ⟨within_at (hS'.1.trans hw) z_0_0 (.inr (by omega)), within_at (hS'.1.trans hw) z_0_1 (.inr (by omega)), within_at (hS'.1.trans hw) z_0_2 (.inr (by omega))⟩⟩ ⟨xq2, rfl, ⟨xq2l, xq2u⟩⟩
  iterate 2 (refine' chainQ_read (DrawS.good _ _ _ _ _ _) _ rfl rfl (fun m w' hm' hS' => ?_) ?_; rotate_left; · (simp only [lookP, allP, Act.put, List.getElem?_cons_zero, List.getElem?_cons_succ, List.setIfInBounds_toArray, List.set_cons_zero, List.set_cons_succ]; (try dsimp only [DrawS] at hS'); go_simp; (try with_reducible rfl)))
  -- 5: call { callee := value (func 83), args := #[t23, t24], argTypes := #[104, 24] }
  refine chainQ_do (d := (some 25)) (fun v u => ∃ (xq5 : Int), v = (.int .i64 xq5) ∧ (0 ≤ xq5 ∧ xq5 ≤ 2000000010)) (fun v w1 w2 hw h => h) rfl rfl (fun m w' hm' hS' => ?_) ?_
  · simp only [lookP, allP, Act.put, List.getElem?_cons_zero, List.getElem?_cons_succ, List.setIfInBounds_toArray, List.set_cons_zero, List.set_cons_succ]
    intro K hK
    replace hm' : m < 8 := hm'
    go_simp
    go_at_call 60
    refine (spec_element w0 g _ P Q G _ hS'.2.1 (hS'.1.belowOf (HW.out.belowOf HBW.out hge) hge) (by omega) HGR.out).mono ?_
    rintro e u ⟨⟨xq5, rfl, xq5l, xq5u⟩, hc, hw⟩
    exact hK.out _ _ hw ⟨hS'.1.trans hw, hc.mono (by omega), ⟨within_at (hS'.1.trans hw) z_0_0 (.inr (by omega)), within_at (hS'.1.trans hw) z_0_1 (.inr (by omega)), within_at (hS'.1.trans hw) z_0_2 (.inr (by omega))⟩⟩ ⟨xq5, rfl, ⟨xq5l, xq5u⟩⟩
  -- 6: build 31 #[(0, t22), (2, t25)]
  refine chainQ_have (DrawS.good _ _ _ _ _ _) (d := (some 26)) (fun v u => ∃ a b : Int, v = .agg #[.int .i64 a, .int .i64 0, .int .i64 b, .int .i64 0] ∧ (0 ≤ a ∧ a ≤ 2000000010) ∧ (0 ≤ b ∧ b ≤ 2000000010)) (fun v w1 w2 hw h => h) rfl rfl (fun m w' hm' hS' => ?_) ?_
  · simp only [lookP, allP, Act.put, List.getElem?_cons_zero, List.getElem?_cons_succ, List.setIfInBounds_toArray, List.set_cons_zero, List.set_cons_succ]
    intro x2 hx2
    intro x5 hx5
    obtain ⟨a, rfl, ha⟩ := hx2
    obtain ⟨b, rfl, hb⟩ := hx5
    refine ⟨.agg #[.int .i64 a, .int .i64 0, .int .i64 b, .int .i64 0], ?_, a, b, rfl, ha, hb⟩
    go_simp
  -- 7: alloc 31
  refine chainQ_do (d := (some 7)) (fun v u => ∃ bz : Nat, v = .pointer (some ⟨bz, 0, none⟩) ∧ u1.heap.size ≤ bz ∧ BoxN u bz 31 [.int .i64 0, .int .i64 0, .int .i64 0, .int .i64 0]) (fun v w1 w2 hw h => by obtain ⟨bz, e, h1, h2⟩ := h; exact ⟨bz, e, h1, h2.kept hw (.inr (by omega))⟩) rfl rfl (fun m w' hm' hS' => ?_) ?_
  · simp only [lookP, allP, Act.put, List.getElem?_cons_zero, List.getElem?_cons_succ, List.setIfInBounds_toArray, List.set_cons_zero, List.set_cons_succ]
    intro K hK
    replace hm' : m < 8 := hm'
    go_simp
    have hbn := (Below.refl w'.heap.size w').alloc (Nat.le_refl _) (.cells #[.int .i64 0, .int .i64 0, .int .i64 0, .int .i64 0] 31)
    have hw := (Within.of_below hbn : Within g (g + 1) _ _)
    have hsz0 := hS'.1.size
    refine hK.out _ _ hw ⟨hS'.1.trans hw, (hS'.2.1.keep hbn).mono (by omega), ⟨within_at (hS'.1.trans hw) z_0_0 (.inr (by omega)), within_at (hS'.1.trans hw) z_0_1 (.inr (by omega)), within_at (hS'.1.trans hw) z_0_2 (.inr (by omega))⟩⟩ ?_
    exact ⟨w'.heap.size, rfl, by omega, BoxN.new w' [.int .i64 0, .int .i64 0, .int .i64 0, .int .i64 0] _⟩
  refine chainQ_nil (fun u2 hS' => ?_)
  simp only [allP, Act.put, List.setIfInBounds_toArray, List.set_cons_zero, List.set_cons_succ]
  intro x7 hx7
  intro x6 hx6
  intro x5 hx5
  intro x2 hx2
  replace hS' : DrawS w0 u1 g _ 5000 _ 8 u2 := hS'
  obtain ⟨hw, hc, hC⟩ := hS'
  obtain ⟨xq2, rfl, xq2l, xq2u⟩ := hx2
  obtain ⟨xq5, rfl, xq5l, xq5u⟩ := hx5
  have hsz2 := hw.size
  replace HZg := Lib.hid (HZg.out.kept hw (.inr (by omega)))
  replace HX0 := Lib.hid (HX0.out.kept hw (.inr (by omega)))
  replace HW := Lib.hid (HW.out.trans hw)
  replace HC := Lib.hid hc
  clear hc hw hC
  clear z_0_0 z_0_1 z_0_2 z_1_0 z_1_1 z_1_2 z_1_3
  obtain ⟨bz, rfl, hbz, hz⟩ := hx7
  obtain ⟨ea, eb, rfl, ⟨eal, eau⟩, ⟨ebl, ebu⟩⟩ := hx6
  have HZe := Lib.hid hz
  clear hz
  have z_0_0 := HZg.out.cell (i := 0) rfl
  have z_0_1 := HZg.out.cell (i := 1) rfl
  have z_0_2 := HZg.out.cell (i := 2) rfl
  have z_1_0 := HX0.out.cell (i := 0) rfl
  have z_1_1 := HX0.out.cell (i := 1) rfl
  have z_1_2 := HX0.out.cell (i := 2) rfl
  have z_1_3 := HX0.out.cell (i := 3) rfl
  have z_2_0 := HZe.out.cell (i := 0) rfl
  have z_2_1 := HZe.out.cell (i := 1) rfl
  have z_2_2 := HZe.out.cell (i := 2) rfl
  have z_2_3 := HZe.out.cell (i := 3) rfl
  have frm := fun j => HZe.out.frozen j
  have ltm := HZe.out.lt
  go_wp2_with fail
  refine NoPanic.normal ?_
  obtain ⟨Y3, hY⟩ : ∃ Y, Y = (((u2.setCell ⟨bz, 0, none⟩ (.int .i64 ea)).setCell ⟨bz, 1, none⟩ (.int .i64 0)).setCell ⟨bz, 2, none⟩ (.int .i64 eb)).setCell ⟨bz, 3, none⟩ (.int .i64 0) := ⟨_, rfl⟩
  have hYl : Within (bz) (bz + 1) u2 Y3 := by rw [hY]; exact (((((Within.refl (bz) (bz + 1) u2).setCell (b := bz) (by omega) (by omega) 0 (.int .i64 ea)).setCell (b := bz) (by omega) (by omega) 1 (.int .i64 0)).setCell (b := bz) (by omega) (by omega) 2 (.int .i64 eb)).setCell (b := bz) (by omega) (by omega) 3 (.int .i64 0))
  have hszY3 := hYl.size
  have NHZe : Hid (BoxN Y3 bz 31 [.int .i64 ea, .int .i64 0, .int .i64 eb, .int .i64 0]) := by unfold Hid; rw [hY]; exact ((((HZe.out.set 0 (.int .i64 ea)).set 1 (.int .i64 0)).set 2 (.int .i64 eb)).set 3 (.int .i64 0))
  have NC := Lib.hid ((((HC.out.setNew (b := bz) (by omega) 0 (.int .i64 ea)).setNew (b := bz) (by omega) 1 (.int .i64 0)).setNew (b := bz) (by omega) 2 (.int .i64 eb)).setNew (b := bz) (by omega) 3 (.int .i64 0))
  rw [← hY] at NC
  have NW := Lib.hid ((((HW.out.setNew (b := bz) (by omega) 0 (.int .i64 ea)).setNew (b := bz) (by omega) 1 (.int .i64 0)).setNew (b := bz) (by omega) 2 (.int .i64 eb)).setNew (b := bz) (by omega) 3 (.int .i64 0))
  rw [← hY] at NW
  replace HZg := Lib.hid (HZg.out.kept hYl (by omega))
  replace HX0 := Lib.hid (HX0.out.kept hYl (by omega))
  rw [← hY]
  clear hY hYl frm ltm HZe HC HW
  have HZe := NHZe
  have HC := NC
  have HW := NW
  clear NHZe NC NW
  clear z_0_0 z_0_1 z_0_2 z_1_0 z_1_1 z_1_2 z_1_3 z_2_0 z_2_1 z_2_2 z_2_3
  have z_0_0 := HZg.out.cell (i := 0) rfl
  have z_0_1 := HZg.out.cell (i := 1) rfl
  have z_0_2 := HZg.out.cell (i := 2) rfl
  have z_1_0 := HX0.out.cell (i := 0) rfl
  have z_1_1 := HX0.out.cell (i := 1) rfl
  have z_1_2 := HX0.out.cell (i := 2) rfl
  have z_1_3 := HX0.out.cell (i := 3) rfl
  have z_2_0 := HZe.out.cell (i := 0) rfl
  have z_2_1 := HZe.out.cell (i := 1) rfl
  have z_2_2 := HZe.out.cell (i := 2) rfl
  have z_2_3 := HZe.out.cell (i := 3) rfl
  try (go_wp2_with fail)
  clear z_0_0 z_0_1 z_0_2 z_1_0 z_1_1 z_1_2 z_1_3 z_2_0 z_2_1 z_2_2 z_2_3
  refine (spec_gExpW ⟨P, Q, G⟩ ea x1 _ ⟨by show (1 : Int) ≤ P; omega, by show P ≤ 3000000000; omega⟩ ⟨by show (1 : Int) ≤ Q; omega, by show Q ≤ 3000000000; omega⟩ ⟨by omega, by omega⟩ ⟨by omega, by omega⟩).mono ?_
  rintro e u4 ⟨⟨x4, rfl, x4l, x4u⟩, hb⟩
  replace x4u : x4 ≤ 2000000010 := by have h : x4 < P := x4u; omega
  have hsz4 := hb.size
  replace HZg := Lib.hid (HZg.out.below hb)
  replace HX0 := Lib.hid (HX0.out.below hb)
  replace HZe := Lib.hid (HZe.out.below hb)
  replace HW := Lib.hid (HW.out.trans (Within.of_below hb))
  replace HC := Lib.hid (HC.out.keep hb)
  clear hb
  have z_0_0 := HZg.out.cell (i := 0) rfl
  have z_0_1 := HZg.out.cell (i := 1) rfl
  have z_0_2 := HZg.out.cell (i := 2) rfl
  have z_1_0 := HX0.out.cell (i := 0) rfl
  have z_1_1 := HX0.out.cell (i := 1) rfl
  have z_1_2 := HX0.out.cell (i := 2) rfl
  have z_1_3 := HX0.out.cell (i := 3) rfl
  have z_2_0 := HZe.out.cell (i := 0) rfl
  have z_2_1 := HZe.out.cell (i := 1) rfl
  have z_2_2 := HZe.out.cell (i := 2) rfl
  have z_2_3 := HZe.out.cell (i := 3) rfl
  have frm := fun j => HZe.out.frozen j
  have ltm := HZe.out.lt
  go_wp2_with fail
  obtain ⟨Y5, hY⟩ : ∃ Y, Y = u4.setCell ⟨bz, 1, none⟩ (.int .i64 x4) := ⟨_, rfl⟩
  have hYl : Within (bz) (bz + 1) u4 Y5 := by rw [hY]; exact ((Within.refl (bz) (bz + 1) u4).setCell (b := bz) (by omega) (by omega) 1 (.int .i64 x4))
  have hszY5 := hYl.size
  have NHZe : Hid (BoxN Y5 bz 31 [.int .i64 ea, .int .i64 x4, .int .i64 eb, .int .i64 0]) := by unfold Hid; rw [hY]; exact (HZe.out.set 1 (.int .i64 x4))
  have NC := Lib.hid (HC.out.setNew (b := bz) (by omega) 1 (.int .i64 x4))
  rw [← hY] at NC
  have NW := Lib.hid (HW.out.setNew (b := bz) (by omega) 1 (.int .i64 x4))
  rw [← hY] at NW
  replace HZg := Lib.hid (HZg.out.kept hYl (by omega))
  replace HX0 := Lib.hid (HX0.out.kept hYl (by omega))
  rw [← hY]
  clear hY hYl frm ltm HZe HC HW
  have HZe := NHZe
  have HC := NC
  have HW := NW
  clear NHZe NC NW
  clear z_0_0 z_0_1 z_0_2 z_1_0 z_1_1 z_1_2 z_1_3 z_2_0 z_2_1 z_2_2 z_2_3
  have z_0_0 := HZg.out.cell (i := 0) rfl
  have z_0_1 := HZg.out.cell (i := 1) rfl
  have z_0_2 := HZg.out.cell (i := 2) rfl
  have z_1_0 := HX0.out.cell (i := 0) rfl
  have z_1_1 := HX0.out.cell (i := 1) rfl
  have z_1_2 := HX0.out.cell (i := 2) rfl
  have z_1_3 := HX0.out.cell (i := 3) rfl
  have z_2_0 := HZe.out.cell (i := 0) rfl
  have z_2_1 := HZe.out.cell (i := 1) rfl
  have z_2_2 := HZe.out.cell (i := 2) rfl
  have z_2_3 := HZe.out.cell (i := 3) rfl
  try (go_wp2_with fail)
  clear z_0_0 z_0_1 z_0_2 z_1_0 z_1_1 z_1_2 z_1_3 z_2_0 z_2_1 z_2_2 z_2_3
  refine (spec_gExpW ⟨P, Q, G⟩ eb x1 _ ⟨by show (1 : Int) ≤ P; omega, by show P ≤ 3000000000; omega⟩ ⟨by show (1 : Int) ≤ Q; omega, by show Q ≤ 3000000000; omega⟩ ⟨by omega, by omega⟩ ⟨by omega, by omega⟩).mono ?_
  rintro e u6 ⟨⟨x6, rfl, x6l, x6u⟩, hb⟩
  replace x6u : x6 ≤ 2000000010 := by have h : x6 < P := x6u; omega
  have hsz6 := hb.size
  replace HZg := Lib.hid (HZg.out.below hb)
  replace HX0 := Lib.hid (HX0.out.below hb)
  replace HZe := Lib.hid (HZe.out.below hb)
  replace HW := Lib.hid (HW.out.trans (Within.of_below hb))
  replace HC := Lib.hid (HC.out.keep hb)
  clear hb
  have z_0_0 := HZg.out.cell (i := 0) rfl
  have z_0_1 := HZg.out.cell (i := 1) rfl
  have z_0_2 := HZg.out.cell (i := 2) rfl
  have z_1_0 := HX0.out.cell (i := 0) rfl
  have z_1_1 := HX0.out.cell (i := 1) rfl
  have z_1_2 := HX0.out.cell (i := 2) rfl
  have z_1_3 := HX0.out.cell (i := 3) rfl
  have z_2_0 := HZe.out.cell (i := 0) rfl
  have z_2_1 := HZe.out.cell (i := 1) rfl
  have z_2_2 := HZe.out.cell (i := 2) rfl
  have z_2_3 := HZe.out.cell (i := 3) rfl
  have frm := fun j => HZe.out.frozen j
  have ltm := HZe.out.lt
  go_wp2_with fail
  obtain ⟨Y7, hY⟩ : ∃ Y, Y = u6.setCell ⟨bz, 3, none⟩ (.int .i64 x6) := ⟨_, rfl⟩
  have hYl : Within (bz) (bz + 1) u6 Y7 := by rw [hY]; exact ((Within.refl (bz) (bz + 1) u6).setCell (b := bz) (by omega) (by omega) 3 (.int .i64 x6))
  have hszY7 := hYl.size
  have NHZe : Hid (BoxN Y7 bz 31 [.int .i64 ea, .int .i64 x4, .int .i64 eb, .int .i64 x6]) := by unfold Hid; rw [hY]; exact (HZe.out.set 3 (.int .i64 x6))
  have NC := Lib.hid (HC.out.setNew (b := bz) (by omega) 3 (.int .i64 x6))
  rw [← hY] at NC
  have NW := Lib.hid (HW.out.setNew (b := bz) (by omega) 3 (.int .i64 x6))
  rw [← hY] at NW
  replace HZg := Lib.hid (HZg.out.kept hYl (by omega))
  replace HX0 := Lib.hid (HX0.out.kept hYl (by omega))
  rw [← hY]
  clear hY hYl frm ltm HZe HC HW
  have HZe := NHZe
  have HC := NC
  have HW := NW
  clear NHZe NC NW
  clear z_0_0 z_0_1 z_0_2 z_1_0 z_1_1 z_1_2 z_1_3 z_2_0 z_2_1 z_2_2 z_2_3
  have z_0_0 := HZg.out.cell (i := 0) rfl
  have z_0_1 := HZg.out.cell (i := 1) rfl
  have z_0_2 := HZg.out.cell (i := 2) rfl
  have z_1_0 := HX0.out.cell (i := 0) rfl
  have z_1_1 := HX0.out.cell (i := 1) rfl
  have z_1_2 := HX0.out.cell (i := 2) rfl
  have z_1_3 := HX0.out.cell (i := 3) rfl
  have z_2_0 := HZe.out.cell (i := 0) rfl
  have z_2_1 := HZe.out.cell (i := 1) rfl
  have z_2_2 := HZe.out.cell (i := 2) rfl
  have z_2_3 := HZe.out.cell (i := 3) rfl
  try (go_wp2_with fail)
  clear z_0_0 z_0_1 z_0_2 z_1_0 z_1_1 z_1_2 z_1_3 z_2_0 z_2_1 z_2_2 z_2_3
  refine (spec_one w0 g _ 10 _ HC.out (HW.out.belowOf HBW.out hge) (by omega) ).mono ?_
  rintro e u8 ⟨⟨b8, rfl⟩, hc, hw⟩
  have hsz8 := hw.size
  replace HZg := Lib.hid (HZg.out.kept hw (.inr (by omega)))
  replace HX0 := Lib.hid (HX0.out.kept hw (.inr (by omega)))
  replace HZe := Lib.hid (HZe.out.kept hw (.inr (by omega)))
  replace HW := Lib.hid (HW.out.trans hw)
  replace HC := Lib.hid hc
  clear hc hw
  cases b8 with
  | false =>
    have z_0_0 := HZg.out.cell (i := 0) rfl
    have z_0_1 := HZg.out.cell (i := 1) rfl
    have z_0_2 := HZg.out.cell (i := 2) rfl
    have z_2_0 := HZe.out.cell (i := 0) rfl
    have z_2_1 := HZe.out.cell (i := 1) rfl
    have z_2_2 := HZe.out.cell (i := 2) rfl
    have z_2_3 := HZe.out.cell (i := 3) rfl
    have r_HX0_0 := HX0.out.cell (i := 0) rfl
    have r_HX0_1 := HX0.out.cell (i := 1) rfl
    have r_HX0_2 := HX0.out.cell (i := 2) rfl
    have r_HX0_3 := HX0.out.cell (i := 3) rfl
    have fr_HX0 := fun j => HX0.out.frozen j
    go_wp2_with fail
    have FHX0 := Lib.hid ((((HX0.out.set 0 (.int .i64 ea)).set 1 (.int .i64 x4)).set 2 (.int .i64 eb)).set 3 (.int .i64 x6))
    clear z_0_0 z_0_1 z_0_2 z_2_0 z_2_1 z_2_2 z_2_3 r_HX0_0 r_HX0_1 r_HX0_2 r_HX0_3 fr_HX0
    have t_HX0_0 := FHX0.out.cell (i := 0) rfl
    have t_HX0_1 := FHX0.out.cell (i := 1) rfl
    have t_HX0_2 := FHX0.out.cell (i := 2) rfl
    have t_HX0_3 := FHX0.out.cell (i := 3) rfl
    try (go_wp2_with fail)
    refine bodyPost_ret (v := .tuple #[.agg #[.int .i64 ea, .int .i64 x4, .int .i64 eb, .int .i64 x6], .int .i64 x1]) (by simp [results, Try.results58, go_sem, t_HX0_0, t_HX0_1, t_HX0_2, t_HX0_3]) rfl ⟨⟨_, _, _, _, _, rfl, ⟨⟨by omega, by omega⟩, ⟨by omega, by omega⟩⟩, ⟨⟨by omega, by omega⟩, ⟨by omega, by omega⟩⟩, ⟨by omega, by omega⟩⟩, ((((HC.out.setNew (b := w.heap.size + 1) (by omega) 0 (.int .i64 ea)).setNew (b := w.heap.size + 1) (by omega) 1 (.int .i64 x4)).setNew (b := w.heap.size + 1) (by omega) 2 (.int .i64 eb)).setNew (b := w.heap.size + 1) (by omega) 3 (.int .i64 x6)).mono (by omega), (((((HWw.out.trans HW.out).setNew (b := w.heap.size + 1) (by omega) 0 (.int .i64 ea)).setNew (b := w.heap.size + 1) (by omega) 1 (.int .i64 x4)).setNew (b := w.heap.size + 1) (by omega) 2 (.int .i64 eb)).setNew (b := w.heap.size + 1) (by omega) 3 (.int .i64 x6))⟩
  | true =>
    have z_0_0 := HZg.out.cell (i := 0) rfl
    have z_0_1 := HZg.out.cell (i := 1) rfl
    have z_0_2 := HZg.out.cell (i := 2) rfl
    have z_1_0 := HX0.out.cell (i := 0) rfl
    have z_1_1 := HX0.out.cell (i := 1) rfl
    have z_1_2 := HX0.out.cell (i := 2) rfl
    have z_1_3 := HX0.out.cell (i := 3) rfl
    have z_2_0 := HZe.out.cell (i := 0) rfl
    have z_2_1 := HZe.out.cell (i := 1) rfl
    have z_2_2 := HZe.out.cell (i := 2) rfl
    have z_2_3 := HZe.out.cell (i := 3) rfl
    try (go_wp2_with fail)
    clear z_0_0 z_0_1 z_0_2 z_1_0 z_1_1 z_1_2 z_1_3 z_2_0 z_2_1 z_2_2 z_2_3
    refine (spec_anyElement w0 g _ P Q G _ HC.out (HW.out.belowOf HBW.out hge) (by omega) HGR.out).mono ?_
    rintro e u9 ⟨⟨x9, rfl, x9l, x9u⟩, hc, hw⟩
    have hsz9 := hw.size
    replace HZg := Lib.hid (HZg.out.kept hw (.inr (by omega)))
    replace HX0 := Lib.hid (HX0.out.kept hw (.inr (by omega)))
    replace HZe := Lib.hid (HZe.out.kept hw (.inr (by omega)))
    replace HW := Lib.hid (HW.out.trans hw)
    replace HC := Lib.hid hc
    clear hc hw
    have z_0_0 := HZg.out.cell (i := 0) rfl
    have z_0_1 := HZg.out.cell (i := 1) rfl
    have z_0_2 := HZg.out.cell (i := 2) rfl
    have z_1_0 := HX0.out.cell (i := 0) rfl
    have z_1_1 := HX0.out.cell (i := 1) rfl
    have z_1_2 := HX0.out.cell (i := 2) rfl
    have z_1_3 := HX0.out.cell (i := 3) rfl
    have z_2_0 := HZe.out.cell (i := 0) rfl
    have z_2_1 := HZe.out.cell (i := 1) rfl
    have z_2_2 := HZe.out.cell (i := 2) rfl
    have z_2_3 := HZe.out.cell (i := 3) rfl
    have frm := fun j => HZe.out.frozen j
    have ltm := HZe.out.lt
    go_upto_region 9 with fail
    obtain ⟨Y10, hY⟩ : ∃ Y, Y = u9.setCell ⟨bz, 3, none⟩ (.int .i64 x9) := ⟨_, rfl⟩
    have hYl : Within (bz) (bz + 1) u9 Y10 := by rw [hY]; exact ((Within.refl (bz) (bz + 1) u9).setCell (b := bz) (by omega) (by omega) 3 (.int .i64 x9))
    have hszY10 := hYl.size
    have NHZe : Hid (BoxN Y10 bz 31 [.int .i64 ea, .int .i64 x4, .int .i64 eb, .int .i64 x9]) := by unfold Hid; rw [hY]; exact (HZe.out.set 3 (.int .i64 x9))
    have NC := Lib.hid (HC.out.setNew (b := bz) (by omega) 3 (.int .i64 x9))
    rw [← hY] at NC
    have NW := Lib.hid (HW.out.setNew (b := bz) (by omega) 3 (.int .i64 x9))
    rw [← hY] at NW
    replace HZg := Lib.hid (HZg.out.kept hYl (by omega))
    replace HX0 := Lib.hid (HX0.out.kept hYl (by omega))
    rw [← hY]
    clear hY hYl frm ltm HZe HC HW
    have HZe := NHZe
    have HC := NC
    have HW := NW
    clear NHZe NC NW
    clear z_0_0 z_0_1 z_0_2 z_1_0 z_1_1 z_1_2 z_1_3 z_2_0 z_2_1 z_2_2 z_2_3
    have z_0_0 := HZg.out.cell (i := 0) rfl
    have z_0_1 := HZg.out.cell (i := 1) rfl
    have z_0_2 := HZg.out.cell (i := 2) rfl
    have z_2_0 := HZe.out.cell (i := 0) rfl
    have z_2_1 := HZe.out.cell (i := 1) rfl
    have z_2_2 := HZe.out.cell (i := 2) rfl
    have z_2_3 := HZe.out.cell (i := 3) rfl
    have r_HX0_0 := HX0.out.cell (i := 0) rfl
    have r_HX0_1 := HX0.out.cell (i := 1) rfl
    have r_HX0_2 := HX0.out.cell (i := 2) rfl
    have r_HX0_3 := HX0.out.cell (i := 3) rfl
    have fr_HX0 := fun j => HX0.out.frozen j
    go_wp2_with fail
    have FHX0 := Lib.hid ((((HX0.out.set 0 (.int .i64 ea)).set 1 (.int .i64 x4)).set 2 (.int .i64 eb)).set 3 (.int .i64 x9))
    clear z_0_0 z_0_1 z_0_2 z_2_0 z_2_1 z_2_2 z_2_3 r_HX0_0 r_HX0_1 r_HX0_2 r_HX0_3 fr_HX0
    have t_HX0_0 := FHX0.out.cell (i := 0) rfl
    have t_HX0_1 := FHX0.out.cell (i := 1) rfl
    have t_HX0_2 := FHX0.out.cell (i := 2) rfl
    have t_HX0_3 := FHX0.out.cell (i := 3) rfl
    try (go_wp2_with fail)
    refine bodyPost_ret (v := .tuple #[.agg #[.int .i64 ea, .int .i64 x4, .int .i64 eb, .int .i64 x9], .int .i64 x1]) (by simp [results, Try.results58, go_sem, t_HX0_0, t_HX0_1, t_HX0_2, t_HX0_3]) rfl ⟨⟨_, _, _, _, _, rfl, ⟨⟨by omega, by omega⟩, ⟨by omega, by omega⟩⟩, ⟨⟨by omega, by omega⟩, ⟨by omega, by omega⟩⟩, ⟨by omega, by omega⟩⟩, ((((HC.out.setNew (b := w.heap.size + 1) (by omega) 0 (.int .i64 ea)).setNew (b := w.heap.size + 1) (by omega) 1 (.int .i64 x4)).setNew (b := w.heap.size + 1) (by omega) 2 (.int .i64 eb)).setNew (b := w.heap.size + 1) (by omega) 3 (.int .i64 x9)).mono (by omega), (((((HWw.out.trans HW.out).setNew (b := w.heap.size + 1) (by omega) 0 (.int .i64 ea)).setNew (b := w.heap.size + 1) (by omega) 1 (.int .i64 x4)).setNew (b := w.heap.size + 1) (by omega) 2 (.int .i64 eb)).setNew (b := w.heap.size + 1) (by omega) 3 (.int .i64 x9))⟩
set_option maxRecDepth 100000 in
set_option maxHeartbeats 4000000 in
theorem spec_equal (w0 : World) (g : Nat) (n P Q G : Int) (w : World) (h : Cur w0 w g n) (hb : Below w0.heap.size w0 w) (hn : n ≤ 500000000000000) (hgr : GrB ⟨P, Q, G⟩) :
    Calls Try.prog 58 #[.pointer (some ⟨g, 0, none⟩), .agg #[.int .i64 P, .int .i64 Q, .int .i64 G]] w fun e w' => (∃ (xr01 : Int) (xr02 : Int) (xr03 : Int) (xr04 : Int) (xr1 : Int), e = .returned (.tuple #[.agg #[.int .i64 xr01, .int .i64 xr02, .int .i64 xr03, .int .i64 xr04], .int .i64 xr1]) ∧ ((-10 ≤ xr01 ∧ xr01 ≤ 2000000010) ∧ (-10 ≤ xr02 ∧ xr02 ≤ 2000000010)) ∧ ((-10 ≤ xr03 ∧ xr03 ≤ 2000000010) ∧ (-10 ≤ xr04 ∧ xr04 ≤ 2000000010)) ∧ (-10 ≤ xr1 ∧ xr1 ≤ 2000000010)) ∧ Cur w0 w' g (n + 60000) ∧ Within g (g + 1) w w' := by
  by_cases hp3 : P < 3
  · exact spec_equalA w0 g n P Q G w h hb hn hgr hp3
  · by_cases hq1 : Q < 1
    · exact spec_equalB w0 g n P Q G w h hb hn hgr hp3 hq1
    · exact spec_equalC w0 g n P Q G w h hb hn hgr hp3 hq1
end Go.Proofs.Ytacpnphfopmofaa
