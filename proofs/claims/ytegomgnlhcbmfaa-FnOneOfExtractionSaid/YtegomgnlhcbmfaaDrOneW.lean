/- Draws: statements of equal logarithms, lists of them (printed by gen_dr1.py). -/
import Derived.Test.YtegomgnlhcbmfaaPow2W
import Derived.Test.YtegomgnlhcbmfaaKEqualLogW
import Derived.Deep.Cut
namespace Go.Proofs.Ytegomgnlhcbmfaa
open Go.RowKit
set_option linter.unusedSimpArgs false
set_option linter.unusedVariables false

theorem FrR.litE {δ : Type} {e : TypeId} {R : RowK δ} (w : World) (css : List (List Value)) {ds : List δ} {cs : Array Value} {n : Nat} (hcs : cs = css.flatten.toArray) (hl : css.length = ds.length) (hn : n = ds.length) (hm : n ≤ maxLen) (hsz : cs.size = n * R.width)
    (hel : ∀ i (h1 : i < css.length) (h2 : i < ds.length), R.rd w css[i] ds[i]) : FrR e R w (w.alloc (.cells cs e)) w.heap.size (.slice (some ⟨w.heap.size, 0, none⟩) n n) ds := by
  have hO := World.ownsRow_lit (e := e) (size := R.width) w cs n (Nat.le_refl _) hm hsz
  subst hcs
  rw [hn] at hO ⊢
  exact ⟨css, hl, by simpa using hO, hel⟩
def SmallE (d : EqualLogD) : Prop := (I64 d.g1 ∧ I64 d.y1) ∧ (I64 d.g2 ∧ I64 d.y2)
theorem rowE {w : World} {c : EqualLogD} (h : SmallE c) : rEqualLog.rd w [.int .i64 c.g1, .int .i64 c.y1, .int .i64 c.g2, .int .i64 c.y2] c := by
  obtain ⟨us, e, hr⟩ := (rdEqualLog (w := w)).2 ⟨rfl, h.1.1, h.1.2, h.2.1, h.2.2⟩
  obtain rfl : us = [.int .i64 c.g1, .int .i64 c.y1, .int .i64 c.g2, .int .i64 c.y2] := by have h := Value.agg.inj e; simpa using (congrArg Array.toList h).symm
  exact hr
theorem RdE.lit1 (w : World) {c : EqualLogD} (h : SmallE c) :
    RdR rEqualLog (w.alloc (.cells #[.int .i64 c.g1, .int .i64 c.y1, .int .i64 c.g2, .int .i64 c.y2] 31)) (.slice (some ⟨w.heap.size, 0, none⟩) 1 1) [c] := by
  refine (FrR.litE (e := 31) (R := rEqualLog) (ds := [c]) (n := 1) w [[.int .i64 c.g1, .int .i64 c.y1, .int .i64 c.g2, .int .i64 c.y2]] rfl rfl rfl (by unfold maxLen; omega) rfl (fun i h1 h2 => ?_)).rd ((Below.refl _ _).alloc (Nat.le_refl _) _)
  cases i with
  | zero => exact rowE h
  | succ i => simp at h2
theorem infoE : ∃ i, Try.prog.info? 31 = some i ∧ i.zero = some (.agg #[.int .i64 0, .int .i64 0, .int .i64 0, .int .i64 0]) ∧ i.size = 4 ∧ i.bytes ≤ 1000 := by
  have h : (Try.prog.info? 31).map (fun i => (i.zero, i.size, decide (i.bytes ≤ 1000))) = some (some (.agg #[.int .i64 0, .int .i64 0, .int .i64 0, .int .i64 0]), 4, true) := by kernel_rfl
  obtain ⟨i, hi, hz⟩ := Option.map_eq_some_iff.1 h
  simp only [Prod.mk.injEq] at hz
  exact ⟨i, hi, hz.1, hz.2.1, of_decide_eq_true hz.2.2⟩
/-- a row of statements of the call's own -/
def OwnE (w : World) (B : Nat) (v : Value) (l : List EqualLogD) : Prop := FrR 31 rEqualLog w w B v l
theorem rdE_any {w1 w2 : World} {vs : List Value} {d : EqualLogD} (h : rEqualLog.rd w1 vs d) : rEqualLog.rd w2 vs d := by
  obtain ⟨e, j1, j2, j3, j4⟩ := (rdEqualLog (w := w1) (v := .agg vs.toArray) (d := d)).1 ⟨vs, rfl, h⟩
  obtain rfl : vs = [.int .i64 d.g1, .int .i64 d.y1, .int .i64 d.g2, .int .i64 d.y2] := by have h := Value.agg.inj e; simpa using congrArg Array.toList h
  exact rowE ⟨⟨j1, j2⟩, ⟨j3, j4⟩⟩
theorem FrR.anyE {w1 w2 w : World} {B : Nat} {v : Value} {l : List EqualLogD} (h : FrR 31 rEqualLog w1 w B v l) : FrR 31 rEqualLog w2 w B v l := by
  obtain ⟨css, h1, h2, h3⟩ := h
  exact ⟨css, h1, h2, fun i k1 k2 => rdE_any (h3 i k1 k2)⟩
theorem OwnE.nil (w : World) (B : Nat) : OwnE w B (.slice none 0 0) [] := FrR.nil _ _ _ _ _
theorem OwnE.below {w w' : World} {B : Nat} {v : Value} {l : List EqualLogD} (h : OwnE w B v l) (hb : Below w.heap.size w w') : OwnE w' B v l := (FrR.below h hb).anyE
theorem OwnE.rd {w : World} {B : Nat} {v : Value} {l : List EqualLogD} (h : OwnE w B v l) : RdR rEqualLog w v l := FrR.rd h (Below.refl _ _)
theorem OwnE.frame {w w' : World} {B : Nat} {v : Value} {l : List EqualLogD} (h : OwnE w B v l) (hf : ∀ k, B ≤ k → k < w.heap.size → w'.heap[k]? = w.heap[k]?) : OwnE w' B v l :=
  (FrR.frame h fun g hg => hf g (FrR.lt h g hg).1 (FrR.lt h g hg).2).anyE
theorem OwnE.within {lo hi B : Nat} {w w' : World} {v : Value} {l : List EqualLogD} (h : OwnE w B v l) (hw : Within lo hi w w') (hd : hi ≤ B) : OwnE w' B v l := h.frame fun k hk hlt => hw.block k hlt (.inr (by omega))
theorem Since.of_ownE {B B' : Nat} {w : World} {v : Value} {l : List EqualLogD} (h : OwnE w B v l) (hB : B' ≤ B) : Since B' w (fun u => RdR rEqualLog u v l) := fun u hs hb => (h.frame fun k hk hlt => hb k (by omega) hlt).rd
theorem OwnE.shape {w : World} {B : Nat} {v : Value} {l : List EqualLogD} (h : OwnE w B v l) : ∃ a c, v = .slice a l.length c := by
  obtain ⟨a, n, c, rfl⟩ := h.rd.shape
  have := h.rd.len
  subst this
  exact ⟨a, c, rfl⟩
/-- one statement more, of a literal slice -/
theorem wpList_append_E1 {w : World} {B : Nat} {v : Value} {l : List EqualLogD} {d : EqualLogD} {ops : Array Oper} {rest : List Oper} {o : Oper} {ac : Act} {Q : Exit → Act → World → Prop} (hgd : o.guard = none) (s y : Operand)
    (ho : o.op = .call { callee := .builtin .append, args := #[s, y], argTypes := #[42, 42] })
    {b : Nat} (hown : OwnE w B v l) (hs : ac.eval s = v) (hy : ac.eval y = .slice (some ⟨b, 0, none⟩) 1 1) (hbx : BoxN w b 31 [.int .i64 d.g1, .int .i64 d.y1, .int .i64 d.g2, .int .i64 d.y2]) (hd : SmallE d) (hB : B ≤ w.heap.size) (hlen : l.length ≤ 1000000)
    (hK : ∀ v' w', OwnE w' B v' (l ++ [d]) → Below B w w' → wpList Try.prog ops Q rest (ac.put o.dst v') w') : wpList Try.prog ops Q (o :: rest) ac w := by
  obtain ⟨i, h1, h2, h3, h4⟩ := infoE
  refine wpList_append_Fr (e := 31) (R := rEqualLog) (w0 := w) (es := [d]) 42 i _ Try.underlying42 h1 h2 h3 h4 rfl (by decide) hgd s y ho hown ⟨b, 0, none⟩ 1 1 [[.int .i64 d.g1, .int .i64 d.y1, .int .i64 d.g2, .int .i64 d.y2]] hs hy rfl rfl ?_ ?_ hB (by simp; omega) (fun v' w' h hb => hK v' w' h.anyE hb)
  · intro j u hu
    have e : ((⟨b, 0, none⟩ : Addr).add j) = ⟨b, j, none⟩ := by rw [Addr.add_lit, Nat.zero_add]
    rw [e]
    simp only [List.flatten_cons, List.flatten_nil, List.append_nil] at hu
    exact hbx.cell (i := j) hu
  · intro i h1 h2
    cases i with
    | zero => exact rowE hd
    | succ i => simp at h2
set_option maxRecDepth 100000 in
set_option maxHeartbeats 4000000 in
theorem spec_equalA (w0 : World) (g : Nat) (n P Q G : Int) (w : World) (h : Cur w0 w g n) (hb : Below w0.heap.size w0 w) (hn : n ≤ 500000000000000) (hgr : GrB ⟨P, Q, G⟩) (hp3 : P < 3) :
    Calls Try.prog 81 #[.pointer (some ⟨g, 0, none⟩), .agg #[.int .i64 P, .int .i64 Q, .int .i64 G]] w fun e w' => (∃ (xr01 : Int) (xr02 : Int) (xr03 : Int) (xr04 : Int) (xr1 : Int), e = .returned (.tuple #[.agg #[.int .i64 xr01, .int .i64 xr02, .int .i64 xr03, .int .i64 xr04], .int .i64 xr1]) ∧ ((-10 ≤ xr01 ∧ xr01 ≤ 2000000010) ∧ (-10 ≤ xr02 ∧ xr02 ≤ 2000000010)) ∧ ((-10 ≤ xr03 ∧ xr03 ≤ 2000000010) ∧ (-10 ≤ xr04 ∧ xr04 ≤ 2000000010)) ∧ (-10 ≤ xr1 ∧ xr1 ≤ 2000000010)) ∧ Cur w0 w' g (n + 60000) ∧ Within g (g + 1) w w' := by
  have HGR := Lib.hid hgr
  have HBB := Lib.hid hb
  have hge := h.ge
  have hgw := h.lt
  clear hgr hb
  obtain ⟨W, hW⟩ : ∃ W, W = (w.alloc (.cells #[.int .i64 P, .int .i64 Q, .int .i64 G] 24)).alloc (.cells #[.int .i64 0, .int .i64 0, .int .i64 0, .int .i64 0] 31) := ⟨_, rfl⟩
  have hbW : Below w.heap.size w W := by rw [hW]; (repeat (first | exact Below.refl _ _ | assumption | refine Below.drew ?_ | refine Below.alloc ?_ (by first | (simp; done) | (simp; omega)) _ | refine Below.setCell ?_ (by first | (simp; done) | (simp; omega)) _))
  have HZg : Hid (BoxN W w.heap.size 24 [.int .i64 P, .int .i64 Q, .int .i64 G]) := by unfold Hid; rw [hW]; have h := ((BoxN.new w [.int .i64 P, .int .i64 Q, .int .i64 G] 24).alloc (.cells #[.int .i64 0, .int .i64 0, .int .i64 0, .int .i64 0] 31)); simpa using h
  have HX0 : Hid (BoxN W (w.heap.size + 1) 31 [.int .i64 0, .int .i64 0, .int .i64 0, .int .i64 0]) := by unfold Hid; rw [hW]; have h := (BoxN.new (w.alloc (.cells #[.int .i64 P, .int .i64 Q, .int .i64 G] 24)) [.int .i64 0, .int .i64 0, .int .i64 0, .int .i64 0] 31); simpa using h
  have hsW : W.heap.size = w.heap.size + 2 := by rw [hW]; simp
  have HC := Lib.hid (h.keep hbW)
  have HWw := Lib.hid (Within.of_below hbW : Within g (g + 1) w W)
  have HBW : Hid (Below w0.heap.size w0 W) := HBB.out.trans (hbW.mono HBB.out.size)
  clear h
  have hd3 : decide (P < 3) = true := decide_eq_true hp3
  have t0 := HX0.out.cell (i := 0) rfl
  have t1 := HX0.out.cell (i := 1) rfl
  have t2 := HX0.out.cell (i := 2) rfl
  have t3 := HX0.out.cell (i := 3) rfl
  go_enter Try.func81, Try.ntmps81
  go_wp2_with fail
  (try rw [← hW])
  refine bodyPost_ret (v := .tuple #[.agg #[.int .i64 0, .int .i64 0, .int .i64 0, .int .i64 0], .int .i64 0]) (by simp [results, Try.results81, go_sem, t0, t1, t2, t3]) rfl ⟨⟨0, 0, 0, 0, 0, rfl, ⟨⟨by omega, by omega⟩, ⟨by omega, by omega⟩⟩, ⟨⟨by omega, by omega⟩, ⟨by omega, by omega⟩⟩, ⟨by omega, by omega⟩⟩, HC.out.mono (by omega), HWw.out⟩
set_option maxRecDepth 100000 in
set_option maxHeartbeats 4000000 in
theorem spec_equalB (w0 : World) (g : Nat) (n P Q G : Int) (w : World) (h : Cur w0 w g n) (hb : Below w0.heap.size w0 w) (hn : n ≤ 500000000000000) (hgr : GrB ⟨P, Q, G⟩) (hp3 : ¬ P < 3) (hq1 : Q < 1) :
    Calls Try.prog 81 #[.pointer (some ⟨g, 0, none⟩), .agg #[.int .i64 P, .int .i64 Q, .int .i64 G]] w fun e w' => (∃ (xr01 : Int) (xr02 : Int) (xr03 : Int) (xr04 : Int) (xr1 : Int), e = .returned (.tuple #[.agg #[.int .i64 xr01, .int .i64 xr02, .int .i64 xr03, .int .i64 xr04], .int .i64 xr1]) ∧ ((-10 ≤ xr01 ∧ xr01 ≤ 2000000010) ∧ (-10 ≤ xr02 ∧ xr02 ≤ 2000000010)) ∧ ((-10 ≤ xr03 ∧ xr03 ≤ 2000000010) ∧ (-10 ≤ xr04 ∧ xr04 ≤ 2000000010)) ∧ (-10 ≤ xr1 ∧ xr1 ≤ 2000000010)) ∧ Cur w0 w' g (n + 60000) ∧ Within g (g + 1) w w' := by
  have HGR := Lib.hid hgr
  have HBB := Lib.hid hb
  have hge := h.ge
  have hgw := h.lt
  clear hgr hb
  obtain ⟨W, hW⟩ : ∃ W, W = (w.alloc (.cells #[.int .i64 P, .int .i64 Q, .int .i64 G] 24)).alloc (.cells #[.int .i64 0, .int .i64 0, .int .i64 0, .int .i64 0] 31) := ⟨_, rfl⟩
  have hbW : Below w.heap.size w W := by rw [hW]; (repeat (first | exact Below.refl _ _ | assumption | refine Below.drew ?_ | refine Below.alloc ?_ (by first | (simp; done) | (simp; omega)) _ | refine Below.setCell ?_ (by first | (simp; done) | (simp; omega)) _))
  have HZg : Hid (BoxN W w.heap.size 24 [.int .i64 P, .int .i64 Q, .int .i64 G]) := by unfold Hid; rw [hW]; have h := ((BoxN.new w [.int .i64 P, .int .i64 Q, .int .i64 G] 24).alloc (.cells #[.int .i64 0, .int .i64 0, .int .i64 0, .int .i64 0] 31)); simpa using h
  have HX0 : Hid (BoxN W (w.heap.size + 1) 31 [.int .i64 0, .int .i64 0, .int .i64 0, .int .i64 0]) := by unfold Hid; rw [hW]; have h := (BoxN.new (w.alloc (.cells #[.int .i64 P, .int .i64 Q, .int .i64 G] 24)) [.int .i64 0, .int .i64 0, .int .i64 0, .int .i64 0] 31); simpa using h
  have hsW : W.heap.size = w.heap.size + 2 := by rw [hW]; simp
  have HC := Lib.hid (h.keep hbW)
  have HWw := Lib.hid (Within.of_below hbW : Within g (g + 1) w W)
  have HBW : Hid (Below w0.heap.size w0 W) := HBB.out.trans (hbW.mono HBB.out.size)
  clear h
  have hd3 : decide (P < 3) = false := decide_eq_false hp3
  have hd1 : decide (Q < 1) = true := decide_eq_true hq1
  have t0 := HX0.out.cell (i := 0) rfl
  have t1 := HX0.out.cell (i := 1) rfl
  have t2 := HX0.out.cell (i := 2) rfl
  have t3 := HX0.out.cell (i := 3) rfl
  go_enter Try.func81, Try.ntmps81
  go_wp2_with fail
  (try rw [← hW])
  refine bodyPost_ret (v := .tuple #[.agg #[.int .i64 0, .int .i64 0, .int .i64 0, .int .i64 0], .int .i64 0]) (by simp [results, Try.results81, go_sem, t0, t1, t2, t3]) rfl ⟨⟨0, 0, 0, 0, 0, rfl, ⟨⟨by omega, by omega⟩, ⟨by omega, by omega⟩⟩, ⟨⟨by omega, by omega⟩, ⟨by omega, by omega⟩⟩, ⟨by omega, by omega⟩⟩, HC.out.mono (by omega), HWw.out⟩
set_option maxRecDepth 100000 in
set_option maxHeartbeats 4000000 in
theorem spec_equalC (w0 : World) (g : Nat) (n P Q G : Int) (w : World) (h : Cur w0 w g n) (hb : Below w0.heap.size w0 w) (hn : n ≤ 500000000000000) (hgr : GrB ⟨P, Q, G⟩) (hp3 : ¬ P < 3) (hq1 : ¬ Q < 1) :
    Calls Try.prog 81 #[.pointer (some ⟨g, 0, none⟩), .agg #[.int .i64 P, .int .i64 Q, .int .i64 G]] w fun e w' => (∃ (xr01 : Int) (xr02 : Int) (xr03 : Int) (xr04 : Int) (xr1 : Int), e = .returned (.tuple #[.agg #[.int .i64 xr01, .int .i64 xr02, .int .i64 xr03, .int .i64 xr04], .int .i64 xr1]) ∧ ((-10 ≤ xr01 ∧ xr01 ≤ 2000000010) ∧ (-10 ≤ xr02 ∧ xr02 ≤ 2000000010)) ∧ ((-10 ≤ xr03 ∧ xr03 ≤ 2000000010) ∧ (-10 ≤ xr04 ∧ xr04 ≤ 2000000010)) ∧ (-10 ≤ xr1 ∧ xr1 ≤ 2000000010)) ∧ Cur w0 w' g (n + 60000) ∧ Within g (g + 1) w w' := by
  have HGR := Lib.hid hgr
  have HBB := Lib.hid hb
  have hge := h.ge
  have hgw := h.lt
  clear hgr hb
  obtain ⟨W, hW⟩ : ∃ W, W = (w.alloc (.cells #[.int .i64 P, .int .i64 Q, .int .i64 G] 24)).alloc (.cells #[.int .i64 0, .int .i64 0, .int .i64 0, .int .i64 0] 31) := ⟨_, rfl⟩
  have hbW : Below w.heap.size w W := by rw [hW]; (repeat (first | exact Below.refl _ _ | assumption | refine Below.drew ?_ | refine Below.alloc ?_ (by first | (simp; done) | (simp; omega)) _ | refine Below.setCell ?_ (by first | (simp; done) | (simp; omega)) _))
  have HZg : Hid (BoxN W w.heap.size 24 [.int .i64 P, .int .i64 Q, .int .i64 G]) := by unfold Hid; rw [hW]; have h := ((BoxN.new w [.int .i64 P, .int .i64 Q, .int .i64 G] 24).alloc (.cells #[.int .i64 0, .int .i64 0, .int .i64 0, .int .i64 0] 31)); simpa using h
  have HX0 : Hid (BoxN W (w.heap.size + 1) 31 [.int .i64 0, .int .i64 0, .int .i64 0, .int .i64 0]) := by unfold Hid; rw [hW]; have h := (BoxN.new (w.alloc (.cells #[.int .i64 P, .int .i64 Q, .int .i64 G] 24)) [.int .i64 0, .int .i64 0, .int .i64 0, .int .i64 0] 31); simpa using h
  have hsW : W.heap.size = w.heap.size + 2 := by rw [hW]; simp
  have HC := Lib.hid (h.keep hbW)
  have HWw := Lib.hid (Within.of_below hbW : Within g (g + 1) w W)
  have HBW : Hid (Below w0.heap.size w0 W) := HBB.out.trans (hbW.mono HBB.out.size)
  clear h
  have hd3 : decide (P < 3) = false := decide_eq_false hp3
  have hd1 : decide (Q < 1) = false := decide_eq_false hq1
  go_enter Try.func81, Try.ntmps81
  go_wp2_with fail
  rw [← hW]
  have HW := Lib.hid (Within.refl g (g + 1) W)
  clear hW hbW
  have hP2 : P ≤ 2000000010 := HGR.out.1.2
  have hQ2 : Q ≤ 2000000010 := HGR.out.2.1.2
  have z_0_0 := HZg.out.cell (i := 0) rfl
  have z_0_1 := HZg.out.cell (i := 1) rfl
  have z_0_2 := HZg.out.cell (i := 2) rfl
  have z_1_0 := HX0.out.cell (i := 0) rfl
  have z_1_1 := HX0.out.cell (i := 1) rfl
  have z_1_2 := HX0.out.cell (i := 2) rfl
  have z_1_3 := HX0.out.cell (i := 3) rfl
  try (go_wp2_with fail)
  clear z_0_0 z_0_1 z_0_2 z_1_0 z_1_1 z_1_2 z_1_3
  refine (spec_expo w0 g _ P Q G _ HC.out (HW.out.belowOf HBW.out hge) (by omega) HGR.out).mono ?_
  rintro e u1 ⟨⟨x1, rfl, x1l, x1u⟩, hc, hw⟩
  have hsz1 := hw.size
  replace HZg := Lib.hid (HZg.out.kept hw (.inr (by omega)))
  replace HX0 := Lib.hid (HX0.out.kept hw (.inr (by omega)))
  replace HW := Lib.hid (HW.out.trans hw)
  replace HC := Lib.hid hc
  clear hc hw
  have hgb : g < u1.heap.size := HC.out.lt
  have z_0_0 := HZg.out.cell (i := 0) rfl
  have z_0_1 := HZg.out.cell (i := 1) rfl
  have z_0_2 := HZg.out.cell (i := 2) rfl
  have z_1_0 := HX0.out.cell (i := 0) rfl
  have z_1_1 := HX0.out.cell (i := 1) rfl
  have z_1_2 := HX0.out.cell (i := 2) rfl
  have z_1_3 := HX0.out.cell (i := 3) rfl
  try (go_wp2_with fail)
  refine wp_region_noPanic ?_
  refine wp_region_Q (Within g (g + 1)) (DrawS w0 u1 g _ 5000 (fun w' => w'.cell? ⟨w.heap.size, 0, none⟩ = some (.int .i64 P) ∧ w'.cell? ⟨w.heap.size, 1, none⟩ = some (.int .i64 Q) ∧ w'.cell? ⟨w.heap.size, 2, none⟩ = some (.int .i64 G))) 11 [(0, []), (1, []), (2, [1, 0]), (3, []), (4, []), (5, [1, 0]), (6, [3, 0]), (7, [])] [8] (by kernel_rfl) (by kernel_rfl) (by kernel_rfl) rfl (fun _ _ _ _ h => h) (DrawS.good _ _ _ _ _ _) ⟨(Within.refl _ _ _).drew, by simpa using HC.out.keep (Below.refl _ _).drew, ⟨box_at z_0_0 (Below.refl _ _).drew, box_at z_0_1 (Below.refl _ _).drew, box_at z_0_2 (Below.refl _ _).drew⟩⟩ ?_
  simp only [pickP, pickN, List.getElem?_cons_zero, List.getElem?_cons_succ]
  iterate 2 (refine' chainQ_read (DrawS.good _ _ _ _ _ _) _ rfl rfl (fun m w' hm' hS' => ?_) ?_; rotate_left; · (simp only [lookP, allP, Act.put, List.getElem?_cons_zero, List.getElem?_cons_succ, List.setIfInBounds_toArray, List.set_cons_zero, List.set_cons_succ]; (try dsimp only [DrawS] at hS'); go_simp; (try with_reducible rfl)))
  -- 2: call { callee := value (func 83), args := #[t20, t21], argTypes := #[104, 24] }
  refine chainQ_do (d := (some 22)) (fun v u => ∃ (xq2 : Int), v = (.int .i64 xq2) ∧ (0 ≤ xq2 ∧ xq2 ≤ 2000000010)) (fun v w1 w2 hw h => h) rfl rfl (fun m w' hm' hS' => ?_) ?_
  · simp only [lookP, allP, Act.put, List.getElem?_cons_zero, List.getElem?_cons_succ, List.setIfInBounds_toArray, List.set_cons_zero, List.set_cons_succ]
    intro K hK
    replace hm' : m < 8 := hm'
    go_simp
    go_at_call 83
    refine (spec_element w0 g _ P Q G _ hS'.2.1 (hS'.1.belowOf (HW.out.belowOf HBW.out hge) hge) (by omega) HGR.out).mono ?_
    rintro e u ⟨⟨xq2, rfl, xq2l, xq2u⟩, hc, hw⟩
    exact hK.out _ _ hw ⟨hS'.1.trans hw, hc.mono (by omega), ⟨within_at (hS'.1.trans hw) z_0_0 (.inr (by omega)), within_at (hS'.1.trans hw) z_0_1 (.inr (by omega)), within_at (hS'.1.trans hw) z_0_2 (.inr (by omega))⟩⟩ ⟨xq2, rfl, ⟨xq2l, xq2u⟩⟩
  iterate 2 (refine' chainQ_read (DrawS.good _ _ _ _ _ _) _ rfl rfl (fun m w' hm' hS' => ?_) ?_; rotate_left; · (simp only [lookP, allP, Act.put, List.getElem?_cons_zero, List.getElem?_cons_succ, List.setIfInBounds_toArray, List.set_cons_zero, List.set_cons_succ]; (try dsimp only [DrawS] at hS'); go_simp; (try with_reducible rfl)))
  -- 5: call { callee := value (func 83), args := #[t23, t24], argTypes := #[104, 24] }
  refine chainQ_do (d := (some 25)) (fun v u => ∃ (xq5 : Int), v = (.int .i64 xq5) ∧ (0 ≤ xq5 ∧ xq5 ≤ 2000000010)) (fun v w1 w2 hw h => h) rfl rfl (fun m w' hm' hS' => ?_) ?_
  · simp only [lookP, allP, Act.put, List.getElem?_cons_zero, List.getElem?_cons_succ, List.setIfInBounds_toArray, List.set_cons_zero, List.set_cons_succ]
    intro K hK
    replace hm' : m < 8 := hm'
    go_simp
    go_at_call 83
    refine (spec_element w0 g _ P Q G _ hS'.2.1 (hS'.1.belowOf (HW.out.belowOf HBW.out hge) hge) (by omega) HGR.out).mono ?_
    rintro e u ⟨⟨xq5, rfl, xq5l, xq5u⟩, hc, hw⟩
    exact hK.out _ _ hw ⟨hS'.1.trans hw, hc.mono (by omega), ⟨within_at (hS'.1.trans hw) z_0_0 (.inr (by omega)), within_at (hS'.1.trans hw) z_0_1 (.inr (by omega)), within_at (hS'.1.trans hw) z_0_2 (.inr (by omega))⟩⟩ ⟨xq5, rfl, ⟨xq5l, xq5u⟩⟩
  -- 6: build 31 #[(0, t22), (2, t25)]
  refine chainQ_have (DrawS.good _ _ _ _ _ _) (d := (some 26)) (fun v u => ∃ a b : Int, v = .agg #[.int .i64 a, .int .i64 0, .int .i64 b, .int .i64 0] ∧ (0 ≤ a ∧ a ≤ 2000000010) ∧ (0 ≤ b ∧ b ≤ 2000000010)) (fun v w1 w2 hw h => h) rfl rfl (fun m w' hm' hS' => ?_) ?_
  · simp only [lookP, allP, Act.put, List.getElem?_cons_zero, List.getElem?_cons_succ, List.setIfInBounds_toArray, List.set_cons_zero, List.set_cons_succ]
    intro x2 hx2
    intro x5 hx5
    obtain ⟨a, rfl, ha⟩ := hx2
    obtain ⟨b, rfl, hb⟩ := hx5
    refine ⟨.agg #[.int .i64 a, .int .i64 0, .int .i64 b, .int .i64 0], ?_, a, b, rfl, ha, hb⟩
    go_simp
  -- 7: alloc 31
  refine chainQ_do (d := (some 7)) (fun v u => ∃ bz : Nat, v = .pointer (some ⟨bz, 0, none⟩) ∧ u1.heap.size ≤ bz ∧ BoxN u bz 31 [.int .i64 0, .int .i64 0, .int .i64 0, .int .i64 0]) (fun v w1 w2 hw h => by obtain ⟨bz, e, h1, h2⟩ := h; exact ⟨bz, e, h1, h2.kept hw (.inr (by omega))⟩) rfl rfl (fun m w' hm' hS' => ?_) ?_
  · simp only [lookP, allP, Act.put, List.getElem?_cons_zero, List.getElem?_cons_succ, List.setIfInBounds_toArray, List.set_cons_zero, List.set_cons_succ]
    intro K hK
    replace hm' : m < 8 := hm'
    go_simp
    have hbn := (Below.refl w'.heap.size w').alloc (Nat.le_refl _) (.cells #[.int .i64 0, .int .i64 0, .int .i64 0, .int .i64 0] 31)
    have hw := (Within.of_below hbn : Within g (g + 1) _ _)
    have hsz0 := hS'.1.size
    refine hK.out _ _ hw ⟨hS'.1.trans hw, (hS'.2.1.keep hbn).mono (by omega), ⟨within_at (hS'.1.trans hw) z_0_0 (.inr (by omega)), within_at (hS'.1.trans hw) z_0_1 (.inr (by omega)), within_at (hS'.1.trans hw) z_0_2 (.inr (by omega))⟩⟩ ?_
    exact ⟨w'.heap.size, rfl, by omega, BoxN.new w' [.int .i64 0, .int .i64 0, .int .i64 0, .int .i64 0] _⟩
  refine chainQ_nil (fun u2 hS' => ?_)
  simp only [allP, Act.put, List.setIfInBounds_toArray, List.set_cons_zero, List.set_cons_succ]
  intro x7 hx7
  intro x6 hx6
  intro x5 hx5
  intro x2 hx2
  replace hS' : DrawS w0 u1 g _ 5000 _ 8 u2 := hS'
  obtain ⟨hw, hc, hC⟩ := hS'
  obtain ⟨xq2, rfl, xq2l, xq2u⟩ := hx2
  obtain ⟨xq5, rfl, xq5l, xq5u⟩ := hx5
  have hsz2 := hw.size
  replace HZg := Lib.hid (HZg.out.kept hw (.inr (by omega)))
  replace HX0 := Lib.hid (HX0.out.kept hw (.inr (by omega)))
  replace HW := Lib.hid (HW.out.trans hw)
  replace HC := Lib.hid hc
  clear hc hw hC
  clear z_0_0 z_0_1 z_0_2 z_1_0 z_1_1 z_1_2 z_1_3
  obtain ⟨bz, rfl, hbz, hz⟩ := hx7
  obtain ⟨ea, eb, rfl, ⟨eal, eau⟩, ⟨ebl, ebu⟩⟩ := hx6
  have HZe := Lib.hid hz
  clear hz
  have z_0_0 := HZg.out.cell (i := 0) rfl
  have z_0_1 := HZg.out.cell (i := 1) rfl
  have z_0_2 := HZg.out.cell (i := 2) rfl
  have z_1_0 := HX0.out.cell (i := 0) rfl
  have z_1_1 := HX0.out.cell (i := 1) rfl
  have z_1_2 := HX0.out.cell (i := 2) rfl
  have z_1_3 := HX0.out.cell (i := 3) rfl
  have z_2_0 := HZe.out.cell (i := 0) rfl
  have z_2_1 := HZe.out.cell (i := 1) rfl
  have z_2_2 := HZe.out.cell (i := 2) rfl
  have z_2_3 := HZe.out.cell (i := 3) rfl
  have frm := fun j => HZe.out.frozen j
  have ltm := HZe.out.lt
  go_wp2_with fail
  refine NoPanic.normal ?_
  obtain ⟨Y3, hY⟩ : ∃ Y, Y = (((u2.setCell ⟨bz, 0, none⟩ (.int .i64 ea)).setCell ⟨bz, 1, none⟩ (.int .i64 0)).setCell ⟨bz, 2, none⟩ (.int .i64 eb)).setCell ⟨bz, 3, none⟩ (.int .i64 0) := ⟨_, rfl⟩
  have hYl : Within (bz) (bz + 1) u2 Y3 := by rw [hY]; exact (((((Within.refl (bz) (bz + 1) u2).setCell (b := bz) (by omega) (by omega) 0 (.int .i64 ea)).setCell (b := bz) (by omega) (by omega) 1 (.int .i64 0)).setCell (b := bz) (by omega) (by omega) 2 (.int .i64 eb)).setCell (b := bz) (by omega) (by omega) 3 (.int .i64 0))
  have hszY3 := hYl.size
  have NHZe : Hid (BoxN Y3 bz 31 [.int .i64 ea, .int .i64 0, .int .i64 eb, .int .i64 0]) := by unfold Hid; rw [hY]; exact ((((HZe.out.set 0 (.int .i64 ea)).set 1 (.int .i64 0)).set 2 (.int .i64 eb)).set 3 (.int .i64 0))
  have NC := Lib.hid ((((HC.out.setNew (b := bz) (by omega) 0 (.int .i64 ea)).setNew (b := bz) (by omega) 1 (.int .i64 0)).setNew (b := bz) (by omega) 2 (.int .i64 eb)).setNew (b := bz) (by omega) 3 (.int .i64 0))
  rw [← hY] at NC
  have NW := Lib.hid ((((HW.out.setNew (b := bz) (by omega) 0 (.int .i64 ea)).setNew (b := bz) (by omega) 1 (.int .i64 0)).setNew (b := bz) (by omega) 2 (.int .i64 eb)).setNew (b := bz) (by omega) 3 (.int .i64 0))
  rw [← hY] at NW
  replace HZg := Lib.hid (HZg.out.kept hYl (by omega))
  replace HX0 := Lib.hid (HX0.out.kept hYl (by omega))
  rw [← hY]
  clear hY hYl frm ltm HZe HC HW
  have HZe := NHZe
  have HC := NC
  have HW := NW
  clear NHZe NC NW
  clear z_0_0 z_0_1 z_0_2 z_1_0 z_1_1 z_1_2 z_1_3 z_2_0 z_2_1 z_2_2 z_2_3
  have z_0_0 := HZg.out.cell (i := 0) rfl
  have z_0_1 := HZg.out.cell (i := 1) rfl
  have z_0_2 := HZg.out.cell (i := 2) rfl
  have z_1_0 := HX0.out.cell (i := 0) rfl
  have z_1_1 := HX0.out.cell (i := 1) rfl
  have z_1_2 := HX0.out.cell (i := 2) rfl
  have z_1_3 := HX0.out.cell (i := 3) rfl
  have z_2_0 := HZe.out.cell (i := 0) rfl
  have z_2_1 := HZe.out.cell (i := 1) rfl
  have z_2_2 := HZe.out.cell (i := 2) rfl
  have z_2_3 := HZe.out.cell (i := 3) rfl
  try (go_wp2_with fail)
  clear z_0_0 z_0_1 z_0_2 z_1_0 z_1_1 z_1_2 z_1_3 z_2_0 z_2_1 z_2_2 z_2_3
  refine (spec_gExpW ⟨P, Q, G⟩ ea x1 _ ⟨by show (1 : Int) ≤ P; omega, by show P ≤ 3000000000; omega⟩ ⟨by show (1 : Int) ≤ Q; omega, by show Q ≤ 3000000000; omega⟩ ⟨by omega, by omega⟩ ⟨by omega, by omega⟩).mono ?_
  rintro e u4 ⟨⟨x4, rfl, x4l, x4u⟩, hb⟩
  replace x4u : x4 ≤ 2000000010 := by have h : x4 < P := x4u; omega
  have hsz4 := hb.size
  replace HZg := Lib.hid (HZg.out.below hb)
  replace HX0 := Lib.hid (HX0.out.below hb)
  replace HZe := Lib.hid (HZe.out.below hb)
  replace HW := Lib.hid (HW.out.trans (Within.of_below hb))
  replace HC := Lib.hid (HC.out.keep hb)
  clear hb
  have z_0_0 := HZg.out.cell (i := 0) rfl
  have z_0_1 := HZg.out.cell (i := 1) rfl
  have z_0_2 := HZg.out.cell (i := 2) rfl
  have z_1_0 := HX0.out.cell (i := 0) rfl
  have z_1_1 := HX0.out.cell (i := 1) rfl
  have z_1_2 := HX0.out.cell (i := 2) rfl
  have z_1_3 := HX0.out.cell (i := 3) rfl
  have z_2_0 := HZe.out.cell (i := 0) rfl
  have z_2_1 := HZe.out.cell (i := 1) rfl
  have z_2_2 := HZe.out.cell (i := 2) rfl
  have z_2_3 := HZe.out.cell (i := 3) rfl
  have frm := fun j => HZe.out.frozen j
  have ltm := HZe.out.lt
  go_wp2_with fail
  obtain ⟨Y5, hY⟩ : ∃ Y, Y = u4.setCell ⟨bz, 1, none⟩ (.int .i64 x4) := ⟨_, rfl⟩
  have hYl : Within (bz) (bz + 1) u4 Y5 := by rw [hY]; exact ((Within.refl (bz) (bz + 1) u4).setCell (b := bz) (by omega) (by omega) 1 (.int .i64 x4))
  have hszY5 := hYl.size
  have NHZe : Hid (BoxN Y5 bz 31 [.int .i64 ea, .int .i64 x4, .int .i64 eb, .int .i64 0]) := by unfold Hid; rw [hY]; exact (HZe.out.set 1 (.int .i64 x4))
  have NC := Lib.hid (HC.out.setNew (b := bz) (by omega) 1 (.int .i64 x4))
  rw [← hY] at NC
  have NW := Lib.hid (HW.out.setNew (b := bz) (by omega) 1 (.int .i64 x4))
  rw [← hY] at NW
  replace HZg := Lib.hid (HZg.out.kept hYl (by omega))
  replace HX0 := Lib.hid (HX0.out.kept hYl (by omega))
  rw [← hY]
  clear hY hYl frm ltm HZe HC HW
  have HZe := NHZe
  have HC := NC
  have HW := NW
  clear NHZe NC NW
  clear z_0_0 z_0_1 z_0_2 z_1_0 z_1_1 z_1_2 z_1_3 z_2_0 z_2_1 z_2_2 z_2_3
  have z_0_0 := HZg.out.cell (i := 0) rfl
  have z_0_1 := HZg.out.cell (i := 1) rfl
  have z_0_2 := HZg.out.cell (i := 2) rfl
  have z_1_0 := HX0.out.cell (i := 0) rfl
  have z_1_1 := HX0.out.cell (i := 1) rfl
  have z_1_2 := HX0.out.cell (i := 2) rfl
  have z_1_3 := HX0.out.cell (i := 3) rfl
  have z_2_0 := HZe.out.cell (i := 0) rfl
  have z_2_1 := HZe.out.cell (i := 1) rfl
  have z_2_2 := HZe.out.cell (i := 2) rfl
  have z_2_3 := HZe.out.cell (i := 3) rfl
  try (go_wp2_with fail)
  clear z_0_0 z_0_1 z_0_2 z_1_0 z_1_1 z_1_2 z_1_3 z_2_0 z_2_1 z_2_2 z_2_3
  refine (spec_gExpW ⟨P, Q, G⟩ eb x1 _ ⟨by show (1 : Int) ≤ P; omega, by show P ≤ 3000000000; omega⟩ ⟨by show (1 : Int) ≤ Q; omega, by show Q ≤ 3000000000; omega⟩ ⟨by omega, by omega⟩ ⟨by omega, by omega⟩).mono ?_
  rintro e u6 ⟨⟨x6, rfl, x6l, x6u⟩, hb⟩
  replace x6u : x6 ≤ 2000000010 := by have h : x6 < P := x6u; omega
  have hsz6 := hb.size
  replace HZg := Lib.hid (HZg.out.below hb)
  replace HX0 := Lib.hid (HX0.out.below hb)
  replace HZe := Lib.hid (HZe.out.below hb)
  replace HW := Lib.hid (HW.out.trans (Within.of_below hb))
  replace HC := Lib.hid (HC.out.keep hb)
  clear hb
  have z_0_0 := HZg.out.cell (i := 0) rfl
  have z_0_1 := HZg.out.cell (i := 1) rfl
  have z_0_2 := HZg.out.cell (i := 2) rfl
  have z_1_0 := HX0.out.cell (i := 0) rfl
  have z_1_1 := HX0.out.cell (i := 1) rfl
  have z_1_2 := HX0.out.cell (i := 2) rfl
  have z_1_3 := HX0.out.cell (i := 3) rfl
  have z_2_0 := HZe.out.cell (i := 0) rfl
  have z_2_1 := HZe.out.cell (i := 1) rfl
  have z_2_2 := HZe.out.cell (i := 2) rfl
  have z_2_3 := HZe.out.cell (i := 3) rfl
  have frm := fun j => HZe.out.frozen j
  have ltm := HZe.out.lt
  go_wp2_with fail
  obtain ⟨Y7, hY⟩ : ∃ Y, Y = u6.setCell ⟨bz, 3, none⟩ (.int .i64 x6) := ⟨_, rfl⟩
  have hYl : Within (bz) (bz + 1) u6 Y7 := by rw [hY]; exact ((Within.refl (bz) (bz + 1) u6).setCell (b := bz) (by omega) (by omega) 3 (.int .i64 x6))
  have hszY7 := hYl.size
  have NHZe : Hid (BoxN Y7 bz 31 [.int .i64 ea, .int .i64 x4, .int .i64 eb, .int .i64 x6]) := by unfold Hid; rw [hY]; exact (HZe.out.set 3 (.int .i64 x6))
  have NC := Lib.hid (HC.out.setNew (b := bz) (by omega) 3 (.int .i64 x6))
  rw [← hY] at NC
  have NW := Lib.hid (HW.out.setNew (b := bz) (by omega) 3 (.int .i64 x6))
  rw [← hY] at NW
  replace HZg := Lib.hid (HZg.out.kept hYl (by omega))
  replace HX0 := Lib.hid (HX0.out.kept hYl (by omega))
  rw [← hY]
  clear hY hYl frm ltm HZe HC HW
  have HZe := NHZe
  have HC := NC
  have HW := NW
  clear NHZe NC NW
  clear z_0_0 z_0_1 z_0_2 z_1_0 z_1_1 z_1_2 z_1_3 z_2_0 z_2_1 z_2_2 z_2_3
  have z_0_0 := HZg.out.cell (i := 0) rfl
  have z_0_1 := HZg.out.cell (i := 1) rfl
  have z_0_2 := HZg.out.cell (i := 2) rfl
  have z_1_0 := HX0.out.cell (i := 0) rfl
  have z_1_1 := HX0.out.cell (i := 1) rfl
  have z_1_2 := HX0.out.cell (i := 2) rfl
  have z_1_3 := HX0.out.cell (i := 3) rfl
  have z_2_0 := HZe.out.cell (i := 0) rfl
  have z_2_1 := HZe.out.cell (i := 1) rfl
  have z_2_2 := HZe.out.cell (i := 2) rfl
  have z_2_3 := HZe.out.cell (i := 3) rfl
  try (go_wp2_with fail)
  clear z_0_0 z_0_1 z_0_2 z_1_0 z_1_1 z_1_2 z_1_3 z_2_0 z_2_1 z_2_2 z_2_3
  refine (spec_one w0 g _ 10 _ HC.out (HW.out.belowOf HBW.out hge) (by omega) ).mono ?_
  rintro e u8 ⟨⟨b8, rfl⟩, hc, hw⟩
  have hsz8 := hw.size
  replace HZg := Lib.hid (HZg.out.kept hw (.inr (by omega)))
  replace HX0 := Lib.hid (HX0.out.kept hw (.inr (by omega)))
  replace HZe := Lib.hid (HZe.out.kept hw (.inr (by omega)))
  replace HW := Lib.hid (HW.out.trans hw)
  replace HC := Lib.hid hc
  clear hc hw
  cases b8 with
  | false =>
    have z_0_0 := HZg.out.cell (i := 0) rfl
    have z_0_1 := HZg.out.cell (i := 1) rfl
    have z_0_2 := HZg.out.cell (i := 2) rfl
    have z_2_0 := HZe.out.cell (i := 0) rfl
    have z_2_1 := HZe.out.cell (i := 1) rfl
    have z_2_2 := HZe.out.cell (i := 2) rfl
    have z_2_3 := HZe.out.cell (i := 3) rfl
    have r_HX0_0 := HX0.out.cell (i := 0) rfl
    have r_HX0_1 := HX0.out.cell (i := 1) rfl
    have r_HX0_2 := HX0.out.cell (i := 2) rfl
    have r_HX0_3 := HX0.out.cell (i := 3) rfl
    have fr_HX0 := fun j => HX0.out.frozen j
    go_wp2_with fail
    have FHX0 := Lib.hid ((((HX0.out.set 0 (.int .i64 ea)).set 1 (.int .i64 x4)).set 2 (.int .i64 eb)).set 3 (.int .i64 x6))
    clear z_0_0 z_0_1 z_0_2 z_2_0 z_2_1 z_2_2 z_2_3 r_HX0_0 r_HX0_1 r_HX0_2 r_HX0_3 fr_HX0
    have t_HX0_0 := FHX0.out.cell (i := 0) rfl
    have t_HX0_1 := FHX0.out.cell (i := 1) rfl
    have t_HX0_2 := FHX0.out.cell (i := 2) rfl
    have t_HX0_3 := FHX0.out.cell (i := 3) rfl
    try (go_wp2_with fail)
    refine bodyPost_ret (v := .tuple #[.agg #[.int .i64 ea, .int .i64 x4, .int .i64 eb, .int .i64 x6], .int .i64 x1]) (by simp [results, Try.results81, go_sem, t_HX0_0, t_HX0_1, t_HX0_2, t_HX0_3]) rfl ⟨⟨_, _, _, _, _, rfl, ⟨⟨by omega, by omega⟩, ⟨by omega, by omega⟩⟩, ⟨⟨by omega, by omega⟩, ⟨by omega, by omega⟩⟩, ⟨by omega, by omega⟩⟩, ((((HC.out.setNew (b := w.heap.size + 1) (by omega) 0 (.int .i64 ea)).setNew (b := w.heap.size + 1) (by omega) 1 (.int .i64 x4)).setNew (b := w.heap.size + 1) (by omega) 2 (.int .i64 eb)).setNew (b := w.heap.size + 1) (by omega) 3 (.int .i64 x6)).mono (by omega), (((((HWw.out.trans HW.out).setNew (b := w.heap.size + 1) (by omega) 0 (.int .i64 ea)).setNew (b := w.heap.size + 1) (by omega) 1 (.int .i64 x4)).setNew (b := w.heap.size + 1) (by omega) 2 (.int .i64 eb)).setNew (b := w.heap.size + 1) (by omega) 3 (.int .i64 x6))⟩
  | true =>
    have z_0_0 := HZg.out.cell (i := 0) rfl
    have z_0_1 := HZg.out.cell (i := 1) rfl
    have z_0_2 := HZg.out.cell (i := 2) rfl
    have z_1_0 := HX0.out.cell (i := 0) rfl
    have z_1_1 := HX0.out.cell (i := 1) rfl
    have z_1_2 := HX0.out.cell (i := 2) rfl
    have z_1_3 := HX0.out.cell (i := 3) rfl
    have z_2_0 := HZe.out.cell (i := 0) rfl
    have z_2_1 := HZe.out.cell (i := 1) rfl
    have z_2_2 := HZe.out.cell (i := 2) rfl
    have z_2_3 := HZe.out.cell (i := 3) rfl
    try (go_wp2_with fail)
    clear z_0_0 z_0_1 z_0_2 z_1_0 z_1_1 z_1_2 z_1_3 z_2_0 z_2_1 z_2_2 z_2_3
    refine (spec_anyElement w0 g _ P Q G _ HC.out (HW.out.belowOf HBW.out hge) (by omega) HGR.out).mono ?_
    rintro e u9 ⟨⟨x9, rfl, x9l, x9u⟩, hc, hw⟩
    have hsz9 := hw.size
    replace HZg := Lib.hid (HZg.out.kept hw (.inr (by omega)))
    replace HX0 := Lib.hid (HX0.out.kept hw (.inr (by omega)))
    replace HZe := Lib.hid (HZe.out.kept hw (.inr (by omega)))
    replace HW := Lib.hid (HW.out.trans hw)
    replace HC := Lib.hid hc
    clear hc hw
    have z_0_0 := HZg.out.cell (i := 0) rfl
    have z_0_1 := HZg.out.cell (i := 1) rfl
    have z_0_2 := HZg.out.cell (i := 2) rfl
    have z_1_0 := HX0.out.cell (i := 0) rfl
    have z_1_1 := HX0.out.cell (i := 1) rfl
    have z_1_2 := HX0.out.cell (i := 2) rfl
    have z_1_3 := HX0.out.cell (i := 3) rfl
    have z_2_0 := HZe.out.cell (i := 0) rfl
    have z_2_1 := HZe.out.cell (i := 1) rfl
    have z_2_2 := HZe.out.cell (i := 2) rfl
    have z_2_3 := HZe.out.cell (i := 3) rfl
    have frm := fun j => HZe.out.frozen j
    have ltm := HZe.out.lt
    go_upto_region 9 with fail
    obtain ⟨Y10, hY⟩ : ∃ Y, Y = u9.setCell ⟨bz, 3, none⟩ (.int .i64 x9) := ⟨_, rfl⟩
    have hYl : Within (bz) (bz + 1) u9 Y10 := by rw [hY]; exact ((Within.refl (bz) (bz + 1) u9).setCell (b := bz) (by omega) (by omega) 3 (.int .i64 x9))
    have hszY10 := hYl.size
    have NHZe : Hid (BoxN Y10 bz 31 [.int .i64 ea, .int .i64 x4, .int .i64 eb, .int .i64 x9]) := by unfold Hid; rw [hY]; exact (HZe.out.set 3 (.int .i64 x9))
    have NC := Lib.hid (HC.out.setNew (b := bz) (by omega) 3 (.int .i64 x9))
    rw [← hY] at NC
    have NW := Lib.hid (HW.out.setNew (b := bz) (by omega) 3 (.int .i64 x9))
    rw [← hY] at NW
    replace HZg := Lib.hid (HZg.out.kept hYl (by omega))
    replace HX0 := Lib.hid (HX0.out.kept hYl (by omega))
    rw [← hY]
    clear hY hYl frm ltm HZe HC HW
    have HZe := NHZe
    have HC := NC
    have HW := NW
    clear NHZe NC NW
    clear z_0_0 z_0_1 z_0_2 z_1_0 z_1_1 z_1_2 z_1_3 z_2_0 z_2_1 z_2_2 z_2_3
    have z_0_0 := HZg.out.cell (i := 0) rfl
    have z_0_1 := HZg.out.cell (i := 1) rfl
    have z_0_2 := HZg.out.cell (i := 2) rfl
    have z_2_0 := HZe.out.cell (i := 0) rfl
    have z_2_1 := HZe.out.cell (i := 1) rfl
    have z_2_2 := HZe.out.cell (i := 2) rfl
    have z_2_3 := HZe.out.cell (i := 3) rfl
    have r_HX0_0 := HX0.out.cell (i := 0) rfl
    have r_HX0_1 := HX0.out.cell (i := 1) rfl
    have r_HX0_2 := HX0.out.cell (i := 2) rfl
    have r_HX0_3 := HX0.out.cell (i := 3) rfl
    have fr_HX0 := fun j => HX0.out.frozen j
    go_wp2_with fail
    have FHX0 := Lib.hid ((((HX0.out.set 0 (.int .i64 ea)).set 1 (.int .i64 x4)).set 2 (.int .i64 eb)).set 3 (.int .i64 x9))
    clear z_0_0 z_0_1 z_0_2 z_2_0 z_2_1 z_2_2 z_2_3 r_HX0_0 r_HX0_1 r_HX0_2 r_HX0_3 fr_HX0
    have t_HX0_0 := FHX0.out.cell (i := 0) rfl
    have t_HX0_1 := FHX0.out.cell (i := 1) rfl
    have t_HX0_2 := FHX0.out.cell (i := 2) rfl
    have t_HX0_3 := FHX0.out.cell (i := 3) rfl
    try (go_wp2_with fail)
    refine bodyPost_ret (v := .tuple #[.agg #[.int .i64 ea, .int .i64 x4, .int .i64 eb, .int .i64 x9], .int .i64 x1]) (by simp [results, Try.results81, go_sem, t_HX0_0, t_HX0_1, t_HX0_2, t_HX0_3]) rfl ⟨⟨_, _, _, _, _, rfl, ⟨⟨by omega, by omega⟩, ⟨by omega, by omega⟩⟩, ⟨⟨by omega, by omega⟩, ⟨by omega, by omega⟩⟩, ⟨by omega, by omega⟩⟩, ((((HC.out.setNew (b := w.heap.size + 1) (by omega) 0 (.int .i64 ea)).setNew (b := w.heap.size + 1) (by omega) 1 (.int .i64 x4)).setNew (b := w.heap.size + 1) (by omega) 2 (.int .i64 eb)).setNew (b := w.heap.size + 1) (by omega) 3 (.int .i64 x9)).mono (by omega), (((((HWw.out.trans HW.out).setNew (b := w.heap.size + 1) (by omega) 0 (.int .i64 ea)).setNew (b := w.heap.size + 1) (by omega) 1 (.int .i64 x4)).setNew (b := w.heap.size + 1) (by omega) 2 (.int .i64 eb)).setNew (b := w.heap.size + 1) (by omega) 3 (.int .i64 x9))⟩
set_option maxRecDepth 100000 in
set_option maxHeartbeats 4000000 in
theorem spec_equal (w0 : World) (g : Nat) (n P Q G : Int) (w : World) (h : Cur w0 w g n) (hb : Below w0.heap.size w0 w) (hn : n ≤ 500000000000000) (hgr : GrB ⟨P, Q, G⟩) :
    Calls Try.prog 81 #[.pointer (some ⟨g, 0, none⟩), .agg #[.int .i64 P, .int .i64 Q, .int .i64 G]] w fun e w' => (∃ (xr01 : Int) (xr02 : Int) (xr03 : Int) (xr04 : Int) (xr1 : Int), e = .returned (.tuple #[.agg #[.int .i64 xr01, .int .i64 xr02, .int .i64 xr03, .int .i64 xr04], .int .i64 xr1]) ∧ ((-10 ≤ xr01 ∧ xr01 ≤ 2000000010) ∧ (-10 ≤ xr02 ∧ xr02 ≤ 2000000010)) ∧ ((-10 ≤ xr03 ∧ xr03 ≤ 2000000010) ∧ (-10 ≤ xr04 ∧ xr04 ≤ 2000000010)) ∧ (-10 ≤ xr1 ∧ xr1 ≤ 2000000010)) ∧ Cur w0 w' g (n + 60000) ∧ Within g (g + 1) w w' := by
  by_cases hp3 : P < 3
  · exact spec_equalA w0 g n P Q G w h hb hn hgr hp3
  · by_cases hq1 : Q < 1
    · exact spec_equalB w0 g n P Q G w h hb hn hgr hp3 hq1
    · exact spec_equalC w0 g n P Q G w h hb hn hgr hp3 hq1
set_option maxRecDepth 100000 in
set_option maxHeartbeats 4000000 in
theorem spec_DrawSimulateEqual (v : Value) (w : World) (h : Bytes w v) :
    Calls Try.prog 29 #[v] w fun e w' => (∃ (P : Int) (Q : Int) (G : Int) (xr11 : Int) (xr12 : Int) (xr13 : Int) (xr14 : Int) (xr2 : Int) (xr3 : Int), e = .returned (.tuple #[.agg #[.int .i64 P, .int .i64 Q, .int .i64 G], .agg #[.int .i64 xr11, .int .i64 xr12, .int .i64 xr13, .int .i64 xr14], .int .i64 xr2, .int .i64 xr3]) ∧ GrB ⟨P, Q, G⟩ ∧ ((-10 ≤ xr11 ∧ xr11 ≤ 2000000010) ∧ (-10 ≤ xr12 ∧ xr12 ≤ 2000000010)) ∧ ((-10 ≤ xr13 ∧ xr13 ≤ 2000000010) ∧ (-10 ≤ xr14 ∧ xr14 ≤ 2000000010)) ∧ (-10 ≤ xr2 ∧ xr2 ≤ 2000000010) ∧ (-10 ≤ xr3 ∧ xr3 ≤ 2000000010)) ∧ Below w.heap.size w w' := by
  obtain ⟨a, m, c, rfl, hk1, hk2, hv⟩ := h
  have HY : Hid (Bytes w (.slice a m c)) := ⟨a, m, c, rfl, hk1, hk2, hv⟩
  clear hv
  unfold maxLen at hk2
  obtain ⟨U, hU⟩ : ∃ U, U = (w.alloc (.cells #[.int .i64 0, .int .i64 0, .int .i64 0] 24)).alloc (.cells #[.int .i64 0, .int .i64 0, .int .i64 0, .int .i64 0] 31) := ⟨_, rfl⟩
  have hbU : Below w.heap.size w U := by rw [hU]; (repeat (first | exact Below.refl _ _ | assumption | refine Below.drew ?_ | refine Below.alloc ?_ (by first | (simp; done) | (simp; omega)) _ | refine Below.setCell ?_ (by first | (simp; done) | (simp; omega)) _))
  have HX0 : Hid (BoxN U w.heap.size 24 [.int .i64 0, .int .i64 0, .int .i64 0]) := by unfold Hid; rw [hU]; have h := ((BoxN.new w [.int .i64 0, .int .i64 0, .int .i64 0] 24).alloc (.cells #[.int .i64 0, .int .i64 0, .int .i64 0, .int .i64 0] 31)); simpa using h
  have HX1 : Hid (BoxN U (w.heap.size + 1) 31 [.int .i64 0, .int .i64 0, .int .i64 0, .int .i64 0]) := by unfold Hid; rw [hU]; have h := (BoxN.new (w.alloc (.cells #[.int .i64 0, .int .i64 0, .int .i64 0] 24)) [.int .i64 0, .int .i64 0, .int .i64 0, .int .i64 0] 31); simpa using h
  have hsU : U.heap.size = w.heap.size + 1 + 1 := by rw [hU]; simp
  obtain ⟨W, hW⟩ : ∃ W, W = U.alloc (.cells #[.slice a m c, .int .i64 0, .int .u64 0] 107) := ⟨_, rfl⟩
  have HC : Hid (Cur U W U.heap.size 0) := by unfold Hid; rw [hW]; exact Cur.new U (HY.out.below hbU)
  have hbW : Below U.heap.size U W := by rw [hW]; exact (Below.refl _ _).alloc (Nat.le_refl _) _
  have HBW := Lib.hid (Below.next hbU hbW)
  have HUB := Lib.hid hbW
  replace HX0 := Lib.hid (HX0.out.below hbW)
  replace HX1 := Lib.hid (HX1.out.below hbW)
  obtain ⟨g, hg⟩ : ∃ g, g = U.heap.size := ⟨_, rfl⟩
  have HSU : Hid (w.heap.size + 1 + 1 = g) := by unfold Hid; rw [hg, hsU]
  have HWS : Hid (W.heap.size = g + 1) := by unfold Hid; rw [hW, hg]; simp
  go_enter Try.func29, Try.ntmps29
  go_wp2_with fail
  rw [← hU, ← hW]
  rw [HSU.out]
  rw [← hg] at HC HUB
  have HUS : Hid (U.heap.size = g) := hg.symm
  have hwg : w.heap.size + 2 = g := HSU.out
  have hsW := HWS.out
  have HW := Lib.hid (Within.refl g (g + 1) W)
  have HUC : Hid (Below U.heap.size U W) := by unfold Hid; rw [HUS.out]; exact HUB.out
  clear hU hW hbU hbW hsU hg
  have z_0_0 := HX0.out.cell (i := 0) rfl
  have z_0_1 := HX0.out.cell (i := 1) rfl
  have z_0_2 := HX0.out.cell (i := 2) rfl
  have z_1_0 := HX1.out.cell (i := 0) rfl
  have z_1_1 := HX1.out.cell (i := 1) rfl
  have z_1_2 := HX1.out.cell (i := 2) rfl
  have z_1_3 := HX1.out.cell (i := 3) rfl
  try (go_wp2_with fail)
  clear z_0_0 z_0_1 z_0_2 z_1_0 z_1_1 z_1_2 z_1_3
  refine (spec_anyGroup U g _ _ HC.out (HW.out.belowOf HUC.out (Nat.le_of_eq HUS.out)) (by omega)).mono ?_
  rintro e u1 ⟨⟨P, Q, G, rfl, P1, Q1, G1⟩, hc, hw⟩
  have HGR : Hid (GrB ⟨P, Q, G⟩) := ⟨P1, Q1, G1⟩
  clear P1 Q1 G1
  have hsz1 := hw.size
  replace HX0 := Lib.hid (HX0.out.kept hw (.inl (by omega)))
  replace HX1 := Lib.hid (HX1.out.kept hw (.inl (by omega)))
  replace HW := Lib.hid (HW.out.trans hw)
  replace HC := Lib.hid hc
  clear hc hw
  have z_0_0 := HX0.out.cell (i := 0) rfl
  have z_0_1 := HX0.out.cell (i := 1) rfl
  have z_0_2 := HX0.out.cell (i := 2) rfl
  have z_1_0 := HX1.out.cell (i := 0) rfl
  have z_1_1 := HX1.out.cell (i := 1) rfl
  have z_1_2 := HX1.out.cell (i := 2) rfl
  have z_1_3 := HX1.out.cell (i := 3) rfl
  have lt_HX0 := HX0.out.lt
  have lt_HX1 := HX1.out.lt
  obtain ⟨V2, hV⟩ : ∃ V, V = u1.alloc (.cells #[.int .i64 P, .int .i64 Q, .int .i64 G] 24) := ⟨_, rfl⟩
  have hbV : Below u1.heap.size u1 V2 := by rw [hV]; (repeat (first | exact Below.refl _ _ | assumption | refine Below.drew ?_ | refine Below.alloc ?_ (by first | (simp; done) | (simp; omega)) _ | refine Below.setCell ?_ (by first | (simp; done) | (simp; omega)) _))
  have HZ1 : Hid (BoxN V2 u1.heap.size 24 [.int .i64 P, .int .i64 Q, .int .i64 G]) := by unfold Hid; rw [hV]; have h := (BoxN.new u1 [.int .i64 P, .int .i64 Q, .int .i64 G] 24); simpa using h
  have hgc : g < u1.heap.size := HC.out.lt
  go_wp2_with fail
  rw [← hV]
  have hsV2 : V2.heap.size = u1.heap.size + 1 := by rw [hV]; simp
  clear hV hgc
  replace HX0 := Lib.hid (HX0.out.below hbV)
  replace HX1 := Lib.hid (HX1.out.below hbV)
  replace HW := Lib.hid (HW.out.trans (Within.of_below hbV))
  replace HC := Lib.hid (HC.out.keep hbV)
  clear hbV
  clear z_0_0 z_0_1 z_0_2 z_1_0 z_1_1 z_1_2 z_1_3
  clear lt_HX0
  clear lt_HX1
  refine (spec_equal U g _ P Q G _ HC.out (HW.out.belowOf HUC.out (Nat.le_of_eq HUS.out)) (by omega) HGR.out).mono ?_
  rintro e u3 ⟨⟨x31, x32, x33, x34, x3x, rfl, ⟨⟨x31l, x31u⟩, ⟨x32l, x32u⟩⟩, ⟨⟨x33l, x33u⟩, ⟨x34l, x34u⟩⟩, ⟨x3xl, x3xu⟩⟩, hc, hw⟩
  have hsz3 := hw.size
  replace HX0 := Lib.hid (HX0.out.kept hw (.inl (by omega)))
  replace HX1 := Lib.hid (HX1.out.kept hw (.inl (by omega)))
  replace HZ1 := Lib.hid (HZ1.out.kept hw (.inr (by omega)))
  replace HW := Lib.hid (HW.out.trans hw)
  replace HC := Lib.hid hc
  clear hc hw
  have z_0_0 := HX0.out.cell (i := 0) rfl
  have z_0_1 := HX0.out.cell (i := 1) rfl
  have z_0_2 := HX0.out.cell (i := 2) rfl
  have z_1_0 := HX1.out.cell (i := 0) rfl
  have z_1_1 := HX1.out.cell (i := 1) rfl
  have z_1_2 := HX1.out.cell (i := 2) rfl
  have z_1_3 := HX1.out.cell (i := 3) rfl
  have z_2_0 := HZ1.out.cell (i := 0) rfl
  have z_2_1 := HZ1.out.cell (i := 1) rfl
  have z_2_2 := HZ1.out.cell (i := 2) rfl
  have lt_HX0 := HX0.out.lt
  have lt_HX1 := HX1.out.lt
  have lt_HZ1 := HZ1.out.lt
  obtain ⟨V4, hV⟩ : ∃ V, V = u3.alloc (.cells #[.int .i64 x31, .int .i64 x32, .int .i64 x33, .int .i64 x34] 31) := ⟨_, rfl⟩
  have hbV : Below u3.heap.size u3 V4 := by rw [hV]; (repeat (first | exact Below.refl _ _ | assumption | refine Below.drew ?_ | refine Below.alloc ?_ (by first | (simp; done) | (simp; omega)) _ | refine Below.setCell ?_ (by first | (simp; done) | (simp; omega)) _))
  have HZ2 : Hid (BoxN V4 u3.heap.size 31 [.int .i64 x31, .int .i64 x32, .int .i64 x33, .int .i64 x34]) := by unfold Hid; rw [hV]; have h := (BoxN.new u3 [.int .i64 x31, .int .i64 x32, .int .i64 x33, .int .i64 x34] 31); simpa using h
  have hgc : g < u3.heap.size := HC.out.lt
  go_wp2_with fail
  rw [← hV]
  have hsV4 : V4.heap.size = u3.heap.size + 1 := by rw [hV]; simp
  clear hV hgc
  replace HX0 := Lib.hid (HX0.out.below hbV)
  replace HX1 := Lib.hid (HX1.out.below hbV)
  replace HZ1 := Lib.hid (HZ1.out.below hbV)
  replace HW := Lib.hid (HW.out.trans (Within.of_below hbV))
  replace HC := Lib.hid (HC.out.keep hbV)
  clear hbV
  clear z_0_0 z_0_1 z_0_2 z_1_0 z_1_1 z_1_2 z_1_3 z_2_0 z_2_1 z_2_2
  clear lt_HX0
  clear lt_HX1
  clear lt_HZ1
  have z_0_0 := HX0.out.cell (i := 0) rfl
  have z_0_1 := HX0.out.cell (i := 1) rfl
  have z_0_2 := HX0.out.cell (i := 2) rfl
  have z_1_0 := HX1.out.cell (i := 0) rfl
  have z_1_1 := HX1.out.cell (i := 1) rfl
  have z_1_2 := HX1.out.cell (i := 2) rfl
  have z_1_3 := HX1.out.cell (i := 3) rfl
  have z_2_0 := HZ1.out.cell (i := 0) rfl
  have z_2_1 := HZ1.out.cell (i := 1) rfl
  have z_2_2 := HZ1.out.cell (i := 2) rfl
  have z_3_0 := HZ2.out.cell (i := 0) rfl
  have z_3_1 := HZ2.out.cell (i := 1) rfl
  have z_3_2 := HZ2.out.cell (i := 2) rfl
  have z_3_3 := HZ2.out.cell (i := 3) rfl
  clear z_0_0
  clear z_0_1
  clear z_0_2
  clear z_1_0
  clear z_1_1
  clear z_1_2
  clear z_1_3
  refine wp_region_noPanic ?_
  refine wp_region_V (fun w' => w'.cell? ⟨u1.heap.size, 0, none⟩ = some (.int .i64 P) ∧ w'.cell? ⟨u1.heap.size, 1, none⟩ = some (.int .i64 Q) ∧ w'.cell? ⟨u1.heap.size, 2, none⟩ = some (.int .i64 G) ∧ w'.cell? ⟨u3.heap.size, 0, none⟩ = some (.int .i64 x31) ∧ w'.cell? ⟨u3.heap.size, 1, none⟩ = some (.int .i64 x32) ∧ w'.cell? ⟨u3.heap.size, 2, none⟩ = some (.int .i64 x33) ∧ w'.cell? ⟨u3.heap.size, 3, none⟩ = some (.int .i64 x34)) 14 10 (.rd 0 (.rd 1 (.rd 2 (.rd 3 (.rd 5 (.rd 6 (.alt 4 (.alt 7 (.alt 8 (.alt 9 .done .nil) .nil) .nil) .nil))))))) [10, 11] (by kernel_rfl) (by kernel_rfl) rfl (fun _ _ _ _ _ h => h) ⟨box_at z_2_0 (Below.refl _ _).drew, box_at z_2_1 (Below.refl _ _).drew, box_at z_2_2 (Below.refl _ _).drew, box_at z_3_0 (Below.refl _ _).drew, box_at z_3_1 (Below.refl _ _).drew, box_at z_3_2 (Below.refl _ _).drew, box_at z_3_3 (Below.refl _ _).drew⟩ ?_
  simp only [pickV, pickN, List.getElem?_cons_zero, List.getElem?_cons_succ]
  repeat (refine' wpV_read _ (by kernel_rfl) (fun w' hS' => ?_) ?_; rotate_left; · ((try dsimp only at hS'); go_simp; (try with_reducible rfl)); (try simp only [Act.put, List.setIfInBounds_toArray, List.set_cons_zero, List.set_cons_succ]))
  have hdr : Below V4.heap.size V4 V4.drew := (Below.refl _ _).drew
  have hszd := hdr.size
  replace HX0 := Lib.hid (HX0.out.below hdr)
  replace HX1 := Lib.hid (HX1.out.below hdr)
  replace HZ1 := Lib.hid (HZ1.out.below hdr)
  replace HZ2 := Lib.hid (HZ2.out.below hdr)
  replace HW := Lib.hid (HW.out.trans (Within.of_below hdr))
  replace HC := Lib.hid (HC.out.keep hdr)
  clear hdr
  refine wpV_do (by kernel_rfl) (fun K hK => ?_)
  -- 4: call
  go_simp
  go_at_call 68
  refine (spec_anyExpo U g _ P Q G _ HC.out (HW.out.belowOf HUC.out (Nat.le_of_eq HUS.out)) (by omega) HGR.out).mono ?_
  rintro e ut1 ⟨⟨xt1, rfl, xt1l, xt1u⟩, hc, hw⟩
  have hszt1 := hw.size
  replace HX0 := Lib.hid (HX0.out.kept hw (.inl (by omega)))
  replace HX1 := Lib.hid (HX1.out.kept hw (.inl (by omega)))
  replace HZ1 := Lib.hid (HZ1.out.kept hw (.inr (by omega)))
  replace HZ2 := Lib.hid (HZ2.out.kept hw (.inr (by omega)))
  replace HW := Lib.hid (HW.out.trans hw)
  replace HC := Lib.hid hc
  clear hc hw
  clear z_2_0 z_2_1 z_2_2 z_3_0 z_3_1 z_3_2 z_3_3
  have z_2_0 := HZ1.out.cell (i := 0) rfl
  have z_2_1 := HZ1.out.cell (i := 1) rfl
  have z_2_2 := HZ1.out.cell (i := 2) rfl
  have z_3_0 := HZ2.out.cell (i := 0) rfl
  have z_3_1 := HZ2.out.cell (i := 1) rfl
  have z_3_2 := HZ2.out.cell (i := 2) rfl
  have z_3_3 := HZ2.out.cell (i := 3) rfl
  refine hK.out _ _ ⟨z_2_0, z_2_1, z_2_2, z_3_0, z_3_1, z_3_2, z_3_3⟩ (fun _ => ?_)
  clear hK K
  (try simp only [Act.put, List.setIfInBounds_toArray, List.set_cons_zero, List.set_cons_succ])
  refine wpV_do (by kernel_rfl) (fun K hK => ?_)
  -- 7: call
  go_simp
  go_at_call 68
  refine (spec_anyExpo U g _ P Q G _ HC.out (HW.out.belowOf HUC.out (Nat.le_of_eq HUS.out)) (by omega) HGR.out).mono ?_
  rintro e ut2 ⟨⟨xt2, rfl, xt2l, xt2u⟩, hc, hw⟩
  have hszt2 := hw.size
  replace HX0 := Lib.hid (HX0.out.kept hw (.inl (by omega)))
  replace HX1 := Lib.hid (HX1.out.kept hw (.inl (by omega)))
  replace HZ1 := Lib.hid (HZ1.out.kept hw (.inr (by omega)))
  replace HZ2 := Lib.hid (HZ2.out.kept hw (.inr (by omega)))
  replace HW := Lib.hid (HW.out.trans hw)
  replace HC := Lib.hid hc
  clear hc hw
  clear z_2_0 z_2_1 z_2_2 z_3_0 z_3_1 z_3_2 z_3_3
  have z_2_0 := HZ1.out.cell (i := 0) rfl
  have z_2_1 := HZ1.out.cell (i := 1) rfl
  have z_2_2 := HZ1.out.cell (i := 2) rfl
  have z_3_0 := HZ2.out.cell (i := 0) rfl
  have z_3_1 := HZ2.out.cell (i := 1) rfl
  have z_3_2 := HZ2.out.cell (i := 2) rfl
  have z_3_3 := HZ2.out.cell (i := 3) rfl
  refine hK.out _ _ ⟨z_2_0, z_2_1, z_2_2, z_3_0, z_3_1, z_3_2, z_3_3⟩ (fun _ => ?_)
  clear hK K
  (try simp only [Act.put, List.setIfInBounds_toArray, List.set_cons_zero, List.set_cons_succ])
  refine wpV_do (by kernel_rfl) (fun K hK => ?_)
  -- 8: store
  have r0 := HX0.out.cell (i := 0) rfl
  have r1 := HX0.out.cell (i := 1) rfl
  have r2 := HX0.out.cell (i := 2) rfl
  have fr := fun j => HX0.out.frozen j
  obtain ⟨Y3, hY⟩ : ∃ Y, Y = ((ut2.setCell ⟨w.heap.size, 0, none⟩ (.int .i64 P)).setCell ⟨w.heap.size, 1, none⟩ (.int .i64 Q)).setCell ⟨w.heap.size, 2, none⟩ (.int .i64 G) := ⟨_, rfl⟩
  have hYl : Within (w.heap.size) (w.heap.size + 1) ut2 Y3 := by rw [hY]; exact ((((Within.refl (w.heap.size) (w.heap.size + 1) ut2).setCell (b := w.heap.size) (by omega) (by omega) 0 (.int .i64 P)).setCell (b := w.heap.size) (by omega) (by omega) 1 (.int .i64 Q)).setCell (b := w.heap.size) (by omega) (by omega) 2 (.int .i64 G))
  have HYW : Hid (Within w.heap.size (w.heap.size + 2) ut2 Y3) := hYl.mono (by omega) (by omega)
  have HYB : Hid (Below w.heap.size w Y3) := hYl.belowU (HW.out.belowOf HBW.out (by omega)) (by omega)
  have HCS : Hid (∀ w', Within w.heap.size (w.heap.size + 2) ut2 w' → w'.cell? ⟨u1.heap.size, 0, none⟩ = some (.int .i64 P) ∧ w'.cell? ⟨u1.heap.size, 1, none⟩ = some (.int .i64 Q) ∧ w'.cell? ⟨u1.heap.size, 2, none⟩ = some (.int .i64 G) ∧ w'.cell? ⟨u3.heap.size, 0, none⟩ = some (.int .i64 x31) ∧ w'.cell? ⟨u3.heap.size, 1, none⟩ = some (.int .i64 x32) ∧ w'.cell? ⟨u3.heap.size, 2, none⟩ = some (.int .i64 x33) ∧ w'.cell? ⟨u3.heap.size, 3, none⟩ = some (.int .i64 x34)) := fun w' h => ⟨within_at h z_2_0 (by omega), within_at h z_2_1 (by omega), within_at h z_2_2 (by omega), within_at h z_3_0 (by omega), within_at h z_3_1 (by omega), within_at h z_3_2 (by omega), within_at h z_3_3 (by omega)⟩
  go_simp
  refine hK.out _ _ ?_ (fun _ => ?_)
  · rw [← hY]; exact HCS.out _ HYW.out
  rw [← hY]
  clear hK K fr r0 r1 r2
  replace HX0 : Hid (BoxN Y3 w.heap.size 24 [.int .i64 P, .int .i64 Q, .int .i64 G]) := by unfold Hid; rw [hY]; exact (((HX0.out.set 0 (.int .i64 P)).set 1 (.int .i64 Q)).set 2 (.int .i64 G))
  replace HX1 := Lib.hid (HX1.out.kept hYl (by omega))
  clear hY hYl
  (try simp only [Act.put, List.setIfInBounds_toArray, List.set_cons_zero, List.set_cons_succ])
  clear z_2_0 z_2_1 z_2_2 z_3_0 z_3_1 z_3_2 z_3_3
  obtain ⟨z_2_0, z_2_1, z_2_2, z_3_0, z_3_1, z_3_2, z_3_3⟩ := HCS.out _ HYW.out
  refine wpV_do (by kernel_rfl) (fun K hK => ?_)
  -- 9: store
  have r0 := HX1.out.cell (i := 0) rfl
  have r1 := HX1.out.cell (i := 1) rfl
  have r2 := HX1.out.cell (i := 2) rfl
  have r3 := HX1.out.cell (i := 3) rfl
  have fr := fun j => HX1.out.frozen j
  obtain ⟨Y4, hY⟩ : ∃ Y, Y = (((Y3.setCell ⟨w.heap.size + 1, 0, none⟩ (.int .i64 x31)).setCell ⟨w.heap.size + 1, 1, none⟩ (.int .i64 x32)).setCell ⟨w.heap.size + 1, 2, none⟩ (.int .i64 x33)).setCell ⟨w.heap.size + 1, 3, none⟩ (.int .i64 x34) := ⟨_, rfl⟩
  have hYl : Within (w.heap.size + 1) (w.heap.size + 1 + 1) Y3 Y4 := by rw [hY]; exact (((((Within.refl (w.heap.size + 1) (w.heap.size + 1 + 1) Y3).setCell (b := w.heap.size + 1) (by omega) (by omega) 0 (.int .i64 x31)).setCell (b := w.heap.size + 1) (by omega) (by omega) 1 (.int .i64 x32)).setCell (b := w.heap.size + 1) (by omega) (by omega) 2 (.int .i64 x33)).setCell (b := w.heap.size + 1) (by omega) (by omega) 3 (.int .i64 x34))
  replace HYW := Lib.hid (HYW.out.trans (hYl.mono (by omega) (by omega)))
  replace HYB := Lib.hid (hYl.belowU HYB.out (by omega))
  go_simp
  refine hK.out _ _ ?_ (fun _ => ?_)
  · rw [← hY]; exact HCS.out _ HYW.out
  rw [← hY]
  clear hK K fr r0 r1 r2 r3
  replace HX1 : Hid (BoxN Y4 (w.heap.size + 1) 31 [.int .i64 x31, .int .i64 x32, .int .i64 x33, .int .i64 x34]) := by unfold Hid; rw [hY]; exact ((((HX1.out.set 0 (.int .i64 x31)).set 1 (.int .i64 x32)).set 2 (.int .i64 x33)).set 3 (.int .i64 x34))
  replace HX0 := Lib.hid (HX0.out.kept hYl (by omega))
  clear hY hYl
  (try simp only [Act.put, List.setIfInBounds_toArray, List.set_cons_zero, List.set_cons_succ])
  clear z_2_0 z_2_1 z_2_2 z_3_0 z_3_1 z_3_2 z_3_3
  obtain ⟨z_2_0, z_2_1, z_2_2, z_3_0, z_3_1, z_3_2, z_3_3⟩ := HCS.out _ HYW.out
  refine wpV_done ?_
  go_wp2_with fail
  refine NoPanic.normal ?_
  clear z_2_0 z_2_1 z_2_2 z_3_0 z_3_1 z_3_2 z_3_3
  have t_HX0_0 := HX0.out.cell (i := 0) rfl
  have t_HX0_1 := HX0.out.cell (i := 1) rfl
  have t_HX0_2 := HX0.out.cell (i := 2) rfl
  have t_HX1_0 := HX1.out.cell (i := 0) rfl
  have t_HX1_1 := HX1.out.cell (i := 1) rfl
  have t_HX1_2 := HX1.out.cell (i := 2) rfl
  have t_HX1_3 := HX1.out.cell (i := 3) rfl
  try (go_wp2_with fail)
  refine bodyPost_ret (v := .tuple #[.agg #[.int .i64 P, .int .i64 Q, .int .i64 G], .agg #[.int .i64 x31, .int .i64 x32, .int .i64 x33, .int .i64 x34], .int .i64 xt1, .int .i64 xt2]) (by simp [results, Try.results29, go_sem, t_HX0_0, t_HX0_1, t_HX0_2, t_HX1_0, t_HX1_1, t_HX1_2, t_HX1_3]) rfl ⟨⟨_, _, _, _, _, _, _, _, _, rfl, HGR.out, ⟨⟨by omega, by omega⟩, ⟨by omega, by omega⟩⟩, ⟨⟨by omega, by omega⟩, ⟨by omega, by omega⟩⟩, ⟨by omega, by omega⟩, ⟨by omega, by omega⟩⟩, HYB.out⟩
set_option maxRecDepth 100000 in
set_option maxHeartbeats 4000000 in
theorem spec_DrawProveOneOfS (v : Value) (w : World) (h : Bytes w v) :
    Calls Try.prog 19 #[v] w fun e w' => (∃ (P : Int) (Q : Int) (G : Int) (sr1 : ByteArray) (vr2 : Value) (lr2 : List EqualLogD) (xr3 : Int) (xr4 : Int) (vr5 : Value) (lr5 : List Int), e = .returned (.tuple #[.agg #[.int .i64 P, .int .i64 Q, .int .i64 G], .string sr1, vr2, .int .i64 xr3, .int .i64 xr4, vr5]) ∧ GrB ⟨P, Q, G⟩ ∧ (sr1.size ≤ 100) ∧ (Since w.heap.size w' (fun z => RdR rEqualLog z vr2 lr2) ∧ lr2.length ≤ 3) ∧ (-10 ≤ xr3 ∧ xr3 ≤ 2000000010) ∧ (-10 ≤ xr4 ∧ xr4 ≤ 2000000010) ∧ (Since w.heap.size w' (fun z => Ints z vr5 lr5) ∧ lr5.length ≤ 1001)) ∧ Below w.heap.size w w' := by
  obtain ⟨a, m, c, rfl, hk1, hk2, hv⟩ := h
  have HY : Hid (Bytes w (.slice a m c)) := ⟨a, m, c, rfl, hk1, hk2, hv⟩
  clear hv
  unfold maxLen at hk2
  obtain ⟨U, hU⟩ : ∃ U, U = w.alloc (.cells #[.int .i64 0, .int .i64 0, .int .i64 0] 24) := ⟨_, rfl⟩
  have hbU : Below w.heap.size w U := by rw [hU]; (repeat (first | exact Below.refl _ _ | assumption | refine Below.drew ?_ | refine Below.alloc ?_ (by first | (simp; done) | (simp; omega)) _ | refine Below.setCell ?_ (by first | (simp; done) | (simp; omega)) _))
  have HX0 : Hid (BoxN U w.heap.size 24 [.int .i64 0, .int .i64 0, .int .i64 0]) := by unfold Hid; rw [hU]; have h := (BoxN.new w [.int .i64 0, .int .i64 0, .int .i64 0] 24); simpa using h
  have hsU : U.heap.size = w.heap.size + 1 := by rw [hU]; simp
  obtain ⟨W, hW⟩ : ∃ W, W = U.alloc (.cells #[.slice a m c, .int .i64 0, .int .u64 0] 107) := ⟨_, rfl⟩
  have HC : Hid (Cur U W U.heap.size 0) := by unfold Hid; rw [hW]; exact Cur.new U (HY.out.below hbU)
  have hbW : Below U.heap.size U W := by rw [hW]; exact (Below.refl _ _).alloc (Nat.le_refl _) _
  have HBW := Lib.hid (Below.next hbU hbW)
  have HUB := Lib.hid hbW
  replace HX0 := Lib.hid (HX0.out.below hbW)
  obtain ⟨g, hg⟩ : ∃ g, g = U.heap.size := ⟨_, rfl⟩
  have HSU : Hid (w.heap.size + 1 = g) := by unfold Hid; rw [hg, hsU]
  have HWS : Hid (W.heap.size = g + 1) := by unfold Hid; rw [hW, hg]; simp
  go_enter Try.func19, Try.ntmps19
  go_wp2_with fail
  rw [← hU, ← hW]
  rw [HSU.out]
  rw [← hg] at HC HUB
  have HUS : Hid (U.heap.size = g) := hg.symm
  have hwg : w.heap.size + 1 = g := HSU.out
  have hsW := HWS.out
  have HW := Lib.hid (Within.refl g (g + 1) W)
  have HUC : Hid (Below U.heap.size U W) := by unfold Hid; rw [HUS.out]; exact HUB.out
  clear hU hW hbU hbW hsU hg
  have z_0_0 := HX0.out.cell (i := 0) rfl
  have z_0_1 := HX0.out.cell (i := 1) rfl
  have z_0_2 := HX0.out.cell (i := 2) rfl
  try (go_wp2_with fail)
  clear z_0_0 z_0_1 z_0_2
  refine (spec_anyGroup U g _ _ HC.out (HW.out.belowOf HUC.out (Nat.le_of_eq HUS.out)) (by omega)).mono ?_
  rintro e u1 ⟨⟨P, Q, G, rfl, P1, Q1, G1⟩, hc, hw⟩
  have HGR : Hid (GrB ⟨P, Q, G⟩) := ⟨P1, Q1, G1⟩
  clear P1 Q1 G1
  have hsz1 := hw.size
  replace HX0 := Lib.hid (HX0.out.kept hw (.inl (by omega)))
  replace HW := Lib.hid (HW.out.trans hw)
  replace HC := Lib.hid hc
  clear hc hw
  have z_0_0 := HX0.out.cell (i := 0) rfl
  have z_0_1 := HX0.out.cell (i := 1) rfl
  have z_0_2 := HX0.out.cell (i := 2) rfl
  have lt_HX0 := HX0.out.lt
  obtain ⟨V2, hV⟩ : ∃ V, V = u1.alloc (.cells #[.int .i64 P, .int .i64 Q, .int .i64 G] 24) := ⟨_, rfl⟩
  have hbV : Below u1.heap.size u1 V2 := by rw [hV]; (repeat (first | exact Below.refl _ _ | assumption | refine Below.drew ?_ | refine Below.alloc ?_ (by first | (simp; done) | (simp; omega)) _ | refine Below.setCell ?_ (by first | (simp; done) | (simp; omega)) _))
  have HZ1 : Hid (BoxN V2 u1.heap.size 24 [.int .i64 P, .int .i64 Q, .int .i64 G]) := by unfold Hid; rw [hV]; have h := (BoxN.new u1 [.int .i64 P, .int .i64 Q, .int .i64 G] 24); simpa using h
  have hgc : g < u1.heap.size := HC.out.lt
  go_wp2_with fail
  rw [← hV]
  have hsV2 : V2.heap.size = u1.heap.size + 1 := by rw [hV]; simp
  clear hV hgc
  replace HX0 := Lib.hid (HX0.out.below hbV)
  replace HW := Lib.hid (HW.out.trans (Within.of_below hbV))
  replace HC := Lib.hid (HC.out.keep hbV)
  clear hbV
  clear z_0_0 z_0_1 z_0_2
  clear lt_HX0
  refine (spec_pick U g _ 3 _ HC.out (HW.out.belowOf HUC.out (Nat.le_of_eq HUS.out)) (by omega) ).mono ?_
  rintro e u3 ⟨⟨x3, rfl, x3l, x3u, x3m, _⟩, hc, hw⟩
  replace x3m := x3m (by omega)
  have hsz3 := hw.size
  replace HX0 := Lib.hid (HX0.out.kept hw (.inl (by omega)))
  replace HZ1 := Lib.hid (HZ1.out.kept hw (.inr (by omega)))
  replace HW := Lib.hid (HW.out.trans hw)
  replace HC := Lib.hid hc
  clear hc hw
  have ew2 : IntKind.i64.wrap (1 + x3) = 1 + x3 := IntWalk.i64_in _ (by omega)
  have z_0_0 := HX0.out.cell (i := 0) rfl
  have z_0_1 := HX0.out.cell (i := 1) rfl
  have z_0_2 := HX0.out.cell (i := 2) rfl
  have z_1_0 := HZ1.out.cell (i := 0) rfl
  have z_1_1 := HZ1.out.cell (i := 1) rfl
  have z_1_2 := HZ1.out.cell (i := 2) rfl
  try (go_wp2_with fail)
  clear z_0_0 z_0_1 z_0_2 z_1_0 z_1_1 z_1_2
  refine (spec_pick U g _ (1 + x3) _ HC.out (HW.out.belowOf HUC.out (Nat.le_of_eq HUS.out)) (by omega) ).mono ?_
  rintro e u4 ⟨⟨x4, rfl, x4l, x4u, x4m, _⟩, hc, hw⟩
  have hsz4 := hw.size
  replace HX0 := Lib.hid (HX0.out.kept hw (.inl (by omega)))
  replace HZ1 := Lib.hid (HZ1.out.kept hw (.inr (by omega)))
  replace HW := Lib.hid (HW.out.trans hw)
  replace HC := Lib.hid hc
  clear hc hw
  have z_0_0 := HX0.out.cell (i := 0) rfl
  have z_0_1 := HX0.out.cell (i := 1) rfl
  have z_0_2 := HX0.out.cell (i := 2) rfl
  have z_1_0 := HZ1.out.cell (i := 0) rfl
  have z_1_1 := HZ1.out.cell (i := 1) rfl
  have z_1_2 := HZ1.out.cell (i := 2) rfl
  try (go_wp2_with fail)
  clear z_0_0 z_0_1 z_0_2 z_1_0 z_1_1 z_1_2
  obtain ⟨N, hN⟩ : ∃ N : Nat, (N : Int) = (1 + x3) := ⟨((1 + x3)).toNat, by omega⟩
  have hN3 : N ≤ 3 := by omega
  have hgU0 : g < u4.heap.size := HC.out.lt
  have HC0 := Lib.hid (HC.out.mono (n' := 1000) (by omega))
  clear HC
  go_loopg [12, 13, 14] N (fun gk lv sv iv wr => ∃ (l : List EqualLogD) (sec : Int) (k : Nat), k + gk = N ∧ iv = .int .i64 (k : Int) ∧ sv = .int .i64 sec ∧ (-10 ≤ sec ∧ sec ≤ 2000000010) ∧ l.length = k ∧ Hid (OwnE wr u4.heap.size lv l) ∧ Hid (Cur U wr g (1000 + 100000 * (k : Int))) ∧ Hid (Within g (g + 1) u4 wr))
  case atStart => exact ⟨[], 0, 0, by omega, rfl, rfl, ⟨by omega, by omega⟩, rfl, OwnE.nil _ _, HC0.out.mono (by omega), Within.refl _ _ _⟩
  case round =>
    obtain ⟨l, sec, k, hkg, rfl, rfl, ⟨hs1, hs2⟩, hlk, HO, HC, HWz⟩ := hrel
    have hsr := HWz.out.size
    have HGb := Lib.hid (HZ1.out.kept HWz.out (.inr (by omega)))
    obtain ⟨ao, co, rfl⟩ := HO.out.shape
    rw [hlk] at HO ⊢
    have HLK := Lib.hid hlk
    clear hlk
    by_cases hlt : k < N
    · have hd : decide ((k : Int) < (1 + x3)) = true := decide_eq_true (by omega)
      have hgk1 : N - (k + 1) < gk := by omega
      have ewk : IntKind.i64.wrap ((k : Int) + 1) = (k : Int) + 1 := IntWalk.i64_in _ (by omega)
      have c0 := HGb.out.cell (i := 0) rfl
      have c1 := HGb.out.cell (i := 1) rfl
      have c2 := HGb.out.cell (i := 2) rfl
      go_wp2_with fail
      refine (spec_equal U g _ P Q G _ HC.out ((HW.out.trans HWz.out).belowOf (HUC.out) (Nat.le_of_eq HUS.out)) (by omega) HGR.out).mono ?_
      rintro e wE ⟨⟨z1, z2, z3, z4, zx, rfl, ⟨⟨z1l, z1u⟩, ⟨z2l, z2u⟩⟩, ⟨⟨z3l, z3u⟩, ⟨z4l, z4u⟩⟩, ⟨zxl, zxu⟩⟩, hc, hw⟩
      have hsE := hw.size
      replace HO := Lib.hid (HO.out.within hw (by omega))
      replace HGb := Lib.hid (HGb.out.kept hw (.inr (by omega)))
      replace HC := Lib.hid hc
      replace HWz := Lib.hid (HWz.out.trans hw)
      clear hc hw c0 c1 c2
      have HOL : Hid (∀ j, (Value.slice ao k co).ownBlock = some j → j < wE.heap.size) := fun j hj => (FrR.lt HO.out j hj).2
      obtain ⟨V, hV⟩ : ∃ V, V = wE.alloc (.cells #[.int .i64 z1, .int .i64 z2, .int .i64 z3, .int .i64 z4] 31) := ⟨_, rfl⟩
      have hbV : Below wE.heap.size wE V := by rw [hV]; exact (Below.refl _ _).alloc (Nat.le_refl _) _
      have HZ : Hid (BoxN V wE.heap.size 31 [.int .i64 z1, .int .i64 z2, .int .i64 z3, .int .i64 z4]) := by unfold Hid; rw [hV]; exact BoxN.new wE [.int .i64 z1, .int .i64 z2, .int .i64 z3, .int .i64 z4] _
      have hsV : wE.heap.size + 1 ≤ V.heap.size := by rw [hV]; simp
      replace HO := Lib.hid (HO.out.below hbV)
      replace HGb := Lib.hid (HGb.out.below hbV)
      replace HC := Lib.hid (HC.out.keep hbV)
      replace HWz := Lib.hid (HWz.out.trans (Within.of_below hbV))
      have hblk := HZ.out.lt
      have y0 := HZ.out.cell (i := 0) rfl
      by_cases hkw : (k : Int) = x4
      · have hq : ((k : Int) == x4) = true := by rw [beq_iff_eq]; exact hkw
        clear hkw
        go_upto_region 15 with fail
        rw [← hV]
        clear hV y0
        have y0 := HZ.out.cell (i := 0) rfl
        have y1 := HZ.out.cell (i := 1) rfl
        have y2 := HZ.out.cell (i := 2) rfl
        have y3 := HZ.out.cell (i := 3) rfl
        have hSE : SmallE ⟨z1, z2, z3, z4⟩ := ⟨⟨(⟨by omega, by omega⟩ : I64 z1), (⟨by omega, by omega⟩ : I64 z2)⟩, ⟨(⟨by omega, by omega⟩ : I64 z3), (⟨by omega, by omega⟩ : I64 z4)⟩⟩
        go_wp2_with (at_builtin; refine wpList_append_E1 rfl _ _ rfl (b := V.heap.size) (d := ⟨z1, z2, z3, z4⟩) (HO.out.below ((Below.refl _ _).alloc (Nat.le_refl _) _)) rfl rfl (BoxN.new V [.int .i64 z1, .int .i64 z2, .int .i64 z3, .int .i64 z4] _) hSE (by simp; omega) (by rw [HLK.out]; omega) ?_; intro v4 w4 hown4 hb4)
        have hb5 : Below u4.heap.size V w4 := ((Below.refl _ _).alloc (by omega) _).trans hb4
        go_roundg (N - (k + 1))
        case measure => omega
        case rel => exact ⟨l ++ [⟨z1, z2, z3, z4⟩], zx, k + 1, by omega, by go_num, rfl, ⟨by omega, by omega⟩, by rw [List.length_append, HLK.out]; rfl, Lib.hid hown4, Lib.hid ((HC.out.belowB hb5 (by omega)).mono (by omega)), Lib.hid (HWz.out.belowStep hb5)⟩
      · have hq : ((k : Int) == x4) = false := by rw [beq_eq_false_iff_ne]; exact hkw
        clear hkw
        go_wp2_with fail
        rw [← hV]
        clear hV y0
        refine (spec_one U g _ 2 _ HC.out ((HW.out.trans HWz.out).belowOf (HUC.out) (Nat.le_of_eq HUS.out)) (by omega)).mono ?_
        rintro e w5 ⟨⟨b5, rfl⟩, hc, hw⟩
        have hs5 := hw.size
        replace HO := Lib.hid (HO.out.within hw (by omega))
        replace HGb := Lib.hid (HGb.out.kept hw (.inr (by omega)))
        replace HZ := Lib.hid (HZ.out.kept hw (.inr (by omega)))
        replace HC := Lib.hid hc
        replace HWz := Lib.hid (HWz.out.trans hw)
        clear hc hw
        cases b5 with
        | false =>
          go_upto_region 15 with fail
          have y0 := HZ.out.cell (i := 0) rfl
          have y1 := HZ.out.cell (i := 1) rfl
          have y2 := HZ.out.cell (i := 2) rfl
          have y3 := HZ.out.cell (i := 3) rfl
          have hSE : SmallE ⟨z1, z2, z3, z4⟩ := ⟨⟨(⟨by omega, by omega⟩ : I64 z1), (⟨by omega, by omega⟩ : I64 z2)⟩, ⟨(⟨by omega, by omega⟩ : I64 z3), (⟨by omega, by omega⟩ : I64 z4)⟩⟩
          go_wp2_with (at_builtin; refine wpList_append_E1 rfl _ _ rfl (b := w5.heap.size) (d := ⟨z1, z2, z3, z4⟩) (HO.out.below ((Below.refl _ _).alloc (Nat.le_refl _) _)) rfl rfl (BoxN.new w5 [.int .i64 z1, .int .i64 z2, .int .i64 z3, .int .i64 z4] _) hSE (by simp; omega) (by rw [HLK.out]; omega) ?_; intro v4 w4 hown4 hb4)
          have hb5 : Below u4.heap.size w5 w4 := ((Below.refl _ _).alloc (by omega) _).trans hb4
          go_roundg (N - (k + 1))
          case measure => omega
          case rel => exact ⟨l ++ [⟨z1, z2, z3, z4⟩], sec, k + 1, by omega, by go_num, rfl, ⟨by omega, by omega⟩, by rw [List.length_append, HLK.out]; rfl, Lib.hid hown4, Lib.hid ((HC.out.belowB hb5 (by omega)).mono (by omega)), Lib.hid (HWz.out.belowStep hb5)⟩
        | true =>
          have c0 := HGb.out.cell (i := 0) rfl
          have c1 := HGb.out.cell (i := 1) rfl
          have c2 := HGb.out.cell (i := 2) rfl
          go_wp2_with fail
          refine (spec_element U g _ P Q G _ HC.out ((HW.out.trans HWz.out).belowOf (HUC.out) (Nat.le_of_eq HUS.out)) (by omega) HGR.out).mono ?_
          rintro e w6 ⟨⟨y, rfl, yl, yu⟩, hc, hw⟩
          have hs6 := hw.size
          replace HO := Lib.hid (HO.out.within hw (by omega))
          replace HZ := Lib.hid (HZ.out.kept hw (.inr (by omega)))
          replace HC := Lib.hid hc
          replace HWz := Lib.hid (HWz.out.trans hw)
          clear hc hw c0 c1 c2
          have y1 := HZ.out.cell (i := 1) rfl
          have fz := fun j => HZ.out.frozen j
          go_upto_region 15 with fail
          clear y1 fz
          obtain ⟨w7, hw7⟩ : ∃ u, u = w6.setCell ⟨wE.heap.size, 1, none⟩ (.int .i64 y) := ⟨_, rfl⟩
          rw [← hw7]
          have hs7 : w6.heap.size ≤ w7.heap.size := by rw [hw7]; exact Nat.le_of_eq size_setC.symm
          have hY : Within wE.heap.size (wE.heap.size + 1) w6 w7 := by rw [hw7]; exact (Within.refl _ _ _).setCell (b := wE.heap.size) (by omega) (by omega) 1 _
          replace HZ : Hid (BoxN w7 wE.heap.size 31 [.int .i64 z1, .int .i64 y, .int .i64 z3, .int .i64 z4]) := by unfold Hid; rw [hw7]; exact HZ.out.set 1 _
          have HC7 := Lib.hid (HC.out.setNew (b := wE.heap.size) (by omega) 1 (.int .i64 y))
          rw [← hw7] at HC7
          have HW7 : Hid (Within g (g + 1) u4 w7) := by unfold Hid; rw [hw7]; exact HWz.out.setNew (by omega) _ _
          have HO7 : Hid (OwnE w7 u4.heap.size (.slice ao k co) l) := (FrR.frame HO.out fun j hj => hY.block j (by have := HOL.out j hj; omega) (.inl (HOL.out j hj))).anyE
          clear hw7 hY HC HWz HO
          have HC := HC7
          have HWz := HW7
          have HO := HO7
          clear HC7 HW7 HO7
          have y0 := HZ.out.cell (i := 0) rfl
          have y1 := HZ.out.cell (i := 1) rfl
          have y2 := HZ.out.cell (i := 2) rfl
          have y3 := HZ.out.cell (i := 3) rfl
          have hSE : SmallE ⟨z1, y, z3, z4⟩ := ⟨⟨(⟨by omega, by omega⟩ : I64 z1), (⟨by omega, by omega⟩ : I64 y)⟩, ⟨(⟨by omega, by omega⟩ : I64 z3), (⟨by omega, by omega⟩ : I64 z4)⟩⟩
          go_wp2_with (at_builtin; refine wpList_append_E1 rfl _ _ rfl (b := w7.heap.size) (d := ⟨z1, y, z3, z4⟩) (HO.out.below ((Below.refl _ _).alloc (Nat.le_refl _) _)) rfl rfl (BoxN.new w7 [.int .i64 z1, .int .i64 y, .int .i64 z3, .int .i64 z4] _) hSE (by simp; omega) (by rw [HLK.out]; omega) ?_; intro v4 w4 hown4 hb4)
          have hb5 : Below u4.heap.size w7 w4 := ((Below.refl _ _).alloc (by omega) _).trans hb4
          go_roundg (N - (k + 1))
          case measure => omega
          case rel => exact ⟨l ++ [⟨z1, y, z3, z4⟩], sec, k + 1, by omega, by go_num, rfl, ⟨by omega, by omega⟩, by rw [List.length_append, HLK.out]; rfl, Lib.hid hown4, Lib.hid ((HC.out.belowB hb5 (by omega)).mono (by omega)), Lib.hid (HWz.out.belowStep hb5)⟩
    · obtain rfl : k = N := by omega
      have hd : decide ((k : Int) < (1 + x3)) = false := decide_eq_false (by omega)
      clear hlt
      replace HX0 := Lib.hid (HX0.out.kept HWz.out (.inl (by omega)))
      replace HZ1 := Lib.hid (HZ1.out.kept HWz.out (.inr (by omega)))
      replace HW := Lib.hid (HW.out.trans HWz.out)
      replace HC := Lib.hid (HC.out.mono (n' := 400000) (by omega))
      have HL5 : Hid (Since u4.heap.size wr (fun z => RdR rEqualLog z (.slice ao k co) l)) := Since.of_ownE HO.out (Nat.le_refl _)
      have HE5 : Hid (l.length = k) := HLK.out
      clear HWz HO HLK HGb
      have z_0_0 := HX0.out.cell (i := 0) rfl
      have z_0_1 := HX0.out.cell (i := 1) rfl
      have z_0_2 := HX0.out.cell (i := 2) rfl
      have z_1_0 := HZ1.out.cell (i := 0) rfl
      have z_1_1 := HZ1.out.cell (i := 1) rfl
      have z_1_2 := HZ1.out.cell (i := 2) rfl
      try (go_wp2_with fail)
      clear z_0_0 z_0_1 z_0_2 z_1_0 z_1_1 z_1_2
      refine (spec_one U g _ 20 _ HC.out (HW.out.belowOf HUC.out (Nat.le_of_eq HUS.out)) (by omega) ).mono ?_
      rintro e u6 ⟨⟨b6, rfl⟩, hc, hw⟩
      have hsz6 := hw.size
      replace HX0 := Lib.hid (HX0.out.kept hw (.inl (by omega)))
      replace HZ1 := Lib.hid (HZ1.out.kept hw (.inr (by omega)))
      replace HL5 := Lib.hid (HL5.out.within hw (by omega))
      replace HW := Lib.hid (HW.out.trans hw)
      replace HC := Lib.hid hc
      clear hc hw
      cases b6 with
      | false =>
        have z_0_0 := HX0.out.cell (i := 0) rfl
        have z_0_1 := HX0.out.cell (i := 1) rfl
        have z_0_2 := HX0.out.cell (i := 2) rfl
        have z_1_0 := HZ1.out.cell (i := 0) rfl
        have z_1_1 := HZ1.out.cell (i := 1) rfl
        have z_1_2 := HZ1.out.cell (i := 2) rfl
        try (go_wp2_with fail)
        clear z_0_0
        clear z_0_1
        clear z_0_2
        refine wp_region_noPanic ?_
        refine wp_region_V (fun w' => w'.cell? ⟨u1.heap.size, 0, none⟩ = some (.int .i64 P) ∧ w'.cell? ⟨u1.heap.size, 1, none⟩ = some (.int .i64 Q) ∧ w'.cell? ⟨u1.heap.size, 2, none⟩ = some (.int .i64 G)) 20 16 (.rd 0 (.rd 1 (.rd 3 (.rd 4 (.rd 5 (.rd 6 (.rd 7 (.rd 8 (.rd 9 (.rd 10 (.alt 2 (.alt 11 (.alt 12 (.alt 13 (.alt 14 (.alt 15 .done .nil) .nil) .nil) .nil) .nil) .nil))))))))))) [16, 17] (by kernel_rfl) (by kernel_rfl) rfl (fun _ _ _ _ _ h => h) ⟨box_at z_1_0 (Below.refl _ _).drew, box_at z_1_1 (Below.refl _ _).drew, box_at z_1_2 (Below.refl _ _).drew⟩ ?_
        simp only [pickV, pickN, List.getElem?_cons_zero, List.getElem?_cons_succ]
        have ew3 : IntKind.i64.wrap (2 * (1 + x3)) = 2 * (1 + x3) := IntWalk.i64_in _ (by omega)
        have ew4 : IntKind.i64.wrap ((2 * (1 + x3)) - 1) = (2 * (1 + x3)) - 1 := IntWalk.i64_in _ (by omega)
        repeat (refine' wpV_read _ (by kernel_rfl) (fun w' hS' => ?_) ?_; rotate_left; · ((try dsimp only at hS'); go_simp; (try with_reducible rfl)); (try simp only [Act.put, List.setIfInBounds_toArray, List.set_cons_zero, List.set_cons_succ]))
        have hdr : Below u6.heap.size u6 u6.drew := (Below.refl _ _).drew
        have hszd := hdr.size
        replace HX0 := Lib.hid (HX0.out.below hdr)
        replace HZ1 := Lib.hid (HZ1.out.below hdr)
        replace HL5 := Lib.hid (HL5.out.below hdr)
        replace HW := Lib.hid (HW.out.trans (Within.of_below hdr))
        replace HC := Lib.hid (HC.out.keep hdr)
        clear hdr
        refine wpV_do (by kernel_rfl) (fun K hK => ?_)
        -- 2: call
        go_simp
        go_at_call 97
        refine (spec_label U g _ _ HC.out (HW.out.belowOf HUC.out (Nat.le_of_eq HUS.out)) (by omega)).mono ?_
        rintro e ut1 ⟨⟨st1, rfl, hzt1⟩, hc, hw⟩
        have hszt1 := hw.size
        replace HX0 := Lib.hid (HX0.out.kept hw (.inl (by omega)))
        replace HZ1 := Lib.hid (HZ1.out.kept hw (.inr (by omega)))
        replace HL5 := Lib.hid (HL5.out.within hw (by omega))
        replace HW := Lib.hid (HW.out.trans hw)
        replace HC := Lib.hid hc
        clear hc hw
        clear z_1_0 z_1_1 z_1_2
        have z_1_0 := HZ1.out.cell (i := 0) rfl
        have z_1_1 := HZ1.out.cell (i := 1) rfl
        have z_1_2 := HZ1.out.cell (i := 2) rfl
        refine hK.out _ _ ⟨z_1_0, z_1_1, z_1_2⟩ (fun _ => ?_)
        clear hK K
        (try simp only [Act.put, List.setIfInBounds_toArray, List.set_cons_zero, List.set_cons_succ])
        refine wpV_do (by kernel_rfl) (fun K hK => ?_)
        -- 11: call
        go_simp
        go_at_call 98
        refine (spec_anyCoinsI U g _ P Q G ((2 * (1 + x3)) - 1) _ HC.out (HW.out.belowOf HUC.out (Nat.le_of_eq HUS.out)) (by omega) HGR.out (by omega)).mono ?_
        rintro e ut2 ⟨⟨vt2, lt2, rfl, hst2, hlt2⟩, hc, hw⟩
        have HLt2 := Lib.hid hst2
        obtain ⟨at2, nt2, ct2, rfl⟩ := hst2.here.shape
        have hnt2 : nt2 ≤ 1001 := by have h1 := hst2.here.len; omega
        have HEt2 := Lib.hid hst2.here.len
        clear hst2
        have hszt2 := hw.size
        replace HX0 := Lib.hid (HX0.out.kept hw (.inl (by omega)))
        replace HZ1 := Lib.hid (HZ1.out.kept hw (.inr (by omega)))
        replace HL5 := Lib.hid (HL5.out.within hw (by omega))
        replace HW := Lib.hid (HW.out.trans hw)
        replace HC := Lib.hid hc
        clear hc hw
        clear z_1_0 z_1_1 z_1_2
        have z_1_0 := HZ1.out.cell (i := 0) rfl
        have z_1_1 := HZ1.out.cell (i := 1) rfl
        have z_1_2 := HZ1.out.cell (i := 2) rfl
        refine hK.out _ _ ⟨z_1_0, z_1_1, z_1_2⟩ (fun _ => ?_)
        clear hK K
        (try simp only [Act.put, List.setIfInBounds_toArray, List.set_cons_zero, List.set_cons_succ])
        refine wpV_do (by kernel_rfl) (fun K hK => ?_)
        -- 12: store
        have r0 := HX0.out.cell (i := 0) rfl
        have r1 := HX0.out.cell (i := 1) rfl
        have r2 := HX0.out.cell (i := 2) rfl
        have fr := fun j => HX0.out.frozen j
        obtain ⟨Y3, hY⟩ : ∃ Y, Y = ((ut2.setCell ⟨w.heap.size, 0, none⟩ (.int .i64 P)).setCell ⟨w.heap.size, 1, none⟩ (.int .i64 Q)).setCell ⟨w.heap.size, 2, none⟩ (.int .i64 G) := ⟨_, rfl⟩
        have hYl : Within (w.heap.size) (w.heap.size + 1) ut2 Y3 := by rw [hY]; exact ((((Within.refl (w.heap.size) (w.heap.size + 1) ut2).setCell (b := w.heap.size) (by omega) (by omega) 0 (.int .i64 P)).setCell (b := w.heap.size) (by omega) (by omega) 1 (.int .i64 Q)).setCell (b := w.heap.size) (by omega) (by omega) 2 (.int .i64 G))
        have HYW : Hid (Within w.heap.size (w.heap.size + 1) ut2 Y3) := hYl.mono (by omega) (by omega)
        have HYB : Hid (Below w.heap.size w Y3) := hYl.belowU (HW.out.belowOf HBW.out (by omega)) (by omega)
        have HCS : Hid (∀ w', Within w.heap.size (w.heap.size + 1) ut2 w' → w'.cell? ⟨u1.heap.size, 0, none⟩ = some (.int .i64 P) ∧ w'.cell? ⟨u1.heap.size, 1, none⟩ = some (.int .i64 Q) ∧ w'.cell? ⟨u1.heap.size, 2, none⟩ = some (.int .i64 G)) := fun w' h => ⟨within_at h z_1_0 (by omega), within_at h z_1_1 (by omega), within_at h z_1_2 (by omega)⟩
        go_simp
        refine hK.out _ _ ?_ (fun _ => ?_)
        · rw [← hY]; exact HCS.out _ HYW.out
        rw [← hY]
        clear hK K fr r0 r1 r2
        replace HX0 : Hid (BoxN Y3 w.heap.size 24 [.int .i64 P, .int .i64 Q, .int .i64 G]) := by unfold Hid; rw [hY]; exact (((HX0.out.set 0 (.int .i64 P)).set 1 (.int .i64 Q)).set 2 (.int .i64 G))
        clear hY hYl
        (try simp only [Act.put, List.setIfInBounds_toArray, List.set_cons_zero, List.set_cons_succ])
        clear z_1_0 z_1_1 z_1_2
        obtain ⟨z_1_0, z_1_1, z_1_2⟩ := HCS.out _ HYW.out
        refine wpV_do (by kernel_rfl) (fun K hK => ?_)
        -- 13: load
        go_simp
        refine hK.out _ _ ⟨z_1_0, z_1_1, z_1_2⟩ (fun _ => ?_)
        clear hK K
        (try simp only [Act.put, List.setIfInBounds_toArray, List.set_cons_zero, List.set_cons_succ])
        refine wpV_do (by kernel_rfl) (fun K hK => ?_)
        -- 14: load
        go_simp
        refine hK.out _ _ ⟨z_1_0, z_1_1, z_1_2⟩ (fun _ => ?_)
        clear hK K
        (try simp only [Act.put, List.setIfInBounds_toArray, List.set_cons_zero, List.set_cons_succ])
        refine wpV_do (by kernel_rfl) (fun K hK => ?_)
        -- 15: load
        go_simp
        refine hK.out _ _ ⟨z_1_0, z_1_1, z_1_2⟩ (fun _ => ?_)
        clear hK K
        (try simp only [Act.put, List.setIfInBounds_toArray, List.set_cons_zero, List.set_cons_succ])
        refine wpV_done ?_
        go_wp2_with fail
        refine NoPanic.normal ?_
        clear z_1_0 z_1_1 z_1_2
        have t_HX0_0 := HX0.out.cell (i := 0) rfl
        have t_HX0_1 := HX0.out.cell (i := 1) rfl
        have t_HX0_2 := HX0.out.cell (i := 2) rfl
        try (go_wp2_with fail)
        refine bodyPost_ret (v := .tuple #[.agg #[.int .i64 P, .int .i64 Q, .int .i64 G], .string st1, .slice ao k co, .int .i64 x4, .int .i64 sec, .slice at2 nt2 ct2]) (by simp [results, Try.results19, go_sem, t_HX0_0, t_HX0_1, t_HX0_2]) rfl ⟨⟨_, _, _, _, _, _, _, _, _, _, rfl, HGR.out, hzt1, ⟨(HL5.out.within HYW.out (by omega)).mono (by omega), by have := HE5.out; omega⟩, ⟨by omega, by omega⟩, ⟨by omega, by omega⟩, ⟨(HLt2.out.within HYW.out (by omega)).mono (by omega), by have := HEt2.out; omega⟩⟩, HYB.out⟩
      | true =>
        have z_0_0 := HX0.out.cell (i := 0) rfl
        have z_0_1 := HX0.out.cell (i := 1) rfl
        have z_0_2 := HX0.out.cell (i := 2) rfl
        have z_1_0 := HZ1.out.cell (i := 0) rfl
        have z_1_1 := HZ1.out.cell (i := 1) rfl
        have z_1_2 := HZ1.out.cell (i := 2) rfl
        have lt_HX0 := HX0.out.lt
        have lt_HZ1 := HZ1.out.lt
        obtain ⟨V7, hV⟩ : ∃ V, V = u6.alloc (.cells #[.int .i64 (-1), .int .i64 (1 + x3)] 3) := ⟨_, rfl⟩
        have hbV : Below u6.heap.size u6 V7 := by rw [hV]; (repeat (first | exact Below.refl _ _ | assumption | refine Below.drew ?_ | refine Below.alloc ?_ (by first | (simp; done) | (simp; omega)) _ | refine Below.setCell ?_ (by first | (simp; done) | (simp; omega)) _))
        have HO3 : Hid (OwnI V7 u6.heap.size (.slice (some ⟨u6.heap.size, 0, none⟩) 2 2) [(-1), (1 + x3)]) := by unfold Hid; rw [hV]; have h := (OwnI.lit (B := u6.heap.size) u6 (by simp) (l := [(-1), (1 + x3)]) (AllI64.cons ⟨by decide, by decide⟩ (AllI64.cons (⟨by omega, by omega⟩ : I64 _) AllI64.nil)) rfl (by simp [maxLen]) 2 rfl); simpa using h
        have HZ4 : Hid (BoxN V7 u6.heap.size 3 [.int .i64 (-1), .int .i64 (1 + x3)]) := by unfold Hid; rw [hV]; have h := (BoxN.new u6 [.int .i64 (-1), .int .i64 (1 + x3)] 3); simpa using h
        have hgc : g < u6.heap.size := HC.out.lt
        go_wp2_with fail
        rw [← hV]
        have hsV7 : V7.heap.size = u6.heap.size + 1 := by rw [hV]; simp
        clear hV hgc
        replace HX0 := Lib.hid (HX0.out.below hbV)
        replace HZ1 := Lib.hid (HZ1.out.below hbV)
        replace HL5 := Lib.hid (HL5.out.below hbV)
        replace HW := Lib.hid (HW.out.trans (Within.of_below hbV))
        replace HC := Lib.hid (HC.out.keep hbV)
        clear hbV
        clear z_0_0 z_0_1 z_0_2 z_1_0 z_1_1 z_1_2
        clear lt_HX0
        clear lt_HZ1
        refine (spec_among U g _ _ [(-1), (1 + x3)] _ HC.out (HW.out.belowOf HUC.out (Nat.le_of_eq HUS.out)) (by omega) (Apart.of_ownI HO3.out (by omega)) (by simp)).mono ?_
        rintro e u8 ⟨⟨x8, rfl, hm8⟩, hc, hw⟩
        have x8l : -10 ≤ x8 := by simp at hm8; omega
        have x8u : x8 ≤ 2000000010 := by simp at hm8; omega
        clear hm8
        have hsz8 := hw.size
        replace HX0 := Lib.hid (HX0.out.kept hw (.inl (by omega)))
        replace HZ1 := Lib.hid (HZ1.out.kept hw (.inr (by omega)))
        replace HZ4 := Lib.hid (HZ4.out.kept hw (.inr (by omega)))
        replace HL5 := Lib.hid (HL5.out.within hw (by omega))
        replace HW := Lib.hid (HW.out.trans hw)
        replace HC := Lib.hid hc
        clear hc hw
        have z_0_0 := HX0.out.cell (i := 0) rfl
        have z_0_1 := HX0.out.cell (i := 1) rfl
        have z_0_2 := HX0.out.cell (i := 2) rfl
        have z_1_0 := HZ1.out.cell (i := 0) rfl
        have z_1_1 := HZ1.out.cell (i := 1) rfl
        have z_1_2 := HZ1.out.cell (i := 2) rfl
        have z_2_0 := HZ4.out.cell (i := 0) rfl
        have z_2_1 := HZ4.out.cell (i := 1) rfl
        try (go_wp2_with fail)
        clear z_0_0
        clear z_0_1
        clear z_0_2
        refine wp_region_noPanic ?_
        refine wp_region_V (fun w' => w'.cell? ⟨u1.heap.size, 0, none⟩ = some (.int .i64 P) ∧ w'.cell? ⟨u1.heap.size, 1, none⟩ = some (.int .i64 Q) ∧ w'.cell? ⟨u1.heap.size, 2, none⟩ = some (.int .i64 G) ∧ w'.cell? ⟨u6.heap.size, 0, none⟩ = some (.int .i64 (-1)) ∧ w'.cell? ⟨u6.heap.size, 1, none⟩ = some (.int .i64 (1 + x3))) 20 16 (.rd 0 (.rd 1 (.rd 3 (.rd 4 (.rd 5 (.rd 6 (.rd 7 (.rd 8 (.rd 9 (.rd 10 (.alt 2 (.alt 11 (.alt 12 (.alt 13 (.alt 14 (.alt 15 .done .nil) .nil) .nil) .nil) .nil) .nil))))))))))) [16, 17] (by kernel_rfl) (by kernel_rfl) rfl (fun _ _ _ _ _ h => h) ⟨box_at z_1_0 (Below.refl _ _).drew, box_at z_1_1 (Below.refl _ _).drew, box_at z_1_2 (Below.refl _ _).drew, box_at z_2_0 (Below.refl _ _).drew, box_at z_2_1 (Below.refl _ _).drew⟩ ?_
        simp only [pickV, pickN, List.getElem?_cons_zero, List.getElem?_cons_succ]
        have ew5 : IntKind.i64.wrap (2 * (1 + x3)) = 2 * (1 + x3) := IntWalk.i64_in _ (by omega)
        have ew6 : IntKind.i64.wrap ((2 * (1 + x3)) - 1) = (2 * (1 + x3)) - 1 := IntWalk.i64_in _ (by omega)
        repeat (refine' wpV_read _ (by kernel_rfl) (fun w' hS' => ?_) ?_; rotate_left; · ((try dsimp only at hS'); go_simp; (try with_reducible rfl)); (try simp only [Act.put, List.setIfInBounds_toArray, List.set_cons_zero, List.set_cons_succ]))
        have hdr : Below u8.heap.size u8 u8.drew := (Below.refl _ _).drew
        have hszd := hdr.size
        replace HX0 := Lib.hid (HX0.out.below hdr)
        replace HZ1 := Lib.hid (HZ1.out.below hdr)
        replace HZ4 := Lib.hid (HZ4.out.below hdr)
        replace HL5 := Lib.hid (HL5.out.below hdr)
        replace HW := Lib.hid (HW.out.trans (Within.of_below hdr))
        replace HC := Lib.hid (HC.out.keep hdr)
        clear hdr
        refine wpV_do (by kernel_rfl) (fun K hK => ?_)
        -- 2: call
        go_simp
        go_at_call 97
        refine (spec_label U g _ _ HC.out (HW.out.belowOf HUC.out (Nat.le_of_eq HUS.out)) (by omega)).mono ?_
        rintro e ut1 ⟨⟨st1, rfl, hzt1⟩, hc, hw⟩
        have hszt1 := hw.size
        replace HX0 := Lib.hid (HX0.out.kept hw (.inl (by omega)))
        replace HZ1 := Lib.hid (HZ1.out.kept hw (.inr (by omega)))
        replace HZ4 := Lib.hid (HZ4.out.kept hw (.inr (by omega)))
        replace HL5 := Lib.hid (HL5.out.within hw (by omega))
        replace HW := Lib.hid (HW.out.trans hw)
        replace HC := Lib.hid hc
        clear hc hw
        clear z_1_0 z_1_1 z_1_2 z_2_0 z_2_1
        have z_1_0 := HZ1.out.cell (i := 0) rfl
        have z_1_1 := HZ1.out.cell (i := 1) rfl
        have z_1_2 := HZ1.out.cell (i := 2) rfl
        have z_2_0 := HZ4.out.cell (i := 0) rfl
        have z_2_1 := HZ4.out.cell (i := 1) rfl
        refine hK.out _ _ ⟨z_1_0, z_1_1, z_1_2, z_2_0, z_2_1⟩ (fun _ => ?_)
        clear hK K
        (try simp only [Act.put, List.setIfInBounds_toArray, List.set_cons_zero, List.set_cons_succ])
        refine wpV_do (by kernel_rfl) (fun K hK => ?_)
        -- 11: call
        go_simp
        go_at_call 98
        refine (spec_anyCoinsI U g _ P Q G ((2 * (1 + x3)) - 1) _ HC.out (HW.out.belowOf HUC.out (Nat.le_of_eq HUS.out)) (by omega) HGR.out (by omega)).mono ?_
        rintro e ut2 ⟨⟨vt2, lt2, rfl, hst2, hlt2⟩, hc, hw⟩
        have HLt2 := Lib.hid hst2
        obtain ⟨at2, nt2, ct2, rfl⟩ := hst2.here.shape
        have hnt2 : nt2 ≤ 1001 := by have h1 := hst2.here.len; omega
        have HEt2 := Lib.hid hst2.here.len
        clear hst2
        have hszt2 := hw.size
        replace HX0 := Lib.hid (HX0.out.kept hw (.inl (by omega)))
        replace HZ1 := Lib.hid (HZ1.out.kept hw (.inr (by omega)))
        replace HZ4 := Lib.hid (HZ4.out.kept hw (.inr (by omega)))
        replace HL5 := Lib.hid (HL5.out.within hw (by omega))
        replace HW := Lib.hid (HW.out.trans hw)
        replace HC := Lib.hid hc
        clear hc hw
        clear z_1_0 z_1_1 z_1_2 z_2_0 z_2_1
        have z_1_0 := HZ1.out.cell (i := 0) rfl
        have z_1_1 := HZ1.out.cell (i := 1) rfl
        have z_1_2 := HZ1.out.cell (i := 2) rfl
        have z_2_0 := HZ4.out.cell (i := 0) rfl
        have z_2_1 := HZ4.out.cell (i := 1) rfl
        refine hK.out _ _ ⟨z_1_0, z_1_1, z_1_2, z_2_0, z_2_1⟩ (fun _ => ?_)
        clear hK K
        (try simp only [Act.put, List.setIfInBounds_toArray, List.set_cons_zero, List.set_cons_succ])
        refine wpV_do (by kernel_rfl) (fun K hK => ?_)
        -- 12: store
        have r0 := HX0.out.cell (i := 0) rfl
        have r1 := HX0.out.cell (i := 1) rfl
        have r2 := HX0.out.cell (i := 2) rfl
        have fr := fun j => HX0.out.frozen j
        obtain ⟨Y3, hY⟩ : ∃ Y, Y = ((ut2.setCell ⟨w.heap.size, 0, none⟩ (.int .i64 P)).setCell ⟨w.heap.size, 1, none⟩ (.int .i64 Q)).setCell ⟨w.heap.size, 2, none⟩ (.int .i64 G) := ⟨_, rfl⟩
        have hYl : Within (w.heap.size) (w.heap.size + 1) ut2 Y3 := by rw [hY]; exact ((((Within.refl (w.heap.size) (w.heap.size + 1) ut2).setCell (b := w.heap.size) (by omega) (by omega) 0 (.int .i64 P)).setCell (b := w.heap.size) (by omega) (by omega) 1 (.int .i64 Q)).setCell (b := w.heap.size) (by omega) (by omega) 2 (.int .i64 G))
        have HYW : Hid (Within w.heap.size (w.heap.size + 1) ut2 Y3) := hYl.mono (by omega) (by omega)
        have HYB : Hid (Below w.heap.size w Y3) := hYl.belowU (HW.out.belowOf HBW.out (by omega)) (by omega)
        have HCS : Hid (∀ w', Within w.heap.size (w.heap.size + 1) ut2 w' → w'.cell? ⟨u1.heap.size, 0, none⟩ = some (.int .i64 P) ∧ w'.cell? ⟨u1.heap.size, 1, none⟩ = some (.int .i64 Q) ∧ w'.cell? ⟨u1.heap.size, 2, none⟩ = some (.int .i64 G) ∧ w'.cell? ⟨u6.heap.size, 0, none⟩ = some (.int .i64 (-1)) ∧ w'.cell? ⟨u6.heap.size, 1, none⟩ = some (.int .i64 (1 + x3))) := fun w' h => ⟨within_at h z_1_0 (by omega), within_at h z_1_1 (by omega), within_at h z_1_2 (by omega), within_at h z_2_0 (by omega), within_at h z_2_1 (by omega)⟩
        go_simp
        refine hK.out _ _ ?_ (fun _ => ?_)
        · rw [← hY]; exact HCS.out _ HYW.out
        rw [← hY]
        clear hK K fr r0 r1 r2
        replace HX0 : Hid (BoxN Y3 w.heap.size 24 [.int .i64 P, .int .i64 Q, .int .i64 G]) := by unfold Hid; rw [hY]; exact (((HX0.out.set 0 (.int .i64 P)).set 1 (.int .i64 Q)).set 2 (.int .i64 G))
        clear hY hYl
        (try simp only [Act.put, List.setIfInBounds_toArray, List.set_cons_zero, List.set_cons_succ])
        clear z_1_0 z_1_1 z_1_2 z_2_0 z_2_1
        obtain ⟨z_1_0, z_1_1, z_1_2, z_2_0, z_2_1⟩ := HCS.out _ HYW.out
        refine wpV_do (by kernel_rfl) (fun K hK => ?_)
        -- 13: load
        go_simp
        refine hK.out _ _ ⟨z_1_0, z_1_1, z_1_2, z_2_0, z_2_1⟩ (fun _ => ?_)
        clear hK K
        (try simp only [Act.put, List.setIfInBounds_toArray, List.set_cons_zero, List.set_cons_succ])
        refine wpV_do (by kernel_rfl) (fun K hK => ?_)
        -- 14: load
        go_simp
        refine hK.out _ _ ⟨z_1_0, z_1_1, z_1_2, z_2_0, z_2_1⟩ (fun _ => ?_)
        clear hK K
        (try simp only [Act.put, List.setIfInBounds_toArray, List.set_cons_zero, List.set_cons_succ])
        refine wpV_do (by kernel_rfl) (fun K hK => ?_)
        -- 15: load
        go_simp
        refine hK.out _ _ ⟨z_1_0, z_1_1, z_1_2, z_2_0, z_2_1⟩ (fun _ => ?_)
        clear hK K
        (try simp only [Act.put, List.setIfInBounds_toArray, List.set_cons_zero, List.set_cons_succ])
        refine wpV_done ?_
        go_wp2_with fail
        refine NoPanic.normal ?_
        clear z_1_0 z_1_1 z_1_2 z_2_0 z_2_1
        have t_HX0_0 := HX0.out.cell (i := 0) rfl
        have t_HX0_1 := HX0.out.cell (i := 1) rfl
        have t_HX0_2 := HX0.out.cell (i := 2) rfl
        try (go_wp2_with fail)
        refine bodyPost_ret (v := .tuple #[.agg #[.int .i64 P, .int .i64 Q, .int .i64 G], .string st1, .slice ao k co, .int .i64 x8, .int .i64 sec, .slice at2 nt2 ct2]) (by simp [results, Try.results19, go_sem, t_HX0_0, t_HX0_1, t_HX0_2]) rfl ⟨⟨_, _, _, _, _, _, _, _, _, _, rfl, HGR.out, hzt1, ⟨(HL5.out.within HYW.out (by omega)).mono (by omega), by have := HE5.out; omega⟩, ⟨by omega, by omega⟩, ⟨by omega, by omega⟩, ⟨(HLt2.out.within HYW.out (by omega)).mono (by omega), by have := HEt2.out; omega⟩⟩, HYB.out⟩
end Go.Proofs.Ytegomgnlhcbmfaa
