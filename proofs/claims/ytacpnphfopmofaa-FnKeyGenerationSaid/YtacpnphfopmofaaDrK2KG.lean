/- Draws: faults of dealers (printed by gen_drk2.py). -/
import Derived.Test.YtacpnphfopmofaaFrKG
namespace Go.Proofs.Ytacpnphfopmofaa
open Go.RowKit
set_option linter.unusedSimpArgs false
set_option linter.unusedVariables false

structure FaultD where
  d : Int
  t : Int
  x : Int
  a : Bool
def rFault : RowK FaultD where
  width := 4
  rd w vs d := vs = [.int .i64 d.d, .int .i64 d.t, .int .i64 d.x, .bool d.a] ∧ I64 d.d ∧ I64 d.t ∧ I64 d.x
  own w lo hi vs d := vs = [.int .i64 d.d, .int .i64 d.t, .int .i64 d.x, .bool d.a] ∧ I64 d.d ∧ I64 d.t ∧ I64 d.x
  rd_len := by rintro w vs d ⟨rfl, _⟩; rfl
  rd_one := by
    rintro w vs d ⟨rfl, _⟩ v hv
    simp only [List.mem_cons, List.not_mem_nil, or_false] at hv
    rcases hv with rfl | rfl | rfl | rfl <;> rfl
  rd_below := by rintro w w' vs d h hb; exact h
  own_rd := by rintro w lo hi vs d h; exact h
  own_frame := by rintro w w' lo hi vs d h _; exact h
  own_mono := by rintro w lo hi lo' hi' vs d h _ _; exact h
theorem infoFa : ∃ i, Try.prog.info? 191 = some i ∧ i.zero = some (.agg #[.int .i64 0, .int .i64 0, .int .i64 0, .bool false]) ∧ i.size = 4 ∧ i.bytes ≤ 1000 := by
  have h : (Try.prog.info? 191).map (fun i => (i.zero, i.size, decide (i.bytes ≤ 1000))) = some (some (.agg #[.int .i64 0, .int .i64 0, .int .i64 0, .bool false]), 4, true) := by kernel_rfl
  obtain ⟨i, hi, hz⟩ := Option.map_eq_some_iff.1 h
  simp only [Prod.mk.injEq] at hz
  exact ⟨i, hi, hz.1, hz.2.1, of_decide_eq_true hz.2.2⟩
/-- own faults -/
def FaR (w : World) (B : Nat) (v : Value) (fs : List FaultD) : Prop := FrR 191 rFault w w B v fs
theorem FaR.toW {w w' : World} {B : Nat} {v : Value} {fs : List FaultD} (h : FrR 191 rFault w w' B v fs) : FaR w' B v fs := by
  obtain ⟨css, hl, hO, hel⟩ := h
  exact ⟨css, hl, hO, hel⟩
theorem FaR.below {w w' : World} {B : Nat} {v : Value} {fs : List FaultD} (h : FaR w B v fs) (hb : Below w.heap.size w w') : FaR w' B v fs := FaR.toW (FrR.below h hb)
theorem FaR.rd {w : World} {B : Nat} {v : Value} {fs : List FaultD} (h : FaR w B v fs) : RdR rFault w v fs := FrR.rd h (Below.refl _ _)
theorem FaR.shape {w : World} {B : Nat} {v : Value} {fs : List FaultD} (h : FaR w B v fs) : ∃ a c, v = .slice a fs.length c := by
  obtain ⟨a, n, c, e⟩ := h.rd.shape
  have := (e ▸ h.rd : RdR rFault w (.slice a n c) fs).len
  exact ⟨a, c, by rw [e, this]⟩
theorem FaR.within {w w' : World} {B g : Nat} {v : Value} {fs : List FaultD} (h : FaR w B v fs) (hw : Within g (g + 1) w w') (hg : g < B) : FaR w' B v fs :=
  FaR.toW (FrR.frame h fun k hk => by
    have := FrR.lt h k hk
    exact hw.block k this.2 (.inr (by omega)))
theorem FaR.mono {w : World} {B B' : Nat} {v : Value} {fs : List FaultD} (h : FaR w B v fs) (hB : B' ≤ B) : FaR w B' v fs := FrR.mono h hB
theorem wpList_append_Fa {ops : Array Oper} {rest : List Oper} {o : Oper} {ac : Act} {w : World} {Q : Exit → Act → World → Prop} (hgd : o.guard = none) (s y : Operand)
    (ho : o.op = .call { callee := .builtin .append, args := #[s, y], argTypes := #[167, 167] })
    (B : Nat) (v : Value) (fs : List FaultD) (f : FaultD) (b c : Nat) (hs : ac.eval s = v) (hy : ac.eval y = .slice (some ⟨b, 0, none⟩) 1 c) (hown : FaR w B v fs) (hB : B ≤ w.heap.size)
    (hx : BoxN w b 191 [.int .i64 f.d, .int .i64 f.t, .int .i64 f.x, .bool f.a]) (hf : I64 f.d ∧ I64 f.t ∧ I64 f.x) (hlen : fs.length ≤ 1000)
    (hK : ∀ v' w', FaR w' B v' (fs ++ [f]) → Below B w w' → wpList Try.prog ops Q rest (ac.put o.dst v') w') : wpList Try.prog ops Q (o :: rest) ac w := by
  obtain ⟨i, hi, hz, hsz, hby⟩ := infoFa
  refine wpList_append_Fr (e := 191) (R := rFault) (es := [f]) (w0 := w) (B := B) (v := v) (ds := fs) 167 i _ Try.underlying167 hi hz hsz hby rfl (by decide) hgd s y ho hown ⟨b, 0, none⟩ 1 c [[.int .i64 f.d, .int .i64 f.t, .int .i64 f.x, .bool f.a]] hs hy rfl rfl (fun j u hu => ?_) (fun i h1 h2 => ?_) hB (by simp; omega) (fun v' w' h1 h2 => hK v' w' (FaR.toW h1) h2)
  · rw [Addr.add_lit, Nat.zero_add]
    have hj : j < 4 := by have := (List.getElem?_eq_some_iff.1 hu).1; simpa using this
    rcases (by omega : j = 0 ∨ j = 1 ∨ j = 2 ∨ j = 3) with rfl | rfl | rfl | rfl <;> (simp at hu; subst hu; exact hx.cell rfl)
  · have e : i = 0 := by simp at h1; exact h1
    subst e
    exact ⟨rfl, hf⟩
set_option maxRecDepth 100000 in
set_option maxHeartbeats 4000000 in
theorem spec_faults (w0 : World) (g : Nat) (n P Q G : Int) (tn : Nat) (w : World) (h : Cur w0 w g n) (hb : Below w0.heap.size w0 w) (hn : n ≤ 500000000000000) (hgr : GrB ⟨P, Q, G⟩) (hm : 1 ≤ tn ∧ tn ≤ 7) :
    Calls Try.prog 201 #[.pointer (some ⟨g, 0, none⟩), .agg #[.int .i64 P, .int .i64 Q, .int .i64 G], .int .i64 tn] w fun e w' => (∃ v fs, e = .returned v ∧ FaR w' w.heap.size v fs ∧ fs.length ≤ 5) ∧ Cur w0 w' g (n + 1000000) ∧ Within g (g + 1) w w' := by
  have HGR := Lib.hid hgr
  clear hgr
  obtain ⟨hm1, hm2⟩ := hm
  have HC0 := Lib.hid h
  have hgl := h.lt
  have hge := h.ge
  obtain ⟨W, hW⟩ : ∃ W, W = w.alloc (.cells #[.int .i64 P, .int .i64 Q, .int .i64 G] 24) := ⟨_, rfl⟩
  have hbW : Below w.heap.size w W := by rw [hW]; exact (Below.refl _ _).alloc (Nat.le_refl _) _
  have HX : Hid (BoxN W w.heap.size 24 [.int .i64 P, .int .i64 Q, .int .i64 G]) := by unfold Hid; rw [hW]; exact BoxN.new w [.int .i64 P, .int .i64 Q, .int .i64 G] _
  have hsW : w.heap.size < W.heap.size := by rw [hW]; simp
  have HC := Lib.hid (h.keep hbW)
  have HWW : Hid (Within g (g + 1) w W) := Within.of_below hbW
  have HBW : Hid (Below w0.heap.size w0 W) := hb.trans (hbW.mono hb.size)
  have hgW : g < W.heap.size := by omega
  have HO0 : Hid (∀ u B, FaR u B (.slice none 0 0) []) := fun u B => FrR.nil _ _ _ _ _
  clear h hb hbW
  go_enter Try.func201, Try.ntmps201
  go_wp2_with fail
  rw [← hW]
  clear hW
  try (go_wp2_with fail)
  refine (spec_pick w0 g _ 4 _ HC.out HBW.out (by omega)).mono ?_
  rintro e wP ⟨⟨x, rfl, hx0, _, hx2, _⟩, hc, hw⟩
  replace hx2 := hx2 (by omega)
  obtain ⟨K, rfl⟩ := Int.eq_ofNat_of_zero_le hx0
  have hK3 : K ≤ 3 := by omega
  have HCP := Lib.hid (hc.mono (n' := n + 20) (by omega))
  have HWP := Lib.hid hw
  clear hc hw hx0 hx2
  go_wp2_with fail
  go_loopg [7, 8] K (fun gk ov kv wr => ∃ (fs : List FaultD), fs.length ≤ K - gk ∧ gk ≤ K ∧ kv = .int .i64 (gk : Int) ∧ FaR wr W.heap.size ov fs ∧ Cur w0 wr g (n + 20 + 100000 * ((K : Int) - gk)) ∧ Within g (g + 1) W wr)
  case atStart => exact ⟨[], by simp, by omega, rfl, HO0.out _ _, HCP.out.mono (by omega), HWP.out⟩
  case round =>
    obtain ⟨fs, hfl, hgk, rfl, hO, hC, hWr⟩ := hrel
    obtain ⟨uA, rfl⟩ : ∃ u, u = wr := ⟨_, rfl⟩
    have HXr := Lib.hid (HX.out.kept hWr (.inr (by omega)))
    have hsr := hWr.size
    have HFL := Lib.hid hfl
    obtain ⟨ao, co, rfl⟩ := hO.shape
    obtain ⟨no, hno⟩ : ∃ z, fs.length = z := ⟨_, rfl⟩
    have hno3 : no ≤ 3 := by omega
    have HNO := Lib.hid hno
    rw [hno] at hO ⊢
    have HO := Lib.hid hO
    have HWr := Lib.hid hWr
    have hC' := hC
    clear hWr hO hfl hno hC HC
    cases gk with
    | zero =>
      have hpos : decide ((0 : Int) < 0) = false := by decide
      have HC := Lib.hid hC'
      clear hC'
      go_wp2_with fail
      refine (spec_one w0 g _ 24 _ HC.out (HWr.out.belowOf HBW.out (by omega)) (by omega)).mono ?_
      rintro e wB ⟨⟨q, rfl⟩, hc, hw⟩
      replace HXr := Lib.hid (HXr.out.kept hw (.inr (by omega)))
      have HOB := Lib.hid (HO.out.within hw (by omega))
      have HW := Lib.hid (HWr.out.trans hw)
      replace HC := Lib.hid (hc.mono (n' := n + 400000) (by omega))
      have hsB := hw.size
      clear hc hw HWr HO
      cases q with
      | false =>
        go_wp2_with fail
        go_ret
        exact ⟨⟨_, fs, rfl, HOB.out.mono (by omega), by have := HNO.out; omega⟩, HC.out.mono (by omega), HWW.out.trans HW.out⟩
      | true =>
        go_wp2_with fail
        obtain ⟨uA, rfl⟩ : ∃ u, u = wB := ⟨_, rfl⟩
        have ewm : IntKind.i64.wrap ((tn : Int) + 1) = (tn : Int) + 1 := IntWalk.i64_in _ (by omega)
        have z_0_0 := HXr.out.cell (i := 0) rfl
        have z_0_1 := HXr.out.cell (i := 1) rfl
        have z_0_2 := HXr.out.cell (i := 2) rfl
        try (go_wp2_with fail)
        refine wp_region_noPanic ?_
        refine wp_region_Q (Within g (g + 1)) (DrawS w0 uA g _ 5000 (fun w' => w'.cell? ⟨w.heap.size, 0, none⟩ = some (.int .i64 P) ∧ w'.cell? ⟨w.heap.size, 1, none⟩ = some (.int .i64 Q) ∧ w'.cell? ⟨w.heap.size, 2, none⟩ = some (.int .i64 G))) 20 [(0, []), (1, []), (2, []), (3, [0]), (4, [0]), (5, [3, 0]), (6, []), (7, []), (8, [0]), (9, [0]), (10, [3, 0]), (11, []), (12, []), (13, [1, 0]), (14, [8, 3, 0]), (15, [0])] [16, 17] (by kernel_rfl) (by kernel_rfl) (by kernel_rfl) rfl (fun _ _ _ _ h => h) (DrawS.good _ _ _ _ _ _) ⟨(Within.refl _ _ _).drew, by simpa using HC.out.keep (Below.refl _ _).drew, ⟨box_at z_0_0 (Below.refl _ _).drew, box_at z_0_1 (Below.refl _ _).drew, box_at z_0_2 (Below.refl _ _).drew⟩⟩ ?_
        simp only [pickP, pickN, List.getElem?_cons_zero, List.getElem?_cons_succ]
        iterate 4 (refine' chainQ_read (DrawS.good _ _ _ _ _ _) _ rfl rfl (fun m w' hm' hS' => ?_) ?_; rotate_left; · (simp only [lookP, allP, Act.put, List.getElem?_cons_zero, List.getElem?_cons_succ, List.setIfInBounds_toArray, List.set_cons_zero, List.set_cons_succ]; (try dsimp only [DrawS] at hS'); go_simp; (try with_reducible rfl)))
        -- 4: buildSlice 42 3 #[(0, const (int i64 0)), (1, t38), (2, const (int i64 1))]
        refine chainQ_do (d := (some 39)) (fun v z => ∃ b, v = .slice (some ⟨b, 0, none⟩) 3 3 ∧ uA.heap.size ≤ b ∧ OwnI z uA.heap.size v [0, (tn : Int) + 1, 1]) (fun v w1 w2 hw h => by obtain ⟨b, e, h1, h2⟩ := h; exact ⟨b, e, h1, h2.within hw (by omega)⟩) rfl rfl (fun m w' hm' hS' => ?_) ?_
        · simp only [lookP, allP, Act.put, List.getElem?_cons_zero, List.getElem?_cons_succ, List.setIfInBounds_toArray, List.set_cons_zero, List.set_cons_succ]
          intro K hK
          replace hm' : m < 16 := hm'
          go_simp
          have hbn := (Below.refl w'.heap.size w').alloc (Nat.le_refl _) (.cells (([0, (tn : Int) + 1, 1] : List Int).map (Value.int .i64)).toArray 3)
          have hw := (Within.of_below hbn : Within g (g + 1) _ _)
          have hsz0 := hS'.1.size
          refine hK.out _ _ hw ⟨hS'.1.trans hw, (hS'.2.1.keep hbn).mono (by omega), ⟨within_at (hS'.1.trans hw) z_0_0 (.inr (by omega)), within_at (hS'.1.trans hw) z_0_1 (.inr (by omega)), within_at (hS'.1.trans hw) z_0_2 (.inr (by omega))⟩⟩ ⟨_, rfl, hsz0, OwnI.lit w' hsz0 (by intro x hx; simp at hx; unfold I64; omega) rfl (by simp [maxLen]) _ rfl⟩
        -- 5: call { callee := value (func 71), args := #[t36, t39], argTypes := #[82, 42] }
        refine chainQ_do (d := (some 40)) (fun v z => ∃ x : Int, v = .int .i64 x ∧ 0 ≤ x ∧ x ≤ 8) (fun v w1 w2 hw h => h) rfl rfl (fun m w' hm' hS' => ?_) ?_
        · simp only [lookP, allP, Act.put, List.getElem?_cons_zero, List.getElem?_cons_succ, List.setIfInBounds_toArray, List.set_cons_zero, List.set_cons_succ]
          intro x4 hx4
          intro K hK
          replace hm' : m < 16 := hm'
          obtain ⟨b, rfl, hb1, hb2⟩ := hx4
          go_simp
          go_at_call 71
          refine (spec_among w0 g _ _ [0, (tn : Int) + 1, 1] _ hS'.2.1 (hS'.1.belowOf (HW.out.belowOf HBW.out hge) hge) (by omega) (Apart.of_ownI hb2 (by omega)) (by simp)).mono ?_
          rintro e z ⟨⟨x, rfl, hm⟩, hc, hw⟩
          exact hK.out _ _ hw ⟨hS'.1.trans hw, hc.mono (by omega), ⟨within_at (hS'.1.trans hw) z_0_0 (.inr (by omega)), within_at (hS'.1.trans hw) z_0_1 (.inr (by omega)), within_at (hS'.1.trans hw) z_0_2 (.inr (by omega))⟩⟩ ⟨x, rfl, by simp at hm; omega, by simp at hm; omega⟩
        iterate 3 (refine' chainQ_read (DrawS.good _ _ _ _ _ _) _ rfl rfl (fun m w' hm' hS' => ?_) ?_; rotate_left; · (simp only [lookP, allP, Act.put, List.getElem?_cons_zero, List.getElem?_cons_succ, List.setIfInBounds_toArray, List.set_cons_zero, List.set_cons_succ]; (try dsimp only [DrawS] at hS'); go_simp; (try with_reducible rfl)))
        -- 9: buildSlice 42 2 #[(0, const (int i64 0)), (1, t43)]
        refine chainQ_do (d := (some 44)) (fun v z => ∃ b, v = .slice (some ⟨b, 0, none⟩) 2 2 ∧ uA.heap.size ≤ b ∧ OwnI z uA.heap.size v [0, (tn : Int) + 1]) (fun v w1 w2 hw h => by obtain ⟨b, e, h1, h2⟩ := h; exact ⟨b, e, h1, h2.within hw (by omega)⟩) rfl rfl (fun m w' hm' hS' => ?_) ?_
        · simp only [lookP, allP, Act.put, List.getElem?_cons_zero, List.getElem?_cons_succ, List.setIfInBounds_toArray, List.set_cons_zero, List.set_cons_succ]
          intro K hK
          replace hm' : m < 16 := hm'
          go_simp
          have hbn := (Below.refl w'.heap.size w').alloc (Nat.le_refl _) (.cells (([0, (tn : Int) + 1] : List Int).map (Value.int .i64)).toArray 3)
          have hw := (Within.of_below hbn : Within g (g + 1) _ _)
          have hsz0 := hS'.1.size
          refine hK.out _ _ hw ⟨hS'.1.trans hw, (hS'.2.1.keep hbn).mono (by omega), ⟨within_at (hS'.1.trans hw) z_0_0 (.inr (by omega)), within_at (hS'.1.trans hw) z_0_1 (.inr (by omega)), within_at (hS'.1.trans hw) z_0_2 (.inr (by omega))⟩⟩ ⟨_, rfl, hsz0, OwnI.lit w' hsz0 (by intro x hx; simp at hx; unfold I64; omega) rfl (by simp [maxLen]) _ rfl⟩
        -- 10: call { callee := value (func 71), args := #[t41, t44], argTypes := #[82, 42] }
        refine chainQ_do (d := (some 45)) (fun v z => ∃ x : Int, v = .int .i64 x ∧ 0 ≤ x ∧ x ≤ 8) (fun v w1 w2 hw h => h) rfl rfl (fun m w' hm' hS' => ?_) ?_
        · simp only [lookP, allP, Act.put, List.getElem?_cons_zero, List.getElem?_cons_succ, List.setIfInBounds_toArray, List.set_cons_zero, List.set_cons_succ]
          intro x9 hx9
          intro K hK
          replace hm' : m < 16 := hm'
          obtain ⟨b, rfl, hb1, hb2⟩ := hx9
          go_simp
          go_at_call 71
          refine (spec_among w0 g _ _ [0, (tn : Int) + 1] _ hS'.2.1 (hS'.1.belowOf (HW.out.belowOf HBW.out hge) hge) (by omega) (Apart.of_ownI hb2 (by omega)) (by simp)).mono ?_
          rintro e z ⟨⟨x, rfl, hm⟩, hc, hw⟩
          exact hK.out _ _ hw ⟨hS'.1.trans hw, hc.mono (by omega), ⟨within_at (hS'.1.trans hw) z_0_0 (.inr (by omega)), within_at (hS'.1.trans hw) z_0_1 (.inr (by omega)), within_at (hS'.1.trans hw) z_0_2 (.inr (by omega))⟩⟩ ⟨x, rfl, by simp at hm; omega, by simp at hm; omega⟩
        iterate 2 (refine' chainQ_read (DrawS.good _ _ _ _ _ _) _ rfl rfl (fun m w' hm' hS' => ?_) ?_; rotate_left; · (simp only [lookP, allP, Act.put, List.getElem?_cons_zero, List.getElem?_cons_succ, List.setIfInBounds_toArray, List.set_cons_zero, List.set_cons_succ]; (try dsimp only [DrawS] at hS'); go_simp; (try with_reducible rfl)))
        -- 13: call { callee := value (func 45), args := #[t46, t47], argTypes := #[82, 24] }
        refine chainQ_do (d := (some 48)) (fun v z => ∃ x : Int, v = .int .i64 x ∧ -10 ≤ x ∧ x ≤ 2000000010) (fun v w1 w2 hw h => h) rfl rfl (fun m w' hm' hS' => ?_) ?_
        · simp only [lookP, allP, Act.put, List.getElem?_cons_zero, List.getElem?_cons_succ, List.setIfInBounds_toArray, List.set_cons_zero, List.set_cons_succ]
          intro K hK
          replace hm' : m < 16 := hm'
          go_simp
          go_at_call 45
          refine (spec_anyExpo w0 g _ P Q G _ hS'.2.1 (hS'.1.belowOf (HW.out.belowOf HBW.out hge) hge) (by omega) HGR.out).mono ?_
          rintro e z ⟨⟨x, rfl, x0, x1⟩, hc, hw⟩
          exact hK.out _ _ hw ⟨hS'.1.trans hw, hc.mono (by omega), ⟨within_at (hS'.1.trans hw) z_0_0 (.inr (by omega)), within_at (hS'.1.trans hw) z_0_1 (.inr (by omega)), within_at (hS'.1.trans hw) z_0_2 (.inr (by omega))⟩⟩ ⟨x, rfl, by omega, by omega⟩
        -- 14: build 191 #[(0, t40), (1, t45), (2, t48)]
        refine chainQ_have (DrawS.good _ _ _ _ _ _) (d := (some 49)) (fun v z => ∃ f : FaultD, v = .agg #[.int .i64 f.d, .int .i64 f.t, .int .i64 f.x, .bool f.a] ∧ (I64 f.d ∧ I64 f.t ∧ I64 f.x)) (fun v w1 w2 hw h => h) rfl rfl (fun m w' hm' hS' => ?_) ?_
        · simp only [lookP, allP, Act.put, List.getElem?_cons_zero, List.getElem?_cons_succ, List.setIfInBounds_toArray, List.set_cons_zero, List.set_cons_succ]
          intro x5 hx5
          intro x10 hx10
          intro x13 hx13
          obtain ⟨y5, rfl, l5, u5⟩ := hx5
          obtain ⟨y10, rfl, l10, uE0⟩ := hx10
          obtain ⟨y13, rfl, l13, uE3⟩ := hx13
          refine ⟨_, ?_, ⟨y5, y10, y13, false⟩, rfl, (show I64 y5 from ⟨by omega, by omega⟩), (show I64 y10 from ⟨by omega, by omega⟩), (show I64 y13 from ⟨by omega, by omega⟩)⟩
          go_simp
        -- 15: buildSlice 167 1 #[(0, t49)]
        refine chainQ_do (d := (some 50)) (fun v z => ∃ (b : Nat) (f : FaultD), v = .slice (some ⟨b, 0, none⟩) 1 1 ∧ uA.heap.size ≤ b ∧ BoxN z b 191 [.int .i64 f.d, .int .i64 f.t, .int .i64 f.x, .bool f.a] ∧ (I64 f.d ∧ I64 f.t ∧ I64 f.x)) (fun v w1 w2 hw h => by obtain ⟨b, f, e, h1, h2, h3⟩ := h; exact ⟨b, f, e, h1, h2.kept hw (.inr (by omega)), h3⟩) rfl rfl (fun m w' hm' hS' => ?_) ?_
        · simp only [lookP, allP, Act.put, List.getElem?_cons_zero, List.getElem?_cons_succ, List.setIfInBounds_toArray, List.set_cons_zero, List.set_cons_succ]
          intro x14 hx14
          intro K hK
          replace hm' : m < 16 := hm'
          obtain ⟨f, rfl, hf⟩ := hx14
          go_simp
          have hbn := (Below.refl w'.heap.size w').alloc (Nat.le_refl _) (.cells #[.int .i64 f.d, .int .i64 f.t, .int .i64 f.x, .bool f.a] 191)
          have hw := (Within.of_below hbn : Within g (g + 1) _ _)
          have hsz0 := hS'.1.size
          refine hK.out _ _ hw ⟨hS'.1.trans hw, (hS'.2.1.keep hbn).mono (by omega), ⟨within_at (hS'.1.trans hw) z_0_0 (.inr (by omega)), within_at (hS'.1.trans hw) z_0_1 (.inr (by omega)), within_at (hS'.1.trans hw) z_0_2 (.inr (by omega))⟩⟩ ⟨_, f, rfl, hsz0, BoxN.new w' _ _, hf⟩
        refine chainQ_nil (fun uE hS' => ?_)
        simp only [allP, Act.put, List.setIfInBounds_toArray, List.set_cons_zero, List.set_cons_succ]
        intro x15 hx15
        intro x14 hx14
        intro x13 hx13
        intro x10 hx10
        intro x9 hx9
        intro x5 hx5
        intro x4 hx4
        replace hS' : DrawS w0 uA g _ 5000 _ 16 uE := hS'
        obtain ⟨hw, hc, hC⟩ := hS'
        have HWE := Lib.hid hw
        have hsz1 := hw.size
        replace HXr := Lib.hid (HXr.out.kept hw (.inr (by omega)))
        replace HW := Lib.hid (HW.out.trans hw)
        replace HC := Lib.hid hc
        clear hc hw hC
        clear z_0_0 z_0_1 z_0_2
        obtain ⟨bb, ff, rfl, hbb, hbx, hff⟩ := hx15
        have HBX := Lib.hid hbx
        clear hbx hx4 hx5 hx9 hx10 hx13 hx14
        have HOE := Lib.hid (HOB.out.within HWE.out (by omega))
        go_wp2_with (at_builtin; refine wpList_append_Fa rfl _ _ rfl W.heap.size (.slice ao no co) fs ff bb 1 rfl rfl HOE.out (by omega) HBX.out hff (by have := HNO.out; omega) ?_; intro v4 w4 hown4 hb4)
        refine NoPanic.normal ?_
        have HN4 : Hid ((fs ++ [ff]).length ≤ 5) := by unfold Hid; rw [List.length_append, HNO.out]; simp; omega
        (try (go_wp2_with fail))
        go_ret
        exact ⟨⟨_, fs ++ [ff], rfl, hown4.mono (by omega), HN4.out⟩, (HC.out.belowB hb4 (by omega)).mono (by omega), HWW.out.trans (HW.out.belowStep hb4)⟩
    | succ f =>
      have ef : ((f + 1 : Nat) : Int) = (f : Int) + 1 := by omega
      have ew : IntKind.i64.wrap ((f : Int) + 1 - 1) = (f : Int) := by rw [show (f : Int) + 1 - 1 = f by omega]; exact IntWalk.i64_in _ (by omega)
      have HC : Hid (Cur w0 uA g (n + 20 + 100000 * ((K : Int) - (f : Int) - 1))) := hC'.mono (by omega)
      clear hC'
      rw [ef]
      have hpos : (0 : Int) < (f : Int) + 1 := by omega
      have HW := HWr
      go_wp2_with fail
      have z_0_0 := HXr.out.cell (i := 0) rfl
      have z_0_1 := HXr.out.cell (i := 1) rfl
      have z_0_2 := HXr.out.cell (i := 2) rfl
      try (go_wp2_with fail)
      refine wp_region_noPanic ?_
      refine wp_region_Q (Within g (g + 1)) (DrawS w0 uA g _ 5000 (fun w' => w'.cell? ⟨w.heap.size, 0, none⟩ = some (.int .i64 P) ∧ w'.cell? ⟨w.heap.size, 1, none⟩ = some (.int .i64 Q) ∧ w'.cell? ⟨w.heap.size, 2, none⟩ = some (.int .i64 G))) 21 [(0, []), (1, []), (2, []), (3, [1, 0]), (4, [0]), (5, []), (6, []), (7, [1, 0]), (8, [0]), (9, []), (10, []), (11, [1, 0]), (12, []), (13, [0]), (14, [0]), (15, [10, 6, 3, 0]), (16, [0])] [17, 18] (by kernel_rfl) (by kernel_rfl) (by kernel_rfl) rfl (fun _ _ _ _ h => h) (DrawS.good _ _ _ _ _ _) ⟨(Within.refl _ _ _).drew, by simpa using HC.out.keep (Below.refl _ _).drew, ⟨box_at z_0_0 (Below.refl _ _).drew, box_at z_0_1 (Below.refl _ _).drew, box_at z_0_2 (Below.refl _ _).drew⟩⟩ ?_
      simp only [pickP, pickN, List.getElem?_cons_zero, List.getElem?_cons_succ]
      iterate 3 (refine' chainQ_read (DrawS.good _ _ _ _ _ _) _ rfl rfl (fun m w' hm' hS' => ?_) ?_; rotate_left; · (simp only [lookP, allP, Act.put, List.getElem?_cons_zero, List.getElem?_cons_succ, List.setIfInBounds_toArray, List.set_cons_zero, List.set_cons_succ]; (try dsimp only [DrawS] at hS'); go_simp; (try with_reducible rfl)))
      -- 3: call { callee := value (func 72), args := #[t16, t17], argTypes := #[82, 3] }
      refine chainQ_do (d := (some 18)) (fun v z => ∃ x : Int, v = .int .i64 x ∧ 0 ≤ x ∧ x < (tn : Int)) (fun v w1 w2 hw h => h) rfl rfl (fun m w' hm' hS' => ?_) ?_
      · simp only [lookP, allP, Act.put, List.getElem?_cons_zero, List.getElem?_cons_succ, List.setIfInBounds_toArray, List.set_cons_zero, List.set_cons_succ]
        intro K hK
        replace hm' : m < 17 := hm'
        go_simp
        go_at_call 72
        refine (spec_pick w0 g _ (tn : Int) _ hS'.2.1 (hS'.1.belowOf (HW.out.belowOf HBW.out hge) hge) (by omega)).mono ?_
        rintro e z ⟨⟨x, rfl, x0, _, xm, _⟩, hc, hw⟩
        exact hK.out _ _ hw ⟨hS'.1.trans hw, hc.mono (by omega), ⟨within_at (hS'.1.trans hw) z_0_0 (.inr (by omega)), within_at (hS'.1.trans hw) z_0_1 (.inr (by omega)), within_at (hS'.1.trans hw) z_0_2 (.inr (by omega))⟩⟩ ⟨x, rfl, x0, xm (by omega)⟩
      -- 4: binOp Binadd 3 (const (int i64 1)) t18 3
      refine chainQ_have (DrawS.good _ _ _ _ _ _) (d := (some 19)) (fun v z => ∃ x : Int, v = .int .i64 x ∧ 1 ≤ x ∧ x ≤ 7) (fun v w1 w2 hw h => h) rfl rfl (fun m w' hm' hS' => ?_) ?_
      · simp only [lookP, allP, Act.put, List.getElem?_cons_zero, List.getElem?_cons_succ, List.setIfInBounds_toArray, List.set_cons_zero, List.set_cons_succ]
        intro x3 hx3
        obtain ⟨x, rfl, xl, xu⟩ := hx3
        have ew : IntKind.i64.wrap (1 + x) = 1 + x := IntWalk.i64_in _ (by omega)
        refine ⟨.int .i64 (1 + x), ?_, 1 + x, rfl, by omega, by omega⟩
        go_simp
      iterate 2 (refine' chainQ_read (DrawS.good _ _ _ _ _ _) _ rfl rfl (fun m w' hm' hS' => ?_) ?_; rotate_left; · (simp only [lookP, allP, Act.put, List.getElem?_cons_zero, List.getElem?_cons_succ, List.setIfInBounds_toArray, List.set_cons_zero, List.set_cons_succ]; (try dsimp only [DrawS] at hS'); go_simp; (try with_reducible rfl)))
      -- 7: call { callee := value (func 72), args := #[t20, t21], argTypes := #[82, 3] }
      refine chainQ_do (d := (some 22)) (fun v z => ∃ x : Int, v = .int .i64 x ∧ 0 ≤ x ∧ x < (tn : Int)) (fun v w1 w2 hw h => h) rfl rfl (fun m w' hm' hS' => ?_) ?_
      · simp only [lookP, allP, Act.put, List.getElem?_cons_zero, List.getElem?_cons_succ, List.setIfInBounds_toArray, List.set_cons_zero, List.set_cons_succ]
        intro K hK
        replace hm' : m < 17 := hm'
        go_simp
        go_at_call 72
        refine (spec_pick w0 g _ (tn : Int) _ hS'.2.1 (hS'.1.belowOf (HW.out.belowOf HBW.out hge) hge) (by omega)).mono ?_
        rintro e z ⟨⟨x, rfl, x0, _, xm, _⟩, hc, hw⟩
        exact hK.out _ _ hw ⟨hS'.1.trans hw, hc.mono (by omega), ⟨within_at (hS'.1.trans hw) z_0_0 (.inr (by omega)), within_at (hS'.1.trans hw) z_0_1 (.inr (by omega)), within_at (hS'.1.trans hw) z_0_2 (.inr (by omega))⟩⟩ ⟨x, rfl, x0, xm (by omega)⟩
      -- 8: binOp Binadd 3 (const (int i64 1)) t22 3
      refine chainQ_have (DrawS.good _ _ _ _ _ _) (d := (some 23)) (fun v z => ∃ x : Int, v = .int .i64 x ∧ 1 ≤ x ∧ x ≤ 7) (fun v w1 w2 hw h => h) rfl rfl (fun m w' hm' hS' => ?_) ?_
      · simp only [lookP, allP, Act.put, List.getElem?_cons_zero, List.getElem?_cons_succ, List.setIfInBounds_toArray, List.set_cons_zero, List.set_cons_succ]
        intro x7 hx7
        obtain ⟨x, rfl, xl, xu⟩ := hx7
        have ew : IntKind.i64.wrap (1 + x) = 1 + x := IntWalk.i64_in _ (by omega)
        refine ⟨.int .i64 (1 + x), ?_, 1 + x, rfl, by omega, by omega⟩
        go_simp
      iterate 2 (refine' chainQ_read (DrawS.good _ _ _ _ _ _) _ rfl rfl (fun m w' hm' hS' => ?_) ?_; rotate_left; · (simp only [lookP, allP, Act.put, List.getElem?_cons_zero, List.getElem?_cons_succ, List.setIfInBounds_toArray, List.set_cons_zero, List.set_cons_succ]; (try dsimp only [DrawS] at hS'); go_simp; (try with_reducible rfl)))
      -- 11: call { callee := value (func 62), args := #[t24, t25], argTypes := #[82, 24] }
      refine chainQ_do (d := (some 26)) (fun v z => ∃ x : Int, v = .int .i64 x ∧ -10 ≤ x ∧ x ≤ 2000000010) (fun v w1 w2 hw h => h) rfl rfl (fun m w' hm' hS' => ?_) ?_
      · simp only [lookP, allP, Act.put, List.getElem?_cons_zero, List.getElem?_cons_succ, List.setIfInBounds_toArray, List.set_cons_zero, List.set_cons_succ]
        intro K hK
        replace hm' : m < 17 := hm'
        go_simp
        go_at_call 62
        refine (spec_expo w0 g _ P Q G _ hS'.2.1 (hS'.1.belowOf (HW.out.belowOf HBW.out hge) hge) (by omega) HGR.out).mono ?_
        rintro e z ⟨⟨x, rfl, x0, x1⟩, hc, hw⟩
        exact hK.out _ _ hw ⟨hS'.1.trans hw, hc.mono (by omega), ⟨within_at (hS'.1.trans hw) z_0_0 (.inr (by omega)), within_at (hS'.1.trans hw) z_0_1 (.inr (by omega)), within_at (hS'.1.trans hw) z_0_2 (.inr (by omega))⟩⟩ ⟨x, rfl, by omega, by omega⟩
      -- 12: move t0
      refine' chainQ_read (DrawS.good _ _ _ _ _ _) (d := (some 27)) _ rfl rfl (fun m w' hm' hS' => ?_) ?_; rotate_left
      · simp only [lookP, allP, Act.put, List.getElem?_cons_zero, List.getElem?_cons_succ, List.setIfInBounds_toArray, List.set_cons_zero, List.set_cons_succ]
        (try dsimp only [DrawS] at hS')
        go_simp
        (try with_reducible rfl)
      -- 13: call { callee := value (func 59), args := #[t27, const (int i64 3)], argTypes := #[82, 3] }
      refine chainQ_do (d := (some 28)) (fun v z => ∃ b : Bool, v = .bool b) (fun v w1 w2 hw h => h) rfl rfl (fun m w' hm' hS' => ?_) ?_
      · simp only [lookP, allP, Act.put, List.getElem?_cons_zero, List.getElem?_cons_succ, List.setIfInBounds_toArray, List.set_cons_zero, List.set_cons_succ]
        intro K hK
        replace hm' : m < 17 := hm'
        go_simp
        go_at_call 59
        refine (spec_one w0 g _ 3 _ hS'.2.1 (hS'.1.belowOf (HW.out.belowOf HBW.out hge) hge) (by omega)).mono ?_
        rintro e z ⟨⟨b, rfl⟩, hc, hw⟩
        exact hK.out _ _ hw ⟨hS'.1.trans hw, hc.mono (by omega), ⟨within_at (hS'.1.trans hw) z_0_0 (.inr (by omega)), within_at (hS'.1.trans hw) z_0_1 (.inr (by omega)), within_at (hS'.1.trans hw) z_0_2 (.inr (by omega))⟩⟩ ⟨b, rfl⟩
      -- 14: unOp Unnot 4 t28
      refine chainQ_have (DrawS.good _ _ _ _ _ _) (d := (some 29)) (fun v z => ∃ b : Bool, v = .bool b) (fun v w1 w2 hw h => h) rfl rfl (fun m w' hm' hS' => ?_) ?_
      · simp only [lookP, allP, Act.put, List.getElem?_cons_zero, List.getElem?_cons_succ, List.setIfInBounds_toArray, List.set_cons_zero, List.set_cons_succ]
        intro x13 hx13
        obtain ⟨b, rfl⟩ := hx13
        refine ⟨.bool (!b), ?_, _, rfl⟩
        go_simp
      -- 15: build 191 #[(0, t19), (1, t23), (2, t26), (3, t29)]
      refine chainQ_have (DrawS.good _ _ _ _ _ _) (d := (some 30)) (fun v z => ∃ f : FaultD, v = .agg #[.int .i64 f.d, .int .i64 f.t, .int .i64 f.x, .bool f.a] ∧ (I64 f.d ∧ I64 f.t ∧ I64 f.x)) (fun v w1 w2 hw h => h) rfl rfl (fun m w' hm' hS' => ?_) ?_
      · simp only [lookP, allP, Act.put, List.getElem?_cons_zero, List.getElem?_cons_succ, List.setIfInBounds_toArray, List.set_cons_zero, List.set_cons_succ]
        intro x4 hx4
        intro x8 hx8
        intro x11 hx11
        intro x14 hx14
        obtain ⟨y4, rfl, l4, u4⟩ := hx4
        obtain ⟨y8, rfl, l8, u8⟩ := hx8
        obtain ⟨y11, rfl, l11, uE1⟩ := hx11
        obtain ⟨y14, rfl⟩ := hx14
        refine ⟨_, ?_, ⟨y4, y8, y11, y14⟩, rfl, (show I64 y4 from ⟨by omega, by omega⟩), (show I64 y8 from ⟨by omega, by omega⟩), (show I64 y11 from ⟨by omega, by omega⟩)⟩
        go_simp
      -- 16: buildSlice 167 1 #[(0, t30)]
      refine chainQ_do (d := (some 31)) (fun v z => ∃ (b : Nat) (f : FaultD), v = .slice (some ⟨b, 0, none⟩) 1 1 ∧ uA.heap.size ≤ b ∧ BoxN z b 191 [.int .i64 f.d, .int .i64 f.t, .int .i64 f.x, .bool f.a] ∧ (I64 f.d ∧ I64 f.t ∧ I64 f.x)) (fun v w1 w2 hw h => by obtain ⟨b, f, e, h1, h2, h3⟩ := h; exact ⟨b, f, e, h1, h2.kept hw (.inr (by omega)), h3⟩) rfl rfl (fun m w' hm' hS' => ?_) ?_
      · simp only [lookP, allP, Act.put, List.getElem?_cons_zero, List.getElem?_cons_succ, List.setIfInBounds_toArray, List.set_cons_zero, List.set_cons_succ]
        intro x15 hx15
        intro K hK
        replace hm' : m < 17 := hm'
        obtain ⟨f, rfl, hf⟩ := hx15
        go_simp
        have hbn := (Below.refl w'.heap.size w').alloc (Nat.le_refl _) (.cells #[.int .i64 f.d, .int .i64 f.t, .int .i64 f.x, .bool f.a] 191)
        have hw := (Within.of_below hbn : Within g (g + 1) _ _)
        have hsz0 := hS'.1.size
        refine hK.out _ _ hw ⟨hS'.1.trans hw, (hS'.2.1.keep hbn).mono (by omega), ⟨within_at (hS'.1.trans hw) z_0_0 (.inr (by omega)), within_at (hS'.1.trans hw) z_0_1 (.inr (by omega)), within_at (hS'.1.trans hw) z_0_2 (.inr (by omega))⟩⟩ ⟨_, f, rfl, hsz0, BoxN.new w' _ _, hf⟩
      refine chainQ_nil (fun uE hS' => ?_)
      simp only [allP, Act.put, List.setIfInBounds_toArray, List.set_cons_zero, List.set_cons_succ]
      intro x16 hx16
      intro x15 hx15
      intro x14 hx14
      intro x13 hx13
      intro x11 hx11
      intro x8 hx8
      intro x7 hx7
      intro x4 hx4
      intro x3 hx3
      replace hS' : DrawS w0 uA g _ 5000 _ 17 uE := hS'
      obtain ⟨hw, hc, hC⟩ := hS'
      have HWE := Lib.hid hw
      have hsz1 := hw.size
      replace HXr := Lib.hid (HXr.out.kept hw (.inr (by omega)))
      replace HW := Lib.hid (HW.out.trans hw)
      replace HC := Lib.hid hc
      clear hc hw hC
      clear z_0_0 z_0_1 z_0_2
      obtain ⟨bb, ff, rfl, hbb, hbx, hff⟩ := hx16
      have HBX := Lib.hid hbx
      clear hbx hx3 hx4 hx7 hx8 hx11 hx13 hx14 hx15
      have HOE := Lib.hid (HO.out.within HWE.out (by omega))
      go_wp2_with (at_builtin; refine wpList_append_Fa rfl _ _ rfl W.heap.size (.slice ao no co) fs ff bb 1 rfl rfl HOE.out (by omega) HBX.out hff (by have := HNO.out; omega) ?_; intro v4 w4 hown4 hb4)
      refine NoPanic.normal ?_
      (try (go_wp2_with fail))
      go_roundg f
      case measure => omega
      case rel => exact ⟨fs ++ [ff], by rw [List.length_append]; have := HFL.out; simp; omega, by omega, by go_num, hown4, (HC.out.belowB hb4 (by omega)).mono (by omega), HW.out.belowStep hb4⟩
end Go.Proofs.Ytacpnphfopmofaa
