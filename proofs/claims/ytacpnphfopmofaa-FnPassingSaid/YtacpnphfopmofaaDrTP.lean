/- Draws: bases, commitments: walks (printed by gen_drb.py). -/
import Derived.Test.YtacpnphfopmofaaDer5P
import Derived.Test.YtacpnphfopmofaaDrG3P
namespace Go.Proofs.Ytacpnphfopmofaa
open Go.RowKit
set_option linter.unusedSimpArgs false
set_option linter.unusedVariables false

theorem OwnI.other {w : World} {B b : Nat} {v : Value} {l : List Int} (h : OwnI w B v l) (hb : b < B) (j : Nat) (x : Value) : OwnI (w.setCell ⟨b, j, none⟩ x) B v l :=
  h.kept (grownBy_setCell _ b j x) (.inr fun e => by have := (h.lt _ e).1; omega)
/-- a row of integers and a box of another type lie in different blocks -/
theorem OwnI.apart {w : World} {B b : Nat} {v : Value} {l : List Int} {t : TypeId} {cs : List Value} (h : OwnI w B v l) (hx : BoxN w b t cs) (ht : t ≠ 3) : ∀ k, v.ownBlock = some k → b ≠ k := by
  rintro k hk rfl
  rcases h.2.2 with h2 | ⟨g, cap, cur, rfl, hg, hr, r⟩
  · rw [h2.1] at hk; cases hk
  · cases hk
    unfold BoxN at hx
    rw [hx] at hr
    injection hr with hr
    injection hr with h1 h2 h3
    exact ht h2
theorem BoxN.grownR {w w' : World} {b : Nat} {t : TypeId} {cs : List Value} {row : Option Nat} (h : BoxN w b t cs) (hg : w.grownBy w' row) (hne : ∀ k, row = some k → b ≠ k) : BoxN w' b t cs :=
  (hg.block b h.lt (fun e => hne b e.symm rfl)).trans h
theorem Within.belowU {lo hi : Nat} {w u Y : World} (hw : Within lo hi u Y) (h : Below w.heap.size w u) (hlo : w.heap.size ≤ lo) : Below w.heap.size w Y := h.trans (hw.below h.size hlo)
theorem BoxN.otherN {w : World} {b b' : Nat} {t : TypeId} {cs : List Value} (h : BoxN w b t cs) (hb : b < b') (j : Nat) (x : Value) : BoxN (w.setCell ⟨b', j, none⟩ x) b t cs := h.other (by omega) j x
set_option maxRecDepth 100000 in
set_option maxHeartbeats 4000000 in
theorem spec_bases (w0 : World) (g : Nat) (n P Q G : Int) (w : World) (h : Cur w0 w g n) (hb : Below w0.heap.size w0 w) (hn : n ≤ 500000000000000) (hgr : GrB ⟨P, Q, G⟩) :
    Calls Try.prog 148 #[.pointer (some ⟨g, 0, none⟩), .agg #[.int .i64 P, .int .i64 Q, .int .i64 G]] w fun e w' => (∃ (hr0 : Int) (vr0 : Value) (lr0 : List Int), e = .returned (.agg #[.int .i64 hr0, vr0]) ∧ ((-10 ≤ hr0 ∧ hr0 ≤ 2000000010) ∧ (OwnI w' w.heap.size vr0 lr0 ∧ 1 ≤ lr0.length ∧ lr0.length ≤ 5))) ∧ Cur w0 w' g (n + 1000000) ∧ Within g (g + 1) w w' := by
  have HGR := Lib.hid hgr
  have HBB := Lib.hid hb
  have hge := h.ge
  have hgw := h.lt
  clear hgr hb
  obtain ⟨W, hW⟩ : ∃ W, W = (w.alloc (.cells #[.int .i64 P, .int .i64 Q, .int .i64 G] 24)).alloc (.cells #[.int .i64 0, (.slice none 0 0)] 49) := ⟨_, rfl⟩
  have hbW : Below w.heap.size w W := by rw [hW]; (repeat (first | exact Below.refl _ _ | assumption | refine Below.drew ?_ | refine Below.alloc ?_ (by first | (simp; done) | (simp; omega)) _ | refine Below.setCell ?_ (by first | (simp; done) | (simp; omega)) _))
  have HZg : Hid (BoxN W w.heap.size 24 [.int .i64 P, .int .i64 Q, .int .i64 G]) := by unfold Hid; rw [hW]; have h := ((BoxN.new w [.int .i64 P, .int .i64 Q, .int .i64 G] 24).alloc (.cells #[.int .i64 0, (.slice none 0 0)] 49)); simpa using h
  have HX0 : Hid (BoxN W (w.heap.size + 1) 49 [.int .i64 0, (.slice none 0 0)]) := by unfold Hid; rw [hW]; have h := (BoxN.new (w.alloc (.cells #[.int .i64 P, .int .i64 Q, .int .i64 G] 24)) [.int .i64 0, (.slice none 0 0)] 49); simpa using h
  have hsW : W.heap.size = w.heap.size + 2 := by rw [hW]; simp
  have HC := Lib.hid (h.keep hbW)
  have HWw := Lib.hid (Within.of_below hbW : Within g (g + 1) w W)
  have HBW : Hid (Below w0.heap.size w0 W) := HBB.out.trans (hbW.mono HBB.out.size)
  clear h
  go_enter Try.func148, Try.ntmps148
  go_wp2_with fail
  rw [← hW]
  have HW := Lib.hid (Within.refl g (g + 1) W)
  clear hW hbW
  have z_0_0 := HZg.out.cell (i := 0) rfl
  have z_0_1 := HZg.out.cell (i := 1) rfl
  have z_0_2 := HZg.out.cell (i := 2) rfl
  have z_1_0 := HX0.out.cell (i := 0) rfl
  have z_1_1 := HX0.out.cell (i := 1) rfl
  try (go_wp2_with fail)
  clear z_0_0 z_0_1 z_0_2 z_1_0 z_1_1
  refine (spec_element w0 g _ P Q G _ HC.out (HW.out.belowOf HBW.out hge) (by omega) HGR.out).mono ?_
  rintro e u1 ⟨⟨x1, rfl, x1l, x1u⟩, hc, hw⟩
  have hsz1 := hw.size
  replace HZg := Lib.hid (HZg.out.kept hw (.inr (by omega)))
  replace HX0 := Lib.hid (HX0.out.kept hw (.inr (by omega)))
  replace HW := Lib.hid (HW.out.trans hw)
  replace HC := Lib.hid hc
  clear hc hw
  have z_0_0 := HZg.out.cell (i := 0) rfl
  have z_0_1 := HZg.out.cell (i := 1) rfl
  have z_0_2 := HZg.out.cell (i := 2) rfl
  have z_1_0 := HX0.out.cell (i := 0) rfl
  have z_1_1 := HX0.out.cell (i := 1) rfl
  have lt_HZg := HZg.out.lt
  have lt_HX0 := HX0.out.lt
  obtain ⟨V2, hV⟩ : ∃ V, V = u1.alloc (.cells #[.int .i64 x1, (.slice none 0 0)] 49) := ⟨_, rfl⟩
  have hbV : Below u1.heap.size u1 V2 := by rw [hV]; (repeat (first | exact Below.refl _ _ | assumption | refine Below.drew ?_ | refine Below.alloc ?_ (by first | (simp; done) | (simp; omega)) _ | refine Below.setCell ?_ (by first | (simp; done) | (simp; omega)) _))
  have HZ1 : Hid (BoxN V2 u1.heap.size 49 [.int .i64 x1, (.slice none 0 0)]) := by unfold Hid; rw [hV]; have h := (BoxN.new u1 [.int .i64 x1, (.slice none 0 0)] 49); simpa using h
  have hgc : g < u1.heap.size := HC.out.lt
  go_wp2_with fail
  rw [← hV]
  have hsV2 : V2.heap.size = u1.heap.size + 1 := by rw [hV]; simp
  clear hV hgc
  replace HZg := Lib.hid (HZg.out.below hbV)
  replace HX0 := Lib.hid (HX0.out.below hbV)
  replace HW := Lib.hid (HW.out.trans (Within.of_below hbV))
  replace HC := Lib.hid (HC.out.keep hbV)
  clear hbV
  clear z_0_0 z_0_1 z_0_2 z_1_0 z_1_1
  clear lt_HZg
  clear lt_HX0
  refine (spec_pick w0 g _ 5 _ HC.out (HW.out.belowOf HBW.out hge) (by omega) ).mono ?_
  rintro e u3 ⟨⟨x3, rfl, x3l, x3u, x3m, _⟩, hc, hw⟩
  replace x3m := x3m (by omega)
  have hsz3 := hw.size
  replace HZg := Lib.hid (HZg.out.kept hw (.inr (by omega)))
  replace HX0 := Lib.hid (HX0.out.kept hw (.inr (by omega)))
  replace HZ1 := Lib.hid (HZ1.out.kept hw (.inr (by omega)))
  replace HW := Lib.hid (HW.out.trans hw)
  replace HC := Lib.hid hc
  clear hc hw
  have ew2 : IntKind.i64.wrap (1 + x3) = 1 + x3 := IntWalk.i64_in _ (by omega)
  have hgbx : W.heap.size ≤ u1.heap.size := by omega
  obtain ⟨bx, hbx⟩ : ∃ b, b = u1.heap.size := ⟨_, rfl⟩
  rw [← hbx] at HZ1 hgbx ⊢
  have HBX0 := Lib.hid hbx
  have hbl : bx < u3.heap.size := HZ1.out.lt
  clear hbx
  obtain ⟨wA, hwA⟩ : ∃ u, u = u3 := ⟨_, rfl⟩
  have HSG : Hid (W.heap.size = w.heap.size + 2) := by unfold Hid; omega
  go_wp2_with fail
  go_loopg [6] 5 (fun gk kv wr => ∃ (hv : Value) (l : List Int) (k : Int), kv = .int .i64 k ∧ 0 ≤ k ∧ k ≤ (gk : Int) ∧ gk ≤ 5 ∧ l.length + gk ≤ 5 ∧ 1 ≤ (l.length : Int) + k ∧ Hid (BoxN wr bx 49 [.int .i64 x1, hv]) ∧ Hid (BoxN wr w.heap.size 24 [.int .i64 P, .int .i64 Q, .int .i64 G]) ∧ Hid (BoxN wr (w.heap.size + 1) 49 [.int .i64 0, .slice none 0 0]) ∧ Hid (OwnI wr (bx + 1) hv l) ∧ Hid (Cur w0 wr g (n + 20000 + 40000 * (5 - (gk : Int)))) ∧ Hid (Within g (g + 1) W wr))
  case atStart => exact ⟨_, [], (1 + x3), rfl, by omega, by omega, by omega, by simp, by simp; omega, HZ1, HZg, HX0, OwnI.nil _ _, HC.out.mono (by omega), HW⟩
  case round =>
    obtain ⟨hv, l, k, rfl, hk0, hk1, hk2, hk3, hk4, HZ, HZg, HX0, HO, HC, HW⟩ := hrel
    have hsr := HW.out.size
    have hbl2 := HZ.out.lt
    obtain ⟨ao, co, rfl⟩ := HO.out.shape
    obtain ⟨c, hc⟩ : ∃ c, l.length = c := ⟨_, rfl⟩
    rw [hc] at HO HZ hk3 hk4
    have HK := Lib.hid hc; clear hc
    by_cases hpos : 0 < k
    · obtain ⟨f, rfl⟩ : ∃ f, gk = f + 1 := ⟨gk - 1, by omega⟩
      have ew : IntKind.i64.wrap (k - 1) = k - 1 := IntWalk.i64_in _ (by omega)
      have HLO := HO
      clear HO
      have z_0_0 := HZg.out.cell (i := 0) rfl
      have z_0_1 := HZg.out.cell (i := 1) rfl
      have z_0_2 := HZg.out.cell (i := 2) rfl
      have z_1_0 := HZ.out.cell (i := 0) rfl
      have z_1_1 := HZ.out.cell (i := 1) rfl
      have z_2_0 := HX0.out.cell (i := 0) rfl
      have z_2_1 := HX0.out.cell (i := 1) rfl
      try (go_wp2_with fail)
      refine wp_region_noPanic ?_
      refine wp_region_Q (Within g (g + 1)) (DrawS w0 wr g _ 5000 (fun w' => w'.cell? ⟨w.heap.size, 0, none⟩ = some (.int .i64 P) ∧ w'.cell? ⟨w.heap.size, 1, none⟩ = some (.int .i64 Q) ∧ w'.cell? ⟨w.heap.size, 2, none⟩ = some (.int .i64 G) ∧ w'.cell? ⟨bx, 0, none⟩ = some (.int .i64 x1) ∧ w'.cell? ⟨bx, 1, none⟩ = some (.slice ao c co) ∧ w'.cell? ⟨(w.heap.size + 1), 0, none⟩ = some (.int .i64 0) ∧ w'.cell? ⟨(w.heap.size + 1), 1, none⟩ = some (.slice none 0 0))) 11 [(0, []), (1, [0]), (2, []), (3, []), (4, [1, 0]), (5, [0])] [6, 7, 8] (by kernel_rfl) (by kernel_rfl) (by kernel_rfl) rfl (fun _ _ _ _ h => h) (DrawS.good _ _ _ _ _ _) ⟨(Within.refl _ _ _).drew, by simpa using HC.out.keep (Below.refl _ _).drew, ⟨box_at z_0_0 (Below.refl _ _).drew, box_at z_0_1 (Below.refl _ _).drew, box_at z_0_2 (Below.refl _ _).drew, box_at z_1_0 (Below.refl _ _).drew, box_at z_1_1 (Below.refl _ _).drew, box_at z_2_0 (Below.refl _ _).drew, box_at z_2_1 (Below.refl _ _).drew⟩⟩ ?_
      simp only [pickP, pickN, List.getElem?_cons_zero, List.getElem?_cons_succ]
      iterate 4 (refine' chainQ_read (DrawS.good _ _ _ _ _ _) _ rfl rfl (fun m w' hm' hS' => ?_) ?_; rotate_left; · (simp only [lookP, allP, Act.put, List.getElem?_cons_zero, List.getElem?_cons_succ, List.setIfInBounds_toArray, List.set_cons_zero, List.set_cons_succ]; (try dsimp only [DrawS] at hS'); go_simp; (try with_reducible rfl)))
      -- 4: call { callee := value (func 257), args := #[t22, t23], argTypes := #[167, 39] }
      refine chainQ_do (d := (some 24)) (fun v u => ∃ (xq4 : Int), v = (.int .i64 xq4) ∧ (-10 ≤ xq4 ∧ xq4 ≤ 2000000010)) (fun v w1 w2 hw h => h) rfl rfl (fun m w' hm' hS' => ?_) ?_
      · simp only [lookP, allP, Act.put, List.getElem?_cons_zero, List.getElem?_cons_succ, List.setIfInBounds_toArray, List.set_cons_zero, List.set_cons_succ]
        intro K hK
        replace hm' : m < 6 := hm'
        go_simp
        go_at_call 60
        refine (spec_element w0 g _ P Q G _ hS'.2.1 (hS'.1.belowOf (HW.out.belowOf HBW.out hge) hge) (by omega) HGR.out).mono ?_
        rintro e u ⟨⟨xq4, rfl, xq4l, xq4u⟩, hc, hw⟩
        exact hK.out _ _ hw ⟨hS'.1.trans hw, hc.mono (by omega), ⟨within_at (hS'.1.trans hw) z_0_0 (.inr (by omega)), within_at (hS'.1.trans hw) z_0_1 (.inr (by omega)), within_at (hS'.1.trans hw) z_0_2 (.inr (by omega)), within_at (hS'.1.trans hw) z_1_0 (.inr (by omega)), within_at (hS'.1.trans hw) z_1_1 (.inr (by omega)), within_at (hS'.1.trans hw) z_2_0 (.inr (by omega)), within_at (hS'.1.trans hw) z_2_1 (.inr (by omega))⟩⟩ ⟨xq4, rfl, ⟨by omega, xq4u⟩⟩
      -- 5: buildSlice 24 1 #[(0, t24)]
      refine chainQ_do (d := (some 25)) (fun v u => ∃ (y0q5 : Int), (-10 ≤ y0q5 ∧ y0q5 ≤ 2000000010) ∧ Since wr.heap.size u (fun z => Ints z v [y0q5])) (fun v w1 w2 hw h => by obtain ⟨z0, b0, h4⟩ := h; exact ⟨z0, b0, h4.within hw (by omega)⟩) rfl rfl (fun m w' hm' hS' => ?_) ?_
      · simp only [lookP, allP, Act.put, List.getElem?_cons_zero, List.getElem?_cons_succ, List.setIfInBounds_toArray, List.set_cons_zero, List.set_cons_succ]
        intro x4 hx4
        intro K hK
        replace hm' : m < 6 := hm'
        obtain ⟨xq4, rfl, xq4l, xq4u⟩ := hx4
        go_simp
        have hbn := (Below.refl w'.heap.size w').alloc (Nat.le_refl _) (.cells #[.int .i64 xq4] 3)
        have hw := (Within.of_below hbn : Within g (g + 1) _ _)
        have hsz0 := hS'.1.size
        refine hK.out _ _ hw ⟨hS'.1.trans hw, (hS'.2.1.keep hbn).mono (by omega), ⟨within_at (hS'.1.trans hw) z_0_0 (.inr (by omega)), within_at (hS'.1.trans hw) z_0_1 (.inr (by omega)), within_at (hS'.1.trans hw) z_0_2 (.inr (by omega)), within_at (hS'.1.trans hw) z_1_0 (.inr (by omega)), within_at (hS'.1.trans hw) z_1_1 (.inr (by omega)), within_at (hS'.1.trans hw) z_2_0 (.inr (by omega)), within_at (hS'.1.trans hw) z_2_1 (.inr (by omega))⟩⟩ ?_
        exact ⟨xq4, ⟨by omega, by omega⟩, Since.of_ownI (OwnI.lit (B := w'.heap.size) w' (Nat.le_refl _) (l := [xq4]) (AllI64.cons (⟨by omega, by omega⟩ : I64 _) AllI64.nil) rfl (by simp [maxLen]) 1 rfl) (by omega)⟩
      refine chainQ_nil (fun u1 hS' => ?_)
      simp only [allP, Act.put, List.setIfInBounds_toArray, List.set_cons_zero, List.set_cons_succ]
      intro x5 hx5
      intro x4 hx4
      replace hS' : DrawS w0 wr g _ 5000 _ 6 u1 := hS'
      obtain ⟨hw, hc, hC⟩ := hS'
      obtain ⟨xq4, rfl, xq4l, xq4u⟩ := hx4
      have hsz1 := hw.size
      replace HZg := Lib.hid (HZg.out.kept hw (.inr (by omega)))
      replace HZ := Lib.hid (HZ.out.kept hw (.inr (by omega)))
      replace HX0 := Lib.hid (HX0.out.kept hw (.inr (by omega)))
      replace HLO := Lib.hid (HLO.out.within hw (by omega))
      replace HW := Lib.hid (HW.out.trans hw)
      replace HC := Lib.hid hc
      clear hc hw hC
      clear z_0_0 z_0_1 z_0_2 z_1_0 z_1_1 z_2_0 z_2_1
      obtain ⟨z, hz0, hl⟩ := hx5
      have hl := hl.here
      have HO1 := HLO
      have HL1 := Lib.hid hl
      clear hl HLO
      have hsu : bx < u1.heap.size := HZ.out.lt
      have HBn : Hid (Below (bx + 1) u1 u1) := Below.refl _ _
      have y0 := HZ.out.cell (i := 1) rfl
      go_wp2_with (at_builtin; refine wpList_append_intsN rfl _ _ rfl (bx + 1) _ _ l [z] rfl HO1.out rfl HL1.out (by rw [HK.out]; simp; omega) (by omega) (c + 1) (by rw [HK.out]; rfl) ?_; intro a5 c5 w5 hown5 hgr5; have hb5 : Below (bx + 1) u1 w5 := HO1.out.grown hgr5 (by omega); have HZ5 := Lib.hid (HZ.out.belowB hb5 (by omega)); have HG5 := Lib.hid (HZg.out.belowB hb5 (by omega)); have HX5 := Lib.hid (HX0.out.belowB hb5 (by omega)); have hs5 := hb5.size; have HO5 := Lib.hid hown5; have HC5 := Lib.hid (HC.out.belowB hb5 (by omega)); have HW5 := Lib.hid (HW.out.belowStep (hb5.mono (by omega))); clear hb5 hown5 hgr5 y0; have f5 := HZ5.out.frozen 1; have y1 := HZ5.out.cell (i := 1) rfl)
      refine NoPanic.normal ?_
      clear y1 f5
      go_wp2_with fail
      go_roundg f
      case measure => omega
      case rel => exact ⟨_, l ++ [z], k - 1, by go_num, by omega, by omega, by omega, by rw [List.length_append, HK.out, List.length_singleton]; omega, by rw [List.length_append, HK.out, List.length_singleton]; omega, HZ5.out.set 1 _, HG5.out.otherN (by omega) _ _, HX5.out.otherN (by omega) _ _, HO5.out.other (by omega) _ _, (HC5.out.setNew (by omega) _ _).mono (by omega), HW5.out.setNew (by omega) _ _⟩
    · have hl1 : 1 ≤ c := by omega
      have hl5 : c ≤ 5 := by omega
      replace HC := Lib.hid (HC.out.mono (n' := n + 900000) (by omega))
      obtain rfl : k = 0 := by omega
      clear hk0 hk1 hk2 hk3 hk4 hpos HZ1
      obtain ⟨ob, rfl, hob, _, _⟩ := HO.out.at_ (by have := HK.out; omega)
      obtain ⟨q1, hq1⟩ : ∃ b, (x1 == 1) = b := ⟨_, rfl⟩
      have hHG := HGR.out.2.2
      simp only [] at hHG
      have y0 := HZ.out.cell (i := 0) rfl
      have y1 := HZ.out.cell (i := 1) rfl
      have f0 := HZ.out.frozen 0
      have e2 := HZg.out.cell (i := 2) rfl
      have hlz : w.heap.size < wr.heap.size := HZg.out.lt
      cases q1 with
      | false =>
        go_wp2_with fail
        clear y0 y1 f0 e2 hlz
        obtain ⟨wO, rfl⟩ : ∃ u, u = wr := ⟨_, rfl⟩
        go_loopg [7, 8, 37] c (fun gk v7 v8 kv wr => ∃ (l2 : List Int) (k : Nat), k + gk = c ∧ kv = .int .i64 k ∧ Hid (l2.length = c) ∧ Hid (BoxN wr bx 49 [.int .i64 x1, .slice (some ⟨ob, 0, none⟩) c co]) ∧ Hid (BoxN wr w.heap.size 24 [.int .i64 P, .int .i64 Q, .int .i64 G]) ∧ Hid (BoxN wr (w.heap.size + 1) 49 [.int .i64 0, .slice none 0 0]) ∧ Hid (OwnI wr (bx + 1) (.slice (some ⟨ob, 0, none⟩) c co) l2) ∧ Hid (Cur w0 wr g (n + 900000)) ∧ Hid (Within g (g + 1) W wr))
        case atStart => exact ⟨l, 0, by omega, rfl, HK, HZ, HZg, HX0, HO, HC, HW⟩
        case round =>
          clear HZ HZg HX0 HO HC HW HK
          obtain ⟨l2, k, hkc, rfl, HK, HZ, HZg, HX0, HO, HC, HW⟩ := hrel
          have y0 := HZ.out.cell (i := 0) rfl
          have y1 := HZ.out.cell (i := 1) rfl
          have e2 := HZg.out.cell (i := 2) rfl
          by_cases hlt : k < c
          · obtain ⟨_, hh, _, _, hcx⟩ := HO.out.at_ (by have := HK.out; omega)
            obtain ⟨x1c, x1f⟩ := hcx k hlt
            have HX1 : Hid (wr.cell? ⟨ob, k, none⟩ = some (.int .i64 (nth l2 k))) := by cases hh; exact x1c
            have HX2 : Hid (wr.frozen? ⟨ob, k, none⟩ = false) := by cases hh; exact x1f
            clear hcx hh x1c x1f
            have xc := HX1.out
            have xf := HX2.out
            have HS := Lib.hid (HO.out.stored HK.out k (x := G) ⟨by omega, by omega⟩)
            generalize nth l2 k = y at xc HX1
            have hk0 : (0 : Int) ≤ (k : Int) := by omega
            have hkl : (k : Int) < (c : Int) := by omega
            have ewk : IntKind.i64.wrap ((k : Int) + 1) = (k : Int) + 1 := IntWalk.i64_in _ (by omega)
            obtain ⟨q2, hq2⟩ : ∃ b, (y == 1) = b := ⟨_, rfl⟩
            cases q2 with
            | false =>
              go_wp2_with fail
              go_roundg (c - (k + 1))
              case measure => omega
              case rel => exact ⟨l2, k + 1, by omega, by go_num, HK, HZ, HZg, HX0, HO, HC, HW⟩
            | true =>
              go_wp2_with fail
              go_roundg (c - (k + 1))
              case measure => omega
              case rel => exact ⟨_, k + 1, by omega, by go_num, by unfold Hid; rw [List.length_set]; exact HK.out, HZ.out.otherN (by omega) _ _, HZg.out.otherN (by omega) _ _, HX0.out.otherN (by omega) _ _, HS.out.1, HC.out.setNew (by omega) _ _, HW.out.setNew (by omega) _ _⟩
          · obtain rfl : c = k := by omega
            have xx0 := HX0.out.cell (i := 0) rfl
            have xx1 := HX0.out.cell (i := 1) rfl
            have fx := fun j => HX0.out.frozen j
            go_wp2_with fail
            have HXF := Lib.hid ((HX0.out.set 0 (.int .i64 x1)).set 1 (.slice (some ⟨ob, 0, none⟩) c co))
            have t0 := HXF.out.cell (i := 0) rfl
            have t1 := HXF.out.cell (i := 1) rfl
            try (go_wp2_with fail)
            refine bodyPost_ret (v := .agg #[.int .i64 x1, .slice (some ⟨ob, 0, none⟩) c co]) (by simp [results, Try.results148, go_sem, t0, t1]) rfl ⟨⟨_, _, l2, rfl, ⟨by omega, by omega⟩, ((HO.out.mono (B' := w.heap.size + 2) (by have := HSG.out; omega)).other (by omega) _ _ |>.other (by omega) _ _).mono (by omega), by have := HK.out; omega, by have := HK.out; omega⟩, ((HC.out.setNew (by omega) _ _).setNew (by omega) _ _).mono (by omega), ((HWw.out.trans HW.out).setNew (by omega) _ _).setNew (by omega) _ _⟩
      | true =>
        have HZ2 := Lib.hid (HZ.out.set 0 (.int .i64 G))
        have HG2 := Lib.hid (HZg.out.otherN (b' := bx) (by omega) 0 (.int .i64 G))
        have HX2 := Lib.hid (HX0.out.otherN (b' := bx) (by omega) 0 (.int .i64 G))
        have HO2 := Lib.hid (HO.out.other (b := bx) (by omega) 0 (.int .i64 G))
        have HC2 := Lib.hid (HC.out.setNew (b := bx) (by omega) 0 (.int .i64 G))
        have HW2 := Lib.hid (HW.out.setNew (b := bx) (by omega) 0 (.int .i64 G))
        have y2 := HZ2.out.cell (i := 1) rfl
        go_wp2_with fail
        obtain ⟨wB, hwB⟩ : ∃ u, u = wr.setCell ⟨bx, 0, none⟩ (.int .i64 G) := ⟨_, rfl⟩
        rw [← hwB] at HZ2 HG2 HX2 HO2 HC2 HW2 ⊢
        clear hwB y0 y1 f0 e2 y2 hlz HZ HZg HX0 HO HC HW
        have HZ := HZ2
        have HZg := HG2
        have HX0 := HX2
        have HO := HO2
        have HC := HC2
        have HW := HW2
        clear HZ2 HG2 HX2 HO2 HC2 HW2
        clear hsr hbl2
        obtain ⟨wO, hwO⟩ : ∃ u, u = wr := ⟨_, rfl⟩
        go_loopg [7, 8, 37] c (fun gk v7 v8 kv wr => ∃ (l2 : List Int) (k : Nat), k + gk = c ∧ kv = .int .i64 k ∧ Hid (l2.length = c) ∧ Hid (BoxN wr bx 49 [.int .i64 G, .slice (some ⟨ob, 0, none⟩) c co]) ∧ Hid (BoxN wr w.heap.size 24 [.int .i64 P, .int .i64 Q, .int .i64 G]) ∧ Hid (BoxN wr (w.heap.size + 1) 49 [.int .i64 0, .slice none 0 0]) ∧ Hid (OwnI wr (bx + 1) (.slice (some ⟨ob, 0, none⟩) c co) l2) ∧ Hid (Cur w0 wr g (n + 900000)) ∧ Hid (Within g (g + 1) W wr))
        case atStart => exact ⟨l, 0, by omega, rfl, HK, HZ, HZg, HX0, HO, HC, HW⟩
        case round =>
          clear HZ HZg HX0 HO HC HW HK
          obtain ⟨l2, k, hkc, rfl, HK, HZ, HZg, HX0, HO, HC, HW⟩ := hrel
          have y0 := HZ.out.cell (i := 0) rfl
          have y1 := HZ.out.cell (i := 1) rfl
          have e2 := HZg.out.cell (i := 2) rfl
          by_cases hlt : k < c
          · obtain ⟨_, hh, _, _, hcx⟩ := HO.out.at_ (by have := HK.out; omega)
            obtain ⟨x1c, x1f⟩ := hcx k hlt
            have HX1 : Hid (wr.cell? ⟨ob, k, none⟩ = some (.int .i64 (nth l2 k))) := by cases hh; exact x1c
            have HX2 : Hid (wr.frozen? ⟨ob, k, none⟩ = false) := by cases hh; exact x1f
            clear hcx hh x1c x1f
            have xc := HX1.out
            have xf := HX2.out
            have HS := Lib.hid (HO.out.stored HK.out k (x := G) ⟨by omega, by omega⟩)
            generalize nth l2 k = y at xc HX1
            have hk0 : (0 : Int) ≤ (k : Int) := by omega
            have hkl : (k : Int) < (c : Int) := by omega
            have ewk : IntKind.i64.wrap ((k : Int) + 1) = (k : Int) + 1 := IntWalk.i64_in _ (by omega)
            obtain ⟨q2, hq2⟩ : ∃ b, (y == 1) = b := ⟨_, rfl⟩
            cases q2 with
            | false =>
              go_wp2_with fail
              go_roundg (c - (k + 1))
              case measure => omega
              case rel => exact ⟨l2, k + 1, by omega, by go_num, HK, HZ, HZg, HX0, HO, HC, HW⟩
            | true =>
              go_wp2_with fail
              go_roundg (c - (k + 1))
              case measure => omega
              case rel => exact ⟨_, k + 1, by omega, by go_num, by unfold Hid; rw [List.length_set]; exact HK.out, HZ.out.otherN (by omega) _ _, HZg.out.otherN (by omega) _ _, HX0.out.otherN (by omega) _ _, HS.out.1, HC.out.setNew (by omega) _ _, HW.out.setNew (by omega) _ _⟩
          · obtain rfl : c = k := by omega
            have xx0 := HX0.out.cell (i := 0) rfl
            have xx1 := HX0.out.cell (i := 1) rfl
            have fx := fun j => HX0.out.frozen j
            go_wp2_with fail
            have HXF := Lib.hid ((HX0.out.set 0 (.int .i64 G)).set 1 (.slice (some ⟨ob, 0, none⟩) c co))
            have t0 := HXF.out.cell (i := 0) rfl
            have t1 := HXF.out.cell (i := 1) rfl
            try (go_wp2_with fail)
            refine bodyPost_ret (v := .agg #[.int .i64 G, .slice (some ⟨ob, 0, none⟩) c co]) (by simp [results, Try.results148, go_sem, t0, t1]) rfl ⟨⟨_, _, l2, rfl, ⟨by omega, by omega⟩, ((HO.out.mono (B' := w.heap.size + 2) (by have := HSG.out; omega)).other (by omega) _ _ |>.other (by omega) _ _).mono (by omega), by have := HK.out; omega, by have := HK.out; omega⟩, ((HC.out.setNew (by omega) _ _).setNew (by omega) _ _).mono (by omega), ((HWw.out.trans HW.out).setNew (by omega) _ _).setNew (by omega) _ _⟩
set_option maxRecDepth 100000 in
set_option maxHeartbeats 4000000 in
theorem spec_anyBases (w0 : World) (g : Nat) (n P Q G : Int) (w : World) (h : Cur w0 w g n) (hb : Below w0.heap.size w0 w) (hn : n ≤ 500000000000000) (hgr : GrB ⟨P, Q, G⟩) :
    Calls Try.prog 79 #[.pointer (some ⟨g, 0, none⟩), .agg #[.int .i64 P, .int .i64 Q, .int .i64 G]] w fun e w' => (∃ (hr0 : Int) (vr0 : Value) (lr0 : List Int), e = .returned (.agg #[.int .i64 hr0, vr0]) ∧ (-10 ≤ hr0 ∧ hr0 ≤ 2000000010) ∧ Since w.heap.size w' (fun z => Ints z vr0 lr0) ∧ lr0.length ≤ 26) ∧ Cur w0 w' g (n + 4000000) ∧ Within g (g + 1) w w' := by
  have HGR := Lib.hid hgr
  have HBB := Lib.hid hb
  have hge := h.ge
  have hgw := h.lt
  clear hgr hb
  obtain ⟨W, hW⟩ : ∃ W, W = (w.alloc (.cells #[.int .i64 P, .int .i64 Q, .int .i64 G] 24)).alloc (.cells #[.int .i64 0, (.slice none 0 0)] 49) := ⟨_, rfl⟩
  have hbW : Below w.heap.size w W := by rw [hW]; (repeat (first | exact Below.refl _ _ | assumption | refine Below.drew ?_ | refine Below.alloc ?_ (by first | (simp; done) | (simp; omega)) _ | refine Below.setCell ?_ (by first | (simp; done) | (simp; omega)) _))
  have HZg : Hid (BoxN W w.heap.size 24 [.int .i64 P, .int .i64 Q, .int .i64 G]) := by unfold Hid; rw [hW]; have h := ((BoxN.new w [.int .i64 P, .int .i64 Q, .int .i64 G] 24).alloc (.cells #[.int .i64 0, (.slice none 0 0)] 49)); simpa using h
  have HX0 : Hid (BoxN W (w.heap.size + 1) 49 [.int .i64 0, (.slice none 0 0)]) := by unfold Hid; rw [hW]; have h := (BoxN.new (w.alloc (.cells #[.int .i64 P, .int .i64 Q, .int .i64 G] 24)) [.int .i64 0, (.slice none 0 0)] 49); simpa using h
  have hsW : W.heap.size = w.heap.size + 2 := by rw [hW]; simp
  have HC := Lib.hid (h.keep hbW)
  have HWw := Lib.hid (Within.of_below hbW : Within g (g + 1) w W)
  have HBW : Hid (Below w0.heap.size w0 W) := HBB.out.trans (hbW.mono HBB.out.size)
  clear h
  go_enter Try.func79, Try.ntmps79
  go_wp2_with fail
  rw [← hW]
  have HW := Lib.hid (Within.refl g (g + 1) W)
  clear hW hbW
  have HSG : Hid (W.heap.size = w.heap.size + 2) := by unfold Hid; omega
  have z_0_0 := HZg.out.cell (i := 0) rfl
  have z_0_1 := HZg.out.cell (i := 1) rfl
  have z_0_2 := HZg.out.cell (i := 2) rfl
  try (go_wp2_with fail)
  clear z_0_0 z_0_1 z_0_2
  refine (spec_bases w0 g _ P Q G _ HC.out (HW.out.belowOf HBW.out hge) (by omega) HGR.out).mono ?_
  rintro e u1 ⟨⟨h1, v1, l, rfl, ⟨h1l, h1u⟩, hown, hl1, hl5⟩, hc, hw⟩
  have hsz1 := hw.size
  replace HZg := Lib.hid (HZg.out.kept hw (.inr (by omega)))
  replace HX0 := Lib.hid (HX0.out.kept hw (.inr (by omega)))
  replace HW := Lib.hid (HW.out.trans hw)
  replace HC := Lib.hid hc
  clear hc hw
  obtain ⟨ao, co, rfl⟩ := hown.shape
  obtain ⟨c, hc⟩ : ∃ c, l.length = c := ⟨_, rfl⟩
  rw [hc] at hown hl1 hl5 ⊢
  have HK := Lib.hid hc; clear hc
  obtain ⟨ob, rfl, hob, _, _⟩ := hown.at_ (by have := HK.out; omega)
  have HO := Lib.hid hown
  clear hown
  have x0 := HX0.out.cell (i := 0) rfl
  have x1 := HX0.out.cell (i := 1) rfl
  have hlx := HX0.out.lt
  obtain ⟨V2, hV⟩ : ∃ V, V = u1.alloc (.cells #[.int .i64 h1, .slice (some ⟨ob, 0, none⟩) c co] 49) := ⟨_, rfl⟩
  have hbV : Below u1.heap.size u1 V2 := by rw [hV]; (repeat (first | exact Below.refl _ _ | assumption | refine Below.drew ?_ | refine Below.alloc ?_ (by first | (simp; done) | (simp; omega)) _ | refine Below.setCell ?_ (by first | (simp; done) | (simp; omega)) _))
  have HZ1 : Hid (BoxN V2 u1.heap.size 49 [.int .i64 h1, .slice (some ⟨ob, 0, none⟩) c co]) := by unfold Hid; rw [hV]; have h := (BoxN.new u1 [.int .i64 h1, .slice (some ⟨ob, 0, none⟩) c co] 49); simpa using h
  have hgc : g < u1.heap.size := HC.out.lt
  have hol : ob < u1.heap.size := (HO.out.lt ob rfl).2
  go_wp2_with fail
  rw [← hV]
  have hsV2 : V2.heap.size = u1.heap.size + 1 := by rw [hV]; simp
  clear hV hgc x0 x1 hlx
  replace HZg := Lib.hid (HZg.out.below hbV)
  replace HX0 := Lib.hid (HX0.out.below hbV)
  replace HW := Lib.hid (HW.out.trans (Within.of_below hbV))
  replace HC := Lib.hid (HC.out.keep hbV)
  replace HO := Lib.hid (HO.out.below hbV)
  clear hbV
  refine (spec_pick w0 g _ 20 _ HC.out (HW.out.belowOf HBW.out hge) (by omega) ).mono ?_
  rintro e u3 ⟨⟨x3, rfl, x3l, x3u, x3m, _⟩, hc, hw⟩
  have hsz3 := hw.size
  obtain ⟨bx, hbx⟩ : ∃ b, b = u1.heap.size := ⟨_, rfl⟩
  have hgbx : W.heap.size ≤ bx := by omega
  rw [← hbx] at HZ1 hsV2 hol ⊢
  have HBX0 := Lib.hid hbx
  replace HZg := Lib.hid (HZg.out.kept hw (.inr (by omega)))
  replace HX0 := Lib.hid (HX0.out.kept hw (.inr (by omega)))
  have HZ := Lib.hid (HZ1.out.kept hw (.inr (by omega)))
  have HO0 : Hid (OwnI V2 (w.heap.size + 2) (.slice (some ⟨ob, 0, none⟩) c co) l) := HO.out.mono (by omega)
  clear HO
  have HO := Lib.hid (HO0.out.within hw (by omega))
  replace HW := Lib.hid (HW.out.trans hw)
  replace HC := Lib.hid (hc.mono (n' := n + 1100000) (by omega))
  have hob2 : w.heap.size + 2 ≤ ob := by have := HSG.out; omega
  clear hc hw HO0 hbx
  have hbl : bx < u3.heap.size := HZ.out.lt
  clear hsV2 x3m
  have hHG := HGR.out.2.2
  simp only [] at hHG
  rcases (by omega : x3 = 0 ∨ x3 = 1 ∨ x3 = 2 ∨ (x3 ≠ 0 ∧ x3 ≠ 1 ∧ x3 ≠ 2)) with rfl | rfl | rfl | ⟨i0, i1, i2⟩
  · have z_0_0 := HZg.out.cell (i := 0) rfl
    have z_0_1 := HZg.out.cell (i := 1) rfl
    have z_0_2 := HZg.out.cell (i := 2) rfl
    go_wp2_with fail
    clear z_0_0 z_0_1 z_0_2
    refine (spec_anyElement w0 g _ P Q G _ HC.out (HW.out.belowOf HBW.out hge) (by omega) HGR.out).mono ?_
    rintro e u4 ⟨⟨x, rfl, xl, xu⟩, hc, hw⟩
    have hsz4 := hw.size
    replace HX0 := Lib.hid (HX0.out.kept hw (.inr (by omega)))
    replace HZ := Lib.hid (HZ.out.kept hw (.inr (by omega)))
    replace HO := Lib.hid (HO.out.within hw (by omega))
    replace HW := Lib.hid (HW.out.trans hw)
    replace HC := Lib.hid hc
    clear hc hw HZg
    have y0 := HZ.out.cell (i := 0) rfl
    have y1 := HZ.out.cell (i := 1) rfl
    have f0 := HZ.out.frozen 0
    have x0 := HX0.out.cell (i := 0) rfl
    have x1 := HX0.out.cell (i := 1) rfl
    have fx := fun j => HX0.out.frozen j
    go_wp2_with fail
    have HZ2 := Lib.hid (HZ.out.set 0 (.int .i64 x))
    have HX2 := Lib.hid (HX0.out.otherN (b' := bx) (by omega) 0 (.int .i64 x))
    have HO2 : Hid (OwnI (u4.setCell ⟨bx, 0, none⟩ (.int .i64 x)) (w.heap.size + 2) (.slice (some ⟨ob, 0, none⟩) c co) l) := HO.out.kept (grownBy_setCell _ bx 0 _) (.inr fun e => (HO.out.apart HZ.out (by decide)) _ e rfl)
    have HC2 := Lib.hid (HC.out.setNew (b := bx) (by omega) 0 (.int .i64 x))
    have HW2 := Lib.hid (HW.out.setNew (b := bx) (by omega) 0 (.int .i64 x))
    clear y0 y1 f0 HZ HX0 HO HC HW x0 x1 fx
    have HZ := HZ2
    have HX0 := HX2
    have HO := HO2
    have HC := HC2
    have HW := HW2
    clear HZ2 HX2 HO2 HC2 HW2
    have HXF := Lib.hid ((HX0.out.set 0 (.int .i64 x)).set 1 (.slice (some ⟨ob, 0, none⟩) c co))
    have t0 := HXF.out.cell (i := 0) rfl
    have t1 := HXF.out.cell (i := 1) rfl
    try (go_wp2_with fail)
    refine bodyPost_ret (v := .agg #[.int .i64 x, .slice (some ⟨ob, 0, none⟩) c co]) (by simp [results, Try.results79, go_sem, t0, t1]) rfl ⟨⟨_, _, l, rfl, ⟨by omega, by omega⟩, Since.of_ownI ((HO.out.other (b := w.heap.size + 1) (by omega) _ _).other (b := w.heap.size + 1) (by omega) _ _) (by omega), by have := HK.out; omega⟩, ((HC.out.setNew (by omega) _ _).setNew (by omega) _ _).mono (by omega), ((HWw.out.trans HW.out).setNew (by omega) _ _).setNew (by omega) _ _⟩
  · have HLO := HO
    clear HO
    have hcp : (0 : Int) < (c : Int) := by omega
    have hcn : 0 < c := by omega
    have z_0_0 := HZg.out.cell (i := 0) rfl
    have z_0_1 := HZg.out.cell (i := 1) rfl
    have z_0_2 := HZg.out.cell (i := 2) rfl
    have z_1_0 := HZ.out.cell (i := 0) rfl
    have z_1_1 := HZ.out.cell (i := 1) rfl
    have z_2_0 := HX0.out.cell (i := 0) rfl
    have z_2_1 := HX0.out.cell (i := 1) rfl
    try (go_wp2_with fail)
    refine wp_region_noPanic ?_
    refine wp_region_Q (Within g (g + 1)) (DrawS w0 u3 g _ 5000 (fun w' => w'.cell? ⟨w.heap.size, 0, none⟩ = some (.int .i64 P) ∧ w'.cell? ⟨w.heap.size, 1, none⟩ = some (.int .i64 Q) ∧ w'.cell? ⟨w.heap.size, 2, none⟩ = some (.int .i64 G) ∧ w'.cell? ⟨bx, 0, none⟩ = some (.int .i64 h1) ∧ w'.cell? ⟨bx, 1, none⟩ = some (.slice (some ⟨ob, 0, none⟩) c co) ∧ w'.cell? ⟨(w.heap.size + 1), 0, none⟩ = some (.int .i64 0) ∧ w'.cell? ⟨(w.heap.size + 1), 1, none⟩ = some (.slice none 0 0))) 9 [(0, []), (1, [0]), (2, []), (3, []), (4, [1, 0]), (5, [3])] [6] (by kernel_rfl) (by kernel_rfl) (by kernel_rfl) rfl (fun _ _ _ _ h => h) (DrawS.good _ _ _ _ _ _) ⟨(Within.refl _ _ _).drew, by simpa using HC.out.keep (Below.refl _ _).drew, ⟨box_at z_0_0 (Below.refl _ _).drew, box_at z_0_1 (Below.refl _ _).drew, box_at z_0_2 (Below.refl _ _).drew, box_at z_1_0 (Below.refl _ _).drew, box_at z_1_1 (Below.refl _ _).drew, box_at z_2_0 (Below.refl _ _).drew, box_at z_2_1 (Below.refl _ _).drew⟩⟩ ?_
    simp only [pickP, pickN, List.getElem?_cons_zero, List.getElem?_cons_succ]
    iterate 4 (refine' chainQ_read (DrawS.good _ _ _ _ _ _) _ rfl rfl (fun m w' hm' hS' => ?_) ?_; rotate_left; · (simp only [lookP, allP, Act.put, List.getElem?_cons_zero, List.getElem?_cons_succ, List.setIfInBounds_toArray, List.set_cons_zero, List.set_cons_succ]; (try dsimp only [DrawS] at hS'); go_simp; (try with_reducible rfl)))
    -- 4: call { callee := value (func 135), args := #[t21, t22], argTypes := #[167, 39] }
    refine chainQ_do (d := (some 23)) (fun v u => ∃ (xq4 : Int), v = (.int .i64 xq4) ∧ (-10 ≤ xq4 ∧ xq4 ≤ 2000000010)) (fun v w1 w2 hw h => h) rfl rfl (fun m w' hm' hS' => ?_) ?_
    · simp only [lookP, allP, Act.put, List.getElem?_cons_zero, List.getElem?_cons_succ, List.setIfInBounds_toArray, List.set_cons_zero, List.set_cons_succ]
      intro K hK
      replace hm' : m < 6 := hm'
      go_simp
      go_at_call 44
      refine (spec_anyElement w0 g _ P Q G _ hS'.2.1 (hS'.1.belowOf (HW.out.belowOf HBW.out hge) hge) (by omega) HGR.out).mono ?_
      rintro e u ⟨⟨xq4, rfl, xq4l, xq4u⟩, hc, hw⟩
      exact hK.out _ _ hw ⟨hS'.1.trans hw, hc.mono (by omega), ⟨within_at (hS'.1.trans hw) z_0_0 (.inr (by omega)), within_at (hS'.1.trans hw) z_0_1 (.inr (by omega)), within_at (hS'.1.trans hw) z_0_2 (.inr (by omega)), within_at (hS'.1.trans hw) z_1_0 (.inr (by omega)), within_at (hS'.1.trans hw) z_1_1 (.inr (by omega)), within_at (hS'.1.trans hw) z_2_0 (.inr (by omega)), within_at (hS'.1.trans hw) z_2_1 (.inr (by omega))⟩⟩ ⟨xq4, rfl, ⟨xq4l, xq4u⟩⟩
    -- 5: indexAddr 24 t20 (const (int i64 0))
    refine' chainQ_read (DrawS.good _ _ _ _ _ _) (d := (some 24)) _ rfl rfl (fun m w' hm' hS' => ?_) ?_; rotate_left
    · simp only [lookP, allP, Act.put, List.getElem?_cons_zero, List.getElem?_cons_succ, List.setIfInBounds_toArray, List.set_cons_zero, List.set_cons_succ]
      (try dsimp only [DrawS] at hS')
      go_simp
      (try with_reducible rfl)
    refine chainQ_nil (fun u1 hS' => ?_)
    simp only [allP, Act.put, List.setIfInBounds_toArray, List.set_cons_zero, List.set_cons_succ]
    intro x4 hx4
    replace hS' : DrawS w0 u3 g _ 5000 _ 6 u1 := hS'
    obtain ⟨hw, hc, hC⟩ := hS'
    obtain ⟨xq4, rfl, xq4l, xq4u⟩ := hx4
    have hsz1 := hw.size
    replace HZg := Lib.hid (HZg.out.kept hw (.inr (by omega)))
    replace HZ := Lib.hid (HZ.out.kept hw (.inr (by omega)))
    replace HX0 := Lib.hid (HX0.out.kept hw (.inr (by omega)))
    replace HLO := Lib.hid (HLO.out.within hw (by omega))
    replace HW := Lib.hid (HW.out.trans hw)
    replace HC := Lib.hid hc
    clear hc hw hC
    clear z_0_0 z_0_1 z_0_2 z_1_0 z_1_1 z_2_0 z_2_1
    have HO := HLO
    clear HLO
    obtain ⟨_, hh, _, _, hcx⟩ := HO.out.at_ (by have := HK.out; omega)
    obtain ⟨y1, y2⟩ := hcx 0 (by omega)
    have HX1 : Hid (u1.cell? ⟨ob, 0, none⟩ = some (.int .i64 (nth l 0))) := by cases hh; exact y1
    have HX2 : Hid (u1.frozen? ⟨ob, 0, none⟩ = false) := by cases hh; exact y2
    clear hcx hh y1 y2
    have y1 := HX1.out
    have y2 := HX2.out
    have HS := Lib.hid (HO.out.stored HK.out 0 (x := xq4) ⟨by omega, by omega⟩)
    clear HX1 HX2
    have z0 := HZ.out.cell (i := 0) rfl
    have z1 := HZ.out.cell (i := 1) rfl
    have x0 := HX0.out.cell (i := 0) rfl
    have x1 := HX0.out.cell (i := 1) rfl
    have fx := fun j => HX0.out.frozen j
    go_wp2_with fail
    refine NoPanic.normal ?_
    try (go_wp2_with fail)
    have HZ2 := Lib.hid (HZ.out.other (b' := ob) (by omega) 0 (.int .i64 xq4))
    have HX2 := Lib.hid (HX0.out.otherN (b' := ob) (by omega) 0 (.int .i64 xq4))
    have HO2 : Hid (OwnI (u1.setCell ⟨ob, 0, none⟩ (.int .i64 xq4)) (w.heap.size + 2) (.slice (some ⟨ob, 0, none⟩) c co) (l.set 0 xq4)) := HS.out.1
    have HK2 : Hid ((l.set 0 xq4).length = c) := by unfold Hid; rw [List.length_set]; exact HK.out
    have HC2 := Lib.hid (HC.out.setNew (b := ob) (by omega) 0 (.int .i64 xq4))
    have HW2 := Lib.hid (HW.out.setNew (b := ob) (by omega) 0 (.int .i64 xq4))
    clear y1 y2 HZ HX0 HO HC HW HS HZg HK z0 z1 x0 x1 fx
    have HZ := HZ2
    have HX0 := HX2
    have HO := HO2
    have HC := HC2
    have HW := HW2
    have HK := HK2
    clear HZ2 HX2 HO2 HC2 HW2 HK2
    have HXF := Lib.hid ((HX0.out.set 0 (.int .i64 h1)).set 1 (.slice (some ⟨ob, 0, none⟩) c co))
    have t0 := HXF.out.cell (i := 0) rfl
    have t1 := HXF.out.cell (i := 1) rfl
    try (go_wp2_with fail)
    refine bodyPost_ret (v := .agg #[.int .i64 h1, .slice (some ⟨ob, 0, none⟩) c co]) (by simp [results, Try.results79, go_sem, t0, t1]) rfl ⟨⟨_, _, _, rfl, ⟨by omega, by omega⟩, Since.of_ownI ((HO.out.other (b := w.heap.size + 1) (by omega) _ _).other (b := w.heap.size + 1) (by omega) _ _) (by omega), by have := HK.out; omega⟩, ((HC.out.setNew (by omega) _ _).setNew (by omega) _ _).mono (by omega), ((HWw.out.trans HW.out).setNew (by omega) _ _).setNew (by omega) _ _⟩
  · have hkc : c ≤ 5 := by omega
    have HXL : Hid (Hid (BoxN u3 bx 49 [.int .i64 h1, .slice (some ⟨ob, 0, none⟩) c co])) := HZ
    go_wp2_with fail
    go_loopg [] 30 (fun gk wr => ∃ (ao : Option Addr) (d co : Nat) (l : List Int), l.length = d ∧ 31 ≤ d + gk ∧ d + gk ≤ 36 ∧ d ≤ 25 ∧ Hid (BoxN wr bx 49 [.int .i64 h1, .slice ao d co]) ∧ Hid (BoxN wr w.heap.size 24 [.int .i64 P, .int .i64 Q, .int .i64 G]) ∧ Hid (BoxN wr (w.heap.size + 1) 49 [.int .i64 0, .slice none 0 0]) ∧ Hid (OwnI wr (w.heap.size + 2) (.slice ao d co) l) ∧ Hid (Cur w0 wr g (n + 1200000 + 60000 * (30 - (gk : Int)))) ∧ Hid (Within g (g + 1) W wr))
    case atStart => exact ⟨_, c, co, l, HK.out, by omega, by omega, by omega, HZ, HZg, HX0, HO, HC.out.mono (by omega), HW⟩
    case round =>
      clear HZ HZg HX0 HO HC HW HK HXL HZ1
      obtain ⟨ao, d, co, l, hc, hdx, hd0, hd1, HZ, HZg, HX0, HO, HC, HW⟩ := hrel
      have HK := Lib.hid hc; clear hc
      have hsr := HW.out.size
      have hbl2 := HZ.out.lt
      have HLO := HO
      clear HO
      have z_0_0 := HZg.out.cell (i := 0) rfl
      have z_0_1 := HZg.out.cell (i := 1) rfl
      have z_0_2 := HZg.out.cell (i := 2) rfl
      have z_1_0 := HZ.out.cell (i := 0) rfl
      have z_1_1 := HZ.out.cell (i := 1) rfl
      have z_2_0 := HX0.out.cell (i := 0) rfl
      have z_2_1 := HX0.out.cell (i := 1) rfl
      try (go_wp2_with fail)
      refine wp_region_noPanic ?_
      refine wp_region_Q (Within g (g + 1)) (DrawS w0 wr g _ 5000 (fun w' => w'.cell? ⟨w.heap.size, 0, none⟩ = some (.int .i64 P) ∧ w'.cell? ⟨w.heap.size, 1, none⟩ = some (.int .i64 Q) ∧ w'.cell? ⟨w.heap.size, 2, none⟩ = some (.int .i64 G) ∧ w'.cell? ⟨bx, 0, none⟩ = some (.int .i64 h1) ∧ w'.cell? ⟨bx, 1, none⟩ = some (.slice ao d co) ∧ w'.cell? ⟨(w.heap.size + 1), 0, none⟩ = some (.int .i64 0) ∧ w'.cell? ⟨(w.heap.size + 1), 1, none⟩ = some (.slice none 0 0))) 9 [(0, []), (1, [0]), (2, [0]), (3, []), (4, [0]), (5, [0]), (6, [3, 0])] [] (by kernel_rfl) (by kernel_rfl) (by kernel_rfl) rfl (fun _ _ _ _ h => h) (DrawS.good _ _ _ _ _ _) ⟨(Within.refl _ _ _).drew, by simpa using HC.out.keep (Below.refl _ _).drew, ⟨box_at z_0_0 (Below.refl _ _).drew, box_at z_0_1 (Below.refl _ _).drew, box_at z_0_2 (Below.refl _ _).drew, box_at z_1_0 (Below.refl _ _).drew, box_at z_1_1 (Below.refl _ _).drew, box_at z_2_0 (Below.refl _ _).drew, box_at z_2_1 (Below.refl _ _).drew⟩⟩ ?_
      simp only [pickP, pickN, List.getElem?_cons_zero, List.getElem?_cons_succ]
      iterate 4 (refine' chainQ_read (DrawS.good _ _ _ _ _ _) _ rfl rfl (fun m w' hm' hS' => ?_) ?_; rotate_left; · (simp only [lookP, allP, Act.put, List.getElem?_cons_zero, List.getElem?_cons_succ, List.setIfInBounds_toArray, List.set_cons_zero, List.set_cons_succ]; (try dsimp only [DrawS] at hS'); go_simp; (try with_reducible rfl)))
      -- 4: call { callee := value (func 158), args := #[t30, const (int i64 2)], argTypes := #[167, 3] }
      refine chainQ_do (d := (some 31)) (fun v u => ∃ y : Int, v = .int .i64 y ∧ 0 ≤ y ∧ y ≤ 1) (fun v w1 w2 hw h => h) rfl rfl (fun m w' hm' hS' => ?_) ?_
      · simp only [lookP, allP, Act.put, List.getElem?_cons_zero, List.getElem?_cons_succ, List.setIfInBounds_toArray, List.set_cons_zero, List.set_cons_succ]
        intro K hK
        replace hm' : m < 7 := hm'
        go_simp
        go_at_call 72
        refine (spec_pick w0 g _ 2 _ hS'.2.1 (hS'.1.belowOf (HW.out.belowOf HBW.out hge) hge) (by omega)).mono ?_
        rintro e u ⟨⟨y, rfl, y0, _, y2, _⟩, hc, hw⟩
        replace y2 := y2 (by omega)
        exact hK.out _ _ hw ⟨hS'.1.trans hw, hc.mono (by omega), ⟨within_at (hS'.1.trans hw) z_0_0 (.inr (by omega)), within_at (hS'.1.trans hw) z_0_1 (.inr (by omega)), within_at (hS'.1.trans hw) z_0_2 (.inr (by omega)), within_at (hS'.1.trans hw) z_1_0 (.inr (by omega)), within_at (hS'.1.trans hw) z_1_1 (.inr (by omega)), within_at (hS'.1.trans hw) z_2_0 (.inr (by omega)), within_at (hS'.1.trans hw) z_2_1 (.inr (by omega))⟩⟩ ⟨y, rfl, by omega, by omega⟩
      -- 5: binOp Binadd 3 (const (int i64 24)) t31 3
      refine chainQ_have (DrawS.good _ _ _ _ _ _) (d := (some 32)) (fun v u => ∃ y : Int, v = .int .i64 y ∧ 24 ≤ y ∧ y ≤ 25) (fun v w1 w2 hw h => h) rfl rfl (fun m w' hm' hS' => ?_) ?_
      · simp only [lookP, allP, Act.put, List.getElem?_cons_zero, List.getElem?_cons_succ, List.setIfInBounds_toArray, List.set_cons_zero, List.set_cons_succ]
        intro x4 hx4
        obtain ⟨y, rfl, yl, yu⟩ := hx4
        have ewq : IntKind.i64.wrap (24 + y) = 24 + y := IntWalk.i64_in _ (by omega)
        refine ⟨.int .i64 (24 + y), ?_, 24 + y, rfl, by omega, by omega⟩
        go_simp
      -- 6: binOp Binlss 3 t29 t32 3
      refine chainQ_have (DrawS.good _ _ _ _ _ _) (d := (some 33)) (fun v u => ∃ b : Bool, v = .bool b ∧ (b = true → (d : Int) < 25)) (fun v w1 w2 hw h => h) rfl rfl (fun m w' hm' hS' => ?_) ?_
      · simp only [lookP, allP, Act.put, List.getElem?_cons_zero, List.getElem?_cons_succ, List.setIfInBounds_toArray, List.set_cons_zero, List.set_cons_succ]
        intro x5 hx5
        obtain ⟨y, rfl, yl, yu⟩ := hx5
        refine ⟨.bool (decide ((d : Int) < y)), ?_, _, rfl, fun e => by have := of_decide_eq_true e; omega⟩
        go_simp
      refine chainQ_nil (fun u1 hS' => ?_)
      simp only [allP, Act.put, List.setIfInBounds_toArray, List.set_cons_zero, List.set_cons_succ]
      intro x6 hx6
      intro x5 hx5
      intro x4 hx4
      replace hS' : DrawS w0 wr g _ 5000 _ 7 u1 := hS'
      obtain ⟨hw, hc, hC⟩ := hS'
      have hsz1 := hw.size
      replace HZg := Lib.hid (HZg.out.kept hw (.inr (by omega)))
      replace HZ := Lib.hid (HZ.out.kept hw (.inr (by omega)))
      replace HX0 := Lib.hid (HX0.out.kept hw (.inr (by omega)))
      replace HLO := Lib.hid (HLO.out.within hw (by omega))
      replace HW := Lib.hid (HW.out.trans hw)
      replace HC := Lib.hid hc
      clear hc hw hC
      clear z_0_0 z_0_1 z_0_2 z_1_0 z_1_1 z_2_0 z_2_1
      obtain ⟨b, rfl, hbt⟩ := hx6
      clear hx4 hx5
      have HO := HLO
      clear HLO
      have hsu : bx < u1.heap.size := HZ.out.lt
      refine NoPanic.normal ?_
      cases b with
      | false =>
        have y0 := HZ.out.cell (i := 0) rfl
        have y1 := HZ.out.cell (i := 1) rfl
        have x0 := HX0.out.cell (i := 0) rfl
        have x1 := HX0.out.cell (i := 1) rfl
        have fx := fun j => HX0.out.frozen j
        go_wp2_with fail
        have HXF := Lib.hid ((HX0.out.set 0 (.int .i64 h1)).set 1 (.slice ao d co))
        have t0 := HXF.out.cell (i := 0) rfl
        have t1 := HXF.out.cell (i := 1) rfl
        try (go_wp2_with fail)
        refine bodyPost_ret (v := .agg #[.int .i64 h1, .slice ao d co]) (by simp [results, Try.results79, go_sem, t0, t1]) rfl ⟨⟨_, _, l, rfl, ⟨by omega, by omega⟩, Since.of_ownI ((HO.out.other (b := w.heap.size + 1) (by omega) _ _).other (b := w.heap.size + 1) (by omega) _ _) (by omega), by have := HK.out; omega⟩, ((HC.out.setNew (by omega) _ _).setNew (by omega) _ _).mono (by omega), ((HWw.out.trans HW.out).setNew (by omega) _ _).setNew (by omega) _ _⟩
      | true =>
        have hlt := hbt rfl
        have y0 := HZ.out.cell (i := 0) rfl
        have y1 := HZ.out.cell (i := 1) rfl
        obtain ⟨f, rfl⟩ : ∃ f, gk = f + 1 := ⟨gk - 1, by omega⟩
        have HAP := Lib.hid (HO.out.apart HZ.out (by decide))
        have hrb : u1.grownBy (u1.alloc (.cells #[.int .i64 h1] 3)) (Value.ownBlock (.slice ao d co)) := grownBy_of_below ((Below.refl _ _).alloc (Nat.le_refl _) _)
        have HRB := Lib.hid hrb
        clear hrb
        go_wp2_with (at_builtin; refine wpList_append_intsN rfl _ _ rfl (w.heap.size + 2) _ _ l [h1] rfl (HO.out.alloc _) rfl (Ints.lit1 _ ⟨by omega, by omega⟩) (by rw [HK.out]; simp; omega) (by have := HSG.out; simp; omega) (d + 1) (by rw [HK.out]; rfl) ?_; intro a5 c5 w5 hown5 hgr5; have hga := grownBy_trans HRB.out hgr5; have HZ5 := Lib.hid (HZ.out.grownR hga HAP.out); have hb5 : Below (w.heap.size + 2) u1 w5 := HO.out.grown hga (by have := HSG.out; omega); have HG5 := Lib.hid (HZg.out.belowB hb5 (by omega)); have HX5 := Lib.hid (HX0.out.belowB hb5 (by omega)); have hs5 := hb5.size; have HO5 := Lib.hid hown5; have HC5 := Lib.hid (HC.out.belowB hb5 (by omega)); have HW5 := Lib.hid (HW.out.belowStep (hb5.mono (by have := HSG.out; omega))); clear hb5 hown5 hgr5 hga y0 y1; have f5 := HZ5.out.frozen 1; have y1 := HZ5.out.cell (i := 1) rfl)
        have HA5 := Lib.hid (HO5.out.apart HZ5.out (by decide))
        go_roundg f
        case measure => omega
        case rel => exact ⟨a5, d + 1, c5, l ++ [h1], by rw [List.length_append, HK.out]; rfl, by omega, by omega, by omega, HZ5.out.set 1 _, HG5.out.otherN (by omega) _ _, HX5.out.otherN (by omega) _ _, HO5.out.kept (grownBy_setCell _ bx 1 _) (.inr fun e => HA5.out _ e rfl), (HC5.out.setNew (by omega) _ _).mono (by omega), HW5.out.setNew (by omega) _ _⟩
  · have j0 : (x3 == 0) = false := by rw [beq_eq_false_iff_ne]; exact i0
    have j1 : (x3 == 1) = false := by rw [beq_eq_false_iff_ne]; exact i1
    have j2 : (x3 == 2) = false := by rw [beq_eq_false_iff_ne]; exact i2
    clear i0 i1 i2 HZg
    have y0 := HZ.out.cell (i := 0) rfl
    have y1 := HZ.out.cell (i := 1) rfl
    have x0 := HX0.out.cell (i := 0) rfl
    have x1 := HX0.out.cell (i := 1) rfl
    have fx := fun j => HX0.out.frozen j
    go_wp2_with fail
    have HXF := Lib.hid ((HX0.out.set 0 (.int .i64 h1)).set 1 (.slice (some ⟨ob, 0, none⟩) c co))
    have t0 := HXF.out.cell (i := 0) rfl
    have t1 := HXF.out.cell (i := 1) rfl
    try (go_wp2_with fail)
    refine bodyPost_ret (v := .agg #[.int .i64 h1, .slice (some ⟨ob, 0, none⟩) c co]) (by simp [results, Try.results79, go_sem, t0, t1]) rfl ⟨⟨_, _, l, rfl, ⟨by omega, by omega⟩, Since.of_ownI ((HO.out.other (b := w.heap.size + 1) (by omega) _ _).other (b := w.heap.size + 1) (by omega) _ _) (by omega), by have := HK.out; omega⟩, ((HC.out.setNew (by omega) _ _).setNew (by omega) _ _).mono (by omega), ((HWw.out.trans HW.out).setNew (by omega) _ _).setNew (by omega) _ _⟩
end Go.Proofs.Ytacpnphfopmofaa
namespace Go.Proofs.Ytacpnphfopmofaa
open Go.RowKit
set_option linter.unusedSimpArgs false
set_option linter.unusedVariables false

/-- what holds in every world that agrees in the blocks from B on below T -/
def SinceT (B T : Nat) (w : World) (P : World → Prop) : Prop := T ≤ w.heap.size ∧ ∀ w', w.heap.size ≤ w'.heap.size → (∀ k, B ≤ k → k < T → w'.heap[k]? = w.heap[k]?) → P w'
theorem SinceT.of {B T : Nat} {w W : World} {P : World → Prop} (h : Since B w P) (hb : Below w.heap.size w W) (hT : w.heap.size ≤ T ∧ T ≤ W.heap.size) : SinceT B T W P :=
  ⟨hT.2, fun w' hs hk => h w' (Nat.le_trans hb.size hs) fun k h1 h2 => (hk k h1 (by omega)).trans (hb.block k h2)⟩
theorem SinceT.here {B T : Nat} {w : World} {P : World → Prop} (h : SinceT B T w P) : P w := h.2 w (Nat.le_refl _) fun _ _ _ => rfl
theorem SinceT.step {B T : Nat} {w w' : World} {P : World → Prop} (h : SinceT B T w P) (hs : w.heap.size ≤ w'.heap.size) (hb : ∀ k, B ≤ k → k < T → w'.heap[k]? = w.heap[k]?) : SinceT B T w' P :=
  ⟨Nat.le_trans h.1 hs, fun u h1 h2 => h.2 u (Nat.le_trans hs h1) fun k hk hlt => (h2 k hk hlt).trans (hb k hk hlt)⟩
theorem SinceT.within {B T lo hi : Nat} {w w' : World} {P : World → Prop} (h : SinceT B T w P) (hw : Within lo hi w w') (hT : T ≤ lo ∨ hi ≤ B) : SinceT B T w' P :=
  h.step hw.size fun k hk hlt => hw.block k (by have := h.1; omega) (by omega)
theorem SinceT.below {B T : Nat} {w w' : World} {P : World → Prop} (h : SinceT B T w P) (hb : Below w.heap.size w w') : SinceT B T w' P := h.step hb.size fun k _ hlt => hb.block k (by have := h.1; omega)
theorem SinceT.mono {B B' T : Nat} {w : World} {P : World → Prop} (h : SinceT B T w P) (hB : B' ≤ B) : Since B' w P := fun w' hs hk => h.2 w' hs fun k h1 h2 => hk k (by omega) (by have := h.1; omega)
theorem cmR_bd {gr : GroupD} {bh : Int} {bl : List Int} {m r : Int} : 0 ≤ cmR gr bh bl m r ∧ cmR gr bh bl m r ≤ 2000000000 := by
  unfold cmR
  split
  · rename_i h
    obtain ⟨h1, _, _⟩ := cmB_parts h
    have hg := goodG_ok (baB_parts h1).1
    have := coM_small hg bh m r
    exact ⟨this.1, this.2⟩
  · exact ⟨by omega, by omega⟩
end Go.Proofs.Ytacpnphfopmofaa
