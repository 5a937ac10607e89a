/- Draws: bases, commitments: walks (printed by gen_drb.py). -/
import Derived.Test.YtboahnklilmdpaaDrC1
import Derived.Test.YtboahnklilmdpaaDer5
import Derived.Test.YtboahnklilmdpaaRegV
namespace Go.Proofs.Ytboahnklilmdpaa
open Go.RowKit
set_option linter.unusedSimpArgs false
set_option linter.unusedVariables false

theorem OwnI.other {w : World} {B b : Nat} {v : Value} {l : List Int} (h : OwnI w B v l) (hb : b < B) (j : Nat) (x : Value) : OwnI (w.setCell ⟨b, j, none⟩ x) B v l :=
  h.kept (grownBy_setCell _ b j x) (.inr fun e => by have := (h.lt _ e).1; omega)
/-- a row of integers and a box of another type lie in different blocks -/
theorem OwnI.apart {w : World} {B b : Nat} {v : Value} {l : List Int} {t : TypeId} {cs : List Value} (h : OwnI w B v l) (hx : BoxN w b t cs) (ht : t ≠ 3) : ∀ k, v.ownBlock = some k → b ≠ k := by
  rintro k hk rfl
  rcases h.2.2 with h2 | ⟨g, cap, cur, rfl, hg, hr, r⟩
  · rw [h2.1] at hk; cases hk
  · cases hk
    unfold BoxN at hx
    rw [hx] at hr
    injection hr with hr
    injection hr with h1 h2 h3
    exact ht h2
theorem BoxN.grownR {w w' : World} {b : Nat} {t : TypeId} {cs : List Value} {row : Option Nat} (h : BoxN w b t cs) (hg : w.grownBy w' row) (hne : ∀ k, row = some k → b ≠ k) : BoxN w' b t cs :=
  (hg.block b h.lt (fun e => hne b e.symm rfl)).trans h
theorem BoxN.otherN {w : World} {b b' : Nat} {t : TypeId} {cs : List Value} (h : BoxN w b t cs) (hb : b < b') (j : Nat) (x : Value) : BoxN (w.setCell ⟨b', j, none⟩ x) b t cs := h.other (by omega) j x
set_option maxRecDepth 100000 in
set_option maxHeartbeats 4000000 in
theorem spec_bases (w0 : World) (g : Nat) (n P Q G : Int) (w : World) (h : Cur w0 w g n) (hb : Below w0.heap.size w0 w) (hn : n ≤ 500000000000000) (hgr : GrB ⟨P, Q, G⟩) :
    Calls Try.prog 270 #[.pointer (some ⟨g, 0, none⟩), .agg #[.int .i64 P, .int .i64 Q, .int .i64 G]] w fun e w' => (∃ (hr0 : Int) (vr0 : Value) (lr0 : List Int), e = .returned (.agg #[.int .i64 hr0, vr0]) ∧ ((-10 ≤ hr0 ∧ hr0 ≤ 2000000010) ∧ (OwnI w' w.heap.size vr0 lr0 ∧ 1 ≤ lr0.length ∧ lr0.length ≤ 5))) ∧ Cur w0 w' g (n + 1000000) ∧ Within g (g + 1) w w' := by
  have HGR := Lib.hid hgr
  have HBB := Lib.hid hb
  have hge := h.ge
  have hgw := h.lt
  clear hgr hb
  obtain ⟨W, hW⟩ : ∃ W, W = (w.alloc (.cells #[.int .i64 P, .int .i64 Q, .int .i64 G] 39)).alloc (.cells #[.int .i64 0, (.slice none 0 0)] 79) := ⟨_, rfl⟩
  have hbW : Below w.heap.size w W := by rw [hW]; (repeat (first | exact Below.refl _ _ | assumption | refine Below.drew ?_ | refine Below.alloc ?_ (by first | (simp; done) | (simp; omega)) _ | refine Below.setCell ?_ (by first | (simp; done) | (simp; omega)) _))
  have HZg : Hid (BoxN W w.heap.size 39 [.int .i64 P, .int .i64 Q, .int .i64 G]) := by unfold Hid; rw [hW]; have h := ((BoxN.new w [.int .i64 P, .int .i64 Q, .int .i64 G] 39).alloc (.cells #[.int .i64 0, (.slice none 0 0)] 79)); simpa using h
  have HX0 : Hid (BoxN W (w.heap.size + 1) 79 [.int .i64 0, (.slice none 0 0)]) := by unfold Hid; rw [hW]; have h := (BoxN.new (w.alloc (.cells #[.int .i64 P, .int .i64 Q, .int .i64 G] 39)) [.int .i64 0, (.slice none 0 0)] 79); simpa using h
  have hsW : W.heap.size = w.heap.size + 2 := by rw [hW]; simp
  have HC := Lib.hid (h.keep hbW)
  have HWw := Lib.hid (Within.of_below hbW : Within g (g + 1) w W)
  have HBW : Hid (Below w0.heap.size w0 W) := HBB.out.trans (hbW.mono HBB.out.size)
  clear h
  go_enter Try.func270, Try.ntmps270
  go_wp2_with fail
  rw [← hW]
  have HW := Lib.hid (Within.refl g (g + 1) W)
  clear hW hbW
  have z_0_0 := HZg.out.cell (i := 0) rfl
  have z_0_1 := HZg.out.cell (i := 1) rfl
  have z_0_2 := HZg.out.cell (i := 2) rfl
  have z_1_0 := HX0.out.cell (i := 0) rfl
  have z_1_1 := HX0.out.cell (i := 1) rfl
  try (go_wp2_with fail)
  clear z_0_0 z_0_1 z_0_2 z_1_0 z_1_1
  refine (spec_element w0 g _ P Q G _ HC.out (HW.out.belowOf HBW.out hge) (by omega) HGR.out).mono ?_
  rintro e u1 ⟨⟨x1, rfl, x1l, x1u⟩, hc, hw⟩
  have hsz1 := hw.size
  replace HZg := Lib.hid (HZg.out.kept hw (.inr (by omega)))
  replace HX0 := Lib.hid (HX0.out.kept hw (.inr (by omega)))
  replace HW := Lib.hid (HW.out.trans hw)
  replace HC := Lib.hid hc
  clear hc hw
  have z_0_0 := HZg.out.cell (i := 0) rfl
  have z_0_1 := HZg.out.cell (i := 1) rfl
  have z_0_2 := HZg.out.cell (i := 2) rfl
  have z_1_0 := HX0.out.cell (i := 0) rfl
  have z_1_1 := HX0.out.cell (i := 1) rfl
  have lt_HZg := HZg.out.lt
  have lt_HX0 := HX0.out.lt
  obtain ⟨V2, hV⟩ : ∃ V, V = u1.alloc (.cells #[.int .i64 x1, (.slice none 0 0)] 79) := ⟨_, rfl⟩
  have hbV : Below u1.heap.size u1 V2 := by rw [hV]; (repeat (first | exact Below.refl _ _ | assumption | refine Below.drew ?_ | refine Below.alloc ?_ (by first | (simp; done) | (simp; omega)) _ | refine Below.setCell ?_ (by first | (simp; done) | (simp; omega)) _))
  have HZ1 : Hid (BoxN V2 u1.heap.size 79 [.int .i64 x1, (.slice none 0 0)]) := by unfold Hid; rw [hV]; have h := (BoxN.new u1 [.int .i64 x1, (.slice none 0 0)] 79); simpa using h
  have hgc : g < u1.heap.size := HC.out.lt
  go_wp2_with fail
  rw [← hV]
  have hsV2 : V2.heap.size = u1.heap.size + 1 := by rw [hV]; simp
  clear hV hgc
  replace HZg := Lib.hid (HZg.out.below hbV)
  replace HX0 := Lib.hid (HX0.out.below hbV)
  replace HW := Lib.hid (HW.out.trans (Within.of_below hbV))
  replace HC := Lib.hid (HC.out.keep hbV)
  clear hbV
  clear z_0_0 z_0_1 z_0_2 z_1_0 z_1_1
  clear lt_HZg
  clear lt_HX0
  refine (spec_pick w0 g _ 5 _ HC.out (HW.out.belowOf HBW.out hge) (by omega) ).mono ?_
  rintro e u3 ⟨⟨x3, rfl, x3l, x3u, x3m, _⟩, hc, hw⟩
  replace x3m := x3m (by omega)
  have hsz3 := hw.size
  replace HZg := Lib.hid (HZg.out.kept hw (.inr (by omega)))
  replace HX0 := Lib.hid (HX0.out.kept hw (.inr (by omega)))
  replace HZ1 := Lib.hid (HZ1.out.kept hw (.inr (by omega)))
  replace HW := Lib.hid (HW.out.trans hw)
  replace HC := Lib.hid hc
  clear hc hw
  have ew2 : IntKind.i64.wrap (1 + x3) = 1 + x3 := IntWalk.i64_in _ (by omega)
  have hgbx : W.heap.size ≤ u1.heap.size := by omega
  obtain ⟨bx, hbx⟩ : ∃ b, b = u1.heap.size := ⟨_, rfl⟩
  rw [← hbx] at HZ1 hgbx ⊢
  have HBX0 := Lib.hid hbx
  have hbl : bx < u3.heap.size := HZ1.out.lt
  clear hbx
  obtain ⟨wA, hwA⟩ : ∃ u, u = u3 := ⟨_, rfl⟩
  have HSG : Hid (W.heap.size = w.heap.size + 2) := by unfold Hid; omega
  go_wp2_with fail
  go_loopg [6] 5 (fun gk kv wr => ∃ (hv : Value) (l : List Int) (k : Int), kv = .int .i64 k ∧ 0 ≤ k ∧ k ≤ (gk : Int) ∧ gk ≤ 5 ∧ l.length + gk ≤ 5 ∧ 1 ≤ (l.length : Int) + k ∧ Hid (BoxN wr bx 79 [.int .i64 x1, hv]) ∧ Hid (BoxN wr w.heap.size 39 [.int .i64 P, .int .i64 Q, .int .i64 G]) ∧ Hid (BoxN wr (w.heap.size + 1) 79 [.int .i64 0, .slice none 0 0]) ∧ Hid (OwnI wr (bx + 1) hv l) ∧ Hid (Cur w0 wr g (n + 20000 + 40000 * (5 - (gk : Int)))) ∧ Hid (Within g (g + 1) W wr))
  case atStart => exact ⟨_, [], (1 + x3), rfl, by omega, by omega, by omega, by simp, by simp; omega, HZ1, HZg, HX0, OwnI.nil _ _, HC.out.mono (by omega), HW⟩
  case round =>
    obtain ⟨hv, l, k, rfl, hk0, hk1, hk2, hk3, hk4, HZ, HZg, HX0, HO, HC, HW⟩ := hrel
    have hsr := HW.out.size
    have hbl2 := HZ.out.lt
    obtain ⟨ao, co, rfl⟩ := HO.out.shape
    obtain ⟨c, hc⟩ : ∃ c, l.length = c := ⟨_, rfl⟩
    rw [hc] at HO HZ hk3 hk4
    have HK := Lib.hid hc; clear hc
    by_cases hpos : 0 < k
    · obtain ⟨f, rfl⟩ : ∃ f, gk = f + 1 := ⟨gk - 1, by omega⟩
      have ew : IntKind.i64.wrap (k - 1) = k - 1 := IntWalk.i64_in _ (by omega)
      have HLO := HO
      clear HO
      have z_0_0 := HZg.out.cell (i := 0) rfl
      have z_0_1 := HZg.out.cell (i := 1) rfl
      have z_0_2 := HZg.out.cell (i := 2) rfl
      have z_1_0 := HZ.out.cell (i := 0) rfl
      have z_1_1 := HZ.out.cell (i := 1) rfl
      have z_2_0 := HX0.out.cell (i := 0) rfl
      have z_2_1 := HX0.out.cell (i := 1) rfl
      try (go_wp2_with fail)
      refine wp_region_noPanic ?_
      refine wp_region_Q (Within g (g + 1)) (DrawS w0 wr g _ 5000 (fun w' => w'.cell? ⟨w.heap.size, 0, none⟩ = some (.int .i64 P) ∧ w'.cell? ⟨w.heap.size, 1, none⟩ = some (.int .i64 Q) ∧ w'.cell? ⟨w.heap.size, 2, none⟩ = some (.int .i64 G) ∧ w'.cell? ⟨bx, 0, none⟩ = some (.int .i64 x1) ∧ w'.cell? ⟨bx, 1, none⟩ = some (.slice ao c co) ∧ w'.cell? ⟨(w.heap.size + 1), 0, none⟩ = some (.int .i64 0) ∧ w'.cell? ⟨(w.heap.size + 1), 1, none⟩ = some (.slice none 0 0))) 11 [(0, []), (1, [0]), (2, []), (3, []), (4, [1, 0]), (5, [0])] [6, 7, 8] (by kernel_rfl) (by kernel_rfl) (by kernel_rfl) rfl (fun _ _ _ _ h => h) (DrawS.good _ _ _ _ _ _) ⟨(Within.refl _ _ _).drew, by simpa using HC.out.keep (Below.refl _ _).drew, ⟨box_at z_0_0 (Below.refl _ _).drew, box_at z_0_1 (Below.refl _ _).drew, box_at z_0_2 (Below.refl _ _).drew, box_at z_1_0 (Below.refl _ _).drew, box_at z_1_1 (Below.refl _ _).drew, box_at z_2_0 (Below.refl _ _).drew, box_at z_2_1 (Below.refl _ _).drew⟩⟩ ?_
      simp only [pickP, pickN, List.getElem?_cons_zero, List.getElem?_cons_succ]
      iterate 4 (refine' chainQ_read (DrawS.good _ _ _ _ _ _) _ rfl rfl (fun m w' hm' hS' => ?_) ?_; rotate_left; · (simp only [lookP, allP, Act.put, List.getElem?_cons_zero, List.getElem?_cons_succ, List.setIfInBounds_toArray, List.set_cons_zero, List.set_cons_succ]; (try dsimp only [DrawS] at hS'); go_simp; (try with_reducible rfl)))
      -- 4: call { callee := value (func 257), args := #[t22, t23], argTypes := #[167, 39] }
      refine chainQ_do (d := (some 24)) (fun v u => ∃ (xq4 : Int), v = (.int .i64 xq4) ∧ (-10 ≤ xq4 ∧ xq4 ≤ 2000000010)) (fun v w1 w2 hw h => h) rfl rfl (fun m w' hm' hS' => ?_) ?_
      · simp only [lookP, allP, Act.put, List.getElem?_cons_zero, List.getElem?_cons_succ, List.setIfInBounds_toArray, List.set_cons_zero, List.set_cons_succ]
        intro K hK
        replace hm' : m < 6 := hm'
        go_simp
        go_at_call 257
        refine (spec_element w0 g _ P Q G _ hS'.2.1 (hS'.1.belowOf (HW.out.belowOf HBW.out hge) hge) (by omega) HGR.out).mono ?_
        rintro e u ⟨⟨xq4, rfl, xq4l, xq4u⟩, hc, hw⟩
        exact hK.out _ _ hw ⟨hS'.1.trans hw, hc.mono (by omega), ⟨within_at (hS'.1.trans hw) z_0_0 (.inr (by omega)), within_at (hS'.1.trans hw) z_0_1 (.inr (by omega)), within_at (hS'.1.trans hw) z_0_2 (.inr (by omega)), within_at (hS'.1.trans hw) z_1_0 (.inr (by omega)), within_at (hS'.1.trans hw) z_1_1 (.inr (by omega)), within_at (hS'.1.trans hw) z_2_0 (.inr (by omega)), within_at (hS'.1.trans hw) z_2_1 (.inr (by omega))⟩⟩ ⟨xq4, rfl, ⟨by omega, xq4u⟩⟩
      -- 5: buildSlice 24 1 #[(0, t24)]
      refine chainQ_do (d := (some 25)) (fun v u => ∃ (y0q5 : Int), (-10 ≤ y0q5 ∧ y0q5 ≤ 2000000010) ∧ Since wr.heap.size u (fun z => Ints z v [y0q5])) (fun v w1 w2 hw h => by obtain ⟨z0, b0, h4⟩ := h; exact ⟨z0, b0, h4.within hw (by omega)⟩) rfl rfl (fun m w' hm' hS' => ?_) ?_
      · simp only [lookP, allP, Act.put, List.getElem?_cons_zero, List.getElem?_cons_succ, List.setIfInBounds_toArray, List.set_cons_zero, List.set_cons_succ]
        intro x4 hx4
        intro K hK
        replace hm' : m < 6 := hm'
        obtain ⟨xq4, rfl, xq4l, xq4u⟩ := hx4
        go_simp
        have hbn := (Below.refl w'.heap.size w').alloc (Nat.le_refl _) (.cells #[.int .i64 xq4] 3)
        have hw := (Within.of_below hbn : Within g (g + 1) _ _)
        have hsz0 := hS'.1.size
        refine hK.out _ _ hw ⟨hS'.1.trans hw, (hS'.2.1.keep hbn).mono (by omega), ⟨within_at (hS'.1.trans hw) z_0_0 (.inr (by omega)), within_at (hS'.1.trans hw) z_0_1 (.inr (by omega)), within_at (hS'.1.trans hw) z_0_2 (.inr (by omega)), within_at (hS'.1.trans hw) z_1_0 (.inr (by omega)), within_at (hS'.1.trans hw) z_1_1 (.inr (by omega)), within_at (hS'.1.trans hw) z_2_0 (.inr (by omega)), within_at (hS'.1.trans hw) z_2_1 (.inr (by omega))⟩⟩ ?_
        exact ⟨xq4, ⟨by omega, by omega⟩, Since.of_ownI (OwnI.lit (B := w'.heap.size) w' (Nat.le_refl _) (l := [xq4]) (AllI64.cons (⟨by omega, by omega⟩ : I64 _) AllI64.nil) rfl (by simp [maxLen]) 1 rfl) (by omega)⟩
      refine chainQ_nil (fun u1 hS' => ?_)
      simp only [allP, Act.put, List.setIfInBounds_toArray, List.set_cons_zero, List.set_cons_succ]
      intro x5 hx5
      intro x4 hx4
      replace hS' : DrawS w0 wr g _ 5000 _ 6 u1 := hS'
      obtain ⟨hw, hc, hC⟩ := hS'
      obtain ⟨xq4, rfl, xq4l, xq4u⟩ := hx4
      have hsz1 := hw.size
      replace HZg := Lib.hid (HZg.out.kept hw (.inr (by omega)))
      replace HZ := Lib.hid (HZ.out.kept hw (.inr (by omega)))
      replace HX0 := Lib.hid (HX0.out.kept hw (.inr (by omega)))
      replace HLO := Lib.hid (HLO.out.within hw (by omega))
      replace HW := Lib.hid (HW.out.trans hw)
      replace HC := Lib.hid hc
      clear hc hw hC
      clear z_0_0 z_0_1 z_0_2 z_1_0 z_1_1 z_2_0 z_2_1
      obtain ⟨z, hz0, hl⟩ := hx5
      have hl := hl.here
      have HO1 := HLO
      have HL1 := Lib.hid hl
      clear hl HLO
      have hsu : bx < u1.heap.size := HZ.out.lt
      have HBn : Hid (Below (bx + 1) u1 u1) := Below.refl _ _
      have y0 := HZ.out.cell (i := 1) rfl
      go_wp2_with (at_builtin; refine wpList_append_intsN rfl _ _ rfl (bx + 1) _ _ l [z] rfl HO1.out rfl HL1.out (by rw [HK.out]; simp; omega) (by omega) (c + 1) (by rw [HK.out]; rfl) ?_; intro a5 c5 w5 hown5 hgr5; have hb5 : Below (bx + 1) u1 w5 := HO1.out.grown hgr5 (by omega); have HZ5 := Lib.hid (HZ.out.belowB hb5 (by omega)); have HG5 := Lib.hid (HZg.out.belowB hb5 (by omega)); have HX5 := Lib.hid (HX0.out.belowB hb5 (by omega)); have hs5 := hb5.size; have HO5 := Lib.hid hown5; have HC5 := Lib.hid (HC.out.belowB hb5 (by omega)); have HW5 := Lib.hid (HW.out.belowStep (hb5.mono (by omega))); clear hb5 hown5 hgr5 y0; have f5 := HZ5.out.frozen 1; have y1 := HZ5.out.cell (i := 1) rfl)
      refine NoPanic.normal ?_
      clear y1 f5
      go_wp2_with fail
      go_roundg f
      case measure => omega
      case rel => exact ⟨_, l ++ [z], k - 1, by go_num, by omega, by omega, by omega, by rw [List.length_append, HK.out, List.length_singleton]; omega, by rw [List.length_append, HK.out, List.length_singleton]; omega, HZ5.out.set 1 _, HG5.out.otherN (by omega) _ _, HX5.out.otherN (by omega) _ _, HO5.out.other (by omega) _ _, (HC5.out.setNew (by omega) _ _).mono (by omega), HW5.out.setNew (by omega) _ _⟩
    · have hl1 : 1 ≤ c := by omega
      have hl5 : c ≤ 5 := by omega
      replace HC := Lib.hid (HC.out.mono (n' := n + 900000) (by omega))
      obtain rfl : k = 0 := by omega
      clear hk0 hk1 hk2 hk3 hk4 hpos HZ1
      obtain ⟨ob, rfl, hob, _, _⟩ := HO.out.at_ (by have := HK.out; omega)
      obtain ⟨q1, hq1⟩ : ∃ b, (x1 == 1) = b := ⟨_, rfl⟩
      have hHG := HGR.out.2.2
      simp only [] at hHG
      have y0 := HZ.out.cell (i := 0) rfl
      have y1 := HZ.out.cell (i := 1) rfl
      have f0 := HZ.out.frozen 0
      have e2 := HZg.out.cell (i := 2) rfl
      have hlz : w.heap.size < wr.heap.size := HZg.out.lt
      cases q1 with
      | false =>
        go_wp2_with fail
        clear y0 y1 f0 e2 hlz
        obtain ⟨wO, rfl⟩ : ∃ u, u = wr := ⟨_, rfl⟩
        go_loopg [7, 8, 37] c (fun gk v7 v8 kv wr => ∃ (l2 : List Int) (k : Nat), k + gk = c ∧ kv = .int .i64 k ∧ Hid (l2.length = c) ∧ Hid (BoxN wr bx 79 [.int .i64 x1, .slice (some ⟨ob, 0, none⟩) c co]) ∧ Hid (BoxN wr w.heap.size 39 [.int .i64 P, .int .i64 Q, .int .i64 G]) ∧ Hid (BoxN wr (w.heap.size + 1) 79 [.int .i64 0, .slice none 0 0]) ∧ Hid (OwnI wr (bx + 1) (.slice (some ⟨ob, 0, none⟩) c co) l2) ∧ Hid (Cur w0 wr g (n + 900000)) ∧ Hid (Within g (g + 1) W wr))
        case atStart => exact ⟨l, 0, by omega, rfl, HK, HZ, HZg, HX0, HO, HC, HW⟩
        case round =>
          clear HZ HZg HX0 HO HC HW HK
          obtain ⟨l2, k, hkc, rfl, HK, HZ, HZg, HX0, HO, HC, HW⟩ := hrel
          have y0 := HZ.out.cell (i := 0) rfl
          have y1 := HZ.out.cell (i := 1) rfl
          have e2 := HZg.out.cell (i := 2) rfl
          by_cases hlt : k < c
          · obtain ⟨_, hh, _, _, hcx⟩ := HO.out.at_ (by have := HK.out; omega)
            obtain ⟨x1c, x1f⟩ := hcx k hlt
            have HX1 : Hid (wr.cell? ⟨ob, k, none⟩ = some (.int .i64 (nth l2 k))) := by cases hh; exact x1c
            have HX2 : Hid (wr.frozen? ⟨ob, k, none⟩ = false) := by cases hh; exact x1f
            clear hcx hh x1c x1f
            have xc := HX1.out
            have xf := HX2.out
            have HS := Lib.hid (HO.out.stored HK.out k (x := G) ⟨by omega, by omega⟩)
            generalize nth l2 k = y at xc HX1
            have hk0 : (0 : Int) ≤ (k : Int) := by omega
            have hkl : (k : Int) < (c : Int) := by omega
            have ewk : IntKind.i64.wrap ((k : Int) + 1) = (k : Int) + 1 := IntWalk.i64_in _ (by omega)
            obtain ⟨q2, hq2⟩ : ∃ b, (y == 1) = b := ⟨_, rfl⟩
            cases q2 with
            | false =>
              go_wp2_with fail
              go_roundg (c - (k + 1))
              case measure => omega
              case rel => exact ⟨l2, k + 1, by omega, by go_num, HK, HZ, HZg, HX0, HO, HC, HW⟩
            | true =>
              go_wp2_with fail
              go_roundg (c - (k + 1))
              case measure => omega
              case rel => exact ⟨_, k + 1, by omega, by go_num, by unfold Hid; rw [List.length_set]; exact HK.out, HZ.out.otherN (by omega) _ _, HZg.out.otherN (by omega) _ _, HX0.out.otherN (by omega) _ _, HS.out.1, HC.out.setNew (by omega) _ _, HW.out.setNew (by omega) _ _⟩
          · obtain rfl : c = k := by omega
            have xx0 := HX0.out.cell (i := 0) rfl
            have xx1 := HX0.out.cell (i := 1) rfl
            have fx := fun j => HX0.out.frozen j
            go_wp2_with fail
            have HXF := Lib.hid ((HX0.out.set 0 (.int .i64 x1)).set 1 (.slice (some ⟨ob, 0, none⟩) c co))
            have t0 := HXF.out.cell (i := 0) rfl
            have t1 := HXF.out.cell (i := 1) rfl
            try (go_wp2_with fail)
            refine bodyPost_ret (v := .agg #[.int .i64 x1, .slice (some ⟨ob, 0, none⟩) c co]) (by simp [results, Try.results270, go_sem, t0, t1]) rfl ⟨⟨_, _, l2, rfl, ⟨by omega, by omega⟩, ((HO.out.mono (B' := w.heap.size + 2) (by have := HSG.out; omega)).other (by omega) _ _ |>.other (by omega) _ _).mono (by omega), by have := HK.out; omega, by have := HK.out; omega⟩, ((HC.out.setNew (by omega) _ _).setNew (by omega) _ _).mono (by omega), ((HWw.out.trans HW.out).setNew (by omega) _ _).setNew (by omega) _ _⟩
      | true =>
        have HZ2 := Lib.hid (HZ.out.set 0 (.int .i64 G))
        have HG2 := Lib.hid (HZg.out.otherN (b' := bx) (by omega) 0 (.int .i64 G))
        have HX2 := Lib.hid (HX0.out.otherN (b' := bx) (by omega) 0 (.int .i64 G))
        have HO2 := Lib.hid (HO.out.other (b := bx) (by omega) 0 (.int .i64 G))
        have HC2 := Lib.hid (HC.out.setNew (b := bx) (by omega) 0 (.int .i64 G))
        have HW2 := Lib.hid (HW.out.setNew (b := bx) (by omega) 0 (.int .i64 G))
        have y2 := HZ2.out.cell (i := 1) rfl
        go_wp2_with fail
        obtain ⟨wB, hwB⟩ : ∃ u, u = wr.setCell ⟨bx, 0, none⟩ (.int .i64 G) := ⟨_, rfl⟩
        rw [← hwB] at HZ2 HG2 HX2 HO2 HC2 HW2 ⊢
        clear hwB y0 y1 f0 e2 y2 hlz HZ HZg HX0 HO HC HW
        have HZ := HZ2
        have HZg := HG2
        have HX0 := HX2
        have HO := HO2
        have HC := HC2
        have HW := HW2
        clear HZ2 HG2 HX2 HO2 HC2 HW2
        clear hsr hbl2
        obtain ⟨wO, hwO⟩ : ∃ u, u = wr := ⟨_, rfl⟩
        go_loopg [7, 8, 37] c (fun gk v7 v8 kv wr => ∃ (l2 : List Int) (k : Nat), k + gk = c ∧ kv = .int .i64 k ∧ Hid (l2.length = c) ∧ Hid (BoxN wr bx 79 [.int .i64 G, .slice (some ⟨ob, 0, none⟩) c co]) ∧ Hid (BoxN wr w.heap.size 39 [.int .i64 P, .int .i64 Q, .int .i64 G]) ∧ Hid (BoxN wr (w.heap.size + 1) 79 [.int .i64 0, .slice none 0 0]) ∧ Hid (OwnI wr (bx + 1) (.slice (some ⟨ob, 0, none⟩) c co) l2) ∧ Hid (Cur w0 wr g (n + 900000)) ∧ Hid (Within g (g + 1) W wr))
        case atStart => exact ⟨l, 0, by omega, rfl, HK, HZ, HZg, HX0, HO, HC, HW⟩
        case round =>
          clear HZ HZg HX0 HO HC HW HK
          obtain ⟨l2, k, hkc, rfl, HK, HZ, HZg, HX0, HO, HC, HW⟩ := hrel
          have y0 := HZ.out.cell (i := 0) rfl
          have y1 := HZ.out.cell (i := 1) rfl
          have e2 := HZg.out.cell (i := 2) rfl
          by_cases hlt : k < c
          · obtain ⟨_, hh, _, _, hcx⟩ := HO.out.at_ (by have := HK.out; omega)
            obtain ⟨x1c, x1f⟩ := hcx k hlt
            have HX1 : Hid (wr.cell? ⟨ob, k, none⟩ = some (.int .i64 (nth l2 k))) := by cases hh; exact x1c
            have HX2 : Hid (wr.frozen? ⟨ob, k, none⟩ = false) := by cases hh; exact x1f
            clear hcx hh x1c x1f
            have xc := HX1.out
            have xf := HX2.out
            have HS := Lib.hid (HO.out.stored HK.out k (x := G) ⟨by omega, by omega⟩)
            generalize nth l2 k = y at xc HX1
            have hk0 : (0 : Int) ≤ (k : Int) := by omega
            have hkl : (k : Int) < (c : Int) := by omega
            have ewk : IntKind.i64.wrap ((k : Int) + 1) = (k : Int) + 1 := IntWalk.i64_in _ (by omega)
            obtain ⟨q2, hq2⟩ : ∃ b, (y == 1) = b := ⟨_, rfl⟩
            cases q2 with
            | false =>
              go_wp2_with fail
              go_roundg (c - (k + 1))
              case measure => omega
              case rel => exact ⟨l2, k + 1, by omega, by go_num, HK, HZ, HZg, HX0, HO, HC, HW⟩
            | true =>
              go_wp2_with fail
              go_roundg (c - (k + 1))
              case measure => omega
              case rel => exact ⟨_, k + 1, by omega, by go_num, by unfold Hid; rw [List.length_set]; exact HK.out, HZ.out.otherN (by omega) _ _, HZg.out.otherN (by omega) _ _, HX0.out.otherN (by omega) _ _, HS.out.1, HC.out.setNew (by omega) _ _, HW.out.setNew (by omega) _ _⟩
          · obtain rfl : c = k := by omega
            have xx0 := HX0.out.cell (i := 0) rfl
            have xx1 := HX0.out.cell (i := 1) rfl
            have fx := fun j => HX0.out.frozen j
            go_wp2_with fail
            have HXF := Lib.hid ((HX0.out.set 0 (.int .i64 G)).set 1 (.slice (some ⟨ob, 0, none⟩) c co))
            have t0 := HXF.out.cell (i := 0) rfl
            have t1 := HXF.out.cell (i := 1) rfl
            try (go_wp2_with fail)
            refine bodyPost_ret (v := .agg #[.int .i64 G, .slice (some ⟨ob, 0, none⟩) c co]) (by simp [results, Try.results270, go_sem, t0, t1]) rfl ⟨⟨_, _, l2, rfl, ⟨by omega, by omega⟩, ((HO.out.mono (B' := w.heap.size + 2) (by have := HSG.out; omega)).other (by omega) _ _ |>.other (by omega) _ _).mono (by omega), by have := HK.out; omega, by have := HK.out; omega⟩, ((HC.out.setNew (by omega) _ _).setNew (by omega) _ _).mono (by omega), ((HWw.out.trans HW.out).setNew (by omega) _ _).setNew (by omega) _ _⟩
set_option maxRecDepth 100000 in
set_option maxHeartbeats 4000000 in
theorem spec_anyBases (w0 : World) (g : Nat) (n P Q G : Int) (w : World) (h : Cur w0 w g n) (hb : Below w0.heap.size w0 w) (hn : n ≤ 500000000000000) (hgr : GrB ⟨P, Q, G⟩) :
    Calls Try.prog 169 #[.pointer (some ⟨g, 0, none⟩), .agg #[.int .i64 P, .int .i64 Q, .int .i64 G]] w fun e w' => (∃ (hr0 : Int) (vr0 : Value) (lr0 : List Int), e = .returned (.agg #[.int .i64 hr0, vr0]) ∧ (-10 ≤ hr0 ∧ hr0 ≤ 2000000010) ∧ Since w.heap.size w' (fun z => Ints z vr0 lr0) ∧ lr0.length ≤ 26) ∧ Cur w0 w' g (n + 4000000) ∧ Within g (g + 1) w w' := by
  have HGR := Lib.hid hgr
  have HBB := Lib.hid hb
  have hge := h.ge
  have hgw := h.lt
  clear hgr hb
  obtain ⟨W, hW⟩ : ∃ W, W = (w.alloc (.cells #[.int .i64 P, .int .i64 Q, .int .i64 G] 39)).alloc (.cells #[.int .i64 0, (.slice none 0 0)] 79) := ⟨_, rfl⟩
  have hbW : Below w.heap.size w W := by rw [hW]; (repeat (first | exact Below.refl _ _ | assumption | refine Below.drew ?_ | refine Below.alloc ?_ (by first | (simp; done) | (simp; omega)) _ | refine Below.setCell ?_ (by first | (simp; done) | (simp; omega)) _))
  have HZg : Hid (BoxN W w.heap.size 39 [.int .i64 P, .int .i64 Q, .int .i64 G]) := by unfold Hid; rw [hW]; have h := ((BoxN.new w [.int .i64 P, .int .i64 Q, .int .i64 G] 39).alloc (.cells #[.int .i64 0, (.slice none 0 0)] 79)); simpa using h
  have HX0 : Hid (BoxN W (w.heap.size + 1) 79 [.int .i64 0, (.slice none 0 0)]) := by unfold Hid; rw [hW]; have h := (BoxN.new (w.alloc (.cells #[.int .i64 P, .int .i64 Q, .int .i64 G] 39)) [.int .i64 0, (.slice none 0 0)] 79); simpa using h
  have hsW : W.heap.size = w.heap.size + 2 := by rw [hW]; simp
  have HC := Lib.hid (h.keep hbW)
  have HWw := Lib.hid (Within.of_below hbW : Within g (g + 1) w W)
  have HBW : Hid (Below w0.heap.size w0 W) := HBB.out.trans (hbW.mono HBB.out.size)
  clear h
  go_enter Try.func169, Try.ntmps169
  go_wp2_with fail
  rw [← hW]
  have HW := Lib.hid (Within.refl g (g + 1) W)
  clear hW hbW
  have HSG : Hid (W.heap.size = w.heap.size + 2) := by unfold Hid; omega
  have z_0_0 := HZg.out.cell (i := 0) rfl
  have z_0_1 := HZg.out.cell (i := 1) rfl
  have z_0_2 := HZg.out.cell (i := 2) rfl
  try (go_wp2_with fail)
  clear z_0_0 z_0_1 z_0_2
  refine (spec_bases w0 g _ P Q G _ HC.out (HW.out.belowOf HBW.out hge) (by omega) HGR.out).mono ?_
  rintro e u1 ⟨⟨h1, v1, l, rfl, ⟨h1l, h1u⟩, hown, hl1, hl5⟩, hc, hw⟩
  have hsz1 := hw.size
  replace HZg := Lib.hid (HZg.out.kept hw (.inr (by omega)))
  replace HX0 := Lib.hid (HX0.out.kept hw (.inr (by omega)))
  replace HW := Lib.hid (HW.out.trans hw)
  replace HC := Lib.hid hc
  clear hc hw
  obtain ⟨ao, co, rfl⟩ := hown.shape
  obtain ⟨c, hc⟩ : ∃ c, l.length = c := ⟨_, rfl⟩
  rw [hc] at hown hl1 hl5 ⊢
  have HK := Lib.hid hc; clear hc
  obtain ⟨ob, rfl, hob, _, _⟩ := hown.at_ (by have := HK.out; omega)
  have HO := Lib.hid hown
  clear hown
  have x0 := HX0.out.cell (i := 0) rfl
  have x1 := HX0.out.cell (i := 1) rfl
  have hlx := HX0.out.lt
  obtain ⟨V2, hV⟩ : ∃ V, V = u1.alloc (.cells #[.int .i64 h1, .slice (some ⟨ob, 0, none⟩) c co] 79) := ⟨_, rfl⟩
  have hbV : Below u1.heap.size u1 V2 := by rw [hV]; (repeat (first | exact Below.refl _ _ | assumption | refine Below.drew ?_ | refine Below.alloc ?_ (by first | (simp; done) | (simp; omega)) _ | refine Below.setCell ?_ (by first | (simp; done) | (simp; omega)) _))
  have HZ1 : Hid (BoxN V2 u1.heap.size 79 [.int .i64 h1, .slice (some ⟨ob, 0, none⟩) c co]) := by unfold Hid; rw [hV]; have h := (BoxN.new u1 [.int .i64 h1, .slice (some ⟨ob, 0, none⟩) c co] 79); simpa using h
  have hgc : g < u1.heap.size := HC.out.lt
  have hol : ob < u1.heap.size := (HO.out.lt ob rfl).2
  go_wp2_with fail
  rw [← hV]
  have hsV2 : V2.heap.size = u1.heap.size + 1 := by rw [hV]; simp
  clear hV hgc x0 x1 hlx
  replace HZg := Lib.hid (HZg.out.below hbV)
  replace HX0 := Lib.hid (HX0.out.below hbV)
  replace HW := Lib.hid (HW.out.trans (Within.of_below hbV))
  replace HC := Lib.hid (HC.out.keep hbV)
  replace HO := Lib.hid (HO.out.below hbV)
  clear hbV
  refine (spec_pick w0 g _ 20 _ HC.out (HW.out.belowOf HBW.out hge) (by omega) ).mono ?_
  rintro e u3 ⟨⟨x3, rfl, x3l, x3u, x3m, _⟩, hc, hw⟩
  have hsz3 := hw.size
  obtain ⟨bx, hbx⟩ : ∃ b, b = u1.heap.size := ⟨_, rfl⟩
  have hgbx : W.heap.size ≤ bx := by omega
  rw [← hbx] at HZ1 hsV2 hol ⊢
  have HBX0 := Lib.hid hbx
  replace HZg := Lib.hid (HZg.out.kept hw (.inr (by omega)))
  replace HX0 := Lib.hid (HX0.out.kept hw (.inr (by omega)))
  have HZ := Lib.hid (HZ1.out.kept hw (.inr (by omega)))
  have HO0 : Hid (OwnI V2 (w.heap.size + 2) (.slice (some ⟨ob, 0, none⟩) c co) l) := HO.out.mono (by omega)
  clear HO
  have HO := Lib.hid (HO0.out.within hw (by omega))
  replace HW := Lib.hid (HW.out.trans hw)
  replace HC := Lib.hid (hc.mono (n' := n + 1100000) (by omega))
  have hob2 : w.heap.size + 2 ≤ ob := by have := HSG.out; omega
  clear hc hw HO0 hbx
  have hbl : bx < u3.heap.size := HZ.out.lt
  clear hsV2 x3m
  have hHG := HGR.out.2.2
  simp only [] at hHG
  rcases (by omega : x3 = 0 ∨ x3 = 1 ∨ x3 = 2 ∨ (x3 ≠ 0 ∧ x3 ≠ 1 ∧ x3 ≠ 2)) with rfl | rfl | rfl | ⟨i0, i1, i2⟩
  · have z_0_0 := HZg.out.cell (i := 0) rfl
    have z_0_1 := HZg.out.cell (i := 1) rfl
    have z_0_2 := HZg.out.cell (i := 2) rfl
    go_wp2_with fail
    clear z_0_0 z_0_1 z_0_2
    refine (spec_anyElement w0 g _ P Q G _ HC.out (HW.out.belowOf HBW.out hge) (by omega) HGR.out).mono ?_
    rintro e u4 ⟨⟨x, rfl, xl, xu⟩, hc, hw⟩
    have hsz4 := hw.size
    replace HX0 := Lib.hid (HX0.out.kept hw (.inr (by omega)))
    replace HZ := Lib.hid (HZ.out.kept hw (.inr (by omega)))
    replace HO := Lib.hid (HO.out.within hw (by omega))
    replace HW := Lib.hid (HW.out.trans hw)
    replace HC := Lib.hid hc
    clear hc hw HZg
    have y0 := HZ.out.cell (i := 0) rfl
    have y1 := HZ.out.cell (i := 1) rfl
    have f0 := HZ.out.frozen 0
    have x0 := HX0.out.cell (i := 0) rfl
    have x1 := HX0.out.cell (i := 1) rfl
    have fx := fun j => HX0.out.frozen j
    go_wp2_with fail
    have HZ2 := Lib.hid (HZ.out.set 0 (.int .i64 x))
    have HX2 := Lib.hid (HX0.out.otherN (b' := bx) (by omega) 0 (.int .i64 x))
    have HO2 : Hid (OwnI (u4.setCell ⟨bx, 0, none⟩ (.int .i64 x)) (w.heap.size + 2) (.slice (some ⟨ob, 0, none⟩) c co) l) := HO.out.kept (grownBy_setCell _ bx 0 _) (.inr fun e => (HO.out.apart HZ.out (by decide)) _ e rfl)
    have HC2 := Lib.hid (HC.out.setNew (b := bx) (by omega) 0 (.int .i64 x))
    have HW2 := Lib.hid (HW.out.setNew (b := bx) (by omega) 0 (.int .i64 x))
    clear y0 y1 f0 HZ HX0 HO HC HW x0 x1 fx
    have HZ := HZ2
    have HX0 := HX2
    have HO := HO2
    have HC := HC2
    have HW := HW2
    clear HZ2 HX2 HO2 HC2 HW2
    have HXF := Lib.hid ((HX0.out.set 0 (.int .i64 x)).set 1 (.slice (some ⟨ob, 0, none⟩) c co))
    have t0 := HXF.out.cell (i := 0) rfl
    have t1 := HXF.out.cell (i := 1) rfl
    try (go_wp2_with fail)
    refine bodyPost_ret (v := .agg #[.int .i64 x, .slice (some ⟨ob, 0, none⟩) c co]) (by simp [results, Try.results169, go_sem, t0, t1]) rfl ⟨⟨_, _, l, rfl, ⟨by omega, by omega⟩, Since.of_ownI ((HO.out.other (b := w.heap.size + 1) (by omega) _ _).other (b := w.heap.size + 1) (by omega) _ _) (by omega), by have := HK.out; omega⟩, ((HC.out.setNew (by omega) _ _).setNew (by omega) _ _).mono (by omega), ((HWw.out.trans HW.out).setNew (by omega) _ _).setNew (by omega) _ _⟩
  · have HLO := HO
    clear HO
    have hcp : (0 : Int) < (c : Int) := by omega
    have hcn : 0 < c := by omega
    have z_0_0 := HZg.out.cell (i := 0) rfl
    have z_0_1 := HZg.out.cell (i := 1) rfl
    have z_0_2 := HZg.out.cell (i := 2) rfl
    have z_1_0 := HZ.out.cell (i := 0) rfl
    have z_1_1 := HZ.out.cell (i := 1) rfl
    have z_2_0 := HX0.out.cell (i := 0) rfl
    have z_2_1 := HX0.out.cell (i := 1) rfl
    try (go_wp2_with fail)
    refine wp_region_noPanic ?_
    refine wp_region_Q (Within g (g + 1)) (DrawS w0 u3 g _ 5000 (fun w' => w'.cell? ⟨w.heap.size, 0, none⟩ = some (.int .i64 P) ∧ w'.cell? ⟨w.heap.size, 1, none⟩ = some (.int .i64 Q) ∧ w'.cell? ⟨w.heap.size, 2, none⟩ = some (.int .i64 G) ∧ w'.cell? ⟨bx, 0, none⟩ = some (.int .i64 h1) ∧ w'.cell? ⟨bx, 1, none⟩ = some (.slice (some ⟨ob, 0, none⟩) c co) ∧ w'.cell? ⟨(w.heap.size + 1), 0, none⟩ = some (.int .i64 0) ∧ w'.cell? ⟨(w.heap.size + 1), 1, none⟩ = some (.slice none 0 0))) 9 [(0, []), (1, [0]), (2, []), (3, []), (4, [1, 0]), (5, [3])] [6] (by kernel_rfl) (by kernel_rfl) (by kernel_rfl) rfl (fun _ _ _ _ h => h) (DrawS.good _ _ _ _ _ _) ⟨(Within.refl _ _ _).drew, by simpa using HC.out.keep (Below.refl _ _).drew, ⟨box_at z_0_0 (Below.refl _ _).drew, box_at z_0_1 (Below.refl _ _).drew, box_at z_0_2 (Below.refl _ _).drew, box_at z_1_0 (Below.refl _ _).drew, box_at z_1_1 (Below.refl _ _).drew, box_at z_2_0 (Below.refl _ _).drew, box_at z_2_1 (Below.refl _ _).drew⟩⟩ ?_
    simp only [pickP, pickN, List.getElem?_cons_zero, List.getElem?_cons_succ]
    iterate 4 (refine' chainQ_read (DrawS.good _ _ _ _ _ _) _ rfl rfl (fun m w' hm' hS' => ?_) ?_; rotate_left; · (simp only [lookP, allP, Act.put, List.getElem?_cons_zero, List.getElem?_cons_succ, List.setIfInBounds_toArray, List.set_cons_zero, List.set_cons_succ]; (try dsimp only [DrawS] at hS'); go_simp; (try with_reducible rfl)))
    -- 4: call { callee := value (func 135), args := #[t21, t22], argTypes := #[167, 39] }
    refine chainQ_do (d := (some 23)) (fun v u => ∃ (xq4 : Int), v = (.int .i64 xq4) ∧ (-10 ≤ xq4 ∧ xq4 ≤ 2000000010)) (fun v w1 w2 hw h => h) rfl rfl (fun m w' hm' hS' => ?_) ?_
    · simp only [lookP, allP, Act.put, List.getElem?_cons_zero, List.getElem?_cons_succ, List.setIfInBounds_toArray, List.set_cons_zero, List.set_cons_succ]
      intro K hK
      replace hm' : m < 6 := hm'
      go_simp
      go_at_call 135
      refine (spec_anyElement w0 g _ P Q G _ hS'.2.1 (hS'.1.belowOf (HW.out.belowOf HBW.out hge) hge) (by omega) HGR.out).mono ?_
      rintro e u ⟨⟨xq4, rfl, xq4l, xq4u⟩, hc, hw⟩
      exact hK.out _ _ hw ⟨hS'.1.trans hw, hc.mono (by omega), ⟨within_at (hS'.1.trans hw) z_0_0 (.inr (by omega)), within_at (hS'.1.trans hw) z_0_1 (.inr (by omega)), within_at (hS'.1.trans hw) z_0_2 (.inr (by omega)), within_at (hS'.1.trans hw) z_1_0 (.inr (by omega)), within_at (hS'.1.trans hw) z_1_1 (.inr (by omega)), within_at (hS'.1.trans hw) z_2_0 (.inr (by omega)), within_at (hS'.1.trans hw) z_2_1 (.inr (by omega))⟩⟩ ⟨xq4, rfl, ⟨xq4l, xq4u⟩⟩
    -- 5: indexAddr 24 t20 (const (int i64 0))
    refine' chainQ_read (DrawS.good _ _ _ _ _ _) (d := (some 24)) _ rfl rfl (fun m w' hm' hS' => ?_) ?_; rotate_left
    · simp only [lookP, allP, Act.put, List.getElem?_cons_zero, List.getElem?_cons_succ, List.setIfInBounds_toArray, List.set_cons_zero, List.set_cons_succ]
      (try dsimp only [DrawS] at hS')
      go_simp
      (try with_reducible rfl)
    refine chainQ_nil (fun u1 hS' => ?_)
    simp only [allP, Act.put, List.setIfInBounds_toArray, List.set_cons_zero, List.set_cons_succ]
    intro x4 hx4
    replace hS' : DrawS w0 u3 g _ 5000 _ 6 u1 := hS'
    obtain ⟨hw, hc, hC⟩ := hS'
    obtain ⟨xq4, rfl, xq4l, xq4u⟩ := hx4
    have hsz1 := hw.size
    replace HZg := Lib.hid (HZg.out.kept hw (.inr (by omega)))
    replace HZ := Lib.hid (HZ.out.kept hw (.inr (by omega)))
    replace HX0 := Lib.hid (HX0.out.kept hw (.inr (by omega)))
    replace HLO := Lib.hid (HLO.out.within hw (by omega))
    replace HW := Lib.hid (HW.out.trans hw)
    replace HC := Lib.hid hc
    clear hc hw hC
    clear z_0_0 z_0_1 z_0_2 z_1_0 z_1_1 z_2_0 z_2_1
    have HO := HLO
    clear HLO
    obtain ⟨_, hh, _, _, hcx⟩ := HO.out.at_ (by have := HK.out; omega)
    obtain ⟨y1, y2⟩ := hcx 0 (by omega)
    have HX1 : Hid (u1.cell? ⟨ob, 0, none⟩ = some (.int .i64 (nth l 0))) := by cases hh; exact y1
    have HX2 : Hid (u1.frozen? ⟨ob, 0, none⟩ = false) := by cases hh; exact y2
    clear hcx hh y1 y2
    have y1 := HX1.out
    have y2 := HX2.out
    have HS := Lib.hid (HO.out.stored HK.out 0 (x := xq4) ⟨by omega, by omega⟩)
    clear HX1 HX2
    have z0 := HZ.out.cell (i := 0) rfl
    have z1 := HZ.out.cell (i := 1) rfl
    have x0 := HX0.out.cell (i := 0) rfl
    have x1 := HX0.out.cell (i := 1) rfl
    have fx := fun j => HX0.out.frozen j
    go_wp2_with fail
    refine NoPanic.normal ?_
    try (go_wp2_with fail)
    have HZ2 := Lib.hid (HZ.out.other (b' := ob) (by omega) 0 (.int .i64 xq4))
    have HX2 := Lib.hid (HX0.out.otherN (b' := ob) (by omega) 0 (.int .i64 xq4))
    have HO2 : Hid (OwnI (u1.setCell ⟨ob, 0, none⟩ (.int .i64 xq4)) (w.heap.size + 2) (.slice (some ⟨ob, 0, none⟩) c co) (l.set 0 xq4)) := HS.out.1
    have HK2 : Hid ((l.set 0 xq4).length = c) := by unfold Hid; rw [List.length_set]; exact HK.out
    have HC2 := Lib.hid (HC.out.setNew (b := ob) (by omega) 0 (.int .i64 xq4))
    have HW2 := Lib.hid (HW.out.setNew (b := ob) (by omega) 0 (.int .i64 xq4))
    clear y1 y2 HZ HX0 HO HC HW HS HZg HK z0 z1 x0 x1 fx
    have HZ := HZ2
    have HX0 := HX2
    have HO := HO2
    have HC := HC2
    have HW := HW2
    have HK := HK2
    clear HZ2 HX2 HO2 HC2 HW2 HK2
    have HXF := Lib.hid ((HX0.out.set 0 (.int .i64 h1)).set 1 (.slice (some ⟨ob, 0, none⟩) c co))
    have t0 := HXF.out.cell (i := 0) rfl
    have t1 := HXF.out.cell (i := 1) rfl
    try (go_wp2_with fail)
    refine bodyPost_ret (v := .agg #[.int .i64 h1, .slice (some ⟨ob, 0, none⟩) c co]) (by simp [results, Try.results169, go_sem, t0, t1]) rfl ⟨⟨_, _, _, rfl, ⟨by omega, by omega⟩, Since.of_ownI ((HO.out.other (b := w.heap.size + 1) (by omega) _ _).other (b := w.heap.size + 1) (by omega) _ _) (by omega), by have := HK.out; omega⟩, ((HC.out.setNew (by omega) _ _).setNew (by omega) _ _).mono (by omega), ((HWw.out.trans HW.out).setNew (by omega) _ _).setNew (by omega) _ _⟩
  · have hkc : c ≤ 5 := by omega
    have HXL : Hid (Hid (BoxN u3 bx 79 [.int .i64 h1, .slice (some ⟨ob, 0, none⟩) c co])) := HZ
    go_wp2_with fail
    go_loopg [] 30 (fun gk wr => ∃ (ao : Option Addr) (d co : Nat) (l : List Int), l.length = d ∧ 31 ≤ d + gk ∧ d + gk ≤ 36 ∧ d ≤ 25 ∧ Hid (BoxN wr bx 79 [.int .i64 h1, .slice ao d co]) ∧ Hid (BoxN wr w.heap.size 39 [.int .i64 P, .int .i64 Q, .int .i64 G]) ∧ Hid (BoxN wr (w.heap.size + 1) 79 [.int .i64 0, .slice none 0 0]) ∧ Hid (OwnI wr (w.heap.size + 2) (.slice ao d co) l) ∧ Hid (Cur w0 wr g (n + 1200000 + 60000 * (30 - (gk : Int)))) ∧ Hid (Within g (g + 1) W wr))
    case atStart => exact ⟨_, c, co, l, HK.out, by omega, by omega, by omega, HZ, HZg, HX0, HO, HC.out.mono (by omega), HW⟩
    case round =>
      clear HZ HZg HX0 HO HC HW HK HXL HZ1
      obtain ⟨ao, d, co, l, hc, hdx, hd0, hd1, HZ, HZg, HX0, HO, HC, HW⟩ := hrel
      have HK := Lib.hid hc; clear hc
      have hsr := HW.out.size
      have hbl2 := HZ.out.lt
      have HLO := HO
      clear HO
      have z_0_0 := HZg.out.cell (i := 0) rfl
      have z_0_1 := HZg.out.cell (i := 1) rfl
      have z_0_2 := HZg.out.cell (i := 2) rfl
      have z_1_0 := HZ.out.cell (i := 0) rfl
      have z_1_1 := HZ.out.cell (i := 1) rfl
      have z_2_0 := HX0.out.cell (i := 0) rfl
      have z_2_1 := HX0.out.cell (i := 1) rfl
      try (go_wp2_with fail)
      refine wp_region_noPanic ?_
      refine wp_region_Q (Within g (g + 1)) (DrawS w0 wr g _ 5000 (fun w' => w'.cell? ⟨w.heap.size, 0, none⟩ = some (.int .i64 P) ∧ w'.cell? ⟨w.heap.size, 1, none⟩ = some (.int .i64 Q) ∧ w'.cell? ⟨w.heap.size, 2, none⟩ = some (.int .i64 G) ∧ w'.cell? ⟨bx, 0, none⟩ = some (.int .i64 h1) ∧ w'.cell? ⟨bx, 1, none⟩ = some (.slice ao d co) ∧ w'.cell? ⟨(w.heap.size + 1), 0, none⟩ = some (.int .i64 0) ∧ w'.cell? ⟨(w.heap.size + 1), 1, none⟩ = some (.slice none 0 0))) 9 [(0, []), (1, [0]), (2, [0]), (3, []), (4, [0]), (5, [0]), (6, [3, 0])] [] (by kernel_rfl) (by kernel_rfl) (by kernel_rfl) rfl (fun _ _ _ _ h => h) (DrawS.good _ _ _ _ _ _) ⟨(Within.refl _ _ _).drew, by simpa using HC.out.keep (Below.refl _ _).drew, ⟨box_at z_0_0 (Below.refl _ _).drew, box_at z_0_1 (Below.refl _ _).drew, box_at z_0_2 (Below.refl _ _).drew, box_at z_1_0 (Below.refl _ _).drew, box_at z_1_1 (Below.refl _ _).drew, box_at z_2_0 (Below.refl _ _).drew, box_at z_2_1 (Below.refl _ _).drew⟩⟩ ?_
      simp only [pickP, pickN, List.getElem?_cons_zero, List.getElem?_cons_succ]
      iterate 4 (refine' chainQ_read (DrawS.good _ _ _ _ _ _) _ rfl rfl (fun m w' hm' hS' => ?_) ?_; rotate_left; · (simp only [lookP, allP, Act.put, List.getElem?_cons_zero, List.getElem?_cons_succ, List.setIfInBounds_toArray, List.set_cons_zero, List.set_cons_succ]; (try dsimp only [DrawS] at hS'); go_simp; (try with_reducible rfl)))
      -- 4: call { callee := value (func 158), args := #[t30, const (int i64 2)], argTypes := #[167, 3] }
      refine chainQ_do (d := (some 31)) (fun v u => ∃ y : Int, v = .int .i64 y ∧ 0 ≤ y ∧ y ≤ 1) (fun v w1 w2 hw h => h) rfl rfl (fun m w' hm' hS' => ?_) ?_
      · simp only [lookP, allP, Act.put, List.getElem?_cons_zero, List.getElem?_cons_succ, List.setIfInBounds_toArray, List.set_cons_zero, List.set_cons_succ]
        intro K hK
        replace hm' : m < 7 := hm'
        go_simp
        go_at_call 158
        refine (spec_pick w0 g _ 2 _ hS'.2.1 (hS'.1.belowOf (HW.out.belowOf HBW.out hge) hge) (by omega)).mono ?_
        rintro e u ⟨⟨y, rfl, y0, _, y2, _⟩, hc, hw⟩
        replace y2 := y2 (by omega)
        exact hK.out _ _ hw ⟨hS'.1.trans hw, hc.mono (by omega), ⟨within_at (hS'.1.trans hw) z_0_0 (.inr (by omega)), within_at (hS'.1.trans hw) z_0_1 (.inr (by omega)), within_at (hS'.1.trans hw) z_0_2 (.inr (by omega)), within_at (hS'.1.trans hw) z_1_0 (.inr (by omega)), within_at (hS'.1.trans hw) z_1_1 (.inr (by omega)), within_at (hS'.1.trans hw) z_2_0 (.inr (by omega)), within_at (hS'.1.trans hw) z_2_1 (.inr (by omega))⟩⟩ ⟨y, rfl, by omega, by omega⟩
      -- 5: binOp Binadd 3 (const (int i64 24)) t31 3
      refine chainQ_have (DrawS.good _ _ _ _ _ _) (d := (some 32)) (fun v u => ∃ y : Int, v = .int .i64 y ∧ 24 ≤ y ∧ y ≤ 25) (fun v w1 w2 hw h => h) rfl rfl (fun m w' hm' hS' => ?_) ?_
      · simp only [lookP, allP, Act.put, List.getElem?_cons_zero, List.getElem?_cons_succ, List.setIfInBounds_toArray, List.set_cons_zero, List.set_cons_succ]
        intro x4 hx4
        obtain ⟨y, rfl, yl, yu⟩ := hx4
        have ewq : IntKind.i64.wrap (24 + y) = 24 + y := IntWalk.i64_in _ (by omega)
        refine ⟨.int .i64 (24 + y), ?_, 24 + y, rfl, by omega, by omega⟩
        go_simp
      -- 6: binOp Binlss 3 t29 t32 3
      refine chainQ_have (DrawS.good _ _ _ _ _ _) (d := (some 33)) (fun v u => ∃ b : Bool, v = .bool b ∧ (b = true → (d : Int) < 25)) (fun v w1 w2 hw h => h) rfl rfl (fun m w' hm' hS' => ?_) ?_
      · simp only [lookP, allP, Act.put, List.getElem?_cons_zero, List.getElem?_cons_succ, List.setIfInBounds_toArray, List.set_cons_zero, List.set_cons_succ]
        intro x5 hx5
        obtain ⟨y, rfl, yl, yu⟩ := hx5
        refine ⟨.bool (decide ((d : Int) < y)), ?_, _, rfl, fun e => by have := of_decide_eq_true e; omega⟩
        go_simp
      refine chainQ_nil (fun u1 hS' => ?_)
      simp only [allP, Act.put, List.setIfInBounds_toArray, List.set_cons_zero, List.set_cons_succ]
      intro x6 hx6
      intro x5 hx5
      intro x4 hx4
      replace hS' : DrawS w0 wr g _ 5000 _ 7 u1 := hS'
      obtain ⟨hw, hc, hC⟩ := hS'
      have hsz1 := hw.size
      replace HZg := Lib.hid (HZg.out.kept hw (.inr (by omega)))
      replace HZ := Lib.hid (HZ.out.kept hw (.inr (by omega)))
      replace HX0 := Lib.hid (HX0.out.kept hw (.inr (by omega)))
      replace HLO := Lib.hid (HLO.out.within hw (by omega))
      replace HW := Lib.hid (HW.out.trans hw)
      replace HC := Lib.hid hc
      clear hc hw hC
      clear z_0_0 z_0_1 z_0_2 z_1_0 z_1_1 z_2_0 z_2_1
      obtain ⟨b, rfl, hbt⟩ := hx6
      clear hx4 hx5
      have HO := HLO
      clear HLO
      have hsu : bx < u1.heap.size := HZ.out.lt
      refine NoPanic.normal ?_
      cases b with
      | false =>
        have y0 := HZ.out.cell (i := 0) rfl
        have y1 := HZ.out.cell (i := 1) rfl
        have x0 := HX0.out.cell (i := 0) rfl
        have x1 := HX0.out.cell (i := 1) rfl
        have fx := fun j => HX0.out.frozen j
        go_wp2_with fail
        have HXF := Lib.hid ((HX0.out.set 0 (.int .i64 h1)).set 1 (.slice ao d co))
        have t0 := HXF.out.cell (i := 0) rfl
        have t1 := HXF.out.cell (i := 1) rfl
        try (go_wp2_with fail)
        refine bodyPost_ret (v := .agg #[.int .i64 h1, .slice ao d co]) (by simp [results, Try.results169, go_sem, t0, t1]) rfl ⟨⟨_, _, l, rfl, ⟨by omega, by omega⟩, Since.of_ownI ((HO.out.other (b := w.heap.size + 1) (by omega) _ _).other (b := w.heap.size + 1) (by omega) _ _) (by omega), by have := HK.out; omega⟩, ((HC.out.setNew (by omega) _ _).setNew (by omega) _ _).mono (by omega), ((HWw.out.trans HW.out).setNew (by omega) _ _).setNew (by omega) _ _⟩
      | true =>
        have hlt := hbt rfl
        have y0 := HZ.out.cell (i := 0) rfl
        have y1 := HZ.out.cell (i := 1) rfl
        obtain ⟨f, rfl⟩ : ∃ f, gk = f + 1 := ⟨gk - 1, by omega⟩
        have HAP := Lib.hid (HO.out.apart HZ.out (by decide))
        have hrb : u1.grownBy (u1.alloc (.cells #[.int .i64 h1] 3)) (Value.ownBlock (.slice ao d co)) := grownBy_of_below ((Below.refl _ _).alloc (Nat.le_refl _) _)
        have HRB := Lib.hid hrb
        clear hrb
        go_wp2_with (at_builtin; refine wpList_append_intsN rfl _ _ rfl (w.heap.size + 2) _ _ l [h1] rfl (HO.out.alloc _) rfl (Ints.lit1 _ ⟨by omega, by omega⟩) (by rw [HK.out]; simp; omega) (by have := HSG.out; simp; omega) (d + 1) (by rw [HK.out]; rfl) ?_; intro a5 c5 w5 hown5 hgr5; have hga := grownBy_trans HRB.out hgr5; have HZ5 := Lib.hid (HZ.out.grownR hga HAP.out); have hb5 : Below (w.heap.size + 2) u1 w5 := HO.out.grown hga (by have := HSG.out; omega); have HG5 := Lib.hid (HZg.out.belowB hb5 (by omega)); have HX5 := Lib.hid (HX0.out.belowB hb5 (by omega)); have hs5 := hb5.size; have HO5 := Lib.hid hown5; have HC5 := Lib.hid (HC.out.belowB hb5 (by omega)); have HW5 := Lib.hid (HW.out.belowStep (hb5.mono (by have := HSG.out; omega))); clear hb5 hown5 hgr5 hga y0 y1; have f5 := HZ5.out.frozen 1; have y1 := HZ5.out.cell (i := 1) rfl)
        have HA5 := Lib.hid (HO5.out.apart HZ5.out (by decide))
        go_roundg f
        case measure => omega
        case rel => exact ⟨a5, d + 1, c5, l ++ [h1], by rw [List.length_append, HK.out]; rfl, by omega, by omega, by omega, HZ5.out.set 1 _, HG5.out.otherN (by omega) _ _, HX5.out.otherN (by omega) _ _, HO5.out.kept (grownBy_setCell _ bx 1 _) (.inr fun e => HA5.out _ e rfl), (HC5.out.setNew (by omega) _ _).mono (by omega), HW5.out.setNew (by omega) _ _⟩
  · have j0 : (x3 == 0) = false := by rw [beq_eq_false_iff_ne]; exact i0
    have j1 : (x3 == 1) = false := by rw [beq_eq_false_iff_ne]; exact i1
    have j2 : (x3 == 2) = false := by rw [beq_eq_false_iff_ne]; exact i2
    clear i0 i1 i2 HZg
    have y0 := HZ.out.cell (i := 0) rfl
    have y1 := HZ.out.cell (i := 1) rfl
    have x0 := HX0.out.cell (i := 0) rfl
    have x1 := HX0.out.cell (i := 1) rfl
    have fx := fun j => HX0.out.frozen j
    go_wp2_with fail
    have HXF := Lib.hid ((HX0.out.set 0 (.int .i64 h1)).set 1 (.slice (some ⟨ob, 0, none⟩) c co))
    have t0 := HXF.out.cell (i := 0) rfl
    have t1 := HXF.out.cell (i := 1) rfl
    try (go_wp2_with fail)
    refine bodyPost_ret (v := .agg #[.int .i64 h1, .slice (some ⟨ob, 0, none⟩) c co]) (by simp [results, Try.results169, go_sem, t0, t1]) rfl ⟨⟨_, _, l, rfl, ⟨by omega, by omega⟩, Since.of_ownI ((HO.out.other (b := w.heap.size + 1) (by omega) _ _).other (b := w.heap.size + 1) (by omega) _ _) (by omega), by have := HK.out; omega⟩, ((HC.out.setNew (by omega) _ _).setNew (by omega) _ _).mono (by omega), ((HWw.out.trans HW.out).setNew (by omega) _ _).setNew (by omega) _ _⟩
set_option maxRecDepth 100000 in
set_option maxHeartbeats 4000000 in
theorem spec_vector (w0 : World) (g : Nat) (n P Q G : Int) (bh : Int) (ba : Option Addr) (bn bc : Nat) (w : World) (h : Cur w0 w g n) (hb : Below w0.heap.size w0 w) (hn : n ≤ 500000000000000) (hgr : GrB ⟨P, Q, G⟩) (hbn : bn ≤ 30) :
    Calls Try.prog 174 #[.pointer (some ⟨g, 0, none⟩), .agg #[.int .i64 P, .int .i64 Q, .int .i64 G], .agg #[.int .i64 bh, .slice ba bn bc]] w fun e w' => (∃ (vr0 : Value) (lr0 : List Int), e = .returned vr0 ∧ (Since w.heap.size w' (fun z => Ints z vr0 lr0) ∧ lr0.length ≤ 1001)) ∧ Cur w0 w' g (n + 100000) ∧ Within g (g + 1) w w' := by
  have HGR := Lib.hid hgr
  have HBB := Lib.hid hb
  have hge := h.ge
  have hgw := h.lt
  clear hgr hb
  obtain ⟨W, hW⟩ : ∃ W, W = (w.alloc (.cells #[.int .i64 P, .int .i64 Q, .int .i64 G] 39)).alloc (.cells #[.int .i64 bh, .slice ba bn bc] 79) := ⟨_, rfl⟩
  have hbW : Below w.heap.size w W := by rw [hW]; (repeat (first | exact Below.refl _ _ | assumption | refine Below.drew ?_ | refine Below.alloc ?_ (by first | (simp; done) | (simp; omega)) _ | refine Below.setCell ?_ (by first | (simp; done) | (simp; omega)) _))
  have HZg : Hid (BoxN W w.heap.size 39 [.int .i64 P, .int .i64 Q, .int .i64 G]) := by unfold Hid; rw [hW]; have h := ((BoxN.new w [.int .i64 P, .int .i64 Q, .int .i64 G] 39).alloc (.cells #[.int .i64 bh, .slice ba bn bc] 79)); simpa using h
  have HZg1 : Hid (BoxN W (w.heap.size + 1) 79 [.int .i64 bh, .slice ba bn bc]) := by unfold Hid; rw [hW]; have h := (BoxN.new (w.alloc (.cells #[.int .i64 P, .int .i64 Q, .int .i64 G] 39)) [.int .i64 bh, .slice ba bn bc] 79); simpa using h
  have hsW : W.heap.size = w.heap.size + 2 := by rw [hW]; simp
  have HC := Lib.hid (h.keep hbW)
  have HWw := Lib.hid (Within.of_below hbW : Within g (g + 1) w W)
  have HBW : Hid (Below w0.heap.size w0 W) := HBB.out.trans (hbW.mono HBB.out.size)
  clear h
  go_enter Try.func174, Try.ntmps174
  go_wp2_with fail
  rw [← hW]
  have HW := Lib.hid (Within.refl g (g + 1) W)
  clear hW hbW
  have ewn : IntKind.i64.wrap ((bn : Int) + 1) = (bn : Int) + 1 := IntWalk.i64_in _ (by omega)
  have z_0_0 := HZg.out.cell (i := 0) rfl
  have z_0_1 := HZg.out.cell (i := 1) rfl
  have z_0_2 := HZg.out.cell (i := 2) rfl
  have z_1_0 := HZg1.out.cell (i := 0) rfl
  have z_1_1 := HZg1.out.cell (i := 1) rfl
  try (go_wp2_with fail)
  refine wp_region_noPanic ?_
  refine wp_region_Q (Within g (g + 1)) (DrawS w0 W g _ 5000 (fun w' => w'.cell? ⟨w.heap.size, 0, none⟩ = some (.int .i64 P) ∧ w'.cell? ⟨w.heap.size, 1, none⟩ = some (.int .i64 Q) ∧ w'.cell? ⟨w.heap.size, 2, none⟩ = some (.int .i64 G) ∧ w'.cell? ⟨w.heap.size + 1, 0, none⟩ = some (.int .i64 bh) ∧ w'.cell? ⟨w.heap.size + 1, 1, none⟩ = some (.slice ba bn bc))) 12 [(0, []), (1, []), (2, []), (3, []), (4, [0]), (5, [0]), (6, [0]), (7, [4, 0]), (8, [7, 6, 0])] [9] (by kernel_rfl) (by kernel_rfl) (by kernel_rfl) rfl (fun _ _ _ _ h => h) (DrawS.good _ _ _ _ _ _) ⟨(Within.refl _ _ _).drew, by simpa using HC.out.keep (Below.refl _ _).drew, ⟨box_at z_0_0 (Below.refl _ _).drew, box_at z_0_1 (Below.refl _ _).drew, box_at z_0_2 (Below.refl _ _).drew, box_at z_1_0 (Below.refl _ _).drew, box_at z_1_1 (Below.refl _ _).drew⟩⟩ ?_
  simp only [pickP, pickN, List.getElem?_cons_zero, List.getElem?_cons_succ]
  iterate 7 (refine' chainQ_read (DrawS.good _ _ _ _ _ _) _ rfl rfl (fun m w' hm' hS' => ?_) ?_; rotate_left; · (simp only [lookP, allP, Act.put, List.getElem?_cons_zero, List.getElem?_cons_succ, List.setIfInBounds_toArray, List.set_cons_zero, List.set_cons_succ]; (try dsimp only [DrawS] at hS'); go_simp; (try with_reducible rfl)))
  -- 7: call { callee := value (func 158), args := #[t9, t13], argTypes := #[167, 3] }
  refine chainQ_do (d := (some 14)) (fun v u => ∃ y : Nat, v = .int .i64 (y : Int) ∧ y ≤ 30) (fun v w1 w2 hw h => h) rfl rfl (fun m w' hm' hS' => ?_) ?_
  · simp only [lookP, allP, Act.put, List.getElem?_cons_zero, List.getElem?_cons_succ, List.setIfInBounds_toArray, List.set_cons_zero, List.set_cons_succ]
    intro K hK
    replace hm' : m < 9 := hm'
    go_simp
    go_at_call 158
    refine (spec_pick w0 g _ ((bn : Int) + 1) _ hS'.2.1 (hS'.1.belowOf (HW.out.belowOf HBW.out hge) hge) (by omega)).mono ?_
    rintro e u ⟨⟨y, rfl, y0, _, y2, _⟩, hc, hw⟩
    replace y2 := y2 (by omega)
    obtain ⟨j, rfl⟩ := Int.eq_ofNat_of_zero_le y0
    exact hK.out _ _ hw ⟨hS'.1.trans hw, hc.mono (by omega), ⟨within_at (hS'.1.trans hw) z_0_0 (.inr (by omega)), within_at (hS'.1.trans hw) z_0_1 (.inr (by omega)), within_at (hS'.1.trans hw) z_0_2 (.inr (by omega)), within_at (hS'.1.trans hw) z_1_0 (.inr (by omega)), within_at (hS'.1.trans hw) z_1_1 (.inr (by omega))⟩⟩ ⟨j, rfl, by omega⟩
  -- 8: call { callee := value (func 136), args := #[t7, t8, t14], argTypes := #[167, 39, 3] }
  refine chainQ_do (d := (some 15)) (fun v u => ∃ (vq8 : Value) (lq8 : List Int), v = vq8 ∧ (Since W.heap.size u (fun z => Ints z vq8 lq8) ∧ lq8.length ≤ 1001)) (fun v w1 w2 hw h => by obtain ⟨z0, z1, h3, h4⟩ := h; exact ⟨z0, z1, h3, (h4.1).within hw (by omega), h4.2⟩) rfl rfl (fun m w' hm' hS' => ?_) ?_
  · simp only [lookP, allP, Act.put, List.getElem?_cons_zero, List.getElem?_cons_succ, List.setIfInBounds_toArray, List.set_cons_zero, List.set_cons_succ]
    intro x7 hx7
    intro K hK
    replace hm' : m < 9 := hm'
    obtain ⟨j, rfl, hj⟩ := hx7
    go_simp
    go_at_call 136
    refine (spec_anyCoins w0 g _ P Q G j _ hS'.2.1 (hS'.1.belowOf (HW.out.belowOf HBW.out hge) hge) (by omega) HGR.out (by omega)).mono ?_
    rintro e u ⟨⟨v2, l2, rfl, hs2, hl2⟩, hc, hw⟩
    exact hK.out _ _ hw ⟨hS'.1.trans hw, hc.mono (by omega), ⟨within_at (hS'.1.trans hw) z_0_0 (.inr (by omega)), within_at (hS'.1.trans hw) z_0_1 (.inr (by omega)), within_at (hS'.1.trans hw) z_0_2 (.inr (by omega)), within_at (hS'.1.trans hw) z_1_0 (.inr (by omega)), within_at (hS'.1.trans hw) z_1_1 (.inr (by omega))⟩⟩ ⟨v2, l2, rfl, hs2.mono (by have := hS'.1.size; omega), by omega⟩
  refine chainQ_nil (fun u1 hS' => ?_)
  simp only [allP, Act.put, List.setIfInBounds_toArray, List.set_cons_zero, List.set_cons_succ]
  intro x8 hx8
  intro x7 hx7
  replace hS' : DrawS w0 W g _ 5000 _ 9 u1 := hS'
  obtain ⟨hw, hc, hC⟩ := hS'
  obtain ⟨vq8, lq8, rfl, hsq8, hlq8⟩ := hx8
  have hsz1 := hw.size
  replace HZg := Lib.hid (HZg.out.kept hw (.inr (by omega)))
  replace HZg1 := Lib.hid (HZg1.out.kept hw (.inr (by omega)))
  replace HW := Lib.hid (HW.out.trans hw)
  replace HC := Lib.hid hc
  clear hc hw hC
  clear z_0_0 z_0_1 z_0_2 z_1_0 z_1_1
  have HLq8 := Lib.hid hsq8
  obtain ⟨aq8, nq8, cq8, rfl⟩ := hsq8.here.shape
  have hnq8 : nq8 ≤ 1001 := by have h1 := hsq8.here.len; omega
  have HEq8 := Lib.hid hsq8.here.len
  clear hsq8
  go_wp2_with fail
  refine NoPanic.normal ?_
  try (go_wp2_with fail)
  go_ret
  exact ⟨⟨_, _, rfl, ⟨HLq8.out.mono (by omega), by have := HEq8.out; omega⟩⟩, HC.out.mono (by omega), (HWw.out.trans HW.out)⟩
set_option maxRecDepth 100000 in
set_option maxHeartbeats 4000000 in
theorem spec_DrawCommit (v : Value) (w : World) (h : Bytes w v) :
    Calls Try.prog 48 #[v] w fun e w' => (∃ (P : Int) (Q : Int) (G : Int) (hr1 : Int) (vr1 : Value) (lr1 : List Int) (xr2 : Int) (xr3 : Int), e = .returned (.tuple #[.agg #[.int .i64 P, .int .i64 Q, .int .i64 G], .agg #[.int .i64 hr1, vr1], .int .i64 xr2, .int .i64 xr3]) ∧ GrB ⟨P, Q, G⟩ ∧ ((-10 ≤ hr1 ∧ hr1 ≤ 2000000010) ∧ (Ints w' vr1 lr1 ∧ lr1.length ≤ 26)) ∧ (-10 ≤ xr2 ∧ xr2 ≤ 2000000010) ∧ (-10 ≤ xr3 ∧ xr3 ≤ 2000000010)) ∧ Below w.heap.size w w' := by
  obtain ⟨a, m, c, rfl, hk1, hk2, hv⟩ := h
  have HY : Hid (Bytes w (.slice a m c)) := ⟨a, m, c, rfl, hk1, hk2, hv⟩
  clear hv
  unfold maxLen at hk2
  obtain ⟨U, hU⟩ : ∃ U, U = (w.alloc (.cells #[.int .i64 0, .int .i64 0, .int .i64 0] 39)).alloc (.cells #[.int .i64 0, (.slice none 0 0)] 79) := ⟨_, rfl⟩
  have hbU : Below w.heap.size w U := by rw [hU]; (repeat (first | exact Below.refl _ _ | assumption | refine Below.drew ?_ | refine Below.alloc ?_ (by first | (simp; done) | (simp; omega)) _ | refine Below.setCell ?_ (by first | (simp; done) | (simp; omega)) _))
  have HX0 : Hid (BoxN U w.heap.size 39 [.int .i64 0, .int .i64 0, .int .i64 0]) := by unfold Hid; rw [hU]; have h := ((BoxN.new w [.int .i64 0, .int .i64 0, .int .i64 0] 39).alloc (.cells #[.int .i64 0, (.slice none 0 0)] 79)); simpa using h
  have HX1 : Hid (BoxN U (w.heap.size + 1) 79 [.int .i64 0, (.slice none 0 0)]) := by unfold Hid; rw [hU]; have h := (BoxN.new (w.alloc (.cells #[.int .i64 0, .int .i64 0, .int .i64 0] 39)) [.int .i64 0, (.slice none 0 0)] 79); simpa using h
  have hsU : U.heap.size = w.heap.size + 1 + 1 := by rw [hU]; simp
  obtain ⟨W, hW⟩ : ∃ W, W = U.alloc (.cells #[.slice a m c, .int .i64 0, .int .u64 0] 170) := ⟨_, rfl⟩
  have HC : Hid (Cur U W U.heap.size 0) := by unfold Hid; rw [hW]; exact Cur.new U (HY.out.below hbU)
  have hbW : Below U.heap.size U W := by rw [hW]; exact (Below.refl _ _).alloc (Nat.le_refl _) _
  have HBW := Lib.hid (Below.next hbU hbW)
  have HUB := Lib.hid hbW
  replace HX0 := Lib.hid (HX0.out.below hbW)
  replace HX1 := Lib.hid (HX1.out.below hbW)
  obtain ⟨g, hg⟩ : ∃ g, g = U.heap.size := ⟨_, rfl⟩
  have HSU : Hid (w.heap.size + 1 + 1 = g) := by unfold Hid; rw [hg, hsU]
  have HWS : Hid (W.heap.size = g + 1) := by unfold Hid; rw [hW, hg]; simp
  go_enter Try.func48, Try.ntmps48
  go_wp2_with fail
  rw [← hU, ← hW]
  rw [HSU.out]
  rw [← hg] at HC HUB
  have HUS : Hid (U.heap.size = g) := hg.symm
  have hwg : w.heap.size + 2 = g := HSU.out
  have hsW := HWS.out
  have HW := Lib.hid (Within.refl g (g + 1) W)
  have HUC : Hid (Below U.heap.size U W) := by unfold Hid; rw [HUS.out]; exact HUB.out
  clear hU hW hbU hbW hsU hg
  have z_0_0 := HX0.out.cell (i := 0) rfl
  have z_0_1 := HX0.out.cell (i := 1) rfl
  have z_0_2 := HX0.out.cell (i := 2) rfl
  have z_1_0 := HX1.out.cell (i := 0) rfl
  have z_1_1 := HX1.out.cell (i := 1) rfl
  try (go_wp2_with fail)
  clear z_0_0 z_0_1 z_0_2 z_1_0 z_1_1
  refine (spec_anyGroup U g _ _ HC.out (HW.out.belowOf HUC.out (Nat.le_of_eq HUS.out)) (by omega)).mono ?_
  rintro e u1 ⟨⟨P, Q, G, rfl, P1, Q1, G1⟩, hc, hw⟩
  have HGR : Hid (GrB ⟨P, Q, G⟩) := ⟨P1, Q1, G1⟩
  clear P1 Q1 G1
  have hsz1 := hw.size
  replace HX0 := Lib.hid (HX0.out.kept hw (.inl (by omega)))
  replace HX1 := Lib.hid (HX1.out.kept hw (.inl (by omega)))
  replace HW := Lib.hid (HW.out.trans hw)
  replace HC := Lib.hid hc
  clear hc hw
  have z_0_0 := HX0.out.cell (i := 0) rfl
  have z_0_1 := HX0.out.cell (i := 1) rfl
  have z_0_2 := HX0.out.cell (i := 2) rfl
  have z_1_0 := HX1.out.cell (i := 0) rfl
  have z_1_1 := HX1.out.cell (i := 1) rfl
  have lt_HX0 := HX0.out.lt
  have lt_HX1 := HX1.out.lt
  obtain ⟨V2, hV⟩ : ∃ V, V = u1.alloc (.cells #[.int .i64 P, .int .i64 Q, .int .i64 G] 39) := ⟨_, rfl⟩
  have hbV : Below u1.heap.size u1 V2 := by rw [hV]; (repeat (first | exact Below.refl _ _ | assumption | refine Below.drew ?_ | refine Below.alloc ?_ (by first | (simp; done) | (simp; omega)) _ | refine Below.setCell ?_ (by first | (simp; done) | (simp; omega)) _))
  have HZ1 : Hid (BoxN V2 u1.heap.size 39 [.int .i64 P, .int .i64 Q, .int .i64 G]) := by unfold Hid; rw [hV]; have h := (BoxN.new u1 [.int .i64 P, .int .i64 Q, .int .i64 G] 39); simpa using h
  have hgc : g < u1.heap.size := HC.out.lt
  go_wp2_with fail
  rw [← hV]
  have hsV2 : V2.heap.size = u1.heap.size + 1 := by rw [hV]; simp
  clear hV hgc
  replace HX0 := Lib.hid (HX0.out.below hbV)
  replace HX1 := Lib.hid (HX1.out.below hbV)
  replace HW := Lib.hid (HW.out.trans (Within.of_below hbV))
  replace HC := Lib.hid (HC.out.keep hbV)
  clear hbV
  clear z_0_0 z_0_1 z_0_2 z_1_0 z_1_1
  clear lt_HX0
  clear lt_HX1
  have z_0_0 := HX0.out.cell (i := 0) rfl
  have z_0_1 := HX0.out.cell (i := 1) rfl
  have z_0_2 := HX0.out.cell (i := 2) rfl
  have z_1_0 := HX1.out.cell (i := 0) rfl
  have z_1_1 := HX1.out.cell (i := 1) rfl
  have z_2_0 := HZ1.out.cell (i := 0) rfl
  have z_2_1 := HZ1.out.cell (i := 1) rfl
  have z_2_2 := HZ1.out.cell (i := 2) rfl
  refine wp_region_noPanic ?_
  refine wp_region_Q (Within g (g + 1)) (DrawS U V2 g _ 1000000000 (fun w' => w'.cell? ⟨u1.heap.size, 0, none⟩ = some (.int .i64 P) ∧ w'.cell? ⟨u1.heap.size, 1, none⟩ = some (.int .i64 Q) ∧ w'.cell? ⟨u1.heap.size, 2, none⟩ = some (.int .i64 G))) 16 [(0, []), (1, []), (2, []), (3, [1, 0]), (4, []), (5, []), (6, [1, 0]), (7, []), (8, []), (9, [1, 0])] [10, 11, 12, 13] (by kernel_rfl) (by kernel_rfl) (by kernel_rfl) rfl (fun _ _ _ _ h => h) (DrawS.good _ _ _ _ _ _) ⟨(Within.refl _ _ _).drew, by simpa using HC.out.keep (Below.refl _ _).drew, ⟨box_at z_2_0 (Below.refl _ _).drew, box_at z_2_1 (Below.refl _ _).drew, box_at z_2_2 (Below.refl _ _).drew⟩⟩ ?_
  simp only [pickP, pickN, List.getElem?_cons_zero, List.getElem?_cons_succ]
  iterate 3 (refine' chainQ_read (DrawS.good _ _ _ _ _ _) _ rfl rfl (fun m w' hm' hS' => ?_) ?_; rotate_left; · (simp only [lookP, allP, Act.put, List.getElem?_cons_zero, List.getElem?_cons_succ, List.setIfInBounds_toArray, List.set_cons_zero, List.set_cons_succ]; (try dsimp only [DrawS] at hS'); go_simp; (try with_reducible rfl)))
  -- 3: call { callee := value (func 169), args := #[t14, t15], argTypes := #[167, 39] }
  refine chainQ_do (d := (some 16)) (fun v u => ∃ (hq3 : Int) (vq3 : Value) (lq3 : List Int), v = (.agg #[.int .i64 hq3, vq3]) ∧ ((-10 ≤ hq3 ∧ hq3 ≤ 2000000010) ∧ (Since V2.heap.size u (fun z => Ints z vq3 lq3) ∧ lq3.length ≤ 26))) (fun v w1 w2 hw h => by obtain ⟨z0, z1, z2, h3, h4⟩ := h; exact ⟨z0, z1, z2, h3, ⟨h4.1, (h4.2.1).within hw (by omega), h4.2.2⟩⟩) rfl rfl (fun m w' hm' hS' => ?_) ?_
  · simp only [lookP, allP, Act.put, List.getElem?_cons_zero, List.getElem?_cons_succ, List.setIfInBounds_toArray, List.set_cons_zero, List.set_cons_succ]
    intro K hK
    replace hm' : m < 10 := hm'
    go_simp
    go_at_call 169
    refine (spec_anyBases U g _ P Q G _ hS'.2.1 (hS'.1.belowOf (HW.out.belowOf HUC.out (Nat.le_of_eq HUS.out)) (by have := HUS.out; omega)) (by omega) HGR.out).mono ?_
    rintro e u ⟨⟨hq3, vq3, lq3, rfl, ⟨hq3l, hq3u⟩, hsq3, hlq3⟩, hc, hw⟩
    exact hK.out _ _ hw ⟨hS'.1.trans hw, hc.mono (by omega), ⟨within_at (hS'.1.trans hw) z_2_0 (.inr (by omega)), within_at (hS'.1.trans hw) z_2_1 (.inr (by omega)), within_at (hS'.1.trans hw) z_2_2 (.inr (by omega))⟩⟩ ⟨hq3, vq3, lq3, rfl, ⟨⟨hq3l, hq3u⟩, (hsq3.mono (by have := hS'.1.size; omega)), hlq3⟩⟩
  iterate 2 (refine' chainQ_read (DrawS.good _ _ _ _ _ _) _ rfl rfl (fun m w' hm' hS' => ?_) ?_; rotate_left; · (simp only [lookP, allP, Act.put, List.getElem?_cons_zero, List.getElem?_cons_succ, List.setIfInBounds_toArray, List.set_cons_zero, List.set_cons_succ]; (try dsimp only [DrawS] at hS'); go_simp; (try with_reducible rfl)))
  -- 6: call { callee := value (func 147), args := #[t17, t18], argTypes := #[167, 39] }
  refine chainQ_do (d := (some 19)) (fun v u => ∃ (xq6 : Int), v = (.int .i64 xq6) ∧ (-10 ≤ xq6 ∧ xq6 ≤ 2000000010)) (fun v w1 w2 hw h => h) rfl rfl (fun m w' hm' hS' => ?_) ?_
  · simp only [lookP, allP, Act.put, List.getElem?_cons_zero, List.getElem?_cons_succ, List.setIfInBounds_toArray, List.set_cons_zero, List.set_cons_succ]
    intro K hK
    replace hm' : m < 10 := hm'
    go_simp
    go_at_call 147
    refine (spec_anyExpo U g _ P Q G _ hS'.2.1 (hS'.1.belowOf (HW.out.belowOf HUC.out (Nat.le_of_eq HUS.out)) (by have := HUS.out; omega)) (by omega) HGR.out).mono ?_
    rintro e u ⟨⟨xq6, rfl, xq6l, xq6u⟩, hc, hw⟩
    exact hK.out _ _ hw ⟨hS'.1.trans hw, hc.mono (by omega), ⟨within_at (hS'.1.trans hw) z_2_0 (.inr (by omega)), within_at (hS'.1.trans hw) z_2_1 (.inr (by omega)), within_at (hS'.1.trans hw) z_2_2 (.inr (by omega))⟩⟩ ⟨xq6, rfl, ⟨xq6l, xq6u⟩⟩
  iterate 2 (refine' chainQ_read (DrawS.good _ _ _ _ _ _) _ rfl rfl (fun m w' hm' hS' => ?_) ?_; rotate_left; · (simp only [lookP, allP, Act.put, List.getElem?_cons_zero, List.getElem?_cons_succ, List.setIfInBounds_toArray, List.set_cons_zero, List.set_cons_succ]; (try dsimp only [DrawS] at hS'); go_simp; (try with_reducible rfl)))
  -- 9: call { callee := value (func 147), args := #[t20, t21], argTypes := #[167, 39] }
  refine chainQ_do (d := (some 22)) (fun v u => ∃ (xq9 : Int), v = (.int .i64 xq9) ∧ (-10 ≤ xq9 ∧ xq9 ≤ 2000000010)) (fun v w1 w2 hw h => h) rfl rfl (fun m w' hm' hS' => ?_) ?_
  · simp only [lookP, allP, Act.put, List.getElem?_cons_zero, List.getElem?_cons_succ, List.setIfInBounds_toArray, List.set_cons_zero, List.set_cons_succ]
    intro K hK
    replace hm' : m < 10 := hm'
    go_simp
    go_at_call 147
    refine (spec_anyExpo U g _ P Q G _ hS'.2.1 (hS'.1.belowOf (HW.out.belowOf HUC.out (Nat.le_of_eq HUS.out)) (by have := HUS.out; omega)) (by omega) HGR.out).mono ?_
    rintro e u ⟨⟨xq9, rfl, xq9l, xq9u⟩, hc, hw⟩
    exact hK.out _ _ hw ⟨hS'.1.trans hw, hc.mono (by omega), ⟨within_at (hS'.1.trans hw) z_2_0 (.inr (by omega)), within_at (hS'.1.trans hw) z_2_1 (.inr (by omega)), within_at (hS'.1.trans hw) z_2_2 (.inr (by omega))⟩⟩ ⟨xq9, rfl, ⟨xq9l, xq9u⟩⟩
  refine chainQ_nil (fun u3 hS' => ?_)
  simp only [allP, Act.put, List.setIfInBounds_toArray, List.set_cons_zero, List.set_cons_succ]
  intro x9 hx9
  intro x6 hx6
  intro x3 hx3
  replace hS' : DrawS U V2 g _ 1000000000 _ 10 u3 := hS'
  obtain ⟨hw, hc, hC⟩ := hS'
  obtain ⟨hq3, vq3, lq3, rfl, ⟨hq3l, hq3u⟩, hsq3, hlq3⟩ := hx3
  obtain ⟨xq6, rfl, xq6l, xq6u⟩ := hx6
  obtain ⟨xq9, rfl, xq9l, xq9u⟩ := hx9
  have hsz3 := hw.size
  replace HX0 := Lib.hid (HX0.out.kept hw (.inl (by omega)))
  replace HX1 := Lib.hid (HX1.out.kept hw (.inl (by omega)))
  replace HZ1 := Lib.hid (HZ1.out.kept hw (.inr (by omega)))
  replace HW := Lib.hid (HW.out.trans hw)
  replace HC := Lib.hid hc
  clear hc hw hC
  clear z_0_0 z_0_1 z_0_2 z_1_0 z_1_1 z_2_0 z_2_1 z_2_2
  have HLq3 := Lib.hid hsq3
  obtain ⟨aq3, nq3, cq3, rfl⟩ := hsq3.here.shape
  have hnq3 : nq3 ≤ 26 := by have h1 := hsq3.here.len; omega
  have HEq3 := Lib.hid hsq3.here.len
  clear hsq3
  have r_HX0_0 := HX0.out.cell (i := 0) rfl
  have r_HX0_1 := HX0.out.cell (i := 1) rfl
  have r_HX0_2 := HX0.out.cell (i := 2) rfl
  have fr_HX0 := fun j => HX0.out.frozen j
  have r_HX1_0 := HX1.out.cell (i := 0) rfl
  have r_HX1_1 := HX1.out.cell (i := 1) rfl
  have fr_HX1 := fun j => HX1.out.frozen j
  go_wp2_with fail
  refine NoPanic.normal ?_
  have FHX0 := Lib.hid (((((HX0.out.set 0 (.int .i64 P)).set 1 (.int .i64 Q)).set 2 (.int .i64 G)).other (b' := w.heap.size + 1) (by omega) 0 (.int .i64 hq3)).other (b' := w.heap.size + 1) (by omega) 1 (.slice aq3 nq3 cq3))
  have FHX1 := Lib.hid (((((HX1.out.other (b' := w.heap.size) (by omega) 0 (.int .i64 P)).other (b' := w.heap.size) (by omega) 1 (.int .i64 Q)).other (b' := w.heap.size) (by omega) 2 (.int .i64 G)).set 0 (.int .i64 hq3)).set 1 (.slice aq3 nq3 cq3))
  clear r_HX0_0 r_HX0_1 r_HX0_2 fr_HX0 r_HX1_0 r_HX1_1 fr_HX1
  have t_HX0_0 := FHX0.out.cell (i := 0) rfl
  have t_HX0_1 := FHX0.out.cell (i := 1) rfl
  have t_HX0_2 := FHX0.out.cell (i := 2) rfl
  have t_HX1_0 := FHX1.out.cell (i := 0) rfl
  have t_HX1_1 := FHX1.out.cell (i := 1) rfl
  try (go_wp2_with fail)
  have HYS := Lib.hid ((((((Within.refl w.heap.size (w.heap.size + 2) u3).setCell (b := w.heap.size) (by omega) (by omega) 0 (.int .i64 P)).setCell (b := w.heap.size) (by omega) (by omega) 1 (.int .i64 Q)).setCell (b := w.heap.size) (by omega) (by omega) 2 (.int .i64 G)).setCell (b := w.heap.size + 1) (by omega) (by omega) 0 (.int .i64 hq3)).setCell (b := w.heap.size + 1) (by omega) (by omega) 1 (.slice aq3 nq3 cq3))
  refine bodyPost_ret (v := .tuple #[.agg #[.int .i64 P, .int .i64 Q, .int .i64 G], .agg #[.int .i64 hq3, .slice aq3 nq3 cq3], .int .i64 xq6, .int .i64 xq9]) (by simp [results, Try.results48, go_sem, t_HX0_0, t_HX0_1, t_HX0_2, t_HX1_0, t_HX1_1]) rfl ⟨⟨_, _, _, _, _, _, _, _, rfl, HGR.out, ⟨⟨by omega, by omega⟩, (HLq3.out.within HYS.out (by omega)).here, by have := HEq3.out; omega⟩, ⟨by omega, by omega⟩, ⟨by omega, by omega⟩⟩, ((((((HW.out.belowOf HBW.out (by omega)).setCell (p := ⟨w.heap.size, 0, none⟩) (by show w.heap.size ≤ w.heap.size; omega) (.int .i64 P)).setCell (p := ⟨w.heap.size, 1, none⟩) (by show w.heap.size ≤ w.heap.size; omega) (.int .i64 Q)).setCell (p := ⟨w.heap.size, 2, none⟩) (by show w.heap.size ≤ w.heap.size; omega) (.int .i64 G)).setCell (p := ⟨w.heap.size + 1, 0, none⟩) (by show w.heap.size ≤ w.heap.size + 1; omega) (.int .i64 hq3)).setCell (p := ⟨w.heap.size + 1, 1, none⟩) (by show w.heap.size ≤ w.heap.size + 1; omega) (.slice aq3 nq3 cq3))⟩
set_option maxRecDepth 100000 in
set_option maxHeartbeats 4000000 in
theorem spec_DrawCommitVector (v : Value) (w : World) (h : Bytes w v) :
    Calls Try.prog 53 #[v] w fun e w' => (∃ (P : Int) (Q : Int) (G : Int) (hr1 : Int) (vr1 : Value) (lr1 : List Int) (vr2 : Value) (lr2 : List Int) (xr3 : Int), e = .returned (.tuple #[.agg #[.int .i64 P, .int .i64 Q, .int .i64 G], .agg #[.int .i64 hr1, vr1], vr2, .int .i64 xr3]) ∧ GrB ⟨P, Q, G⟩ ∧ ((-10 ≤ hr1 ∧ hr1 ≤ 2000000010) ∧ (Ints w' vr1 lr1 ∧ lr1.length ≤ 26)) ∧ (Ints w' vr2 lr2 ∧ lr2.length ≤ 1001) ∧ (-10 ≤ xr3 ∧ xr3 ≤ 2000000010)) ∧ Below w.heap.size w w' := by
  obtain ⟨a, m, c, rfl, hk1, hk2, hv⟩ := h
  have HY : Hid (Bytes w (.slice a m c)) := ⟨a, m, c, rfl, hk1, hk2, hv⟩
  clear hv
  unfold maxLen at hk2
  obtain ⟨U, hU⟩ : ∃ U, U = (w.alloc (.cells #[.int .i64 0, .int .i64 0, .int .i64 0] 39)).alloc (.cells #[.int .i64 0, (.slice none 0 0)] 79) := ⟨_, rfl⟩
  have hbU : Below w.heap.size w U := by rw [hU]; (repeat (first | exact Below.refl _ _ | assumption | refine Below.drew ?_ | refine Below.alloc ?_ (by first | (simp; done) | (simp; omega)) _ | refine Below.setCell ?_ (by first | (simp; done) | (simp; omega)) _))
  have HX0 : Hid (BoxN U w.heap.size 39 [.int .i64 0, .int .i64 0, .int .i64 0]) := by unfold Hid; rw [hU]; have h := ((BoxN.new w [.int .i64 0, .int .i64 0, .int .i64 0] 39).alloc (.cells #[.int .i64 0, (.slice none 0 0)] 79)); simpa using h
  have HX1 : Hid (BoxN U (w.heap.size + 1) 79 [.int .i64 0, (.slice none 0 0)]) := by unfold Hid; rw [hU]; have h := (BoxN.new (w.alloc (.cells #[.int .i64 0, .int .i64 0, .int .i64 0] 39)) [.int .i64 0, (.slice none 0 0)] 79); simpa using h
  have hsU : U.heap.size = w.heap.size + 1 + 1 := by rw [hU]; simp
  obtain ⟨W, hW⟩ : ∃ W, W = U.alloc (.cells #[.slice a m c, .int .i64 0, .int .u64 0] 170) := ⟨_, rfl⟩
  have HC : Hid (Cur U W U.heap.size 0) := by unfold Hid; rw [hW]; exact Cur.new U (HY.out.below hbU)
  have hbW : Below U.heap.size U W := by rw [hW]; exact (Below.refl _ _).alloc (Nat.le_refl _) _
  have HBW := Lib.hid (Below.next hbU hbW)
  have HUB := Lib.hid hbW
  replace HX0 := Lib.hid (HX0.out.below hbW)
  replace HX1 := Lib.hid (HX1.out.below hbW)
  obtain ⟨g, hg⟩ : ∃ g, g = U.heap.size := ⟨_, rfl⟩
  have HSU : Hid (w.heap.size + 1 + 1 = g) := by unfold Hid; rw [hg, hsU]
  have HWS : Hid (W.heap.size = g + 1) := by unfold Hid; rw [hW, hg]; simp
  go_enter Try.func53, Try.ntmps53
  go_wp2_with fail
  rw [← hU, ← hW]
  rw [HSU.out]
  rw [← hg] at HC HUB
  have HUS : Hid (U.heap.size = g) := hg.symm
  have hwg : w.heap.size + 2 = g := HSU.out
  have hsW := HWS.out
  have HW := Lib.hid (Within.refl g (g + 1) W)
  have HUC : Hid (Below U.heap.size U W) := by unfold Hid; rw [HUS.out]; exact HUB.out
  clear hU hW hbU hbW hsU hg
  have z_0_0 := HX0.out.cell (i := 0) rfl
  have z_0_1 := HX0.out.cell (i := 1) rfl
  have z_0_2 := HX0.out.cell (i := 2) rfl
  have z_1_0 := HX1.out.cell (i := 0) rfl
  have z_1_1 := HX1.out.cell (i := 1) rfl
  try (go_wp2_with fail)
  clear z_0_0 z_0_1 z_0_2 z_1_0 z_1_1
  refine (spec_anyGroup U g _ _ HC.out (HW.out.belowOf HUC.out (Nat.le_of_eq HUS.out)) (by omega)).mono ?_
  rintro e u1 ⟨⟨P, Q, G, rfl, P1, Q1, G1⟩, hc, hw⟩
  have HGR : Hid (GrB ⟨P, Q, G⟩) := ⟨P1, Q1, G1⟩
  clear P1 Q1 G1
  have hsz1 := hw.size
  replace HX0 := Lib.hid (HX0.out.kept hw (.inl (by omega)))
  replace HX1 := Lib.hid (HX1.out.kept hw (.inl (by omega)))
  replace HW := Lib.hid (HW.out.trans hw)
  replace HC := Lib.hid hc
  clear hc hw
  have z_0_0 := HX0.out.cell (i := 0) rfl
  have z_0_1 := HX0.out.cell (i := 1) rfl
  have z_0_2 := HX0.out.cell (i := 2) rfl
  have z_1_0 := HX1.out.cell (i := 0) rfl
  have z_1_1 := HX1.out.cell (i := 1) rfl
  have lt_HX0 := HX0.out.lt
  have lt_HX1 := HX1.out.lt
  obtain ⟨V2, hV⟩ : ∃ V, V = u1.alloc (.cells #[.int .i64 P, .int .i64 Q, .int .i64 G] 39) := ⟨_, rfl⟩
  have hbV : Below u1.heap.size u1 V2 := by rw [hV]; (repeat (first | exact Below.refl _ _ | assumption | refine Below.drew ?_ | refine Below.alloc ?_ (by first | (simp; done) | (simp; omega)) _ | refine Below.setCell ?_ (by first | (simp; done) | (simp; omega)) _))
  have HZ1 : Hid (BoxN V2 u1.heap.size 39 [.int .i64 P, .int .i64 Q, .int .i64 G]) := by unfold Hid; rw [hV]; have h := (BoxN.new u1 [.int .i64 P, .int .i64 Q, .int .i64 G] 39); simpa using h
  have hgc : g < u1.heap.size := HC.out.lt
  go_wp2_with fail
  rw [← hV]
  have hsV2 : V2.heap.size = u1.heap.size + 1 := by rw [hV]; simp
  clear hV hgc
  replace HX0 := Lib.hid (HX0.out.below hbV)
  replace HX1 := Lib.hid (HX1.out.below hbV)
  replace HW := Lib.hid (HW.out.trans (Within.of_below hbV))
  replace HC := Lib.hid (HC.out.keep hbV)
  clear hbV
  clear z_0_0 z_0_1 z_0_2 z_1_0 z_1_1
  clear lt_HX0
  clear lt_HX1
  refine (spec_anyBases U g _ P Q G _ HC.out (HW.out.belowOf HUC.out (Nat.le_of_eq HUS.out)) (by omega) HGR.out).mono ?_
  rintro e u3 ⟨⟨h3, v3, l3, rfl, ⟨h3l, h3u⟩, hs3, hl3⟩, hc, hw⟩
  have HL3 := Lib.hid hs3
  obtain ⟨a3, n3, c3, rfl⟩ := hs3.here.shape
  have hn3 : n3 ≤ 26 := by have h1 := hs3.here.len; omega
  have HE3 := Lib.hid hs3.here.len
  clear hs3
  have hsz3 := hw.size
  replace HX0 := Lib.hid (HX0.out.kept hw (.inl (by omega)))
  replace HX1 := Lib.hid (HX1.out.kept hw (.inl (by omega)))
  replace HZ1 := Lib.hid (HZ1.out.kept hw (.inr (by omega)))
  replace HW := Lib.hid (HW.out.trans hw)
  replace HC := Lib.hid hc
  clear hc hw
  have z_0_0 := HX0.out.cell (i := 0) rfl
  have z_0_1 := HX0.out.cell (i := 1) rfl
  have z_0_2 := HX0.out.cell (i := 2) rfl
  have z_1_0 := HX1.out.cell (i := 0) rfl
  have z_1_1 := HX1.out.cell (i := 1) rfl
  have z_2_0 := HZ1.out.cell (i := 0) rfl
  have z_2_1 := HZ1.out.cell (i := 1) rfl
  have z_2_2 := HZ1.out.cell (i := 2) rfl
  have lt_HX0 := HX0.out.lt
  have lt_HX1 := HX1.out.lt
  have lt_HZ1 := HZ1.out.lt
  obtain ⟨V4, hV⟩ : ∃ V, V = u3.alloc (.cells #[.int .i64 h3, .slice a3 n3 c3] 79) := ⟨_, rfl⟩
  have hbV : Below u3.heap.size u3 V4 := by rw [hV]; (repeat (first | exact Below.refl _ _ | assumption | refine Below.drew ?_ | refine Below.alloc ?_ (by first | (simp; done) | (simp; omega)) _ | refine Below.setCell ?_ (by first | (simp; done) | (simp; omega)) _))
  have HZ2 : Hid (BoxN V4 u3.heap.size 79 [.int .i64 h3, .slice a3 n3 c3]) := by unfold Hid; rw [hV]; have h := (BoxN.new u3 [.int .i64 h3, .slice a3 n3 c3] 79); simpa using h
  have hgc : g < u3.heap.size := HC.out.lt
  go_wp2_with fail
  rw [← hV]
  have hsV4 : V4.heap.size = u3.heap.size + 1 := by rw [hV]; simp
  clear hV hgc
  replace HX0 := Lib.hid (HX0.out.below hbV)
  replace HX1 := Lib.hid (HX1.out.below hbV)
  replace HZ1 := Lib.hid (HZ1.out.below hbV)
  replace HL3 := Lib.hid (HL3.out.below hbV)
  replace HW := Lib.hid (HW.out.trans (Within.of_below hbV))
  replace HC := Lib.hid (HC.out.keep hbV)
  clear hbV
  clear z_0_0 z_0_1 z_0_2 z_1_0 z_1_1 z_2_0 z_2_1 z_2_2
  clear lt_HX0
  clear lt_HX1
  clear lt_HZ1
  have z_0_0 := HX0.out.cell (i := 0) rfl
  have z_0_1 := HX0.out.cell (i := 1) rfl
  have z_0_2 := HX0.out.cell (i := 2) rfl
  have z_1_0 := HX1.out.cell (i := 0) rfl
  have z_1_1 := HX1.out.cell (i := 1) rfl
  have z_2_0 := HZ1.out.cell (i := 0) rfl
  have z_2_1 := HZ1.out.cell (i := 1) rfl
  have z_2_2 := HZ1.out.cell (i := 2) rfl
  have z_3_0 := HZ2.out.cell (i := 0) rfl
  have z_3_1 := HZ2.out.cell (i := 1) rfl
  clear z_0_0
  clear z_0_1
  clear z_0_2
  clear z_1_0
  clear z_1_1
  refine wp_region_noPanic ?_
  refine wp_region_V (fun w' => w'.cell? ⟨u1.heap.size, 0, none⟩ = some (.int .i64 P) ∧ w'.cell? ⟨u1.heap.size, 1, none⟩ = some (.int .i64 Q) ∧ w'.cell? ⟨u1.heap.size, 2, none⟩ = some (.int .i64 G) ∧ w'.cell? ⟨u3.heap.size, 0, none⟩ = some (.int .i64 h3) ∧ w'.cell? ⟨u3.heap.size, 1, none⟩ = some (.slice a3 n3 c3)) 15 11 (.rd 0 (.rd 2 (.rd 3 (.rd 4 (.rd 6 (.rd 7 (.alt 1 (.alt 5 (.alt 8 (.alt 9 (.alt 10 .done .nil) .nil) .nil) .nil) (.alt 5 (.alt 1 (.alt 8 (.alt 9 (.alt 10 .done .nil) .nil) .nil) (.alt 8 (.alt 1 (.alt 9 (.alt 10 .done .nil) .nil) (.alt 9 (.alt 1 (.alt 10 .done .nil) .nil) .nil)) .nil)) .nil)))))))) [11, 12] (by kernel_rfl) (by kernel_rfl) rfl (fun _ _ _ _ _ h => h) ⟨box_at z_2_0 (Below.refl _ _).drew, box_at z_2_1 (Below.refl _ _).drew, box_at z_2_2 (Below.refl _ _).drew, box_at z_3_0 (Below.refl _ _).drew, box_at z_3_1 (Below.refl _ _).drew⟩ ?_
  simp only [pickV, pickN, List.getElem?_cons_zero, List.getElem?_cons_succ]
  repeat (refine' wpV_read _ (by kernel_rfl) (fun w' hS' => ?_) ?_; rotate_left; · ((try dsimp only at hS'); go_simp; (try with_reducible rfl)); (try simp only [Act.put, List.setIfInBounds_toArray, List.set_cons_zero, List.set_cons_succ]))
  have hdr : Below V4.heap.size V4 V4.drew := (Below.refl _ _).drew
  have hszd := hdr.size
  replace HX0 := Lib.hid (HX0.out.below hdr)
  replace HX1 := Lib.hid (HX1.out.below hdr)
  replace HZ1 := Lib.hid (HZ1.out.below hdr)
  replace HZ2 := Lib.hid (HZ2.out.below hdr)
  replace HL3 := Lib.hid (HL3.out.below hdr)
  replace HW := Lib.hid (HW.out.trans (Within.of_below hdr))
  replace HC := Lib.hid (HC.out.keep hdr)
  clear hdr
  refine wpV_or (by kernel_rfl) (fun K hK => ?_) ?_
  · -- 1: load
    go_simp
    refine hK.out _ _ ⟨z_2_0, z_2_1, z_2_2, z_3_0, z_3_1⟩ (fun _ => ?_)
    clear hK K
    (try simp only [Act.put, List.setIfInBounds_toArray, List.set_cons_zero, List.set_cons_succ])
    refine wpV_do (by kernel_rfl) (fun K hK => ?_)
    -- 5: call
    go_simp
    go_at_call 174
    refine (spec_vector U g _ P Q G h3 a3 n3 c3 _ HC.out (HW.out.belowOf HUC.out (Nat.le_of_eq HUS.out)) (by omega) HGR.out (by omega)).mono ?_
    rintro e ut1 ⟨⟨vt1, lt1, rfl, hst1, hlt1⟩, hc, hw⟩
    have HLt1 := Lib.hid hst1
    obtain ⟨at1, nt1, ct1, rfl⟩ := hst1.here.shape
    have hnt1 : nt1 ≤ 1001 := by have h1 := hst1.here.len; omega
    have HEt1 := Lib.hid hst1.here.len
    clear hst1
    have hszt1 := hw.size
    replace HX0 := Lib.hid (HX0.out.kept hw (.inl (by omega)))
    replace HX1 := Lib.hid (HX1.out.kept hw (.inl (by omega)))
    replace HZ1 := Lib.hid (HZ1.out.kept hw (.inr (by omega)))
    replace HZ2 := Lib.hid (HZ2.out.kept hw (.inr (by omega)))
    replace HL3 := Lib.hid (HL3.out.within hw (by omega))
    replace HW := Lib.hid (HW.out.trans hw)
    replace HC := Lib.hid hc
    clear hc hw
    clear z_2_0 z_2_1 z_2_2 z_3_0 z_3_1
    have z_2_0 := HZ1.out.cell (i := 0) rfl
    have z_2_1 := HZ1.out.cell (i := 1) rfl
    have z_2_2 := HZ1.out.cell (i := 2) rfl
    have z_3_0 := HZ2.out.cell (i := 0) rfl
    have z_3_1 := HZ2.out.cell (i := 1) rfl
    refine hK.out _ _ ⟨z_2_0, z_2_1, z_2_2, z_3_0, z_3_1⟩ (fun _ => ?_)
    clear hK K
    (try simp only [Act.put, List.setIfInBounds_toArray, List.set_cons_zero, List.set_cons_succ])
    refine wpV_do (by kernel_rfl) (fun K hK => ?_)
    -- 8: call
    go_simp
    go_at_call 147
    refine (spec_anyExpo U g _ P Q G _ HC.out (HW.out.belowOf HUC.out (Nat.le_of_eq HUS.out)) (by omega) HGR.out).mono ?_
    rintro e ut2 ⟨⟨xt2, rfl, xt2l, xt2u⟩, hc, hw⟩
    have hszt2 := hw.size
    replace HX0 := Lib.hid (HX0.out.kept hw (.inl (by omega)))
    replace HX1 := Lib.hid (HX1.out.kept hw (.inl (by omega)))
    replace HZ1 := Lib.hid (HZ1.out.kept hw (.inr (by omega)))
    replace HZ2 := Lib.hid (HZ2.out.kept hw (.inr (by omega)))
    replace HL3 := Lib.hid (HL3.out.within hw (by omega))
    replace HLt1 := Lib.hid (HLt1.out.within hw (by omega))
    replace HW := Lib.hid (HW.out.trans hw)
    replace HC := Lib.hid hc
    clear hc hw
    clear z_2_0 z_2_1 z_2_2 z_3_0 z_3_1
    have z_2_0 := HZ1.out.cell (i := 0) rfl
    have z_2_1 := HZ1.out.cell (i := 1) rfl
    have z_2_2 := HZ1.out.cell (i := 2) rfl
    have z_3_0 := HZ2.out.cell (i := 0) rfl
    have z_3_1 := HZ2.out.cell (i := 1) rfl
    refine hK.out _ _ ⟨z_2_0, z_2_1, z_2_2, z_3_0, z_3_1⟩ (fun _ => ?_)
    clear hK K
    (try simp only [Act.put, List.setIfInBounds_toArray, List.set_cons_zero, List.set_cons_succ])
    refine wpV_do (by kernel_rfl) (fun K hK => ?_)
    -- 9: store
    have r0 := HX0.out.cell (i := 0) rfl
    have r1 := HX0.out.cell (i := 1) rfl
    have r2 := HX0.out.cell (i := 2) rfl
    have fr := fun j => HX0.out.frozen j
    obtain ⟨Y3, hY⟩ : ∃ Y, Y = ((ut2.setCell ⟨w.heap.size, 0, none⟩ (.int .i64 P)).setCell ⟨w.heap.size, 1, none⟩ (.int .i64 Q)).setCell ⟨w.heap.size, 2, none⟩ (.int .i64 G) := ⟨_, rfl⟩
    have NHX0 : Hid (BoxN Y3 w.heap.size 39 [.int .i64 P, .int .i64 Q, .int .i64 G]) := by unfold Hid; rw [hY]; exact (((HX0.out.set 0 (.int .i64 P)).set 1 (.int .i64 Q)).set 2 (.int .i64 G))
    have NHX1 : Hid (BoxN Y3 (w.heap.size + 1) 79 [.int .i64 0, (.slice none 0 0)]) := by unfold Hid; rw [hY]; exact (((HX1.out.other (b' := w.heap.size) (by omega) 0 (.int .i64 P)).other (b' := w.heap.size) (by omega) 1 (.int .i64 Q)).other (b' := w.heap.size) (by omega) 2 (.int .i64 G))
    have NHZ1 : Hid (BoxN Y3 u1.heap.size 39 [.int .i64 P, .int .i64 Q, .int .i64 G]) := by unfold Hid; rw [hY]; exact (((HZ1.out.other (b' := w.heap.size) (by omega) 0 (.int .i64 P)).other (b' := w.heap.size) (by omega) 1 (.int .i64 Q)).other (b' := w.heap.size) (by omega) 2 (.int .i64 G))
    have NHZ2 : Hid (BoxN Y3 u3.heap.size 79 [.int .i64 h3, .slice a3 n3 c3]) := by unfold Hid; rw [hY]; exact (((HZ2.out.other (b' := w.heap.size) (by omega) 0 (.int .i64 P)).other (b' := w.heap.size) (by omega) 1 (.int .i64 Q)).other (b' := w.heap.size) (by omega) 2 (.int .i64 G))
    have NYW : Hid (Within w.heap.size (w.heap.size + 2) ut2 Y3) := by unfold Hid; rw [hY]; exact ((((Within.refl w.heap.size (w.heap.size + 2) ut2).setCell (b := w.heap.size) (by omega) (by omega) 0 (.int .i64 P)).setCell (b := w.heap.size) (by omega) (by omega) 1 (.int .i64 Q)).setCell (b := w.heap.size) (by omega) (by omega) 2 (.int .i64 G))
    have NYB : Hid (Below w.heap.size w Y3) := by unfold Hid; rw [hY]; exact ((((HW.out.belowOf HBW.out (by omega)).setCell (p := ⟨w.heap.size, 0, none⟩) (by show w.heap.size ≤ w.heap.size; omega) (.int .i64 P)).setCell (p := ⟨w.heap.size, 1, none⟩) (by show w.heap.size ≤ w.heap.size; omega) (.int .i64 Q)).setCell (p := ⟨w.heap.size, 2, none⟩) (by show w.heap.size ≤ w.heap.size; omega) (.int .i64 G))
    go_simp
    refine hK.out _ _ ?_ (fun _ => ?_)
    · rw [← hY]; exact ⟨(NHZ1.out.cell (i := 0) rfl), (NHZ1.out.cell (i := 1) rfl), (NHZ1.out.cell (i := 2) rfl), (NHZ2.out.cell (i := 0) rfl), (NHZ2.out.cell (i := 1) rfl)⟩
    rw [← hY]
    clear hY hK K fr r0 r1 r2
    clear HX0
    have HX0 := NHX0
    clear NHX0
    clear HX1
    have HX1 := NHX1
    clear NHX1
    clear HZ1
    have HZ1 := NHZ1
    clear NHZ1
    clear HZ2
    have HZ2 := NHZ2
    clear NHZ2
    have HYW := NYW
    have HYB := NYB
    clear NYW NYB
    (try simp only [Act.put, List.setIfInBounds_toArray, List.set_cons_zero, List.set_cons_succ])
    clear z_2_0 z_2_1 z_2_2 z_3_0 z_3_1
    have z_2_0 := HZ1.out.cell (i := 0) rfl
    have z_2_1 := HZ1.out.cell (i := 1) rfl
    have z_2_2 := HZ1.out.cell (i := 2) rfl
    have z_3_0 := HZ2.out.cell (i := 0) rfl
    have z_3_1 := HZ2.out.cell (i := 1) rfl
    refine wpV_do (by kernel_rfl) (fun K hK => ?_)
    -- 10: store
    have r0 := HX1.out.cell (i := 0) rfl
    have r1 := HX1.out.cell (i := 1) rfl
    have fr := fun j => HX1.out.frozen j
    obtain ⟨Y4, hY⟩ : ∃ Y, Y = (Y3.setCell ⟨w.heap.size + 1, 0, none⟩ (.int .i64 h3)).setCell ⟨w.heap.size + 1, 1, none⟩ (.slice a3 n3 c3) := ⟨_, rfl⟩
    have NHX0 : Hid (BoxN Y4 w.heap.size 39 [.int .i64 P, .int .i64 Q, .int .i64 G]) := by unfold Hid; rw [hY]; exact ((HX0.out.other (b' := w.heap.size + 1) (by omega) 0 (.int .i64 h3)).other (b' := w.heap.size + 1) (by omega) 1 (.slice a3 n3 c3))
    have NHX1 : Hid (BoxN Y4 (w.heap.size + 1) 79 [.int .i64 h3, .slice a3 n3 c3]) := by unfold Hid; rw [hY]; exact ((HX1.out.set 0 (.int .i64 h3)).set 1 (.slice a3 n3 c3))
    have NHZ1 : Hid (BoxN Y4 u1.heap.size 39 [.int .i64 P, .int .i64 Q, .int .i64 G]) := by unfold Hid; rw [hY]; exact ((HZ1.out.other (b' := w.heap.size + 1) (by omega) 0 (.int .i64 h3)).other (b' := w.heap.size + 1) (by omega) 1 (.slice a3 n3 c3))
    have NHZ2 : Hid (BoxN Y4 u3.heap.size 79 [.int .i64 h3, .slice a3 n3 c3]) := by unfold Hid; rw [hY]; exact ((HZ2.out.other (b' := w.heap.size + 1) (by omega) 0 (.int .i64 h3)).other (b' := w.heap.size + 1) (by omega) 1 (.slice a3 n3 c3))
    have NYW : Hid (Within w.heap.size (w.heap.size + 2) ut2 Y4) := by unfold Hid; rw [hY]; exact ((HYW.out.setCell (b := w.heap.size + 1) (by omega) (by omega) 0 (.int .i64 h3)).setCell (b := w.heap.size + 1) (by omega) (by omega) 1 (.slice a3 n3 c3))
    have NYB : Hid (Below w.heap.size w Y4) := by unfold Hid; rw [hY]; exact ((HYB.out.setCell (p := ⟨w.heap.size + 1, 0, none⟩) (by show w.heap.size ≤ w.heap.size + 1; omega) (.int .i64 h3)).setCell (p := ⟨w.heap.size + 1, 1, none⟩) (by show w.heap.size ≤ w.heap.size + 1; omega) (.slice a3 n3 c3))
    go_simp
    refine hK.out _ _ ?_ (fun _ => ?_)
    · rw [← hY]; exact ⟨(NHZ1.out.cell (i := 0) rfl), (NHZ1.out.cell (i := 1) rfl), (NHZ1.out.cell (i := 2) rfl), (NHZ2.out.cell (i := 0) rfl), (NHZ2.out.cell (i := 1) rfl)⟩
    rw [← hY]
    clear hY hK K fr r0 r1
    clear HX0
    have HX0 := NHX0
    clear NHX0
    clear HX1
    have HX1 := NHX1
    clear NHX1
    clear HZ1
    have HZ1 := NHZ1
    clear NHZ1
    clear HZ2
    have HZ2 := NHZ2
    clear NHZ2
    clear HYW HYB
    have HYW := NYW
    have HYB := NYB
    clear NYW NYB
    (try simp only [Act.put, List.setIfInBounds_toArray, List.set_cons_zero, List.set_cons_succ])
    clear z_2_0 z_2_1 z_2_2 z_3_0 z_3_1
    have z_2_0 := HZ1.out.cell (i := 0) rfl
    have z_2_1 := HZ1.out.cell (i := 1) rfl
    have z_2_2 := HZ1.out.cell (i := 2) rfl
    have z_3_0 := HZ2.out.cell (i := 0) rfl
    have z_3_1 := HZ2.out.cell (i := 1) rfl
    refine wpV_done ?_
    go_wp2_with fail
    refine NoPanic.normal ?_
    clear z_2_0 z_2_1 z_2_2 z_3_0 z_3_1
    have t_HX0_0 := HX0.out.cell (i := 0) rfl
    have t_HX0_1 := HX0.out.cell (i := 1) rfl
    have t_HX0_2 := HX0.out.cell (i := 2) rfl
    have t_HX1_0 := HX1.out.cell (i := 0) rfl
    have t_HX1_1 := HX1.out.cell (i := 1) rfl
    try (go_wp2_with fail)
    refine bodyPost_ret (v := .tuple #[.agg #[.int .i64 P, .int .i64 Q, .int .i64 G], .agg #[.int .i64 h3, .slice a3 n3 c3], .slice at1 nt1 ct1, .int .i64 xt2]) (by simp [results, Try.results53, go_sem, t_HX0_0, t_HX0_1, t_HX0_2, t_HX1_0, t_HX1_1]) rfl ⟨⟨_, _, _, _, _, _, _, _, _, rfl, HGR.out, ⟨⟨by omega, by omega⟩, (HL3.out.within HYW.out (by omega)).here, by have := HE3.out; omega⟩, ⟨(HLt1.out.within HYW.out (by omega)).here, by have := HEt1.out; omega⟩, ⟨by omega, by omega⟩⟩, HYB.out⟩
  refine wpV_do (by kernel_rfl) (fun K hK => ?_)
  -- 5: call
  go_simp
  go_at_call 174
  refine (spec_vector U g _ P Q G h3 a3 n3 c3 _ HC.out (HW.out.belowOf HUC.out (Nat.le_of_eq HUS.out)) (by omega) HGR.out (by omega)).mono ?_
  rintro e ut5 ⟨⟨vt5, lt5, rfl, hst5, hlt5⟩, hc, hw⟩
  have HLt5 := Lib.hid hst5
  obtain ⟨at5, nt5, ct5, rfl⟩ := hst5.here.shape
  have hnt5 : nt5 ≤ 1001 := by have h1 := hst5.here.len; omega
  have HEt5 := Lib.hid hst5.here.len
  clear hst5
  have hszt5 := hw.size
  replace HX0 := Lib.hid (HX0.out.kept hw (.inl (by omega)))
  replace HX1 := Lib.hid (HX1.out.kept hw (.inl (by omega)))
  replace HZ1 := Lib.hid (HZ1.out.kept hw (.inr (by omega)))
  replace HZ2 := Lib.hid (HZ2.out.kept hw (.inr (by omega)))
  replace HL3 := Lib.hid (HL3.out.within hw (by omega))
  replace HW := Lib.hid (HW.out.trans hw)
  replace HC := Lib.hid hc
  clear hc hw
  clear z_2_0 z_2_1 z_2_2 z_3_0 z_3_1
  have z_2_0 := HZ1.out.cell (i := 0) rfl
  have z_2_1 := HZ1.out.cell (i := 1) rfl
  have z_2_2 := HZ1.out.cell (i := 2) rfl
  have z_3_0 := HZ2.out.cell (i := 0) rfl
  have z_3_1 := HZ2.out.cell (i := 1) rfl
  refine hK.out _ _ ⟨z_2_0, z_2_1, z_2_2, z_3_0, z_3_1⟩ (fun _ => ?_)
  clear hK K
  (try simp only [Act.put, List.setIfInBounds_toArray, List.set_cons_zero, List.set_cons_succ])
  refine wpV_or (by kernel_rfl) (fun K hK => ?_) ?_
  · -- 1: load
    go_simp
    refine hK.out _ _ ⟨z_2_0, z_2_1, z_2_2, z_3_0, z_3_1⟩ (fun _ => ?_)
    clear hK K
    (try simp only [Act.put, List.setIfInBounds_toArray, List.set_cons_zero, List.set_cons_succ])
    refine wpV_do (by kernel_rfl) (fun K hK => ?_)
    -- 8: call
    go_simp
    go_at_call 147
    refine (spec_anyExpo U g _ P Q G _ HC.out (HW.out.belowOf HUC.out (Nat.le_of_eq HUS.out)) (by omega) HGR.out).mono ?_
    rintro e ut6 ⟨⟨xt6, rfl, xt6l, xt6u⟩, hc, hw⟩
    have hszt6 := hw.size
    replace HX0 := Lib.hid (HX0.out.kept hw (.inl (by omega)))
    replace HX1 := Lib.hid (HX1.out.kept hw (.inl (by omega)))
    replace HZ1 := Lib.hid (HZ1.out.kept hw (.inr (by omega)))
    replace HZ2 := Lib.hid (HZ2.out.kept hw (.inr (by omega)))
    replace HL3 := Lib.hid (HL3.out.within hw (by omega))
    replace HLt5 := Lib.hid (HLt5.out.within hw (by omega))
    replace HW := Lib.hid (HW.out.trans hw)
    replace HC := Lib.hid hc
    clear hc hw
    clear z_2_0 z_2_1 z_2_2 z_3_0 z_3_1
    have z_2_0 := HZ1.out.cell (i := 0) rfl
    have z_2_1 := HZ1.out.cell (i := 1) rfl
    have z_2_2 := HZ1.out.cell (i := 2) rfl
    have z_3_0 := HZ2.out.cell (i := 0) rfl
    have z_3_1 := HZ2.out.cell (i := 1) rfl
    refine hK.out _ _ ⟨z_2_0, z_2_1, z_2_2, z_3_0, z_3_1⟩ (fun _ => ?_)
    clear hK K
    (try simp only [Act.put, List.setIfInBounds_toArray, List.set_cons_zero, List.set_cons_succ])
    refine wpV_do (by kernel_rfl) (fun K hK => ?_)
    -- 9: store
    have r0 := HX0.out.cell (i := 0) rfl
    have r1 := HX0.out.cell (i := 1) rfl
    have r2 := HX0.out.cell (i := 2) rfl
    have fr := fun j => HX0.out.frozen j
    obtain ⟨Y7, hY⟩ : ∃ Y, Y = ((ut6.setCell ⟨w.heap.size, 0, none⟩ (.int .i64 P)).setCell ⟨w.heap.size, 1, none⟩ (.int .i64 Q)).setCell ⟨w.heap.size, 2, none⟩ (.int .i64 G) := ⟨_, rfl⟩
    have NHX0 : Hid (BoxN Y7 w.heap.size 39 [.int .i64 P, .int .i64 Q, .int .i64 G]) := by unfold Hid; rw [hY]; exact (((HX0.out.set 0 (.int .i64 P)).set 1 (.int .i64 Q)).set 2 (.int .i64 G))
    have NHX1 : Hid (BoxN Y7 (w.heap.size + 1) 79 [.int .i64 0, (.slice none 0 0)]) := by unfold Hid; rw [hY]; exact (((HX1.out.other (b' := w.heap.size) (by omega) 0 (.int .i64 P)).other (b' := w.heap.size) (by omega) 1 (.int .i64 Q)).other (b' := w.heap.size) (by omega) 2 (.int .i64 G))
    have NHZ1 : Hid (BoxN Y7 u1.heap.size 39 [.int .i64 P, .int .i64 Q, .int .i64 G]) := by unfold Hid; rw [hY]; exact (((HZ1.out.other (b' := w.heap.size) (by omega) 0 (.int .i64 P)).other (b' := w.heap.size) (by omega) 1 (.int .i64 Q)).other (b' := w.heap.size) (by omega) 2 (.int .i64 G))
    have NHZ2 : Hid (BoxN Y7 u3.heap.size 79 [.int .i64 h3, .slice a3 n3 c3]) := by unfold Hid; rw [hY]; exact (((HZ2.out.other (b' := w.heap.size) (by omega) 0 (.int .i64 P)).other (b' := w.heap.size) (by omega) 1 (.int .i64 Q)).other (b' := w.heap.size) (by omega) 2 (.int .i64 G))
    have NYW : Hid (Within w.heap.size (w.heap.size + 2) ut6 Y7) := by unfold Hid; rw [hY]; exact ((((Within.refl w.heap.size (w.heap.size + 2) ut6).setCell (b := w.heap.size) (by omega) (by omega) 0 (.int .i64 P)).setCell (b := w.heap.size) (by omega) (by omega) 1 (.int .i64 Q)).setCell (b := w.heap.size) (by omega) (by omega) 2 (.int .i64 G))
    have NYB : Hid (Below w.heap.size w Y7) := by unfold Hid; rw [hY]; exact ((((HW.out.belowOf HBW.out (by omega)).setCell (p := ⟨w.heap.size, 0, none⟩) (by show w.heap.size ≤ w.heap.size; omega) (.int .i64 P)).setCell (p := ⟨w.heap.size, 1, none⟩) (by show w.heap.size ≤ w.heap.size; omega) (.int .i64 Q)).setCell (p := ⟨w.heap.size, 2, none⟩) (by show w.heap.size ≤ w.heap.size; omega) (.int .i64 G))
    go_simp
    refine hK.out _ _ ?_ (fun _ => ?_)
    · rw [← hY]; exact ⟨(NHZ1.out.cell (i := 0) rfl), (NHZ1.out.cell (i := 1) rfl), (NHZ1.out.cell (i := 2) rfl), (NHZ2.out.cell (i := 0) rfl), (NHZ2.out.cell (i := 1) rfl)⟩
    rw [← hY]
    clear hY hK K fr r0 r1 r2
    clear HX0
    have HX0 := NHX0
    clear NHX0
    clear HX1
    have HX1 := NHX1
    clear NHX1
    clear HZ1
    have HZ1 := NHZ1
    clear NHZ1
    clear HZ2
    have HZ2 := NHZ2
    clear NHZ2
    have HYW := NYW
    have HYB := NYB
    clear NYW NYB
    (try simp only [Act.put, List.setIfInBounds_toArray, List.set_cons_zero, List.set_cons_succ])
    clear z_2_0 z_2_1 z_2_2 z_3_0 z_3_1
    have z_2_0 := HZ1.out.cell (i := 0) rfl
    have z_2_1 := HZ1.out.cell (i := 1) rfl
    have z_2_2 := HZ1.out.cell (i := 2) rfl
    have z_3_0 := HZ2.out.cell (i := 0) rfl
    have z_3_1 := HZ2.out.cell (i := 1) rfl
    refine wpV_do (by kernel_rfl) (fun K hK => ?_)
    -- 10: store
    have r0 := HX1.out.cell (i := 0) rfl
    have r1 := HX1.out.cell (i := 1) rfl
    have fr := fun j => HX1.out.frozen j
    obtain ⟨Y8, hY⟩ : ∃ Y, Y = (Y7.setCell ⟨w.heap.size + 1, 0, none⟩ (.int .i64 h3)).setCell ⟨w.heap.size + 1, 1, none⟩ (.slice a3 n3 c3) := ⟨_, rfl⟩
    have NHX0 : Hid (BoxN Y8 w.heap.size 39 [.int .i64 P, .int .i64 Q, .int .i64 G]) := by unfold Hid; rw [hY]; exact ((HX0.out.other (b' := w.heap.size + 1) (by omega) 0 (.int .i64 h3)).other (b' := w.heap.size + 1) (by omega) 1 (.slice a3 n3 c3))
    have NHX1 : Hid (BoxN Y8 (w.heap.size + 1) 79 [.int .i64 h3, .slice a3 n3 c3]) := by unfold Hid; rw [hY]; exact ((HX1.out.set 0 (.int .i64 h3)).set 1 (.slice a3 n3 c3))
    have NHZ1 : Hid (BoxN Y8 u1.heap.size 39 [.int .i64 P, .int .i64 Q, .int .i64 G]) := by unfold Hid; rw [hY]; exact ((HZ1.out.other (b' := w.heap.size + 1) (by omega) 0 (.int .i64 h3)).other (b' := w.heap.size + 1) (by omega) 1 (.slice a3 n3 c3))
    have NHZ2 : Hid (BoxN Y8 u3.heap.size 79 [.int .i64 h3, .slice a3 n3 c3]) := by unfold Hid; rw [hY]; exact ((HZ2.out.other (b' := w.heap.size + 1) (by omega) 0 (.int .i64 h3)).other (b' := w.heap.size + 1) (by omega) 1 (.slice a3 n3 c3))
    have NYW : Hid (Within w.heap.size (w.heap.size + 2) ut6 Y8) := by unfold Hid; rw [hY]; exact ((HYW.out.setCell (b := w.heap.size + 1) (by omega) (by omega) 0 (.int .i64 h3)).setCell (b := w.heap.size + 1) (by omega) (by omega) 1 (.slice a3 n3 c3))
    have NYB : Hid (Below w.heap.size w Y8) := by unfold Hid; rw [hY]; exact ((HYB.out.setCell (p := ⟨w.heap.size + 1, 0, none⟩) (by show w.heap.size ≤ w.heap.size + 1; omega) (.int .i64 h3)).setCell (p := ⟨w.heap.size + 1, 1, none⟩) (by show w.heap.size ≤ w.heap.size + 1; omega) (.slice a3 n3 c3))
    go_simp
    refine hK.out _ _ ?_ (fun _ => ?_)
    · rw [← hY]; exact ⟨(NHZ1.out.cell (i := 0) rfl), (NHZ1.out.cell (i := 1) rfl), (NHZ1.out.cell (i := 2) rfl), (NHZ2.out.cell (i := 0) rfl), (NHZ2.out.cell (i := 1) rfl)⟩
    rw [← hY]
    clear hY hK K fr r0 r1
    clear HX0
    have HX0 := NHX0
    clear NHX0
    clear HX1
    have HX1 := NHX1
    clear NHX1
    clear HZ1
    have HZ1 := NHZ1
    clear NHZ1
    clear HZ2
    have HZ2 := NHZ2
    clear NHZ2
    clear HYW HYB
    have HYW := NYW
    have HYB := NYB
    clear NYW NYB
    (try simp only [Act.put, List.setIfInBounds_toArray, List.set_cons_zero, List.set_cons_succ])
    clear z_2_0 z_2_1 z_2_2 z_3_0 z_3_1
    have z_2_0 := HZ1.out.cell (i := 0) rfl
    have z_2_1 := HZ1.out.cell (i := 1) rfl
    have z_2_2 := HZ1.out.cell (i := 2) rfl
    have z_3_0 := HZ2.out.cell (i := 0) rfl
    have z_3_1 := HZ2.out.cell (i := 1) rfl
    refine wpV_done ?_
    go_wp2_with fail
    refine NoPanic.normal ?_
    clear z_2_0 z_2_1 z_2_2 z_3_0 z_3_1
    have t_HX0_0 := HX0.out.cell (i := 0) rfl
    have t_HX0_1 := HX0.out.cell (i := 1) rfl
    have t_HX0_2 := HX0.out.cell (i := 2) rfl
    have t_HX1_0 := HX1.out.cell (i := 0) rfl
    have t_HX1_1 := HX1.out.cell (i := 1) rfl
    try (go_wp2_with fail)
    refine bodyPost_ret (v := .tuple #[.agg #[.int .i64 P, .int .i64 Q, .int .i64 G], .agg #[.int .i64 h3, .slice a3 n3 c3], .slice at5 nt5 ct5, .int .i64 xt6]) (by simp [results, Try.results53, go_sem, t_HX0_0, t_HX0_1, t_HX0_2, t_HX1_0, t_HX1_1]) rfl ⟨⟨_, _, _, _, _, _, _, _, _, rfl, HGR.out, ⟨⟨by omega, by omega⟩, (HL3.out.within HYW.out (by omega)).here, by have := HE3.out; omega⟩, ⟨(HLt5.out.within HYW.out (by omega)).here, by have := HEt5.out; omega⟩, ⟨by omega, by omega⟩⟩, HYB.out⟩
  refine wpV_do (by kernel_rfl) (fun K hK => ?_)
  -- 8: call
  go_simp
  go_at_call 147
  refine (spec_anyExpo U g _ P Q G _ HC.out (HW.out.belowOf HUC.out (Nat.le_of_eq HUS.out)) (by omega) HGR.out).mono ?_
  rintro e ut9 ⟨⟨xt9, rfl, xt9l, xt9u⟩, hc, hw⟩
  have hszt9 := hw.size
  replace HX0 := Lib.hid (HX0.out.kept hw (.inl (by omega)))
  replace HX1 := Lib.hid (HX1.out.kept hw (.inl (by omega)))
  replace HZ1 := Lib.hid (HZ1.out.kept hw (.inr (by omega)))
  replace HZ2 := Lib.hid (HZ2.out.kept hw (.inr (by omega)))
  replace HL3 := Lib.hid (HL3.out.within hw (by omega))
  replace HLt5 := Lib.hid (HLt5.out.within hw (by omega))
  replace HW := Lib.hid (HW.out.trans hw)
  replace HC := Lib.hid hc
  clear hc hw
  clear z_2_0 z_2_1 z_2_2 z_3_0 z_3_1
  have z_2_0 := HZ1.out.cell (i := 0) rfl
  have z_2_1 := HZ1.out.cell (i := 1) rfl
  have z_2_2 := HZ1.out.cell (i := 2) rfl
  have z_3_0 := HZ2.out.cell (i := 0) rfl
  have z_3_1 := HZ2.out.cell (i := 1) rfl
  refine hK.out _ _ ⟨z_2_0, z_2_1, z_2_2, z_3_0, z_3_1⟩ (fun _ => ?_)
  clear hK K
  (try simp only [Act.put, List.setIfInBounds_toArray, List.set_cons_zero, List.set_cons_succ])
  refine wpV_or (by kernel_rfl) (fun K hK => ?_) ?_
  · -- 1: load
    go_simp
    refine hK.out _ _ ⟨z_2_0, z_2_1, z_2_2, z_3_0, z_3_1⟩ (fun _ => ?_)
    clear hK K
    (try simp only [Act.put, List.setIfInBounds_toArray, List.set_cons_zero, List.set_cons_succ])
    refine wpV_do (by kernel_rfl) (fun K hK => ?_)
    -- 9: store
    have r0 := HX0.out.cell (i := 0) rfl
    have r1 := HX0.out.cell (i := 1) rfl
    have r2 := HX0.out.cell (i := 2) rfl
    have fr := fun j => HX0.out.frozen j
    obtain ⟨Y10, hY⟩ : ∃ Y, Y = ((ut9.setCell ⟨w.heap.size, 0, none⟩ (.int .i64 P)).setCell ⟨w.heap.size, 1, none⟩ (.int .i64 Q)).setCell ⟨w.heap.size, 2, none⟩ (.int .i64 G) := ⟨_, rfl⟩
    have NHX0 : Hid (BoxN Y10 w.heap.size 39 [.int .i64 P, .int .i64 Q, .int .i64 G]) := by unfold Hid; rw [hY]; exact (((HX0.out.set 0 (.int .i64 P)).set 1 (.int .i64 Q)).set 2 (.int .i64 G))
    have NHX1 : Hid (BoxN Y10 (w.heap.size + 1) 79 [.int .i64 0, (.slice none 0 0)]) := by unfold Hid; rw [hY]; exact (((HX1.out.other (b' := w.heap.size) (by omega) 0 (.int .i64 P)).other (b' := w.heap.size) (by omega) 1 (.int .i64 Q)).other (b' := w.heap.size) (by omega) 2 (.int .i64 G))
    have NHZ1 : Hid (BoxN Y10 u1.heap.size 39 [.int .i64 P, .int .i64 Q, .int .i64 G]) := by unfold Hid; rw [hY]; exact (((HZ1.out.other (b' := w.heap.size) (by omega) 0 (.int .i64 P)).other (b' := w.heap.size) (by omega) 1 (.int .i64 Q)).other (b' := w.heap.size) (by omega) 2 (.int .i64 G))
    have NHZ2 : Hid (BoxN Y10 u3.heap.size 79 [.int .i64 h3, .slice a3 n3 c3]) := by unfold Hid; rw [hY]; exact (((HZ2.out.other (b' := w.heap.size) (by omega) 0 (.int .i64 P)).other (b' := w.heap.size) (by omega) 1 (.int .i64 Q)).other (b' := w.heap.size) (by omega) 2 (.int .i64 G))
    have NYW : Hid (Within w.heap.size (w.heap.size + 2) ut9 Y10) := by unfold Hid; rw [hY]; exact ((((Within.refl w.heap.size (w.heap.size + 2) ut9).setCell (b := w.heap.size) (by omega) (by omega) 0 (.int .i64 P)).setCell (b := w.heap.size) (by omega) (by omega) 1 (.int .i64 Q)).setCell (b := w.heap.size) (by omega) (by omega) 2 (.int .i64 G))
    have NYB : Hid (Below w.heap.size w Y10) := by unfold Hid; rw [hY]; exact ((((HW.out.belowOf HBW.out (by omega)).setCell (p := ⟨w.heap.size, 0, none⟩) (by show w.heap.size ≤ w.heap.size; omega) (.int .i64 P)).setCell (p := ⟨w.heap.size, 1, none⟩) (by show w.heap.size ≤ w.heap.size; omega) (.int .i64 Q)).setCell (p := ⟨w.heap.size, 2, none⟩) (by show w.heap.size ≤ w.heap.size; omega) (.int .i64 G))
    go_simp
    refine hK.out _ _ ?_ (fun _ => ?_)
    · rw [← hY]; exact ⟨(NHZ1.out.cell (i := 0) rfl), (NHZ1.out.cell (i := 1) rfl), (NHZ1.out.cell (i := 2) rfl), (NHZ2.out.cell (i := 0) rfl), (NHZ2.out.cell (i := 1) rfl)⟩
    rw [← hY]
    clear hY hK K fr r0 r1 r2
    clear HX0
    have HX0 := NHX0
    clear NHX0
    clear HX1
    have HX1 := NHX1
    clear NHX1
    clear HZ1
    have HZ1 := NHZ1
    clear NHZ1
    clear HZ2
    have HZ2 := NHZ2
    clear NHZ2
    have HYW := NYW
    have HYB := NYB
    clear NYW NYB
    (try simp only [Act.put, List.setIfInBounds_toArray, List.set_cons_zero, List.set_cons_succ])
    clear z_2_0 z_2_1 z_2_2 z_3_0 z_3_1
    have z_2_0 := HZ1.out.cell (i := 0) rfl
    have z_2_1 := HZ1.out.cell (i := 1) rfl
    have z_2_2 := HZ1.out.cell (i := 2) rfl
    have z_3_0 := HZ2.out.cell (i := 0) rfl
    have z_3_1 := HZ2.out.cell (i := 1) rfl
    refine wpV_do (by kernel_rfl) (fun K hK => ?_)
    -- 10: store
    have r0 := HX1.out.cell (i := 0) rfl
    have r1 := HX1.out.cell (i := 1) rfl
    have fr := fun j => HX1.out.frozen j
    obtain ⟨Y11, hY⟩ : ∃ Y, Y = (Y10.setCell ⟨w.heap.size + 1, 0, none⟩ (.int .i64 h3)).setCell ⟨w.heap.size + 1, 1, none⟩ (.slice a3 n3 c3) := ⟨_, rfl⟩
    have NHX0 : Hid (BoxN Y11 w.heap.size 39 [.int .i64 P, .int .i64 Q, .int .i64 G]) := by unfold Hid; rw [hY]; exact ((HX0.out.other (b' := w.heap.size + 1) (by omega) 0 (.int .i64 h3)).other (b' := w.heap.size + 1) (by omega) 1 (.slice a3 n3 c3))
    have NHX1 : Hid (BoxN Y11 (w.heap.size + 1) 79 [.int .i64 h3, .slice a3 n3 c3]) := by unfold Hid; rw [hY]; exact ((HX1.out.set 0 (.int .i64 h3)).set 1 (.slice a3 n3 c3))
    have NHZ1 : Hid (BoxN Y11 u1.heap.size 39 [.int .i64 P, .int .i64 Q, .int .i64 G]) := by unfold Hid; rw [hY]; exact ((HZ1.out.other (b' := w.heap.size + 1) (by omega) 0 (.int .i64 h3)).other (b' := w.heap.size + 1) (by omega) 1 (.slice a3 n3 c3))
    have NHZ2 : Hid (BoxN Y11 u3.heap.size 79 [.int .i64 h3, .slice a3 n3 c3]) := by unfold Hid; rw [hY]; exact ((HZ2.out.other (b' := w.heap.size + 1) (by omega) 0 (.int .i64 h3)).other (b' := w.heap.size + 1) (by omega) 1 (.slice a3 n3 c3))
    have NYW : Hid (Within w.heap.size (w.heap.size + 2) ut9 Y11) := by unfold Hid; rw [hY]; exact ((HYW.out.setCell (b := w.heap.size + 1) (by omega) (by omega) 0 (.int .i64 h3)).setCell (b := w.heap.size + 1) (by omega) (by omega) 1 (.slice a3 n3 c3))
    have NYB : Hid (Below w.heap.size w Y11) := by unfold Hid; rw [hY]; exact ((HYB.out.setCell (p := ⟨w.heap.size + 1, 0, none⟩) (by show w.heap.size ≤ w.heap.size + 1; omega) (.int .i64 h3)).setCell (p := ⟨w.heap.size + 1, 1, none⟩) (by show w.heap.size ≤ w.heap.size + 1; omega) (.slice a3 n3 c3))
    go_simp
    refine hK.out _ _ ?_ (fun _ => ?_)
    · rw [← hY]; exact ⟨(NHZ1.out.cell (i := 0) rfl), (NHZ1.out.cell (i := 1) rfl), (NHZ1.out.cell (i := 2) rfl), (NHZ2.out.cell (i := 0) rfl), (NHZ2.out.cell (i := 1) rfl)⟩
    rw [← hY]
    clear hY hK K fr r0 r1
    clear HX0
    have HX0 := NHX0
    clear NHX0
    clear HX1
    have HX1 := NHX1
    clear NHX1
    clear HZ1
    have HZ1 := NHZ1
    clear NHZ1
    clear HZ2
    have HZ2 := NHZ2
    clear NHZ2
    clear HYW HYB
    have HYW := NYW
    have HYB := NYB
    clear NYW NYB
    (try simp only [Act.put, List.setIfInBounds_toArray, List.set_cons_zero, List.set_cons_succ])
    clear z_2_0 z_2_1 z_2_2 z_3_0 z_3_1
    have z_2_0 := HZ1.out.cell (i := 0) rfl
    have z_2_1 := HZ1.out.cell (i := 1) rfl
    have z_2_2 := HZ1.out.cell (i := 2) rfl
    have z_3_0 := HZ2.out.cell (i := 0) rfl
    have z_3_1 := HZ2.out.cell (i := 1) rfl
    refine wpV_done ?_
    go_wp2_with fail
    refine NoPanic.normal ?_
    clear z_2_0 z_2_1 z_2_2 z_3_0 z_3_1
    have t_HX0_0 := HX0.out.cell (i := 0) rfl
    have t_HX0_1 := HX0.out.cell (i := 1) rfl
    have t_HX0_2 := HX0.out.cell (i := 2) rfl
    have t_HX1_0 := HX1.out.cell (i := 0) rfl
    have t_HX1_1 := HX1.out.cell (i := 1) rfl
    try (go_wp2_with fail)
    refine bodyPost_ret (v := .tuple #[.agg #[.int .i64 P, .int .i64 Q, .int .i64 G], .agg #[.int .i64 h3, .slice a3 n3 c3], .slice at5 nt5 ct5, .int .i64 xt9]) (by simp [results, Try.results53, go_sem, t_HX0_0, t_HX0_1, t_HX0_2, t_HX1_0, t_HX1_1]) rfl ⟨⟨_, _, _, _, _, _, _, _, _, rfl, HGR.out, ⟨⟨by omega, by omega⟩, (HL3.out.within HYW.out (by omega)).here, by have := HE3.out; omega⟩, ⟨(HLt5.out.within HYW.out (by omega)).here, by have := HEt5.out; omega⟩, ⟨by omega, by omega⟩⟩, HYB.out⟩
  refine wpV_do (by kernel_rfl) (fun K hK => ?_)
  -- 9: store
  have r0 := HX0.out.cell (i := 0) rfl
  have r1 := HX0.out.cell (i := 1) rfl
  have r2 := HX0.out.cell (i := 2) rfl
  have fr := fun j => HX0.out.frozen j
  obtain ⟨Y12, hY⟩ : ∃ Y, Y = ((ut9.setCell ⟨w.heap.size, 0, none⟩ (.int .i64 P)).setCell ⟨w.heap.size, 1, none⟩ (.int .i64 Q)).setCell ⟨w.heap.size, 2, none⟩ (.int .i64 G) := ⟨_, rfl⟩
  have NHX0 : Hid (BoxN Y12 w.heap.size 39 [.int .i64 P, .int .i64 Q, .int .i64 G]) := by unfold Hid; rw [hY]; exact (((HX0.out.set 0 (.int .i64 P)).set 1 (.int .i64 Q)).set 2 (.int .i64 G))
  have NHX1 : Hid (BoxN Y12 (w.heap.size + 1) 79 [.int .i64 0, (.slice none 0 0)]) := by unfold Hid; rw [hY]; exact (((HX1.out.other (b' := w.heap.size) (by omega) 0 (.int .i64 P)).other (b' := w.heap.size) (by omega) 1 (.int .i64 Q)).other (b' := w.heap.size) (by omega) 2 (.int .i64 G))
  have NHZ1 : Hid (BoxN Y12 u1.heap.size 39 [.int .i64 P, .int .i64 Q, .int .i64 G]) := by unfold Hid; rw [hY]; exact (((HZ1.out.other (b' := w.heap.size) (by omega) 0 (.int .i64 P)).other (b' := w.heap.size) (by omega) 1 (.int .i64 Q)).other (b' := w.heap.size) (by omega) 2 (.int .i64 G))
  have NHZ2 : Hid (BoxN Y12 u3.heap.size 79 [.int .i64 h3, .slice a3 n3 c3]) := by unfold Hid; rw [hY]; exact (((HZ2.out.other (b' := w.heap.size) (by omega) 0 (.int .i64 P)).other (b' := w.heap.size) (by omega) 1 (.int .i64 Q)).other (b' := w.heap.size) (by omega) 2 (.int .i64 G))
  have NYW : Hid (Within w.heap.size (w.heap.size + 2) ut9 Y12) := by unfold Hid; rw [hY]; exact ((((Within.refl w.heap.size (w.heap.size + 2) ut9).setCell (b := w.heap.size) (by omega) (by omega) 0 (.int .i64 P)).setCell (b := w.heap.size) (by omega) (by omega) 1 (.int .i64 Q)).setCell (b := w.heap.size) (by omega) (by omega) 2 (.int .i64 G))
  have NYB : Hid (Below w.heap.size w Y12) := by unfold Hid; rw [hY]; exact ((((HW.out.belowOf HBW.out (by omega)).setCell (p := ⟨w.heap.size, 0, none⟩) (by show w.heap.size ≤ w.heap.size; omega) (.int .i64 P)).setCell (p := ⟨w.heap.size, 1, none⟩) (by show w.heap.size ≤ w.heap.size; omega) (.int .i64 Q)).setCell (p := ⟨w.heap.size, 2, none⟩) (by show w.heap.size ≤ w.heap.size; omega) (.int .i64 G))
  go_simp
  refine hK.out _ _ ?_ (fun _ => ?_)
  · rw [← hY]; exact ⟨(NHZ1.out.cell (i := 0) rfl), (NHZ1.out.cell (i := 1) rfl), (NHZ1.out.cell (i := 2) rfl), (NHZ2.out.cell (i := 0) rfl), (NHZ2.out.cell (i := 1) rfl)⟩
  rw [← hY]
  clear hY hK K fr r0 r1 r2
  clear HX0
  have HX0 := NHX0
  clear NHX0
  clear HX1
  have HX1 := NHX1
  clear NHX1
  clear HZ1
  have HZ1 := NHZ1
  clear NHZ1
  clear HZ2
  have HZ2 := NHZ2
  clear NHZ2
  have HYW := NYW
  have HYB := NYB
  clear NYW NYB
  (try simp only [Act.put, List.setIfInBounds_toArray, List.set_cons_zero, List.set_cons_succ])
  clear z_2_0 z_2_1 z_2_2 z_3_0 z_3_1
  have z_2_0 := HZ1.out.cell (i := 0) rfl
  have z_2_1 := HZ1.out.cell (i := 1) rfl
  have z_2_2 := HZ1.out.cell (i := 2) rfl
  have z_3_0 := HZ2.out.cell (i := 0) rfl
  have z_3_1 := HZ2.out.cell (i := 1) rfl
  refine wpV_do (by kernel_rfl) (fun K hK => ?_)
  -- 1: load
  go_simp
  refine hK.out _ _ ⟨z_2_0, z_2_1, z_2_2, z_3_0, z_3_1⟩ (fun _ => ?_)
  clear hK K
  (try simp only [Act.put, List.setIfInBounds_toArray, List.set_cons_zero, List.set_cons_succ])
  refine wpV_do (by kernel_rfl) (fun K hK => ?_)
  -- 10: store
  have r0 := HX1.out.cell (i := 0) rfl
  have r1 := HX1.out.cell (i := 1) rfl
  have fr := fun j => HX1.out.frozen j
  obtain ⟨Y13, hY⟩ : ∃ Y, Y = (Y12.setCell ⟨w.heap.size + 1, 0, none⟩ (.int .i64 h3)).setCell ⟨w.heap.size + 1, 1, none⟩ (.slice a3 n3 c3) := ⟨_, rfl⟩
  have NHX0 : Hid (BoxN Y13 w.heap.size 39 [.int .i64 P, .int .i64 Q, .int .i64 G]) := by unfold Hid; rw [hY]; exact ((HX0.out.other (b' := w.heap.size + 1) (by omega) 0 (.int .i64 h3)).other (b' := w.heap.size + 1) (by omega) 1 (.slice a3 n3 c3))
  have NHX1 : Hid (BoxN Y13 (w.heap.size + 1) 79 [.int .i64 h3, .slice a3 n3 c3]) := by unfold Hid; rw [hY]; exact ((HX1.out.set 0 (.int .i64 h3)).set 1 (.slice a3 n3 c3))
  have NHZ1 : Hid (BoxN Y13 u1.heap.size 39 [.int .i64 P, .int .i64 Q, .int .i64 G]) := by unfold Hid; rw [hY]; exact ((HZ1.out.other (b' := w.heap.size + 1) (by omega) 0 (.int .i64 h3)).other (b' := w.heap.size + 1) (by omega) 1 (.slice a3 n3 c3))
  have NHZ2 : Hid (BoxN Y13 u3.heap.size 79 [.int .i64 h3, .slice a3 n3 c3]) := by unfold Hid; rw [hY]; exact ((HZ2.out.other (b' := w.heap.size + 1) (by omega) 0 (.int .i64 h3)).other (b' := w.heap.size + 1) (by omega) 1 (.slice a3 n3 c3))
  have NYW : Hid (Within w.heap.size (w.heap.size + 2) ut9 Y13) := by unfold Hid; rw [hY]; exact ((HYW.out.setCell (b := w.heap.size + 1) (by omega) (by omega) 0 (.int .i64 h3)).setCell (b := w.heap.size + 1) (by omega) (by omega) 1 (.slice a3 n3 c3))
  have NYB : Hid (Below w.heap.size w Y13) := by unfold Hid; rw [hY]; exact ((HYB.out.setCell (p := ⟨w.heap.size + 1, 0, none⟩) (by show w.heap.size ≤ w.heap.size + 1; omega) (.int .i64 h3)).setCell (p := ⟨w.heap.size + 1, 1, none⟩) (by show w.heap.size ≤ w.heap.size + 1; omega) (.slice a3 n3 c3))
  go_simp
  refine hK.out _ _ ?_ (fun _ => ?_)
  · rw [← hY]; exact ⟨(NHZ1.out.cell (i := 0) rfl), (NHZ1.out.cell (i := 1) rfl), (NHZ1.out.cell (i := 2) rfl), (NHZ2.out.cell (i := 0) rfl), (NHZ2.out.cell (i := 1) rfl)⟩
  rw [← hY]
  clear hY hK K fr r0 r1
  clear HX0
  have HX0 := NHX0
  clear NHX0
  clear HX1
  have HX1 := NHX1
  clear NHX1
  clear HZ1
  have HZ1 := NHZ1
  clear NHZ1
  clear HZ2
  have HZ2 := NHZ2
  clear NHZ2
  clear HYW HYB
  have HYW := NYW
  have HYB := NYB
  clear NYW NYB
  (try simp only [Act.put, List.setIfInBounds_toArray, List.set_cons_zero, List.set_cons_succ])
  clear z_2_0 z_2_1 z_2_2 z_3_0 z_3_1
  have z_2_0 := HZ1.out.cell (i := 0) rfl
  have z_2_1 := HZ1.out.cell (i := 1) rfl
  have z_2_2 := HZ1.out.cell (i := 2) rfl
  have z_3_0 := HZ2.out.cell (i := 0) rfl
  have z_3_1 := HZ2.out.cell (i := 1) rfl
  refine wpV_done ?_
  go_wp2_with fail
  refine NoPanic.normal ?_
  clear z_2_0 z_2_1 z_2_2 z_3_0 z_3_1
  have t_HX0_0 := HX0.out.cell (i := 0) rfl
  have t_HX0_1 := HX0.out.cell (i := 1) rfl
  have t_HX0_2 := HX0.out.cell (i := 2) rfl
  have t_HX1_0 := HX1.out.cell (i := 0) rfl
  have t_HX1_1 := HX1.out.cell (i := 1) rfl
  try (go_wp2_with fail)
  refine bodyPost_ret (v := .tuple #[.agg #[.int .i64 P, .int .i64 Q, .int .i64 G], .agg #[.int .i64 h3, .slice a3 n3 c3], .slice at5 nt5 ct5, .int .i64 xt9]) (by simp [results, Try.results53, go_sem, t_HX0_0, t_HX0_1, t_HX0_2, t_HX1_0, t_HX1_1]) rfl ⟨⟨_, _, _, _, _, _, _, _, _, rfl, HGR.out, ⟨⟨by omega, by omega⟩, (HL3.out.within HYW.out (by omega)).here, by have := HE3.out; omega⟩, ⟨(HLt5.out.within HYW.out (by omega)).here, by have := HEt5.out; omega⟩, ⟨by omega, by omega⟩⟩, HYB.out⟩
set_option maxRecDepth 100000 in
set_option maxHeartbeats 4000000 in
theorem spec_DrawProveOpening (v : Value) (w : World) (h : Bytes w v) :
    Calls Try.prog 77 #[v] w fun e w' => (∃ (P : Int) (Q : Int) (G : Int) (hr1 : Int) (vr1 : Value) (lr1 : List Int) (xr2 : Int) (xr3 : Int) (vr4 : Value) (lr4 : List Int), e = .returned (.tuple #[.agg #[.int .i64 P, .int .i64 Q, .int .i64 G], .agg #[.int .i64 hr1, vr1], .int .i64 xr2, .int .i64 xr3, vr4]) ∧ GrB ⟨P, Q, G⟩ ∧ ((-10 ≤ hr1 ∧ hr1 ≤ 2000000010) ∧ (Ints w' vr1 lr1 ∧ lr1.length ≤ 26)) ∧ (-10 ≤ xr2 ∧ xr2 ≤ 2000000010) ∧ (-10 ≤ xr3 ∧ xr3 ≤ 2000000010) ∧ (Ints w' vr4 lr4 ∧ lr4.length ≤ 1001)) ∧ Below w.heap.size w w' := by
  obtain ⟨a, m, c, rfl, hk1, hk2, hv⟩ := h
  have HY : Hid (Bytes w (.slice a m c)) := ⟨a, m, c, rfl, hk1, hk2, hv⟩
  clear hv
  unfold maxLen at hk2
  obtain ⟨U, hU⟩ : ∃ U, U = (w.alloc (.cells #[.int .i64 0, .int .i64 0, .int .i64 0] 39)).alloc (.cells #[.int .i64 0, (.slice none 0 0)] 79) := ⟨_, rfl⟩
  have hbU : Below w.heap.size w U := by rw [hU]; (repeat (first | exact Below.refl _ _ | assumption | refine Below.drew ?_ | refine Below.alloc ?_ (by first | (simp; done) | (simp; omega)) _ | refine Below.setCell ?_ (by first | (simp; done) | (simp; omega)) _))
  have HX0 : Hid (BoxN U w.heap.size 39 [.int .i64 0, .int .i64 0, .int .i64 0]) := by unfold Hid; rw [hU]; have h := ((BoxN.new w [.int .i64 0, .int .i64 0, .int .i64 0] 39).alloc (.cells #[.int .i64 0, (.slice none 0 0)] 79)); simpa using h
  have HX1 : Hid (BoxN U (w.heap.size + 1) 79 [.int .i64 0, (.slice none 0 0)]) := by unfold Hid; rw [hU]; have h := (BoxN.new (w.alloc (.cells #[.int .i64 0, .int .i64 0, .int .i64 0] 39)) [.int .i64 0, (.slice none 0 0)] 79); simpa using h
  have hsU : U.heap.size = w.heap.size + 1 + 1 := by rw [hU]; simp
  obtain ⟨W, hW⟩ : ∃ W, W = U.alloc (.cells #[.slice a m c, .int .i64 0, .int .u64 0] 170) := ⟨_, rfl⟩
  have HC : Hid (Cur U W U.heap.size 0) := by unfold Hid; rw [hW]; exact Cur.new U (HY.out.below hbU)
  have hbW : Below U.heap.size U W := by rw [hW]; exact (Below.refl _ _).alloc (Nat.le_refl _) _
  have HBW := Lib.hid (Below.next hbU hbW)
  have HUB := Lib.hid hbW
  replace HX0 := Lib.hid (HX0.out.below hbW)
  replace HX1 := Lib.hid (HX1.out.below hbW)
  obtain ⟨g, hg⟩ : ∃ g, g = U.heap.size := ⟨_, rfl⟩
  have HSU : Hid (w.heap.size + 1 + 1 = g) := by unfold Hid; rw [hg, hsU]
  have HWS : Hid (W.heap.size = g + 1) := by unfold Hid; rw [hW, hg]; simp
  go_enter Try.func77, Try.ntmps77
  go_wp2_with fail
  rw [← hU, ← hW]
  rw [HSU.out]
  rw [← hg] at HC HUB
  have HUS : Hid (U.heap.size = g) := hg.symm
  have hwg : w.heap.size + 2 = g := HSU.out
  have hsW := HWS.out
  have HW := Lib.hid (Within.refl g (g + 1) W)
  have HUC : Hid (Below U.heap.size U W) := by unfold Hid; rw [HUS.out]; exact HUB.out
  clear hU hW hbU hbW hsU hg
  have z_0_0 := HX0.out.cell (i := 0) rfl
  have z_0_1 := HX0.out.cell (i := 1) rfl
  have z_0_2 := HX0.out.cell (i := 2) rfl
  have z_1_0 := HX1.out.cell (i := 0) rfl
  have z_1_1 := HX1.out.cell (i := 1) rfl
  try (go_wp2_with fail)
  clear z_0_0 z_0_1 z_0_2 z_1_0 z_1_1
  refine (spec_anyGroup U g _ _ HC.out (HW.out.belowOf HUC.out (Nat.le_of_eq HUS.out)) (by omega)).mono ?_
  rintro e u1 ⟨⟨P, Q, G, rfl, P1, Q1, G1⟩, hc, hw⟩
  have HGR : Hid (GrB ⟨P, Q, G⟩) := ⟨P1, Q1, G1⟩
  clear P1 Q1 G1
  have hsz1 := hw.size
  replace HX0 := Lib.hid (HX0.out.kept hw (.inl (by omega)))
  replace HX1 := Lib.hid (HX1.out.kept hw (.inl (by omega)))
  replace HW := Lib.hid (HW.out.trans hw)
  replace HC := Lib.hid hc
  clear hc hw
  have z_0_0 := HX0.out.cell (i := 0) rfl
  have z_0_1 := HX0.out.cell (i := 1) rfl
  have z_0_2 := HX0.out.cell (i := 2) rfl
  have z_1_0 := HX1.out.cell (i := 0) rfl
  have z_1_1 := HX1.out.cell (i := 1) rfl
  have lt_HX0 := HX0.out.lt
  have lt_HX1 := HX1.out.lt
  obtain ⟨V2, hV⟩ : ∃ V, V = u1.alloc (.cells #[.int .i64 P, .int .i64 Q, .int .i64 G] 39) := ⟨_, rfl⟩
  have hbV : Below u1.heap.size u1 V2 := by rw [hV]; (repeat (first | exact Below.refl _ _ | assumption | refine Below.drew ?_ | refine Below.alloc ?_ (by first | (simp; done) | (simp; omega)) _ | refine Below.setCell ?_ (by first | (simp; done) | (simp; omega)) _))
  have HZ1 : Hid (BoxN V2 u1.heap.size 39 [.int .i64 P, .int .i64 Q, .int .i64 G]) := by unfold Hid; rw [hV]; have h := (BoxN.new u1 [.int .i64 P, .int .i64 Q, .int .i64 G] 39); simpa using h
  have hgc : g < u1.heap.size := HC.out.lt
  go_wp2_with fail
  rw [← hV]
  have hsV2 : V2.heap.size = u1.heap.size + 1 := by rw [hV]; simp
  clear hV hgc
  replace HX0 := Lib.hid (HX0.out.below hbV)
  replace HX1 := Lib.hid (HX1.out.below hbV)
  replace HW := Lib.hid (HW.out.trans (Within.of_below hbV))
  replace HC := Lib.hid (HC.out.keep hbV)
  clear hbV
  clear z_0_0 z_0_1 z_0_2 z_1_0 z_1_1
  clear lt_HX0
  clear lt_HX1
  have z_0_0 := HX0.out.cell (i := 0) rfl
  have z_0_1 := HX0.out.cell (i := 1) rfl
  have z_0_2 := HX0.out.cell (i := 2) rfl
  have z_1_0 := HX1.out.cell (i := 0) rfl
  have z_1_1 := HX1.out.cell (i := 1) rfl
  have z_2_0 := HZ1.out.cell (i := 0) rfl
  have z_2_1 := HZ1.out.cell (i := 1) rfl
  have z_2_2 := HZ1.out.cell (i := 2) rfl
  refine wp_region_noPanic ?_
  refine wp_region_Q (Within g (g + 1)) (DrawS U V2 g _ 1000000000 (fun w' => w'.cell? ⟨u1.heap.size, 0, none⟩ = some (.int .i64 P) ∧ w'.cell? ⟨u1.heap.size, 1, none⟩ = some (.int .i64 Q) ∧ w'.cell? ⟨u1.heap.size, 2, none⟩ = some (.int .i64 G))) 20 [(0, []), (1, []), (2, []), (3, [1, 0]), (4, []), (5, []), (6, [1, 0]), (7, []), (8, []), (9, [1, 0]), (10, []), (11, []), (12, [1, 0])] [13, 14, 15, 16, 17] (by kernel_rfl) (by kernel_rfl) (by kernel_rfl) rfl (fun _ _ _ _ h => h) (DrawS.good _ _ _ _ _ _) ⟨(Within.refl _ _ _).drew, by simpa using HC.out.keep (Below.refl _ _).drew, ⟨box_at z_2_0 (Below.refl _ _).drew, box_at z_2_1 (Below.refl _ _).drew, box_at z_2_2 (Below.refl _ _).drew⟩⟩ ?_
  simp only [pickP, pickN, List.getElem?_cons_zero, List.getElem?_cons_succ]
  iterate 3 (refine' chainQ_read (DrawS.good _ _ _ _ _ _) _ rfl rfl (fun m w' hm' hS' => ?_) ?_; rotate_left; · (simp only [lookP, allP, Act.put, List.getElem?_cons_zero, List.getElem?_cons_succ, List.setIfInBounds_toArray, List.set_cons_zero, List.set_cons_succ]; (try dsimp only [DrawS] at hS'); go_simp; (try with_reducible rfl)))
  -- 3: call { callee := value (func 169), args := #[t15, t16], argTypes := #[167, 39] }
  refine chainQ_do (d := (some 17)) (fun v u => ∃ (hq3 : Int) (vq3 : Value) (lq3 : List Int), v = (.agg #[.int .i64 hq3, vq3]) ∧ ((-10 ≤ hq3 ∧ hq3 ≤ 2000000010) ∧ (Since V2.heap.size u (fun z => Ints z vq3 lq3) ∧ lq3.length ≤ 26))) (fun v w1 w2 hw h => by obtain ⟨z0, z1, z2, h3, h4⟩ := h; exact ⟨z0, z1, z2, h3, ⟨h4.1, (h4.2.1).within hw (by omega), h4.2.2⟩⟩) rfl rfl (fun m w' hm' hS' => ?_) ?_
  · simp only [lookP, allP, Act.put, List.getElem?_cons_zero, List.getElem?_cons_succ, List.setIfInBounds_toArray, List.set_cons_zero, List.set_cons_succ]
    intro K hK
    replace hm' : m < 13 := hm'
    go_simp
    go_at_call 169
    refine (spec_anyBases U g _ P Q G _ hS'.2.1 (hS'.1.belowOf (HW.out.belowOf HUC.out (Nat.le_of_eq HUS.out)) (by have := HUS.out; omega)) (by omega) HGR.out).mono ?_
    rintro e u ⟨⟨hq3, vq3, lq3, rfl, ⟨hq3l, hq3u⟩, hsq3, hlq3⟩, hc, hw⟩
    exact hK.out _ _ hw ⟨hS'.1.trans hw, hc.mono (by omega), ⟨within_at (hS'.1.trans hw) z_2_0 (.inr (by omega)), within_at (hS'.1.trans hw) z_2_1 (.inr (by omega)), within_at (hS'.1.trans hw) z_2_2 (.inr (by omega))⟩⟩ ⟨hq3, vq3, lq3, rfl, ⟨⟨hq3l, hq3u⟩, (hsq3.mono (by have := hS'.1.size; omega)), hlq3⟩⟩
  iterate 2 (refine' chainQ_read (DrawS.good _ _ _ _ _ _) _ rfl rfl (fun m w' hm' hS' => ?_) ?_; rotate_left; · (simp only [lookP, allP, Act.put, List.getElem?_cons_zero, List.getElem?_cons_succ, List.setIfInBounds_toArray, List.set_cons_zero, List.set_cons_succ]; (try dsimp only [DrawS] at hS'); go_simp; (try with_reducible rfl)))
  -- 6: call { callee := value (func 147), args := #[t18, t19], argTypes := #[167, 39] }
  refine chainQ_do (d := (some 20)) (fun v u => ∃ (xq6 : Int), v = (.int .i64 xq6) ∧ (-10 ≤ xq6 ∧ xq6 ≤ 2000000010)) (fun v w1 w2 hw h => h) rfl rfl (fun m w' hm' hS' => ?_) ?_
  · simp only [lookP, allP, Act.put, List.getElem?_cons_zero, List.getElem?_cons_succ, List.setIfInBounds_toArray, List.set_cons_zero, List.set_cons_succ]
    intro K hK
    replace hm' : m < 13 := hm'
    go_simp
    go_at_call 147
    refine (spec_anyExpo U g _ P Q G _ hS'.2.1 (hS'.1.belowOf (HW.out.belowOf HUC.out (Nat.le_of_eq HUS.out)) (by have := HUS.out; omega)) (by omega) HGR.out).mono ?_
    rintro e u ⟨⟨xq6, rfl, xq6l, xq6u⟩, hc, hw⟩
    exact hK.out _ _ hw ⟨hS'.1.trans hw, hc.mono (by omega), ⟨within_at (hS'.1.trans hw) z_2_0 (.inr (by omega)), within_at (hS'.1.trans hw) z_2_1 (.inr (by omega)), within_at (hS'.1.trans hw) z_2_2 (.inr (by omega))⟩⟩ ⟨xq6, rfl, ⟨xq6l, xq6u⟩⟩
  iterate 2 (refine' chainQ_read (DrawS.good _ _ _ _ _ _) _ rfl rfl (fun m w' hm' hS' => ?_) ?_; rotate_left; · (simp only [lookP, allP, Act.put, List.getElem?_cons_zero, List.getElem?_cons_succ, List.setIfInBounds_toArray, List.set_cons_zero, List.set_cons_succ]; (try dsimp only [DrawS] at hS'); go_simp; (try with_reducible rfl)))
  -- 9: call { callee := value (func 147), args := #[t21, t22], argTypes := #[167, 39] }
  refine chainQ_do (d := (some 23)) (fun v u => ∃ (xq9 : Int), v = (.int .i64 xq9) ∧ (-10 ≤ xq9 ∧ xq9 ≤ 2000000010)) (fun v w1 w2 hw h => h) rfl rfl (fun m w' hm' hS' => ?_) ?_
  · simp only [lookP, allP, Act.put, List.getElem?_cons_zero, List.getElem?_cons_succ, List.setIfInBounds_toArray, List.set_cons_zero, List.set_cons_succ]
    intro K hK
    replace hm' : m < 13 := hm'
    go_simp
    go_at_call 147
    refine (spec_anyExpo U g _ P Q G _ hS'.2.1 (hS'.1.belowOf (HW.out.belowOf HUC.out (Nat.le_of_eq HUS.out)) (by have := HUS.out; omega)) (by omega) HGR.out).mono ?_
    rintro e u ⟨⟨xq9, rfl, xq9l, xq9u⟩, hc, hw⟩
    exact hK.out _ _ hw ⟨hS'.1.trans hw, hc.mono (by omega), ⟨within_at (hS'.1.trans hw) z_2_0 (.inr (by omega)), within_at (hS'.1.trans hw) z_2_1 (.inr (by omega)), within_at (hS'.1.trans hw) z_2_2 (.inr (by omega))⟩⟩ ⟨xq9, rfl, ⟨xq9l, xq9u⟩⟩
  iterate 2 (refine' chainQ_read (DrawS.good _ _ _ _ _ _) _ rfl rfl (fun m w' hm' hS' => ?_) ?_; rotate_left; · (simp only [lookP, allP, Act.put, List.getElem?_cons_zero, List.getElem?_cons_succ, List.setIfInBounds_toArray, List.set_cons_zero, List.set_cons_succ]; (try dsimp only [DrawS] at hS'); go_simp; (try with_reducible rfl)))
  -- 12: call { callee := value (func 136), args := #[t24, t25, const (int i64 2)], argTypes := #[167, 39, 3] }
  refine chainQ_do (d := (some 26)) (fun v u => ∃ (vq12 : Value) (lq12 : List Int), v = vq12 ∧ (Since V2.heap.size u (fun z => Ints z vq12 lq12) ∧ lq12.length ≤ 1001)) (fun v w1 w2 hw h => by obtain ⟨z0, z1, h3, h4⟩ := h; exact ⟨z0, z1, h3, ⟨(h4.1).within hw (by omega), h4.2⟩⟩) rfl rfl (fun m w' hm' hS' => ?_) ?_
  · simp only [lookP, allP, Act.put, List.getElem?_cons_zero, List.getElem?_cons_succ, List.setIfInBounds_toArray, List.set_cons_zero, List.set_cons_succ]
    intro K hK
    replace hm' : m < 13 := hm'
    go_simp
    go_at_call 136
    refine (spec_anyCoins U g _ P Q G 2 _ hS'.2.1 (hS'.1.belowOf (HW.out.belowOf HUC.out (Nat.le_of_eq HUS.out)) (by have := HUS.out; omega)) (by omega) HGR.out (by omega)).mono ?_
    rintro e u ⟨⟨vq12, lq12, rfl, hsq12, hlq12⟩, hc, hw⟩
    exact hK.out _ _ hw ⟨hS'.1.trans hw, hc.mono (by omega), ⟨within_at (hS'.1.trans hw) z_2_0 (.inr (by omega)), within_at (hS'.1.trans hw) z_2_1 (.inr (by omega)), within_at (hS'.1.trans hw) z_2_2 (.inr (by omega))⟩⟩ ⟨vq12, lq12, rfl, ⟨(hsq12.mono (by have := hS'.1.size; omega)), by omega⟩⟩
  refine chainQ_nil (fun u3 hS' => ?_)
  simp only [allP, Act.put, List.setIfInBounds_toArray, List.set_cons_zero, List.set_cons_succ]
  intro x12 hx12
  intro x9 hx9
  intro x6 hx6
  intro x3 hx3
  replace hS' : DrawS U V2 g _ 1000000000 _ 13 u3 := hS'
  obtain ⟨hw, hc, hC⟩ := hS'
  obtain ⟨hq3, vq3, lq3, rfl, ⟨hq3l, hq3u⟩, hsq3, hlq3⟩ := hx3
  obtain ⟨xq6, rfl, xq6l, xq6u⟩ := hx6
  obtain ⟨xq9, rfl, xq9l, xq9u⟩ := hx9
  obtain ⟨vq12, lq12, rfl, hsq12, hlq12⟩ := hx12
  have hsz3 := hw.size
  replace HX0 := Lib.hid (HX0.out.kept hw (.inl (by omega)))
  replace HX1 := Lib.hid (HX1.out.kept hw (.inl (by omega)))
  replace HZ1 := Lib.hid (HZ1.out.kept hw (.inr (by omega)))
  replace HW := Lib.hid (HW.out.trans hw)
  replace HC := Lib.hid hc
  clear hc hw hC
  clear z_0_0 z_0_1 z_0_2 z_1_0 z_1_1 z_2_0 z_2_1 z_2_2
  have HLq3 := Lib.hid hsq3
  obtain ⟨aq3, nq3, cq3, rfl⟩ := hsq3.here.shape
  have hnq3 : nq3 ≤ 26 := by have h1 := hsq3.here.len; omega
  have HEq3 := Lib.hid hsq3.here.len
  clear hsq3
  have HLq12 := Lib.hid hsq12
  obtain ⟨aq12, nq12, cq12, rfl⟩ := hsq12.here.shape
  have hnq12 : nq12 ≤ 1001 := by have h1 := hsq12.here.len; omega
  have HEq12 := Lib.hid hsq12.here.len
  clear hsq12
  have r_HX0_0 := HX0.out.cell (i := 0) rfl
  have r_HX0_1 := HX0.out.cell (i := 1) rfl
  have r_HX0_2 := HX0.out.cell (i := 2) rfl
  have fr_HX0 := fun j => HX0.out.frozen j
  have r_HX1_0 := HX1.out.cell (i := 0) rfl
  have r_HX1_1 := HX1.out.cell (i := 1) rfl
  have fr_HX1 := fun j => HX1.out.frozen j
  go_wp2_with fail
  refine NoPanic.normal ?_
  have FHX0 := Lib.hid (((((HX0.out.set 0 (.int .i64 P)).set 1 (.int .i64 Q)).set 2 (.int .i64 G)).other (b' := w.heap.size + 1) (by omega) 0 (.int .i64 hq3)).other (b' := w.heap.size + 1) (by omega) 1 (.slice aq3 nq3 cq3))
  have FHX1 := Lib.hid (((((HX1.out.other (b' := w.heap.size) (by omega) 0 (.int .i64 P)).other (b' := w.heap.size) (by omega) 1 (.int .i64 Q)).other (b' := w.heap.size) (by omega) 2 (.int .i64 G)).set 0 (.int .i64 hq3)).set 1 (.slice aq3 nq3 cq3))
  clear r_HX0_0 r_HX0_1 r_HX0_2 fr_HX0 r_HX1_0 r_HX1_1 fr_HX1
  have t_HX0_0 := FHX0.out.cell (i := 0) rfl
  have t_HX0_1 := FHX0.out.cell (i := 1) rfl
  have t_HX0_2 := FHX0.out.cell (i := 2) rfl
  have t_HX1_0 := FHX1.out.cell (i := 0) rfl
  have t_HX1_1 := FHX1.out.cell (i := 1) rfl
  try (go_wp2_with fail)
  have HYS := Lib.hid ((((((Within.refl w.heap.size (w.heap.size + 2) u3).setCell (b := w.heap.size) (by omega) (by omega) 0 (.int .i64 P)).setCell (b := w.heap.size) (by omega) (by omega) 1 (.int .i64 Q)).setCell (b := w.heap.size) (by omega) (by omega) 2 (.int .i64 G)).setCell (b := w.heap.size + 1) (by omega) (by omega) 0 (.int .i64 hq3)).setCell (b := w.heap.size + 1) (by omega) (by omega) 1 (.slice aq3 nq3 cq3))
  refine bodyPost_ret (v := .tuple #[.agg #[.int .i64 P, .int .i64 Q, .int .i64 G], .agg #[.int .i64 hq3, .slice aq3 nq3 cq3], .int .i64 xq6, .int .i64 xq9, .slice aq12 nq12 cq12]) (by simp [results, Try.results77, go_sem, t_HX0_0, t_HX0_1, t_HX0_2, t_HX1_0, t_HX1_1]) rfl ⟨⟨_, _, _, _, _, _, _, _, _, _, rfl, HGR.out, ⟨⟨by omega, by omega⟩, (HLq3.out.within HYS.out (by omega)).here, by have := HEq3.out; omega⟩, ⟨by omega, by omega⟩, ⟨by omega, by omega⟩, ⟨(HLq12.out.within HYS.out (by omega)).here, by have := HEq12.out; omega⟩⟩, ((((((HW.out.belowOf HBW.out (by omega)).setCell (p := ⟨w.heap.size, 0, none⟩) (by show w.heap.size ≤ w.heap.size; omega) (.int .i64 P)).setCell (p := ⟨w.heap.size, 1, none⟩) (by show w.heap.size ≤ w.heap.size; omega) (.int .i64 Q)).setCell (p := ⟨w.heap.size, 2, none⟩) (by show w.heap.size ≤ w.heap.size; omega) (.int .i64 G)).setCell (p := ⟨w.heap.size + 1, 0, none⟩) (by show w.heap.size ≤ w.heap.size + 1; omega) (.int .i64 hq3)).setCell (p := ⟨w.heap.size + 1, 1, none⟩) (by show w.heap.size ≤ w.heap.size + 1; omega) (.slice aq3 nq3 cq3))⟩
end Go.Proofs.Ytboahnklilmdpaa
