/- Draws: dealings (printed by gen_drsh2.py). -/
import Derived.Test.YtegomgnlhcbmfaaDrShS
namespace Go.Proofs.Ytegomgnlhcbmfaa
open Go.RowKit
set_option linter.unusedSimpArgs false
set_option linter.unusedVariables false

/-- a dealing in rows of its own, apart -/
structure OwnD (w : World) (B : Nat) (x y : Value) (la lb : List Int) : Prop where
  oa : OwnI w B x la
  ob : OwnI w B y lb
  ne : ∀ k, x.ownBlock = some k → y.ownBlock ≠ some k
theorem OwnD.within {w w' : World} {B g : Nat} {x y : Value} {la lb : List Int} (h : OwnD w B x y la lb) (hw : Within g (g + 1) w w') (hg : g < B) : OwnD w' B x y la lb := ⟨h.oa.within hw hg, h.ob.within hw hg, h.ne⟩
theorem OwnD.below {w w' : World} {B : Nat} {x y : Value} {la lb : List Int} (h : OwnD w B x y la lb) (hb : Below w.heap.size w w') : OwnD w' B x y la lb := ⟨h.oa.below hb, h.ob.below hb, h.ne⟩
theorem OwnD.mono {w : World} {B B' : Nat} {x y : Value} {la lb : List Int} (h : OwnD w B x y la lb) (hB : B' ≤ B) : OwnD w B' x y la lb := ⟨h.oa.mono hB, h.ob.mono hB, h.ne⟩
theorem OwnD.other {w : World} {B b : Nat} {x y : Value} {la lb : List Int} (h : OwnD w B x y la lb) (hb : b < B) (j : Nat) (z : Value) : OwnD (w.setCell ⟨b, j, none⟩ z) B x y la lb := ⟨h.oa.other hb j z, h.ob.other hb j z, h.ne⟩
theorem OwnD.lits (u : World) : OwnD ((u.alloc (.cells #[.int .i64 1] 3)).alloc (.cells #[.int .i64 0] 3)) u.heap.size (.slice (some ⟨u.heap.size, 0, none⟩) 1 1) (.slice (some ⟨u.heap.size + 1, 0, none⟩) 1 1) [1] [0] := by
  have h1 : (u.alloc (.cells #[.int .i64 1] 3)).heap.size = u.heap.size + 1 := by simp
  refine ⟨(OwnI.lit u (Nat.le_refl _) (l := [1]) (AllI64.cons ⟨by decide, by decide⟩ AllI64.nil) rfl (by simp [maxLen]) 1 rfl).below ((Below.refl _ _).alloc (Nat.le_refl _) _), ?_, ?_⟩
  · have h := OwnI.lit (B := u.heap.size) (u.alloc (.cells #[.int .i64 1] 3)) (by simp) (l := [0]) (AllI64.cons ⟨by decide, by decide⟩ AllI64.nil) rfl (by simp [maxLen]) 1 rfl
    rw [h1] at h; exact h
  · intro k e1 e2
    have h1 : u.heap.size = k := by injection e1
    have h2 : u.heap.size + 1 = k := by injection e2
    omega
theorem spec_sDealZ (gr : GroupD) (cv : Value) (cs : List Int) (n : Nat) (z : Int) (w : World) (hz : z = (n : Int)) (hg : OkG gr) (hcs : Ints w cv cs) (hel : ∀ y ∈ cs, 0 ≤ y ∧ y ≤ 2000000010) (hn : n ≤ 1000) (hl : cs.length ≤ 1000) :
    Calls Try.prog 131 #[.agg #[.int .i64 gr.p, .int .i64 gr.q, .int .i64 gr.g], cv, .int .i64 z] w fun e w' => (∃ x y, e = .returned (.agg #[x, y]) ∧ OwnI w' w.heap.size x (dcL gr cs cs.length) ∧ OwnI w' w.heap.size y (dsL gr cs n) ∧ ∀ k, x.ownBlock = some k → y.ownBlock ≠ some k) ∧ Below w.heap.size w w' := by
  subst hz; exact spec_sDeal gr cv cs n w hg hcs hel hn hl
set_option maxRecDepth 100000 in
set_option maxHeartbeats 4000000 in
theorem spec_dealing (w0 : World) (g : Nat) (n P Q G : Int) (w : World) (h : Cur w0 w g n) (hb : Below w0.heap.size w0 w) (hn : n ≤ 500000000000000) (hgr : GrB ⟨P, Q, G⟩) :
    Calls Try.prog 203 #[.pointer (some ⟨g, 0, none⟩), .agg #[.int .i64 P, .int .i64 Q, .int .i64 G]] w fun e w' => (∃ (vr0a : Value) (vr0b : Value) (lr0a : List Int) (lr0b : List Int), e = .returned (.agg #[vr0a, vr0b]) ∧ (OwnD w' w.heap.size vr0a vr0b lr0a lr0b ∧ (1 ≤ lr0a.length ∧ lr0a.length ≤ 7) ∧ (1 ≤ lr0b.length ∧ lr0b.length ≤ 7))) ∧ Cur w0 w' g (n + 200000) ∧ Within g (g + 1) w w' := by
  have HGR := Lib.hid hgr
  have HBB := Lib.hid hb
  have hge := h.ge
  have hgw := h.lt
  clear hgr hb
  obtain ⟨W, hW⟩ : ∃ W, W = (w.alloc (.cells #[.int .i64 P, .int .i64 Q, .int .i64 G] 24)).alloc (.cells #[(.slice none 0 0), (.slice none 0 0)] 66) := ⟨_, rfl⟩
  have hbW : Below w.heap.size w W := by rw [hW]; (repeat (first | exact Below.refl _ _ | assumption | refine Below.drew ?_ | refine Below.alloc ?_ (by first | (simp; done) | (simp; omega)) _ | refine Below.setCell ?_ (by first | (simp; done) | (simp; omega)) _))
  have HZg : Hid (BoxN W w.heap.size 24 [.int .i64 P, .int .i64 Q, .int .i64 G]) := by unfold Hid; rw [hW]; have h := ((BoxN.new w [.int .i64 P, .int .i64 Q, .int .i64 G] 24).alloc (.cells #[(.slice none 0 0), (.slice none 0 0)] 66)); simpa using h
  have HX0 : Hid (BoxN W (w.heap.size + 1) 66 [(.slice none 0 0), (.slice none 0 0)]) := by unfold Hid; rw [hW]; have h := (BoxN.new (w.alloc (.cells #[.int .i64 P, .int .i64 Q, .int .i64 G] 24)) [(.slice none 0 0), (.slice none 0 0)] 66); simpa using h
  have hsW : W.heap.size = w.heap.size + 2 := by rw [hW]; simp
  have HC := Lib.hid (h.keep hbW)
  have HWw := Lib.hid (Within.of_below hbW : Within g (g + 1) w W)
  have HBW : Hid (Below w0.heap.size w0 W) := HBB.out.trans (hbW.mono HBB.out.size)
  clear h
  go_enter Try.func203, Try.ntmps203
  go_wp2_with fail
  rw [← hW]
  have HW := Lib.hid (Within.refl g (g + 1) W)
  clear hW hbW
  have z_0_0 := HZg.out.cell (i := 0) rfl
  have z_0_1 := HZg.out.cell (i := 1) rfl
  have z_0_2 := HZg.out.cell (i := 2) rfl
  have z_1_0 := HX0.out.cell (i := 0) rfl
  have z_1_1 := HX0.out.cell (i := 1) rfl
  try (go_wp2_with fail)
  clear z_0_0 z_0_1 z_0_2 z_1_0 z_1_1
  refine (spec_pick w0 g _ 5 _ HC.out (HW.out.belowOf HBW.out hge) (by omega) ).mono ?_
  rintro e u1 ⟨⟨x1, rfl, x1l, x1u, x1m, _⟩, hc, hw⟩
  replace x1m := x1m (by omega)
  obtain ⟨j1, rfl⟩ := Int.eq_ofNat_of_zero_le x1l
  replace x1m : j1 < 5 := by omega
  clear x1l x1u
  have hsz1 := hw.size
  replace HZg := Lib.hid (HZg.out.kept hw (.inr (by omega)))
  replace HX0 := Lib.hid (HX0.out.kept hw (.inr (by omega)))
  replace HW := Lib.hid (HW.out.trans hw)
  replace HC := Lib.hid hc
  clear hc hw
  have ew1 : IntKind.i64.wrap (1 + (j1 : Int)) = 1 + (j1 : Int) := IntWalk.i64_in _ (by omega)
  have z_0_0 := HZg.out.cell (i := 0) rfl
  have z_0_1 := HZg.out.cell (i := 1) rfl
  have z_0_2 := HZg.out.cell (i := 2) rfl
  have z_1_0 := HX0.out.cell (i := 0) rfl
  have z_1_1 := HX0.out.cell (i := 1) rfl
  try (go_wp2_with fail)
  clear z_0_0 z_0_1 z_0_2 z_1_0 z_1_1
  refine (spec_sGroup ⟨P, Q, G⟩ _).mono ?_
  rintro e u2 ⟨rfl, hb⟩
  obtain ⟨q2, hq2⟩ : ∃ r, shG ⟨P, Q, G⟩ = r := ⟨_, rfl⟩
  have Hq2 := Lib.hid hq2
  rw [hq2]
  clear hq2
  have hsz2 := hb.size
  replace HZg := Lib.hid (HZg.out.below hb)
  replace HX0 := Lib.hid (HX0.out.below hb)
  replace HW := Lib.hid (HW.out.trans (Within.of_below hb))
  replace HC := Lib.hid (HC.out.keep hb)
  clear hb
  cases q2 with
  | false =>
    have z_0_0 := HZg.out.cell (i := 0) rfl
    have z_0_1 := HZg.out.cell (i := 1) rfl
    have z_0_2 := HZg.out.cell (i := 2) rfl
    have r0 := fun o1 o2 => ((HX0.out.alloc o1).alloc o2).cell (i := 0) rfl
    have r1 := fun o1 o2 => ((HX0.out.alloc o1).alloc o2).cell (i := 1) rfl
    have fr := fun o1 o2 j => ((HX0.out.alloc o1).alloc o2).frozen j
    obtain ⟨V, hV⟩ : ∃ V, V = (u2.alloc (.cells #[.int .i64 1] 3)).alloc (.cells #[.int .i64 0] 3) := ⟨_, rfl⟩
    have hbV : Below u2.heap.size u2 V := by rw [hV]; (repeat (first | exact Below.refl _ _ | assumption | refine Below.drew ?_ | refine Below.alloc ?_ (by first | (simp; done) | (simp; omega)) _ | refine Below.setCell ?_ (by first | (simp; done) | (simp; omega)) _))
    have HOD : Hid (OwnD V u2.heap.size (.slice (some ⟨u2.heap.size, 0, none⟩) 1 1) (.slice (some ⟨u2.heap.size + 1, 0, none⟩) 1 1) [1] [0]) := by unfold Hid; rw [hV]; exact OwnD.lits u2
    have HLD : Hid ((1 ≤ ([1] : List Int).length ∧ ([1] : List Int).length ≤ 7) ∧ (1 ≤ ([0] : List Int).length ∧ ([0] : List Int).length ≤ 7)) := ⟨⟨by decide, by decide⟩, ⟨by decide, by decide⟩⟩
    have hub : w.heap.size + 1 < u2.heap.size := HX0.out.lt
    have HX9 := Lib.hid (HX0.out.below hbV)
    go_wp2_with fail
    rw [← hV]
    replace HW := Lib.hid (HW.out.trans (Within.of_below hbV))
    replace HC := Lib.hid (HC.out.keep hbV)
    clear r0 r1 fr hV hbV z_0_0 z_0_1 z_0_2
    have FHX0 := Lib.hid ((HX9.out.set 0 (.slice (some ⟨u2.heap.size, 0, none⟩) 1 1)).set 1 (.slice (some ⟨u2.heap.size + 1, 0, none⟩) 1 1))
    have t_HX0_0 := FHX0.out.cell (i := 0) rfl
    have t_HX0_1 := FHX0.out.cell (i := 1) rfl
    try (go_wp2_with fail)
    refine bodyPost_ret (v := .agg #[.slice (some ⟨u2.heap.size, 0, none⟩) 1 1, .slice (some ⟨u2.heap.size + 1, 0, none⟩) 1 1]) (by simp [results, Try.results203, go_sem, t_HX0_0, t_HX0_1]) rfl ⟨⟨_, _, _, _, rfl, ((HOD.out.other (b := w.heap.size + 1) (by omega) 0 (.slice (some ⟨u2.heap.size, 0, none⟩) 1 1)).other (b := w.heap.size + 1) (by omega) 1 (.slice (some ⟨u2.heap.size + 1, 0, none⟩) 1 1)).mono (by omega), HLD.out⟩, ((HC.out.setNew (b := w.heap.size + 1) (by omega) 0 (.slice (some ⟨u2.heap.size, 0, none⟩) 1 1)).setNew (b := w.heap.size + 1) (by omega) 1 (.slice (some ⟨u2.heap.size + 1, 0, none⟩) 1 1)).mono (by omega), (((HWw.out.trans HW.out).setNew (b := w.heap.size + 1) (by omega) 0 (.slice (some ⟨u2.heap.size, 0, none⟩) 1 1)).setNew (b := w.heap.size + 1) (by omega) 1 (.slice (some ⟨u2.heap.size + 1, 0, none⟩) 1 1))⟩
  | true =>
    have z_0_0 := HZg.out.cell (i := 0) rfl
    have z_0_1 := HZg.out.cell (i := 1) rfl
    have z_0_2 := HZg.out.cell (i := 2) rfl
    have z_1_0 := HX0.out.cell (i := 0) rfl
    have z_1_1 := HX0.out.cell (i := 1) rfl
    try (go_wp2_with fail)
    clear z_0_0 z_0_1 z_0_2 z_1_0 z_1_1
    have HG := Lib.hid (shG_ok Hq2.out)
    have hgb : g < u2.heap.size := HC.out.lt
    have hub : w.heap.size + 1 < u2.heap.size := HX0.out.lt
    obtain ⟨N, hN⟩ : ∃ N : Nat, (N : Int) = 1 + ((j1 : Nat) : Int) ∧ 1 ≤ N ∧ N ≤ 5 := ⟨1 + j1, by omega, by omega, by omega⟩
    obtain ⟨hN, hN1, hN5⟩ := hN
    have z_0_0 := HZg.out.cell (i := 0) rfl
    have z_0_1 := HZg.out.cell (i := 1) rfl
    have z_0_2 := HZg.out.cell (i := 2) rfl
    have z_1_0 := HX0.out.cell (i := 0) rfl
    have z_1_1 := HX0.out.cell (i := 1) rfl
    try (go_wp2_with fail)
    refine wp_region_noPanic ?_
    refine wp_region_Q (Within g (g + 1)) (DrawS w0 u2 g _ 10000 (fun w' => w'.cell? ⟨w.heap.size, 0, none⟩ = some (.int .i64 P) ∧ w'.cell? ⟨w.heap.size, 1, none⟩ = some (.int .i64 Q) ∧ w'.cell? ⟨w.heap.size, 2, none⟩ = some (.int .i64 G))) 13 [(0, []), (1, []), (2, []), (3, []), (4, []), (5, [1, 0]), (6, [0]), (7, [5, 4, 0]), (8, []), (9, [8, 1, 0])] [10] (by kernel_rfl) (by kernel_rfl) (by kernel_rfl) rfl (fun _ _ _ _ h => h) (DrawS.good _ _ _ _ _ _) ⟨(Within.refl _ _ _).drew, by simpa using HC.out.keep (Below.refl _ _).drew, ⟨box_at z_0_0 (Below.refl _ _).drew, box_at z_0_1 (Below.refl _ _).drew, box_at z_0_2 (Below.refl _ _).drew⟩⟩ ?_
    simp only [pickP, pickN, List.getElem?_cons_zero, List.getElem?_cons_succ]
    iterate 5 (refine' chainQ_read (DrawS.good _ _ _ _ _ _) _ rfl rfl (fun m w' hm' hS' => ?_) ?_; rotate_left; · (simp only [lookP, allP, Act.put, List.getElem?_cons_zero, List.getElem?_cons_succ, List.setIfInBounds_toArray, List.set_cons_zero, List.set_cons_succ]; (try dsimp only [DrawS] at hS'); go_simp; (try with_reducible rfl)))
    -- 5: call { callee := value (func 95), args := #[t18, t19], argTypes := #[104, 3] }
    refine chainQ_do (d := (some 20)) (fun v z => ∃ j : Nat, v = .int .i64 (j : Int) ∧ j < N) (fun v w1 w2 hw h => h) rfl rfl (fun m w' hm' hS' => ?_) ?_
    · simp only [lookP, allP, Act.put, List.getElem?_cons_zero, List.getElem?_cons_succ, List.setIfInBounds_toArray, List.set_cons_zero, List.set_cons_succ]
      intro K hK
      replace hm' : m < 10 := hm'
      go_simp
      go_at_call 95
      refine (spec_pick w0 g _ (1 + (j1 : Int)) _ hS'.2.1 (hS'.1.belowOf (HW.out.belowOf HBW.out hge) hge) (by omega)).mono ?_
      rintro e z ⟨⟨x, rfl, x0, _, xm, _⟩, hc, hw⟩
      obtain ⟨j, rfl⟩ := Int.eq_ofNat_of_zero_le x0
      replace xm := xm (by omega)
      exact hK.out _ _ hw ⟨hS'.1.trans hw, hc.mono (by omega), ⟨within_at (hS'.1.trans hw) z_0_0 (.inr (by omega)), within_at (hS'.1.trans hw) z_0_1 (.inr (by omega)), within_at (hS'.1.trans hw) z_0_2 (.inr (by omega))⟩⟩ ⟨j, rfl, by omega⟩
    -- 6: binOp Binadd 3 (const (int i64 1)) t20 3
    refine chainQ_have (DrawS.good _ _ _ _ _ _) (d := (some 21)) (fun v z => ∃ j : Nat, v = .int .i64 (j : Int) ∧ 1 ≤ j ∧ j ≤ N) (fun v w1 w2 hw h => h) rfl rfl (fun m w' hm' hS' => ?_) ?_
    · simp only [lookP, allP, Act.put, List.getElem?_cons_zero, List.getElem?_cons_succ, List.setIfInBounds_toArray, List.set_cons_zero, List.set_cons_succ]
      intro x5 hx5
      obtain ⟨j, rfl, hj⟩ := hx5
      have ewj : IntKind.i64.wrap (1 + (j : Int)) = ((j + 1 : Nat) : Int) := by rw [show (1 : Int) + j = ((j + 1 : Nat) : Int) by omega]; exact IntWalk.i64_in _ (by omega)
      refine ⟨.int .i64 ((j + 1 : Nat) : Int), ?_, j + 1, rfl, by omega, by omega⟩
      go_simp
    -- 7: call { callee := value (func 132), args := #[t16, t17, t21], argTypes := #[104, 24, 3] }
    refine chainQ_do (d := (some 22)) (fun v z => ∃ (a : Option Addr) (c m : Nat) (l : List Int), v = .slice a m c ∧ OwnI z u2.heap.size (.slice a m c) l ∧ l.length = m ∧ (1 ≤ m ∧ m ≤ N) ∧ ∀ x ∈ l, 0 ≤ x ∧ x ≤ 2000000010) (fun v w1 w2 hw h => by obtain ⟨a, c, m, l, e, h1, h2, h3, h4⟩ := h; exact ⟨a, c, m, l, e, h1.within hw (by omega), h2, h3, h4⟩) rfl rfl (fun m w' hm' hS' => ?_) ?_
    · simp only [lookP, allP, Act.put, List.getElem?_cons_zero, List.getElem?_cons_succ, List.setIfInBounds_toArray, List.set_cons_zero, List.set_cons_succ]
      intro x6 hx6
      intro K hK
      replace hm' : m < 10 := hm'
      obtain ⟨j, rfl, hj1, hj2⟩ := hx6
      go_simp
      go_at_call 132
      refine (spec_coins w0 g _ P Q G j _ hS'.2.1 (hS'.1.belowOf (HW.out.belowOf HBW.out hge) hge) (by omega) HGR.out (by omega)).mono ?_
      rintro e z ⟨⟨v, l, rfl, ho, hl, hx⟩, hc, hw⟩
      obtain ⟨a, c, rfl⟩ := ho.shapeN hl
      have hsz0 := hS'.1.size
      exact hK.out _ _ hw ⟨hS'.1.trans hw, hc.mono (by omega), ⟨within_at (hS'.1.trans hw) z_0_0 (.inr (by omega)), within_at (hS'.1.trans hw) z_0_1 (.inr (by omega)), within_at (hS'.1.trans hw) z_0_2 (.inr (by omega))⟩⟩ ⟨a, c, j, l, rfl, ho.mono (by omega), hl, ⟨hj1, hj2⟩, hx⟩
    -- 8: move t5
    refine' chainQ_read (DrawS.good _ _ _ _ _ _) (d := (some 23)) _ rfl rfl (fun m w' hm' hS' => ?_) ?_; rotate_left
    · simp only [lookP, allP, Act.put, List.getElem?_cons_zero, List.getElem?_cons_succ, List.setIfInBounds_toArray, List.set_cons_zero, List.set_cons_succ]
      (try dsimp only [DrawS] at hS')
      go_simp
      (try with_reducible rfl)
    -- 9: call { callee := value (func 131), args := #[t15, t22, t23], argTypes := #[24, 43, 3] }
    refine chainQ_do (d := (some 24)) (fun v z => ∃ (xa : Option Addr) (xc xn : Nat) (ya : Option Addr) (yc yn : Nat) (la lb : List Int), v = .agg #[.slice xa xn xc, .slice ya yn yc] ∧ OwnD z u2.heap.size (.slice xa xn xc) (.slice ya yn yc) la lb ∧ (1 ≤ la.length ∧ la.length ≤ 7) ∧ (1 ≤ lb.length ∧ lb.length ≤ 7)) (fun v w1 w2 hw h => by obtain ⟨xa, xc, xn, ya, yc, yn, la, lb, e, h1, h2⟩ := h; exact ⟨xa, xc, xn, ya, yc, yn, la, lb, e, h1.within hw (by omega), h2⟩) rfl rfl (fun m w' hm' hS' => ?_) ?_
    · simp only [lookP, allP, Act.put, List.getElem?_cons_zero, List.getElem?_cons_succ, List.setIfInBounds_toArray, List.set_cons_zero, List.set_cons_succ]
      intro x7 hx7
      intro K hK
      replace hm' : m < 10 := hm'
      obtain ⟨a, c, m, l, rfl, ho, hl, hm, hx⟩ := hx7
      go_simp
      go_at_call 131
      refine (spec_sDealZ ⟨P, Q, G⟩ _ l N (1 + (j1 : Int)) _ hN.symm HG.out ho.ints hx (by omega) (by omega)).mono ?_
      rintro e z ⟨⟨x, y, rfl, o1, o2, hne⟩, hbz⟩
      have hsz0 := hS'.1.size
      have hw := (Within.of_below hbz : Within g (g + 1) _ _)
      obtain ⟨xa, xc, rfl⟩ := o1.shape
      obtain ⟨ya, yc, rfl⟩ := o2.shape
      exact hK.out _ _ hw ⟨hS'.1.trans hw, (hS'.2.1.keep hbz).mono (by omega), ⟨within_at (hS'.1.trans hw) z_0_0 (.inr (by omega)), within_at (hS'.1.trans hw) z_0_1 (.inr (by omega)), within_at (hS'.1.trans hw) z_0_2 (.inr (by omega))⟩⟩ ⟨xa, xc, _, ya, yc, _, _, _, rfl, ⟨o1.mono (by omega), o2.mono (by omega), hne⟩, by rw [dcL_len]; omega, by rw [dsL_len]; omega⟩
    refine chainQ_nil (fun u3 hS' => ?_)
    simp only [allP, Act.put, List.setIfInBounds_toArray, List.set_cons_zero, List.set_cons_succ]
    intro x9 hx9
    intro x7 hx7
    intro x6 hx6
    intro x5 hx5
    replace hS' : DrawS w0 u2 g _ 10000 _ 10 u3 := hS'
    obtain ⟨hw, hc, hC⟩ := hS'
    have hsz3 := hw.size
    replace HZg := Lib.hid (HZg.out.kept hw (.inr (by omega)))
    replace HX0 := Lib.hid (HX0.out.kept hw (.inr (by omega)))
    replace HW := Lib.hid (HW.out.trans hw)
    replace HC := Lib.hid hc
    clear hc hw hC
    clear z_0_0 z_0_1 z_0_2 z_1_0 z_1_1
    clear hx5 hx6 hx7
    obtain ⟨xa, xc, xn, ya, yc, yn, la, lb, rfl, hod, hld⟩ := hx9
    have HOD := Lib.hid hod
    have HLD := Lib.hid hld
    clear hod hld
    have r_HX0_0 := HX0.out.cell (i := 0) rfl
    have r_HX0_1 := HX0.out.cell (i := 1) rfl
    have fr_HX0 := fun j => HX0.out.frozen j
    go_wp2_with fail
    refine NoPanic.normal ?_
    have FHX0 := Lib.hid ((HX0.out.set 0 (.slice xa xn xc)).set 1 (.slice ya yn yc))
    clear r_HX0_0 r_HX0_1 fr_HX0
    have t_HX0_0 := FHX0.out.cell (i := 0) rfl
    have t_HX0_1 := FHX0.out.cell (i := 1) rfl
    try (go_wp2_with fail)
    refine bodyPost_ret (v := .agg #[.slice xa xn xc, .slice ya yn yc]) (by simp [results, Try.results203, go_sem, t_HX0_0, t_HX0_1]) rfl ⟨⟨_, _, _, _, rfl, ((HOD.out.other (b := w.heap.size + 1) (by omega) 0 (.slice xa xn xc)).other (b := w.heap.size + 1) (by omega) 1 (.slice ya yn yc)).mono (by omega), HLD.out⟩, ((HC.out.setNew (b := w.heap.size + 1) (by omega) 0 (.slice xa xn xc)).setNew (b := w.heap.size + 1) (by omega) 1 (.slice ya yn yc)).mono (by omega), (((HWw.out.trans HW.out).setNew (b := w.heap.size + 1) (by omega) 0 (.slice xa xn xc)).setNew (b := w.heap.size + 1) (by omega) 1 (.slice ya yn yc))⟩
end Go.Proofs.Ytegomgnlhcbmfaa
