/- Draws: dealings (printed by gen_drsh2.py). -/
import Derived.Test.YtacpnphfopmofaaGreatDrShR
import Derived.Test.YtacpnphfopmofaaGreatFindRR
import Derived.Test.YtacpnphfopmofaaGreatBmR
import Derived.Test.YtacpnphfopmofaaGreatBaR
import Derived.Test.YtacpnphfopmofaaGreatSh2R
import Derived.Test.YtacpnphfopmofaaGreatPow2R
namespace Go.Proofs.YtacpnphfopmofaaGreat
open Go.RowKit
set_option linter.unusedSimpArgs false
set_option linter.unusedVariables false

/-- a dealing in rows of its own, apart -/
structure OwnD (w : World) (B : Nat) (x y : Value) (la lb : List Int) : Prop where
  oa : OwnI w B x la
  ob : OwnI w B y lb
  ne : ∀ k, x.ownBlock = some k → y.ownBlock ≠ some k
theorem OwnD.within {w w' : World} {B g : Nat} {x y : Value} {la lb : List Int} (h : OwnD w B x y la lb) (hw : Within g (g + 1) w w') (hg : g < B) : OwnD w' B x y la lb := ⟨h.oa.within hw hg, h.ob.within hw hg, h.ne⟩
theorem OwnD.below {w w' : World} {B : Nat} {x y : Value} {la lb : List Int} (h : OwnD w B x y la lb) (hb : Below w.heap.size w w') : OwnD w' B x y la lb := ⟨h.oa.below hb, h.ob.below hb, h.ne⟩
theorem OwnD.mono {w : World} {B B' : Nat} {x y : Value} {la lb : List Int} (h : OwnD w B x y la lb) (hB : B' ≤ B) : OwnD w B' x y la lb := ⟨h.oa.mono hB, h.ob.mono hB, h.ne⟩
theorem OwnD.other {w : World} {B b : Nat} {x y : Value} {la lb : List Int} (h : OwnD w B x y la lb) (hb : b < B) (j : Nat) (z : Value) : OwnD (w.setCell ⟨b, j, none⟩ z) B x y la lb := ⟨h.oa.other hb j z, h.ob.other hb j z, h.ne⟩
theorem OwnD.lits (u : World) : OwnD ((u.alloc (.cells #[.int .i64 1] 3)).alloc (.cells #[.int .i64 0] 3)) u.heap.size (.slice (some ⟨u.heap.size, 0, none⟩) 1 1) (.slice (some ⟨u.heap.size + 1, 0, none⟩) 1 1) [1] [0] := by
  have h1 : (u.alloc (.cells #[.int .i64 1] 3)).heap.size = u.heap.size + 1 := by simp
  refine ⟨(OwnI.lit u (Nat.le_refl _) (l := [1]) (AllI64.cons ⟨by decide, by decide⟩ AllI64.nil) rfl (by simp [maxLen]) 1 rfl).below ((Below.refl _ _).alloc (Nat.le_refl _) _), ?_, ?_⟩
  · have h := OwnI.lit (B := u.heap.size) (u.alloc (.cells #[.int .i64 1] 3)) (by simp) (l := [0]) (AllI64.cons ⟨by decide, by decide⟩ AllI64.nil) rfl (by simp [maxLen]) 1 rfl
    rw [h1] at h; exact h
  · intro k e1 e2
    have h1 : u.heap.size = k := by injection e1
    have h2 : u.heap.size + 1 = k := by injection e2
    omega
theorem spec_sDealZ (gr : GroupD) (cv : Value) (cs : List Int) (n : Nat) (z : Int) (w : World) (hz : z = (n : Int)) (hg : OkG gr) (hcs : Ints w cv cs) (hel : ∀ y ∈ cs, 0 ≤ y ∧ y ≤ 2000000010) (hn : n ≤ 1000) (hl : cs.length ≤ 1000) :
    Calls Tryz.prog 47 #[.agg #[.int .i64 gr.p, .int .i64 gr.q, .int .i64 gr.g], cv, .int .i64 z] w fun e w' => (∃ x y, e = .returned (.agg #[x, y]) ∧ OwnI w' w.heap.size x (dcL gr cs cs.length) ∧ OwnI w' w.heap.size y (dsL gr cs n) ∧ ∀ k, x.ownBlock = some k → y.ownBlock ≠ some k) ∧ Below w.heap.size w w' := by
  subst hz; exact spec_sDeal gr cv cs n w hg hcs hel hn hl
set_option maxRecDepth 100000 in
set_option maxHeartbeats 4000000 in
theorem spec_dealing (w0 : World) (g : Nat) (n P Q G : Int) (w : World) (h : Cur w0 w g n) (hb : Below w0.heap.size w0 w) (hn : n ≤ 500000000000000) (hgr : GrB ⟨P, Q, G⟩) :
    Calls Tryz.prog 76 #[.pointer (some ⟨g, 0, none⟩), .agg #[.int .i64 P, .int .i64 Q, .int .i64 G]] w fun e w' => (∃ (vr0a : Value) (vr0b : Value) (lr0a : List Int) (lr0b : List Int), e = .returned (.agg #[vr0a, vr0b]) ∧ (OwnD w' w.heap.size vr0a vr0b lr0a lr0b ∧ (1 ≤ lr0a.length ∧ lr0a.length ≤ 7) ∧ (1 ≤ lr0b.length ∧ lr0b.length ≤ 7))) ∧ Cur w0 w' g (n + 200000) ∧ Within g (g + 1) w w' := by
  have HGR := Lib.hid hgr
  have HBB := Lib.hid hb
  have hge := h.ge
  have hgw := h.lt
  clear hgr hb
  obtain ⟨W, hW⟩ : ∃ W, W = (w.alloc (.cells #[.int .i64 P, .int .i64 Q, .int .i64 G] 24)).alloc (.cells #[(.slice none 0 0), (.slice none 0 0)] 61) := ⟨_, rfl⟩
  have hbW : Below w.heap.size w W := by rw [hW]; (repeat (first | exact Below.refl _ _ | assumption | refine Below.drew ?_ | refine Below.alloc ?_ (by first | (simp; done) | (simp; omega)) _ | refine Below.setCell ?_ (by first | (simp; done) | (simp; omega)) _))
  have HZg : Hid (BoxN W w.heap.size 24 [.int .i64 P, .int .i64 Q, .int .i64 G]) := by unfold Hid; rw [hW]; have h := ((BoxN.new w [.int .i64 P, .int .i64 Q, .int .i64 G] 24).alloc (.cells #[(.slice none 0 0), (.slice none 0 0)] 61)); simpa using h
  have HX0 : Hid (BoxN W (w.heap.size + 1) 61 [(.slice none 0 0), (.slice none 0 0)]) := by unfold Hid; rw [hW]; have h := (BoxN.new (w.alloc (.cells #[.int .i64 P, .int .i64 Q, .int .i64 G] 24)) [(.slice none 0 0), (.slice none 0 0)] 61); simpa using h
  have hsW : W.heap.size = w.heap.size + 2 := by rw [hW]; simp
  have HC := Lib.hid (h.keep hbW)
  have HWw := Lib.hid (Within.of_below hbW : Within g (g + 1) w W)
  have HBW : Hid (Below w0.heap.size w0 W) := HBB.out.trans (hbW.mono HBB.out.size)
  clear h
  go_enter Tryz.func76, Tryz.ntmps76
  go_wp2_with fail
  rw [← hW]
  have HW := Lib.hid (Within.refl g (g + 1) W)
  clear hW hbW
  have z_0_0 := HZg.out.cell (i := 0) rfl
  have z_0_1 := HZg.out.cell (i := 1) rfl
  have z_0_2 := HZg.out.cell (i := 2) rfl
  have z_1_0 := HX0.out.cell (i := 0) rfl
  have z_1_1 := HX0.out.cell (i := 1) rfl
  try (go_wp2_with fail)
  clear z_0_0 z_0_1 z_0_2 z_1_0 z_1_1
  refine (spec_pick w0 g _ 5 _ HC.out (HW.out.belowOf HBW.out hge) (by omega) ).mono ?_
  rintro e u1 ⟨⟨x1, rfl, x1l, x1u, x1m, _⟩, hc, hw⟩
  replace x1m := x1m (by omega)
  obtain ⟨j1, rfl⟩ := Int.eq_ofNat_of_zero_le x1l
  replace x1m : j1 < 5 := by omega
  clear x1l x1u
  have hsz1 := hw.size
  replace HZg := Lib.hid (HZg.out.kept hw (.inr (by omega)))
  replace HX0 := Lib.hid (HX0.out.kept hw (.inr (by omega)))
  replace HW := Lib.hid (HW.out.trans hw)
  replace HC := Lib.hid hc
  clear hc hw
  have ew1 : IntKind.i64.wrap (1 + (j1 : Int)) = 1 + (j1 : Int) := IntWalk.i64_in _ (by omega)
  have z_0_0 := HZg.out.cell (i := 0) rfl
  have z_0_1 := HZg.out.cell (i := 1) rfl
  have z_0_2 := HZg.out.cell (i := 2) rfl
  have z_1_0 := HX0.out.cell (i := 0) rfl
  have z_1_1 := HX0.out.cell (i := 1) rfl
  try (go_wp2_with fail)
  clear z_0_0 z_0_1 z_0_2 z_1_0 z_1_1
  refine (spec_sGroup ⟨P, Q, G⟩ _).mono ?_
  rintro e u2 ⟨rfl, hb⟩
  obtain ⟨q2, hq2⟩ : ∃ r, shG ⟨P, Q, G⟩ = r := ⟨_, rfl⟩
  have Hq2 := Lib.hid hq2
  rw [hq2]
  clear hq2
  have hsz2 := hb.size
  replace HZg := Lib.hid (HZg.out.below hb)
  replace HX0 := Lib.hid (HX0.out.below hb)
  replace HW := Lib.hid (HW.out.trans (Within.of_below hb))
  replace HC := Lib.hid (HC.out.keep hb)
  clear hb
  cases q2 with
  | false =>
    have z_0_0 := HZg.out.cell (i := 0) rfl
    have z_0_1 := HZg.out.cell (i := 1) rfl
    have z_0_2 := HZg.out.cell (i := 2) rfl
    have r0 := fun o1 o2 => ((HX0.out.alloc o1).alloc o2).cell (i := 0) rfl
    have r1 := fun o1 o2 => ((HX0.out.alloc o1).alloc o2).cell (i := 1) rfl
    have fr := fun o1 o2 j => ((HX0.out.alloc o1).alloc o2).frozen j
    obtain ⟨V, hV⟩ : ∃ V, V = (u2.alloc (.cells #[.int .i64 1] 3)).alloc (.cells #[.int .i64 0] 3) := ⟨_, rfl⟩
    have hbV : Below u2.heap.size u2 V := by rw [hV]; (repeat (first | exact Below.refl _ _ | assumption | refine Below.drew ?_ | refine Below.alloc ?_ (by first | (simp; done) | (simp; omega)) _ | refine Below.setCell ?_ (by first | (simp; done) | (simp; omega)) _))
    have HOD : Hid (OwnD V u2.heap.size (.slice (some ⟨u2.heap.size, 0, none⟩) 1 1) (.slice (some ⟨u2.heap.size + 1, 0, none⟩) 1 1) [1] [0]) := by unfold Hid; rw [hV]; exact OwnD.lits u2
    have HLD : Hid ((1 ≤ ([1] : List Int).length ∧ ([1] : List Int).length ≤ 7) ∧ (1 ≤ ([0] : List Int).length ∧ ([0] : List Int).length ≤ 7)) := ⟨⟨by decide, by decide⟩, ⟨by decide, by decide⟩⟩
    have hub : w.heap.size + 1 < u2.heap.size := HX0.out.lt
    have HX9 := Lib.hid (HX0.out.below hbV)
    go_wp2_with fail
    rw [← hV]
    replace HW := Lib.hid (HW.out.trans (Within.of_below hbV))
    replace HC := Lib.hid (HC.out.keep hbV)
    clear r0 r1 fr hV hbV z_0_0 z_0_1 z_0_2
    have FHX0 := Lib.hid ((HX9.out.set 0 (.slice (some ⟨u2.heap.size, 0, none⟩) 1 1)).set 1 (.slice (some ⟨u2.heap.size + 1, 0, none⟩) 1 1))
    have t_HX0_0 := FHX0.out.cell (i := 0) rfl
    have t_HX0_1 := FHX0.out.cell (i := 1) rfl
    try (go_wp2_with fail)
    refine bodyPost_ret (v := .agg #[.slice (some ⟨u2.heap.size, 0, none⟩) 1 1, .slice (some ⟨u2.heap.size + 1, 0, none⟩) 1 1]) (by simp [results, Tryz.results76, go_sem, t_HX0_0, t_HX0_1]) rfl ⟨⟨_, _, _, _, rfl, ((HOD.out.other (b := w.heap.size + 1) (by omega) 0 (.slice (some ⟨u2.heap.size, 0, none⟩) 1 1)).other (b := w.heap.size + 1) (by omega) 1 (.slice (some ⟨u2.heap.size + 1, 0, none⟩) 1 1)).mono (by omega), HLD.out⟩, ((HC.out.setNew (b := w.heap.size + 1) (by omega) 0 (.slice (some ⟨u2.heap.size, 0, none⟩) 1 1)).setNew (b := w.heap.size + 1) (by omega) 1 (.slice (some ⟨u2.heap.size + 1, 0, none⟩) 1 1)).mono (by omega), (((HWw.out.trans HW.out).setNew (b := w.heap.size + 1) (by omega) 0 (.slice (some ⟨u2.heap.size, 0, none⟩) 1 1)).setNew (b := w.heap.size + 1) (by omega) 1 (.slice (some ⟨u2.heap.size + 1, 0, none⟩) 1 1))⟩
  | true =>
    have z_0_0 := HZg.out.cell (i := 0) rfl
    have z_0_1 := HZg.out.cell (i := 1) rfl
    have z_0_2 := HZg.out.cell (i := 2) rfl
    have z_1_0 := HX0.out.cell (i := 0) rfl
    have z_1_1 := HX0.out.cell (i := 1) rfl
    try (go_wp2_with fail)
    clear z_0_0 z_0_1 z_0_2 z_1_0 z_1_1
    have HG := Lib.hid (shG_ok Hq2.out)
    have hgb : g < u2.heap.size := HC.out.lt
    have hub : w.heap.size + 1 < u2.heap.size := HX0.out.lt
    obtain ⟨N, hN⟩ : ∃ N : Nat, (N : Int) = 1 + ((j1 : Nat) : Int) ∧ 1 ≤ N ∧ N ≤ 5 := ⟨1 + j1, by omega, by omega, by omega⟩
    obtain ⟨hN, hN1, hN5⟩ := hN
    have z_0_0 := HZg.out.cell (i := 0) rfl
    have z_0_1 := HZg.out.cell (i := 1) rfl
    have z_0_2 := HZg.out.cell (i := 2) rfl
    have z_1_0 := HX0.out.cell (i := 0) rfl
    have z_1_1 := HX0.out.cell (i := 1) rfl
    try (go_wp2_with fail)
    refine wp_region_noPanic ?_
    refine wp_region_Q (Within g (g + 1)) (DrawS w0 u2 g _ 10000 (fun w' => w'.cell? ⟨w.heap.size, 0, none⟩ = some (.int .i64 P) ∧ w'.cell? ⟨w.heap.size, 1, none⟩ = some (.int .i64 Q) ∧ w'.cell? ⟨w.heap.size, 2, none⟩ = some (.int .i64 G))) 13 [(0, []), (1, []), (2, []), (3, []), (4, []), (5, [1, 0]), (6, [0]), (7, [5, 4, 0]), (8, []), (9, [8, 1, 0])] [10] (by kernel_rfl) (by kernel_rfl) (by kernel_rfl) rfl (fun _ _ _ _ h => h) (DrawS.good _ _ _ _ _ _) ⟨(Within.refl _ _ _).drew, by simpa using HC.out.keep (Below.refl _ _).drew, ⟨box_at z_0_0 (Below.refl _ _).drew, box_at z_0_1 (Below.refl _ _).drew, box_at z_0_2 (Below.refl _ _).drew⟩⟩ ?_
    simp only [pickP, pickN, List.getElem?_cons_zero, List.getElem?_cons_succ]
    iterate 5 (refine' chainQ_read (DrawS.good _ _ _ _ _ _) _ rfl rfl (fun m w' hm' hS' => ?_) ?_; rotate_left; · (simp only [lookP, allP, Act.put, List.getElem?_cons_zero, List.getElem?_cons_succ, List.setIfInBounds_toArray, List.set_cons_zero, List.set_cons_succ]; (try dsimp only [DrawS] at hS'); go_simp; (try with_reducible rfl)))
    -- 5: call { callee := value (func 95), args := #[t18, t19], argTypes := #[104, 3] }
    refine chainQ_do (d := (some 20)) (fun v z => ∃ j : Nat, v = .int .i64 (j : Int) ∧ j < N) (fun v w1 w2 hw h => h) rfl rfl (fun m w' hm' hS' => ?_) ?_
    · simp only [lookP, allP, Act.put, List.getElem?_cons_zero, List.getElem?_cons_succ, List.setIfInBounds_toArray, List.set_cons_zero, List.set_cons_succ]
      intro K hK
      replace hm' : m < 10 := hm'
      go_simp
      go_at_call 22
      refine (spec_pick w0 g _ (1 + (j1 : Int)) _ hS'.2.1 (hS'.1.belowOf (HW.out.belowOf HBW.out hge) hge) (by omega)).mono ?_
      rintro e z ⟨⟨x, rfl, x0, _, xm, _⟩, hc, hw⟩
      obtain ⟨j, rfl⟩ := Int.eq_ofNat_of_zero_le x0
      replace xm := xm (by omega)
      exact hK.out _ _ hw ⟨hS'.1.trans hw, hc.mono (by omega), ⟨within_at (hS'.1.trans hw) z_0_0 (.inr (by omega)), within_at (hS'.1.trans hw) z_0_1 (.inr (by omega)), within_at (hS'.1.trans hw) z_0_2 (.inr (by omega))⟩⟩ ⟨j, rfl, by omega⟩
    -- 6: binOp Binadd 3 (const (int i64 1)) t20 3
    refine chainQ_have (DrawS.good _ _ _ _ _ _) (d := (some 21)) (fun v z => ∃ j : Nat, v = .int .i64 (j : Int) ∧ 1 ≤ j ∧ j ≤ N) (fun v w1 w2 hw h => h) rfl rfl (fun m w' hm' hS' => ?_) ?_
    · simp only [lookP, allP, Act.put, List.getElem?_cons_zero, List.getElem?_cons_succ, List.setIfInBounds_toArray, List.set_cons_zero, List.set_cons_succ]
      intro x5 hx5
      obtain ⟨j, rfl, hj⟩ := hx5
      have ewj : IntKind.i64.wrap (1 + (j : Int)) = ((j + 1 : Nat) : Int) := by rw [show (1 : Int) + j = ((j + 1 : Nat) : Int) by omega]; exact IntWalk.i64_in _ (by omega)
      refine ⟨.int .i64 ((j + 1 : Nat) : Int), ?_, j + 1, rfl, by omega, by omega⟩
      go_simp
    -- 7: call { callee := value (func 132), args := #[t16, t17, t21], argTypes := #[104, 24, 3] }
    refine chainQ_do (d := (some 22)) (fun v z => ∃ (a : Option Addr) (c m : Nat) (l : List Int), v = .slice a m c ∧ OwnI z u2.heap.size (.slice a m c) l ∧ l.length = m ∧ (1 ≤ m ∧ m ≤ N) ∧ ∀ x ∈ l, 0 ≤ x ∧ x ≤ 2000000010) (fun v w1 w2 hw h => by obtain ⟨a, c, m, l, e, h1, h2, h3, h4⟩ := h; exact ⟨a, c, m, l, e, h1.within hw (by omega), h2, h3, h4⟩) rfl rfl (fun m w' hm' hS' => ?_) ?_
    · simp only [lookP, allP, Act.put, List.getElem?_cons_zero, List.getElem?_cons_succ, List.setIfInBounds_toArray, List.set_cons_zero, List.set_cons_succ]
      intro x6 hx6
      intro K hK
      replace hm' : m < 10 := hm'
      obtain ⟨j, rfl, hj1, hj2⟩ := hx6
      go_simp
      go_at_call 37
      refine (spec_coins w0 g _ P Q G j _ hS'.2.1 (hS'.1.belowOf (HW.out.belowOf HBW.out hge) hge) (by omega) HGR.out (by omega)).mono ?_
      rintro e z ⟨⟨v, l, rfl, ho, hl, hx⟩, hc, hw⟩
      obtain ⟨a, c, rfl⟩ := ho.shapeN hl
      have hsz0 := hS'.1.size
      exact hK.out _ _ hw ⟨hS'.1.trans hw, hc.mono (by omega), ⟨within_at (hS'.1.trans hw) z_0_0 (.inr (by omega)), within_at (hS'.1.trans hw) z_0_1 (.inr (by omega)), within_at (hS'.1.trans hw) z_0_2 (.inr (by omega))⟩⟩ ⟨a, c, j, l, rfl, ho.mono (by omega), hl, ⟨hj1, hj2⟩, hx⟩
    -- 8: move t5
    refine' chainQ_read (DrawS.good _ _ _ _ _ _) (d := (some 23)) _ rfl rfl (fun m w' hm' hS' => ?_) ?_; rotate_left
    · simp only [lookP, allP, Act.put, List.getElem?_cons_zero, List.getElem?_cons_succ, List.setIfInBounds_toArray, List.set_cons_zero, List.set_cons_succ]
      (try dsimp only [DrawS] at hS')
      go_simp
      (try with_reducible rfl)
    -- 9: call { callee := value (func 131), args := #[t15, t22, t23], argTypes := #[24, 43, 3] }
    refine chainQ_do (d := (some 24)) (fun v z => ∃ (xa : Option Addr) (xc xn : Nat) (ya : Option Addr) (yc yn : Nat) (la lb : List Int), v = .agg #[.slice xa xn xc, .slice ya yn yc] ∧ OwnD z u2.heap.size (.slice xa xn xc) (.slice ya yn yc) la lb ∧ (1 ≤ la.length ∧ la.length ≤ 7) ∧ (1 ≤ lb.length ∧ lb.length ≤ 7)) (fun v w1 w2 hw h => by obtain ⟨xa, xc, xn, ya, yc, yn, la, lb, e, h1, h2⟩ := h; exact ⟨xa, xc, xn, ya, yc, yn, la, lb, e, h1.within hw (by omega), h2⟩) rfl rfl (fun m w' hm' hS' => ?_) ?_
    · simp only [lookP, allP, Act.put, List.getElem?_cons_zero, List.getElem?_cons_succ, List.setIfInBounds_toArray, List.set_cons_zero, List.set_cons_succ]
      intro x7 hx7
      intro K hK
      replace hm' : m < 10 := hm'
      obtain ⟨a, c, m, l, rfl, ho, hl, hm, hx⟩ := hx7
      go_simp
      go_at_call 47
      refine (spec_sDealZ ⟨P, Q, G⟩ _ l N (1 + (j1 : Int)) _ hN.symm HG.out ho.ints hx (by omega) (by omega)).mono ?_
      rintro e z ⟨⟨x, y, rfl, o1, o2, hne⟩, hbz⟩
      have hsz0 := hS'.1.size
      have hw := (Within.of_below hbz : Within g (g + 1) _ _)
      obtain ⟨xa, xc, rfl⟩ := o1.shape
      obtain ⟨ya, yc, rfl⟩ := o2.shape
      exact hK.out _ _ hw ⟨hS'.1.trans hw, (hS'.2.1.keep hbz).mono (by omega), ⟨within_at (hS'.1.trans hw) z_0_0 (.inr (by omega)), within_at (hS'.1.trans hw) z_0_1 (.inr (by omega)), within_at (hS'.1.trans hw) z_0_2 (.inr (by omega))⟩⟩ ⟨xa, xc, _, ya, yc, _, _, _, rfl, ⟨o1.mono (by omega), o2.mono (by omega), hne⟩, by rw [dcL_len]; omega, by rw [dsL_len]; omega⟩
    refine chainQ_nil (fun u3 hS' => ?_)
    simp only [allP, Act.put, List.setIfInBounds_toArray, List.set_cons_zero, List.set_cons_succ]
    intro x9 hx9
    intro x7 hx7
    intro x6 hx6
    intro x5 hx5
    replace hS' : DrawS w0 u2 g _ 10000 _ 10 u3 := hS'
    obtain ⟨hw, hc, hC⟩ := hS'
    have hsz3 := hw.size
    replace HZg := Lib.hid (HZg.out.kept hw (.inr (by omega)))
    replace HX0 := Lib.hid (HX0.out.kept hw (.inr (by omega)))
    replace HW := Lib.hid (HW.out.trans hw)
    replace HC := Lib.hid hc
    clear hc hw hC
    clear z_0_0 z_0_1 z_0_2 z_1_0 z_1_1
    clear hx5 hx6 hx7
    obtain ⟨xa, xc, xn, ya, yc, yn, la, lb, rfl, hod, hld⟩ := hx9
    have HOD := Lib.hid hod
    have HLD := Lib.hid hld
    clear hod hld
    have r_HX0_0 := HX0.out.cell (i := 0) rfl
    have r_HX0_1 := HX0.out.cell (i := 1) rfl
    have fr_HX0 := fun j => HX0.out.frozen j
    go_wp2_with fail
    refine NoPanic.normal ?_
    have FHX0 := Lib.hid ((HX0.out.set 0 (.slice xa xn xc)).set 1 (.slice ya yn yc))
    clear r_HX0_0 r_HX0_1 fr_HX0
    have t_HX0_0 := FHX0.out.cell (i := 0) rfl
    have t_HX0_1 := FHX0.out.cell (i := 1) rfl
    try (go_wp2_with fail)
    refine bodyPost_ret (v := .agg #[.slice xa xn xc, .slice ya yn yc]) (by simp [results, Tryz.results76, go_sem, t_HX0_0, t_HX0_1]) rfl ⟨⟨_, _, _, _, rfl, ((HOD.out.other (b := w.heap.size + 1) (by omega) 0 (.slice xa xn xc)).other (b := w.heap.size + 1) (by omega) 1 (.slice ya yn yc)).mono (by omega), HLD.out⟩, ((HC.out.setNew (b := w.heap.size + 1) (by omega) 0 (.slice xa xn xc)).setNew (b := w.heap.size + 1) (by omega) 1 (.slice ya yn yc)).mono (by omega), (((HWw.out.trans HW.out).setNew (b := w.heap.size + 1) (by omega) 0 (.slice xa xn xc)).setNew (b := w.heap.size + 1) (by omega) 1 (.slice ya yn yc))⟩
end Go.Proofs.YtacpnphfopmofaaGreat
namespace Go.Proofs.YtacpnphfopmofaaGreat
open Go.RowKit
set_option linter.unusedSimpArgs false
set_option linter.unusedVariables false

theorem OwnD.storeB {w : World} {B r n c : Nat} {x : Value} {la lb : List Int} (h : OwnD w B x (.slice (some ⟨r, 0, none⟩) n c) la lb) (hn : lb.length = n) (k : Nat) {z : Int} (hz : I64 z) : OwnD (w.setCell ⟨r, k, none⟩ (.int .i64 z)) B x (.slice (some ⟨r, 0, none⟩) n c) la (lb.set k z) :=
  ⟨h.oa.kept (grownBy_setCell _ r k _) (.inr (fun e => h.ne r e rfl)), (h.ob.stored hn k hz).1, h.ne⟩
theorem OwnD.outside {w Y : World} {B b : Nat} {x y : Value} {la lb : List Int} {t : TypeId} {cs : List Value} (h : OwnD w B x y la lb) (hx : BoxN w b t cs) (ht : t ≠ 3) (hY : Within b (b + 1) w Y) : OwnD Y B x y la lb :=
  ⟨⟨h.oa.1, ownsRow_frame h.oa.2 fun k hk => hY.block k (h.oa.lt k hk).2 (by have := h.oa.apart hx ht k hk; omega)⟩, ⟨h.ob.1, ownsRow_frame h.ob.2 fun k hk => hY.block k (h.ob.lt k hk).2 (by have := h.ob.apart hx ht k hk; omega)⟩, h.ne⟩
theorem OwnI.takeS {w : World} {B n c k : Nat} {a : Option Addr} {l : List Int} (h : OwnI w B (.slice a n c) l) (hk : k ≤ n) (hn : l.length = n) : OwnI w B (.slice a k c) (l.take k) := by
  obtain ⟨h1, h2, h3⟩ := h
  refine ⟨h1.take k, ?_, ?_⟩
  · simp
  · rcases h3 with ⟨h3, h4⟩ | ⟨g, cap, cur, h3, hb, hg, hnc, hcm, hcs, ht⟩
    · cases h3
      obtain rfl : k = 0 := by omega
      exact .inl ⟨rfl, by simp⟩
    · cases h3
      refine .inr ⟨g, c, cur, ?_, hb, hg, by simp; omega, hcm, hcs, ?_⟩
      · rw [List.length_take, Nat.min_eq_left (by omega)]
      · rw [List.map_take, ← ht, List.take_take, List.length_take, Nat.mul_one, Nat.mul_one, Nat.min_eq_left (by omega)]
theorem Since.take {B : Nat} {w : World} {a : Option Addr} {n c k : Nat} {l : List Int} (h : Since B w (fun u => Ints u (.slice a n c) l)) (hk : k ≤ n) : Since B w (fun u => Ints u (.slice a k c) (l.take k)) := fun u hs hb => (h u hs hb).take hk
end Go.Proofs.YtacpnphfopmofaaGreat
namespace Go.Proofs.YtacpnphfopmofaaGreat
open Go.RowKit
set_option linter.unusedSimpArgs false
set_option linter.unusedVariables false

theorem nthE {l : List Int} {k : Nat} (h : k < l.length) : nth l k = l[k] := by simp [nth, List.getD, h]
/-- the numbers are different -/
def ptsB (l : List Int) : Bool := decide l.Nodup
def trL (l : List Int) : Bool := (l.all fun i => decide (1 ≤ i ∧ i ≤ 7)) && ptsB l
theorem nodup_step {l : List Int} {k : Nat} (hk : k < l.length) (h : (l.take k).Nodup) (hn : nth l k ∉ l.take k) : (l.take (k + 1)).Nodup := by
  rw [List.take_succ_eq_append_getElem hk, List.nodup_append]
  refine ⟨h, by simp, fun a ha b hb => ?_⟩
  rw [List.mem_singleton] at hb
  rw [hb, ← nthE hk]
  rintro rfl
  exact hn ha
theorem nodup_not {l : List Int} {k : Nat} (hk : k < l.length) (h : nth l k ∈ l.take k) : ¬ l.Nodup := by
  intro hn
  have h2 : (l.take (k + 1)).Nodup := hn.sublist (List.take_sublist _ _)
  rw [List.take_succ_eq_append_getElem hk, List.nodup_append] at h2
  exact h2.2.2 _ h (l[k]) (by simp) (nthE hk)
theorem mem_nth {l : List Int} {x : Int} (h : x ∈ l) : ∃ i, i < l.length ∧ nth l i = x := by
  obtain ⟨i, hi, e⟩ := List.getElem_of_mem h
  exact ⟨i, hi, by rw [nthE hi]; exact e⟩
set_option maxRecDepth 100000 in
set_option maxHeartbeats 2000000 in
theorem slices_IndexF (v : Value) (l : List Int) (x : Int) (w : World) (h : Ints w v l) :
    Calls Tryz.prog 125 #[v, .int .i64 x] w fun e w' => (∃ r : Int, e = .returned (.int .i64 r) ∧ decide (0 ≤ r) = decide (x ∈ l)) ∧ w = w' := by
  obtain ⟨a, n, c, rfl⟩ := h.shape
  have HE := Lib.hid h.len
  have HH := Lib.hid h
  obtain ⟨k1, k2⟩ := h.capMax
  unfold maxLen at k2
  clear h
  go_enter Tryz.func125, Tryz.ntmps125
  go_wp2_with fail
  go_loopg [8] n (fun gk iv wr => ∃ k : Nat, k + gk = n ∧ iv = .int .i64 k ∧ (∀ i, i < k → nth l i ≠ x) ∧ w = wr)
  case atStart => exact ⟨0, by omega, rfl, fun i h => absurd h (by omega), rfl⟩
  case round =>
    obtain ⟨k, hkg, rfl, hb, rfl⟩ := hrel
    have HB := Lib.hid hb
    clear hb
    by_cases hlt : k < n
    · obtain ⟨b, o, rfl, hc⟩ := HH.out.at_ (by omega)
      have y0 := hc k hlt
      clear hc
      have b0 : (0 : Int) ≤ (k : Int) := by omega
      have bk1 : (k : Int) < (n : Int) := by omega
      have hwk : IntKind.i64.wrap ((k : Int) + 1) = (k : Int) + 1 := IntWalk.i64_in _ (by omega)
      by_cases he : nth l k = x
      · have HI : Hid (decide ((0 : Int) ≤ (k : Int)) = decide (x ∈ l)) := by
          unfold Hid
          rw [decide_eq_true (show (0 : Int) ≤ (k : Int) by omega), decide_eq_true (show x ∈ l by rw [← he, nthE (by rw [HE.out]; exact hlt)]; exact List.getElem_mem _)]
        rw [he] at y0
        clear he
        go_wp2_with fail
        go_ret
        exact ⟨⟨_, rfl, HI.out⟩, rfl⟩
      · have HN := Lib.hid he
        have hq : (x == nth l k) = false := beq_eq_false_iff_ne.2 (fun q => he q.symm)
        have hq2 : ¬ x = nth l k := fun q => he q.symm
        clear he
        have HNk : Hid (nth l k ≠ x) := HN.out
        clear HN
        generalize nth l k = y at y0 hq hq2
        go_wp2_with fail
        go_roundg (n - (k + 1))
        case measure => omega
        case rel =>
          refine ⟨k + 1, by omega, by go_num, fun i hi => ?_, rfl⟩
          by_cases e : i = k
          · subst e; exact HNk.out
          · exact HB.out i (by omega)
    · obtain rfl : n = k := by omega
      have HI : Hid (decide ((0 : Int) ≤ -1) = decide (x ∈ l)) := by
        unfold Hid
        rw [decide_eq_false (show ¬ (0 : Int) ≤ -1 by omega), decide_eq_false]
        intro hm
        obtain ⟨i, hi, e⟩ := mem_nth hm
        exact HB.out i (by have := HE.out; omega) e
      go_wp2_with fail
      go_ret
      exact ⟨⟨_, rfl, HI.out⟩, rfl⟩
set_option maxHeartbeats 2000000 in
theorem slices_Contains (v : Value) (l : List Int) (x : Int) (w : World) (h : Ints w v l) :
    Calls Tryz.prog 117 #[v, .int .i64 x] w fun e w' => e = .returned (.bool (decide (x ∈ l))) ∧ w = w' := by
  have H := Lib.hid h; clear h
  go_enter Tryz.func117, Tryz.ntmps117
  go_wp2_with fail
  refine (slices_IndexF v l x _ H.out).mono ?_
  rintro e w1 ⟨⟨r, rfl, hr⟩, rfl⟩
  have HR := Lib.hid hr
  clear hr
  go_wp2_with fail
  go_ret
  exact ⟨ret_bool (by first | (rw [HR.out]; done) | (rw [HR.out]; rfl) | exact HR.out.symm), rfl⟩
set_option maxRecDepth 100000 in
set_option maxHeartbeats 4000000 in
theorem impl_areDifferent (v : Value) (l : List Int) (w : World) (h : Ints w v l) :
    Calls Tryz.prog 94 #[v] w fun e w' => e = .returned (.bool (ptsB l)) ∧ w = w' := by
  obtain ⟨a, n, c, rfl⟩ := h.shape
  have HE := Lib.hid h.len
  have H := Lib.hid h
  obtain ⟨k1, k2⟩ := h.capMax
  unfold maxLen at k2
  clear h
  go_enter Tryz.func94, Tryz.ntmps94
  go_wp2_with fail
  go_loopg [7] n (fun gk iv wr => ∃ k : Nat, k + gk = n ∧ iv = .int .i64 k ∧ Hid ((l.take k).Nodup) ∧ w = wr)
  case atStart => exact ⟨0, by omega, rfl, by unfold Hid; simp, rfl⟩
  case round =>
    obtain ⟨k, hkg, rfl, HB, rfl⟩ := hrel
    by_cases hlt : k < n
    · obtain ⟨b, o, rfl, hc⟩ := H.out.at_ (by omega)
      have y0 := hc k hlt
      clear hc
      have b0 : (0 : Int) ≤ (k : Int) := by omega
      have bk1 : (k : Int) < (n : Int) := by omega
      have hwk : IntKind.i64.wrap ((k : Int) + 1) = (k : Int) + 1 := IntWalk.i64_in _ (by omega)
      obtain ⟨hsl, hti⟩ := sl_take H.out (x := (k : Int)) (k := k) rfl (by omega)
      have HT := Lib.hid hti
      have HK : Hid (k < l.length) := by unfold Hid; rw [HE.out]; exact hlt
      clear hti
      obtain ⟨q, hq⟩ : ∃ q, decide (nth l k ∈ l.take k) = q := ⟨_, rfl⟩
      have HQ := Lib.hid hq
      clear hq
      go_wp2_with fail
      refine (slices_Contains _ (l.take k) (nth l k) _ HT.out).mono ?_
      rintro e w1 ⟨rfl, rfl⟩
      rw [HQ.out]
      cases q with
      | true =>
        have HR : Hid (false = ptsB l) := (decide_eq_false (nodup_not HK.out (of_decide_eq_true HQ.out))).symm
        clear hsl
        go_wp2_with fail
        go_ret
        exact ⟨ret_bool HR.out, rfl⟩
      | false =>
        have HN : Hid ((l.take (k + 1)).Nodup) := nodup_step HK.out HB.out (of_decide_eq_false HQ.out)
        clear hsl
        go_wp2_with fail
        go_roundg (n - (k + 1))
        case measure => omega
        case rel => exact ⟨k + 1, by omega, by go_num, HN, rfl⟩
    · obtain rfl : n = k := by omega
      have HR : Hid (true = ptsB l) := by
        refine (decide_eq_true ?_).symm
        have := HB.out
        rwa [List.take_of_length_le (by rw [HE.out]; exact Nat.le_refl _)] at this
      go_wp2_with fail
      go_ret
      exact ⟨ret_bool HR.out, rfl⟩
theorem decides_isTrustee (w : World) : Decides w 40 #[] (fun i => decide (1 ≤ i ∧ i ≤ 7)) :=
  ⟨Tryz.call40, fun x wr hx hb => (impl_isTrustee x wr).mono fun e w' ⟨h1, h2⟩ => ⟨h1, h2⟩⟩
set_option maxHeartbeats 2000000 in
theorem impl_areTrustees (v : Value) (l : List Int) (w : World) (h : Ints w v l) :
    Calls Tryz.prog 51 #[v] w fun e w' => e = .returned (.bool (trL l)) ∧ Below w.heap.size w w' := by
  have H := Lib.hid h; clear h
  obtain ⟨q, hq⟩ : ∃ q, (l.all fun i => decide (1 ≤ i ∧ i ≤ 7)) = q := ⟨_, rfl⟩
  obtain ⟨r, hr⟩ : ∃ q, ptsB l = q := ⟨_, rfl⟩
  have HE : Hid (trL l = (q && r)) := by unfold Hid trL; rw [hq, hr]
  have HQ := Lib.hid hq
  have HR := Lib.hid hr
  clear hq hr
  go_enter Tryz.func51, Tryz.ntmps51
  go_wp2_with fail
  refine (impl_areAll v l 40 _ _ _ H.out (decides_isTrustee _)).mono ?_
  rintro e w1 ⟨rfl, hb⟩
  have HB := Lib.hid hb
  clear hb
  rw [HQ.out]
  cases q with
  | false =>
    go_wp2_with fail
    go_ret
    exact ⟨ret_bool (by rw [HE.out]; rfl), HB.out⟩
  | true =>
    go_wp2_with fail
    refine (impl_areDifferent v l _ (H.out.below HB.out)).mono ?_
    rintro e w2 ⟨rfl, rfl⟩
    rw [HR.out]
    go_wp2_with fail
    go_ret
    exact ⟨ret_bool (by rw [HE.out]; rfl), HB.out⟩
end Go.Proofs.YtacpnphfopmofaaGreat
namespace Go.Proofs.YtacpnphfopmofaaGreat
open Go.RowKit
set_option linter.unusedSimpArgs false
set_option linter.unusedVariables false

/-- the value of a polynomial over the integers -/
def evI (f : List Int) (x : Int) : Int := f.foldr (fun a o => o * x + a) 0
theorem evI_cons (a : Int) (f : List Int) (x : Int) : evI (a :: f) x = evI f x * x + a := rfl
/-- a function that is a polynomial with at most n coefficients -/
def IsP (n : Nat) (F : Int → Int) : Prop := ∃ f : List Int, f.length = n ∧ ∀ x, F x = evI f x
theorem IsP.zero (n : Nat) : IsP n (fun _ => 0) := by
  refine ⟨List.replicate n 0, by simp, fun x => ?_⟩
  induction n with
  | zero => rfl
  | succ n ih => rw [List.replicate_succ, evI_cons, ← ih]; simp
theorem evI_add (f g : List Int) (h : f.length = g.length) (x : Int) : evI (List.zipWith (· + ·) f g) x = evI f x + evI g x := by
  induction f generalizing g with
  | nil => cases g with
    | nil => rfl
    | cons b g => simp at h
  | cons a f ih => cases g with
    | nil => simp at h
    | cons b g =>
      rw [List.zipWith_cons_cons, evI_cons, evI_cons, evI_cons, ih g (by simpa using h), Int.add_mul]; omega
theorem IsP.add {n : Nat} {F G : Int → Int} (hF : IsP n F) (hG : IsP n G) : IsP n (fun x => F x + G x) := by
  obtain ⟨f, hf, hF⟩ := hF
  obtain ⟨g, hg, hG⟩ := hG
  exact ⟨List.zipWith (· + ·) f g, by simp [hf, hg], fun x => by show F x + G x = _; rw [evI_add f g (by omega), hF, hG]⟩
theorem evI_smul (c : Int) (f : List Int) (x : Int) : evI (f.map (c * ·)) x = c * evI f x := by
  induction f with
  | nil => simp [evI]
  | cons a f ih => rw [List.map_cons, evI_cons, evI_cons, ih, Int.mul_add, Int.mul_assoc]
theorem IsP.smul {n : Nat} {F : Int → Int} (c : Int) (hF : IsP n F) : IsP n (fun x => c * F x) := by
  obtain ⟨f, hf, hF⟩ := hF
  exact ⟨f.map (c * ·), by simp [hf], fun x => by show c * F x = _; rw [evI_smul, hF]⟩
theorem IsP.up {n : Nat} {F : Int → Int} (hF : IsP n F) : IsP (n + 1) F := by
  obtain ⟨f, hf, hF⟩ := hF
  refine ⟨f ++ [0], by simp [hf], fun x => ?_⟩
  rw [hF]
  unfold evI
  rw [List.foldr_append]; simp
theorem IsP.le {n m : Nat} {F : Int → Int} (hF : IsP n F) (h : n ≤ m) : IsP m F := by
  obtain ⟨k, rfl⟩ : ∃ k, m = n + k := ⟨m - n, by omega⟩
  induction k with
  | zero => exact hF
  | succ k ih => exact (ih (by omega)).up
theorem IsP.shift {n : Nat} {F : Int → Int} (hF : IsP n F) : IsP (n + 1) (fun x => F x * x) := by
  obtain ⟨f, hf, hF⟩ := hF
  exact ⟨0 :: f, by simp [hf], fun x => by show F x * x = _; rw [evI_cons, hF]; omega⟩
theorem IsP.root {n : Nat} {F : Int → Int} (hF : IsP n F) (r : Int) : IsP (n + 1) (fun x => F x * (x - r)) := by
  have h := hF.shift.add (hF.up.smul (-r))
  obtain ⟨f, hf, h⟩ := h
  refine ⟨f, hf, fun x => ?_⟩
  rw [← h x]
  show F x * (x - r) = F x * x + -r * F x
  rw [Int.mul_sub, Int.neg_mul, Int.mul_comm r]; omega
theorem IsP.one : IsP 1 (fun _ => 1) := ⟨[1], rfl, fun x => by simp [evI]⟩
theorem IsP.ev (f : List Int) : IsP f.length (evI f) := ⟨f, rfl, fun _ => rfl⟩
/-- division by a root -/
theorem evI_div (f : List Int) (a : Int) : f ≠ [] → ∃ g : List Int, g.length + 1 = f.length ∧ ∀ x, evI f x = (x - a) * evI g x + evI f a := by
  induction f with
  | nil => intro h; exact absurd rfl h
  | cons b f ih =>
    intro _
    cases f with
    | nil => exact ⟨[], rfl, fun x => by simp [evI]⟩
    | cons c f =>
      obtain ⟨g, hg, h⟩ := ih (by simp)
      refine ⟨evI (c :: f) a :: g, by simp at hg ⊢; omega, fun x => ?_⟩
      rw [evI_cons b, evI_cons b, evI_cons (evI (c :: f) a), h x]
      generalize evI (c :: f) a = u
      generalize evI g x = v
      simp only [Int.sub_mul, Int.mul_sub, Int.add_mul, Int.mul_add, Int.mul_assoc, Int.mul_comm, Int.mul_left_comm]
      omega
/-- a product that a prime divides -/
theorem prm_mul {q a b : Int} (hq : Prm q) (h : a * b % q = 0) : a % q = 0 ∨ b % q = 0 := by
  by_cases ha : a % q = 0
  · exact .inl ha
  · refine .inr ?_
    have h2 := hq.1
    have h0 := Int.emod_nonneg a (show q ≠ 0 by omega)
    have h1 := Int.emod_lt_of_pos a (show 0 < q by omega)
    obtain ⟨z, hz⟩ := inverse_is hq (show 0 < a % q by omega) h1
    have e : z * (a * b) % q = b % q := by
      rw [emod_mul_left] at hz
      rw [← Int.mul_assoc, Int.mul_comm z, Int.mul_emod, hz, Int.one_mul, Int.emod_emod]
    rw [← e, Int.mul_emod, h, Int.mul_zero, Int.zero_emod]
/-- points that are different modulo q -/
def Diff (q : Int) (xs : List Int) : Prop := xs.Pairwise fun a b => (a - b) % q ≠ 0
/-- a polynomial with as many roots as coefficients is zero -/
theorem roots_zero {q : Int} (hq : Prm q) : ∀ (n : Nat) (F : Int → Int) (xs : List Int), IsP n F → xs.length = n → Diff q xs → (∀ a ∈ xs, F a % q = 0) → ∀ x, F x % q = 0 := by
  intro n
  induction n with
  | zero =>
    intro F xs hF _ _ _ x
    obtain ⟨f, hf, hF⟩ := hF
    have : f = [] := List.length_eq_zero_iff.1 hf
    rw [hF, this]; rfl
  | succ n ih =>
    intro F xs hF hl hd hr x
    obtain ⟨f, hf, hF⟩ := hF
    cases xs with
    | nil => simp at hl
    | cons a xs =>
      obtain ⟨g, hg, h⟩ := evI_div f a (by intro e; rw [e] at hf; simp at hf)
      have ha : evI f a % q = 0 := by rw [← hF]; exact hr a (by simp)
      have hd' := List.pairwise_cons.1 hd
      have k := ih (evI g) xs ⟨g, by omega, fun _ => rfl⟩ (by simpa using hl) hd'.2 (fun b hb => by
        have hb0 : F b % q = 0 := hr b (by simp [hb])
        rw [hF, h b, Int.add_emod, ha, Int.add_zero, Int.emod_emod] at hb0
        rcases prm_mul hq hb0 with h1 | h1
        · exfalso
          refine hd'.1 b hb ?_
          rw [show a - b = -(b - a) by omega]
          obtain ⟨t, ht⟩ := Int.dvd_of_emod_eq_zero h1
          rw [ht, show -(q * t) = q * -t by rw [Int.mul_neg]]
          exact Int.mul_emod_right _ _
        · exact h1) x
      rw [hF, h x, Int.add_emod, ha, Int.add_zero, Int.emod_emod, Int.mul_emod, k, Int.mul_zero, Int.zero_emod]
/-- the product of the distances to the points -/
def disI (xs : List Int) (x : Int) : Int := xs.foldl (fun o b => o * (x - b)) 1
theorem disI_fold (xs : List Int) (x : Int) : ∀ o : Int, xs.foldl (fun o b => o * (x - b)) o = o * disI xs x := by
  induction xs with
  | nil => intro o; simp [disI]
  | cons b xs ih =>
    intro o
    unfold disI
    rw [List.foldl_cons, List.foldl_cons, ih, ih (1 * (x - b)), Int.one_mul, Int.mul_assoc]
theorem disI_cons (b : Int) (xs : List Int) (x : Int) : disI (b :: xs) x = (x - b) * disI xs x := by
  show List.foldl _ (1 * (x - b)) xs = _
  rw [disI_fold, Int.one_mul]
theorem disI_isP (xs : List Int) : IsP (xs.length + 1) (disI xs) := by
  induction xs with
  | nil => exact IsP.one
  | cons b xs ih =>
    obtain ⟨f, hf, h⟩ := ih.root b
    exact ⟨f, hf, fun x => by rw [disI_cons, ← h x, Int.mul_comm]⟩
theorem disI_root {xs : List Int} {a : Int} (h : a ∈ xs) : disI xs a = 0 := by
  induction xs with
  | nil => simp at h
  | cons b xs ih =>
    rw [disI_cons]
    rcases List.mem_cons.1 h with h | h
    · rw [h]; simp
    · rw [ih h]; simp
theorem disI_ne {q : Int} (hq : Prm q) {xs : List Int} {a : Int} (h : ∀ b ∈ xs, (a - b) % q ≠ 0) : disI xs a % q ≠ 0 := by
  have h2 := hq.1
  induction xs with
  | nil => show (1 : Int) % q ≠ 0; rw [Int.emod_eq_of_lt (by omega) (by omega)]; omega
  | cons b xs ih =>
    rw [disI_cons]
    intro h0
    rcases prm_mul hq h0 with h1 | h1
    · exact h b (by simp) h1
    · exact ih (fun c hc => h c (by simp [hc])) h1
/-- the other points -/
def restL (xs : List Int) (i : Nat) : List Int := xs.take i ++ xs.drop (i + 1)
theorem restL_len {xs : List Int} {i : Nat} (h : i < xs.length) : (restL xs i).length = xs.length - 1 := by
  unfold restL; simp; omega
/-- the coefficient of a point -/
noncomputable def lagI (q : Int) (xs : List Int) (x : Int) (i : Nat) : Int := disI (restL xs i) x % q * invQ (disI (restL xs i) (nth xs i) % q) q % q
noncomputable def lagL (q : Int) (xs : List Int) (x : Int) : List Int := (List.range xs.length).map (lagI q xs x)
theorem diff_rest {q : Int} {xs : List Int} (h : Diff q xs) {i : Nat} (hi : i < xs.length) : ∀ b ∈ restL xs i, (nth xs i - b) % q ≠ 0 := by
  have hn : nth xs i = xs[i] := by simp [nth, List.getD, hi]
  intro b hb
  unfold restL at hb
  rw [hn]
  rcases List.mem_append.1 hb with hb | hb
  · obtain ⟨j, hj, rfl⟩ := List.mem_take_iff_getElem.1 hb
    have hj' : j < i := by omega
    have := (List.pairwise_iff_getElem.1 h) j i (by omega) hi hj'
    intro h0
    refine this ?_
    rw [show xs[j] - xs[i] = -(xs[i] - xs[j]) by omega]
    obtain ⟨t, ht⟩ := Int.dvd_of_emod_eq_zero h0
    rw [ht, show -(q * t) = q * -t by rw [Int.mul_neg]]
    exact Int.mul_emod_right _ _
  · obtain ⟨j, hj, rfl⟩ := List.mem_drop_iff_getElem.1 hb
    have := (List.pairwise_iff_getElem.1 h) i (i + 1 + j) hi (by omega) (by omega)
    exact this
theorem mem_rest {xs : List Int} {i j : Nat} (hj : j < xs.length) (h : j ≠ i) : nth xs j ∈ restL xs i := by
  have hn : nth xs j = xs[j] := by simp [nth, List.getD, hj]
  rw [hn]; unfold restL
  rcases Nat.lt_or_gt_of_ne h with h | h
  · exact List.mem_append.2 (.inl (List.mem_take_iff_getElem.2 ⟨j, by omega, rfl⟩))
  · refine List.mem_append.2 (.inr (List.mem_drop_iff_getElem.2 ⟨j - (i + 1), by omega, ?_⟩))
    congr 1; omega
theorem lag_den {q : Int} (hq : Prm q) {xs : List Int} (h : Diff q xs) {i : Nat} (hi : i < xs.length) : 0 < disI (restL xs i) (nth xs i) % q ∧ disI (restL xs i) (nth xs i) % q < q := by
  have h2 := hq.1
  have h0 := Int.emod_nonneg (disI (restL xs i) (nth xs i)) (show q ≠ 0 by omega)
  have := disI_ne hq (diff_rest h hi)
  exact ⟨by omega, Int.emod_lt_of_pos _ (by omega)⟩
theorem lag_at {q : Int} (hq : Prm q) {xs : List Int} (h : Diff q xs) {i j : Nat} (hi : i < xs.length) (hj : j < xs.length) : lagI q xs (nth xs j) i = if j = i then 1 else 0 := by
  have h2 := hq.1
  unfold lagI
  by_cases e : j = i
  · subst e
    obtain ⟨d1, d2⟩ := lag_den hq h hi
    rw [if_pos rfl]
    exact (invQ_is hq d1 d2).2
  · rw [if_neg e, disI_root (mem_rest hj e)]; simp
/-- the sum that interpolates -/
def dotI (n : Nat) (f g : Nat → Int) : Int := ((List.range n).map fun i => f i * g i).sum
theorem dotI_succ (n : Nat) (f g : Nat → Int) : dotI (n + 1) f g = dotI n f g + f n * g n := by
  unfold dotI; rw [List.range_succ, List.map_append, List.sum_append]; simp
theorem dotI_isP {m : Nat} (c : Nat → Int) (F : Nat → Int → Int) (n : Nat) (h : ∀ i, i < n → IsP m (F i)) : IsP m (fun x => dotI n c (fun i => F i x)) := by
  induction n with
  | zero => exact IsP.zero m
  | succ n ih =>
    obtain ⟨f, hf, hF⟩ := (ih fun i hi => h i (by omega)).add ((h n (by omega)).smul (c n))
    exact ⟨f, hf, fun x => by rw [← hF x]; exact dotI_succ n c (fun i => F i x)⟩
theorem dotI_mod {q : Int} (n : Nat) {f f' g g' : Nat → Int} (h : ∀ i, i < n → (f i * g i) % q = (f' i * g' i) % q) : dotI n f g % q = dotI n f' g' % q := by
  induction n with
  | zero => rfl
  | succ n ih =>
    rw [dotI_succ, dotI_succ, Int.add_emod, ih (fun i hi => h i (by omega)), h n (by omega), ← Int.add_emod]
theorem dotI_single {n j : Nat} (hj : j < n) (f : Nat → Int) : dotI n f (fun i => if j = i then 1 else 0) = f j := by
  induction n with
  | zero => omega
  | succ n ih =>
    rw [dotI_succ]
    by_cases e : j = n
    · subst e
      rw [if_pos rfl]
      have : dotI j f (fun i => if j = i then 1 else 0) = 0 := by
        clear ih hj
        have : ∀ m, m ≤ j → dotI m f (fun i => if j = i then 1 else 0) = 0 := by
          intro m
          induction m with
          | zero => intro _; rfl
          | succ m ihm => intro hm; rw [dotI_succ, ihm (by omega), if_neg (by omega)]; simp
        exact this j (Nat.le_refl _)
      rw [this]; simp
    · rw [ih (by omega), if_neg e]; simp
/-- interpolation: a polynomial with at most as many coefficients as points -/
theorem interp {q : Int} (hq : Prm q) {xs : List Int} (hd : Diff q xs) {F : Int → Int} (hF : IsP xs.length F) (x : Int) (vs : Nat → Int) (hv : ∀ i, i < xs.length → vs i % q = F (nth xs i) % q) :
    dotI xs.length vs (lagI q xs x) % q = F x % q := by
  have h2 := hq.1
  -- the sum as a polynomial
  let c : Nat → Int := fun i => vs i * invQ (disI (restL xs i) (nth xs i) % q) q
  have hG : IsP xs.length (fun y => dotI xs.length c (fun i => disI (restL xs i) y) + (-1) * F y) := by
    refine IsP.add (dotI_isP c _ _ fun i hi => ?_) (hF.smul (-1))
    refine (disI_isP (restL xs i)).le ?_
    rw [restL_len hi]; omega
  have key : ∀ y, dotI xs.length vs (lagI q xs y) % q = dotI xs.length c (fun i => disI (restL xs i) y) % q := fun y => by
    refine dotI_mod _ fun i hi => ?_
    show (vs i * lagI q xs y i) % q = (vs i * invQ (disI (restL xs i) (nth xs i) % q) q * disI (restL xs i) y) % q
    unfold lagI
    rw [emod_mul_right, ← Int.mul_assoc, Int.mul_assoc (vs i) (disI (restL xs i) y % q), Int.mul_comm (disI (restL xs i) y % q), ← Int.mul_assoc, emod_mul_right]
  have z := roots_zero hq _ _ xs hG rfl hd (fun a ha => by
    obtain ⟨j, hj, rfl⟩ := List.getElem_of_mem ha
    have hn : nth xs j = xs[j] := by simp [nth, List.getD, hj]
    rw [← hn]
    show (dotI xs.length c (fun i => disI (restL xs i) (nth xs j)) + (-1) * F (nth xs j)) % q = 0
    rw [Int.add_emod, ← key (nth xs j), dotI_mod (f' := vs) (g' := fun i => if j = i then 1 else 0) _ (fun i hi => by rw [lag_at hq hd hi hj]), dotI_single hj, hv j hj, ← Int.add_emod]
    rw [show F (nth xs j) + -1 * F (nth xs j) = 0 by omega]; simp) x
  rw [key]
  have z' : (dotI xs.length c (fun i => disI (restL xs i) x) + (-1) * F x) % q = 0 := z
  have e : (dotI xs.length c (fun i => disI (restL xs i) x) - F x) % q = 0 := by rw [← z']; congr 1; omega
  exact Int.emod_eq_emod_iff_emod_sub_eq_zero.2 e
end Go.Proofs.YtacpnphfopmofaaGreat
namespace Go.Proofs.YtacpnphfopmofaaGreat
open Go.RowKit
set_option linter.unusedSimpArgs false
set_option linter.unusedVariables false

theorem tdiv_pos {a b : Int} (h : 0 ≤ a) : Int.tdiv a b = a / b := Int.tdiv_eq_ediv_of_nonneg h
set_option maxHeartbeats 1000000 in
theorem impl_inverse (a m : Int) (w : World) (hm : Prm m) (h0 : 0 < a) (h1 : a < m) (h2 : m ≤ 2000000000) :
    Calls Tryz.prog 121 #[.int .i64 a, .int .i64 m] w fun e w' => e = .returned (.int .i64 (invQ a m)) ∧ w = w' := by
  have HM := Lib.hid hm
  clear hm
  go_enter Tryz.func121, Tryz.ntmps121
  go_wp2
  go_loopg [5, 6, 7, 8] a.toNat (fun g rv nv xv yv wr => ∃ (r n x y : Int), rv = .int .i64 r ∧ nv = .int .i64 n ∧ xv = .int .i64 x ∧ yv = .int .i64 y ∧ n ≤ (g : Int) ∧ Hid (EuInv a m r n x y) ∧ w = wr)
  case atStart => exact ⟨m, a, 0, 1, rfl, rfl, rfl, rfl, by omega, EuInv.start (by omega) (by omega) (by omega), rfl⟩
  case round =>
    obtain ⟨r, n, x, y, rfl, rfl, rfl, rfl, hg, HI, rfl⟩ := hrel
    have hn0 : 0 ≤ n := HI.out.1
    have hr1 : 1 ≤ r := HI.out.2.1
    have hrm : r ≤ m := HI.out.2.2.1
    have hnm : n ≤ m := HI.out.2.2.2.1
    obtain ⟨hx1, hx2, hy1, hy2⟩ := HI.out.bd
    by_cases hz : n = 0
    · subst hz
      obtain ⟨e1, e2⟩ := HI.out.inv HM.out h0 h1
      have HE := Lib.hid e2
      subst e1
      clear e2
      go_wp2_with fail
      refine (impl_mod x m _ ⟨by omega, by omega⟩ (by omega) (by omega)).mono ?_
      rintro e w1 ⟨rfl, rfl⟩
      go_wp2_with fail
      go_ret
      exact ⟨ret_int HE.out, rfl⟩
    · have hz2 : (n == 0) = false := beq_eq_false_iff_ne.2 hz
      have hz3 : (n != 0) = true := by rw [bne_iff_ne]; exact hz
      obtain ⟨HN, s1, s2⟩ := HI.out.step (by omega)
      obtain ⟨q0, q1, q2, q3, q4, q5⟩ := HI.out.quo (by omega)
      have hd : Int.tdiv r n = r / n := tdiv_pos (by omega)
      obtain ⟨t1, t2, t3, t4⟩ := HN.bd
      have HN := Lib.hid HN
      obtain ⟨q, hq⟩ : ∃ q, r / n = q := ⟨_, rfl⟩
      rw [hq] at HN s1 s2 q0 q1 q2 q3 q4 q5 hd t3 t4
      clear hq
      have w1 : IntKind.i64.wrap q = q := IntWalk.i64_in _ (by omega)
      have w2 : IntKind.i64.wrap (q * n) = q * n := IntWalk.i64_in _ (by omega)
      have w3 : IntKind.i64.wrap (r - q * n) = r - q * n := IntWalk.i64_in _ (by omega)
      have w4 : IntKind.i64.wrap (q * y) = q * y := IntWalk.i64_in _ (by omega)
      have w5 : IntKind.i64.wrap (x - q * y) = x - q * y := IntWalk.i64_in _ (by omega)
      go_wp2_with fail
      go_roundg (r - q * n).toNat
      case measure => omega
      case rel => exact ⟨n, r - q * n, y, x - q * y, rfl, rfl, rfl, rfl, by omega, HN.out, rfl⟩
end Go.Proofs.YtacpnphfopmofaaGreat
namespace Go.Proofs.YtacpnphfopmofaaGreat
open Go.RowKit
set_option linter.unusedSimpArgs false
set_option linter.unusedVariables false

/-- append to an own slice: the new slice stands in the old block or in a new one -/
theorem run_append_intsB {w : World} {B : Nat} {v y : Value} {l m : List Int} (hown : OwnI w B v l) (hy : Ints w y m) (hm : m ≠ []) (hlen : l.length + m.length ≤ 1000000000000) (hB : B ≤ w.heap.size) (ty : TypeId) :
    ∃ v' w', (Builtin.append_ #[25, 25] ty #[v, y]).run Tryz.prog w = .ok v' w' ∧ OwnI w' B v' (l ++ m) ∧ w.grownBy w' v.ownBlock ∧ ∀ k, v'.ownBlock = some k → v.ownBlock = some k ∨ w.heap.size ≤ k := by
  obtain ⟨v', w', hr, h1, h2⟩ := run_append_ints (t := 25) rfl hown hy hlen hB ty
  refine ⟨v', w', hr, h1, h2, ?_⟩
  obtain ⟨i, hi, hz, hsz, hby⟩ := info_parts info_int
  obtain ⟨a', n', c', rfl, hn, hnc, hcm, hall, hc⟩ := hy
  have hml : 0 < m.length := List.length_pos_iff.2 hm
  rcases hc with ⟨rfl, rfl, rfl⟩ | ⟨ad, rfl, rfl⟩ | ⟨b, off, rfl, hc⟩
  · omega
  · omega
  have hnews : ∀ j u, (m.map (Value.int .i64))[j]? = some u → w.cell? ((⟨b, off, none⟩ : Addr).add j) = some u := by
    intro j u hu
    have hj : j < m.length := by simpa using (List.getElem?_eq_some_iff.1 hu).1
    rw [Addr.add_lit, hc j (by omega)]
    rw [List.getElem?_map, List.getElem?_eq_getElem hj] at hu
    rw [nth_eq hj]; simpa using hu
  have hol := hown.2.1
  rcases hown.2.2 with ⟨hv, hl0⟩ | ⟨g, cap, cur, hv, hbg, hg, hcap, hcm2, hcs, htake⟩
  · have hl : l = [] := by
      have := hl0
      simpa using this
    subst hl
    subst hv
    obtain ⟨v2, w2, hr2, h12, h22, _⟩ := run_append_own (P := Tryz.prog) w w.heap.size 25 ty 3 i (.int .i64 0) 1 8 Tryz.underlying25 hi hz hsz hby rfl (by decide) (.slice none 0 0) 0 [] (World.ownsRow_nil w _ _ 1) ⟨b, off, none⟩ n' c' (m.map (Value.int .i64)) (by simp [hn]) hnews (ints_oneCell .i64 m) (by unfold maxLen; simp at hlen; omega) (by simp at hlen; omega) (Nat.le_refl _)
    rw [hr] at hr2
    injection hr2 with e1 e2
    intro k hk
    rw [e1] at hk
    exact .inr (h12.lt k hk).1
  · subst hv
    by_cases hroom : l.length + n' ≤ cap
    · have hr2 := run_append_room (P := Tryz.prog) w 25 ty 3 i Tryz.underlying25 hi g l.length cap cur hg ⟨b, off, none⟩ n' c' (m.map (Value.int .i64)) (by simp [hn, hsz]) hnews (ints_oneCell .i64 m) hroom (by simp [hcs, hsz, ← hn]; omega)
      rw [hr] at hr2
      injection hr2 with e1 e2
      intro k hk
      rw [e1] at hk
      exact .inl hk
    · have hr2 := run_append_grow (P := Tryz.prog) w 25 ty 3 i (.int .i64 0) Tryz.underlying25 hi hz ⟨g, 0, none⟩ l.length cap (l.map (Value.int .i64)) (by simp [hsz]) (hown.2.cells (g := g) rfl) ⟨b, off, none⟩ n' c' (m.map (Value.int .i64)) (by simp [hn, hsz]) hnews (by omega) (by omega) (growslice_fits (by omega) (by rw [hby]; omega))
      rw [hr] at hr2
      injection hr2 with e1 e2
      intro k hk
      rw [e1] at hk
      have hk : some w.heap.size = some k := hk
      injection hk with hk
      exact .inr (Nat.le_of_eq hk)

/-- own slices in blocks apart -/
structure RowsI (w : World) (B : Nat) (rs : List (Value × List Int)) : Prop where
  own : ∀ (i : Nat) v l, rs[i]? = some (v, l) → OwnI w B v l
  ne : ∀ (i j : Nat) v l y m, i ≠ j → rs[i]? = some (v, l) → rs[j]? = some (y, m) → ∀ k, v.ownBlock = some k → y.ownBlock ≠ some k
theorem RowsI.keep {w w' : World} {B : Nat} {rs : List (Value × List Int)} (h : RowsI w B rs) (hk : ∀ v l, OwnI w B v l → OwnI w' B v l) : RowsI w' B rs :=
  ⟨fun i v l e => hk v l (h.own i v l e), h.ne⟩
theorem RowsI.below {w w' : World} {B : Nat} {rs : List (Value × List Int)} (h : RowsI w B rs) (hb : Below w.heap.size w w') : RowsI w' B rs := h.keep fun _ _ q => q.below hb
theorem RowsI.mono {w : World} {B B' : Nat} {rs : List (Value × List Int)} (h : RowsI w B rs) (hb : B' ≤ B) : RowsI w B' rs := ⟨fun i v l e => (h.own i v l e).mono hb, h.ne⟩
theorem RowsI.put {w w' : World} {B : Nat} {rs : List (Value × List Int)} (h : RowsI w B rs) {i : Nat} {v v' : Value} {l l' : List Int} (hi : rs[i]? = some (v, l))
    (hg : w.grownBy w' v.ownBlock) (ho : OwnI w' B v' l') (hf : ∀ k, v'.ownBlock = some k → v.ownBlock = some k ∨ w.heap.size ≤ k) : RowsI w' B (rs.set i (v', l')) := by
  have hil : i < rs.length := (List.getElem?_eq_some_iff.1 hi).1
  have get : ∀ (j : Nat) y m, (rs.set i (v', l'))[j]? = some (y, m) → (j = i ∧ y = v' ∧ m = l') ∨ (j ≠ i ∧ rs[j]? = some (y, m)) := by
    intro j y m e
    by_cases hj : j = i
    · subst hj
      rw [List.getElem?_set_self hil] at e
      injection e with e
      injection e with e1 e2
      exact .inl ⟨rfl, e1.symm, e2.symm⟩
    · rw [List.getElem?_set_ne (Ne.symm hj)] at e
      exact .inr ⟨hj, e⟩
  have far : ∀ (j : Nat) y m, j ≠ i → rs[j]? = some (y, m) → ∀ k, v'.ownBlock = some k → y.ownBlock ≠ some k := by
    intro j y m hj e k hk hy
    rcases hf k hk with q | q
    · exact h.ne i j v l y m (Ne.symm hj) hi e k q hy
    · have := ((h.own j y m e).lt k hy).2; omega
  refine ⟨?_, ?_⟩
  · intro j y m e
    rcases get j y m e with ⟨rfl, rfl, rfl⟩ | ⟨hj, e⟩
    · exact ho
    · refine (h.own j y m e).kept hg ?_
      cases hy : y.ownBlock with
      | none => exact .inl rfl
      | some k => exact .inr fun q => h.ne i j v l y m (Ne.symm hj) hi e k q.symm hy
  · intro j1 j2 y1 m1 y2 m2 hne e1 e2 k hk
    rcases get j1 y1 m1 e1 with ⟨rfl, rfl, rfl⟩ | ⟨hj1, e1'⟩
    · rcases get j2 y2 m2 e2 with ⟨rfl, _, _⟩ | ⟨hj2, e2'⟩
      · exact absurd rfl hne
      · exact far j2 y2 m2 hj2 e2' k hk
    · rcases get j2 y2 m2 e2 with ⟨rfl, rfl, rfl⟩ | ⟨hj2, e2'⟩
      · intro q
        exact far j1 y1 m1 hj1 e1' k q hk
      · exact h.ne j1 j2 y1 m1 y2 m2 hne e1' e2' k hk
/-- a literal takes an empty place -/
theorem RowsI.lit {w : World} {B : Nat} {rs : List (Value × List Int)} (h : RowsI w B rs) (hB : B ≤ w.heap.size) {i : Nat} {l : List Int} {cs : Array Value} (hi : rs[i]? = some (.slice none 0 0, [])) (hl : AllI64 l) (hc : cs = (l.map (Value.int .i64)).toArray) (hn : l.length ≤ maxLen) (n : Nat) (hnn : n = l.length) :
    RowsI (w.alloc (.cells cs 3)) B (rs.set i (.slice (some ⟨w.heap.size, 0, none⟩) n n, l)) :=
  h.put hi (grownBy_of_below ((Below.refl _ _).alloc (Nat.le_refl _) _)) (OwnI.lit w hB hl hc hn n hnn) (fun k hk => .inr (by have hk : some w.heap.size = some k := hk; injection hk with hk; exact Nat.le_of_eq hk))
theorem OwnI.notbox {w : World} {B b : Nat} {t : TypeId} {v : Value} {l : List Int} {cs : List Value} (ht : t ≠ 3) (h : OwnI w B v l) (hx : BoxN w b t cs) : ∀ k, v.ownBlock = some k → b ≠ k := by
  rintro k hk rfl
  rcases h.2.2 with h2 | ⟨g, cap, cur, rfl, hg, hr, r⟩
  · rw [h2.1] at hk; cases hk
  · cases hk
    unfold BoxN at hx
    rw [hx] at hr
    injection hr with hr
    injection hr with h1 h2 h3
    exact ht h2
theorem RowsI.boxkept {w w' : World} {B b : Nat} {t : TypeId} {v : Value} {l : List Int} {cs : List Value} (ht : t ≠ 3) (h : OwnI w B v l) (hx : BoxN w b t cs) (hg : w.grownBy w' v.ownBlock) : BoxN w' b t cs :=
  (hg.block b hx.lt (fun e => h.notbox ht hx b e.symm rfl)).trans hx
/-- append of one of the rows to another, as an operation of a drawn region -/
theorem RowsI.do_app {o : Oper} {a : Act} {w : World} {K : Act → World → Prop} {Q : Exit → Act → World → Prop} (s x : Operand)
    (ho : o.op = .call { callee := .builtin .append, args := #[s, x], argTypes := #[25, 25] })
    {B : Nat} {rs : List (Value × List Int)} (h : RowsI w B rs) (hB : B ≤ w.heap.size)
    (i j : Nat) {v y : Value} {l m : List Int} (hi : rs[i]? = some (v, l)) (hj : rs[j]? = some (y, m)) (hm : m ≠ []) (hlen : l.length + m.length ≤ 1000000000000) (hs : a.eval s = v) (hxx : a.eval x = y)
    (hK : ∀ v' w', RowsI w' B (rs.set i (v', l ++ m)) → (∀ b t cs, t ≠ 3 → BoxN w b t cs → BoxN w' b t cs) → Below B w w' → K (a.put o.dst v') w') : Oper.wp Tryz.prog o a w K Q := by
  obtain ⟨v', w', hr, h1, h2, h3⟩ := run_append_intsB (h.own i v l hi) (h.own j y m hj).ints hm hlen hB o.type
  unfold Oper.wp execOp
  simp only [ho, resolve, invoke, builtin, Sem.run_bind, Sem.run_pure, Result.andThen_ok, List.map_toArray, List.map_cons, List.map_nil, hs, hxx, hr]
  exact hK v' w' (h.put hi h2 h1 h3) (fun b t cs ht hx => RowsI.boxkept ht (h.own i v l hi) hx h2) ((h.own i v l hi).grown h2 hB)
/-- append of a slice that is only read to one of the rows, as an operation of a plain region -/
theorem RowsI.list_app {ops : Array Oper} {rest : List Oper} {o : Oper} {a : Act} {w : World} {Q : Exit → Act → World → Prop} (hgd : o.guard = none) (s x : Operand)
    (ho : o.op = .call { callee := .builtin .append, args := #[s, x], argTypes := #[25, 25] })
    {B : Nat} {rs : List (Value × List Int)} (h : RowsI w B rs) (hB : B ≤ w.heap.size)
    (i : Nat) {v y : Value} {l m : List Int} (hi : rs[i]? = some (v, l)) (hy : Ints w y m) (hm : m ≠ []) (hlen : l.length + m.length ≤ 1000000000000) (hs : a.eval s = v) (hxx : a.eval x = y)
    (hK : ∀ v' w', RowsI w' B (rs.set i (v', l ++ m)) → (∀ b t cs, t ≠ 3 → BoxN w b t cs → BoxN w' b t cs) → Below B w w' → wpList Tryz.prog ops Q rest (a.put o.dst v') w') : wpList Tryz.prog ops Q (o :: rest) a w := by
  obtain ⟨v', w', hr, h1, h2, h3⟩ := run_append_intsB (h.own i v l hi) hy hm hlen hB o.type
  refine wpList_plain hgd fun K hK' => ?_
  unfold Oper.wp execOp
  simp only [ho, resolve, invoke, builtin, Sem.run_bind, Sem.run_pure, Result.andThen_ok, List.map_toArray, List.map_cons, List.map_nil, hs, hxx, hr]
  exact hK' _ _ (hK v' w' (h.put hi h2 h1 h3) (fun b t cs ht hx => RowsI.boxkept ht (h.own i v l hi) hx h2) ((h.own i v l hi).grown h2 hB))
theorem RowsI.list_appN {ops : Array Oper} {rest : List Oper} {o : Oper} {a : Act} {w : World} {Q : Exit → Act → World → Prop} (hgd : o.guard = none) (s x : Operand)
    (ho : o.op = .call { callee := .builtin .append, args := #[s, x], argTypes := #[25, 25] })
    {B : Nat} {rs : List (Value × List Int)} (h : RowsI w B rs) (hB : B ≤ w.heap.size)
    (i : Nat) {v y : Value} {l m : List Int} (hi : rs[i]? = some (v, l)) (hy : Ints w y m) (hm : m ≠ []) (N : Nat) (hN : l.length + m.length = N) (hlen : N ≤ 1000000000000) (hs : a.eval s = v) (hxx : a.eval x = y)
    (hK : ∀ a' c' w', RowsI w' B (rs.set i (.slice a' N c', l ++ m)) → (∀ b t cs, t ≠ 3 → BoxN w b t cs → BoxN w' b t cs) → Below B w w' → wpList Tryz.prog ops Q rest (a.put o.dst (.slice a' N c')) w') : wpList Tryz.prog ops Q (o :: rest) a w := by
  refine RowsI.list_app hgd s x ho h hB i hi hy hm (by omega) hs hxx ?_
  intro v' w' h1 h2 h3
  have hil : i < rs.length := (List.getElem?_eq_some_iff.1 hi).1
  obtain ⟨a', c', e⟩ := (h1.own i v' (l ++ m) (List.getElem?_set_self hil)).shape
  rw [List.length_append, hN] at e
  subst e
  exact hK a' c' w' h1 h2 h3
/-- a store into a row -/
theorem RowsI.store {w : World} {B g n c : Nat} {rs : List (Value × List Int)} (h : RowsI w B rs) {i : Nat} {l : List Int} (hi : rs[i]? = some (.slice (some ⟨g, 0, none⟩) n c, l)) (hn : l.length = n) (k : Nat) {x : Int} (hx : I64 x) :
    RowsI (w.setCell ⟨g, k, none⟩ (.int .i64 x)) B (rs.set i (.slice (some ⟨g, 0, none⟩) n c, l.set k x)) :=
  h.put hi (grownBy_setCell _ g k _) ((h.own i _ _ hi).stored hn k hx).1 (fun k' hk => .inl hk)
section
variable {w0 w w' : World} {gb rb pb B : Nat} {gr : GroupD} {c h r v' : Value} {lc lh lr l' : List Int}
end
end Go.Proofs.YtacpnphfopmofaaGreat
