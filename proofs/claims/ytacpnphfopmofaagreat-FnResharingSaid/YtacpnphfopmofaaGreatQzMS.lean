/- Draws: shared keys (printed by gen_drz2.py). -/
import Derived.Test.YtacpnphfopmofaaGreatDrZ1S
import Derived.Test.YtacpnphfopmofaaGreatDrZ3S
import Derived.Test.YtacpnphfopmofaaGreatRegVS
namespace Go.Proofs.YtacpnphfopmofaaGreat
open Go.RowKit
set_option linter.unusedSimpArgs false
set_option linter.unusedVariables false
theorem dsL_b {gr : GroupD} (hg : OkG gr) (cs : List Int) (n : Nat) : ∀ x ∈ dsL gr cs n, 0 ≤ x ∧ x ≤ 2000000010 := by
  have h1 := hg.q1
  have h2 := hg.q2
  have h3 := hg.p2
  induction n with
  | zero => intro x hx; simp [dsL] at hx
  | succ n ih =>
    intro x hx
    unfold dsL at hx
    rcases List.mem_append.1 hx with h | h
    · exact ih x h
    · rw [List.mem_singleton] at h
      have := hornE_bd (show 0 < gr.q by omega) ((n : Int) + 1) cs
      rw [h]; omega
set_option maxRecDepth 100000 in
set_option maxHeartbeats 4000000 in
theorem spec_sharedKeyB (w0 : World) (g : Nat) (n P Q G : Int) (nn tt : Nat) (w : World) (h : Cur w0 w g n) (hb : Below w0.heap.size w0 w) (hn : n ≤ 500000000000000) (hgr : GrB ⟨P, Q, G⟩) (hnn : 1 ≤ nn ∧ nn ≤ 7) (htt : 1 ≤ tt ∧ tt ≤ 7) :
    Calls Tryz.prog 23 #[.pointer (some ⟨g, 0, none⟩), .agg #[.int .i64 P, .int .i64 Q, .int .i64 G], .int .i64 (nn : Int), .int .i64 (tt : Int)] w fun e w' => (∃ (vr0a : Value) (vr0b : Value) (lr0a : List Int) (lr0b : List Int), e = .returned (.agg #[vr0a, vr0b]) ∧ ((OwnI w' w.heap.size vr0a lr0a ∧ lr0a.length ≤ 7) ∧ (OwnI w' w.heap.size vr0b lr0b ∧ (1 ≤ lr0b.length ∧ lr0b.length ≤ 7 ∧ ∀ x ∈ lr0b, 0 ≤ x ∧ x ≤ 2000000010)))) ∧ Cur w0 w' g (n + 200000) ∧ Within g (g + 1) w w' := by
  have HGR := Lib.hid hgr
  have HBB := Lib.hid hb
  have hge := h.ge
  have hgw := h.lt
  clear hgr hb
  obtain ⟨W, hW⟩ : ∃ W, W = (w.alloc (.cells #[.int .i64 P, .int .i64 Q, .int .i64 G] 24)).alloc (.cells #[(.slice none 0 0), (.slice none 0 0)] 27) := ⟨_, rfl⟩
  have hbW : Below w.heap.size w W := by rw [hW]; (repeat (first | exact Below.refl _ _ | assumption | refine Below.drew ?_ | refine Below.alloc ?_ (by first | (simp; done) | (simp; omega)) _ | refine Below.setCell ?_ (by first | (simp; done) | (simp; omega)) _))
  have HZg : Hid (BoxN W w.heap.size 24 [.int .i64 P, .int .i64 Q, .int .i64 G]) := by unfold Hid; rw [hW]; have h := ((BoxN.new w [.int .i64 P, .int .i64 Q, .int .i64 G] 24).alloc (.cells #[(.slice none 0 0), (.slice none 0 0)] 27)); simpa using h
  have HX0 : Hid (BoxN W (w.heap.size + 1) 27 [(.slice none 0 0), (.slice none 0 0)]) := by unfold Hid; rw [hW]; have h := (BoxN.new (w.alloc (.cells #[.int .i64 P, .int .i64 Q, .int .i64 G] 24)) [(.slice none 0 0), (.slice none 0 0)] 27); simpa using h
  have hsW : W.heap.size = w.heap.size + 2 := by rw [hW]; simp
  have HC := Lib.hid (h.keep hbW)
  have HWw := Lib.hid (Within.of_below hbW : Within g (g + 1) w W)
  have HBW : Hid (Below w0.heap.size w0 W) := HBB.out.trans (hbW.mono HBB.out.size)
  clear h
  go_enter Tryz.func23, Tryz.ntmps23
  go_wp2_with fail
  rw [← hW]
  have HW := Lib.hid (Within.refl g (g + 1) W)
  clear hW hbW
  have z_0_0 := HZg.out.cell (i := 0) rfl
  have z_0_1 := HZg.out.cell (i := 1) rfl
  have z_0_2 := HZg.out.cell (i := 2) rfl
  have z_1_0 := HX0.out.cell (i := 0) rfl
  have z_1_1 := HX0.out.cell (i := 1) rfl
  try (go_wp2_with fail)
  clear z_0_0 z_0_1 z_0_2 z_1_0 z_1_1
  refine (spec_sGroup ⟨P, Q, G⟩ _).mono ?_
  rintro e u1 ⟨rfl, hb⟩
  obtain ⟨q1, hq1⟩ : ∃ r, shG ⟨P, Q, G⟩ = r := ⟨_, rfl⟩
  have Hq1 := Lib.hid hq1
  rw [hq1]
  clear hq1
  have hsz1 := hb.size
  replace HZg := Lib.hid (HZg.out.below hb)
  replace HX0 := Lib.hid (HX0.out.below hb)
  replace HW := Lib.hid (HW.out.trans (Within.of_below hb))
  replace HC := Lib.hid (HC.out.keep hb)
  clear hb
  cases q1 with
  | false =>
    have z_0_0 := HZg.out.cell (i := 0) rfl
    have z_0_1 := HZg.out.cell (i := 1) rfl
    have z_0_2 := HZg.out.cell (i := 2) rfl
    have r0 := fun o1 o2 => ((HX0.out.alloc o1).alloc o2).cell (i := 0) rfl
    have r1 := fun o1 o2 => ((HX0.out.alloc o1).alloc o2).cell (i := 1) rfl
    have fr := fun o1 o2 j => ((HX0.out.alloc o1).alloc o2).frozen j
    obtain ⟨V, hV⟩ : ∃ V, V = (u1.alloc (.cells #[.int .i64 1] 3)).alloc (.cells #[.int .i64 0] 3) := ⟨_, rfl⟩
    have hbV : Below u1.heap.size u1 V := by rw [hV]; (repeat (first | exact Below.refl _ _ | assumption | refine Below.drew ?_ | refine Below.alloc ?_ (by first | (simp; done) | (simp; omega)) _ | refine Below.setCell ?_ (by first | (simp; done) | (simp; omega)) _))
    have HOD : Hid (OwnD V u1.heap.size (.slice (some ⟨u1.heap.size, 0, none⟩) 1 1) (.slice (some ⟨u1.heap.size + 1, 0, none⟩) 1 1) [1] [0]) := by unfold Hid; rw [hV]; exact OwnD.lits u1
    have HSA := Lib.hid HOD.out.oa
    have HSB := Lib.hid HOD.out.ob
    have HLA : Hid (([1] : List Int).length ≤ 7) := by unfold Hid; decide
    have HLB : Hid (1 ≤ ([0] : List Int).length ∧ ([0] : List Int).length ≤ 7 ∧ ∀ x ∈ ([0] : List Int), 0 ≤ x ∧ x ≤ 2000000010) := ⟨by decide, by decide, fun x hx => by simp at hx; omega⟩
    have hub : w.heap.size + 1 < u1.heap.size := HX0.out.lt
    have hgub : g < u1.heap.size := HC.out.lt
    have HX9 := Lib.hid (HX0.out.below hbV)
    go_wp2_with fail
    rw [← hV]
    replace HW := Lib.hid (HW.out.trans (Within.of_below hbV))
    replace HC := Lib.hid (HC.out.keep hbV)
    clear r0 r1 fr hV hbV z_0_0 z_0_1 z_0_2
    have FHX0 := Lib.hid ((HX9.out.set 0 (.slice (some ⟨u1.heap.size, 0, none⟩) 1 1)).set 1 (.slice (some ⟨u1.heap.size + 1, 0, none⟩) 1 1))
    have t_HX0_0 := FHX0.out.cell (i := 0) rfl
    have t_HX0_1 := FHX0.out.cell (i := 1) rfl
    try (go_wp2_with fail)
    refine bodyPost_ret (v := .agg #[.slice (some ⟨u1.heap.size, 0, none⟩) 1 1, .slice (some ⟨u1.heap.size + 1, 0, none⟩) 1 1]) (by simp [results, Tryz.results23, go_sem, t_HX0_0, t_HX0_1]) rfl ⟨⟨_, _, _, _, rfl, ⟨((HSA.out.other (b := w.heap.size + 1) (by omega) 0 (.slice (some ⟨u1.heap.size, 0, none⟩) 1 1)).other (b := w.heap.size + 1) (by omega) 1 (.slice (some ⟨u1.heap.size + 1, 0, none⟩) 1 1)).mono (by omega), HLA.out⟩, ⟨((HSB.out.other (b := w.heap.size + 1) (by omega) 0 (.slice (some ⟨u1.heap.size, 0, none⟩) 1 1)).other (b := w.heap.size + 1) (by omega) 1 (.slice (some ⟨u1.heap.size + 1, 0, none⟩) 1 1)).mono (by omega), HLB.out⟩⟩, ((HC.out.setNew (b := w.heap.size + 1) (by omega) 0 (.slice (some ⟨u1.heap.size, 0, none⟩) 1 1)).setNew (b := w.heap.size + 1) (by omega) 1 (.slice (some ⟨u1.heap.size + 1, 0, none⟩) 1 1)).mono (by omega), (((HWw.out.trans HW.out).setNew (b := w.heap.size + 1) (by omega) 0 (.slice (some ⟨u1.heap.size, 0, none⟩) 1 1)).setNew (b := w.heap.size + 1) (by omega) 1 (.slice (some ⟨u1.heap.size + 1, 0, none⟩) 1 1))⟩
  | true =>
    have z_0_0 := HZg.out.cell (i := 0) rfl
    have z_0_1 := HZg.out.cell (i := 1) rfl
    have z_0_2 := HZg.out.cell (i := 2) rfl
    have z_1_0 := HX0.out.cell (i := 0) rfl
    have z_1_1 := HX0.out.cell (i := 1) rfl
    try (go_wp2_with fail)
    clear z_0_0 z_0_1 z_0_2 z_1_0 z_1_1
    have HG := Lib.hid (shG_ok Hq1.out)
    have hgb : g < u1.heap.size := HC.out.lt
    have hub : w.heap.size + 1 < u1.heap.size := HX0.out.lt
    have z_0_0 := HZg.out.cell (i := 0) rfl
    have z_0_1 := HZg.out.cell (i := 1) rfl
    have z_0_2 := HZg.out.cell (i := 2) rfl
    have z_1_0 := HX0.out.cell (i := 0) rfl
    have z_1_1 := HX0.out.cell (i := 1) rfl
    try (go_wp2_with fail)
    refine wp_region_noPanic ?_
    refine wp_region_Q (Within g (g + 1)) (DrawS w0 u1 g _ 20000 (fun w' => w'.cell? ⟨w.heap.size, 0, none⟩ = some (.int .i64 P) ∧ w'.cell? ⟨w.heap.size, 1, none⟩ = some (.int .i64 Q) ∧ w'.cell? ⟨w.heap.size, 2, none⟩ = some (.int .i64 G))) 11 [(0, []), (1, []), (2, []), (3, []), (4, [2, 1, 0]), (5, []), (6, [5, 1, 0]), (7, [0])] [8] (by kernel_rfl) (by kernel_rfl) (by kernel_rfl) rfl (fun _ _ _ _ h => h) (DrawS.good _ _ _ _ _ _) ⟨(Within.refl _ _ _).drew, by simpa using HC.out.keep (Below.refl _ _).drew, ⟨box_at z_0_0 (Below.refl _ _).drew, box_at z_0_1 (Below.refl _ _).drew, box_at z_0_2 (Below.refl _ _).drew⟩⟩ ?_
    simp only [pickP, pickN, List.getElem?_cons_zero, List.getElem?_cons_succ]
    iterate 4 (refine' chainQ_read (DrawS.good _ _ _ _ _ _) _ rfl rfl (fun m w' hm' hS' => ?_) ?_; rotate_left; · (simp only [lookP, allP, Act.put, List.getElem?_cons_zero, List.getElem?_cons_succ, List.setIfInBounds_toArray, List.set_cons_zero, List.set_cons_succ]; (try dsimp only [DrawS] at hS'); go_simp; (try with_reducible rfl)))
    -- 4: call { callee := value (func 37), args := #[t16, t17, t18], argTypes := #[50, 24, 3] }
    refine chainQ_do (d := (some 19)) (fun v z => ∃ (a : Option Addr) (c : Nat) (l : List Int), v = .slice a tt c ∧ OwnI z u1.heap.size (.slice a tt c) l ∧ l.length = tt ∧ ∀ x ∈ l, 0 ≤ x ∧ x ≤ 2000000010) (fun v w1 w2 hw h => by obtain ⟨a, c, l, e, h1, h2, h3⟩ := h; exact ⟨a, c, l, e, h1.within hw (by omega), h2, h3⟩) rfl rfl (fun m w' hm' hS' => ?_) ?_
    · simp only [lookP, allP, Act.put, List.getElem?_cons_zero, List.getElem?_cons_succ, List.setIfInBounds_toArray, List.set_cons_zero, List.set_cons_succ]
      intro K hK
      replace hm' : m < 8 := hm'
      go_simp
      go_at_call 37
      refine (spec_coins w0 g _ P Q G tt _ hS'.2.1 (hS'.1.belowOf (HW.out.belowOf HBW.out hge) hge) (by omega) HGR.out (by omega)).mono ?_
      rintro e z ⟨⟨v, l, rfl, ho, hl, hx⟩, hc, hw⟩
      obtain ⟨a, c, rfl⟩ := ho.shapeN hl
      have hsz0 := hS'.1.size
      exact hK.out _ _ hw ⟨hS'.1.trans hw, hc.mono (by omega), ⟨within_at (hS'.1.trans hw) z_0_0 (.inr (by omega)), within_at (hS'.1.trans hw) z_0_1 (.inr (by omega)), within_at (hS'.1.trans hw) z_0_2 (.inr (by omega))⟩⟩ ⟨a, c, l, rfl, ho.mono (by omega), hl, hx⟩
    -- 5: move t2
    refine' chainQ_read (DrawS.good _ _ _ _ _ _) (d := (some 20)) _ rfl rfl (fun m w' hm' hS' => ?_) ?_; rotate_left
    · simp only [lookP, allP, Act.put, List.getElem?_cons_zero, List.getElem?_cons_succ, List.setIfInBounds_toArray, List.set_cons_zero, List.set_cons_succ]
      (try dsimp only [DrawS] at hS')
      go_simp
      (try with_reducible rfl)
    -- 6: call { callee := value (func 47), args := #[t15, t19, t20], argTypes := #[24, 25, 3] }
    refine chainQ_do (d := (some 21)) (fun v z => ∃ (xa : Option Addr) (xc : Nat) (ya : Option Addr) (yc : Nat) (la lb : List Int), v = .agg #[.slice xa tt xc, .slice ya nn yc] ∧ OwnI z u1.heap.size (.slice xa tt xc) la ∧ OwnI z u1.heap.size (.slice ya nn yc) lb ∧ la.length = tt ∧ lb.length = nn ∧ ∀ x ∈ lb, 0 ≤ x ∧ x ≤ 2000000010) (fun v w1 w2 hw h => by obtain ⟨xa, xc, ya, yc, la, lb, e, h1, h2, h3⟩ := h; exact ⟨xa, xc, ya, yc, la, lb, e, h1.within hw (by omega), h2.within hw (by omega), h3⟩) rfl rfl (fun m w' hm' hS' => ?_) ?_
    · simp only [lookP, allP, Act.put, List.getElem?_cons_zero, List.getElem?_cons_succ, List.setIfInBounds_toArray, List.set_cons_zero, List.set_cons_succ]
      intro x4 hx4
      intro K hK
      replace hm' : m < 8 := hm'
      obtain ⟨a, c, l, rfl, ho, hl, hx⟩ := hx4
      go_simp
      go_at_call 47
      refine (spec_sDeal ⟨P, Q, G⟩ _ l nn _ HG.out ho.ints hx (by omega) (by omega)).mono ?_
      rintro e z ⟨⟨x, y, rfl, o1, o2, hne⟩, hbz⟩
      have hsz0 := hS'.1.size
      have hw := (Within.of_below hbz : Within g (g + 1) _ _)
      obtain ⟨xa, xc, rfl⟩ := OwnI.shapeN (n := tt) o1 (by rw [dcL_len]; exact hl)
      obtain ⟨ya, yc, rfl⟩ := OwnI.shapeN (n := nn) o2 (dsL_len ..)
      exact hK.out _ _ hw ⟨hS'.1.trans hw, (hS'.2.1.keep hbz).mono (by omega), ⟨within_at (hS'.1.trans hw) z_0_0 (.inr (by omega)), within_at (hS'.1.trans hw) z_0_1 (.inr (by omega)), within_at (hS'.1.trans hw) z_0_2 (.inr (by omega))⟩⟩ ⟨xa, xc, ya, yc, _, _, rfl, o1.mono (by omega), o2.mono (by omega), by rw [dcL_len]; exact hl, dsL_len .., dsL_b HG.out l nn⟩
    -- 7: call { callee := value (func 62), args := #[t21], argTypes := #[61] }
    refine chainQ_do (d := (some 22)) (fun v z => ∃ (xa : Option Addr) (xc : Nat) (ya : Option Addr) (yc : Nat) (la lb : List Int), v = .agg #[.slice xa tt xc, .slice ya nn yc] ∧ OwnI z u1.heap.size (.slice xa tt xc) la ∧ OwnI z u1.heap.size (.slice ya nn yc) lb ∧ la.length = tt ∧ lb.length = nn ∧ ∀ x ∈ lb, 0 ≤ x ∧ x ≤ 2000000010) (fun v w1 w2 hw h => by obtain ⟨xa, xc, ya, yc, la, lb, e, h1, h2, h3⟩ := h; exact ⟨xa, xc, ya, yc, la, lb, e, h1.within hw (by omega), h2.within hw (by omega), h3⟩) rfl rfl (fun m w' hm' hS' => ?_) ?_
    · simp only [lookP, allP, Act.put, List.getElem?_cons_zero, List.getElem?_cons_succ, List.setIfInBounds_toArray, List.set_cons_zero, List.set_cons_succ]
      intro x6 hx6
      intro K hK
      replace hm' : m < 8 := hm'
      obtain ⟨xa, xc, ya, yc, la, lb, rfl, o1, o2, l1, l2, l3⟩ := hx6
      go_simp
      go_at_call 62
      refine (spec_rShared _ ⟨la, lb⟩ _ (DlR.mk o1.ints o2.ints) (by show la.length ≤ _; omega) (by show lb.length ≤ _; omega)).mono ?_
      rintro e z ⟨⟨x, y, rfl, p1, p2⟩, hbz⟩
      have hsz0 := hS'.1.size
      have hw := (Within.of_below hbz : Within g (g + 1) _ _)
      obtain ⟨xa, xc, rfl⟩ := OwnI.shapeN (n := tt) p1 l1
      obtain ⟨ya, yc, rfl⟩ := OwnI.shapeN (n := nn) p2 l2
      exact hK.out _ _ hw ⟨hS'.1.trans hw, (hS'.2.1.keep hbz).mono (by omega), ⟨within_at (hS'.1.trans hw) z_0_0 (.inr (by omega)), within_at (hS'.1.trans hw) z_0_1 (.inr (by omega)), within_at (hS'.1.trans hw) z_0_2 (.inr (by omega))⟩⟩ ⟨xa, xc, ya, yc, la, lb, rfl, p1.mono (by omega), p2.mono (by omega), l1, l2, l3⟩
    refine chainQ_nil (fun u2 hS' => ?_)
    simp only [allP, Act.put, List.setIfInBounds_toArray, List.set_cons_zero, List.set_cons_succ]
    intro x7 hx7
    intro x6 hx6
    intro x4 hx4
    replace hS' : DrawS w0 u1 g _ 20000 _ 8 u2 := hS'
    obtain ⟨hw, hc, hC⟩ := hS'
    have hsz2 := hw.size
    replace HZg := Lib.hid (HZg.out.kept hw (.inr (by omega)))
    replace HX0 := Lib.hid (HX0.out.kept hw (.inr (by omega)))
    replace HW := Lib.hid (HW.out.trans hw)
    replace HC := Lib.hid hc
    clear hc hw hC
    clear z_0_0 z_0_1 z_0_2 z_1_0 z_1_1
    clear hx4 hx6
    obtain ⟨xa, xc, ya, yc, la, lb, rfl, ho1, ho2, hl1, hl2, hl3⟩ := hx7
    have HSA := Lib.hid ho1
    have HSB := Lib.hid ho2
    have HLA : Hid (la.length ≤ 7) := by unfold Hid; omega
    have HLB : Hid (1 ≤ lb.length ∧ lb.length ≤ 7 ∧ ∀ x ∈ lb, 0 ≤ x ∧ x ≤ 2000000010) := ⟨by omega, by omega, hl3⟩
    clear ho1 ho2
    have r_HX0_0 := HX0.out.cell (i := 0) rfl
    have r_HX0_1 := HX0.out.cell (i := 1) rfl
    have fr_HX0 := fun j => HX0.out.frozen j
    go_wp2_with fail
    refine NoPanic.normal ?_
    have FHX0 := Lib.hid ((HX0.out.set 0 (.slice xa tt xc)).set 1 (.slice ya nn yc))
    clear r_HX0_0 r_HX0_1 fr_HX0
    have t_HX0_0 := FHX0.out.cell (i := 0) rfl
    have t_HX0_1 := FHX0.out.cell (i := 1) rfl
    try (go_wp2_with fail)
    refine bodyPost_ret (v := .agg #[.slice xa tt xc, .slice ya nn yc]) (by simp [results, Tryz.results23, go_sem, t_HX0_0, t_HX0_1]) rfl ⟨⟨_, _, _, _, rfl, ⟨((HSA.out.other (b := w.heap.size + 1) (by omega) 0 (.slice xa tt xc)).other (b := w.heap.size + 1) (by omega) 1 (.slice ya nn yc)).mono (by omega), HLA.out⟩, ⟨((HSB.out.other (b := w.heap.size + 1) (by omega) 0 (.slice xa tt xc)).other (b := w.heap.size + 1) (by omega) 1 (.slice ya nn yc)).mono (by omega), HLB.out⟩⟩, ((HC.out.setNew (b := w.heap.size + 1) (by omega) 0 (.slice xa tt xc)).setNew (b := w.heap.size + 1) (by omega) 1 (.slice ya nn yc)).mono (by omega), (((HWw.out.trans HW.out).setNew (b := w.heap.size + 1) (by omega) 0 (.slice xa tt xc)).setNew (b := w.heap.size + 1) (by omega) 1 (.slice ya nn yc))⟩
end Go.Proofs.YtacpnphfopmofaaGreat
namespace Go.Proofs.YtacpnphfopmofaaGreat
open Go.RowKit
set_option linter.unusedSimpArgs false
set_option linter.unusedVariables false

def Parted (v1 v2 : Value) : Prop := v1.ownBlock = none ∨ v1.ownBlock ≠ v2.ownBlock
theorem Parted.new {w : World} {B : Nat} {v1 v2 v2' : Value} {l : List Int} (h : Parted v1 v2) (h1 : OwnI w B v1 l) (h2 : v2'.ownBlock = v2.ownBlock ∨ v2'.ownBlock = some w.heap.size) : Parted v1 v2' := by
  rcases h with h | h
  · exact .inl h
  · rcases h2 with h2 | h2
    · exact .inr (by rw [h2]; exact h)
    · refine .inr ?_
      rw [h2]
      intro e
      have := (h1.lt _ e).2
      omega
theorem Parted.since {u Y : World} {B : Nat} {x z : Value} {l1 l2 : List Int} (h1 : OwnI u Y.heap.size x l1) (h2 : OwnI Y B z l2) : Parted x z := by
  cases e : x.ownBlock with
  | none => exact .inl e
  | some k =>
    refine .inr fun e2 => ?_
    have a := (h1.lt k e).1
    rw [e] at e2
    have b := (h2.lt k e2.symm).2
    omega
/-- one integer appended: the row stays in its block, or lies in a new one -/
theorem run_append_oneX {w : World} {B : Nat} {v y : Value} {l : List Int} {x : Int} (hown : OwnI w B v l) (hy : Ints w y [x]) (hlen : l.length ≤ 100000000) (hB : B ≤ w.heap.size) (ty : TypeId) :
    ∃ v' w', (Builtin.append_ #[25, 25] ty #[v, y]).run Tryz.prog w = .ok v' w' ∧ OwnI w' B v' (l ++ [x]) ∧ w.grownBy w' v.ownBlock ∧ (v'.ownBlock = v.ownBlock ∨ v'.ownBlock = some w.heap.size) := by
  have hx : I64 x := hy.all.at_ 0
  obtain ⟨a, n, c, rfl⟩ := hy.shape
  have hn := hy.len
  simp only [List.length_cons, List.length_nil] at hn
  subst hn
  obtain ⟨b, o, rfl, hcx⟩ := hy.at_ (by omega)
  have hc0 := hcx 0 (by omega)
  rw [Nat.add_zero] at hc0
  have hc : w.cell? ⟨b, o, none⟩ = some (.int .i64 x) := hc0
  obtain ⟨v', w', hr, h1, h2⟩ := run_append_ints (t := 25) rfl hown hy (by simp; omega) hB ty
  refine ⟨v', w', hr, h1, h2, ?_⟩
  obtain ⟨i, hi, hz, hsz, hby⟩ := info_parts info_int
  have hnews : ∀ j u, [Value.int IntKind.i64 x][j]? = some u → w.cell? ((⟨b, o, none⟩ : Addr).add j) = some u := by
    intro j u hu
    cases j with
    | zero => rw [Addr.add_lit]; simp at hu; subst hu; exact hc
    | succ j => simp at hu
  rcases hown.2.2 with ⟨rfl, hl0⟩ | ⟨g, cap, cur, rfl, hbg, hg, hnc, hcm, hcs, htake⟩
  · have q := run_append_nil (P := Tryz.prog) w 25 ty 3 i (.int .i64 0) Tryz.underlying25 hi hz ⟨b, o, none⟩ 1 c [.int .i64 x] (by simp [hsz]) hnews (by omega) (by omega) (by omega)
    rw [q] at hr
    injection hr with e1 e2
    subst e1
    exact .inr rfl
  · by_cases hroom : l.length + 1 ≤ cap
    · have q := run_append_room (P := Tryz.prog) w 25 ty 3 i Tryz.underlying25 hi g l.length cap cur hg ⟨b, o, none⟩ 1 c [.int .i64 x] (by simp [hsz]) hnews (by intro u hu; simp at hu; subst hu; rfl) hroom (by simp [hsz]; omega)
      rw [q] at hr
      injection hr with e1 e2
      subst e1
      exact .inl rfl
    · have holds : ∀ j u, (l.map (Value.int .i64))[j]? = some u → w.cell? ((⟨g, 0, none⟩ : Addr).add j) = some u := hown.2.cells (g := g) rfl
      have q := run_append_grow (P := Tryz.prog) w 25 ty 3 i (.int .i64 0) Tryz.underlying25 hi hz ⟨g, 0, none⟩ l.length cap (l.map (Value.int .i64)) (by simp [hsz]) holds ⟨b, o, none⟩ 1 c [.int .i64 x] (by simp [hsz]) hnews (by omega) (by omega) (growslice_fits (by omega) (by rw [hby]; omega))
      rw [q] at hr
      injection hr with e1 e2
      subst e1
      exact .inr rfl
theorem wpList_append_oneX {ops : Array Oper} {rest : List Oper} {o : Oper} {a : Act} {w : World} {Q : Exit → Act → World → Prop} (hg : o.guard = none) (s x : Operand)
    (ho : o.op = .call { callee := .builtin .append, args := #[s, x], argTypes := #[25, 25] })
    (B : Nat) (v y : Value) (l : List Int) (z : Int) (N : Nat) (hs : a.eval s = v) (hown : OwnI w B v l) (hx : a.eval x = y) (hy : Ints w y [z]) (hlen : l.length ≤ 100000000) (hB : B ≤ w.heap.size) (hN : l.length + 1 = N)
    (hK : ∀ a' c' w', OwnI w' B (.slice a' N c') (l ++ [z]) → w.grownBy w' v.ownBlock → ((Value.slice a' N c').ownBlock = v.ownBlock ∨ (Value.slice a' N c').ownBlock = some w.heap.size) → wpList Tryz.prog ops Q rest (a.put o.dst (.slice a' N c')) w') : wpList Tryz.prog ops Q (o :: rest) a w := by
  obtain ⟨v', w', hr, h1, h2, h3⟩ := run_append_oneX hown hy hlen hB o.type
  obtain ⟨a', c', e⟩ := h1.shape
  rw [show (l ++ [z]).length = N by simp; exact hN] at e
  subst e
  refine wpList_plain hg fun K hK' => ?_
  unfold Oper.wp execOp
  simp only [ho, resolve, invoke, builtin, Sem.run_bind, Sem.run_pure, Result.andThen_ok, List.map_toArray, List.map_cons, List.map_nil, hs, hx, hr]
  exact hK' _ _ (hK a' c' w' h1 h2 h3)
/-- a row of proofs: each in rows of its own, apart from the row z of integers -/
def OwnZ (w : World) (B : Nat) (z v : Value) (ds : List DealingD) : Prop :=
  ∃ css : List (List Value), css.length = ds.length ∧ w.ownsRow B 61 2 v ds.length css.flatten ∧
    ∀ i (h1 : i < css.length) (h2 : i < ds.length), ∃ x y, css[i] = [x, y] ∧ (OwnI w B x ds[i].c ∧ Parted x z) ∧ (OwnI w B y ds[i].s ∧ Parted y z)
section
variable {w w' : World} {B : Nat} {z z' v : Value} {l : List Int} {ds : List DealingD} {d : DealingD}
theorem OwnZ.nil (w : World) (B : Nat) (z : Value) : OwnZ w B z (.slice none 0 0) [] :=
  ⟨[], rfl, by simpa using World.ownsRow_nil w B 61 2, fun i h1 _ => by simp at h1⟩
theorem OwnZ.lens {css : List (List Value)} (hl : css.length = ds.length)
    (hel : ∀ i (h1 : i < css.length) (h2 : i < ds.length), ∃ x y, css[i] = [x, y] ∧ (OwnI w B x ds[i].c ∧ Parted x z) ∧ (OwnI w B y ds[i].s ∧ Parted y z)) : ∀ c ∈ css, c.length = 2 := by
  intro c hc
  obtain ⟨i, hi, rfl⟩ := List.getElem_of_mem hc
  obtain ⟨x, y, e, _⟩ := hel i hi (by omega)
  rw [e]; rfl
theorem OwnZ.rd (h : OwnZ w B z v ds) : RdR rDealing w v ds := by
  obtain ⟨css, hl, hO, hel⟩ := h
  refine FrR.rd (e := 61) (w0 := w) (B := B) ⟨css, hl, hO, fun i h1 h2 => ?_⟩ (Below.refl _ _)
  obtain ⟨x, y, e, ⟨q1, _⟩, ⟨q2, _⟩⟩ := hel i h1 h2
  rw [e]
  exact rowDl q1.ints q2.ints
theorem OwnZ.len64 (h : OwnZ w B z v ds) : ∃ a c, v = .slice a ds.length c := by
  obtain ⟨a, n, c, rfl⟩ := h.rd.shape
  have := h.rd.len
  subst this
  exact ⟨a, c, rfl⟩
theorem OwnZ.below (h : OwnZ w B z v ds) (hb : Below w.heap.size w w') : OwnZ w' B z v ds := by
  obtain ⟨css, hl, hO, hel⟩ := h
  refine ⟨css, hl, ownsRow_frame hO fun g hg => hb.block g (hO.lt g hg).2, fun i h1 h2 => ?_⟩
  obtain ⟨x, y, e, ⟨q1, p1⟩, ⟨q2, p2⟩⟩ := hel i h1 h2
  exact ⟨x, y, e, ⟨q1.below hb, p1⟩, ⟨q2.below hb, p2⟩⟩
theorem OwnZ.other {b : Nat} (h : OwnZ w B z v ds) (hb : b < B) (j : Nat) (x : Value) : OwnZ (w.setCell ⟨b, j, none⟩ x) B z v ds := by
  obtain ⟨css, hl, hO, hel⟩ := h
  refine ⟨css, hl, ownsRow_setCell_below hO hb x, fun i h1 h2 => ?_⟩
  obtain ⟨x', y, e, ⟨q1, p1⟩, ⟨q2, p2⟩⟩ := hel i h1 h2
  exact ⟨x', y, e, ⟨q1.other hb _ _, p1⟩, ⟨q2.other hb _ _, p2⟩⟩
theorem OwnI.apartZ' {n : Nat} {xs : List Value} {q : Value} (h : OwnI w B q l) (hO : w.ownsRow B 61 2 v n xs) : v.ownBlock = none ∨ v.ownBlock ≠ q.ownBlock := by
  rcases h.apartDs hO with h1 | h1
  · rw [h1]
    cases e : v.ownBlock with
    | none => exact .inl rfl
    | some k => exact .inr (by simp)
  · exact .inr fun e => h1 e.symm
/-- the row of integers has grown -/
theorem OwnZ.ints (h : OwnZ w B z v ds) (hz : OwnI w B z l) (hg : w.grownBy w' z.ownBlock) (hn : z'.ownBlock = z.ownBlock ∨ z'.ownBlock = some w.heap.size) : OwnZ w' B z' v ds := by
  obtain ⟨css, hl, hO, hel⟩ := h
  refine ⟨css, hl, hO.kept hg (hz.apartZ' hO), fun i h1 h2 => ?_⟩
  obtain ⟨x, y, e, ⟨q1, p1⟩, ⟨q2, p2⟩⟩ := hel i h1 h2
  exact ⟨x, y, e, ⟨q1.kept hg p1, p1.new q1 hn⟩, ⟨q2.kept hg p2, p2.new q2 hn⟩⟩
theorem run_append_Z {b : Nat} {x y : Value} (h : OwnZ w B z v ds) (hz : OwnI w B z l) (hx : OwnI w B x d.c) (hy : OwnI w B y d.s) (px : Parted x z) (py : Parted y z)
    (hc0 : w.cell? ⟨b, 0, none⟩ = some x) (hc1 : w.cell? ⟨b, 1, none⟩ = some y) (hB : B ≤ w.heap.size) (hlen : ds.length ≤ 100000000) (ty : TypeId) :
    ∃ v' w', (Builtin.append_ #[28, 28] ty #[v, .slice (some ⟨b, 0, none⟩) 1 1]).run Tryz.prog w = .ok v' w' ∧ OwnZ w' B z v' (ds ++ [d]) ∧ OwnI w' B z l ∧ w.grownBy w' v.ownBlock := by
  obtain ⟨css, hl, hO, hel⟩ := h
  obtain ⟨i, hi, hzr, hsz, hby⟩ := infoDl
  have hfl := flat_len (OwnZ.lens hl hel)
  obtain ⟨a1, c1, e1⟩ := hx.shape
  obtain ⟨a2, c2, e2⟩ := hy.shape
  have hnews : ∀ j t, [x, y][j]? = some t → w.cell? ((⟨b, 0, none⟩ : Addr).add j) = some t := by
    intro j t ht
    rw [Addr.add_lit, Nat.zero_add]
    rcases j with _ | _ | j
    · simp at ht; subst ht; exact hc0
    · simp at ht; subst ht; exact hc1
    · simp at ht
  have hones : ∀ t ∈ [x, y], t.oneCell' = true := by
    intro t ht
    simp only [List.mem_cons, List.not_mem_nil, or_false] at ht
    rcases ht with rfl | rfl
    · rw [e1]; rfl
    · rw [e2]; rfl
  obtain ⟨v', w', hr, h1, h2, _⟩ := run_append_own (P := Tryz.prog) w B 28 ty 61 i _ 2 i.bytes Tryz.underlying28 hi hzr hsz rfl rfl (by decide) v ds.length css.flatten hO ⟨b, 0, none⟩ 1 1 [x, y] (by simp) hnews hones (by unfold maxLen; omega) (by
    have : (ds.length + 1) * i.bytes ≤ 1000000000 * 1000 := Nat.mul_le_mul (by omega) hby
    omega) hB
  refine ⟨v', w', hr, ⟨css ++ [[x, y]], by simp [hl], by simpa [List.flatten_append] using h1, fun k k1 k2 => ?_⟩, hz.kept h2 (hz.apartDs hO), h2⟩
  by_cases hk : k < ds.length
  · rw [List.getElem_append_left (by omega), List.getElem_append_left hk]
    obtain ⟨x', y', e, ⟨q1, p1⟩, ⟨q2, p2⟩⟩ := hel k (by omega) hk
    exact ⟨x', y', e, ⟨q1.kept h2 (q1.apartDs hO), p1⟩, ⟨q2.kept h2 (q2.apartDs hO), p2⟩⟩
  · have hk' : k = ds.length := by simp at k2; omega
    subst hk'
    refine ⟨x, y, ?_, ?_, ?_⟩
    · rw [List.getElem_append_right (by omega)]; simp [hl]
    · rw [List.getElem_append_right (by omega)]; simp only [Nat.sub_self, List.getElem_cons_zero]; exact ⟨hx.kept h2 (hx.apartDs hO), px⟩
    · rw [List.getElem_append_right (by omega)]; simp only [Nat.sub_self, List.getElem_cons_zero]; exact ⟨hy.kept h2 (hy.apartDs hO), py⟩
theorem OwnZ.lt (h : OwnZ w B z v ds) : ∀ k, v.ownBlock = some k → B ≤ k ∧ k < w.heap.size := by
  obtain ⟨css, hl, hO, hel⟩ := h
  exact fun k hk => hO.lt k hk
theorem wpList_append_Z {ops : Array Oper} {rest : List Oper} {o : Oper} {a : Act} {Q : Exit → Act → World → Prop} (hg : o.guard = none) (s y0 : Operand)
    (ho : o.op = .call { callee := .builtin .append, args := #[s, y0], argTypes := #[28, 28] })
    (b N : Nat) (x y : Value) (hs : a.eval s = v) (h : OwnZ w B z v ds) (hz : OwnI w B z l) (hx : OwnI w B x d.c) (hy : OwnI w B y d.s) (px : Parted x z) (py : Parted y z) (he : a.eval y0 = .slice (some ⟨b, 0, none⟩) 1 1)
    (hc0 : w.cell? ⟨b, 0, none⟩ = some x) (hc1 : w.cell? ⟨b, 1, none⟩ = some y) (hB : B ≤ w.heap.size) (hlen : ds.length ≤ 100000000) (hN : ds.length + 1 = N)
    (hK : ∀ a' c' w', OwnZ w' B z (.slice a' N c') (ds ++ [d]) → OwnI w' B z l → w.grownBy w' v.ownBlock → wpList Tryz.prog ops Q rest (a.put o.dst (.slice a' N c')) w') : wpList Tryz.prog ops Q (o :: rest) a w := by
  obtain ⟨v', w', hr, h1, h2, h3⟩ := run_append_Z h hz hx hy px py hc0 hc1 hB hlen o.type
  obtain ⟨a', c', e⟩ := h1.len64
  rw [show (ds ++ [d]).length = N by simp; exact hN] at e
  subst e
  refine wpList_plain hg fun K hK' => ?_
  unfold Oper.wp execOp
  simp only [ho, resolve, invoke, builtin, Sem.run_bind, Sem.run_pure, Result.andThen_ok, List.map_toArray, List.map_cons, List.map_nil, hs, he, hr]
  exact hK' _ _ (hK a' c' w' h1 h2 h3)
theorem OwnZ.frame {w w' : World} {B : Nat} {z v : Value} {ds : List DealingD} (h : OwnZ w B z v ds) (hs : w.heap.size ≤ w'.heap.size) (hb : ∀ k, B ≤ k → k < w.heap.size → w'.heap[k]? = w.heap[k]?) : OwnZ w' B z v ds := by
  obtain ⟨css, hl, hO, hel⟩ := h
  refine ⟨css, hl, ownsRow_frame hO fun g hg => hb g (hO.lt g hg).1 (hO.lt g hg).2, fun i h1 h2 => ?_⟩
  obtain ⟨x, y, e, ⟨q1, p1⟩, ⟨q2, p2⟩⟩ := hel i h1 h2
  exact ⟨x, y, e, ⟨q1.since hs hb, p1⟩, ⟨q2.since hs hb, p2⟩⟩
theorem OwnZ.within {w w' : World} {B lo hi : Nat} {z v : Value} {ds : List DealingD} (h : OwnZ w B z v ds) (hw : Within lo hi w w') (hd : hi ≤ B) : OwnZ w' B z v ds := h.frame hw.size fun k hk hlt => hw.block k hlt (.inr (by omega))
theorem OwnZ.ownDs {w : World} {B : Nat} {z v : Value} {ds : List DealingD} (h : OwnZ w B z v ds) : OwnDs w B v ds := by
  obtain ⟨css, hl, hO, hel⟩ := h
  refine ⟨css, hl, hO, fun i h1 h2 => ?_⟩
  obtain ⟨x, y, e, ⟨q1, _⟩, ⟨q2, _⟩⟩ := hel i h1 h2
  exact ⟨x, y, e, q1, q2⟩
theorem OwnI.withinR {w w' : World} {B lo hi : Nat} {v : Value} {l : List Int} (h : OwnI w B v l) (hw : Within lo hi w w') (hd : hi ≤ B) : OwnI w' B v l := h.since hw.size fun k hk hlt => hw.block k hlt (.inr (by omega))
theorem OwnI.here {w : World} {B : Nat} {v : Value} {l : List Int} (h : OwnI w B v l) : Ints w v l := h.ints
end
end Go.Proofs.YtacpnphfopmofaaGreat
