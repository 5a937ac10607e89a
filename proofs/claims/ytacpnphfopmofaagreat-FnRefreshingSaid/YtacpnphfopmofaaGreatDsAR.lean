/- Draws: keys to be refreshed (printed by gen_drz4.py). -/
import Derived.Test.YtacpnphfopmofaaGreatDrZ3R
import Derived.Test.YtacpnphfopmofaaGreatDrShR
import Derived.Test.YtacpnphfopmofaaGreatMixR
namespace Go.Proofs.YtacpnphfopmofaaGreat
open Go.RowKit
set_option linter.unusedSimpArgs false
set_option linter.unusedVariables false

theorem spec_sharedKeyI (w0 : World) (g : Nat) (n P Q G : Int) (nn tt : Int) (w : World) (h : Cur w0 w g n) (hb : Below w0.heap.size w0 w) (hn : n ≤ 400000000000000) (hgr : GrB ⟨P, Q, G⟩) (hnn : 1 ≤ nn ∧ nn ≤ 7) (htt : 1 ≤ tt ∧ tt ≤ 7) :
    Calls Tryz.prog 23 #[.pointer (some ⟨g, 0, none⟩), .agg #[.int .i64 P, .int .i64 Q, .int .i64 G], .int .i64 nn, .int .i64 tt] w fun e w' => (∃ (va vb : Value) (la lb : List Int), e = .returned (.agg #[va, vb]) ∧ (Since w.heap.size w' (fun z => Ints z va la) ∧ la.length ≤ 7) ∧ (Since w.heap.size w' (fun z => Ints z vb lb) ∧ (1 ≤ lb.length ∧ lb.length ≤ 7))) ∧ Cur w0 w' g (n + 200000) ∧ Within g (g + 1) w w' := by
  obtain ⟨a, rfl⟩ := Int.eq_ofNat_of_zero_le (show 0 ≤ nn by omega)
  obtain ⟨b, rfl⟩ := Int.eq_ofNat_of_zero_le (show 0 ≤ tt by omega)
  refine (spec_sharedKey w0 g n P Q G a b w h hb (by omega) hgr (by omega) (by omega)).mono ?_
  rintro e w' ⟨⟨va, vb, la, lb, rfl, ⟨h1, h2⟩, h3, h4⟩, hc, hw⟩
  exact ⟨⟨va, vb, la, lb, rfl, ⟨Since.of_ownI h1 (Nat.le_refl _), h2⟩, Since.of_ownI h3 (Nat.le_refl _), h4⟩, hc, hw⟩
theorem spec_zerosI (w0 : World) (g : Nat) (n P Q G : Int) (i nn tt : Int) (w : World) (h : Cur w0 w g n) (hb : Below w0.heap.size w0 w) (hn : n ≤ 400000000000000) (hgr : GrB ⟨P, Q, G⟩) (hi : 0 ≤ i ∧ i ≤ 1000) (hnn : 1 ≤ nn ∧ nn ≤ 7) (htt : 2 ≤ tt ∧ tt ≤ 7) :
    Calls Tryz.prog 25 #[.pointer (some ⟨g, 0, none⟩), .agg #[.int .i64 P, .int .i64 Q, .int .i64 G], .int .i64 i, .int .i64 nn, .int .i64 tt] w fun e w' => (∃ (v : Value) (l : List DealingD), e = .returned v ∧ OwnDs w' w.heap.size v l ∧ l.length ≤ 3) ∧ Cur w0 w' g (n + 100000000) ∧ Within g (g + 1) w w' := by
  obtain ⟨a, rfl⟩ := Int.eq_ofNat_of_zero_le (show 0 ≤ nn by omega)
  obtain ⟨b, rfl⟩ := Int.eq_ofNat_of_zero_le (show 0 ≤ tt by omega)
  refine (spec_zeros w0 g n P Q G i a b w h hb (by omega) hgr hi (by omega) (by omega)).mono ?_
  rintro e w' ⟨⟨v, l, rfl, h1, h2⟩, hc, hw⟩
  exact ⟨⟨v, l, rfl, h1, h2⟩, hc, hw⟩
theorem SinceT.dropS {B T : Nat} {w : World} {x y : Value} {k : Nat} {l : List Int} (h : SinceT B T w (fun u => Ints u x l)) (f : ∀ u l, Ints u x l → Ints u y (l.drop k)) : SinceT B T w (fun u => Ints u y (l.drop k)) := ⟨h.1, fun u hs hb => f _ _ (h.2 u hs hb)⟩
set_option maxRecDepth 100000 in
set_option maxHeartbeats 8000000 in
theorem spec_DrawRefreshKey (v : Value) (w : World) (h : Bytes w v) :
    Calls Tryz.prog 5 #[v] w fun e w' => (∃ (P : Int) (Q : Int) (G : Int) (vr1a : Value) (vr1b : Value) (lr1a : List Int) (lr1b : List Int) (vr2 : Value) (lr2 : List DealingD), e = .returned (.tuple #[.agg #[.int .i64 P, .int .i64 Q, .int .i64 G], .agg #[vr1a, vr1b], vr2]) ∧ GrB ⟨P, Q, G⟩ ∧ (Ints w' vr1a lr1a ∧ lr1a.length ≤ 7) ∧ (Ints w' vr1b lr1b ∧ lr1b.length ≤ 7) ∧ (RdR rDealing w' vr2 lr2 ∧ lr2.length ≤ 3)) ∧ Below w.heap.size w w' := by
  obtain ⟨a, m, c, rfl, hk1, hk2, hv⟩ := h
  have HY : Hid (Bytes w (.slice a m c)) := ⟨a, m, c, rfl, hk1, hk2, hv⟩
  clear hv
  unfold maxLen at hk2
  obtain ⟨U, hU⟩ : ∃ U, U = (w.alloc (.cells #[.int .i64 0, .int .i64 0, .int .i64 0] 24)).alloc (.cells #[(.slice none 0 0), (.slice none 0 0)] 27) := ⟨_, rfl⟩
  have hbU : Below w.heap.size w U := by rw [hU]; (repeat (first | exact Below.refl _ _ | assumption | refine Below.drew ?_ | refine Below.alloc ?_ (by first | (simp; done) | (simp; omega)) _ | refine Below.setCell ?_ (by first | (simp; done) | (simp; omega)) _))
  have HX0 : Hid (BoxN U w.heap.size 24 [.int .i64 0, .int .i64 0, .int .i64 0]) := by unfold Hid; rw [hU]; have h := ((BoxN.new w [.int .i64 0, .int .i64 0, .int .i64 0] 24).alloc (.cells #[(.slice none 0 0), (.slice none 0 0)] 27)); simpa using h
  have HX1 : Hid (BoxN U (w.heap.size + 1) 27 [(.slice none 0 0), (.slice none 0 0)]) := by unfold Hid; rw [hU]; have h := (BoxN.new (w.alloc (.cells #[.int .i64 0, .int .i64 0, .int .i64 0] 24)) [(.slice none 0 0), (.slice none 0 0)] 27); simpa using h
  have hsU : U.heap.size = w.heap.size + 1 + 1 := by rw [hU]; simp
  obtain ⟨W, hW⟩ : ∃ W, W = U.alloc (.cells #[.slice a m c, .int .i64 0, .int .u64 0] 53) := ⟨_, rfl⟩
  have HC : Hid (Cur U W U.heap.size 0) := by unfold Hid; rw [hW]; exact Cur.new U (HY.out.below hbU)
  have hbW : Below U.heap.size U W := by rw [hW]; exact (Below.refl _ _).alloc (Nat.le_refl _) _
  have HBW := Lib.hid (Below.next hbU hbW)
  have HUB := Lib.hid hbW
  replace HX0 := Lib.hid (HX0.out.below hbW)
  replace HX1 := Lib.hid (HX1.out.below hbW)
  obtain ⟨g, hg⟩ : ∃ g, g = U.heap.size := ⟨_, rfl⟩
  have HSU : Hid (w.heap.size + 1 + 1 = g) := by unfold Hid; rw [hg, hsU]
  have HWS : Hid (W.heap.size = g + 1) := by unfold Hid; rw [hW, hg]; simp
  go_enter Tryz.func5, Tryz.ntmps5
  go_wp2_with fail
  rw [← hU, ← hW]
  rw [HSU.out]
  rw [← hg] at HC HUB
  have HUS : Hid (U.heap.size = g) := hg.symm
  have hwg : w.heap.size + 2 = g := HSU.out
  have hsW := HWS.out
  have HW := Lib.hid (Within.refl g (g + 1) W)
  have HUC : Hid (Below U.heap.size U W) := by unfold Hid; rw [HUS.out]; exact HUB.out
  clear hU hW hbU hbW hsU hg
  have z_0_0 := HX0.out.cell (i := 0) rfl
  have z_0_1 := HX0.out.cell (i := 1) rfl
  have z_0_2 := HX0.out.cell (i := 2) rfl
  have z_1_0 := HX1.out.cell (i := 0) rfl
  have z_1_1 := HX1.out.cell (i := 1) rfl
  try (go_wp2_with fail)
  clear z_0_0 z_0_1 z_0_2 z_1_0 z_1_1
  refine (spec_shared U g _ _ HC.out (HW.out.belowOf HUC.out (Nat.le_of_eq HUS.out)) (by omega)).mono ?_
  rintro e u1 ⟨⟨P, Q, G, rfl, P1, Q1, G1⟩, hc, hw⟩
  have HGR : Hid (GrB ⟨P, Q, G⟩) := ⟨P1, Q1, G1⟩
  clear P1 Q1 G1
  have hsz1 := hw.size
  replace HX0 := Lib.hid (HX0.out.kept hw (.inl (by omega)))
  replace HX1 := Lib.hid (HX1.out.kept hw (.inl (by omega)))
  replace HW := Lib.hid (HW.out.trans hw)
  replace HC := Lib.hid hc
  clear hc hw
  have z_0_0 := HX0.out.cell (i := 0) rfl
  have z_0_1 := HX0.out.cell (i := 1) rfl
  have z_0_2 := HX0.out.cell (i := 2) rfl
  have z_1_0 := HX1.out.cell (i := 0) rfl
  have z_1_1 := HX1.out.cell (i := 1) rfl
  have lt_HX0 := HX0.out.lt
  have lt_HX1 := HX1.out.lt
  obtain ⟨V2, hV⟩ : ∃ V, V = u1.alloc (.cells #[.int .i64 P, .int .i64 Q, .int .i64 G] 24) := ⟨_, rfl⟩
  have hbV : Below u1.heap.size u1 V2 := by rw [hV]; (repeat (first | exact Below.refl _ _ | assumption | refine Below.drew ?_ | refine Below.alloc ?_ (by first | (simp; done) | (simp; omega)) _ | refine Below.setCell ?_ (by first | (simp; done) | (simp; omega)) _))
  have HZ1 : Hid (BoxN V2 u1.heap.size 24 [.int .i64 P, .int .i64 Q, .int .i64 G]) := by unfold Hid; rw [hV]; have h := (BoxN.new u1 [.int .i64 P, .int .i64 Q, .int .i64 G] 24); simpa using h
  have hgc : g < u1.heap.size := HC.out.lt
  go_wp2_with fail
  rw [← hV]
  have hsV2 : V2.heap.size = u1.heap.size + 1 := by rw [hV]; simp
  clear hV hgc
  replace HX0 := Lib.hid (HX0.out.below hbV)
  replace HX1 := Lib.hid (HX1.out.below hbV)
  replace HW := Lib.hid (HW.out.trans (Within.of_below hbV))
  replace HC := Lib.hid (HC.out.keep hbV)
  clear hbV
  clear z_0_0 z_0_1 z_0_2 z_1_0 z_1_1
  clear lt_HX0
  clear lt_HX1
  refine (spec_pick U g _ 4 _ HC.out (HW.out.belowOf HUC.out (Nat.le_of_eq HUS.out)) (by omega) ).mono ?_
  rintro e u3 ⟨⟨x3, rfl, x3l, x3u, x3m, _⟩, hc, hw⟩
  replace x3m := x3m (by omega)
  have hsz3 := hw.size
  replace HX0 := Lib.hid (HX0.out.kept hw (.inl (by omega)))
  replace HX1 := Lib.hid (HX1.out.kept hw (.inl (by omega)))
  replace HZ1 := Lib.hid (HZ1.out.kept hw (.inr (by omega)))
  replace HW := Lib.hid (HW.out.trans hw)
  replace HC := Lib.hid hc
  clear hc hw
  have ew2 : IntKind.i64.wrap (2 + x3) = 2 + x3 := IntWalk.i64_in _ (by omega)
  have ew3 : IntKind.i64.wrap ((2 + x3) - 1) = (2 + x3) - 1 := IntWalk.i64_in _ (by omega)
  have z_0_0 := HX0.out.cell (i := 0) rfl
  have z_0_1 := HX0.out.cell (i := 1) rfl
  have z_0_2 := HX0.out.cell (i := 2) rfl
  have z_1_0 := HX1.out.cell (i := 0) rfl
  have z_1_1 := HX1.out.cell (i := 1) rfl
  have z_2_0 := HZ1.out.cell (i := 0) rfl
  have z_2_1 := HZ1.out.cell (i := 1) rfl
  have z_2_2 := HZ1.out.cell (i := 2) rfl
  try (go_wp2_with fail)
  clear z_0_0 z_0_1 z_0_2 z_1_0 z_1_1 z_2_0 z_2_1 z_2_2
  refine (spec_pick U g _ ((2 + x3) - 1) _ HC.out (HW.out.belowOf HUC.out (Nat.le_of_eq HUS.out)) (by omega) ).mono ?_
  rintro e u4 ⟨⟨x4, rfl, x4l, x4u, x4m, _⟩, hc, hw⟩
  have hsz4 := hw.size
  replace HX0 := Lib.hid (HX0.out.kept hw (.inl (by omega)))
  replace HX1 := Lib.hid (HX1.out.kept hw (.inl (by omega)))
  replace HZ1 := Lib.hid (HZ1.out.kept hw (.inr (by omega)))
  replace HW := Lib.hid (HW.out.trans hw)
  replace HC := Lib.hid hc
  clear hc hw
  have ew4 : IntKind.i64.wrap (2 + x4) = 2 + x4 := IntWalk.i64_in _ (by omega)
  have z_0_0 := HX0.out.cell (i := 0) rfl
  have z_0_1 := HX0.out.cell (i := 1) rfl
  have z_0_2 := HX0.out.cell (i := 2) rfl
  have z_1_0 := HX1.out.cell (i := 0) rfl
  have z_1_1 := HX1.out.cell (i := 1) rfl
  have z_2_0 := HZ1.out.cell (i := 0) rfl
  have z_2_1 := HZ1.out.cell (i := 1) rfl
  have z_2_2 := HZ1.out.cell (i := 2) rfl
  try (go_wp2_with fail)
  clear z_0_0 z_0_1 z_0_2 z_1_0 z_1_1 z_2_0 z_2_1 z_2_2
  refine (spec_sharedKeyI U g _ P Q G (2 + x3) (2 + x4) _ HC.out (HW.out.belowOf HUC.out (Nat.le_of_eq HUS.out)) (by omega) HGR.out (by omega) (by omega)).mono ?_
  rintro e u5 ⟨⟨v5a, v5b, l5a, l5b, rfl, ⟨hs5a, hl5a⟩, ⟨hs5b, hg5b, hl5b⟩⟩, hc, hw⟩
  have HL5a := Lib.hid hs5a
  obtain ⟨a5a, n5a, c5a, rfl⟩ := hs5a.here.shape
  have hn5a : n5a ≤ 7 := by have h1 := hs5a.here.len; omega
  have HE5a := Lib.hid hs5a.here.len
  clear hs5a
  have HL5b := Lib.hid hs5b
  obtain ⟨a5b, n5b, c5b, rfl⟩ := hs5b.here.shape
  have hn5b : n5b ≤ 7 := by have h1 := hs5b.here.len; omega
  have HE5b := Lib.hid hs5b.here.len
  clear hs5b
  replace HL5a : Hid (SinceT _ u5.heap.size u5 _) := SinceT.of HL5a.out (Below.refl _ _) ⟨Nat.le_refl _, Nat.le_refl _⟩
  replace HL5b : Hid (SinceT _ u5.heap.size u5 _) := SinceT.of HL5b.out (Below.refl _ _) ⟨Nat.le_refl _, Nat.le_refl _⟩
  have hg5n : 1 ≤ n5b := by have := HE5b.out; omega
  have hsz5 := hw.size
  replace HX0 := Lib.hid (HX0.out.kept hw (.inl (by omega)))
  replace HX1 := Lib.hid (HX1.out.kept hw (.inl (by omega)))
  replace HZ1 := Lib.hid (HZ1.out.kept hw (.inr (by omega)))
  replace HW := Lib.hid (HW.out.trans hw)
  replace HC := Lib.hid hc
  clear hc hw
  have z_0_0 := HX0.out.cell (i := 0) rfl
  have z_0_1 := HX0.out.cell (i := 1) rfl
  have z_0_2 := HX0.out.cell (i := 2) rfl
  have z_1_0 := HX1.out.cell (i := 0) rfl
  have z_1_1 := HX1.out.cell (i := 1) rfl
  have z_2_0 := HZ1.out.cell (i := 0) rfl
  have z_2_1 := HZ1.out.cell (i := 1) rfl
  have z_2_2 := HZ1.out.cell (i := 2) rfl
  have lt_HX0 := HX0.out.lt
  have lt_HX1 := HX1.out.lt
  have lt_HZ1 := HZ1.out.lt
  obtain ⟨V6, hV⟩ : ∃ V, V = u5.alloc (.cells #[.slice a5a n5a c5a, .slice a5b n5b c5b] 27) := ⟨_, rfl⟩
  have hbV : Below u5.heap.size u5 V6 := by rw [hV]; (repeat (first | exact Below.refl _ _ | assumption | refine Below.drew ?_ | refine Below.alloc ?_ (by first | (simp; done) | (simp; omega)) _ | refine Below.setCell ?_ (by first | (simp; done) | (simp; omega)) _))
  have HZ5 : Hid (BoxN V6 u5.heap.size 27 [.slice a5a n5a c5a, .slice a5b n5b c5b]) := by unfold Hid; rw [hV]; have h := (BoxN.new u5 [.slice a5a n5a c5a, .slice a5b n5b c5b] 27); simpa using h
  have hgc : g < u5.heap.size := HC.out.lt
  go_wp2_with fail
  rw [← hV]
  have hsV6 : V6.heap.size = u5.heap.size + 1 := by rw [hV]; simp
  clear hV hgc
  replace HX0 := Lib.hid (HX0.out.below hbV)
  replace HX1 := Lib.hid (HX1.out.below hbV)
  replace HZ1 := Lib.hid (HZ1.out.below hbV)
  replace HL5a := Lib.hid (HL5a.out.below hbV)
  replace HL5b := Lib.hid (HL5b.out.below hbV)
  replace HW := Lib.hid (HW.out.trans (Within.of_below hbV))
  replace HC := Lib.hid (HC.out.keep hbV)
  clear hbV
  clear z_0_0 z_0_1 z_0_2 z_1_0 z_1_1 z_2_0 z_2_1 z_2_2
  clear lt_HX0
  clear lt_HX1
  clear lt_HZ1
  refine (spec_one U g _ 16 _ HC.out (HW.out.belowOf HUC.out (Nat.le_of_eq HUS.out)) (by omega) ).mono ?_
  rintro e u7 ⟨⟨b7, rfl⟩, hc, hw⟩
  have hsz7 := hw.size
  replace HX0 := Lib.hid (HX0.out.kept hw (.inl (by omega)))
  replace HX1 := Lib.hid (HX1.out.kept hw (.inl (by omega)))
  replace HZ1 := Lib.hid (HZ1.out.kept hw (.inr (by omega)))
  replace HZ5 := Lib.hid (HZ5.out.kept hw (.inr (by omega)))
  replace HL5a := Lib.hid (HL5a.out.within hw (by omega))
  replace HL5b := Lib.hid (HL5b.out.within hw (by omega))
  replace HW := Lib.hid (HW.out.trans hw)
  replace HC := Lib.hid hc
  clear hc hw
  cases b7 with
  | false =>
    have z_0_0 := HX0.out.cell (i := 0) rfl
    have z_0_1 := HX0.out.cell (i := 1) rfl
    have z_0_2 := HX0.out.cell (i := 2) rfl
    have z_1_0 := HX1.out.cell (i := 0) rfl
    have z_1_1 := HX1.out.cell (i := 1) rfl
    have z_2_0 := HZ1.out.cell (i := 0) rfl
    have z_2_1 := HZ1.out.cell (i := 1) rfl
    have z_2_2 := HZ1.out.cell (i := 2) rfl
    have z_3_0 := HZ5.out.cell (i := 0) rfl
    have z_3_1 := HZ5.out.cell (i := 1) rfl
    try (go_wp2_with fail)
    clear z_0_0
    clear z_0_1
    clear z_0_2
    clear z_1_0
    clear z_1_1
    refine wp_region_noPanic ?_
    refine wp_region_V (fun w' => w'.cell? ⟨u1.heap.size, 0, none⟩ = some (.int .i64 P) ∧ w'.cell? ⟨u1.heap.size, 1, none⟩ = some (.int .i64 Q) ∧ w'.cell? ⟨u1.heap.size, 2, none⟩ = some (.int .i64 G) ∧ w'.cell? ⟨u5.heap.size, 0, none⟩ = some (.slice a5a n5a c5a) ∧ w'.cell? ⟨u5.heap.size, 1, none⟩ = some (.slice a5b n5b c5b)) 12 9 (.rd 0 (.rd 1 (.rd 2 (.rd 3 (.rd 4 (.rd 5 (.alt 6 (.alt 7 (.alt 8 .done .nil) .nil) .nil))))))) [9] (by kernel_rfl) (by kernel_rfl) rfl (fun _ _ _ _ _ h => h) ⟨box_at z_2_0 (Below.refl _ _).drew, box_at z_2_1 (Below.refl _ _).drew, box_at z_2_2 (Below.refl _ _).drew, box_at z_3_0 (Below.refl _ _).drew, box_at z_3_1 (Below.refl _ _).drew⟩ ?_
    simp only [pickV, pickN, List.getElem?_cons_zero, List.getElem?_cons_succ]
    repeat (refine' wpV_read _ (by kernel_rfl) (fun w' hS' => ?_) ?_; rotate_left; (focus ((try dsimp only at hS'); go_simp; (try with_reducible rfl))); (try simp only [Act.put, List.setIfInBounds_toArray, List.set_cons_zero, List.set_cons_succ]))
    have hdr : Below u7.heap.size u7 u7.drew := (Below.refl _ _).drew
    have hszd := hdr.size
    replace HX0 := Lib.hid (HX0.out.below hdr)
    replace HX1 := Lib.hid (HX1.out.below hdr)
    replace HZ1 := Lib.hid (HZ1.out.below hdr)
    replace HZ5 := Lib.hid (HZ5.out.below hdr)
    replace HL5a := Lib.hid (HL5a.out.below hdr)
    replace HL5b := Lib.hid (HL5b.out.below hdr)
    replace HW := Lib.hid (HW.out.trans (Within.of_below hdr))
    replace HC := Lib.hid (HC.out.keep hdr)
    clear hdr
    refine wpV_do (by kernel_rfl) (fun K hK => ?_)
    -- 6: call
    go_simp
    go_at_call 25
    refine (spec_zerosI U g _ P Q G 0 (2 + x3) (2 + x4) _ HC.out (HW.out.belowOf HUC.out (Nat.le_of_eq HUS.out)) (by omega) HGR.out (by omega) (by omega) (by omega)).mono ?_
    rintro e ut1 ⟨⟨vt1, lt1, rfl, hot1, hlt1⟩, hc, hw⟩
    obtain ⟨at1, nt1, ct1, rfl⟩ := hot1.rd.shape
    have HEt1 := Lib.hid hot1.rd.len
    have HLt1 := Lib.hid (Since.of_ownDs hot1 (Nat.le_refl _))
    have hnt1 : nt1 ≤ 3 := by have := HEt1.out; omega
    clear hot1
    have hszt1 := hw.size
    replace HX0 := Lib.hid (HX0.out.kept hw (.inl (by omega)))
    replace HX1 := Lib.hid (HX1.out.kept hw (.inl (by omega)))
    replace HZ1 := Lib.hid (HZ1.out.kept hw (.inr (by omega)))
    replace HZ5 := Lib.hid (HZ5.out.kept hw (.inr (by omega)))
    replace HL5a := Lib.hid (HL5a.out.within hw (by omega))
    replace HL5b := Lib.hid (HL5b.out.within hw (by omega))
    replace HW := Lib.hid (HW.out.trans hw)
    replace HC := Lib.hid hc
    clear hc hw
    clear z_2_0 z_2_1 z_2_2 z_3_0 z_3_1
    have z_2_0 := HZ1.out.cell (i := 0) rfl
    have z_2_1 := HZ1.out.cell (i := 1) rfl
    have z_2_2 := HZ1.out.cell (i := 2) rfl
    have z_3_0 := HZ5.out.cell (i := 0) rfl
    have z_3_1 := HZ5.out.cell (i := 1) rfl
    refine hK.out _ _ ⟨z_2_0, z_2_1, z_2_2, z_3_0, z_3_1⟩ (fun _ => ?_)
    clear hK K
    (try simp only [Act.put, List.setIfInBounds_toArray, List.set_cons_zero, List.set_cons_succ])
    refine wpV_do (by kernel_rfl) (fun K hK => ?_)
    -- 7: store
    have r0 := HX0.out.cell (i := 0) rfl
    have r1 := HX0.out.cell (i := 1) rfl
    have r2 := HX0.out.cell (i := 2) rfl
    have fr := fun j => HX0.out.frozen j
    obtain ⟨Y2, hY⟩ : ∃ Y, Y = ((ut1.setCell ⟨w.heap.size, 0, none⟩ (.int .i64 P)).setCell ⟨w.heap.size, 1, none⟩ (.int .i64 Q)).setCell ⟨w.heap.size, 2, none⟩ (.int .i64 G) := ⟨_, rfl⟩
    have hYl : Within (w.heap.size) (w.heap.size + 1) ut1 Y2 := by rw [hY]; exact ((((Within.refl (w.heap.size) (w.heap.size + 1) ut1).setCell (b := w.heap.size) (by omega) (by omega) 0 (.int .i64 P)).setCell (b := w.heap.size) (by omega) (by omega) 1 (.int .i64 Q)).setCell (b := w.heap.size) (by omega) (by omega) 2 (.int .i64 G))
    have HYW : Hid (Within w.heap.size (w.heap.size + 2) ut1 Y2) := hYl.mono (by omega) (by omega)
    have HYB : Hid (Below w.heap.size w Y2) := hYl.belowU (HW.out.belowOf HBW.out (by omega)) (by omega)
    have HCS : Hid (∀ w', Within w.heap.size (w.heap.size + 2) ut1 w' → w'.cell? ⟨u1.heap.size, 0, none⟩ = some (.int .i64 P) ∧ w'.cell? ⟨u1.heap.size, 1, none⟩ = some (.int .i64 Q) ∧ w'.cell? ⟨u1.heap.size, 2, none⟩ = some (.int .i64 G) ∧ w'.cell? ⟨u5.heap.size, 0, none⟩ = some (.slice a5a n5a c5a) ∧ w'.cell? ⟨u5.heap.size, 1, none⟩ = some (.slice a5b n5b c5b)) := fun w' h => ⟨within_at h z_2_0 (by omega), within_at h z_2_1 (by omega), within_at h z_2_2 (by omega), within_at h z_3_0 (by omega), within_at h z_3_1 (by omega)⟩
    go_simp
    refine hK.out _ _ ?_ (fun _ => ?_)
    · rw [← hY]; exact HCS.out _ HYW.out
    rw [← hY]
    clear hK K fr r0 r1 r2
    replace HX0 : Hid (BoxN Y2 w.heap.size 24 [.int .i64 P, .int .i64 Q, .int .i64 G]) := by unfold Hid; rw [hY]; exact (((HX0.out.set 0 (.int .i64 P)).set 1 (.int .i64 Q)).set 2 (.int .i64 G))
    replace HX1 := Lib.hid (HX1.out.kept hYl (by omega))
    clear hY hYl
    (try simp only [Act.put, List.setIfInBounds_toArray, List.set_cons_zero, List.set_cons_succ])
    clear z_2_0 z_2_1 z_2_2 z_3_0 z_3_1
    obtain ⟨z_2_0, z_2_1, z_2_2, z_3_0, z_3_1⟩ := HCS.out _ HYW.out
    refine wpV_do (by kernel_rfl) (fun K hK => ?_)
    -- 8: store
    have r0 := HX1.out.cell (i := 0) rfl
    have r1 := HX1.out.cell (i := 1) rfl
    have fr := fun j => HX1.out.frozen j
    obtain ⟨Y3, hY⟩ : ∃ Y, Y = (Y2.setCell ⟨w.heap.size + 1, 0, none⟩ (.slice a5a n5a c5a)).setCell ⟨w.heap.size + 1, 1, none⟩ (.slice a5b n5b c5b) := ⟨_, rfl⟩
    have hYl : Within (w.heap.size + 1) (w.heap.size + 1 + 1) Y2 Y3 := by rw [hY]; exact (((Within.refl (w.heap.size + 1) (w.heap.size + 1 + 1) Y2).setCell (b := w.heap.size + 1) (by omega) (by omega) 0 (.slice a5a n5a c5a)).setCell (b := w.heap.size + 1) (by omega) (by omega) 1 (.slice a5b n5b c5b))
    replace HYW := Lib.hid (HYW.out.trans (hYl.mono (by omega) (by omega)))
    replace HYB := Lib.hid (hYl.belowU HYB.out (by omega))
    go_simp
    refine hK.out _ _ ?_ (fun _ => ?_)
    · rw [← hY]; exact HCS.out _ HYW.out
    rw [← hY]
    clear hK K fr r0 r1
    replace HX1 : Hid (BoxN Y3 (w.heap.size + 1) 27 [.slice a5a n5a c5a, .slice a5b n5b c5b]) := by unfold Hid; rw [hY]; exact ((HX1.out.set 0 (.slice a5a n5a c5a)).set 1 (.slice a5b n5b c5b))
    replace HX0 := Lib.hid (HX0.out.kept hYl (by omega))
    clear hY hYl
    (try simp only [Act.put, List.setIfInBounds_toArray, List.set_cons_zero, List.set_cons_succ])
    clear z_2_0 z_2_1 z_2_2 z_3_0 z_3_1
    obtain ⟨z_2_0, z_2_1, z_2_2, z_3_0, z_3_1⟩ := HCS.out _ HYW.out
    refine wpV_done ?_
    go_wp2_with fail
    refine NoPanic.normal ?_
    clear z_2_0 z_2_1 z_2_2 z_3_0 z_3_1
    have t_HX0_0 := HX0.out.cell (i := 0) rfl
    have t_HX0_1 := HX0.out.cell (i := 1) rfl
    have t_HX0_2 := HX0.out.cell (i := 2) rfl
    have t_HX1_0 := HX1.out.cell (i := 0) rfl
    have t_HX1_1 := HX1.out.cell (i := 1) rfl
    try (go_wp2_with fail)
    refine bodyPost_ret (v := .tuple #[.agg #[.int .i64 P, .int .i64 Q, .int .i64 G], .agg #[.slice a5a n5a c5a, .slice a5b n5b c5b], .slice at1 nt1 ct1]) (by simp [results, Tryz.results5, go_sem, t_HX0_0, t_HX0_1, t_HX0_2, t_HX1_0, t_HX1_1]) rfl ⟨⟨_, _, _, _, _, _, _, _, _, rfl, HGR.out, ⟨(HL5a.out.within HYW.out (by omega)).here, by have := HE5a.out; omega⟩, ⟨(HL5b.out.within HYW.out (by omega)).here, by have := HE5b.out; omega⟩, ⟨(HLt1.out.within HYW.out (by omega)).here, by have := HEt1.out; omega⟩⟩, HYB.out⟩
  | true =>
    have z_0_0 := HX0.out.cell (i := 0) rfl
    have z_0_1 := HX0.out.cell (i := 1) rfl
    have z_0_2 := HX0.out.cell (i := 2) rfl
    have z_1_0 := HX1.out.cell (i := 0) rfl
    have z_1_1 := HX1.out.cell (i := 1) rfl
    have z_2_0 := HZ1.out.cell (i := 0) rfl
    have z_2_1 := HZ1.out.cell (i := 1) rfl
    have z_2_2 := HZ1.out.cell (i := 2) rfl
    have z_3_0 := HZ5.out.cell (i := 0) rfl
    have z_3_1 := HZ5.out.cell (i := 1) rfl
    obtain ⟨ad, hsl, hdq⟩ := sl_dropU (a := a5b) (n := n5b) (c := c5b) (x := 1) (k := 1) rfl (by omega)
    have frz := fun j => HZ5.out.frozen j
    go_upto_region 8 with fail
    clear frz hsl
    clear z_0_0 z_0_1 z_0_2 z_1_0 z_1_1 z_2_0 z_2_1 z_2_2 z_3_0 z_3_1
    obtain ⟨Y, hY⟩ : ∃ Y, Y = u7.setCell ⟨u5.heap.size, 1, none⟩ (.slice ad (n5b - 1) (c5b - 1)) := ⟨_, rfl⟩
    have hYl : Within (u5.heap.size) (u5.heap.size + 1) u7 Y := by rw [hY]; exact (Within.refl (u5.heap.size) (u5.heap.size + 1) u7).setCell (b := u5.heap.size) (by omega) (by omega) 1 (.slice ad (n5b - 1) (c5b - 1))
    have NZ : Hid (BoxN Y (u5.heap.size) 27 [.slice a5a n5a c5a, .slice ad (n5b - 1) (c5b - 1)]) := by unfold Hid; rw [hY]; exact HZ5.out.set 1 _
    have NC := Lib.hid (HC.out.setNew (b := u5.heap.size) (by omega) 1 (.slice ad (n5b - 1) (c5b - 1)))
    have NW := Lib.hid (HW.out.setNew (b := u5.heap.size) (by omega) 1 (.slice ad (n5b - 1) (c5b - 1)))
    have HL5bd := Lib.hid (HL5b.out.dropS (k := 1) hdq)
    have HE5bd : Hid ((l5b.drop 1).length = n5b - 1) := by unfold Hid; rw [List.length_drop, HE5b.out]
    rw [← hY] at NC NW ⊢
    have hszY := hYl.size
    replace HX0 := Lib.hid (HX0.out.kept hYl (by omega))
    replace HX1 := Lib.hid (HX1.out.kept hYl (by omega))
    replace HZ1 := Lib.hid (HZ1.out.kept hYl (by omega))
    replace HL5a := Lib.hid (HL5a.out.within hYl (by omega))
    replace HL5b := Lib.hid (HL5b.out.within hYl (by omega))
    replace HL5bd := Lib.hid (HL5bd.out.within hYl (by omega))
    replace HZ5 := NZ
    replace HC := NC
    replace HW := NW
    clear NZ NC NW hY hYl
    have z_0_0 := HX0.out.cell (i := 0) rfl
    have z_0_1 := HX0.out.cell (i := 1) rfl
    have z_0_2 := HX0.out.cell (i := 2) rfl
    have z_1_0 := HX1.out.cell (i := 0) rfl
    have z_1_1 := HX1.out.cell (i := 1) rfl
    have z_2_0 := HZ1.out.cell (i := 0) rfl
    have z_2_1 := HZ1.out.cell (i := 1) rfl
    have z_2_2 := HZ1.out.cell (i := 2) rfl
    have z_3_0 := HZ5.out.cell (i := 0) rfl
    have z_3_1 := HZ5.out.cell (i := 1) rfl
    try (go_wp2_with fail)
    clear z_0_0
    clear z_0_1
    clear z_0_2
    clear z_1_0
    clear z_1_1
    refine wp_region_noPanic ?_
    refine wp_region_V (fun w' => w'.cell? ⟨u1.heap.size, 0, none⟩ = some (.int .i64 P) ∧ w'.cell? ⟨u1.heap.size, 1, none⟩ = some (.int .i64 Q) ∧ w'.cell? ⟨u1.heap.size, 2, none⟩ = some (.int .i64 G) ∧ w'.cell? ⟨u5.heap.size, 0, none⟩ = some (.slice a5a n5a c5a) ∧ w'.cell? ⟨u5.heap.size, 1, none⟩ = some (.slice ad (n5b - 1) (c5b - 1))) 12 9 (.rd 0 (.rd 1 (.rd 2 (.rd 3 (.rd 4 (.rd 5 (.alt 6 (.alt 7 (.alt 8 .done .nil) .nil) .nil))))))) [9] (by kernel_rfl) (by kernel_rfl) rfl (fun _ _ _ _ _ h => h) ⟨box_at z_2_0 (Below.refl _ _).drew, box_at z_2_1 (Below.refl _ _).drew, box_at z_2_2 (Below.refl _ _).drew, box_at z_3_0 (Below.refl _ _).drew, box_at z_3_1 (Below.refl _ _).drew⟩ ?_
    simp only [pickV, pickN, List.getElem?_cons_zero, List.getElem?_cons_succ]
    repeat (refine' wpV_read _ (by kernel_rfl) (fun w' hS' => ?_) ?_; rotate_left; (focus ((try dsimp only at hS'); go_simp; (try with_reducible rfl))); (try simp only [Act.put, List.setIfInBounds_toArray, List.set_cons_zero, List.set_cons_succ]))
    have hdr : Below Y.heap.size Y Y.drew := (Below.refl _ _).drew
    have hszd := hdr.size
    replace HX0 := Lib.hid (HX0.out.below hdr)
    replace HX1 := Lib.hid (HX1.out.below hdr)
    replace HZ1 := Lib.hid (HZ1.out.below hdr)
    replace HZ5 := Lib.hid (HZ5.out.below hdr)
    replace HL5a := Lib.hid (HL5a.out.below hdr)
    replace HL5b := Lib.hid (HL5b.out.below hdr)
    replace HL5bd := Lib.hid (HL5bd.out.below hdr)
    replace HW := Lib.hid (HW.out.trans (Within.of_below hdr))
    replace HC := Lib.hid (HC.out.keep hdr)
    clear hdr
    refine wpV_do (by kernel_rfl) (fun K hK => ?_)
    -- 6: call
    go_simp
    go_at_call 25
    refine (spec_zerosI U g _ P Q G 0 (2 + x3) (2 + x4) _ HC.out (HW.out.belowOf HUC.out (Nat.le_of_eq HUS.out)) (by omega) HGR.out (by omega) (by omega) (by omega)).mono ?_
    rintro e ut1 ⟨⟨vt1, lt1, rfl, hot1, hlt1⟩, hc, hw⟩
    obtain ⟨at1, nt1, ct1, rfl⟩ := hot1.rd.shape
    have HEt1 := Lib.hid hot1.rd.len
    have HLt1 := Lib.hid (Since.of_ownDs hot1 (Nat.le_refl _))
    have hnt1 : nt1 ≤ 3 := by have := HEt1.out; omega
    clear hot1
    have hszt1 := hw.size
    replace HX0 := Lib.hid (HX0.out.kept hw (.inl (by omega)))
    replace HX1 := Lib.hid (HX1.out.kept hw (.inl (by omega)))
    replace HZ1 := Lib.hid (HZ1.out.kept hw (.inr (by omega)))
    replace HZ5 := Lib.hid (HZ5.out.kept hw (.inr (by omega)))
    replace HL5a := Lib.hid (HL5a.out.within hw (by omega))
    replace HL5b := Lib.hid (HL5b.out.within hw (by omega))
    replace HL5bd := Lib.hid (HL5bd.out.within hw (by omega))
    replace HW := Lib.hid (HW.out.trans hw)
    replace HC := Lib.hid hc
    clear hc hw
    clear z_2_0 z_2_1 z_2_2 z_3_0 z_3_1
    have z_2_0 := HZ1.out.cell (i := 0) rfl
    have z_2_1 := HZ1.out.cell (i := 1) rfl
    have z_2_2 := HZ1.out.cell (i := 2) rfl
    have z_3_0 := HZ5.out.cell (i := 0) rfl
    have z_3_1 := HZ5.out.cell (i := 1) rfl
    refine hK.out _ _ ⟨z_2_0, z_2_1, z_2_2, z_3_0, z_3_1⟩ (fun _ => ?_)
    clear hK K
    (try simp only [Act.put, List.setIfInBounds_toArray, List.set_cons_zero, List.set_cons_succ])
    refine wpV_do (by kernel_rfl) (fun K hK => ?_)
    -- 7: store
    have r0 := HX0.out.cell (i := 0) rfl
    have r1 := HX0.out.cell (i := 1) rfl
    have r2 := HX0.out.cell (i := 2) rfl
    have fr := fun j => HX0.out.frozen j
    obtain ⟨Y2, hY⟩ : ∃ Y, Y = ((ut1.setCell ⟨w.heap.size, 0, none⟩ (.int .i64 P)).setCell ⟨w.heap.size, 1, none⟩ (.int .i64 Q)).setCell ⟨w.heap.size, 2, none⟩ (.int .i64 G) := ⟨_, rfl⟩
    have hYl : Within (w.heap.size) (w.heap.size + 1) ut1 Y2 := by rw [hY]; exact ((((Within.refl (w.heap.size) (w.heap.size + 1) ut1).setCell (b := w.heap.size) (by omega) (by omega) 0 (.int .i64 P)).setCell (b := w.heap.size) (by omega) (by omega) 1 (.int .i64 Q)).setCell (b := w.heap.size) (by omega) (by omega) 2 (.int .i64 G))
    have HYW : Hid (Within w.heap.size (w.heap.size + 2) ut1 Y2) := hYl.mono (by omega) (by omega)
    have HYB : Hid (Below w.heap.size w Y2) := hYl.belowU (HW.out.belowOf HBW.out (by omega)) (by omega)
    have HCS : Hid (∀ w', Within w.heap.size (w.heap.size + 2) ut1 w' → w'.cell? ⟨u1.heap.size, 0, none⟩ = some (.int .i64 P) ∧ w'.cell? ⟨u1.heap.size, 1, none⟩ = some (.int .i64 Q) ∧ w'.cell? ⟨u1.heap.size, 2, none⟩ = some (.int .i64 G) ∧ w'.cell? ⟨u5.heap.size, 0, none⟩ = some (.slice a5a n5a c5a) ∧ w'.cell? ⟨u5.heap.size, 1, none⟩ = some (.slice ad (n5b - 1) (c5b - 1))) := fun w' h => ⟨within_at h z_2_0 (by omega), within_at h z_2_1 (by omega), within_at h z_2_2 (by omega), within_at h z_3_0 (by omega), within_at h z_3_1 (by omega)⟩
    go_simp
    refine hK.out _ _ ?_ (fun _ => ?_)
    · rw [← hY]; exact HCS.out _ HYW.out
    rw [← hY]
    clear hK K fr r0 r1 r2
    replace HX0 : Hid (BoxN Y2 w.heap.size 24 [.int .i64 P, .int .i64 Q, .int .i64 G]) := by unfold Hid; rw [hY]; exact (((HX0.out.set 0 (.int .i64 P)).set 1 (.int .i64 Q)).set 2 (.int .i64 G))
    replace HX1 := Lib.hid (HX1.out.kept hYl (by omega))
    clear hY hYl
    (try simp only [Act.put, List.setIfInBounds_toArray, List.set_cons_zero, List.set_cons_succ])
    clear z_2_0 z_2_1 z_2_2 z_3_0 z_3_1
    obtain ⟨z_2_0, z_2_1, z_2_2, z_3_0, z_3_1⟩ := HCS.out _ HYW.out
    refine wpV_do (by kernel_rfl) (fun K hK => ?_)
    -- 8: store
    have r0 := HX1.out.cell (i := 0) rfl
    have r1 := HX1.out.cell (i := 1) rfl
    have fr := fun j => HX1.out.frozen j
    obtain ⟨Y3, hY⟩ : ∃ Y, Y = (Y2.setCell ⟨w.heap.size + 1, 0, none⟩ (.slice a5a n5a c5a)).setCell ⟨w.heap.size + 1, 1, none⟩ (.slice ad (n5b - 1) (c5b - 1)) := ⟨_, rfl⟩
    have hYl : Within (w.heap.size + 1) (w.heap.size + 1 + 1) Y2 Y3 := by rw [hY]; exact (((Within.refl (w.heap.size + 1) (w.heap.size + 1 + 1) Y2).setCell (b := w.heap.size + 1) (by omega) (by omega) 0 (.slice a5a n5a c5a)).setCell (b := w.heap.size + 1) (by omega) (by omega) 1 (.slice ad (n5b - 1) (c5b - 1)))
    replace HYW := Lib.hid (HYW.out.trans (hYl.mono (by omega) (by omega)))
    replace HYB := Lib.hid (hYl.belowU HYB.out (by omega))
    go_simp
    refine hK.out _ _ ?_ (fun _ => ?_)
    · rw [← hY]; exact HCS.out _ HYW.out
    rw [← hY]
    clear hK K fr r0 r1
    replace HX1 : Hid (BoxN Y3 (w.heap.size + 1) 27 [.slice a5a n5a c5a, .slice ad (n5b - 1) (c5b - 1)]) := by unfold Hid; rw [hY]; exact ((HX1.out.set 0 (.slice a5a n5a c5a)).set 1 (.slice ad (n5b - 1) (c5b - 1)))
    replace HX0 := Lib.hid (HX0.out.kept hYl (by omega))
    clear hY hYl
    (try simp only [Act.put, List.setIfInBounds_toArray, List.set_cons_zero, List.set_cons_succ])
    clear z_2_0 z_2_1 z_2_2 z_3_0 z_3_1
    obtain ⟨z_2_0, z_2_1, z_2_2, z_3_0, z_3_1⟩ := HCS.out _ HYW.out
    refine wpV_done ?_
    go_wp2_with fail
    refine NoPanic.normal ?_
    clear z_2_0 z_2_1 z_2_2 z_3_0 z_3_1
    have t_HX0_0 := HX0.out.cell (i := 0) rfl
    have t_HX0_1 := HX0.out.cell (i := 1) rfl
    have t_HX0_2 := HX0.out.cell (i := 2) rfl
    have t_HX1_0 := HX1.out.cell (i := 0) rfl
    have t_HX1_1 := HX1.out.cell (i := 1) rfl
    try (go_wp2_with fail)
    refine bodyPost_ret (v := .tuple #[.agg #[.int .i64 P, .int .i64 Q, .int .i64 G], .agg #[.slice a5a n5a c5a, .slice ad (n5b - 1) (c5b - 1)], .slice at1 nt1 ct1]) (by simp [results, Tryz.results5, go_sem, t_HX0_0, t_HX0_1, t_HX0_2, t_HX1_0, t_HX1_1]) rfl ⟨⟨_, _, _, _, _, _, _, _, _, rfl, HGR.out, ⟨(HL5a.out.within HYW.out (by omega)).here, by have := HE5a.out; omega⟩, ⟨(HL5bd.out.within HYW.out (by omega)).here, by have := HE5bd.out; omega⟩, ⟨(HLt1.out.within HYW.out (by omega)).here, by have := HEt1.out; omega⟩⟩, HYB.out⟩
end Go.Proofs.YtacpnphfopmofaaGreat
namespace Go.Proofs.YtacpnphfopmofaaGreat
open Go.RowKit
set_option linter.unusedSimpArgs false
set_option linter.unusedVariables false

section
variable {w w' : World} {B : Nat} {v : Value} {ds : List DealingD}
theorem OwnDs.here (h : OwnDs w B v ds) : RdR rDealing w v ds := h.rd
theorem run_append_DsA {es : List DealingD} {lv : Value} (h : OwnDs w B v ds) (h2 : OwnDs w B lv es) (hB : B ≤ w.heap.size) (hlen : ds.length + es.length ≤ 1000000) (ty : TypeId) :
    ∃ v' w', (Builtin.append_ #[28, 28] ty #[v, lv]).run Tryz.prog w = .ok v' w' ∧ OwnDs w' B v' (ds ++ es) ∧ Below B w w' := by
  obtain ⟨css, hl, hO, hel⟩ := h
  obtain ⟨css', hl', hO', hel'⟩ := h2
  obtain ⟨i, hi, hzr, hsz, hby⟩ := infoDl
  have hfl' := flat_len (OwnDs.lens hl' hel')
  have hK := hO'
  obtain ⟨hx, ⟨rfl, h0⟩ | ⟨g, cap, cur, rfl, hb, hg, hnc, hcm, hcs, ht⟩⟩ := hO'
  · have he : es = [] := List.eq_nil_of_length_eq_zero h0
    subst he
    exact ⟨v, w, run_append_owned_none (P := Tryz.prog) (w := w) B 28 ty 61 i 2 Tryz.underlying28 hi v ds.length css.flatten hO, by rw [List.append_nil]; exact ⟨css, hl, hO, hel⟩, Below.refl _ _⟩
  · have hones : ∀ t ∈ css'.flatten, t.oneCell' = true := by
      intro t ht
      obtain ⟨r, hr, ht⟩ := List.mem_flatten.1 ht
      obtain ⟨j, hj, rfl⟩ := List.getElem_of_mem hr
      obtain ⟨x, y, e, q1, q2⟩ := hel' j hj (by omega)
      rw [e] at ht
      obtain ⟨a1, c1, e1⟩ := q1.shape
      obtain ⟨a2, c2, e2⟩ := q2.shape
      simp only [List.mem_cons, List.not_mem_nil, or_false] at ht
      rcases ht with rfl | rfl
      · rw [e1]; rfl
      · rw [e2]; rfl
    obtain ⟨v', w', hr, h1, h2, _⟩ := run_append_own (P := Tryz.prog) w B 28 ty 61 i _ 2 i.bytes Tryz.underlying28 hi hzr hsz rfl rfl (by decide) v ds.length css.flatten hO ⟨g, 0, none⟩ es.length cap css'.flatten (by rw [hfl', hl']) (fun j t ht => by
        have hj : j < css'.flatten.length := by
          rcases Nat.lt_or_ge j css'.flatten.length with h | h
          · exact h
          · rw [List.getElem?_eq_none h] at ht; cases ht
        have h1 := World.ownsRow.cellAt hK j (by omega)
        rw [Addr.add_lit, Nat.zero_add, h1, ht]) hones (by unfold maxLen; omega) (by
      have : (ds.length + es.length) * i.bytes ≤ 1000000000 * 1000 := Nat.mul_le_mul (by omega) hby
      omega) hB
    refine ⟨v', w', hr, ⟨css ++ css', by simp [hl, hl'], by simpa [List.flatten_append] using h1, fun k k1 k2 => ?_⟩, (Below.refl B w).grown h2 hB (fun k hk => (hO.lt k hk).1)⟩
    by_cases hk : k < ds.length
    · rw [List.getElem_append_left (by omega), List.getElem_append_left hk]
      obtain ⟨x', y', e, q1, q2⟩ := hel k (by omega) hk
      exact ⟨x', y', e, q1.kept h2 (q1.apartDs hO), q2.kept h2 (q2.apartDs hO)⟩
    · rw [List.getElem_append_right (by omega), List.getElem_append_right (by omega)]
      simp only [List.length_append] at k2
      obtain ⟨x', y', e, q1, q2⟩ := hel' (k - css.length) (by simp only [List.length_append] at k1; omega) (by omega)
      have e2 : k - css.length = k - ds.length := by omega
      refine ⟨x', y', e, ?_, ?_⟩
      · have := q1.kept h2 (q1.apartDs hO); simpa only [e2] using this
      · have := q2.kept h2 (q2.apartDs hO); simpa only [e2] using this
theorem wpList_append_DsA {ops : Array Oper} {rest : List Oper} {o : Oper} {a : Act} {Q : Exit → Act → World → Prop} (hg : o.guard = none) (s y0 : Operand)
    (ho : o.op = .call { callee := .builtin .append, args := #[s, y0], argTypes := #[28, 28] })
    {es : List DealingD} {lv : Value} (hs : a.eval s = v) (he : a.eval y0 = lv) (h : OwnDs w B v ds) (hl : OwnDs w B lv es) (hB : B ≤ w.heap.size) (hlen : ds.length + es.length ≤ 1000000)
    (hK : ∀ v' w', OwnDs w' B v' (ds ++ es) → Below B w w' → wpList Tryz.prog ops Q rest (a.put o.dst v') w') : wpList Tryz.prog ops Q (o :: rest) a w := by
  obtain ⟨v', w', hr, h1, h3⟩ := run_append_DsA h hl hB hlen o.type
  refine wpList_plain hg fun K hK' => ?_
  unfold Oper.wp execOp
  simp only [ho, resolve, invoke, builtin, Sem.run_bind, Sem.run_pure, Result.andThen_ok, List.map_toArray, List.map_cons, List.map_nil, hs, he, hr]
  exact hK' _ _ (hK v' w' h1 h3)
end
end Go.Proofs.YtacpnphfopmofaaGreat
