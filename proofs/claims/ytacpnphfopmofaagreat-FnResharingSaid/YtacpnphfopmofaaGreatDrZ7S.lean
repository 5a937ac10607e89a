/- Draws: shares that are dealt anew (printed by gen_drz7.py). -/
import Derived.Test.YtacpnphfopmofaaGreatDrZ3S
import Derived.Test.YtacpnphfopmofaaGreatRegVS
import Derived.Test.YtacpnphfopmofaaGreatQzMS
import Derived.Test.YtacpnphfopmofaaGreatDrSh3S
import Derived.Test.YtacpnphfopmofaaGreatDrSh2S
import Derived.Deep.Cut
namespace Go.Proofs.YtacpnphfopmofaaGreat
open Go.RowKit
set_option linter.unusedSimpArgs false
set_option linter.unusedVariables false

theorem set0_bd {l : List Int} {S : Int} (h : ∀ x ∈ l, 0 ≤ x ∧ x ≤ 2000000010) (hS : 0 ≤ S ∧ S ≤ 2000000010) : ∀ x ∈ l.set 0 S, 0 ≤ x ∧ x ≤ 2000000010 := fun x hx => by
  rcases List.mem_or_eq_of_mem_set hx with h1 | h1
  · exact h x h1
  · rw [h1]; exact hS
theorem OwnZ.here {w : World} {B : Nat} {z v : Value} {ds : List DealingD} (h : OwnZ w B z v ds) : RdR rDealing w v ds := h.rd
theorem OwnI.setTwo {w : World} {B b : Nat} {v : Value} {l : List Int} (h : OwnI w B v l) (hb : ∀ k, v.ownBlock = some k → b ≠ k) (x y : Value) : OwnI ((w.setCell ⟨b, 0, none⟩ x).setCell ⟨b, 1, none⟩ y) B v l := by
  have one : ∀ {u : World} (j : Nat) (x : Value), OwnI u B v l → OwnI (u.setCell ⟨b, j, none⟩ x) B v l := fun {u} j x h => h.kept (grownBy_setCell _ b j x) (by
    cases e : v.ownBlock with
    | none => exact .inl rfl
    | some k => exact .inr fun e2 => hb k e (by injection e2 with e3; exact e3.symm))
  exact one 1 y (one 0 x h)
set_option maxRecDepth 100000 in
set_option maxHeartbeats 8000000 in
theorem spec_DrawReshareKey (v : Value) (w : World) (h : Bytes w v) :
    Calls Tryz.prog 14 #[v] w fun e w' => (∃ (P : Int) (Q : Int) (G : Int) (vr1 : Value) (lr1 : List Int) (vr2 : Value) (lr2 : List Int) (vr3 : Value) (lr3 : List DealingD), e = .returned (.tuple #[.agg #[.int .i64 P, .int .i64 Q, .int .i64 G], vr1, vr2, vr3]) ∧ GrB ⟨P, Q, G⟩ ∧ (Ints w' vr1 lr1 ∧ lr1.length ≤ 7) ∧ (Ints w' vr2 lr2 ∧ lr2.length ≤ 8) ∧ (RdR rDealing w' vr3 lr3 ∧ lr3.length ≤ 7)) ∧ Below w.heap.size w w' := by
  obtain ⟨a, m, c, rfl, hk1, hk2, hv⟩ := h
  have HY : Hid (Bytes w (.slice a m c)) := ⟨a, m, c, rfl, hk1, hk2, hv⟩
  clear hv
  unfold maxLen at hk2
  obtain ⟨U, hU⟩ : ∃ U, U = w.alloc (.cells #[.int .i64 0, .int .i64 0, .int .i64 0] 24) := ⟨_, rfl⟩
  have hbU : Below w.heap.size w U := by rw [hU]; (repeat (first | exact Below.refl _ _ | assumption | refine Below.drew ?_ | refine Below.alloc ?_ (by first | (simp; done) | (simp; omega)) _ | refine Below.setCell ?_ (by first | (simp; done) | (simp; omega)) _))
  have HX0 : Hid (BoxN U w.heap.size 24 [.int .i64 0, .int .i64 0, .int .i64 0]) := by unfold Hid; rw [hU]; have h := (BoxN.new w [.int .i64 0, .int .i64 0, .int .i64 0] 24); simpa using h
  have hsU : U.heap.size = w.heap.size + 1 := by rw [hU]; simp
  obtain ⟨W, hW⟩ : ∃ W, W = U.alloc (.cells #[.slice a m c, .int .i64 0, .int .u64 0] 53) := ⟨_, rfl⟩
  have HC : Hid (Cur U W U.heap.size 0) := by unfold Hid; rw [hW]; exact Cur.new U (HY.out.below hbU)
  have hbW : Below U.heap.size U W := by rw [hW]; exact (Below.refl _ _).alloc (Nat.le_refl _) _
  have HBW := Lib.hid (Below.next hbU hbW)
  have HUB := Lib.hid hbW
  replace HX0 := Lib.hid (HX0.out.below hbW)
  obtain ⟨g, hg⟩ : ∃ g, g = U.heap.size := ⟨_, rfl⟩
  have HSU : Hid (w.heap.size + 1 = g) := by unfold Hid; rw [hg, hsU]
  have HWS : Hid (W.heap.size = g + 1) := by unfold Hid; rw [hW, hg]; simp
  go_enter Tryz.func14, Tryz.ntmps14
  go_wp2_with fail
  rw [← hU, ← hW]
  rw [HSU.out]
  rw [← hg] at HC HUB
  have HUS : Hid (U.heap.size = g) := hg.symm
  have hwg : w.heap.size + 1 = g := HSU.out
  have hsW := HWS.out
  have HW := Lib.hid (Within.refl g (g + 1) W)
  have HUC : Hid (Below U.heap.size U W) := by unfold Hid; rw [HUS.out]; exact HUB.out
  clear hU hW hbU hbW hsU hg
  have z_0_0 := HX0.out.cell (i := 0) rfl
  have z_0_1 := HX0.out.cell (i := 1) rfl
  have z_0_2 := HX0.out.cell (i := 2) rfl
  try (go_wp2_with fail)
  clear z_0_0 z_0_1 z_0_2
  refine (spec_shared U g _ _ HC.out (HW.out.belowOf HUC.out (Nat.le_of_eq HUS.out)) (by omega)).mono ?_
  rintro e u1 ⟨⟨P, Q, G, rfl, P1, Q1, G1⟩, hc, hw⟩
  have HGR : Hid (GrB ⟨P, Q, G⟩) := ⟨P1, Q1, G1⟩
  clear P1 Q1 G1
  have hsz1 := hw.size
  replace HX0 := Lib.hid (HX0.out.kept hw (.inl (by omega)))
  replace HW := Lib.hid (HW.out.trans hw)
  replace HC := Lib.hid hc
  clear hc hw
  have z_0_0 := HX0.out.cell (i := 0) rfl
  have z_0_1 := HX0.out.cell (i := 1) rfl
  have z_0_2 := HX0.out.cell (i := 2) rfl
  have lt_HX0 := HX0.out.lt
  obtain ⟨V2, hV⟩ : ∃ V, V = u1.alloc (.cells #[.int .i64 P, .int .i64 Q, .int .i64 G] 24) := ⟨_, rfl⟩
  have hbV : Below u1.heap.size u1 V2 := by rw [hV]; (repeat (first | exact Below.refl _ _ | assumption | refine Below.drew ?_ | refine Below.alloc ?_ (by first | (simp; done) | (simp; omega)) _ | refine Below.setCell ?_ (by first | (simp; done) | (simp; omega)) _))
  have HZ1 : Hid (BoxN V2 u1.heap.size 24 [.int .i64 P, .int .i64 Q, .int .i64 G]) := by unfold Hid; rw [hV]; have h := (BoxN.new u1 [.int .i64 P, .int .i64 Q, .int .i64 G] 24); simpa using h
  have hgc : g < u1.heap.size := HC.out.lt
  go_wp2_with fail
  rw [← hV]
  have hsV2 : V2.heap.size = u1.heap.size + 1 := by rw [hV]; simp
  clear hV hgc
  replace HX0 := Lib.hid (HX0.out.below hbV)
  replace HW := Lib.hid (HW.out.trans (Within.of_below hbV))
  replace HC := Lib.hid (HC.out.keep hbV)
  clear hbV
  clear z_0_0 z_0_1 z_0_2
  clear lt_HX0
  refine (spec_pick U g _ 5 _ HC.out (HW.out.belowOf HUC.out (Nat.le_of_eq HUS.out)) (by omega) ).mono ?_
  rintro e u3 ⟨⟨x3, rfl, x3l, x3u, x3m, _⟩, hc, hw⟩
  replace x3m := x3m (by omega)
  have hsz3 := hw.size
  replace HX0 := Lib.hid (HX0.out.kept hw (.inl (by omega)))
  replace HZ1 := Lib.hid (HZ1.out.kept hw (.inr (by omega)))
  replace HW := Lib.hid (HW.out.trans hw)
  replace HC := Lib.hid hc
  clear hc hw
  have ew2 : IntKind.i64.wrap (1 + x3) = 1 + x3 := IntWalk.i64_in _ (by omega)
  have z_0_0 := HX0.out.cell (i := 0) rfl
  have z_0_1 := HX0.out.cell (i := 1) rfl
  have z_0_2 := HX0.out.cell (i := 2) rfl
  have z_1_0 := HZ1.out.cell (i := 0) rfl
  have z_1_1 := HZ1.out.cell (i := 1) rfl
  have z_1_2 := HZ1.out.cell (i := 2) rfl
  (try (go_wp2_with fail))
  obtain ⟨nn, hnn⟩ : ∃ z : Nat, (z : Int) = (1 + x3) := ⟨((1 + x3)).toNat, by omega⟩
  rw [← hnn]
  have hnn1 : 1 ≤ nn ∧ nn ≤ 7 := by omega
  have HNNE := Lib.hid hnn
  clear hnn
  have hgU4 : g < u3.heap.size := HC.out.lt
  have hgB4 := HZ1.out.lt
  have z_0_0 := HX0.out.cell (i := 0) rfl
  have z_0_1 := HX0.out.cell (i := 1) rfl
  have z_0_2 := HX0.out.cell (i := 2) rfl
  have z_1_0 := HZ1.out.cell (i := 0) rfl
  have z_1_1 := HZ1.out.cell (i := 1) rfl
  have z_1_2 := HZ1.out.cell (i := 2) rfl
  try (go_wp2_with fail)
  refine wp_region_noPanic ?_
  refine wp_region_Q (Within g (g + 1)) (DrawS U u3 g _ 1000000000 (fun w' => w'.cell? ⟨u1.heap.size, 0, none⟩ = some (.int .i64 P) ∧ w'.cell? ⟨u1.heap.size, 1, none⟩ = some (.int .i64 Q) ∧ w'.cell? ⟨u1.heap.size, 2, none⟩ = some (.int .i64 G))) 12 [(0, []), (1, []), (2, []), (3, []), (4, []), (5, [1, 0]), (6, [0]), (7, [6, 5, 4, 0]), (8, [])] [9] (by kernel_rfl) (by kernel_rfl) (by kernel_rfl) rfl (fun _ _ _ _ h => h) (DrawS.good _ _ _ _ _ _) ⟨(Within.refl _ _ _).drew, by simpa using HC.out.keep (Below.refl _ _).drew, ⟨box_at z_1_0 (Below.refl _ _).drew, box_at z_1_1 (Below.refl _ _).drew, box_at z_1_2 (Below.refl _ _).drew⟩⟩ ?_
  simp only [pickP, pickN, List.getElem?_cons_zero, List.getElem?_cons_succ]
  iterate 5 (refine' chainQ_read (DrawS.good _ _ _ _ _ _) _ rfl rfl (fun m w' hm' hS' => ?_) ?_; rotate_left; · (simp only [lookP, allP, Act.put, List.getElem?_cons_zero, List.getElem?_cons_succ, List.setIfInBounds_toArray, List.set_cons_zero, List.set_cons_succ]; (try dsimp only [DrawS] at hS'); go_simp; (try with_reducible rfl)))
  -- 5: call { callee := value (func 22), args := #[t29, t30], argTypes := #[50, 3] }
  refine chainQ_do (d := (some 31)) (fun v z => ∃ x : Int, v = .int .i64 x ∧ 0 ≤ x ∧ x < (nn : Int)) (fun v w1 w2 hw h => h) rfl rfl (fun m w' hm' hS' => ?_) ?_
  · simp only [lookP, allP, Act.put, List.getElem?_cons_zero, List.getElem?_cons_succ, List.setIfInBounds_toArray, List.set_cons_zero, List.set_cons_succ]
    intro K hK
    replace hm' : m < 9 := hm'
    go_simp
    go_at_call 22
    refine (spec_pick U g _ (nn : Int) _ hS'.2.1 (hS'.1.belowOf (HW.out.belowOf HUC.out (Nat.le_of_eq HUS.out)) (Nat.le_of_eq HUS.out)) (by omega)).mono ?_
    rintro e z ⟨⟨x, rfl, x0, _, xm, _⟩, hc, hw⟩
    exact hK.out _ _ hw ⟨hS'.1.trans hw, hc.mono (by omega), ⟨within_at (hS'.1.trans hw) z_1_0 (.inr (by omega)), within_at (hS'.1.trans hw) z_1_1 (.inr (by omega)), within_at (hS'.1.trans hw) z_1_2 (.inr (by omega))⟩⟩ ⟨x, rfl, x0, xm (by omega)⟩
  -- 6: binOp Binadd 3 (const (int i64 1)) t31 3
  refine chainQ_have (DrawS.good _ _ _ _ _ _) (d := (some 32)) (fun v z => ∃ tt : Nat, v = .int .i64 (tt : Int) ∧ 1 ≤ tt ∧ tt ≤ 7) (fun v w1 w2 hw h => h) rfl rfl (fun m w' hm' hS' => ?_) ?_
  · simp only [lookP, allP, Act.put, List.getElem?_cons_zero, List.getElem?_cons_succ, List.setIfInBounds_toArray, List.set_cons_zero, List.set_cons_succ]
    intro x5 hx5
    obtain ⟨x, rfl, xl, xu⟩ := hx5
    obtain ⟨tt, htt⟩ : ∃ z : Nat, (z : Int) = 1 + x := ⟨(1 + x).toNat, by omega⟩
    have ew : IntKind.i64.wrap (1 + x) = 1 + x := IntWalk.i64_in _ (by omega)
    refine ⟨.int .i64 (tt : Int), ?_, tt, rfl, by omega, by omega⟩
    rw [htt]
    go_simp
  -- 7: call { callee := value (func 23), args := #[t26, t27, t28, t32], argTypes := #[50, 24, 3, 3] }
  refine chainQ_do (d := (some 33)) (fun v z => ∃ (va vb : Value) (la lb : List Int), v = .agg #[va, vb] ∧ (OwnI z u3.heap.size va la ∧ la.length ≤ 7) ∧ (OwnI z u3.heap.size vb lb ∧ (1 ≤ lb.length ∧ lb.length ≤ 7 ∧ ∀ x ∈ lb, 0 ≤ x ∧ x ≤ 2000000010))) (fun v w1 w2 hw h => by obtain ⟨va, vb, la, lb, e, ⟨h1, h2⟩, h3, h4⟩ := h; exact ⟨va, vb, la, lb, e, ⟨h1.within hw (by omega), h2⟩, h3.within hw (by omega), h4⟩) rfl rfl (fun m w' hm' hS' => ?_) ?_
  · simp only [lookP, allP, Act.put, List.getElem?_cons_zero, List.getElem?_cons_succ, List.setIfInBounds_toArray, List.set_cons_zero, List.set_cons_succ]
    intro x6 hx6
    intro K hK
    replace hm' : m < 9 := hm'
    obtain ⟨tt, rfl, t1, t2⟩ := hx6
    go_simp
    go_at_call 23
    refine (spec_sharedKeyB U g _ P Q G nn tt _ hS'.2.1 (hS'.1.belowOf (HW.out.belowOf HUC.out (Nat.le_of_eq HUS.out)) (Nat.le_of_eq HUS.out)) (by omega) HGR.out hnn1 ⟨t1, t2⟩).mono ?_
    rintro e z ⟨⟨va, vb, la, lb, rfl, ⟨h1, h2⟩, h3, h4⟩, hc, hw⟩
    have hsz0 := hS'.1.size
    exact hK.out _ _ hw ⟨hS'.1.trans hw, hc.mono (by omega), ⟨within_at (hS'.1.trans hw) z_1_0 (.inr (by omega)), within_at (hS'.1.trans hw) z_1_1 (.inr (by omega)), within_at (hS'.1.trans hw) z_1_2 (.inr (by omega))⟩⟩ ⟨va, vb, la, lb, rfl, ⟨h1.mono (by omega), h2⟩, h3.mono (by omega), h4⟩
  -- 8: alloc 27
  refine chainQ_do (d := (some 9)) (fun v z => ∃ b, v = .pointer (some ⟨b, 0, none⟩) ∧ u3.heap.size ≤ b ∧ BoxN z b 27 [.slice none 0 0, .slice none 0 0]) (fun v w1 w2 hw h => by obtain ⟨b, e, h1, h2⟩ := h; exact ⟨b, e, h1, h2.kept hw (.inr (by omega))⟩) rfl rfl (fun m w' hm' hS' => ?_) ?_
  · simp only [lookP, allP, Act.put, List.getElem?_cons_zero, List.getElem?_cons_succ, List.setIfInBounds_toArray, List.set_cons_zero, List.set_cons_succ]
    intro K hK
    replace hm' : m < 9 := hm'
    go_simp
    have hbn := (Below.refl w'.heap.size w').alloc (Nat.le_refl _) (.cells #[.slice none 0 0, .slice none 0 0] 27)
    have hw := (Within.of_below hbn : Within g (g + 1) _ _)
    have hsz0 := hS'.1.size
    refine hK.out _ _ hw ⟨hS'.1.trans hw, (hS'.2.1.keep hbn).mono (by omega), ⟨within_at (hS'.1.trans hw) z_1_0 (.inr (by omega)), within_at (hS'.1.trans hw) z_1_1 (.inr (by omega)), within_at (hS'.1.trans hw) z_1_2 (.inr (by omega))⟩⟩ ⟨_, rfl, hsz0, BoxN.new w' _ _⟩
  refine chainQ_nil (fun u4 hS' => ?_)
  simp only [allP, Act.put, List.setIfInBounds_toArray, List.set_cons_zero, List.set_cons_succ]
  intro x8 hx8
  intro x7 hx7
  intro x6 hx6
  intro x5 hx5
  replace hS' : DrawS U u3 g _ 1000000000 _ 9 u4 := hS'
  obtain ⟨hw, hc, hC⟩ := hS'
  have hsz4 := hw.size
  replace HX0 := Lib.hid (HX0.out.kept hw (.inl (by omega)))
  replace HZ1 := Lib.hid (HZ1.out.kept hw (.inr (by omega)))
  replace HW := Lib.hid (HW.out.trans hw)
  replace HC := Lib.hid hc
  clear hc hw hC
  clear z_0_0 z_0_1 z_0_2 z_1_0 z_1_1 z_1_2
  clear hx5 hx6
  obtain ⟨va, vb, la, lb, rfl, ⟨hoa, hla⟩, hob, hlb⟩ := hx7
  obtain ⟨bz, rfl, hbz, hbx⟩ := hx8
  have HBX := Lib.hid hbx
  obtain ⟨aa, ca, rfl⟩ := hoa.shape
  obtain ⟨ab, cb, rfl⟩ := hob.shape
  obtain ⟨na, hna⟩ : ∃ z, la.length = z := ⟨_, rfl⟩
  obtain ⟨nb, hnb⟩ : ∃ z, lb.length = z := ⟨_, rfl⟩
  rw [hna] at hoa hla
  rw [hnb] at hob hlb
  rw [hna, hnb]
  have HEka := Lib.hid hna
  have HEkb := Lib.hid hnb
  have HSB := Lib.hid hlb.2.2
  have hb7 : 1 ≤ nb ∧ nb ≤ 7 := ⟨hlb.1, hlb.2.1⟩
  have hnka : na ≤ 7 := hla
  have HLka := Lib.hid (SinceT.of (Since.of_ownI hoa (Nat.le_refl _)) (Below.refl _ _) ⟨Nat.le_refl _, Nat.le_refl _⟩)
  have HLkb := Lib.hid (SinceT.of (Since.of_ownI hob (Nat.le_refl _)) (Below.refl _ _) ⟨Nat.le_refl _, Nat.le_refl _⟩)
  have hap1 := hoa.apart hbx (by decide)
  have hap2 := hob.apart hbx (by decide)
  have HOA := Lib.hid hoa
  have HOB := Lib.hid hob
  clear hlb hla hna hnb hbx hoa hob
  have r0 := HBX.out.cell (i := 0) rfl
  have r1 := HBX.out.cell (i := 1) rfl
  have fr := fun j => HBX.out.frozen j
  have hbl := HBX.out.lt
  go_wp2_with fail
  refine NoPanic.normal ?_
  (try (go_wp2_with fail))
  clear r0 r1 fr
  obtain ⟨Y4, hY⟩ : ∃ Y, Y = (u4.setCell ⟨bz, 0, none⟩ (.slice aa na ca)).setCell ⟨bz, 1, none⟩ (.slice ab nb cb) := ⟨_, rfl⟩
  have hYl : Within bz (bz + 1) u4 Y4 := by rw [hY]; exact ((Within.refl bz (bz + 1) u4).setCell (b := bz) (by omega) (by omega) 0 (.slice aa na ca)).setCell (b := bz) (by omega) (by omega) 1 (.slice ab nb cb)
  have hszY := hYl.size
  have NZ : Hid (BoxN Y4 bz 27 [.slice aa na ca, .slice ab nb cb]) := by unfold Hid; rw [hY]; exact (HBX.out.set 0 _).set 1 _
  have NC := Lib.hid ((HC.out.setNew (b := bz) (by omega) 0 (.slice aa na ca)).setNew (b := bz) (by omega) 1 (.slice ab nb cb))
  have NW := Lib.hid ((HW.out.setNew (b := bz) (by omega) 0 (.slice aa na ca)).setNew (b := bz) (by omega) 1 (.slice ab nb cb))
  have NA : Hid (OwnI Y4 u3.heap.size (.slice aa na ca) la) := by unfold Hid; rw [hY]; exact HOA.out.setTwo hap1 _ _
  have NB : Hid (OwnI Y4 u3.heap.size (.slice ab nb cb) lb) := by unfold Hid; rw [hY]; exact HOB.out.setTwo hap2 _ _
  rw [← hY] at NC NW ⊢
  replace HLka := Lib.hid (SinceT.of (Since.of_ownI NA.out (Nat.le_refl _)) (Below.refl _ _) ⟨Nat.le_refl _, Nat.le_refl _⟩)
  replace HLkb := Lib.hid (SinceT.of (Since.of_ownI NB.out (Nat.le_refl _)) (Below.refl _ _) ⟨Nat.le_refl _, Nat.le_refl _⟩)
  replace HX0 := Lib.hid (HX0.out.kept hYl (by omega))
  replace HZ1 := Lib.hid (HZ1.out.kept hYl (by omega))
  replace HBX := NZ
  replace HC := NC
  replace HW := NW
  clear NZ NC NW NA NB HOA HOB hap1 hap2 hY hYl
  have z_0_0 := HX0.out.cell (i := 0) rfl
  have z_0_1 := HX0.out.cell (i := 1) rfl
  have z_0_2 := HX0.out.cell (i := 2) rfl
  have z_1_0 := HZ1.out.cell (i := 0) rfl
  have z_1_1 := HZ1.out.cell (i := 1) rfl
  have z_1_2 := HZ1.out.cell (i := 2) rfl
  have z_2_0 := HBX.out.cell (i := 0) rfl
  have z_2_1 := HBX.out.cell (i := 1) rfl
  try (go_wp2_with fail)
  clear z_0_0 z_0_1 z_0_2 z_1_0 z_1_1 z_1_2 z_2_0 z_2_1
  refine (spec_pick U g _ 5 _ HC.out (HW.out.belowOf HUC.out (Nat.le_of_eq HUS.out)) (by omega) ).mono ?_
  rintro e u5 ⟨⟨x5, rfl, x5l, x5u, x5m, _⟩, hc, hw⟩
  replace x5m := x5m (by omega)
  have hsz5 := hw.size
  replace HX0 := Lib.hid (HX0.out.kept hw (.inl (by omega)))
  replace HZ1 := Lib.hid (HZ1.out.kept hw (.inr (by omega)))
  replace HBX := Lib.hid (HBX.out.kept hw (.inr (by omega)))
  replace HLka := Lib.hid (HLka.out.within hw (by omega))
  replace HLkb := Lib.hid (HLkb.out.within hw (by omega))
  replace HW := Lib.hid (HW.out.trans hw)
  replace HC := Lib.hid hc
  clear hc hw
  have ew3 : IntKind.i64.wrap (1 + x5) = 1 + x5 := IntWalk.i64_in _ (by omega)
  have z_0_0 := HX0.out.cell (i := 0) rfl
  have z_0_1 := HX0.out.cell (i := 1) rfl
  have z_0_2 := HX0.out.cell (i := 2) rfl
  have z_1_0 := HZ1.out.cell (i := 0) rfl
  have z_1_1 := HZ1.out.cell (i := 1) rfl
  have z_1_2 := HZ1.out.cell (i := 2) rfl
  have z_2_0 := HBX.out.cell (i := 0) rfl
  have z_2_1 := HBX.out.cell (i := 1) rfl
  try (go_wp2_with fail)
  clear z_0_0 z_0_1 z_0_2 z_1_0 z_1_1 z_1_2 z_2_0 z_2_1
  refine (spec_pick U g _ (1 + x5) _ HC.out (HW.out.belowOf HUC.out (Nat.le_of_eq HUS.out)) (by omega) ).mono ?_
  rintro e u6 ⟨⟨x6, rfl, x6l, x6u, x6m, _⟩, hc, hw⟩
  have hsz6 := hw.size
  replace HX0 := Lib.hid (HX0.out.kept hw (.inl (by omega)))
  replace HZ1 := Lib.hid (HZ1.out.kept hw (.inr (by omega)))
  replace HBX := Lib.hid (HBX.out.kept hw (.inr (by omega)))
  replace HLka := Lib.hid (HLka.out.within hw (by omega))
  replace HLkb := Lib.hid (HLkb.out.within hw (by omega))
  replace HW := Lib.hid (HW.out.trans hw)
  replace HC := Lib.hid hc
  clear hc hw
  have ew4 : IntKind.i64.wrap (1 + x6) = 1 + x6 := IntWalk.i64_in _ (by omega)
  have z_0_0 := HX0.out.cell (i := 0) rfl
  have z_0_1 := HX0.out.cell (i := 1) rfl
  have z_0_2 := HX0.out.cell (i := 2) rfl
  have z_1_0 := HZ1.out.cell (i := 0) rfl
  have z_1_1 := HZ1.out.cell (i := 1) rfl
  have z_1_2 := HZ1.out.cell (i := 2) rfl
  have z_2_0 := HBX.out.cell (i := 0) rfl
  have z_2_1 := HBX.out.cell (i := 1) rfl
  try (go_wp2_with fail)
  clear z_0_0 z_0_1 z_0_2 z_1_0 z_1_1 z_1_2 z_2_0 z_2_1
  obtain ⟨uE, rfl⟩ : ∃ z, z = u6 := ⟨_, rfl⟩
  replace HLka : Hid (SinceT _ uE.heap.size uE _) := SinceT.of (HLka.out.mono (Nat.le_refl _)) (Below.refl _ _) ⟨Nat.le_refl _, Nat.le_refl _⟩
  replace HLkb : Hid (SinceT _ uE.heap.size uE _) := SinceT.of (HLkb.out.mono (Nat.le_refl _)) (Below.refl _ _) ⟨Nat.le_refl _, Nat.le_refl _⟩
  obtain ⟨M, hM⟩ : ∃ z : Nat, (z : Int) = (1 + x5) := ⟨((1 + x5)).toNat, by omega⟩
  obtain ⟨T, hT⟩ : ∃ z : Nat, (z : Int) = (1 + x6) := ⟨((1 + x6)).toNat, by omega⟩
  rw [← hM, ← hT]
  have hM1 : 1 ≤ M ∧ M ≤ 7 := by omega
  have hxm1 := x6m (by omega)
  have hT1 : 1 ≤ T ∧ T ≤ 7 := by omega
  clear hM hT
  have hgE : g < uE.heap.size := HC.out.lt
  have hGE := HZ1.out.lt
  have hgw0 : w.heap.size + 1 = g := hwg
  have HC0 := Lib.hid (HC.out.mono (n' := 20000000000) (by omega))
  replace HUC : Hid (Below U.heap.size U uE) := HW.out.belowOf HUC.out (Nat.le_of_eq HUS.out)
  replace HBW : Hid (Below w.heap.size w uE) := HW.out.belowOf HBW.out (by omega)
  clear HC HW
  go_loopg [12, 13, 44] nb (fun gk wv dv iv wr => ∃ (j : Nat) (wl : List Int) (dl : List DealingD), iv = .int .i64 (j : Int) ∧ j + gk = nb ∧ wl.length ≤ j ∧ dl.length = wl.length ∧ Hid (OwnI wr uE.heap.size wv wl) ∧ Hid (OwnZ wr uE.heap.size wv dv dl) ∧ Hid (Cur U wr g (20000000000 + 10000000 * (j : Int))) ∧ Hid (Within g (g + 1) uE wr))
  case atStart => exact ⟨0, [], [], rfl, by omega, by simp, rfl, OwnI.nil _ _, OwnZ.nil _ _ _, HC0.out.mono (by omega), Within.refl _ _ _⟩
  case round =>
    clear HC0
    obtain ⟨j, wl, dl, rfl, hjg, hwl, hdl, HOw, HOz, HC, HWz⟩ := hrel
    have hsr := HWz.out.size
    obtain ⟨wa, wc, rfl⟩ := HOw.out.shape
    obtain ⟨pa, pc, rfl⟩ := HOz.out.len64
    obtain ⟨wn, hwn⟩ : ∃ z, wl.length = z := ⟨_, rfl⟩
    have HWN := Lib.hid hwn
    have HPL : Hid (dl.length = wn) := by unfold Hid; rw [hdl, hwn]
    rw [hwn] at hwl HOw HOz ⊢
    rw [HPL.out] at HOz ⊢
    clear hwn hdl
    by_cases hlt : j < nb
    · have hb : decide ((j : Int) < (nb : Int)) = true := decide_eq_true (by omega)
      have hb2 : decide (j < nb) = true := decide_eq_true hlt
      have ewj : IntKind.i64.wrap ((j : Int) + 1) = (j : Int) + 1 := IntWalk.i64_in _ (by omega)
      have bj0 : (0 : Int) ≤ (j : Int) := by omega
      have bj1 : (j : Int) < (nb : Int) := by omega
      have HZ1 := Lib.hid (HZ1.out.kept HWz.out (.inr (by omega)))
      have HKI := Lib.hid ((HLkb.out.within HWz.out (by omega)).here)
      obtain ⟨sb, so, hq, hx⟩ := HKI.out.at_ (by omega)
      have hq' := hq
      subst hq'
      clear hq
      have y0 := hx j hlt
      clear hx
      have HSJ := Lib.hid (HSB.out _ (nth_mem' (show j < lb.length by rw [HEkb.out]; exact hlt)))
      obtain ⟨S, hS⟩ : ∃ z, nth lb j = z := ⟨_, rfl⟩
      rw [hS] at y0 HSJ
      clear hS
      replace HUC : Hid (Below U.heap.size U wr) := HWz.out.belowOf HUC.out (Nat.le_of_eq HUS.out)
      have HW := Lib.hid (Within.refl g (g + 1) wr)
      go_wp2_with fail
      clear y0
      refine (spec_one U g _ 6 _ HC.out (HW.out.belowOf HUC.out (Nat.le_of_eq HUS.out)) (by omega)).mono ?_
      rintro e w5 ⟨⟨b5, rfl⟩, hc, hw⟩
      have hs5_ := hw.size
      replace HZ1 := Lib.hid (HZ1.out.kept hw (.inr (by omega)))
      replace HW := Lib.hid (HW.out.trans hw)
      replace HC := Lib.hid hc
      clear hc hw
      cases b5 with
      | true =>
        have HZ9 := Lib.hid (HOz.out.within HW.out (by omega))
        have HO9 := Lib.hid (HOw.out.withinR HW.out (by omega))
        go_wp2_with fail
        go_roundg (gk - 1)
        case measure => omega
        case rel => exact ⟨j + 1, wl, dl, by go_num, by omega, by have := HWN.out; omega, by rw [HPL.out, HWN.out], HO9, HZ9, Lib.hid (HC.out.mono (by omega)), Lib.hid (HWz.out.trans HW.out)⟩

      | false =>
        have c0 := HZ1.out.cell (i := 0) rfl
        have c1 := HZ1.out.cell (i := 1) rfl
        have c2 := HZ1.out.cell (i := 2) rfl
        go_wp2_with fail
        clear c0 c1 c2
        refine (spec_sGroup ⟨P, Q, G⟩ _).mono ?_
        rintro e uS ⟨rfl, hb⟩
        have hsS := hb.size
        replace HZ1 := Lib.hid (HZ1.out.below hb)
        replace HW := Lib.hid (HW.out.trans (Within.of_below hb))
        replace HC := Lib.hid (HC.out.keep hb)
        clear hb
        obtain ⟨bq, hq⟩ : ∃ z, shG ⟨P, Q, G⟩ = z := ⟨_, rfl⟩
        have HQ := Lib.hid hq
        rw [hq]
        clear hq
        cases bq with
        | false =>
          have HZ9 := Lib.hid (HOz.out.within HW.out (by omega))
          have HO9 := Lib.hid (HOw.out.withinR HW.out (by omega))
          go_wp2_with fail
          go_roundg (gk - 1)
          case measure => omega
          case rel => exact ⟨j + 1, wl, dl, by go_num, by omega, by have := HWN.out; omega, by rw [HPL.out, HWN.out], HO9, HZ9, Lib.hid (HC.out.mono (by omega)), Lib.hid (HWz.out.trans HW.out)⟩

        | true =>
          have hok := shG_ok HQ.out
          have c0 := HZ1.out.cell (i := 0) rfl
          have c1 := HZ1.out.cell (i := 1) rfl
          have c2 := HZ1.out.cell (i := 2) rfl
          go_wp2_with fail
          clear c0 c1 c2
          refine (spec_coins U g _ P Q G T _ HC.out (HW.out.belowOf HUC.out (Nat.le_of_eq HUS.out)) (by omega) HGR.out (by omega)).mono ?_
          rintro e u10 ⟨⟨v10, l10, rfl, ho10, hl10, he10⟩, hc, hw⟩
          have hs10 := hw.size
          obtain ⟨ca0, cc0, rfl⟩ := ho10.shapeN hl10
          obtain ⟨cg, e, hcg, _, _⟩ := ho10.at_ (by omega)
          cases e
          have HOC := Lib.hid ho10
          replace HZ1 := Lib.hid (HZ1.out.kept hw (.inr (by omega)))
          replace HW := Lib.hid (HW.out.trans hw)
          replace HC := Lib.hid hc
          clear hc hw ho10
          go_wp2_with fail
          refine (spec_one U g _ 8 _ HC.out (HW.out.belowOf HUC.out (Nat.le_of_eq HUS.out)) (by omega)).mono ?_
          rintro e w6 ⟨⟨b6, rfl⟩, hc, hw⟩
          have hs6 := hw.size
          replace HOC := Lib.hid (HOC.out.within hw (by omega))
          replace HZ1 := Lib.hid (HZ1.out.kept hw (.inr (by omega)))
          replace HW := Lib.hid (HW.out.trans hw)
          replace HC := Lib.hid hc
          clear hc hw
          have hcl := HOC.out.lt cg rfl
          cases b6 with
          | true =>
            have HIC := Lib.hid HOC.out.ints
            have c0 := HZ1.out.cell (i := 0) rfl
            have c1 := HZ1.out.cell (i := 1) rfl
            have c2 := HZ1.out.cell (i := 2) rfl
            go_wp2_with fail
            clear c0 c1 c2
            have hC11 := spec_sDeal ⟨P, Q, G⟩ _ l10 M _ hok HIC.out he10 (by omega) (by rw [hl10]; omega)
            refine hC11.mono ?_
            clear hC11
            rintro e u11 ⟨⟨x9, y9, rfl, hox, hoy, _⟩, hb⟩
            have hs11 := hb.size
            obtain ⟨lx, hlx⟩ : ∃ z, dcL ⟨P, Q, G⟩ (l10) (l10).length = z := ⟨_, rfl⟩
            obtain ⟨ly, hly⟩ : ∃ z, dsL ⟨P, Q, G⟩ (l10) M = z := ⟨_, rfl⟩
            rw [hlx] at hox
            rw [hly] at hoy
            clear hlx hly
            obtain ⟨xa, xc, rfl⟩ := hox.shape
            obtain ⟨ya, yc, rfl⟩ := hoy.shape
            obtain ⟨xn, hxn⟩ : ∃ z, lx.length = z := ⟨_, rfl⟩
            obtain ⟨yn, hyn⟩ : ∃ z, ly.length = z := ⟨_, rfl⟩
            rw [hxn] at hox
            rw [hyn] at hoy
            rw [hxn, hyn]
            clear hxn hyn HIC HOC
            replace HZ1 := Lib.hid (HZ1.out.below hb)
            replace HW := Lib.hid (HW.out.trans (Within.of_below hb))
            replace HC := Lib.hid (HC.out.keep hb)
            have HXo := Lib.hid (hox.mono (show wr.heap.size ≤ _ by have := HW.out.size; omega))
            have HYo := Lib.hid (hoy.mono (show wr.heap.size ≤ _ by have := HW.out.size; omega))
            clear hb hox hoy
            obtain ⟨dz, hdz⟩ : ∃ z, z = u11.heap.size := ⟨_, rfl⟩
            obtain ⟨V, hV⟩ : ∃ V, V = u11.alloc (.cells #[.slice xa xn xc, .slice ya yn yc] 61) := ⟨_, rfl⟩
            have hb : Below u11.heap.size u11 V := by rw [hV]; exact (Below.refl _ _).alloc (Nat.le_refl _) _
            have HDX : Hid (BoxN V dz 61 [.slice xa xn xc, .slice ya yn yc]) := by unfold Hid; rw [hV, hdz]; exact BoxN.new u11 _ _
            have hsV := hb.size
            have hdz1 : wr.heap.size ≤ dz := by have := HW.out.size; omega
            have hdz2 : g < dz := by have := HC.out.lt; omega
            go_upto_region 17 with fail
            rw [← hV, ← hdz]
            clear hV hdz
            replace HXo := Lib.hid (HXo.out.below hb)
            replace HYo := Lib.hid (HYo.out.below hb)
            replace HZ1 := Lib.hid (HZ1.out.below hb)
            replace HW := Lib.hid (HW.out.trans (Within.of_below hb))
            replace HC := Lib.hid (HC.out.keep hb)
            clear hb
            go_wp2_with fail
            refine (spec_one U g _ 10 _ HC.out (HW.out.belowOf HUC.out (Nat.le_of_eq HUS.out)) (by omega)).mono ?_
            rintro e w7_ ⟨⟨b7, rfl⟩, hc, hw⟩
            have hs7 := hw.size
            replace HDX := Lib.hid (HDX.out.kept hw (.inr (by omega)))
            replace HXo := Lib.hid (HXo.out.within hw (by omega))
            replace HYo := Lib.hid (HYo.out.within hw (by omega))
            replace HZ1 := Lib.hid (HZ1.out.kept hw (.inr (by omega)))
            replace HW := Lib.hid (HW.out.trans hw)
            replace HC := Lib.hid hc
            clear hc hw
            cases b7 with
            | false =>
              have hsz16 : wr.heap.size ≤ w7_.heap.size := HW.out.size
              have HZR := Lib.hid (HOw.out.withinR HW.out (by omega))
              have HQR := Lib.hid (HOz.out.within HW.out (by omega))
              have HXI : Hid (I64 ((j : Int) + 1)) := ⟨by omega, by omega⟩
              have P1 := Lib.hid (Parted.since (Y := wr) HXo.out HOw.out)
              have P2 := Lib.hid (Parted.since (Y := wr) HYo.out HOw.out)
              have M1 : Hid (OwnI w7_ uE.heap.size _ _) := HXo.out.mono (by omega)
              have M2 : Hid (OwnI w7_ uE.heap.size _ _) := HYo.out.mono (by omega)
              have HAX := Lib.hid (HZR.out.apart HDX.out (by decide))
              have hub : uE.heap.size ≤ w7_.heap.size := by omega
              have b0 := HDX.out.cell (i := 0) rfl
              have b1 := HDX.out.cell (i := 1) rfl
              go_upto_region 20 with (at_builtin; refine wpList_append_oneX rfl _ _ rfl uE.heap.size (.slice wa wn wc) _ wl ((j : Int) + 1) (wn + 1) rfl (HZR.out.alloc _) rfl (Ints.lit1 _ HXI.out) (by rw [HWN.out]; omega) (by simp; omega) (by rw [HWN.out]) ?_; intro a5 c5 w5 hown5 hgr5 hn5; have hal : Below w7_.heap.size w7_ (w7_.alloc (.cells #[.int .i64 ((j : Int) + 1)] 3)) := (Below.refl _ _).alloc (Nat.le_refl _) _; have hga := grownBy_trans (grownBy_of_below hal) hgr5; have HQ5 := Lib.hid ((HQR.out.below hal).ints (HZR.out.alloc _) hgr5 hn5); have HZ5 := Lib.hid hown5; have N1 := Lib.hid (M1.out.kept hga P1.out); have N2 := Lib.hid (M2.out.kept hga P2.out); have R1 := Lib.hid (P1.out.new (M1.out.alloc _) hn5); have R2 := Lib.hid (P2.out.new (M2.out.alloc _) hn5); have NB := Lib.hid (HDX.out.grownR hga HAX.out); have hb5 := HZR.out.grown hga hub; have HB5 := Lib.hid hb5; have hs5 := hb5.size; clear hown5 hgr5 hn5 hal hga hb5 b0 b1; have b0 := NB.out.cell (i := 0) rfl; have b1 := NB.out.cell (i := 1) rfl)
              go_wp2_with (at_builtin; refine wpList_append_Z (d := ⟨lx, ly⟩) (v := .slice pa wn pc) (z := .slice a5 (wn + 1) c5) (ds := dl) (l := wl ++ [((j : Int) + 1)]) rfl _ _ rfl w5.heap.size (wn + 1) (.slice xa xn xc) (.slice ya yn yc) rfl (HQ5.out.below ((Below.refl _ _).alloc (Nat.le_refl _) _)) (HZ5.out.alloc _) (N1.out.alloc _) (N2.out.alloc _) R1.out R2.out rfl ((BoxN.new w5 [.slice xa xn xc, .slice ya yn yc] 61).cell (i := 0) rfl) ((BoxN.new w5 [.slice xa xn xc, .slice ya yn yc] 61).cell (i := 1) rfl) (by simp; omega) (by rw [HPL.out]; omega) (by rw [HPL.out]) ?_; intro a7 c7 w7 hq7 hz7 hgr7; have hal7 : Below w5.heap.size w5 (w5.alloc (.cells #[.slice xa xn xc, .slice ya yn yc] 61)) := (Below.refl _ _).alloc (Nat.le_refl _) _; have hb7' := (Below.refl uE.heap.size (w5.alloc (.cells #[.slice xa xn xc, .slice ya yn yc] 61))).grown hgr7 (by simp; omega) (fun k hk => ((HQ5.out.below hal7).lt k hk).1); have HB7 := Lib.hid ((hal7.mono (show uE.heap.size ≤ w5.heap.size by omega)).trans hb7'); have HQ7 := Lib.hid hq7; have HZ7 := Lib.hid hz7; clear hq7 hz7 hgr7 hal7 hb7' b0 b1)
              have HB9 := Lib.hid (HB5.out.trans HB7.out)
              go_roundg (gk - 1)
              case measure => omega
              case rel => exact ⟨j + 1, wl ++ [((j : Int) + 1)], dl ++ [⟨lx, ly⟩], by go_num, by omega, by rw [List.length_append, HWN.out]; simp only [List.length_cons, List.length_nil]; omega, by rw [List.length_append, List.length_append, HWN.out, HPL.out]; rfl, HZ7, HQ7, Lib.hid ((HC.out.belowB HB9.out (by omega)).mono (by omega)), Lib.hid ((HWz.out.trans HW.out).belowStep HB9.out)⟩

            | true =>
              have c0 := HZ1.out.cell (i := 0) rfl
              have c1 := HZ1.out.cell (i := 1) rfl
              have c2 := HZ1.out.cell (i := 2) rfl
              go_wp2_with fail
              clear c0 c1 c2
              refine (spec_anyDealing U g _ P Q G _ HC.out (HW.out.belowOf HUC.out (Nat.le_of_eq HUS.out)) (by omega) HGR.out).mono ?_
              rintro e v9 ⟨⟨x9, y9, mx, my, rfl, ⟨hox, hlx⟩, ⟨hoy, hly⟩⟩, hc, hw⟩
              have hs9 := hw.size
              obtain ⟨xa, xc, rfl⟩ := hox.shape
              obtain ⟨ya, yc, rfl⟩ := hoy.shape
              obtain ⟨xn, hxn⟩ : ∃ z, mx.length = z := ⟨_, rfl⟩
              obtain ⟨yn, hyn⟩ : ∃ z, my.length = z := ⟨_, rfl⟩
              rw [hxn] at hox
              rw [hyn] at hoy
              rw [hxn, hyn]
              clear hxn hyn HXo HYo
              have hd0 := HDX.out.lt
              replace HDX := Lib.hid (HDX.out.kept hw (.inr (by omega)))
              replace HW := Lib.hid (HW.out.trans hw)
              replace HC := Lib.hid hc
              have hap1 := hox.apart HDX.out (by decide)
              have hap2 := hoy.apart HDX.out (by decide)
              have HXo := Lib.hid (hox.mono (show wr.heap.size ≤ _ by omega))
              have HYo := Lib.hid (hoy.mono (show wr.heap.size ≤ _ by omega))
              clear hc hw hox hoy
              have r0 := HDX.out.cell (i := 0) rfl
              have r1 := HDX.out.cell (i := 1) rfl
              have fr := fun j => HDX.out.frozen j
              have hbl := HDX.out.lt
              go_upto_region 19 with fail
              clear r0 r1 fr
              obtain ⟨Y7, hY⟩ : ∃ Y, Y = (v9.setCell ⟨dz, 0, none⟩ (.slice xa xn xc)).setCell ⟨dz, 1, none⟩ (.slice ya yn yc) := ⟨_, rfl⟩
              have NZ : Hid (BoxN Y7 dz 61 [.slice xa xn xc, .slice ya yn yc]) := by unfold Hid; rw [hY]; exact (HDX.out.set 0 _).set 1 _
              have NC := Lib.hid ((HC.out.setNew (b := dz) (by omega) 0 (.slice xa xn xc)).setNew (b := dz) (by omega) 1 (.slice ya yn yc))
              have NW := Lib.hid ((HW.out.setNew (b := dz) (by omega) 0 (.slice xa xn xc)).setNew (b := dz) (by omega) 1 (.slice ya yn yc))
              have NA : Hid (OwnI Y7 wr.heap.size (.slice xa xn xc) mx) := by unfold Hid; rw [hY]; exact HXo.out.setTwo hap1 _ _
              have NB0 : Hid (OwnI Y7 wr.heap.size (.slice ya yn yc) my) := by unfold Hid; rw [hY]; exact HYo.out.setTwo hap2 _ _
              rw [← hY] at NC NW ⊢
              clear hY hap1 hap2
              replace HDX := NZ
              replace HC := NC
              replace HW := NW
              replace HXo := NA
              replace HYo := NB0
              clear NZ NC NW NA NB0
              have hsz16 : wr.heap.size ≤ Y7.heap.size := HW.out.size
              have HZR := Lib.hid (HOw.out.withinR HW.out (by omega))
              have HQR := Lib.hid (HOz.out.within HW.out (by omega))
              have HXI : Hid (I64 ((j : Int) + 1)) := ⟨by omega, by omega⟩
              have P1 := Lib.hid (Parted.since (Y := wr) HXo.out HOw.out)
              have P2 := Lib.hid (Parted.since (Y := wr) HYo.out HOw.out)
              have M1 : Hid (OwnI Y7 uE.heap.size _ _) := HXo.out.mono (by omega)
              have M2 : Hid (OwnI Y7 uE.heap.size _ _) := HYo.out.mono (by omega)
              have HAX := Lib.hid (HZR.out.apart HDX.out (by decide))
              have hub : uE.heap.size ≤ Y7.heap.size := by omega
              have b0 := HDX.out.cell (i := 0) rfl
              have b1 := HDX.out.cell (i := 1) rfl
              go_upto_region 20 with (at_builtin; refine wpList_append_oneX rfl _ _ rfl uE.heap.size (.slice wa wn wc) _ wl ((j : Int) + 1) (wn + 1) rfl (HZR.out.alloc _) rfl (Ints.lit1 _ HXI.out) (by rw [HWN.out]; omega) (by simp; omega) (by rw [HWN.out]) ?_; intro a5 c5 w5 hown5 hgr5 hn5; have hal : Below Y7.heap.size Y7 (Y7.alloc (.cells #[.int .i64 ((j : Int) + 1)] 3)) := (Below.refl _ _).alloc (Nat.le_refl _) _; have hga := grownBy_trans (grownBy_of_below hal) hgr5; have HQ5 := Lib.hid ((HQR.out.below hal).ints (HZR.out.alloc _) hgr5 hn5); have HZ5 := Lib.hid hown5; have N1 := Lib.hid (M1.out.kept hga P1.out); have N2 := Lib.hid (M2.out.kept hga P2.out); have R1 := Lib.hid (P1.out.new (M1.out.alloc _) hn5); have R2 := Lib.hid (P2.out.new (M2.out.alloc _) hn5); have NB := Lib.hid (HDX.out.grownR hga HAX.out); have hb5 := HZR.out.grown hga hub; have HB5 := Lib.hid hb5; have hs5 := hb5.size; clear hown5 hgr5 hn5 hal hga hb5 b0 b1; have b0 := NB.out.cell (i := 0) rfl; have b1 := NB.out.cell (i := 1) rfl)
              go_wp2_with (at_builtin; refine wpList_append_Z (d := ⟨mx, my⟩) (v := .slice pa wn pc) (z := .slice a5 (wn + 1) c5) (ds := dl) (l := wl ++ [((j : Int) + 1)]) rfl _ _ rfl w5.heap.size (wn + 1) (.slice xa xn xc) (.slice ya yn yc) rfl (HQ5.out.below ((Below.refl _ _).alloc (Nat.le_refl _) _)) (HZ5.out.alloc _) (N1.out.alloc _) (N2.out.alloc _) R1.out R2.out rfl ((BoxN.new w5 [.slice xa xn xc, .slice ya yn yc] 61).cell (i := 0) rfl) ((BoxN.new w5 [.slice xa xn xc, .slice ya yn yc] 61).cell (i := 1) rfl) (by simp; omega) (by rw [HPL.out]; omega) (by rw [HPL.out]) ?_; intro a7 c7 w7 hq7 hz7 hgr7; have hal7 : Below w5.heap.size w5 (w5.alloc (.cells #[.slice xa xn xc, .slice ya yn yc] 61)) := (Below.refl _ _).alloc (Nat.le_refl _) _; have hb7' := (Below.refl uE.heap.size (w5.alloc (.cells #[.slice xa xn xc, .slice ya yn yc] 61))).grown hgr7 (by simp; omega) (fun k hk => ((HQ5.out.below hal7).lt k hk).1); have HB7 := Lib.hid ((hal7.mono (show uE.heap.size ≤ w5.heap.size by omega)).trans hb7'); have HQ7 := Lib.hid hq7; have HZ7 := Lib.hid hz7; clear hq7 hz7 hgr7 hal7 hb7' b0 b1)
              have HB9 := Lib.hid (HB5.out.trans HB7.out)
              go_roundg (gk - 1)
              case measure => omega
              case rel => exact ⟨j + 1, wl ++ [((j : Int) + 1)], dl ++ [⟨mx, my⟩], by go_num, by omega, by rw [List.length_append, HWN.out]; simp only [List.length_cons, List.length_nil]; omega, by rw [List.length_append, List.length_append, HWN.out, HPL.out]; rfl, HZ7, HQ7, Lib.hid ((HC.out.belowB HB9.out (by omega)).mono (by omega)), Lib.hid ((HWz.out.trans HW.out).belowStep HB9.out)⟩

          | false =>
            obtain ⟨_, e, _, _, hcx⟩ := HOC.out.at_ (by omega)
            cases e
            obtain ⟨s1, s2⟩ := hcx 0 (by omega)
            clear hcx
            have hT0 : (0 : Int) < (T : Int) := by omega
            have hSI : I64 S := by have := HSJ.out; exact ⟨by omega, by omega⟩
            go_upto_region 16 with fail
            clear s1 s2
            obtain ⟨Y6, hY⟩ : ∃ Y, Y = w6.setCell ⟨cg, 0, none⟩ (.int .i64 S) := ⟨_, rfl⟩
            have hYl : Within cg (cg + 1) w6 Y6 := by rw [hY]; exact (Within.refl cg (cg + 1) w6).setCell (b := cg) (by omega) (by omega) 0 (.int .i64 S)
            have hsY := hYl.size
            have NO : Hid (OwnI Y6 uS.heap.size (.slice (some ⟨cg, 0, none⟩) T cc0) (l10.set 0 S)) := by unfold Hid; rw [hY]; exact (HOC.out.stored hl10 0 hSI).1
            have NC := Lib.hid (HC.out.setNew (b := cg) (by omega) 0 (.int .i64 S))
            have NW := Lib.hid (HW.out.setNew (b := cg) (by omega) 0 (.int .i64 S))
            rw [← hY] at NC NW ⊢
            clear hY
            replace HZ1 := Lib.hid (HZ1.out.kept hYl (by omega))
            replace HOC := NO
            replace HC := NC
            replace HW := NW
            clear NO NC NW hYl
            have HIC := Lib.hid HOC.out.ints
            have c0 := HZ1.out.cell (i := 0) rfl
            have c1 := HZ1.out.cell (i := 1) rfl
            have c2 := HZ1.out.cell (i := 2) rfl
            go_wp2_with fail
            clear c0 c1 c2
            have hC11 := spec_sDeal ⟨P, Q, G⟩ _ (l10.set 0 S) M _ hok HIC.out (set0_bd he10 HSJ.out) (by omega) (by rw [List.length_set, hl10]; omega)
            refine hC11.mono ?_
            clear hC11
            rintro e u11 ⟨⟨x9, y9, rfl, hox, hoy, _⟩, hb⟩
            have hs11 := hb.size
            obtain ⟨lx, hlx⟩ : ∃ z, dcL ⟨P, Q, G⟩ ((l10.set 0 S)) ((l10.set 0 S)).length = z := ⟨_, rfl⟩
            obtain ⟨ly, hly⟩ : ∃ z, dsL ⟨P, Q, G⟩ ((l10.set 0 S)) M = z := ⟨_, rfl⟩
            rw [hlx] at hox
            rw [hly] at hoy
            clear hlx hly
            obtain ⟨xa, xc, rfl⟩ := hox.shape
            obtain ⟨ya, yc, rfl⟩ := hoy.shape
            obtain ⟨xn, hxn⟩ : ∃ z, lx.length = z := ⟨_, rfl⟩
            obtain ⟨yn, hyn⟩ : ∃ z, ly.length = z := ⟨_, rfl⟩
            rw [hxn] at hox
            rw [hyn] at hoy
            rw [hxn, hyn]
            clear hxn hyn HIC HOC
            replace HZ1 := Lib.hid (HZ1.out.below hb)
            replace HW := Lib.hid (HW.out.trans (Within.of_below hb))
            replace HC := Lib.hid (HC.out.keep hb)
            have HXo := Lib.hid (hox.mono (show wr.heap.size ≤ _ by have := HW.out.size; omega))
            have HYo := Lib.hid (hoy.mono (show wr.heap.size ≤ _ by have := HW.out.size; omega))
            clear hb hox hoy
            obtain ⟨dz, hdz⟩ : ∃ z, z = u11.heap.size := ⟨_, rfl⟩
            obtain ⟨V, hV⟩ : ∃ V, V = u11.alloc (.cells #[.slice xa xn xc, .slice ya yn yc] 61) := ⟨_, rfl⟩
            have hb : Below u11.heap.size u11 V := by rw [hV]; exact (Below.refl _ _).alloc (Nat.le_refl _) _
            have HDX : Hid (BoxN V dz 61 [.slice xa xn xc, .slice ya yn yc]) := by unfold Hid; rw [hV, hdz]; exact BoxN.new u11 _ _
            have hsV := hb.size
            have hdz1 : wr.heap.size ≤ dz := by have := HW.out.size; omega
            have hdz2 : g < dz := by have := HC.out.lt; omega
            go_upto_region 17 with fail
            rw [← hV, ← hdz]
            clear hV hdz
            replace HXo := Lib.hid (HXo.out.below hb)
            replace HYo := Lib.hid (HYo.out.below hb)
            replace HZ1 := Lib.hid (HZ1.out.below hb)
            replace HW := Lib.hid (HW.out.trans (Within.of_below hb))
            replace HC := Lib.hid (HC.out.keep hb)
            clear hb
            go_wp2_with fail
            refine (spec_one U g _ 10 _ HC.out (HW.out.belowOf HUC.out (Nat.le_of_eq HUS.out)) (by omega)).mono ?_
            rintro e w7_ ⟨⟨b7, rfl⟩, hc, hw⟩
            have hs7 := hw.size
            replace HDX := Lib.hid (HDX.out.kept hw (.inr (by omega)))
            replace HXo := Lib.hid (HXo.out.within hw (by omega))
            replace HYo := Lib.hid (HYo.out.within hw (by omega))
            replace HZ1 := Lib.hid (HZ1.out.kept hw (.inr (by omega)))
            replace HW := Lib.hid (HW.out.trans hw)
            replace HC := Lib.hid hc
            clear hc hw
            cases b7 with
            | false =>
              have hsz16 : wr.heap.size ≤ w7_.heap.size := HW.out.size
              have HZR := Lib.hid (HOw.out.withinR HW.out (by omega))
              have HQR := Lib.hid (HOz.out.within HW.out (by omega))
              have HXI : Hid (I64 ((j : Int) + 1)) := ⟨by omega, by omega⟩
              have P1 := Lib.hid (Parted.since (Y := wr) HXo.out HOw.out)
              have P2 := Lib.hid (Parted.since (Y := wr) HYo.out HOw.out)
              have M1 : Hid (OwnI w7_ uE.heap.size _ _) := HXo.out.mono (by omega)
              have M2 : Hid (OwnI w7_ uE.heap.size _ _) := HYo.out.mono (by omega)
              have HAX := Lib.hid (HZR.out.apart HDX.out (by decide))
              have hub : uE.heap.size ≤ w7_.heap.size := by omega
              have b0 := HDX.out.cell (i := 0) rfl
              have b1 := HDX.out.cell (i := 1) rfl
              go_upto_region 20 with (at_builtin; refine wpList_append_oneX rfl _ _ rfl uE.heap.size (.slice wa wn wc) _ wl ((j : Int) + 1) (wn + 1) rfl (HZR.out.alloc _) rfl (Ints.lit1 _ HXI.out) (by rw [HWN.out]; omega) (by simp; omega) (by rw [HWN.out]) ?_; intro a5 c5 w5 hown5 hgr5 hn5; have hal : Below w7_.heap.size w7_ (w7_.alloc (.cells #[.int .i64 ((j : Int) + 1)] 3)) := (Below.refl _ _).alloc (Nat.le_refl _) _; have hga := grownBy_trans (grownBy_of_below hal) hgr5; have HQ5 := Lib.hid ((HQR.out.below hal).ints (HZR.out.alloc _) hgr5 hn5); have HZ5 := Lib.hid hown5; have N1 := Lib.hid (M1.out.kept hga P1.out); have N2 := Lib.hid (M2.out.kept hga P2.out); have R1 := Lib.hid (P1.out.new (M1.out.alloc _) hn5); have R2 := Lib.hid (P2.out.new (M2.out.alloc _) hn5); have NB := Lib.hid (HDX.out.grownR hga HAX.out); have hb5 := HZR.out.grown hga hub; have HB5 := Lib.hid hb5; have hs5 := hb5.size; clear hown5 hgr5 hn5 hal hga hb5 b0 b1; have b0 := NB.out.cell (i := 0) rfl; have b1 := NB.out.cell (i := 1) rfl)
              go_wp2_with (at_builtin; refine wpList_append_Z (d := ⟨lx, ly⟩) (v := .slice pa wn pc) (z := .slice a5 (wn + 1) c5) (ds := dl) (l := wl ++ [((j : Int) + 1)]) rfl _ _ rfl w5.heap.size (wn + 1) (.slice xa xn xc) (.slice ya yn yc) rfl (HQ5.out.below ((Below.refl _ _).alloc (Nat.le_refl _) _)) (HZ5.out.alloc _) (N1.out.alloc _) (N2.out.alloc _) R1.out R2.out rfl ((BoxN.new w5 [.slice xa xn xc, .slice ya yn yc] 61).cell (i := 0) rfl) ((BoxN.new w5 [.slice xa xn xc, .slice ya yn yc] 61).cell (i := 1) rfl) (by simp; omega) (by rw [HPL.out]; omega) (by rw [HPL.out]) ?_; intro a7 c7 w7 hq7 hz7 hgr7; have hal7 : Below w5.heap.size w5 (w5.alloc (.cells #[.slice xa xn xc, .slice ya yn yc] 61)) := (Below.refl _ _).alloc (Nat.le_refl _) _; have hb7' := (Below.refl uE.heap.size (w5.alloc (.cells #[.slice xa xn xc, .slice ya yn yc] 61))).grown hgr7 (by simp; omega) (fun k hk => ((HQ5.out.below hal7).lt k hk).1); have HB7 := Lib.hid ((hal7.mono (show uE.heap.size ≤ w5.heap.size by omega)).trans hb7'); have HQ7 := Lib.hid hq7; have HZ7 := Lib.hid hz7; clear hq7 hz7 hgr7 hal7 hb7' b0 b1)
              have HB9 := Lib.hid (HB5.out.trans HB7.out)
              go_roundg (gk - 1)
              case measure => omega
              case rel => exact ⟨j + 1, wl ++ [((j : Int) + 1)], dl ++ [⟨lx, ly⟩], by go_num, by omega, by rw [List.length_append, HWN.out]; simp only [List.length_cons, List.length_nil]; omega, by rw [List.length_append, List.length_append, HWN.out, HPL.out]; rfl, HZ7, HQ7, Lib.hid ((HC.out.belowB HB9.out (by omega)).mono (by omega)), Lib.hid ((HWz.out.trans HW.out).belowStep HB9.out)⟩

            | true =>
              have c0 := HZ1.out.cell (i := 0) rfl
              have c1 := HZ1.out.cell (i := 1) rfl
              have c2 := HZ1.out.cell (i := 2) rfl
              go_wp2_with fail
              clear c0 c1 c2
              refine (spec_anyDealing U g _ P Q G _ HC.out (HW.out.belowOf HUC.out (Nat.le_of_eq HUS.out)) (by omega) HGR.out).mono ?_
              rintro e v9 ⟨⟨x9, y9, mx, my, rfl, ⟨hox, hlx⟩, ⟨hoy, hly⟩⟩, hc, hw⟩
              have hs9 := hw.size
              obtain ⟨xa, xc, rfl⟩ := hox.shape
              obtain ⟨ya, yc, rfl⟩ := hoy.shape
              obtain ⟨xn, hxn⟩ : ∃ z, mx.length = z := ⟨_, rfl⟩
              obtain ⟨yn, hyn⟩ : ∃ z, my.length = z := ⟨_, rfl⟩
              rw [hxn] at hox
              rw [hyn] at hoy
              rw [hxn, hyn]
              clear hxn hyn HXo HYo
              have hd0 := HDX.out.lt
              replace HDX := Lib.hid (HDX.out.kept hw (.inr (by omega)))
              replace HW := Lib.hid (HW.out.trans hw)
              replace HC := Lib.hid hc
              have hap1 := hox.apart HDX.out (by decide)
              have hap2 := hoy.apart HDX.out (by decide)
              have HXo := Lib.hid (hox.mono (show wr.heap.size ≤ _ by omega))
              have HYo := Lib.hid (hoy.mono (show wr.heap.size ≤ _ by omega))
              clear hc hw hox hoy
              have r0 := HDX.out.cell (i := 0) rfl
              have r1 := HDX.out.cell (i := 1) rfl
              have fr := fun j => HDX.out.frozen j
              have hbl := HDX.out.lt
              go_upto_region 19 with fail
              clear r0 r1 fr
              obtain ⟨Y7, hY⟩ : ∃ Y, Y = (v9.setCell ⟨dz, 0, none⟩ (.slice xa xn xc)).setCell ⟨dz, 1, none⟩ (.slice ya yn yc) := ⟨_, rfl⟩
              have NZ : Hid (BoxN Y7 dz 61 [.slice xa xn xc, .slice ya yn yc]) := by unfold Hid; rw [hY]; exact (HDX.out.set 0 _).set 1 _
              have NC := Lib.hid ((HC.out.setNew (b := dz) (by omega) 0 (.slice xa xn xc)).setNew (b := dz) (by omega) 1 (.slice ya yn yc))
              have NW := Lib.hid ((HW.out.setNew (b := dz) (by omega) 0 (.slice xa xn xc)).setNew (b := dz) (by omega) 1 (.slice ya yn yc))
              have NA : Hid (OwnI Y7 wr.heap.size (.slice xa xn xc) mx) := by unfold Hid; rw [hY]; exact HXo.out.setTwo hap1 _ _
              have NB0 : Hid (OwnI Y7 wr.heap.size (.slice ya yn yc) my) := by unfold Hid; rw [hY]; exact HYo.out.setTwo hap2 _ _
              rw [← hY] at NC NW ⊢
              clear hY hap1 hap2
              replace HDX := NZ
              replace HC := NC
              replace HW := NW
              replace HXo := NA
              replace HYo := NB0
              clear NZ NC NW NA NB0
              have hsz16 : wr.heap.size ≤ Y7.heap.size := HW.out.size
              have HZR := Lib.hid (HOw.out.withinR HW.out (by omega))
              have HQR := Lib.hid (HOz.out.within HW.out (by omega))
              have HXI : Hid (I64 ((j : Int) + 1)) := ⟨by omega, by omega⟩
              have P1 := Lib.hid (Parted.since (Y := wr) HXo.out HOw.out)
              have P2 := Lib.hid (Parted.since (Y := wr) HYo.out HOw.out)
              have M1 : Hid (OwnI Y7 uE.heap.size _ _) := HXo.out.mono (by omega)
              have M2 : Hid (OwnI Y7 uE.heap.size _ _) := HYo.out.mono (by omega)
              have HAX := Lib.hid (HZR.out.apart HDX.out (by decide))
              have hub : uE.heap.size ≤ Y7.heap.size := by omega
              have b0 := HDX.out.cell (i := 0) rfl
              have b1 := HDX.out.cell (i := 1) rfl
              go_upto_region 20 with (at_builtin; refine wpList_append_oneX rfl _ _ rfl uE.heap.size (.slice wa wn wc) _ wl ((j : Int) + 1) (wn + 1) rfl (HZR.out.alloc _) rfl (Ints.lit1 _ HXI.out) (by rw [HWN.out]; omega) (by simp; omega) (by rw [HWN.out]) ?_; intro a5 c5 w5 hown5 hgr5 hn5; have hal : Below Y7.heap.size Y7 (Y7.alloc (.cells #[.int .i64 ((j : Int) + 1)] 3)) := (Below.refl _ _).alloc (Nat.le_refl _) _; have hga := grownBy_trans (grownBy_of_below hal) hgr5; have HQ5 := Lib.hid ((HQR.out.below hal).ints (HZR.out.alloc _) hgr5 hn5); have HZ5 := Lib.hid hown5; have N1 := Lib.hid (M1.out.kept hga P1.out); have N2 := Lib.hid (M2.out.kept hga P2.out); have R1 := Lib.hid (P1.out.new (M1.out.alloc _) hn5); have R2 := Lib.hid (P2.out.new (M2.out.alloc _) hn5); have NB := Lib.hid (HDX.out.grownR hga HAX.out); have hb5 := HZR.out.grown hga hub; have HB5 := Lib.hid hb5; have hs5 := hb5.size; clear hown5 hgr5 hn5 hal hga hb5 b0 b1; have b0 := NB.out.cell (i := 0) rfl; have b1 := NB.out.cell (i := 1) rfl)
              go_wp2_with (at_builtin; refine wpList_append_Z (d := ⟨mx, my⟩) (v := .slice pa wn pc) (z := .slice a5 (wn + 1) c5) (ds := dl) (l := wl ++ [((j : Int) + 1)]) rfl _ _ rfl w5.heap.size (wn + 1) (.slice xa xn xc) (.slice ya yn yc) rfl (HQ5.out.below ((Below.refl _ _).alloc (Nat.le_refl _) _)) (HZ5.out.alloc _) (N1.out.alloc _) (N2.out.alloc _) R1.out R2.out rfl ((BoxN.new w5 [.slice xa xn xc, .slice ya yn yc] 61).cell (i := 0) rfl) ((BoxN.new w5 [.slice xa xn xc, .slice ya yn yc] 61).cell (i := 1) rfl) (by simp; omega) (by rw [HPL.out]; omega) (by rw [HPL.out]) ?_; intro a7 c7 w7 hq7 hz7 hgr7; have hal7 : Below w5.heap.size w5 (w5.alloc (.cells #[.slice xa xn xc, .slice ya yn yc] 61)) := (Below.refl _ _).alloc (Nat.le_refl _) _; have hb7' := (Below.refl uE.heap.size (w5.alloc (.cells #[.slice xa xn xc, .slice ya yn yc] 61))).grown hgr7 (by simp; omega) (fun k hk => ((HQ5.out.below hal7).lt k hk).1); have HB7 := Lib.hid ((hal7.mono (show uE.heap.size ≤ w5.heap.size by omega)).trans hb7'); have HQ7 := Lib.hid hq7; have HZ7 := Lib.hid hz7; clear hq7 hz7 hgr7 hal7 hb7' b0 b1)
              have HB9 := Lib.hid (HB5.out.trans HB7.out)
              go_roundg (gk - 1)
              case measure => omega
              case rel => exact ⟨j + 1, wl ++ [((j : Int) + 1)], dl ++ [⟨mx, my⟩], by go_num, by omega, by rw [List.length_append, HWN.out]; simp only [List.length_cons, List.length_nil]; omega, by rw [List.length_append, List.length_append, HWN.out, HPL.out]; rfl, HZ7, HQ7, Lib.hid ((HC.out.belowB HB9.out (by omega)).mono (by omega)), Lib.hid ((HWz.out.trans HW.out).belowStep HB9.out)⟩
    · obtain rfl : nb = j := by omega
      have hb : decide ((nb : Int) < (nb : Int)) = false := decide_eq_false (by omega)
      have hb2 : decide (nb < nb) = false := decide_eq_false (by omega)
      replace HX0 := Lib.hid (HX0.out.kept HWz.out (.inl (by omega)))
      replace HZ1 := Lib.hid (HZ1.out.kept HWz.out (.inr (by omega)))
      replace HBX := Lib.hid (HBX.out.kept HWz.out (.inr (by omega)))
      replace HLka := Lib.hid (HLka.out.within HWz.out (by omega))
      replace HLkb := Lib.hid (HLkb.out.within HWz.out (by omega))
      have HLo1 := HOw
      have HLo2 := HOz
      have HEo1 := HWN
      have HEo2 := HPL
      have hno1 : wn ≤ 7 := by omega
      have HW := HWz
      replace HC := Lib.hid (HC.out.mono (n' := 30000000000) (by omega))
      clear HOw HOz HWz hb hb2
      have z_0_0 := HX0.out.cell (i := 0) rfl
      have z_0_1 := HX0.out.cell (i := 1) rfl
      have z_0_2 := HX0.out.cell (i := 2) rfl
      have z_1_0 := HZ1.out.cell (i := 0) rfl
      have z_1_1 := HZ1.out.cell (i := 1) rfl
      have z_1_2 := HZ1.out.cell (i := 2) rfl
      have z_2_0 := HBX.out.cell (i := 0) rfl
      have z_2_1 := HBX.out.cell (i := 1) rfl
      try (go_wp2_with fail)
      clear z_0_0 z_0_1 z_0_2 z_1_0 z_1_1 z_1_2 z_2_0 z_2_1
      refine (spec_one U g _ 20 _ HC.out (HW.out.belowOf HUC.out (Nat.le_of_eq HUS.out)) (by omega) ).mono ?_
      rintro e u7 ⟨⟨b7, rfl⟩, hc, hw⟩
      have hsz7 := hw.size
      replace HX0 := Lib.hid (HX0.out.kept hw (.inl (by omega)))
      replace HZ1 := Lib.hid (HZ1.out.kept hw (.inr (by omega)))
      replace HBX := Lib.hid (HBX.out.kept hw (.inr (by omega)))
      replace HLka := Lib.hid (HLka.out.within hw (by omega))
      replace HLkb := Lib.hid (HLkb.out.within hw (by omega))
      replace HLo1 := Lib.hid (HLo1.out.within hw (by omega))
      replace HLo2 := Lib.hid (HLo2.out.within hw (by omega))
      replace HW := Lib.hid (HW.out.trans hw)
      replace HC := Lib.hid hc
      clear hc hw
      cases b7 with
      | false =>
        replace HLo1 := Lib.hid (Since.of_ownI HLo1.out (Nat.le_refl _))
        replace HLo2 := Lib.hid (Since.of_ownDs HLo2.out.ownDs (Nat.le_refl _))
        have z_0_0 := HX0.out.cell (i := 0) rfl
        have z_0_1 := HX0.out.cell (i := 1) rfl
        have z_0_2 := HX0.out.cell (i := 2) rfl
        have z_1_0 := HZ1.out.cell (i := 0) rfl
        have z_1_1 := HZ1.out.cell (i := 1) rfl
        have z_1_2 := HZ1.out.cell (i := 2) rfl
        have z_2_0 := HBX.out.cell (i := 0) rfl
        have z_2_1 := HBX.out.cell (i := 1) rfl
        try (go_wp2_with fail)
        clear z_0_0
        clear z_0_1
        clear z_0_2
        refine wp_region_noPanic ?_
        refine wp_region_V (fun w' => w'.cell? ⟨u1.heap.size, 0, none⟩ = some (.int .i64 P) ∧ w'.cell? ⟨u1.heap.size, 1, none⟩ = some (.int .i64 Q) ∧ w'.cell? ⟨u1.heap.size, 2, none⟩ = some (.int .i64 G) ∧ w'.cell? ⟨bz, 0, none⟩ = some (.slice aa na ca) ∧ w'.cell? ⟨bz, 1, none⟩ = some (.slice ab nb cb)) 11 8 (.rd 0 (.rd 1 (.rd 2 (.rd 3 (.rd 4 (.alt 5 (.alt 6 (.alt 7 .done .nil) .nil) .nil)))))) [8] (by kernel_rfl) (by kernel_rfl) rfl (fun _ _ _ _ _ h => h) ⟨box_at z_1_0 (Below.refl _ _).drew, box_at z_1_1 (Below.refl _ _).drew, box_at z_1_2 (Below.refl _ _).drew, box_at z_2_0 (Below.refl _ _).drew, box_at z_2_1 (Below.refl _ _).drew⟩ ?_
        simp only [pickV, pickN, List.getElem?_cons_zero, List.getElem?_cons_succ]
        repeat (refine' wpV_read _ (by kernel_rfl) (fun w' hS' => ?_) ?_; rotate_left; (focus ((try dsimp only at hS'); go_simp; (try with_reducible rfl))); (try simp only [Act.put, List.setIfInBounds_toArray, List.set_cons_zero, List.set_cons_succ]))
        have hdr : Below u7.heap.size u7 u7.drew := (Below.refl _ _).drew
        have hszd := hdr.size
        replace HX0 := Lib.hid (HX0.out.below hdr)
        replace HZ1 := Lib.hid (HZ1.out.below hdr)
        replace HBX := Lib.hid (HBX.out.below hdr)
        replace HLka := Lib.hid (HLka.out.below hdr)
        replace HLkb := Lib.hid (HLkb.out.below hdr)
        replace HLo1 := Lib.hid (HLo1.out.below hdr)
        replace HLo2 := Lib.hid (HLo2.out.below hdr)
        replace HW := Lib.hid (HW.out.trans (Within.of_below hdr))
        replace HC := Lib.hid (HC.out.keep hdr)
        clear hdr
        refine wpV_do (by kernel_rfl) (fun K hK => ?_)
        -- 5: store
        have r0 := HX0.out.cell (i := 0) rfl
        have r1 := HX0.out.cell (i := 1) rfl
        have r2 := HX0.out.cell (i := 2) rfl
        have fr := fun j => HX0.out.frozen j
        have q0 : u7.cell? ⟨w.heap.size, 0, none⟩ = some (.int .i64 0) := r0
        have q1 : u7.cell? ⟨w.heap.size, 1, none⟩ = some (.int .i64 0) := r1
        have q2 : u7.cell? ⟨w.heap.size, 2, none⟩ = some (.int .i64 0) := r2
        have frd : ∀ j, u7.frozen? ⟨w.heap.size, j, none⟩ = false := fr
        obtain ⟨Y1, hY⟩ : ∃ Y, Y = (((u7.setCell ⟨w.heap.size, 0, none⟩ (.int .i64 P)).setCell ⟨w.heap.size, 1, none⟩ (.int .i64 Q)).setCell ⟨w.heap.size, 2, none⟩ (.int .i64 G)).drew := ⟨_, rfl⟩
        have hYG := hY
        replace hY : Y1 = ((u7.drew.setCell ⟨w.heap.size, 0, none⟩ (.int .i64 P)).setCell ⟨w.heap.size, 1, none⟩ (.int .i64 Q)).setCell ⟨w.heap.size, 2, none⟩ (.int .i64 G) := by rw [hY]; first | rfl | simp [go_sem]
        have hYl : Within (w.heap.size) (w.heap.size + 1) u7.drew Y1 := by rw [hY]; exact ((((Within.refl (w.heap.size) (w.heap.size + 1) u7.drew).setCell (b := w.heap.size) (by omega) (by omega) 0 (.int .i64 P)).setCell (b := w.heap.size) (by omega) (by omega) 1 (.int .i64 Q)).setCell (b := w.heap.size) (by omega) (by omega) 2 (.int .i64 G))
        have HYW : Hid (Within w.heap.size (w.heap.size + 1) u7.drew Y1) := hYl.mono (by omega) (by omega)
        have HYB : Hid (Below w.heap.size w Y1) := hYl.belowU (HW.out.belowOf HBW.out (by omega)) (by omega)
        have HCS : Hid (∀ w', Within w.heap.size (w.heap.size + 1) u7.drew w' → w'.cell? ⟨u1.heap.size, 0, none⟩ = some (.int .i64 P) ∧ w'.cell? ⟨u1.heap.size, 1, none⟩ = some (.int .i64 Q) ∧ w'.cell? ⟨u1.heap.size, 2, none⟩ = some (.int .i64 G) ∧ w'.cell? ⟨bz, 0, none⟩ = some (.slice aa na ca) ∧ w'.cell? ⟨bz, 1, none⟩ = some (.slice ab nb cb)) := fun w' h => ⟨within_at h z_1_0 (by omega), within_at h z_1_1 (by omega), within_at h z_1_2 (by omega), within_at h z_2_0 (by omega), within_at h z_2_1 (by omega)⟩
        go_simp
        refine hK.out _ _ ?_ (fun _ => ?_)
        · rw [← hYG]; exact HCS.out _ HYW.out
        rw [← hYG]
        clear hK K fr r0 r1 r2
        replace HX0 : Hid (BoxN Y1 w.heap.size 24 [.int .i64 P, .int .i64 Q, .int .i64 G]) := by unfold Hid; rw [hY]; exact (((HX0.out.set 0 (.int .i64 P)).set 1 (.int .i64 Q)).set 2 (.int .i64 G))
        clear hYG frd q0 q1 q2
        clear hY hYl
        (try simp only [Act.put, List.setIfInBounds_toArray, List.set_cons_zero, List.set_cons_succ])
        clear z_1_0 z_1_1 z_1_2 z_2_0 z_2_1
        obtain ⟨z_1_0, z_1_1, z_1_2, z_2_0, z_2_1⟩ := HCS.out _ HYW.out
        refine wpV_do (by kernel_rfl) (fun K hK => ?_)
        -- 6: load
        go_simp
        refine hK.out _ _ ⟨z_1_0, z_1_1, z_1_2, z_2_0, z_2_1⟩ (fun _ => ?_)
        clear hK K
        (try simp only [Act.put, List.setIfInBounds_toArray, List.set_cons_zero, List.set_cons_succ])
        refine wpV_do (by kernel_rfl) (fun K hK => ?_)
        -- 7: load
        go_simp
        refine hK.out _ _ ⟨z_1_0, z_1_1, z_1_2, z_2_0, z_2_1⟩ (fun _ => ?_)
        clear hK K
        (try simp only [Act.put, List.setIfInBounds_toArray, List.set_cons_zero, List.set_cons_succ])
        refine wpV_done ?_
        go_wp2_with fail
        refine NoPanic.normal ?_
        clear z_1_0 z_1_1 z_1_2 z_2_0 z_2_1
        have t_HX0_0 := HX0.out.cell (i := 0) rfl
        have t_HX0_1 := HX0.out.cell (i := 1) rfl
        have t_HX0_2 := HX0.out.cell (i := 2) rfl
        try (go_wp2_with fail)
        refine bodyPost_ret (v := .tuple #[.agg #[.int .i64 P, .int .i64 Q, .int .i64 G], .slice aa na ca, .slice wa wn wc, .slice pa wn pc]) (by simp [results, Tryz.results14, go_sem, t_HX0_0, t_HX0_1, t_HX0_2]) rfl ⟨⟨_, _, _, _, _, _, _, _, _, rfl, HGR.out, ⟨(HLka.out.within HYW.out (by omega)).here, by have := HEka.out; omega⟩, ⟨(HLo1.out.within HYW.out (by omega)).here, by have := HEo1.out; omega⟩, ⟨(HLo2.out.within HYW.out (by omega)).here, by have := HEo2.out; omega⟩⟩, HYB.out⟩
      | true =>
        have z_0_0 := HX0.out.cell (i := 0) rfl
        have z_0_1 := HX0.out.cell (i := 1) rfl
        have z_0_2 := HX0.out.cell (i := 2) rfl
        have z_1_0 := HZ1.out.cell (i := 0) rfl
        have z_1_1 := HZ1.out.cell (i := 1) rfl
        have z_1_2 := HZ1.out.cell (i := 2) rfl
        have z_2_0 := HBX.out.cell (i := 0) rfl
        have z_2_1 := HBX.out.cell (i := 1) rfl
        clear z_0_0 z_0_1 z_0_2 z_1_0 z_1_1 z_1_2 z_2_0 z_2_1
        have hub : uE.heap.size ≤ u7.heap.size := HW.out.size
        have H1I : Hid (I64 1) := ⟨by decide, by decide⟩
        go_wp2_with (at_builtin; refine wpList_append_oneX rfl _ _ rfl uE.heap.size (.slice wa wn wc) _ wl 1 (wn + 1) rfl (HLo1.out.alloc _) rfl (Ints.lit1 _ H1I.out) (by rw [HWN.out]; omega) (by simp; omega) (by rw [HWN.out]) ?_; intro a5 c5 w5 hown5 hgr5 hn5; have hal : Below u7.heap.size u7 (u7.alloc (.cells #[.int .i64 1] 3)) := (Below.refl _ _).alloc (Nat.le_refl _) _; have hga := grownBy_trans (grownBy_of_below hal) hgr5; have HQ5 := Lib.hid ((HLo2.out.below hal).ints (HLo1.out.alloc _) hgr5 hn5); have HZ5 := Lib.hid hown5; have hb5 := HLo1.out.grown hga hub; have HB5 := Lib.hid hb5; have hs5 := hb5.size; clear hown5 hgr5 hn5 hal hga hb5)
        replace HLo1 := HZ5
        replace HLo2 := HQ5
        replace HEo1 : Hid ((wl ++ [1]).length = wn + 1) := by unfold Hid; rw [List.length_append, HWN.out]; rfl
        replace HC := Lib.hid (HC.out.belowB HB5.out (by omega))
        replace HW := Lib.hid (HW.out.belowStep HB5.out)
        replace HX0 := Lib.hid (HX0.out.belowB HB5.out (by omega))
        replace HZ1 := Lib.hid (HZ1.out.belowB HB5.out (by omega))
        replace HBX := Lib.hid (HBX.out.belowB HB5.out (by omega))
        replace HLka := Lib.hid (HLka.out.step HB5.out.size (fun k _ h => HB5.out.block k h))
        replace HLkb := Lib.hid (HLkb.out.step HB5.out.size (fun k _ h => HB5.out.block k h))
        clear HB5 HZ5 HQ5
        replace HLo1 := Lib.hid (Since.of_ownI HLo1.out (Nat.le_refl _))
        replace HLo2 := Lib.hid (Since.of_ownDs HLo2.out.ownDs (Nat.le_refl _))
        have z_0_0 := HX0.out.cell (i := 0) rfl
        have z_0_1 := HX0.out.cell (i := 1) rfl
        have z_0_2 := HX0.out.cell (i := 2) rfl
        have z_1_0 := HZ1.out.cell (i := 0) rfl
        have z_1_1 := HZ1.out.cell (i := 1) rfl
        have z_1_2 := HZ1.out.cell (i := 2) rfl
        have z_2_0 := HBX.out.cell (i := 0) rfl
        have z_2_1 := HBX.out.cell (i := 1) rfl
        try (go_wp2_with fail)
        clear z_0_0
        clear z_0_1
        clear z_0_2
        refine wp_region_noPanic ?_
        refine wp_region_V (fun w' => w'.cell? ⟨u1.heap.size, 0, none⟩ = some (.int .i64 P) ∧ w'.cell? ⟨u1.heap.size, 1, none⟩ = some (.int .i64 Q) ∧ w'.cell? ⟨u1.heap.size, 2, none⟩ = some (.int .i64 G) ∧ w'.cell? ⟨bz, 0, none⟩ = some (.slice aa na ca) ∧ w'.cell? ⟨bz, 1, none⟩ = some (.slice ab nb cb)) 11 8 (.rd 0 (.rd 1 (.rd 2 (.rd 3 (.rd 4 (.alt 5 (.alt 6 (.alt 7 .done .nil) .nil) .nil)))))) [8] (by kernel_rfl) (by kernel_rfl) rfl (fun _ _ _ _ _ h => h) ⟨box_at z_1_0 (Below.refl _ _).drew, box_at z_1_1 (Below.refl _ _).drew, box_at z_1_2 (Below.refl _ _).drew, box_at z_2_0 (Below.refl _ _).drew, box_at z_2_1 (Below.refl _ _).drew⟩ ?_
        simp only [pickV, pickN, List.getElem?_cons_zero, List.getElem?_cons_succ]
        repeat (refine' wpV_read _ (by kernel_rfl) (fun w' hS' => ?_) ?_; rotate_left; (focus ((try dsimp only at hS'); go_simp; (try with_reducible rfl))); (try simp only [Act.put, List.setIfInBounds_toArray, List.set_cons_zero, List.set_cons_succ]))
        have hdr : Below w5.heap.size w5 w5.drew := (Below.refl _ _).drew
        have hszd := hdr.size
        replace HX0 := Lib.hid (HX0.out.below hdr)
        replace HZ1 := Lib.hid (HZ1.out.below hdr)
        replace HBX := Lib.hid (HBX.out.below hdr)
        replace HLka := Lib.hid (HLka.out.below hdr)
        replace HLkb := Lib.hid (HLkb.out.below hdr)
        replace HLo1 := Lib.hid (HLo1.out.below hdr)
        replace HLo2 := Lib.hid (HLo2.out.below hdr)
        replace HW := Lib.hid (HW.out.trans (Within.of_below hdr))
        replace HC := Lib.hid (HC.out.keep hdr)
        clear hdr
        refine wpV_do (by kernel_rfl) (fun K hK => ?_)
        -- 5: store
        have r0 := HX0.out.cell (i := 0) rfl
        have r1 := HX0.out.cell (i := 1) rfl
        have r2 := HX0.out.cell (i := 2) rfl
        have fr := fun j => HX0.out.frozen j
        have q0 : w5.cell? ⟨w.heap.size, 0, none⟩ = some (.int .i64 0) := r0
        have q1 : w5.cell? ⟨w.heap.size, 1, none⟩ = some (.int .i64 0) := r1
        have q2 : w5.cell? ⟨w.heap.size, 2, none⟩ = some (.int .i64 0) := r2
        have frd : ∀ j, w5.frozen? ⟨w.heap.size, j, none⟩ = false := fr
        obtain ⟨Y1, hY⟩ : ∃ Y, Y = (((w5.setCell ⟨w.heap.size, 0, none⟩ (.int .i64 P)).setCell ⟨w.heap.size, 1, none⟩ (.int .i64 Q)).setCell ⟨w.heap.size, 2, none⟩ (.int .i64 G)).drew := ⟨_, rfl⟩
        have hYG := hY
        replace hY : Y1 = ((w5.drew.setCell ⟨w.heap.size, 0, none⟩ (.int .i64 P)).setCell ⟨w.heap.size, 1, none⟩ (.int .i64 Q)).setCell ⟨w.heap.size, 2, none⟩ (.int .i64 G) := by rw [hY]; first | rfl | simp [go_sem]
        have hYl : Within (w.heap.size) (w.heap.size + 1) w5.drew Y1 := by rw [hY]; exact ((((Within.refl (w.heap.size) (w.heap.size + 1) w5.drew).setCell (b := w.heap.size) (by omega) (by omega) 0 (.int .i64 P)).setCell (b := w.heap.size) (by omega) (by omega) 1 (.int .i64 Q)).setCell (b := w.heap.size) (by omega) (by omega) 2 (.int .i64 G))
        have HYW : Hid (Within w.heap.size (w.heap.size + 1) w5.drew Y1) := hYl.mono (by omega) (by omega)
        have HYB : Hid (Below w.heap.size w Y1) := hYl.belowU (HW.out.belowOf HBW.out (by omega)) (by omega)
        have HCS : Hid (∀ w', Within w.heap.size (w.heap.size + 1) w5.drew w' → w'.cell? ⟨u1.heap.size, 0, none⟩ = some (.int .i64 P) ∧ w'.cell? ⟨u1.heap.size, 1, none⟩ = some (.int .i64 Q) ∧ w'.cell? ⟨u1.heap.size, 2, none⟩ = some (.int .i64 G) ∧ w'.cell? ⟨bz, 0, none⟩ = some (.slice aa na ca) ∧ w'.cell? ⟨bz, 1, none⟩ = some (.slice ab nb cb)) := fun w' h => ⟨within_at h z_1_0 (by omega), within_at h z_1_1 (by omega), within_at h z_1_2 (by omega), within_at h z_2_0 (by omega), within_at h z_2_1 (by omega)⟩
        go_simp
        refine hK.out _ _ ?_ (fun _ => ?_)
        · rw [← hYG]; exact HCS.out _ HYW.out
        rw [← hYG]
        clear hK K fr r0 r1 r2
        replace HX0 : Hid (BoxN Y1 w.heap.size 24 [.int .i64 P, .int .i64 Q, .int .i64 G]) := by unfold Hid; rw [hY]; exact (((HX0.out.set 0 (.int .i64 P)).set 1 (.int .i64 Q)).set 2 (.int .i64 G))
        clear hYG frd q0 q1 q2
        clear hY hYl
        (try simp only [Act.put, List.setIfInBounds_toArray, List.set_cons_zero, List.set_cons_succ])
        clear z_1_0 z_1_1 z_1_2 z_2_0 z_2_1
        obtain ⟨z_1_0, z_1_1, z_1_2, z_2_0, z_2_1⟩ := HCS.out _ HYW.out
        refine wpV_do (by kernel_rfl) (fun K hK => ?_)
        -- 6: load
        go_simp
        refine hK.out _ _ ⟨z_1_0, z_1_1, z_1_2, z_2_0, z_2_1⟩ (fun _ => ?_)
        clear hK K
        (try simp only [Act.put, List.setIfInBounds_toArray, List.set_cons_zero, List.set_cons_succ])
        refine wpV_do (by kernel_rfl) (fun K hK => ?_)
        -- 7: load
        go_simp
        refine hK.out _ _ ⟨z_1_0, z_1_1, z_1_2, z_2_0, z_2_1⟩ (fun _ => ?_)
        clear hK K
        (try simp only [Act.put, List.setIfInBounds_toArray, List.set_cons_zero, List.set_cons_succ])
        refine wpV_done ?_
        go_wp2_with fail
        refine NoPanic.normal ?_
        clear z_1_0 z_1_1 z_1_2 z_2_0 z_2_1
        have t_HX0_0 := HX0.out.cell (i := 0) rfl
        have t_HX0_1 := HX0.out.cell (i := 1) rfl
        have t_HX0_2 := HX0.out.cell (i := 2) rfl
        try (go_wp2_with fail)
        refine bodyPost_ret (v := .tuple #[.agg #[.int .i64 P, .int .i64 Q, .int .i64 G], .slice aa na ca, .slice a5 (wn + 1) c5, .slice pa wn pc]) (by simp [results, Tryz.results14, go_sem, t_HX0_0, t_HX0_1, t_HX0_2]) rfl ⟨⟨_, _, _, _, _, _, _, _, _, rfl, HGR.out, ⟨(HLka.out.within HYW.out (by omega)).here, by have := HEka.out; omega⟩, ⟨(HLo1.out.within HYW.out (by omega)).here, by have := HEo1.out; omega⟩, ⟨(HLo2.out.within HYW.out (by omega)).here, by have := HEo2.out; omega⟩⟩, HYB.out⟩
end Go.Proofs.YtacpnphfopmofaaGreat
