/- Draws: proofs that are sometimes changed: walks (printed by gen_spoil.py). -/
import Derived.Test.YtegomgnlhcbmfaaPow2W
import Derived.Test.YtegomgnlhcbmfaaBaW
import Derived.Test.YtegomgnlhcbmfaaKEqualLogW
import Derived.Deep.Cut
namespace Go.Proofs.Ytegomgnlhcbmfaa
open Go.RowKit
set_option linter.unusedSimpArgs false
set_option linter.unusedVariables false

theorem OwnI.hi {w : World} {B b : Nat} {v : Value} {l : List Int} (h : OwnI w B v l) (hb : w.heap.size ≤ b) (j : Nat) (x : Value) : OwnI (w.setCell ⟨b, j, none⟩ x) B v l :=
  h.kept (grownBy_setCell _ b j x) (.inr fun e => by have := (h.lt _ e).2; omega)
/-- a row below T, a row from T on: different blocks -/
structure LowI (w : World) (B T : Nat) (v : Value) (l : List Int) : Prop where
  own : OwnI w B v l
  lt : ∀ k, v.ownBlock = some k → k < T
theorem LowI.of {w : World} {B T : Nat} {v : Value} {l : List Int} (h : OwnI w B v l) (hT : w.heap.size ≤ T) : LowI w B T v l := ⟨h, fun k e => by have := (h.lt k e).2; omega⟩
theorem LowI.below {w w' : World} {B T : Nat} {v : Value} {l : List Int} (h : LowI w B T v l) (hb : Below w.heap.size w w') : LowI w' B T v l := ⟨h.own.below hb, h.lt⟩
theorem LowI.within {w w' : World} {B T g : Nat} {v : Value} {l : List Int} (h : LowI w B T v l) (hw : Within g (g + 1) w w') (hg : g < B) : LowI w' B T v l := ⟨h.own.within hw hg, h.lt⟩
theorem LowI.other {w : World} {B T b : Nat} {v : Value} {l : List Int} (h : LowI w B T v l) (hb : b < B ∨ T ≤ b) (j : Nat) (x : Value) : LowI (w.setCell ⟨b, j, none⟩ x) B T v l :=
  ⟨h.own.kept (grownBy_setCell _ b j x) (.inr fun e => by have := (h.own.lt _ e).1; have := h.lt _ e; omega), h.lt⟩
theorem LowI.stored {w : World} {B T r n c : Nat} {l : List Int} (h : LowI w B T (.slice (some ⟨r, 0, none⟩) n c) l) (hn : l.length = n) (k : Nat) {x : Int} (hx : I64 x) : LowI (w.setCell ⟨r, k, none⟩ (.int .i64 x)) B T (.slice (some ⟨r, 0, none⟩) n c) (l.set k x) :=
  ⟨(h.own.stored hn k hx).1, h.lt⟩
theorem LowI.grown {w w' : World} {B T B2 T2 : Nat} {v v2 : Value} {l l2 : List Int} (h : LowI w B T v l) (h2 : LowI w B2 T2 v2 l2) (hg : w.grownBy w' v2.ownBlock) (hd : T ≤ B2 ∨ T2 ≤ B) : LowI w' B T v l :=
  ⟨h.own.kept hg (by
    cases e : v.ownBlock with
    | none => exact .inl rfl
    | some k => exact .inr fun e2 => by have := (h.own.lt k e).1; have := h.lt k e; have := (h2.own.lt k e2.symm).1; have := h2.lt k e2.symm; omega), h.lt⟩
end Go.Proofs.Ytegomgnlhcbmfaa
namespace Go.Proofs.Ytegomgnlhcbmfaa
open Go.RowKit
set_option linter.unusedSimpArgs false
set_option linter.unusedVariables false

theorem I64_wrapB (z : Int) : -9223372036854775808 ≤ IntKind.i64.wrap z ∧ IntKind.i64.wrap z ≤ 9223372036854775807 := by
  rw [IntKind.wrap_i64]; constructor <;> omega
set_option maxRecDepth 100000 in
set_option maxHeartbeats 4000000 in
theorem spec_bent (w0 : World) (g : Nat) (n P Q G : Int) (v0 v1 v2 : Value) (l0 l1 l2 : List Int) (w : World) (h : Cur w0 w g n) (hb : Below w0.heap.size w0 w) (hn : n ≤ 500000000000000) (hgr : GrB ⟨P, Q, G⟩) (h0 : Ints w v0 l0) (h1 : Ints w v1 l1) (h2 : Ints w v2 l2) (k0 : l0.length ≤ 30) (k1 : l1.length ≤ 30) (k2 : l2.length ≤ 30) :
    Calls Try.prog 110 #[.pointer (some ⟨g, 0, none⟩), .agg #[.int .i64 P, .int .i64 Q, .int .i64 G], .agg #[v0, v1, v2]] w fun e w' => (∃ (va vb vc : Value) (la lb lc : List Int), e = .returned (.agg #[va, vb, vc]) ∧ (Since w.heap.size w' (fun z => Ints z va la) ∧ la.length ≤ 31) ∧ (Since w.heap.size w' (fun z => Ints z vb lb) ∧ lb.length ≤ 31) ∧ (Since w.heap.size w' (fun z => Ints z vc lc) ∧ lc.length ≤ 31)) ∧ Cur w0 w' g (n + 100000) ∧ Within g (g + 1) w w' := by
  have HGR := Lib.hid hgr
  have HBB := Lib.hid hb
  have hge := h.ge
  have hgw := h.lt
  clear hgr hb
  obtain ⟨d0, n0, e0, rfl⟩ := h0.shape
  have HE0 := Lib.hid h0.len
  have HA0 := Lib.hid h0
  replace k0 : n0 ≤ 30 := by have := HE0.out; omega
  clear h0
  obtain ⟨d1, n1, e1, rfl⟩ := h1.shape
  have HE1 := Lib.hid h1.len
  have HA1 := Lib.hid h1
  replace k1 : n1 ≤ 30 := by have := HE1.out; omega
  clear h1
  obtain ⟨d2, n2, e2, rfl⟩ := h2.shape
  have HE2 := Lib.hid h2.len
  have HA2 := Lib.hid h2
  replace k2 : n2 ≤ 30 := by have := HE2.out; omega
  clear h2
  obtain ⟨W, hW⟩ : ∃ W, W = ((w.alloc (.cells #[.int .i64 P, .int .i64 Q, .int .i64 G] 24)).alloc (.cells #[.slice d0 n0 e0, .slice d1 n1 e1, .slice d2 n2 e2] 47)).alloc (.cells #[.slice none 0 0, .slice none 0 0, .slice none 0 0] 47) := ⟨_, rfl⟩
  have hbW : Below w.heap.size w W := by rw [hW]; (repeat (first | exact Below.refl _ _ | assumption | refine Below.drew ?_ | refine Below.alloc ?_ (by first | (simp; done) | (simp; omega)) _ | refine Below.setCell ?_ (by first | (simp; done) | (simp; omega)) _))
  have HZg : Hid (BoxN W w.heap.size 24 [.int .i64 P, .int .i64 Q, .int .i64 G]) := by unfold Hid; rw [hW]; exact ((BoxN.new w [.int .i64 P, .int .i64 Q, .int .i64 G] 24).alloc _).alloc _
  have HP : Hid (BoxN W (w.heap.size + 1) 47 [.slice d0 n0 e0, .slice d1 n1 e1, .slice d2 n2 e2]) := by unfold Hid; rw [hW]; have h := (BoxN.new (w.alloc (.cells #[.int .i64 P, .int .i64 Q, .int .i64 G] 24)) [.slice d0 n0 e0, .slice d1 n1 e1, .slice d2 n2 e2] 47).alloc (.cells #[.slice none 0 0, .slice none 0 0, .slice none 0 0] 47); simpa using h
  have HX : Hid (BoxN W (w.heap.size + 2) 47 [.slice none 0 0, .slice none 0 0, .slice none 0 0]) := by unfold Hid; rw [hW]; have h := BoxN.new ((w.alloc (.cells #[.int .i64 P, .int .i64 Q, .int .i64 G] 24)).alloc (.cells #[.slice d0 n0 e0, .slice d1 n1 e1, .slice d2 n2 e2] 47)) [.slice none 0 0, .slice none 0 0, .slice none 0 0] 47; simpa using h
  have HSW : Hid (W.heap.size = w.heap.size + 3) := by unfold Hid; rw [hW]; simp
  have hsW : W.heap.size = w.heap.size + 3 := HSW.out
  have HC := Lib.hid (h.keep hbW)
  have HW := Lib.hid (Within.of_below hbW : Within g (g + 1) w W)
  replace HA0 := Lib.hid (HA0.out.below hbW)
  replace HA1 := Lib.hid (HA1.out.below hbW)
  replace HA2 := Lib.hid (HA2.out.below hbW)
  clear h hsW
  go_enter Try.func110, Try.ntmps110
  go_wp2_with fail
  rw [← hW]
  clear hW hbW
  have p0 := HP.out.cell (i := 0) rfl
  have p1 := HP.out.cell (i := 1) rfl
  have p2 := HP.out.cell (i := 2) rfl
  refine wp_region_noPanic ?_
  refine wp_region_V (fun w' => w'.cell? ⟨w.heap.size + 1, 0, none⟩ = some (.slice d0 n0 e0) ∧ w'.cell? ⟨w.heap.size + 1, 1, none⟩ = some (.slice d1 n1 e1) ∧ w'.cell? ⟨w.heap.size + 1, 2, none⟩ = some (.slice d2 n2 e2)) 13 9 (.rd 0 (.rd 1 (.rd 3 (.rd 4 (.rd 6 (.rd 7 (.alt 2 (.alt 5 (.alt 8 .done .nil) .nil) .nil))))))) [9, 10] (by kernel_rfl) (by kernel_rfl) rfl (fun _ _ _ _ _ h => h) ⟨box_at p0 (Below.refl _ _).drew, box_at p1 (Below.refl _ _).drew, box_at p2 (Below.refl _ _).drew⟩ ?_
  simp only [pickV, pickN, List.getElem?_cons_zero, List.getElem?_cons_succ]
  repeat (refine' wpV_read _ (by kernel_rfl) (fun w' hS' => ?_) ?_; rotate_left; · ((try dsimp only at hS'); go_simp; (try with_reducible rfl)); (try simp only [Act.put, List.setIfInBounds_toArray, List.set_cons_zero, List.set_cons_succ]))
  obtain ⟨ud, hud⟩ : ∃ u, u = W.drew := ⟨_, rfl⟩
  have hdr : Below W.heap.size W ud := by rw [hud]; exact (Below.refl _ _).drew
  rw [← hud]
  clear hud
  replace HZg := Lib.hid (HZg.out.below hdr)
  replace HP := Lib.hid (HP.out.below hdr)
  replace HX := Lib.hid (HX.out.below hdr)
  replace HA0 := Lib.hid (HA0.out.below hdr)
  replace HA1 := Lib.hid (HA1.out.below hdr)
  replace HA2 := Lib.hid (HA2.out.below hdr)
  replace HC := Lib.hid (HC.out.keep hdr)
  replace HW := Lib.hid (HW.out.trans (Within.of_below hdr))
  have hs_hdr := hdr.size
  clear hdr p0 p1 p2
  have p0 := HP.out.cell (i := 0) rfl
  have p1 := HP.out.cell (i := 1) rfl
  have p2 := HP.out.cell (i := 2) rfl
  refine wpV_do (by kernel_rfl) (fun K hK => ?_)
  go_simp
  go_at_call_of 113 (Value.slice d0 n0 e0)
  refine (spec_l1Own _ l0 _ HA0.out (by have := HE0.out; omega)).mono ?_
  rintro e t0 ⟨x0, rfl, hown, hb0⟩
  replace HZg := Lib.hid (HZg.out.below hb0)
  replace HP := Lib.hid (HP.out.below hb0)
  replace HX := Lib.hid (HX.out.below hb0)
  replace HA0 := Lib.hid (HA0.out.below hb0)
  replace HA1 := Lib.hid (HA1.out.below hb0)
  replace HA2 := Lib.hid (HA2.out.below hb0)
  replace HC := Lib.hid (HC.out.keep hb0)
  replace HW := Lib.hid (HW.out.trans (Within.of_below hb0))
  have hs_hb0 := hb0.size
  clear hb0 p0 p1 p2
  have p0 := HP.out.cell (i := 0) rfl
  have p1 := HP.out.cell (i := 1) rfl
  have p2 := HP.out.cell (i := 2) rfl
  have HO0 := Lib.hid (LowI.of hown (Nat.le_refl _))
  clear hown
  refine hK.out _ _ ⟨p0, p1, p2⟩ (fun _ => ?_)
  clear hK K
  (try simp only [Act.put, List.setIfInBounds_toArray, List.set_cons_zero, List.set_cons_succ])
  refine wpV_do (by kernel_rfl) (fun K hK => ?_)
  go_simp
  go_at_call_of 113 (Value.slice d1 n1 e1)
  refine (spec_l1Own _ l1 _ HA1.out (by have := HE1.out; omega)).mono ?_
  rintro e t1 ⟨x1, rfl, hown, hb1⟩
  replace HZg := Lib.hid (HZg.out.below hb1)
  replace HP := Lib.hid (HP.out.below hb1)
  replace HX := Lib.hid (HX.out.below hb1)
  replace HA0 := Lib.hid (HA0.out.below hb1)
  replace HA1 := Lib.hid (HA1.out.below hb1)
  replace HA2 := Lib.hid (HA2.out.below hb1)
  replace HO0 := Lib.hid (HO0.out.below hb1)
  replace HC := Lib.hid (HC.out.keep hb1)
  replace HW := Lib.hid (HW.out.trans (Within.of_below hb1))
  have hs_hb1 := hb1.size
  clear hb1 p0 p1 p2
  have p0 := HP.out.cell (i := 0) rfl
  have p1 := HP.out.cell (i := 1) rfl
  have p2 := HP.out.cell (i := 2) rfl
  have HO1 := Lib.hid (LowI.of hown (Nat.le_refl _))
  clear hown
  refine hK.out _ _ ⟨p0, p1, p2⟩ (fun _ => ?_)
  clear hK K
  (try simp only [Act.put, List.setIfInBounds_toArray, List.set_cons_zero, List.set_cons_succ])
  refine wpV_do (by kernel_rfl) (fun K hK => ?_)
  go_simp
  go_at_call_of 113 (Value.slice d2 n2 e2)
  refine (spec_l1Own _ l2 _ HA2.out (by have := HE2.out; omega)).mono ?_
  rintro e t2 ⟨x2, rfl, hown, hb2⟩
  replace HZg := Lib.hid (HZg.out.below hb2)
  replace HP := Lib.hid (HP.out.below hb2)
  replace HX := Lib.hid (HX.out.below hb2)
  replace HA0 := Lib.hid (HA0.out.below hb2)
  replace HA1 := Lib.hid (HA1.out.below hb2)
  replace HA2 := Lib.hid (HA2.out.below hb2)
  replace HO0 := Lib.hid (HO0.out.below hb2)
  replace HO1 := Lib.hid (HO1.out.below hb2)
  replace HC := Lib.hid (HC.out.keep hb2)
  replace HW := Lib.hid (HW.out.trans (Within.of_below hb2))
  have hs_hb2 := hb2.size
  clear hb2 p0 p1 p2
  have p0 := HP.out.cell (i := 0) rfl
  have p1 := HP.out.cell (i := 1) rfl
  have p2 := HP.out.cell (i := 2) rfl
  have HO2 := Lib.hid (LowI.of hown (Nat.le_refl _))
  clear hown
  refine hK.out _ _ ⟨p0, p1, p2⟩ (fun _ => ?_)
  clear hK K
  (try simp only [Act.put, List.setIfInBounds_toArray, List.set_cons_zero, List.set_cons_succ])
  refine wpV_done ?_
  clear HA0 HA1 HA2
  obtain ⟨a0, c0, rfl⟩ := HO0.out.own.shape
  rw [HE0.out] at HO0 ⊢
  obtain ⟨a1, c1, rfl⟩ := HO1.out.own.shape
  rw [HE1.out] at HO1 ⊢
  obtain ⟨a2, c2, rfl⟩ := HO2.out.own.shape
  rw [HE2.out] at HO2 ⊢
  have pf := fun j => HP.out.frozen j
  have hsW := HSW.out
  go_wp2_with fail
  refine NoPanic.normal ?_
  obtain ⟨Y, hY⟩ : ∃ Y, Y = ((t2.setCell ⟨w.heap.size + 1, 0, none⟩ (.slice a0 n0 c0)).setCell ⟨w.heap.size + 1, 1, none⟩ (.slice a1 n1 c1)).setCell ⟨w.heap.size + 1, 2, none⟩ (.slice a2 n2 c2) := ⟨_, rfl⟩
  have NP : Hid (BoxN Y (w.heap.size + 1) 47 [.slice a0 n0 c0, .slice a1 n1 c1, .slice a2 n2 c2]) := by unfold Hid; rw [hY]; exact (((HP.out.set 0 (.slice a0 n0 c0)).set 1 (.slice a1 n1 c1)).set 2 (.slice a2 n2 c2))
  have NZ : Hid (BoxN Y w.heap.size 24 [.int .i64 P, .int .i64 Q, .int .i64 G]) := by unfold Hid; rw [hY]; exact (((HZg.out.otherN (b' := w.heap.size + 1) (by omega) 0 (.slice a0 n0 c0)).otherN (b' := w.heap.size + 1) (by omega) 1 (.slice a1 n1 c1)).otherN (b' := w.heap.size + 1) (by omega) 2 (.slice a2 n2 c2))
  have NX : Hid (BoxN Y (w.heap.size + 2) 47 [.slice none 0 0, .slice none 0 0, .slice none 0 0]) := by unfold Hid; rw [hY]; exact (((HX.out.other (b' := w.heap.size + 1) (by omega) 0 (.slice a0 n0 c0)).other (b' := w.heap.size + 1) (by omega) 1 (.slice a1 n1 c1)).other (b' := w.heap.size + 1) (by omega) 2 (.slice a2 n2 c2))
  have NC : Hid (Cur w0 Y g n) := by unfold Hid; rw [hY]; exact (((HC.out.setNew (b := w.heap.size + 1) (by omega) 0 (.slice a0 n0 c0)).setNew (b := w.heap.size + 1) (by omega) 1 (.slice a1 n1 c1)).setNew (b := w.heap.size + 1) (by omega) 2 (.slice a2 n2 c2))
  have NW : Hid (Within g (g + 1) w Y) := by unfold Hid; rw [hY]; exact (((HW.out.setNew (b := w.heap.size + 1) (by omega) 0 (.slice a0 n0 c0)).setNew (b := w.heap.size + 1) (by omega) 1 (.slice a1 n1 c1)).setNew (b := w.heap.size + 1) (by omega) 2 (.slice a2 n2 c2))
  have hsY : Y.heap.size = t2.heap.size := by rw [hY]; simp
  have NO0 : Hid (LowI Y ud.heap.size t0.heap.size (.slice a0 n0 c0) l0) := by unfold Hid; rw [hY]; exact (((HO0.out.other (b := w.heap.size + 1) (.inl (by omega)) 0 (.slice a0 n0 c0)).other (b := w.heap.size + 1) (.inl (by omega)) 1 (.slice a1 n1 c1)).other (b := w.heap.size + 1) (.inl (by omega)) 2 (.slice a2 n2 c2))
  have NO1 : Hid (LowI Y t0.heap.size t1.heap.size (.slice a1 n1 c1) l1) := by unfold Hid; rw [hY]; exact (((HO1.out.other (b := w.heap.size + 1) (.inl (by omega)) 0 (.slice a0 n0 c0)).other (b := w.heap.size + 1) (.inl (by omega)) 1 (.slice a1 n1 c1)).other (b := w.heap.size + 1) (.inl (by omega)) 2 (.slice a2 n2 c2))
  have NO2 : Hid (LowI Y t1.heap.size t2.heap.size (.slice a2 n2 c2) l2) := by unfold Hid; rw [hY]; exact (((HO2.out.other (b := w.heap.size + 1) (.inl (by omega)) 0 (.slice a0 n0 c0)).other (b := w.heap.size + 1) (.inl (by omega)) 1 (.slice a1 n1 c1)).other (b := w.heap.size + 1) (.inl (by omega)) 2 (.slice a2 n2 c2))
  rw [← hY]
  clear hY HP HZg HX HC HW HO0 HO1 HO2 p0 p1 p2 pf
  have HP := NP
  have HZg := NZ
  have HX := NX
  have HC := NC
  have HW := NW
  have HO0 := NO0
  have HO1 := NO1
  have HO2 := NO2
  clear NP NZ NX NC NW NO0 NO1 NO2
  try (go_wp2_with fail)
  refine (spec_one w0 g _ 3 _ HC.out (HW.out.belowOf HBB.out hge) (by omega)).mono ?_
  rintro e u3 ⟨⟨b3, rfl⟩, hc, hw⟩
  have hsz3 := hw.size
  replace HZg := Lib.hid (HZg.out.kept hw (.inr (by omega)))
  replace HP := Lib.hid (HP.out.kept hw (.inr (by omega)))
  replace HX := Lib.hid (HX.out.kept hw (.inr (by omega)))
  replace HO0 := Lib.hid (HO0.out.within hw (by omega))
  replace HO1 := Lib.hid (HO1.out.within hw (by omega))
  replace HO2 := Lib.hid (HO2.out.within hw (by omega))
  replace HW := Lib.hid (HW.out.trans hw)
  replace HC := Lib.hid (hc.mono (n' := n + 10) (by omega))
  clear hc hw
  have hpl : w.heap.size + 2 < u3.heap.size := HX.out.lt
  cases b3 with
  | false =>
    have x0 := HX.out.cell (i := 0) rfl
    have x1 := HX.out.cell (i := 1) rfl
    have x2 := HX.out.cell (i := 2) rfl
    have fx := fun j => HX.out.frozen j
    have p0 := HP.out.cell (i := 0) rfl
    have p1 := HP.out.cell (i := 1) rfl
    have p2 := HP.out.cell (i := 2) rfl
    go_wp2_with fail
    have HXF := Lib.hid (((HX.out.set 0 (.slice a0 n0 c0)).set 1 (.slice a1 n1 c1)).set 2 (.slice a2 n2 c2))
    have t_0 := HXF.out.cell (i := 0) rfl
    have t_1 := HXF.out.cell (i := 1) rfl
    have t_2 := HXF.out.cell (i := 2) rfl
    try (go_wp2_with fail)
    refine bodyPost_ret (v := .agg #[.slice a0 n0 c0, .slice a1 n1 c1, .slice a2 n2 c2]) (by simp [results, Try.results110, go_sem, t_0, t_1, t_2]) rfl ⟨⟨_, _, _, _, _, _, rfl, ⟨Since.of_ownI (((HO0.out.other (b := w.heap.size + 2) (.inl (by omega)) 0 (.slice a0 n0 c0)).other (b := w.heap.size + 2) (.inl (by omega)) 1 (.slice a1 n1 c1)).other (b := w.heap.size + 2) (.inl (by omega)) 2 (.slice a2 n2 c2)).own (by omega), by have := HE0.out; omega⟩, ⟨Since.of_ownI (((HO1.out.other (b := w.heap.size + 2) (.inl (by omega)) 0 (.slice a0 n0 c0)).other (b := w.heap.size + 2) (.inl (by omega)) 1 (.slice a1 n1 c1)).other (b := w.heap.size + 2) (.inl (by omega)) 2 (.slice a2 n2 c2)).own (by omega), by have := HE1.out; omega⟩, ⟨Since.of_ownI (((HO2.out.other (b := w.heap.size + 2) (.inl (by omega)) 0 (.slice a0 n0 c0)).other (b := w.heap.size + 2) (.inl (by omega)) 1 (.slice a1 n1 c1)).other (b := w.heap.size + 2) (.inl (by omega)) 2 (.slice a2 n2 c2)).own (by omega), by have := HE2.out; omega⟩⟩, (((HC.out.setNew (b := w.heap.size + 2) (by omega) 0 (.slice a0 n0 c0)).setNew (b := w.heap.size + 2) (by omega) 1 (.slice a1 n1 c1)).setNew (b := w.heap.size + 2) (by omega) 2 (.slice a2 n2 c2)).mono (by omega), (((HW.out.setNew (b := w.heap.size + 2) (by omega) 0 (.slice a0 n0 c0)).setNew (b := w.heap.size + 2) (by omega) 1 (.slice a1 n1 c1)).setNew (b := w.heap.size + 2) (by omega) 2 (.slice a2 n2 c2))⟩
  | true =>
    go_wp2_with fail
    have z_0_0 := HZg.out.cell (i := 0) rfl
    have z_0_1 := HZg.out.cell (i := 1) rfl
    have z_0_2 := HZg.out.cell (i := 2) rfl
    have z_1_0 := HP.out.cell (i := 0) rfl
    have z_1_1 := HP.out.cell (i := 1) rfl
    have z_1_2 := HP.out.cell (i := 2) rfl
    have z_2_0 := HX.out.cell (i := 0) rfl
    have z_2_1 := HX.out.cell (i := 1) rfl
    have z_2_2 := HX.out.cell (i := 2) rfl
    try (go_wp2_with fail)
    refine wp_region_noPanic ?_
    refine wp_region_Q (Within g (g + 1)) (DrawS w0 u3 g _ 1000 (fun w' => w'.cell? ⟨w.heap.size, 0, none⟩ = some (.int .i64 P) ∧ w'.cell? ⟨w.heap.size, 1, none⟩ = some (.int .i64 Q) ∧ w'.cell? ⟨w.heap.size, 2, none⟩ = some (.int .i64 G) ∧ w'.cell? ⟨(w.heap.size + 1), 0, none⟩ = some (.slice a0 n0 c0) ∧ w'.cell? ⟨(w.heap.size + 1), 1, none⟩ = some (.slice a1 n1 c1) ∧ w'.cell? ⟨(w.heap.size + 1), 2, none⟩ = some (.slice a2 n2 c2) ∧ w'.cell? ⟨(w.heap.size + 2), 0, none⟩ = some (.slice none 0 0) ∧ w'.cell? ⟨(w.heap.size + 2), 1, none⟩ = some (.slice none 0 0) ∧ w'.cell? ⟨(w.heap.size + 2), 2, none⟩ = some (.slice none 0 0))) 14 [(0, []), (1, [0]), (2, []), (3, [0]), (4, []), (5, [0]), (6, [4, 2, 0]), (7, []), (8, [0]), (9, [2, 0]), (10, [0])] [11] (by kernel_rfl) (by kernel_rfl) (by kernel_rfl) rfl (fun _ _ _ _ h => h) (DrawS.good _ _ _ _ _ _) ⟨(Within.refl _ _ _).drew, by simpa using HC.out.keep (Below.refl _ _).drew, ⟨box_at z_0_0 (Below.refl _ _).drew, box_at z_0_1 (Below.refl _ _).drew, box_at z_0_2 (Below.refl _ _).drew, box_at z_1_0 (Below.refl _ _).drew, box_at z_1_1 (Below.refl _ _).drew, box_at z_1_2 (Below.refl _ _).drew, box_at z_2_0 (Below.refl _ _).drew, box_at z_2_1 (Below.refl _ _).drew, box_at z_2_2 (Below.refl _ _).drew⟩⟩ ?_
    simp only [pickP, pickN, List.getElem?_cons_zero, List.getElem?_cons_succ]
    iterate 6 (refine' chainQ_read (DrawS.good _ _ _ _ _ _) _ rfl rfl (fun m w' hm' hS' => ?_) ?_; rotate_left; · (simp only [lookP, allP, Act.put, List.getElem?_cons_zero, List.getElem?_cons_succ, List.setIfInBounds_toArray, List.set_cons_zero, List.set_cons_succ]; (try dsimp only [DrawS] at hS'); go_simp; (try with_reducible rfl)))
    -- 6: buildSlice 233 3 #[(0, t24), (1, t26), (2, t28)]
    refine chainQ_do (d := (some 29)) (fun v u => ∃ b, v = .slice (some ⟨b, 0, none⟩) 3 3 ∧ u3.heap.size ≤ b ∧ BoxN u b 43 [.slice a0 n0 c0, .slice a1 n1 c1, .slice a2 n2 c2]) (fun v w1 w2 hw h => by obtain ⟨b, h1, h2, h3⟩ := h; exact ⟨b, h1, h2, h3.kept hw (.inr (by omega))⟩) rfl rfl (fun m w' hm' hS' => ?_) ?_
    · simp only [lookP, allP, Act.put, List.getElem?_cons_zero, List.getElem?_cons_succ, List.setIfInBounds_toArray, List.set_cons_zero, List.set_cons_succ]
      intro K hK
      replace hm' : m < 11 := hm'
      go_simp
      have hbn := (Below.refl w'.heap.size w').alloc (Nat.le_refl _) (.cells #[.slice a0 n0 c0, .slice a1 n1 c1, .slice a2 n2 c2] 43)
      have hw := (Within.of_below hbn : Within g (g + 1) _ _)
      have hsz0 := hS'.1.size
      refine hK.out _ _ hw ⟨hS'.1.trans hw, (hS'.2.1.keep hbn).mono (by omega), ⟨within_at (hS'.1.trans hw) z_0_0 (.inr (by omega)), within_at (hS'.1.trans hw) z_0_1 (.inr (by omega)), within_at (hS'.1.trans hw) z_0_2 (.inr (by omega)), within_at (hS'.1.trans hw) z_1_0 (.inr (by omega)), within_at (hS'.1.trans hw) z_1_1 (.inr (by omega)), within_at (hS'.1.trans hw) z_1_2 (.inr (by omega)), within_at (hS'.1.trans hw) z_2_0 (.inr (by omega)), within_at (hS'.1.trans hw) z_2_1 (.inr (by omega)), within_at (hS'.1.trans hw) z_2_2 (.inr (by omega))⟩⟩ ?_
      exact ⟨_, rfl, hsz0, BoxN.new w' [.slice a0 n0 c0, .slice a1 n1 c1, .slice a2 n2 c2] _⟩
    -- 7: move t0
    refine' chainQ_read (DrawS.good _ _ _ _ _ _) (d := (some 30)) _ rfl rfl (fun m w' hm' hS' => ?_) ?_; rotate_left
    · simp only [lookP, allP, Act.put, List.getElem?_cons_zero, List.getElem?_cons_succ, List.setIfInBounds_toArray, List.set_cons_zero, List.set_cons_succ]
      (try dsimp only [DrawS] at hS')
      go_simp
      (try with_reducible rfl)
    -- 8: call { callee := value (func 158), args := #[t30, const (int i64 3)], argTypes := #[167, 3] }
    refine chainQ_do (d := (some 31)) (fun v u => ∃ y : Nat, v = .int .i64 (y : Int) ∧ y < 3) (fun v w1 w2 hw h => h) rfl rfl (fun m w' hm' hS' => ?_) ?_
    · simp only [lookP, allP, Act.put, List.getElem?_cons_zero, List.getElem?_cons_succ, List.setIfInBounds_toArray, List.set_cons_zero, List.set_cons_succ]
      intro K hK
      replace hm' : m < 11 := hm'
      go_simp
      go_at_call 95
      refine (spec_pick w0 g _ 3 _ hS'.2.1 (hS'.1.belowOf (HW.out.belowOf HBB.out hge) hge) (by omega)).mono ?_
      rintro e u ⟨⟨y, rfl, y0, _, y2, _⟩, hc, hw⟩
      replace y2 := y2 (by omega)
      obtain ⟨j, rfl⟩ := Int.eq_ofNat_of_zero_le y0
      exact hK.out _ _ hw ⟨hS'.1.trans hw, hc.mono (by omega), ⟨within_at (hS'.1.trans hw) z_0_0 (.inr (by omega)), within_at (hS'.1.trans hw) z_0_1 (.inr (by omega)), within_at (hS'.1.trans hw) z_0_2 (.inr (by omega)), within_at (hS'.1.trans hw) z_1_0 (.inr (by omega)), within_at (hS'.1.trans hw) z_1_1 (.inr (by omega)), within_at (hS'.1.trans hw) z_1_2 (.inr (by omega)), within_at (hS'.1.trans hw) z_2_0 (.inr (by omega)), within_at (hS'.1.trans hw) z_2_1 (.inr (by omega)), within_at (hS'.1.trans hw) z_2_2 (.inr (by omega))⟩⟩ ⟨j, rfl, by omega⟩
    -- 9: indexAddr 233 t29 t31
    refine chainQ_have (DrawS.good _ _ _ _ _ _) (d := (some 32)) (fun v u => ∃ b y, v = .pointer (some ⟨b, y, none⟩) ∧ y < 3 ∧ u3.heap.size ≤ b ∧ BoxN u b 43 [.slice a0 n0 c0, .slice a1 n1 c1, .slice a2 n2 c2]) (fun v w1 w2 hw h => by obtain ⟨b, y, h1, h2, h3, h4⟩ := h; exact ⟨b, y, h1, h2, h3, h4.kept hw (.inr (by omega))⟩) rfl rfl (fun m w' hm' hS' => ?_) ?_
    · simp only [lookP, allP, Act.put, List.getElem?_cons_zero, List.getElem?_cons_succ, List.setIfInBounds_toArray, List.set_cons_zero, List.set_cons_succ]
      intro x6 hx6
      intro x8 hx8
      obtain ⟨b, rfl, hbl, hbx⟩ := hx6
      obtain ⟨y, rfl, yl⟩ := hx8
      have yz : (0 : Int) ≤ (y : Int) := by omega
      have yn : (y : Int) < 3 := by omega
      refine ⟨.pointer (some ⟨b, y, none⟩), ?_, b, y, rfl, yl, hbl, hbx⟩
      go_simp
    -- 10: load 24 t32
    refine chainQ_have (DrawS.good _ _ _ _ _ _) (d := (some 33)) (fun v u => v = .slice a0 n0 c0 ∨ v = .slice a1 n1 c1 ∨ v = .slice a2 n2 c2) (fun v w1 w2 hw h => h) rfl rfl (fun m w' hm' hS' => ?_) ?_
    · simp only [lookP, allP, Act.put, List.getElem?_cons_zero, List.getElem?_cons_succ, List.setIfInBounds_toArray, List.set_cons_zero, List.set_cons_succ]
      intro x9 hx9
      obtain ⟨b, y, rfl, yl, hbl, hbx⟩ := hx9
      rcases (by omega : y = 0 ∨ y = 1 ∨ y = 2) with rfl | rfl | rfl
      · have z := hbx.cell (i := 0) rfl
        refine ⟨.slice a0 n0 c0, ?_, .inl rfl⟩
        go_simp
      · have z := hbx.cell (i := 1) rfl
        refine ⟨.slice a1 n1 c1, ?_, .inr (.inl rfl)⟩
        go_simp
      · have z := hbx.cell (i := 2) rfl
        refine ⟨.slice a2 n2 c2, ?_, .inr (.inr rfl)⟩
        go_simp
    refine chainQ_nil (fun u1 hS' => ?_)
    simp only [allP, Act.put, List.setIfInBounds_toArray, List.set_cons_zero, List.set_cons_succ]
    intro x10 hx10
    intro x9 hx9
    intro x8 hx8
    intro x6 hx6
    replace hS' : DrawS w0 u3 g _ 1000 _ 11 u1 := hS'
    obtain ⟨hw, hc, hC⟩ := hS'
    have hsz1 := hw.size
    replace HZg := Lib.hid (HZg.out.kept hw (.inr (by omega)))
    replace HP := Lib.hid (HP.out.kept hw (.inr (by omega)))
    replace HX := Lib.hid (HX.out.kept hw (.inr (by omega)))
    replace HO0 := Lib.hid (HO0.out.within hw (by omega))
    replace HO1 := Lib.hid (HO1.out.within hw (by omega))
    replace HO2 := Lib.hid (HO2.out.within hw (by omega))
    replace HW := Lib.hid (HW.out.trans hw)
    replace HC := Lib.hid hc
    clear hc hw hC
    clear z_0_0 z_0_1 z_0_2 z_1_0 z_1_1 z_1_2 z_2_0 z_2_1 z_2_2
    clear hx6 hx8 hx9
    obtain ⟨av, nv, cv, lv, rfl, hor⟩ : ∃ av nv cv lv, x10 = .slice av nv cv ∧ ((av = a0 ∧ nv = n0 ∧ cv = c0 ∧ lv = l0) ∨ (av = a1 ∧ nv = n1 ∧ cv = c1 ∧ lv = l1) ∨ (av = a2 ∧ nv = n2 ∧ cv = c2 ∧ lv = l2)) := by
      rcases hx10 with h | h | h
      · exact ⟨a0, n0, c0, l0, h, .inl ⟨rfl, rfl, rfl, rfl⟩⟩
      · exact ⟨a1, n1, c1, l1, h, .inr (.inl ⟨rfl, rfl, rfl, rfl⟩)⟩
      · exact ⟨a2, n2, c2, l2, h, .inr (.inr ⟨rfl, rfl, rfl, rfl⟩)⟩
    clear hx10
    have HOR := Lib.hid hor
    have hnv : nv ≤ 30 := by rcases hor with ⟨_, h, _⟩ | ⟨_, h, _⟩ | ⟨_, h, _⟩ <;> omega
    have HEV : Hid (lv.length = nv) := by
      rcases hor with ⟨_, rfl, _, rfl⟩ | ⟨_, rfl, _, rfl⟩ | ⟨_, rfl, _, rfl⟩
      · exact HE0.out
      · exact HE1.out
      · exact HE2.out
    have HOV : Hid (LowI u1 ud.heap.size t2.heap.size (.slice av nv cv) lv) := by
      rcases hor with ⟨rfl, rfl, rfl, rfl⟩ | ⟨rfl, rfl, rfl, rfl⟩ | ⟨rfl, rfl, rfl, rfl⟩
      · exact ⟨HO0.out.own, fun k h => by have := HO0.out.lt k h; omega⟩
      · exact ⟨HO1.out.own.mono (by omega), fun k h => by have := HO1.out.lt k h; omega⟩
      · exact ⟨HO2.out.own.mono (by omega), HO2.out.lt⟩
    clear hor
    go_wp2_with fail
    refine NoPanic.normal ?_
    go_upto_if 36 with fail
    go_cut [] from 9 (fun wx => ∃ m0 m1 m2 : List Int, m0.length = n0 ∧ m1.length = n1 ∧ m2.length = n2 ∧ w.heap.size + 2 < wx.heap.size ∧ t2.heap.size ≤ wx.heap.size ∧ Hid (BoxN wx w.heap.size 24 [.int .i64 P, .int .i64 Q, .int .i64 G]) ∧ Hid (BoxN wx (w.heap.size + 1) 47 [.slice a0 n0 c0, .slice a1 n1 c1, .slice a2 n2 c2]) ∧ Hid (BoxN wx (w.heap.size + 2) 47 [.slice none 0 0, .slice none 0 0, .slice none 0 0]) ∧ Hid (LowI wx ud.heap.size t0.heap.size (.slice a0 n0 c0) m0) ∧ Hid (LowI wx t0.heap.size t1.heap.size (.slice a1 n1 c1) m1) ∧ Hid (LowI wx t1.heap.size t2.heap.size (.slice a2 n2 c2) m2) ∧ Hid (Cur w0 wx g (n + 80000)) ∧ Hid (Within g (g + 1) w wx))
    case first =>
      have hltx : w.heap.size + 2 < u1.heap.size := HX.out.lt
      by_cases hz : nv = 0
      · have hzi : decide ((0 : Int) < (nv : Int)) = false := decide_eq_false (by omega)
        have hzk : ¬ 0 < nv := by omega
        clear hz
        go_wp2_with fail
        go_meet
        exact ⟨l0, l1, l2, HE0.out, HE1.out, HE2.out, hltx, by omega, HZg, HP, HX, HO0, HO1, HO2, Lib.hid (HC.out.mono (by omega)), HW⟩
      · have hnz : 0 < nv := by omega
        have hzi : decide ((0 : Int) < (nv : Int)) = true := decide_eq_true (by omega)
        obtain ⟨rb, rfl, hrb, _, _⟩ := HOV.out.own.at_ (by have := HEV.out; omega)
        have hrt : rb < t2.heap.size := HOV.out.lt rb rfl
        go_wp2_with fail
        refine (spec_pick w0 g _ (nv : Int) _ HC.out (HW.out.belowOf HBB.out hge) (by omega)).mono ?_
        rintro e u8 ⟨⟨y, rfl, y0, _, y2, _⟩, hc, hw⟩
        replace y2 := y2 (by omega)
        obtain ⟨y, rfl⟩ := Int.eq_ofNat_of_zero_le y0
        have hsz8 := hw.size
        replace HOV := Lib.hid (HOV.out.within hw (by omega))
        replace HZg := Lib.hid (HZg.out.kept hw (.inr (by omega)))
        replace HP := Lib.hid (HP.out.kept hw (.inr (by omega)))
        replace HX := Lib.hid (HX.out.kept hw (.inr (by omega)))
        replace HO0 := Lib.hid (HO0.out.within hw (by omega))
        replace HO1 := Lib.hid (HO1.out.within hw (by omega))
        replace HO2 := Lib.hid (HO2.out.within hw (by omega))
        replace HW := Lib.hid (HW.out.trans hw)
        replace HC := Lib.hid (hc.mono (n' := n + 30000) (by omega))
        clear hc hw
        have yl : y < nv := by omega
        clear y0 y2
        have yz : (0 : Int) ≤ (y : Int) := by omega
        have yn : (y : Int) < (nv : Int) := by omega
        obtain ⟨_, hh, _, _, hcx⟩ := HOV.out.own.at_ (by have := HEV.out; omega)
        obtain ⟨y1, y2⟩ := hcx y yl
        have HY1 : Hid (u8.cell? ⟨rb, y, none⟩ = some (.int .i64 (nth lv y))) := by cases hh; exact y1
        clear hcx hh y1 y2
        have y1 := HY1.out
        clear HY1
        generalize nth lv y = xv at y1
        obtain ⟨X1, hX1⟩ : ∃ z, IntKind.i64.wrap (xv + 1) = z := ⟨_, rfl⟩
        obtain ⟨xl, xu⟩ : -9223372036854775808 ≤ X1 ∧ X1 ≤ 9223372036854775807 := by rw [← hX1]; exact I64_wrapB _
        obtain ⟨gP, gQ, gG⟩ := HGR.out
        have hgc : g < u8.heap.size := HC.out.lt
        go_wp2_with fail
        have z_0_0 := HZg.out.cell (i := 0) rfl
        have z_0_1 := HZg.out.cell (i := 1) rfl
        have z_0_2 := HZg.out.cell (i := 2) rfl
        have z_1_0 := HP.out.cell (i := 0) rfl
        have z_1_1 := HP.out.cell (i := 1) rfl
        have z_1_2 := HP.out.cell (i := 2) rfl
        have z_2_0 := HX.out.cell (i := 0) rfl
        have z_2_1 := HX.out.cell (i := 1) rfl
        have z_2_2 := HX.out.cell (i := 2) rfl
        try (go_wp2_with fail)
        refine wp_region_noPanic ?_
        refine wp_region_Q (Within g (g + 1)) (DrawS w0 u8 g _ 1000 (fun w' => w'.cell? ⟨w.heap.size, 0, none⟩ = some (.int .i64 P) ∧ w'.cell? ⟨w.heap.size, 1, none⟩ = some (.int .i64 Q) ∧ w'.cell? ⟨w.heap.size, 2, none⟩ = some (.int .i64 G) ∧ w'.cell? ⟨(w.heap.size + 1), 0, none⟩ = some (.slice a0 n0 c0) ∧ w'.cell? ⟨(w.heap.size + 1), 1, none⟩ = some (.slice a1 n1 c1) ∧ w'.cell? ⟨(w.heap.size + 1), 2, none⟩ = some (.slice a2 n2 c2) ∧ w'.cell? ⟨(w.heap.size + 2), 0, none⟩ = some (.slice none 0 0) ∧ w'.cell? ⟨(w.heap.size + 2), 1, none⟩ = some (.slice none 0 0) ∧ w'.cell? ⟨(w.heap.size + 2), 2, none⟩ = some (.slice none 0 0) ∧ w'.cell? ⟨rb, y, none⟩ = some (.int .i64 xv))) 22 [(0, []), (1, []), (2, []), (3, []), (4, []), (5, [1, 0]), (6, []), (7, []), (8, [1, 0]), (9, []), (10, [0]), (11, []), (12, []), (13, [1, 0]), (14, [0]), (15, [0]), (16, [10, 7, 5, 0]), (17, [14, 0]), (18, [17, 16])] [19] (by kernel_rfl) (by kernel_rfl) (by kernel_rfl) rfl (fun _ _ _ _ h => h) (DrawS.good _ _ _ _ _ _) ⟨(Within.refl _ _ _).drew, by simpa using HC.out.keep (Below.refl _ _).drew, ⟨box_at z_0_0 (Below.refl _ _).drew, box_at z_0_1 (Below.refl _ _).drew, box_at z_0_2 (Below.refl _ _).drew, box_at z_1_0 (Below.refl _ _).drew, box_at z_1_1 (Below.refl _ _).drew, box_at z_1_2 (Below.refl _ _).drew, box_at z_2_0 (Below.refl _ _).drew, box_at z_2_1 (Below.refl _ _).drew, box_at z_2_2 (Below.refl _ _).drew, box_at y1 (Below.refl _ _).drew⟩⟩ ?_
        simp only [pickP, pickN, List.getElem?_cons_zero, List.getElem?_cons_succ]
        iterate 5 (refine' chainQ_read (DrawS.good _ _ _ _ _ _) _ rfl rfl (fun m w' hm' hS' => ?_) ?_; rotate_left; · (simp only [lookP, allP, Act.put, List.getElem?_cons_zero, List.getElem?_cons_succ, List.setIfInBounds_toArray, List.set_cons_zero, List.set_cons_succ]; (try dsimp only [DrawS] at hS'); go_simp; (try with_reducible rfl)))
        -- 5: call { callee := value (func 159), args := #[t44, t45], argTypes := #[167, 39] }
        refine chainQ_do (d := (some 46)) (fun v u => ∃ (xq5 : Int), v = (.int .i64 xq5) ∧ (-10 ≤ xq5 ∧ xq5 ≤ 2000000010)) (fun v w1 w2 hw h => h) rfl rfl (fun m w' hm' hS' => ?_) ?_
        · simp only [lookP, allP, Act.put, List.getElem?_cons_zero, List.getElem?_cons_succ, List.setIfInBounds_toArray, List.set_cons_zero, List.set_cons_succ]
          intro K hK
          replace hm' : m < 19 := hm'
          go_simp
          go_at_call 85
          refine (spec_expo w0 g _ P Q G _ hS'.2.1 (hS'.1.belowOf (HW.out.belowOf HBB.out hge) hge) (by omega) HGR.out).mono ?_
          rintro e u ⟨⟨xq5, rfl, xq5l, xq5u⟩, hc, hw⟩
          exact hK.out _ _ hw ⟨hS'.1.trans hw, hc.mono (by omega), ⟨within_at (hS'.1.trans hw) z_0_0 (.inr (by omega)), within_at (hS'.1.trans hw) z_0_1 (.inr (by omega)), within_at (hS'.1.trans hw) z_0_2 (.inr (by omega)), within_at (hS'.1.trans hw) z_1_0 (.inr (by omega)), within_at (hS'.1.trans hw) z_1_1 (.inr (by omega)), within_at (hS'.1.trans hw) z_1_2 (.inr (by omega)), within_at (hS'.1.trans hw) z_2_0 (.inr (by omega)), within_at (hS'.1.trans hw) z_2_1 (.inr (by omega)), within_at (hS'.1.trans hw) z_2_2 (.inr (by omega)), within_at (hS'.1.trans hw) y1 (.inr (by omega))⟩⟩ ⟨xq5, rfl, ⟨by omega, xq5u⟩⟩
        iterate 2 (refine' chainQ_read (DrawS.good _ _ _ _ _ _) _ rfl rfl (fun m w' hm' hS' => ?_) ?_; rotate_left; · (simp only [lookP, allP, Act.put, List.getElem?_cons_zero, List.getElem?_cons_succ, List.setIfInBounds_toArray, List.set_cons_zero, List.set_cons_succ]; (try dsimp only [DrawS] at hS'); go_simp; (try with_reducible rfl)))
        -- 8: call { callee := value (func 257), args := #[t47, t48], argTypes := #[167, 39] }
        refine chainQ_do (d := (some 49)) (fun v u => ∃ (xq8 : Int), v = (.int .i64 xq8) ∧ (-10 ≤ xq8 ∧ xq8 ≤ 2000000010)) (fun v w1 w2 hw h => h) rfl rfl (fun m w' hm' hS' => ?_) ?_
        · simp only [lookP, allP, Act.put, List.getElem?_cons_zero, List.getElem?_cons_succ, List.setIfInBounds_toArray, List.set_cons_zero, List.set_cons_succ]
          intro K hK
          replace hm' : m < 19 := hm'
          go_simp
          go_at_call 83
          refine (spec_element w0 g _ P Q G _ hS'.2.1 (hS'.1.belowOf (HW.out.belowOf HBB.out hge) hge) (by omega) HGR.out).mono ?_
          rintro e u ⟨⟨xq8, rfl, xq8l, xq8u⟩, hc, hw⟩
          exact hK.out _ _ hw ⟨hS'.1.trans hw, hc.mono (by omega), ⟨within_at (hS'.1.trans hw) z_0_0 (.inr (by omega)), within_at (hS'.1.trans hw) z_0_1 (.inr (by omega)), within_at (hS'.1.trans hw) z_0_2 (.inr (by omega)), within_at (hS'.1.trans hw) z_1_0 (.inr (by omega)), within_at (hS'.1.trans hw) z_1_1 (.inr (by omega)), within_at (hS'.1.trans hw) z_1_2 (.inr (by omega)), within_at (hS'.1.trans hw) z_2_0 (.inr (by omega)), within_at (hS'.1.trans hw) z_2_1 (.inr (by omega)), within_at (hS'.1.trans hw) z_2_2 (.inr (by omega)), within_at (hS'.1.trans hw) y1 (.inr (by omega))⟩⟩ ⟨xq8, rfl, ⟨by omega, xq8u⟩⟩
        iterate 7 (refine' chainQ_read (DrawS.good _ _ _ _ _ _) _ rfl rfl (fun m w' hm' hS' => ?_) ?_; rotate_left; · (simp only [lookP, allP, Act.put, List.getElem?_cons_zero, List.getElem?_cons_succ, List.setIfInBounds_toArray, List.set_cons_zero, List.set_cons_succ]; (try dsimp only [DrawS] at hS'); go_simp; (try with_reducible rfl)))
        -- 16: buildSlice 24 5 #[(0, t46), (1, t49), (2, const (int i64 (-1))), (3, t51), (4, t56)]
        refine chainQ_do (d := (some 57)) (fun v u => ∃ (y0q16 : Int) (y1q16 : Int), (-10 ≤ y0q16 ∧ y0q16 ≤ 2000000010) ∧ (-10 ≤ y1q16 ∧ y1q16 ≤ 2000000010) ∧ Since u8.heap.size u (fun z => Ints z v [y0q16, y1q16, (-1), Q, X1])) (fun v w1 w2 hw h => by obtain ⟨z0, z1, b0, b1, h4⟩ := h; exact ⟨z0, z1, b0, b1, h4.within hw (by omega)⟩) rfl rfl (fun m w' hm' hS' => ?_) ?_
        · simp only [lookP, allP, Act.put, List.getElem?_cons_zero, List.getElem?_cons_succ, List.setIfInBounds_toArray, List.set_cons_zero, List.set_cons_succ]
          intro x5 hx5
          intro x8 hx8
          intro K hK
          replace hm' : m < 19 := hm'
          obtain ⟨xq5, rfl, xq5l, xq5u⟩ := hx5
          obtain ⟨xq8, rfl, xq8l, xq8u⟩ := hx8
          go_simp
          have hbn := (Below.refl w'.heap.size w').alloc (Nat.le_refl _) (.cells #[.int .i64 xq5, .int .i64 xq8, .int .i64 (-1), .int .i64 Q, .int .i64 X1] 3)
          have hw := (Within.of_below hbn : Within g (g + 1) _ _)
          have hsz0 := hS'.1.size
          refine hK.out _ _ hw ⟨hS'.1.trans hw, (hS'.2.1.keep hbn).mono (by omega), ⟨within_at (hS'.1.trans hw) z_0_0 (.inr (by omega)), within_at (hS'.1.trans hw) z_0_1 (.inr (by omega)), within_at (hS'.1.trans hw) z_0_2 (.inr (by omega)), within_at (hS'.1.trans hw) z_1_0 (.inr (by omega)), within_at (hS'.1.trans hw) z_1_1 (.inr (by omega)), within_at (hS'.1.trans hw) z_1_2 (.inr (by omega)), within_at (hS'.1.trans hw) z_2_0 (.inr (by omega)), within_at (hS'.1.trans hw) z_2_1 (.inr (by omega)), within_at (hS'.1.trans hw) z_2_2 (.inr (by omega)), within_at (hS'.1.trans hw) y1 (.inr (by omega))⟩⟩ ?_
          exact ⟨xq5, xq8, ⟨by omega, by omega⟩, ⟨by omega, by omega⟩, Since.of_ownI (OwnI.lit (B := w'.heap.size) w' (Nat.le_refl _) (l := [xq5, xq8, (-1), Q, X1]) (AllI64.cons (⟨by omega, by omega⟩ : I64 _) (AllI64.cons (⟨by omega, by omega⟩ : I64 _) (AllI64.cons ⟨by decide, by decide⟩ (AllI64.cons (⟨by omega, by omega⟩ : I64 _) (AllI64.cons (⟨by omega, by omega⟩ : I64 _) AllI64.nil))))) rfl (by simp [maxLen]) 5 rfl) (by omega)⟩
        -- 17: call { callee := value (func 154), args := #[t43, t57], argTypes := #[167, 24] }
        refine chainQ_do (d := (some 58)) (fun v u => ∃ x : Int, v = .int .i64 x ∧ I64 x) (fun v w1 w2 hw h => h) rfl rfl (fun m w' hm' hS' => ?_) ?_
        · simp only [lookP, allP, Act.put, List.getElem?_cons_zero, List.getElem?_cons_succ, List.setIfInBounds_toArray, List.set_cons_zero, List.set_cons_succ]
          intro x16 hx16
          intro K hK
          replace hm' : m < 19 := hm'
          obtain ⟨z0, z1, ⟨b0, b1⟩, ⟨b2, b3⟩, hL⟩ := hx16
          go_simp
          go_at_call 96
          refine (spec_among _ g _ _ [z0, z1, (-1), Q, X1] _ hS'.2.1 (hS'.1.belowOf (HW.out.belowOf HBB.out hge) hge) (by omega) (fun z hz => hL z hz.size (fun k h1 h2 => hz.block k h2 (by omega))) (by simp)).mono ?_
          rintro e u ⟨⟨x, rfl, hm⟩, hc, hw⟩
          exact hK.out _ _ hw ⟨hS'.1.trans hw, hc.mono (by omega), ⟨within_at (hS'.1.trans hw) z_0_0 (.inr (by omega)), within_at (hS'.1.trans hw) z_0_1 (.inr (by omega)), within_at (hS'.1.trans hw) z_0_2 (.inr (by omega)), within_at (hS'.1.trans hw) z_1_0 (.inr (by omega)), within_at (hS'.1.trans hw) z_1_1 (.inr (by omega)), within_at (hS'.1.trans hw) z_1_2 (.inr (by omega)), within_at (hS'.1.trans hw) z_2_0 (.inr (by omega)), within_at (hS'.1.trans hw) z_2_1 (.inr (by omega)), within_at (hS'.1.trans hw) z_2_2 (.inr (by omega)), within_at (hS'.1.trans hw) y1 (.inr (by omega))⟩⟩ ⟨x, rfl, by simp at hm; omega, by simp at hm; omega⟩
        -- 18: indexAddr 24 t41 t42
        refine' chainQ_read (DrawS.good _ _ _ _ _ _) (d := (some 59)) _ rfl rfl (fun m w' hm' hS' => ?_) ?_; rotate_left
        · simp only [lookP, allP, Act.put, List.getElem?_cons_zero, List.getElem?_cons_succ, List.setIfInBounds_toArray, List.set_cons_zero, List.set_cons_succ]
          (try dsimp only [DrawS] at hS')
          go_simp
          (try with_reducible rfl)
        refine chainQ_nil (fun u1 hS' => ?_)
        simp only [allP, Act.put, List.setIfInBounds_toArray, List.set_cons_zero, List.set_cons_succ]
        intro x17 hx17
        intro x16 hx16
        intro x8 hx8
        intro x5 hx5
        replace hS' : DrawS w0 u8 g _ 1000 _ 19 u1 := hS'
        obtain ⟨hw, hc, hC⟩ := hS'
        obtain ⟨xq5, rfl, xq5l, xq5u⟩ := hx5
        obtain ⟨xq8, rfl, xq8l, xq8u⟩ := hx8
        have hsz1 := hw.size
        replace HZg := Lib.hid (HZg.out.kept hw (.inr (by omega)))
        replace HP := Lib.hid (HP.out.kept hw (.inr (by omega)))
        replace HX := Lib.hid (HX.out.kept hw (.inr (by omega)))
        replace HO0 := Lib.hid (HO0.out.within hw (by omega))
        replace HO1 := Lib.hid (HO1.out.within hw (by omega))
        replace HO2 := Lib.hid (HO2.out.within hw (by omega))
        replace HOV := Lib.hid (HOV.out.within hw (by omega))
        replace HW := Lib.hid (HW.out.trans hw)
        replace HC := Lib.hid hc
        clear hc hw hC
        clear z_0_0 z_0_1 z_0_2 z_1_0 z_1_1 z_1_2 z_2_0 z_2_1 z_2_2
        obtain ⟨xn, rfl, ixn⟩ := hx17
        clear hx16 y1
        obtain ⟨_, hh, _, _, hcx⟩ := HOV.out.own.at_ (by have := HEV.out; omega)
        obtain ⟨y1, y2⟩ := hcx y yl
        have HY1 : Hid (u1.cell? ⟨rb, y, none⟩ = some (.int .i64 (nth lv y))) := by cases hh; exact y1
        have HY2 : Hid (u1.frozen? ⟨rb, y, none⟩ = false) := by cases hh; exact y2
        clear hcx hh y1 y2
        have y1 := HY1.out
        have y2 := HY2.out
        clear HY1 HY2
        go_wp2_with fail
        refine NoPanic.normal ?_
        try (go_wp2_with fail)
        clear y1 y2
        have NZ := Lib.hid (HZg.out.otherN (b' := rb) (by omega) y (.int .i64 xn))
        have NP := Lib.hid (HP.out.other (b' := rb) (by omega) y (.int .i64 xn))
        have NX := Lib.hid (HX.out.other (b' := rb) (by omega) y (.int .i64 xn))
        have NC := Lib.hid (HC.out.setNew (b := rb) (by omega) y (.int .i64 xn))
        have NW := Lib.hid (HW.out.setNew (b := rb) (by omega) y (.int .i64 xn))
        have hLT : w.heap.size + 2 < (u1.setCell ⟨rb, y, none⟩ (.int .i64 xn)).heap.size := NX.out.lt
        have hor := HOR.out
        go_meet
        rcases hor with ⟨ha, rfl, rfl, rfl⟩ | ⟨ha, rfl, rfl, rfl⟩ | ⟨ha, rfl, rfl, rfl⟩
        · subst ha
          have hrt2 : rb < t0.heap.size := HO0.out.lt rb rfl
          exact ⟨lv.set y xn, l1, l2, by rw [List.length_set]; exact HEV.out, HE1.out, HE2.out, hLT, by simp; omega, NZ, NP, NX, Lib.hid (HO0.out.stored HEV.out y ixn), Lib.hid (HO1.out.other (b := rb) (.inl (by omega)) y (.int .i64 xn)), Lib.hid (HO2.out.other (b := rb) (.inl (by omega)) y (.int .i64 xn)), Lib.hid (NC.out.mono (by omega)), NW⟩
        · subst ha
          have hrt2 : rb < t1.heap.size := HO1.out.lt rb rfl
          have hrl2 : t0.heap.size ≤ rb := (HO1.out.own.lt rb rfl).1
          exact ⟨l0, lv.set y xn, l2, HE0.out, by rw [List.length_set]; exact HEV.out, HE2.out, hLT, by simp; omega, NZ, NP, NX, Lib.hid (HO0.out.other (b := rb) (.inr (by omega)) y (.int .i64 xn)), Lib.hid (HO1.out.stored HEV.out y ixn), Lib.hid (HO2.out.other (b := rb) (.inl (by omega)) y (.int .i64 xn)), Lib.hid (NC.out.mono (by omega)), NW⟩
        · subst ha
          have hrl2 : t1.heap.size ≤ rb := (HO2.out.own.lt rb rfl).1
          exact ⟨l0, l1, lv.set y xn, HE0.out, HE1.out, by rw [List.length_set]; exact HEV.out, hLT, by simp; omega, NZ, NP, NX, Lib.hid (HO0.out.other (b := rb) (.inr (by omega)) y (.int .i64 xn)), Lib.hid (HO1.out.other (b := rb) (.inr (by omega)) y (.int .i64 xn)), Lib.hid (HO2.out.stored HEV.out y ixn), Lib.hid (NC.out.mono (by omega)), NW⟩
    case rest =>
      obtain ⟨m0, m1, m2, hm0, hm1, hm2, hltx, hltt, NZ, NP, NX, N0, N1, N2, NC, NW⟩ := hcut
      obtain ⟨V, hV⟩ : ∃ V, V = wc := ⟨_, rfl⟩
      rw [← hV] at hltx hltt NZ NP NX N0 N1 N2 NC NW ⊢
      clear hV HZg HP HX HO0 HO1 HO2 HOV HOR HEV HC HW HE0 HE1 HE2
      have HZg := NZ
      have HP := NP
      have HX := NX
      have HO0 := N0
      have HO1 := N1
      have HO2 := N2
      have HC := NC
      have HW := NW
      have HE0 := Lib.hid hm0
      have HE1 := Lib.hid hm1
      have HE2 := Lib.hid hm2
      clear NZ NP NX N0 N1 N2 NC NW hm0 hm1 hm2
      go_wp2_with fail
      refine (spec_pick w0 g _ 10 _ HC.out (HW.out.belowOf HBB.out hge) (by omega)).mono ?_
      rintro e u9 ⟨⟨x3, rfl, x3l, x3u, x3m, _⟩, hc, hw⟩
      clear x3m
      have hsz9 := hw.size
      replace HZg := Lib.hid (HZg.out.kept hw (.inr (by omega)))
      replace HP := Lib.hid (HP.out.kept hw (.inr (by omega)))
      replace HX := Lib.hid (HX.out.kept hw (.inr (by omega)))
      replace HO0 := Lib.hid (HO0.out.within hw (by omega))
      replace HO1 := Lib.hid (HO1.out.within hw (by omega))
      replace HO2 := Lib.hid (HO2.out.within hw (by omega))
      replace HW := Lib.hid (HW.out.trans hw)
      replace HC := Lib.hid (hc.mono (n' := n + 90000) (by omega))
      clear hc hw
      have hpl9 : w.heap.size + 2 < u9.heap.size := HX.out.lt
      rcases (by omega : x3 = 0 ∨ x3 = 1 ∨ x3 = 2 ∨ (x3 ≠ 0 ∧ x3 ≠ 1 ∧ x3 ≠ 2)) with rfl | rfl | rfl | ⟨i0, i1, i2⟩
      · have q2 := HP.out.cell (i := 0) rfl
        have HRB : Hid (u9.grownBy (u9.alloc (.cells #[.int .i64 1] 3)) (Value.ownBlock (.slice a0 n0 c0))) := grownBy_of_below ((Below.refl _ _).alloc (Nat.le_refl _) _)
        have HAP := Lib.hid (HO0.out.own.apart HP.out (by decide))
        have x0 := HX.out.cell (i := 0) rfl
        have x1 := HX.out.cell (i := 1) rfl
        have x2 := HX.out.cell (i := 2) rfl
        have fx := fun j => HX.out.frozen j
        have p0 := HP.out.cell (i := 0) rfl
        have p1 := HP.out.cell (i := 1) rfl
        have p2 := HP.out.cell (i := 2) rfl
        go_wp2_with (at_builtin; refine wpList_append_intsN rfl _ _ rfl ud.heap.size _ _ m0 [1] rfl (HO0.out.own.alloc _) rfl (Ints.lit1 _ ⟨by decide, by decide⟩) (by rw [HE0.out]; simp; omega) (by simp; omega) (n0 + 1) (by rw [HE0.out]; rfl) ?_; intro a5 c5 w5 hown5 hgr5; have hga := grownBy_trans HRB.out hgr5; have NP := Lib.hid (HP.out.grownR hga HAP.out); have hb5 : Below ud.heap.size u9 w5 := HO0.out.own.grown hga (by omega); have NX := Lib.hid (HX.out.belowB hb5 (by omega)); have N1 := Lib.hid (HO1.out.grown HO0.out hga (.inr (by omega))); have N2 := Lib.hid (HO2.out.grown HO0.out hga (.inr (by omega))); have hs5 := hb5.size; have NO5 := Lib.hid hown5; have NC := Lib.hid (HC.out.belowB hb5 (by omega)); have NW := Lib.hid (HW.out.belowStep (hb5.mono (by omega))); have NA := Lib.hid (NO5.out.apart NP.out (by decide)); clear hb5 hown5 hgr5 hga x0 x1 x2 fx p0 p1 p2 q2; have f5 := fun j => NP.out.frozen j; have p0 := NP.out.cell (i := 0) rfl; have p1 := NP.out.cell (i := 1) rfl; have p2 := NP.out.cell (i := 2) rfl; have x0 := NX.out.cell (i := 0) rfl; have x1 := NX.out.cell (i := 1) rfl; have x2 := NX.out.cell (i := 2) rfl; have fx := fun j => NX.out.frozen j)
        clear HX HC HW HO1 HO2 HP x0 x1 x2 fx p0 p1 p2 f5
        have HX := Lib.hid (NX.out.other (b' := w.heap.size + 1) (by omega) 0 (.slice a5 (n0 + 1) c5))
        have HC := Lib.hid (NC.out.setNew (b := w.heap.size + 1) (by omega) 0 (.slice a5 (n0 + 1) c5))
        have HW := Lib.hid (NW.out.setNew (b := w.heap.size + 1) (by omega) 0 (.slice a5 (n0 + 1) c5))
        have HO1 := Lib.hid (N1.out.other (b := w.heap.size + 1) (.inl (by omega)) 0 (.slice a5 (n0 + 1) c5))
        have HO2 := Lib.hid (N2.out.other (b := w.heap.size + 1) (.inl (by omega)) 0 (.slice a5 (n0 + 1) c5))
        have HOa : Hid (OwnI (w5.setCell ⟨w.heap.size + 1, 0, none⟩ (.slice a5 (n0 + 1) c5)) ud.heap.size (.slice a5 (n0 + 1) c5) (m0 ++ [1])) := NO5.out.other (by omega) _ _
        clear HO0
        have HO0 : Hid (LowI (w5.setCell ⟨w.heap.size + 1, 0, none⟩ (.slice a5 (n0 + 1) c5)) ud.heap.size w5.heap.size (.slice a5 (n0 + 1) c5) (m0 ++ [1])) := LowI.of HOa.out (by simp)
        have HXF := Lib.hid (((HX.out.set 0 (.slice a5 (n0 + 1) c5)).set 1 (.slice a1 n1 c1)).set 2 (.slice a2 n2 c2))
        have t_0 := HXF.out.cell (i := 0) rfl
        have t_1 := HXF.out.cell (i := 1) rfl
        have t_2 := HXF.out.cell (i := 2) rfl
        try (go_wp2_with fail)
        refine bodyPost_ret (v := .agg #[.slice a5 (n0 + 1) c5, .slice a1 n1 c1, .slice a2 n2 c2]) (by simp [results, Try.results110, go_sem, t_0, t_1, t_2]) rfl ⟨⟨_, _, _, _, _, _, rfl, ⟨Since.of_ownI (((HO0.out.other (b := w.heap.size + 2) (.inl (by omega)) 0 (.slice a5 (n0 + 1) c5)).other (b := w.heap.size + 2) (.inl (by omega)) 1 (.slice a1 n1 c1)).other (b := w.heap.size + 2) (.inl (by omega)) 2 (.slice a2 n2 c2)).own (by omega), by rw [List.length_append, HE0.out]; simp; omega⟩, ⟨Since.of_ownI (((HO1.out.other (b := w.heap.size + 2) (.inl (by omega)) 0 (.slice a5 (n0 + 1) c5)).other (b := w.heap.size + 2) (.inl (by omega)) 1 (.slice a1 n1 c1)).other (b := w.heap.size + 2) (.inl (by omega)) 2 (.slice a2 n2 c2)).own (by omega), by have := HE1.out; omega⟩, ⟨Since.of_ownI (((HO2.out.other (b := w.heap.size + 2) (.inl (by omega)) 0 (.slice a5 (n0 + 1) c5)).other (b := w.heap.size + 2) (.inl (by omega)) 1 (.slice a1 n1 c1)).other (b := w.heap.size + 2) (.inl (by omega)) 2 (.slice a2 n2 c2)).own (by omega), by have := HE2.out; omega⟩⟩, (((HC.out.setNew (b := w.heap.size + 2) (by omega) 0 (.slice a5 (n0 + 1) c5)).setNew (b := w.heap.size + 2) (by omega) 1 (.slice a1 n1 c1)).setNew (b := w.heap.size + 2) (by omega) 2 (.slice a2 n2 c2)).mono (by omega), (((HW.out.setNew (b := w.heap.size + 2) (by omega) 0 (.slice a5 (n0 + 1) c5)).setNew (b := w.heap.size + 2) (by omega) 1 (.slice a1 n1 c1)).setNew (b := w.heap.size + 2) (by omega) 2 (.slice a2 n2 c2))⟩
      · have x0 := HX.out.cell (i := 0) rfl
        have x1 := HX.out.cell (i := 1) rfl
        have x2 := HX.out.cell (i := 2) rfl
        have fx := fun j => HX.out.frozen j
        have p0 := HP.out.cell (i := 0) rfl
        have p1 := HP.out.cell (i := 1) rfl
        have p2 := HP.out.cell (i := 2) rfl
        have f5 := fun j => HP.out.frozen j
        go_wp2_with fail
        clear x0 x1 x2 fx p0 p1 p2 f5
        replace HX := Lib.hid (HX.out.other (b' := w.heap.size + 1) (by omega) 2 (.slice none 0 0))
        replace HC := Lib.hid (HC.out.setNew (b := w.heap.size + 1) (by omega) 2 (.slice none 0 0))
        replace HW := Lib.hid (HW.out.setNew (b := w.heap.size + 1) (by omega) 2 (.slice none 0 0))
        replace HO0 := Lib.hid (HO0.out.other (b := w.heap.size + 1) (.inl (by omega)) 2 (.slice none 0 0))
        replace HO1 := Lib.hid (HO1.out.other (b := w.heap.size + 1) (.inl (by omega)) 2 (.slice none 0 0))
        have HXF := Lib.hid (((HX.out.set 0 (.slice a0 n0 c0)).set 1 (.slice a1 n1 c1)).set 2 (.slice none 0 0))
        have t_0 := HXF.out.cell (i := 0) rfl
        have t_1 := HXF.out.cell (i := 1) rfl
        have t_2 := HXF.out.cell (i := 2) rfl
        try (go_wp2_with fail)
        refine bodyPost_ret (v := .agg #[.slice a0 n0 c0, .slice a1 n1 c1, .slice none 0 0]) (by simp [results, Try.results110, go_sem, t_0, t_1, t_2]) rfl ⟨⟨_, _, _, _, _, _, rfl, ⟨Since.of_ownI (((HO0.out.other (b := w.heap.size + 2) (.inl (by omega)) 0 (.slice a0 n0 c0)).other (b := w.heap.size + 2) (.inl (by omega)) 1 (.slice a1 n1 c1)).other (b := w.heap.size + 2) (.inl (by omega)) 2 (.slice none 0 0)).own (by omega), by have := HE0.out; omega⟩, ⟨Since.of_ownI (((HO1.out.other (b := w.heap.size + 2) (.inl (by omega)) 0 (.slice a0 n0 c0)).other (b := w.heap.size + 2) (.inl (by omega)) 1 (.slice a1 n1 c1)).other (b := w.heap.size + 2) (.inl (by omega)) 2 (.slice none 0 0)).own (by omega), by have := HE1.out; omega⟩, ⟨fun u _ _ => Ints.nil u, by simp⟩⟩, (((HC.out.setNew (b := w.heap.size + 2) (by omega) 0 (.slice a0 n0 c0)).setNew (b := w.heap.size + 2) (by omega) 1 (.slice a1 n1 c1)).setNew (b := w.heap.size + 2) (by omega) 2 (.slice none 0 0)).mono (by omega), (((HW.out.setNew (b := w.heap.size + 2) (by omega) 0 (.slice a0 n0 c0)).setNew (b := w.heap.size + 2) (by omega) 1 (.slice a1 n1 c1)).setNew (b := w.heap.size + 2) (by omega) 2 (.slice none 0 0))⟩
      · have q2 := HP.out.cell (i := 1) rfl
        have HRB : Hid (u9.grownBy (u9.alloc (.cells #[.int .i64 0] 3)) (Value.ownBlock (.slice a1 n1 c1))) := grownBy_of_below ((Below.refl _ _).alloc (Nat.le_refl _) _)
        have HAP := Lib.hid (HO1.out.own.apart HP.out (by decide))
        have x0 := HX.out.cell (i := 0) rfl
        have x1 := HX.out.cell (i := 1) rfl
        have x2 := HX.out.cell (i := 2) rfl
        have fx := fun j => HX.out.frozen j
        have p0 := HP.out.cell (i := 0) rfl
        have p1 := HP.out.cell (i := 1) rfl
        have p2 := HP.out.cell (i := 2) rfl
        go_wp2_with (at_builtin; refine wpList_append_intsN rfl _ _ rfl t0.heap.size _ _ m1 [0] rfl (HO1.out.own.alloc _) rfl (Ints.lit1 _ ⟨by decide, by decide⟩) (by rw [HE1.out]; simp; omega) (by simp; omega) (n1 + 1) (by rw [HE1.out]; rfl) ?_; intro a5 c5 w5 hown5 hgr5; have hga := grownBy_trans HRB.out hgr5; have NP := Lib.hid (HP.out.grownR hga HAP.out); have hb5 : Below t0.heap.size u9 w5 := HO1.out.own.grown hga (by omega); have NX := Lib.hid (HX.out.belowB hb5 (by omega)); have N0 := Lib.hid (HO0.out.grown HO1.out hga (.inl (by omega))); have N2 := Lib.hid (HO2.out.grown HO1.out hga (.inr (by omega))); have hs5 := hb5.size; have NO5 := Lib.hid hown5; have NC := Lib.hid (HC.out.belowB hb5 (by omega)); have NW := Lib.hid (HW.out.belowStep (hb5.mono (by omega))); have NA := Lib.hid (NO5.out.apart NP.out (by decide)); clear hb5 hown5 hgr5 hga x0 x1 x2 fx p0 p1 p2 q2; have f5 := fun j => NP.out.frozen j; have p0 := NP.out.cell (i := 0) rfl; have p1 := NP.out.cell (i := 1) rfl; have p2 := NP.out.cell (i := 2) rfl; have x0 := NX.out.cell (i := 0) rfl; have x1 := NX.out.cell (i := 1) rfl; have x2 := NX.out.cell (i := 2) rfl; have fx := fun j => NX.out.frozen j)
        clear HX HC HW HO0 HO2 HP x0 x1 x2 fx p0 p1 p2 f5
        have HX := Lib.hid (NX.out.other (b' := w.heap.size + 1) (by omega) 1 (.slice a5 (n1 + 1) c5))
        have HC := Lib.hid (NC.out.setNew (b := w.heap.size + 1) (by omega) 1 (.slice a5 (n1 + 1) c5))
        have HW := Lib.hid (NW.out.setNew (b := w.heap.size + 1) (by omega) 1 (.slice a5 (n1 + 1) c5))
        have HO0 := Lib.hid (N0.out.other (b := w.heap.size + 1) (.inl (by omega)) 1 (.slice a5 (n1 + 1) c5))
        have HO2 := Lib.hid (N2.out.other (b := w.heap.size + 1) (.inl (by omega)) 1 (.slice a5 (n1 + 1) c5))
        have HOa : Hid (OwnI (w5.setCell ⟨w.heap.size + 1, 1, none⟩ (.slice a5 (n1 + 1) c5)) t0.heap.size (.slice a5 (n1 + 1) c5) (m1 ++ [0])) := NO5.out.other (by omega) _ _
        clear HO1
        have HO1 : Hid (LowI (w5.setCell ⟨w.heap.size + 1, 1, none⟩ (.slice a5 (n1 + 1) c5)) t0.heap.size w5.heap.size (.slice a5 (n1 + 1) c5) (m1 ++ [0])) := LowI.of HOa.out (by simp)
        have HXF := Lib.hid (((HX.out.set 0 (.slice a0 n0 c0)).set 1 (.slice a5 (n1 + 1) c5)).set 2 (.slice a2 n2 c2))
        have t_0 := HXF.out.cell (i := 0) rfl
        have t_1 := HXF.out.cell (i := 1) rfl
        have t_2 := HXF.out.cell (i := 2) rfl
        try (go_wp2_with fail)
        refine bodyPost_ret (v := .agg #[.slice a0 n0 c0, .slice a5 (n1 + 1) c5, .slice a2 n2 c2]) (by simp [results, Try.results110, go_sem, t_0, t_1, t_2]) rfl ⟨⟨_, _, _, _, _, _, rfl, ⟨Since.of_ownI (((HO0.out.other (b := w.heap.size + 2) (.inl (by omega)) 0 (.slice a0 n0 c0)).other (b := w.heap.size + 2) (.inl (by omega)) 1 (.slice a5 (n1 + 1) c5)).other (b := w.heap.size + 2) (.inl (by omega)) 2 (.slice a2 n2 c2)).own (by omega), by have := HE0.out; omega⟩, ⟨Since.of_ownI (((HO1.out.other (b := w.heap.size + 2) (.inl (by omega)) 0 (.slice a0 n0 c0)).other (b := w.heap.size + 2) (.inl (by omega)) 1 (.slice a5 (n1 + 1) c5)).other (b := w.heap.size + 2) (.inl (by omega)) 2 (.slice a2 n2 c2)).own (by omega), by rw [List.length_append, HE1.out]; simp; omega⟩, ⟨Since.of_ownI (((HO2.out.other (b := w.heap.size + 2) (.inl (by omega)) 0 (.slice a0 n0 c0)).other (b := w.heap.size + 2) (.inl (by omega)) 1 (.slice a5 (n1 + 1) c5)).other (b := w.heap.size + 2) (.inl (by omega)) 2 (.slice a2 n2 c2)).own (by omega), by have := HE2.out; omega⟩⟩, (((HC.out.setNew (b := w.heap.size + 2) (by omega) 0 (.slice a0 n0 c0)).setNew (b := w.heap.size + 2) (by omega) 1 (.slice a5 (n1 + 1) c5)).setNew (b := w.heap.size + 2) (by omega) 2 (.slice a2 n2 c2)).mono (by omega), (((HW.out.setNew (b := w.heap.size + 2) (by omega) 0 (.slice a0 n0 c0)).setNew (b := w.heap.size + 2) (by omega) 1 (.slice a5 (n1 + 1) c5)).setNew (b := w.heap.size + 2) (by omega) 2 (.slice a2 n2 c2))⟩
      · have j0 : (x3 == 0) = false := by rw [beq_eq_false_iff_ne]; exact i0
        have j1 : (x3 == 1) = false := by rw [beq_eq_false_iff_ne]; exact i1
        have j2 : (x3 == 2) = false := by rw [beq_eq_false_iff_ne]; exact i2
        clear i0 i1 i2
        have x0 := HX.out.cell (i := 0) rfl
        have x1 := HX.out.cell (i := 1) rfl
        have x2 := HX.out.cell (i := 2) rfl
        have fx := fun j => HX.out.frozen j
        have p0 := HP.out.cell (i := 0) rfl
        have p1 := HP.out.cell (i := 1) rfl
        have p2 := HP.out.cell (i := 2) rfl
        go_wp2_with fail
        have HXF := Lib.hid (((HX.out.set 0 (.slice a0 n0 c0)).set 1 (.slice a1 n1 c1)).set 2 (.slice a2 n2 c2))
        have t_0 := HXF.out.cell (i := 0) rfl
        have t_1 := HXF.out.cell (i := 1) rfl
        have t_2 := HXF.out.cell (i := 2) rfl
        try (go_wp2_with fail)
        refine bodyPost_ret (v := .agg #[.slice a0 n0 c0, .slice a1 n1 c1, .slice a2 n2 c2]) (by simp [results, Try.results110, go_sem, t_0, t_1, t_2]) rfl ⟨⟨_, _, _, _, _, _, rfl, ⟨Since.of_ownI (((HO0.out.other (b := w.heap.size + 2) (.inl (by omega)) 0 (.slice a0 n0 c0)).other (b := w.heap.size + 2) (.inl (by omega)) 1 (.slice a1 n1 c1)).other (b := w.heap.size + 2) (.inl (by omega)) 2 (.slice a2 n2 c2)).own (by omega), by have := HE0.out; omega⟩, ⟨Since.of_ownI (((HO1.out.other (b := w.heap.size + 2) (.inl (by omega)) 0 (.slice a0 n0 c0)).other (b := w.heap.size + 2) (.inl (by omega)) 1 (.slice a1 n1 c1)).other (b := w.heap.size + 2) (.inl (by omega)) 2 (.slice a2 n2 c2)).own (by omega), by have := HE1.out; omega⟩, ⟨Since.of_ownI (((HO2.out.other (b := w.heap.size + 2) (.inl (by omega)) 0 (.slice a0 n0 c0)).other (b := w.heap.size + 2) (.inl (by omega)) 1 (.slice a1 n1 c1)).other (b := w.heap.size + 2) (.inl (by omega)) 2 (.slice a2 n2 c2)).own (by omega), by have := HE2.out; omega⟩⟩, (((HC.out.setNew (b := w.heap.size + 2) (by omega) 0 (.slice a0 n0 c0)).setNew (b := w.heap.size + 2) (by omega) 1 (.slice a1 n1 c1)).setNew (b := w.heap.size + 2) (by omega) 2 (.slice a2 n2 c2)).mono (by omega), (((HW.out.setNew (b := w.heap.size + 2) (by omega) 0 (.slice a0 n0 c0)).setNew (b := w.heap.size + 2) (by omega) 1 (.slice a1 n1 c1)).setNew (b := w.heap.size + 2) (by omega) 2 (.slice a2 n2 c2))⟩
end Go.Proofs.Ytegomgnlhcbmfaa
namespace Go.Proofs.Ytegomgnlhcbmfaa
open Go.RowKit
set_option linter.unusedSimpArgs false
set_option linter.unusedVariables false

/-- the sum of a list, modulo q -/
def sumM (q : Int) (l : List Int) : Int := l.foldl (fun o x => (o + x) % q) 0
theorem sumM_bd {q : Int} (hq : 0 < q) (l : List Int) : 0 ≤ sumM q l ∧ sumM q l < q := by
  unfold sumM
  suffices h : ∀ o : Int, 0 ≤ o → o < q → 0 ≤ l.foldl (fun o x => (o + x) % q) o ∧ l.foldl (fun o x => (o + x) % q) o < q from h 0 (by omega) (by omega)
  induction l with
  | nil => intro o h1 h2; exact ⟨h1, h2⟩
  | cons a l ih => intro o _ _; exact ih _ (Int.emod_nonneg _ (by omega)) (Int.emod_lt_of_pos _ (by omega))
/-! ### sums -/
/-! ### bits -/
end Go.Proofs.Ytegomgnlhcbmfaa
