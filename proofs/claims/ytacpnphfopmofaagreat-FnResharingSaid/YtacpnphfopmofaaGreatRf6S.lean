/- Draws: shares to be recovered (printed by gen_drz6.py). -/
import Derived.Test.YtacpnphfopmofaaGreatDrDe2S
import Derived.Test.YtacpnphfopmofaaGreatDrSh3S
import Derived.Test.YtacpnphfopmofaaGreatDrZ3S
import Derived.Test.YtacpnphfopmofaaGreatRc1S
import Derived.Test.YtacpnphfopmofaaGreatFindRS
import Derived.Test.YtacpnphfopmofaaGreatSh2S
import Derived.Test.YtacpnphfopmofaaGreatDeaLS
namespace Go.Proofs.YtacpnphfopmofaaGreat
open Go.RowKit
set_option linter.unusedSimpArgs false
set_option linter.unusedVariables false
set_option maxRecDepth 100000 in
set_option maxHeartbeats 8000000 in
theorem spec_DrawRecoverShare (v : Value) (w : World) (h : Bytes w v) :
    Calls Tryz.prog 17 #[v] w fun e w' => (∃ (P : Int) (Q : Int) (G : Int) (vr1 : Value) (lr1 : List Int) (xr2 : Int) (vr3 : Value) (lr3 : List Int) (vr4 : Value) (lr4 : List Int), e = .returned (.tuple #[.agg #[.int .i64 P, .int .i64 Q, .int .i64 G], vr1, .int .i64 xr2, vr3, vr4]) ∧ GrB ⟨P, Q, G⟩ ∧ (Ints w' vr1 lr1 ∧ lr1.length ≤ 7) ∧ I64 xr2 ∧ (Ints w' vr3 lr3 ∧ lr3.length ≤ 9) ∧ (Ints w' vr4 lr4 ∧ lr4.length ≤ 9)) ∧ Below w.heap.size w w' := by
  obtain ⟨a, m, c, rfl, hk1, hk2, hv⟩ := h
  have HY : Hid (Bytes w (.slice a m c)) := ⟨a, m, c, rfl, hk1, hk2, hv⟩
  clear hv
  unfold maxLen at hk2
  obtain ⟨U, hU⟩ : ∃ U, U = w.alloc (.cells #[.int .i64 0, .int .i64 0, .int .i64 0] 24) := ⟨_, rfl⟩
  have hbU : Below w.heap.size w U := by rw [hU]; (repeat (first | exact Below.refl _ _ | assumption | refine Below.drew ?_ | refine Below.alloc ?_ (by first | (simp; done) | (simp; omega)) _ | refine Below.setCell ?_ (by first | (simp; done) | (simp; omega)) _))
  have HX0 : Hid (BoxN U w.heap.size 24 [.int .i64 0, .int .i64 0, .int .i64 0]) := by unfold Hid; rw [hU]; have h := (BoxN.new w [.int .i64 0, .int .i64 0, .int .i64 0] 24); simpa using h
  have hsU : U.heap.size = w.heap.size + 1 := by rw [hU]; simp
  obtain ⟨W, hW⟩ : ∃ W, W = U.alloc (.cells #[.slice a m c, .int .i64 0, .int .u64 0] 53) := ⟨_, rfl⟩
  have HC : Hid (Cur U W U.heap.size 0) := by unfold Hid; rw [hW]; exact Cur.new U (HY.out.below hbU)
  have hbW : Below U.heap.size U W := by rw [hW]; exact (Below.refl _ _).alloc (Nat.le_refl _) _
  have HBW := Lib.hid (Below.next hbU hbW)
  have HUB := Lib.hid hbW
  replace HX0 := Lib.hid (HX0.out.below hbW)
  obtain ⟨g, hg⟩ : ∃ g, g = U.heap.size := ⟨_, rfl⟩
  have HSU : Hid (w.heap.size + 1 = g) := by unfold Hid; rw [hg, hsU]
  have HWS : Hid (W.heap.size = g + 1) := by unfold Hid; rw [hW, hg]; simp
  go_enter Tryz.func17, Tryz.ntmps17
  go_wp2_with fail
  rw [← hU, ← hW]
  rw [HSU.out]
  rw [← hg] at HC HUB
  have HUS : Hid (U.heap.size = g) := hg.symm
  have hwg : w.heap.size + 1 = g := HSU.out
  have hsW := HWS.out
  have HW := Lib.hid (Within.refl g (g + 1) W)
  have HUC : Hid (Below U.heap.size U W) := by unfold Hid; rw [HUS.out]; exact HUB.out
  clear hU hW hbU hbW hsU hg
  have z_0_0 := HX0.out.cell (i := 0) rfl
  have z_0_1 := HX0.out.cell (i := 1) rfl
  have z_0_2 := HX0.out.cell (i := 2) rfl
  try (go_wp2_with fail)
  clear z_0_0 z_0_1 z_0_2
  refine (spec_DrawReconstruct _ _ (HY.out.below (HW.out.belowOf HBW.out (by omega)))).mono ?_
  rintro e u1 ⟨⟨P, Q, G, v1b, l1b, v1c, l1c, v1d, l1d, rfl, hgr, ⟨hs1b, hl1b⟩, ⟨hs1c, hl1c⟩, ⟨hs1d, hl1d⟩⟩, hb⟩
  have HGR := Lib.hid hgr
  clear hgr
  have HL1b := Lib.hid hs1b
  obtain ⟨a1b, n1b, c1b, rfl⟩ := hs1b.here.shape
  have hn1b : n1b ≤ 7 := by have h1 := hs1b.here.len; omega
  have HE1b := Lib.hid hs1b.here.len
  clear hs1b
  have HL1c := Lib.hid hs1c
  obtain ⟨a1c, n1c, c1c, rfl⟩ := hs1c.here.shape
  have hn1c : n1c ≤ 9 := by have h1 := hs1c.here.len; omega
  have HE1c := Lib.hid hs1c.here.len
  clear hs1c
  have HL1d := Lib.hid hs1d
  obtain ⟨a1d, n1d, c1d, rfl⟩ := hs1d.here.shape
  have hn1d : n1d ≤ 9 := by have h1 := hs1d.here.len; omega
  have HE1d := Lib.hid hs1d.here.len
  clear hs1d
  have hsz1 := hb.size
  replace HX0 := Lib.hid (HX0.out.below hb)
  replace HW := Lib.hid (HW.out.trans (Within.of_below hb))
  replace HC := Lib.hid (HC.out.keep hb)
  clear hb
  have z_0_0 := HX0.out.cell (i := 0) rfl
  have z_0_1 := HX0.out.cell (i := 1) rfl
  have z_0_2 := HX0.out.cell (i := 2) rfl
  have lt_HX0 := HX0.out.lt
  obtain ⟨V2, hV⟩ : ∃ V, V = u1.alloc (.cells #[.int .i64 P, .int .i64 Q, .int .i64 G] 24) := ⟨_, rfl⟩
  have hbV : Below u1.heap.size u1 V2 := by rw [hV]; (repeat (first | exact Below.refl _ _ | assumption | refine Below.drew ?_ | refine Below.alloc ?_ (by first | (simp; done) | (simp; omega)) _ | refine Below.setCell ?_ (by first | (simp; done) | (simp; omega)) _))
  have HZ1 : Hid (BoxN V2 u1.heap.size 24 [.int .i64 P, .int .i64 Q, .int .i64 G]) := by unfold Hid; rw [hV]; have h := (BoxN.new u1 [.int .i64 P, .int .i64 Q, .int .i64 G] 24); simpa using h
  have hgc : g < u1.heap.size := HC.out.lt
  go_wp2_with fail
  rw [← hV]
  have hsV2 : V2.heap.size = u1.heap.size + 1 := by rw [hV]; simp
  clear hV hgc
  replace HX0 := Lib.hid (HX0.out.below hbV)
  replace HL1b := Lib.hid (HL1b.out.below hbV)
  replace HL1c := Lib.hid (HL1c.out.below hbV)
  replace HL1d := Lib.hid (HL1d.out.below hbV)
  replace HW := Lib.hid (HW.out.trans (Within.of_below hbV))
  replace HC := Lib.hid (HC.out.keep hbV)
  clear hbV
  clear z_0_0 z_0_1 z_0_2
  clear lt_HX0
  have c0 := HZ1.out.cell (i := 0) rfl
  have c1 := HZ1.out.cell (i := 1) rfl
  have c2 := HZ1.out.cell (i := 2) rfl
  refine wp_region_noPanic ?_
  refine wp_region_V (fun w' => w'.cell? ⟨u1.heap.size, 0, none⟩ = some (.int .i64 P) ∧ w'.cell? ⟨u1.heap.size, 1, none⟩ = some (.int .i64 Q) ∧ w'.cell? ⟨u1.heap.size, 2, none⟩ = some (.int .i64 G)) 18 15 (.rd 0 (.rd 1 (.rd 2 (.rd 5 (.rd 9 (.rd 10 (.alt 3 (.rd 4 (.alt 6 (.rd 7 (.rd 8 (.alt 11 (.alt 12 (.alt 13 (.alt 14 .done .nil) .nil) .nil) .nil))) .nil)) .nil))))))) [15] (by kernel_rfl) (by kernel_rfl) rfl (fun _ _ _ _ _ h => h) ⟨box_at c0 (Below.refl _ _).drew, box_at c1 (Below.refl _ _).drew, box_at c2 (Below.refl _ _).drew⟩ ?_
  simp only [pickV, pickN, List.getElem?_cons_zero, List.getElem?_cons_succ]
  repeat (refine' wpV_read _ (by kernel_rfl) (fun w' hS' => ?_) ?_; rotate_left; (focus ((try dsimp only at hS'); go_simp; (try with_reducible rfl))); (try simp only [Act.put, List.setIfInBounds_toArray, List.set_cons_zero, List.set_cons_succ]))
  have hdr : Below V2.heap.size V2 V2.drew := (Below.refl _ _).drew
  have hszd := hdr.size
  replace HX0 := Lib.hid (HX0.out.below hdr)
  replace HZ1 := Lib.hid (HZ1.out.below hdr)
  replace HL1b := Lib.hid (HL1b.out.below hdr)
  replace HL1c := Lib.hid (HL1c.out.below hdr)
  replace HL1d := Lib.hid (HL1d.out.below hdr)
  replace HC := Lib.hid (HC.out.keep hdr)
  replace HW := Lib.hid (HW.out.trans (Within.of_below hdr))
  obtain ⟨uR, huR⟩ : ∃ z, z = V2.drew := ⟨_, rfl⟩
  rw [← huR] at hszd HC HW HX0 HZ1 HL1b HL1c HL1d ⊢
  clear hdr huR c0 c1 c2
  have c0 := HZ1.out.cell (i := 0) rfl
  have c1 := HZ1.out.cell (i := 1) rfl
  have c2 := HZ1.out.cell (i := 2) rfl
  refine wpV_do (by kernel_rfl) (fun K hK => ?_)
  go_simp
  go_at_call 22
  refine (spec_pick U g _ 8 _ HC.out (HW.out.belowOf (HUC.out) (Nat.le_of_eq HUS.out)) (by omega)).mono ?_
  rintro e uP ⟨⟨px, rfl, pxl, _, pxm, _⟩, hc, hw⟩
  replace pxm := pxm (by omega)
  have hsuP := hw.size
  replace HX0 := Lib.hid (HX0.out.kept hw (.inl (by omega)))
  replace HZ1 := Lib.hid (HZ1.out.kept hw (.inr (by omega)))
  replace HL1b := Lib.hid (HL1b.out.within hw (by omega))
  replace HL1c := Lib.hid (HL1c.out.within hw (by omega))
  replace HL1d := Lib.hid (HL1d.out.within hw (by omega))
  replace HW := Lib.hid (HW.out.trans hw)
  replace HC := Lib.hid hc
  clear hc hw c0 c1 c2
  have c0 := HZ1.out.cell (i := 0) rfl
  have c1 := HZ1.out.cell (i := 1) rfl
  have c2 := HZ1.out.cell (i := 2) rfl
  refine hK.out _ _ ⟨c0, c1, c2⟩ (fun _ => ?_)
  clear hK K
  (try simp only [Act.put, List.setIfInBounds_toArray, List.set_cons_zero, List.set_cons_succ])
  have ew1 : IntKind.i64.wrap (1 + px) = 1 + px := IntWalk.i64_in _ (by omega)
  repeat (refine' wpV_read _ (by kernel_rfl) (fun w' hS' => ?_) ?_; rotate_left; (focus ((try dsimp only at hS'); go_simp; (try with_reducible rfl))); (try simp only [Act.put, List.setIfInBounds_toArray, List.set_cons_zero, List.set_cons_succ]))
  refine wpV_do (by kernel_rfl) (fun K hK => ?_)
  go_simp
  go_at_call 22
  refine (spec_pick U g _ 20 _ HC.out (HW.out.belowOf (HUC.out) (Nat.le_of_eq HUS.out)) (by omega)).mono ?_
  rintro e uQ ⟨⟨py, rfl, pyl, _, pym, _⟩, hc, hw⟩
  replace pym := pym (by omega)
  have hsuQ := hw.size
  replace HX0 := Lib.hid (HX0.out.kept hw (.inl (by omega)))
  replace HZ1 := Lib.hid (HZ1.out.kept hw (.inr (by omega)))
  replace HL1b := Lib.hid (HL1b.out.within hw (by omega))
  replace HL1c := Lib.hid (HL1c.out.within hw (by omega))
  replace HL1d := Lib.hid (HL1d.out.within hw (by omega))
  replace HW := Lib.hid (HW.out.trans hw)
  replace HC := Lib.hid hc
  clear hc hw c0 c1 c2
  have c0 := HZ1.out.cell (i := 0) rfl
  have c1 := HZ1.out.cell (i := 1) rfl
  have c2 := HZ1.out.cell (i := 2) rfl
  refine hK.out _ _ ⟨c0, c1, c2⟩ (fun _ => ?_)
  clear hK K
  (try simp only [Act.put, List.setIfInBounds_toArray, List.set_cons_zero, List.set_cons_succ])
  obtain ⟨D1, hD1⟩ : ∃ z, Int.tdiv py 19 = z := ⟨_, rfl⟩
  have hD2 : 0 ≤ D1 ∧ D1 ≤ 1 := by rw [← hD1, Int.tdiv_eq_ediv_of_nonneg (by omega)]; omega
  obtain ⟨hD3, hD4⟩ := hD2
  have ewD : IntKind.i64.wrap D1 = D1 := IntWalk.i64_in _ (by omega)
  have ewE : IntKind.i64.wrap (1 + px - D1) = 1 + px - D1 := IntWalk.i64_in _ (by omega)
  repeat (refine' wpV_read _ (by kernel_rfl) (fun w' hS' => ?_) ?_; rotate_left; (focus ((try dsimp only at hS'); go_simp; (try with_reducible rfl))); (try simp only [Act.put, List.setIfInBounds_toArray, List.set_cons_zero, List.set_cons_succ]))
  (try rw [hD1])
  refine wpV_do (by kernel_rfl) (fun K hK => ?_)
  have r0 := HX0.out.cell (i := 0) rfl
  have r1 := HX0.out.cell (i := 1) rfl
  have r2 := HX0.out.cell (i := 2) rfl
  have fr := fun j => HX0.out.frozen j
  obtain ⟨Y, hY⟩ : ∃ Y, Y = ((uQ.setCell ⟨w.heap.size, 0, none⟩ (.int .i64 P)).setCell ⟨w.heap.size, 1, none⟩ (.int .i64 Q)).setCell ⟨w.heap.size, 2, none⟩ (.int .i64 G) := ⟨_, rfl⟩
  have hYl : Within (w.heap.size) (w.heap.size + 1) uQ Y := by rw [hY]; exact ((((Within.refl (w.heap.size) (w.heap.size + 1) uQ).setCell (b := w.heap.size) (by omega) (by omega) 0 (.int .i64 P)).setCell (b := w.heap.size) (by omega) (by omega) 1 (.int .i64 Q)).setCell (b := w.heap.size) (by omega) (by omega) 2 (.int .i64 G))
  have NR : Hid (BoxN Y (w.heap.size) 24 [.int .i64 P, .int .i64 Q, .int .i64 G]) := by unfold Hid; rw [hY]; exact (((HX0.out.set 0 (.int .i64 P)).set 1 (.int .i64 Q)).set 2 (.int .i64 G))
  have NG := Lib.hid (HZ1.out.kept hYl (.inr (by omega)))
  have HYB : Hid (Below w.heap.size w Y) := hYl.belowU (HW.out.belowOf HBW.out (by omega)) (by omega)
  go_simp
  refine hK.out _ _ ?_ (fun _ => ?_)
  · rw [← hY]; exact ⟨NG.out.cell (i := 0) rfl, NG.out.cell (i := 1) rfl, NG.out.cell (i := 2) rfl⟩
  rw [← hY]
  clear hK K fr r0 r1 r2 hY c0 c1 c2
  (try simp only [Act.put, List.setIfInBounds_toArray, List.set_cons_zero, List.set_cons_succ])
  have c0 := NG.out.cell (i := 0) rfl
  have c1 := NG.out.cell (i := 1) rfl
  have c2 := NG.out.cell (i := 2) rfl
  replace HL1b := Lib.hid (HL1b.out.within hYl (by omega))
  replace HL1c := Lib.hid (HL1c.out.within hYl (by omega))
  replace HL1d := Lib.hid (HL1d.out.within hYl (by omega))
  clear hYl
  refine wpV_do (by kernel_rfl) (fun K hK => ?_)
  go_simp
  refine hK.out _ _ ⟨c0, c1, c2⟩ (fun _ => ?_)
  clear hK K
  (try simp only [Act.put, List.setIfInBounds_toArray, List.set_cons_zero, List.set_cons_succ])
  refine wpV_do (by kernel_rfl) (fun K hK => ?_)
  go_simp
  refine hK.out _ _ ⟨c0, c1, c2⟩ (fun _ => ?_)
  clear hK K
  (try simp only [Act.put, List.setIfInBounds_toArray, List.set_cons_zero, List.set_cons_succ])
  refine wpV_do (by kernel_rfl) (fun K hK => ?_)
  go_simp
  refine hK.out _ _ ⟨c0, c1, c2⟩ (fun _ => ?_)
  clear hK K
  (try simp only [Act.put, List.setIfInBounds_toArray, List.set_cons_zero, List.set_cons_succ])
  refine wpV_done ?_
  clear c0 c1 c2
  go_wp2_with fail
  refine NoPanic.normal ?_
  have t0 := NR.out.cell (i := 0) rfl
  have t1 := NR.out.cell (i := 1) rfl
  have t2 := NR.out.cell (i := 2) rfl
  try (go_wp2_with fail)
  refine bodyPost_ret (v := .tuple #[.agg #[.int .i64 P, .int .i64 Q, .int .i64 G], .slice a1b n1b c1b, .int .i64 (1 + px - D1), .slice a1c n1c c1c, .slice a1d n1d c1d]) (by simp [results, Tryz.results17, go_sem, t0, t1, t2]) rfl ⟨⟨_, _, _, _, _, _, _, _, _, _, rfl, HGR.out, ⟨HL1b.out.here, by have := HE1b.out; omega⟩, ⟨by omega, by omega⟩, ⟨HL1c.out.here, by have := HE1c.out; omega⟩, ⟨HL1d.out.here, by have := HE1d.out; omega⟩⟩, HYB.out⟩
end Go.Proofs.YtacpnphfopmofaaGreat
namespace Go.Proofs.YtacpnphfopmofaaGreat
open Go.RowKit
set_option linter.unusedSimpArgs false
set_option linter.unusedVariables false

theorem nth_mapI {f : Int → Int} {l : List Int} {k : Nat} (h : k < l.length) : nth (l.map f) k = f (nth l k) := by simp [nth, List.getD, h]
/-- a dealing shares the share of its dealer, and all its shares are right -/
def rsR (gr : GroupD) (cm ix : List Int) (l : List DealingD) (k : Nat) : Bool := (nth (atD l k).c 0 == atE gr cm (nth ix k)) && decide ((badE gr (atD l k)).length = 0)
/-- the usable dealings -/
def rsU (gr : GroupD) (cm ix : List Int) (l : List DealingD) : Nat → List Int
  | 0 => []
  | k + 1 => if (rsR gr cm ix l k && (decide ((rsU gr cm ix l k).length = 0) || smB (atD l k) (atD l (nth (rsU gr cm ix l k) 0).toNat))) = true then rsU gr cm ix l k ++ [(k : Int)] else rsU gr cm ix l k
def rsO (gr : GroupD) (cm ix : List Int) (l : List DealingD) : Nat → List Int
  | 0 => []
  | k + 1 => if (rsR gr cm ix l k && (decide ((rsU gr cm ix l k).length = 0) || smB (atD l k) (atD l (nth (rsU gr cm ix l k) 0).toNat))) = true then rsO gr cm ix l k else rsO gr cm ix l k ++ [(k : Int)]
def rsX (ix us : List Int) : Nat → List Int
  | 0 => []
  | k + 1 => rsX ix us k ++ [nth ix (nth us k).toNat]
def scD (gr : GroupD) (e : Int) (d : DealingD) : DealingD := ⟨d.c.map fun c => powE gr c e, d.s.map fun s => s * e % gr.q⟩
def rsS (gr : GroupD) (l : List DealingD) (us lam : List Int) : Nat → List DealingD
  | 0 => []
  | k + 1 => rsS gr l us lam k ++ [scD gr (nth lam k) (atD l (nth us k).toNat)]
noncomputable def rsQ (gr : GroupD) (cm ix : List Int) (l : List DealingD) : Bool := shG gr && (cmsB gr cm && (trL ix && (decide (l.length = ix.length) && dsB gr l)))
noncomputable def rsB (gr : GroupD) (cm ix : List Int) (l : List DealingD) : Bool := rsQ gr cm ix l && decide (cm.length ≤ (rsU gr cm ix l l.length).length)
noncomputable def rsM (gr : GroupD) (cm ix : List Int) (l : List DealingD) : List Int := lagL gr.q (rsX ix (rsU gr cm ix l l.length) cm.length) 0
noncomputable def rsD (gr : GroupD) (cm ix : List Int) (l : List DealingD) : DealingD := smD gr (rsS gr l (rsU gr cm ix l l.length) (rsM gr cm ix l) cm.length)
/-- column by column -/
def rsC (gr : GroupD) (l : List DealingD) (us lam : List Int) (j : Nat) : Nat → Int
  | 0 => 1
  | k + 1 => mulL gr [rsC gr l us lam j k, powE gr (nth (atD l (nth us k).toNat).c j) (nth lam k)]
def rsV (gr : GroupD) (l : List DealingD) (us lam : List Int) (j : Nat) : Nat → Int
  | 0 => 0
  | k + 1 => (rsV gr l us lam j k + nth (atD l (nth us k).toNat).s j * nth lam k) % gr.q
theorem rsX_len (ix us : List Int) (k : Nat) : (rsX ix us k).length = k := by
  induction k with
  | zero => rfl
  | succ k ih => unfold rsX; rw [List.length_append, ih]; rfl
theorem rsS_len (gr : GroupD) (l : List DealingD) (us lam : List Int) (k : Nat) : (rsS gr l us lam k).length = k := by
  induction k with
  | zero => rfl
  | succ k ih => unfold rsS; rw [List.length_append, ih]; rfl
theorem rsX_nth (ix us : List Int) {i : Nat} : ∀ k, i < k → nth (rsX ix us k) i = nth ix (nth us i).toNat := by
  intro k
  induction k with
  | zero => intro h; omega
  | succ k ih =>
    intro h
    unfold rsX
    rcases Nat.lt_or_ge i k with h1 | h1
    · rw [nth_app (by rw [rsX_len]; exact h1)]; exact ih h1
    · obtain rfl : i = k := by omega
      have := nth_app' (a := rsX ix us i) (x := nth ix (nth us i).toNat)
      rwa [rsX_len] at this
theorem rsS_get (gr : GroupD) (l : List DealingD) (us lam : List Int) {i : Nat} : ∀ k, i < k → atD (rsS gr l us lam k) i = scD gr (nth lam i) (atD l (nth us i).toNat) := by
  intro k
  induction k with
  | zero => intro h; omega
  | succ k ih =>
    intro h
    unfold rsS
    rcases Nat.lt_or_ge i k with h1 | h1
    · have h2 := ih h1
      unfold atD at *
      rw [List.getD, List.getElem?_append_left (by rw [rsS_len]; exact h1)]
      exact h2
    · obtain rfl : i = k := by omega
      have h3 : (rsS gr l us lam i).length = i := rsS_len ..
      unfold atD
      rw [List.getD, List.getElem?_append_right (by omega), h3]
      simp
/-- the usable dealings: places, form -/
structure UsS (gr : GroupD) (cm ix : List Int) (l : List DealingD) (n : Nat) (us : List Int) : Prop where
  le : us.length ≤ n
  at_ : ∀ j, j < us.length → ∃ k : Nat, k < n ∧ nth us j = (k : Int) ∧ rsR gr cm ix l k = true ∧ smB (atD l k) (atD l (nth us 0).toNat) = true
  inc : ∀ i j, i < j → j < us.length → nth us i < nth us j
theorem us_s (gr : GroupD) (cm ix : List Int) (l : List DealingD) : ∀ n, UsS gr cm ix l n (rsU gr cm ix l n) := by
  intro n
  induction n with
  | zero => exact ⟨Nat.le_refl _, fun j hj => by simp [rsU] at hj, fun i j _ hj => by simp [rsU] at hj⟩
  | succ n ih =>
    by_cases hc : (rsR gr cm ix l n && (decide ((rsU gr cm ix l n).length = 0) || smB (atD l n) (atD l (nth (rsU gr cm ix l n) 0).toNat))) = true
    · have e : rsU gr cm ix l (n + 1) = rsU gr cm ix l n ++ [(n : Int)] := if_pos hc
      rw [e]
      generalize hus : rsU gr cm ix l n = us at *
      have hlt : ∀ j, j < us.length → nth us j < (n : Int) := fun j hj => by
        obtain ⟨k, k1, k2, _⟩ := ih.at_ j hj; omega
      refine ⟨by have := ih.le; rw [List.length_append, List.length_singleton]; omega, ?_, ?_⟩
      · intro j hj
        simp only [List.length_append, List.length_singleton] at hj
        rcases Nat.lt_or_ge j us.length with h1 | h1
        · obtain ⟨k, k1, k2, k3, k4⟩ := ih.at_ j h1
          refine ⟨k, by omega, by rw [nth_app h1]; exact k2, k3, ?_⟩
          rw [nth_app (show 0 < us.length by omega)]; exact k4
        · obtain rfl : j = us.length := by omega
          rw [Bool.and_eq_true, Bool.or_eq_true, decide_eq_true_iff] at hc
          refine ⟨n, by omega, nth_app', hc.1, ?_⟩
          by_cases h0 : us.length = 0
          · obtain rfl := List.length_eq_zero_iff.1 h0
            show smB (atD l n) (atD l (nth [(n : Int)] 0).toNat) = true
            rw [show nth [(n : Int)] 0 = (n : Int) from rfl, Int.toNat_natCast]; exact smB_self _
          · rw [nth_app (show 0 < us.length by omega)]
            rcases hc.2 with h2 | h2
            · exact absurd h2 h0
            · exact h2
      · intro i j hij hj
        simp only [List.length_append, List.length_singleton] at hj
        rw [nth_app (show i < us.length by omega)]
        rcases Nat.lt_or_ge j us.length with h1 | h1
        · rw [nth_app h1]; exact ih.inc i j hij h1
        · obtain rfl : j = us.length := by omega
          rw [nth_app']; exact hlt i (by omega)
    · have e : rsU gr cm ix l (n + 1) = rsU gr cm ix l n := if_neg hc
      rw [e]
      exact ⟨by have := ih.le; omega, fun j hj => by obtain ⟨k, k1, k2⟩ := ih.at_ j hj; exact ⟨k, by omega, k2⟩, ih.inc⟩
theorem rsO_len (gr : GroupD) (cm ix : List Int) (l : List DealingD) (n : Nat) : (rsO gr cm ix l n).length ≤ n := by
  induction n with
  | zero => exact Nat.le_refl _
  | succ n ih =>
    unfold rsO; split
    · omega
    · rw [List.length_append, List.length_singleton]; omega
theorem atS_map {gr : GroupD} (hg : OkG gr) {cs : List Int} (hc : ∀ x ∈ cs, elB gr x = true) (e i : Int) : ∀ k, k ≤ cs.length → (atS gr i (cs.map fun c => powE gr c e) k).1 = powE gr (atS gr i cs k).1 e := by
  intro k
  induction k with
  | zero =>
    intro _
    show (1 : Int) = 1 ^ _ % gr.p
    rw [Int.one_pow, one_mod hg]
  | succ k ih =>
    intro hk
    have hm : nth (cs.map fun c => powE gr c e) k = powE gr (nth cs k) e := by
      simp [nth, List.getD, show k < cs.length by omega]
    have hel := hc _ (nth_mem' (show k < cs.length by omega))
    show mulL gr [_, _] = powE gr (mulL gr [_, _]) e
    rw [mulT, mulT, ih (by omega), hm, powE_mulB, atS_two gr i (cs.map fun c => powE gr c e) cs k, powE_pow hg hel, powE_pow hg hel, Int.mul_comm e]
theorem atE_map {gr : GroupD} (hg : OkG gr) {cs : List Int} (hc : ∀ x ∈ cs, elB gr x = true) (e i : Int) : atE gr (cs.map fun c => powE gr c e) i = powE gr (atE gr cs i) e := by
  unfold atE
  rw [List.length_map]
  exact atS_map hg hc e i _ (Nat.le_refl _)
/-- a dealing times a number -/
theorem sc_same {gr : GroupD} (hg : OkG gr) {f d : DealingD} (e : Int) (h : SameD gr f d) : SameD gr f (scD gr e d) :=
  ⟨by show (List.map _ _).length = _; rw [List.length_map]; exact h.lc, by show (List.map _ _).length = _; rw [List.length_map]; exact h.ls,
   fun x hx => by obtain ⟨c, hc, rfl⟩ := List.mem_map.1 hx; exact elT_pow hg (h.ec c hc) e,
   fun x hx => by obtain ⟨c, hc, rfl⟩ := List.mem_map.1 hx; exact expT hg _⟩
theorem sc_bad {gr : GroupD} (hG : shG gr = true) {f d : DealingD} (e : Int) (h : SameD gr f d) (hb : badE gr d = []) : badE gr (scD gr e d) = [] := by
  have hg := shG_ok hG
  unfold badE at *
  rw [bad_nil] at *
  intro k hk
  have hk' : k < d.s.length := by
    have e : (scD gr e d).s.length = d.s.length := List.length_map ..
    rwa [e] at hk
  have h1 := hb k hk'
  unfold shrB at *
  rw [beq_iff_eq] at *
  show powE gr gr.g (nth (d.s.map fun s => s * e % gr.q) k) = atE gr (d.c.map fun c => powE gr c e) _
  rw [atE_map hg h.ec, ← h1]
  have hm : nth (d.s.map fun s => s * e % gr.q) k = nth d.s k * e % gr.q := by simp [nth, List.getD, hk']
  rw [hm, powE_emod, powE_pow hg (shG_gen hG)]
theorem rsQ_parts {gr : GroupD} {cm ix : List Int} {l : List DealingD} (h : rsQ gr cm ix l = true) : shG gr = true ∧ cmsB gr cm = true ∧ trL ix = true ∧ l.length = ix.length ∧ l.length ≤ 7 ∧ ∀ d ∈ l, deB gr d = true := by
  unfold rsQ dsB at h
  simp only [Bool.and_eq_true, decide_eq_true_iff] at h
  exact ⟨h.1, h.2.1, h.2.2.1, h.2.2.2.1, by omega, fun d hd => List.all_eq_true.1 h.2.2.2.2.2 d hd⟩
/-- the points of usable dealings -/
theorem rs_diff {gr : GroupD} {cm ix : List Int} {l : List DealingD} (h : rsQ gr cm ix l = true) {t : Nat} (ht : t ≤ (rsU gr cm ix l l.length).length) : (∀ y ∈ rsX ix (rsU gr cm ix l l.length) t, 1 ≤ y ∧ y ≤ 7) ∧ Diff gr.q (rsX ix (rsU gr cm ix l l.length) t) := by
  obtain ⟨hG, hc, htr, hl, hl7, _⟩ := rsQ_parts h
  obtain ⟨_, _, hq7⟩ := shG_prm hG
  have U := us_s gr cm ix l l.length
  obtain ⟨b1, b2⟩ := trL_parts htr
  have hb : ∀ y ∈ rsX ix (rsU gr cm ix l l.length) t, 1 ≤ y ∧ y ≤ 7 := fun y hy => by
    obtain ⟨i, hi, e⟩ := mem_nth hy
    rw [rsX_len] at hi
    rw [rsX_nth _ _ _ hi] at e
    obtain ⟨k, k1, k2, _⟩ := U.at_ i (by omega)
    rw [k2, Int.toNat_natCast] at e
    rw [← e]; exact b1 _ (nth_mem' (by omega))
  refine ⟨hb, diff_tr hq7 hb ?_⟩
  rw [List.nodup_iff_pairwise_ne, List.pairwise_iff_getElem]
  intro i j hi hj hij
  rw [rsX_len] at hi hj
  rw [← nthE, ← nthE, rsX_nth _ _ _ hi, rsX_nth _ _ _ hj]
  obtain ⟨k, k1, k2, _⟩ := U.at_ i (by omega)
  obtain ⟨m, m1, m2, _⟩ := U.at_ j (by omega)
  have := U.inc i j hij (by omega)
  rw [k2, m2, Int.toNat_natCast, Int.toNat_natCast, nthE (by omega), nthE (by omega)]
  exact (List.pairwise_iff_getElem.1 (List.nodup_iff_pairwise_ne.1 b2)) k m (by omega) (by omega) (by omega)
/-- the scaled dealings can be summed -/
theorem rs_al {gr : GroupD} {cm ix : List Int} {l : List DealingD} (h : rsQ gr cm ix l = true) (lam : List Int) {t : Nat} (h1 : 1 ≤ t) (ht : t ≤ (rsU gr cm ix l l.length).length) :
    alB gr (rsS gr l (rsU gr cm ix l l.length) lam t) = true ∧ ∀ d ∈ rsS gr l (rsU gr cm ix l l.length) lam t, SameD gr (hdD (rsS gr l (rsU gr cm ix l l.length) lam t)) d ∧ badE gr d = [] ∧ deB gr d = true := by
  obtain ⟨hG, hc, htr, hl, hl7, hd⟩ := rsQ_parts h
  have hg := shG_ok hG
  have U := us_s gr cm ix l l.length
  obtain ⟨k0, k01, k02, k03, k04⟩ := U.at_ 0 (by omega)
  have hf : deB gr (atD l (nth (rsU gr cm ix l l.length) 0).toNat) = true := by
    rw [k02, Int.toNat_natCast]; exact hd _ (atD_eq (l := l) k01 ▸ List.getElem_mem _)
  have one : ∀ d ∈ rsS gr l (rsU gr cm ix l l.length) lam t, SameD gr (atD l (nth (rsU gr cm ix l l.length) 0).toNat) d ∧ badE gr d = [] := fun d hdm => by
    obtain ⟨i, hi, rfl⟩ := List.getElem_of_mem hdm
    have hi' := hi
    rw [rsS_len] at hi'
    rw [← atD_eq hi, rsS_get gr l _ lam _ hi']
    obtain ⟨k, k1, k2, k3, k4⟩ := U.at_ i (by omega)
    rw [k2, Int.toNat_natCast]
    have hs := de_same (hd _ (by rw [atD_eq k1]; exact List.getElem_mem _)) k4
    unfold rsR at k3
    rw [Bool.and_eq_true, decide_eq_true_iff] at k3
    exact ⟨sc_same hg _ hs, sc_bad hG _ hs (List.length_eq_zero_iff.1 k3.2)⟩
  have hlen := rsS_len gr l (rsU gr cm ix l l.length) lam t
  have hh := (one _ (hdD_mem (by omega))).1
  have all : ∀ d ∈ rsS gr l (rsU gr cm ix l l.length) lam t, SameD gr (hdD (rsS gr l (rsU gr cm ix l l.length) lam t)) d ∧ badE gr d = [] ∧ deB gr d = true := fun d hdm => by
    obtain ⟨s1, s2⟩ := one d hdm
    exact ⟨⟨by rw [s1.lc, hh.lc], by rw [s1.ls, hh.ls], s1.ec, s1.es⟩, s2, deB_same hf s1⟩
  refine ⟨?_, all⟩
  unfold alB
  have := U.le
  rw [decide_eq_true (by omega), Bool.true_and, List.all_eq_true]
  intro d hdm
  obtain ⟨s1, _, s2⟩ := all d hdm
  rw [s2, Bool.true_and]
  unfold smB
  rw [decide_eq_true s1.lc, decide_eq_true s1.ls]; rfl
/-- the sum, column by column -/
theorem sum_cols {gr : GroupD} (hg : OkG gr) {l : List DealingD} {us lam : List Int} {f : DealingD} {t : Nat} (hs : ∀ k, k < t → SameD gr f (atD l (nth us k).toNat)) :
    ∀ k, k < t → (∀ j, j < f.c.length → nth (smF gr (rsS gr l us lam t) k).c j = rsC gr l us lam j (k + 1)) ∧ (∀ j, j < f.s.length → nth (smF gr (rsS gr l us lam t) k).s j = rsV gr l us lam j (k + 1)) ∧ (smF gr (rsS gr l us lam t) k).c.length = f.c.length ∧ (smF gr (rsS gr l us lam t) k).s.length = f.s.length := by
  have hat : ∀ k, k < t → atD (rsS gr l us lam t) k = scD gr (nth lam k) (atD l (nth us k).toNat) := fun k hk => rsS_get gr l us lam t hk
  have hc : ∀ k, k < t → ∀ j, j < f.c.length → nth (scD gr (nth lam k) (atD l (nth us k).toNat)).c j = powE gr (nth (atD l (nth us k).toNat).c j) (nth lam k) := fun k hk j hj => by
    have := (hs k hk).lc
    exact nth_mapI (by omega)
  have hv : ∀ k, k < t → ∀ j, j < f.s.length → nth (scD gr (nth lam k) (atD l (nth us k).toNat)).s j = nth (atD l (nth us k).toNat).s j * nth lam k % gr.q := fun k hk j hj => by
    have := (hs k hk).ls
    exact nth_mapI (by omega)
  intro k
  induction k with
  | zero =>
    intro h0
    have e : smF gr (rsS gr l us lam t) 0 = scD gr (nth lam 0) (atD l (nth us 0).toNat) := by
      rw [show smF gr (rsS gr l us lam t) 0 = hdD (rsS gr l us lam t) from rfl, hdD_eq (by rw [rsS_len]; exact h0), ← atD_eq (by rw [rsS_len]; exact h0), hat 0 h0]
    rw [e]
    have s := sc_same hg (nth lam 0) (hs 0 h0)
    refine ⟨fun j hj => ?_, fun j hj => ?_, s.lc, s.ls⟩
    · rw [hc 0 h0 j hj]
      show _ = mulL gr [1, _]
      rw [mulT, Int.one_mul, elT_mod hg (elT_pow hg ((hs 0 h0).ec _ (nth_mem' (by have := (hs 0 h0).lc; omega))) _)]
    · rw [hv 0 h0 j hj]
      show _ = (0 + _) % gr.q
      rw [Int.zero_add]
  | succ k ih =>
    intro hk
    obtain ⟨i1, i2, i3, i4⟩ := ih (by omega)
    have s := sc_same hg (nth lam (k + 1)) (hs (k + 1) hk)
    rw [show smF gr (rsS gr l us lam t) (k + 1) = suX gr (smF gr (rsS gr l us lam t) k) (atD (rsS gr l us lam t) (k + 1)) from rfl, hat _ hk]
    refine ⟨fun j hj => ?_, fun j hj => ?_, ?_, ?_⟩
    · show nth (smL (mulF gr) _ _ _) j = _
      rw [smL_all_nth _ (by rw [i3, s.lc]) (by rw [s.lc]; exact hj), i1 j hj, hc _ hk j hj]; rfl
    · show nth (smL (addF gr) _ _ _) j = _
      rw [smL_all_nth _ (by rw [i4, s.ls]) (by rw [s.ls]; exact hj), i2 j hj, hv _ hk j hj]
      show (_ + _ % gr.q) % gr.q = (_ + _) % gr.q
      rw [Int.add_emod, Int.emod_emod, ← Int.add_emod]
    · show (smL _ _ _ _).length = _; rw [smL_len]; exact i3
    · show (smL _ _ _ _).length = _; rw [smL_len]; exact i4
theorem rsC_prG {gr : GroupD} (l : List DealingD) (us lam : List Int) (j : Nat) : ∀ n, rsC gr l us lam j n = prG gr (fun k => powE gr (nth (atD l (nth us k).toNat).c j) (nth lam k)) n := by
  intro n
  induction n with
  | zero => rfl
  | succ n ih => unfold rsC prG; rw [mulT, ih]
/-- resharing keeps the secret, and its shares are right -/
theorem rs_right {gr : GroupD} {cm ix : List Int} {l : List DealingD} (h : rsB gr cm ix l = true) : vdB gr (rsD gr cm ix l) = true ∧ badE gr (rsD gr cm ix l) = [] ∧ nth (rsD gr cm ix l).c 0 = nth cm 0 ∧ 0 < (rsD gr cm ix l).c.length ∧ 0 < cm.length := by
  unfold rsB at h
  rw [Bool.and_eq_true, decide_eq_true_iff] at h
  obtain ⟨hQ, ht⟩ := h
  obtain ⟨hG, hc, htr, hl, hl7, hd⟩ := rsQ_parts hQ
  have hg := shG_ok hG
  obtain ⟨hpr, _, hq7⟩ := shG_prm hG
  obtain ⟨⟨c1, c7⟩, hce⟩ := cmsB_parts hc
  have U := us_s gr cm ix l l.length
  obtain ⟨r1, r2⟩ := rs_al hQ (rsM gr cm ix l) c1 ht
  have hlen := rsS_len gr l (rsU gr cm ix l l.length) (rsM gr cm ix l) cm.length
  obtain ⟨s1, s2⟩ := smF_bad hG (fun d hd' => (r2 d hd').1) (fun d hd' => (r2 d hd').2.1) (cm.length - 1) (by omega)
  have e : rsD gr cm ix l = smF gr (rsS gr l (rsU gr cm ix l l.length) (rsM gr cm ix l) cm.length) (cm.length - 1) := by
    unfold rsD smD; rw [hlen]
  rw [← e] at s1 s2
  have hde := deB_same (r2 _ (hdD_mem (by omega))).2.2 s1
  obtain ⟨p1, p2, p3⟩ := deB_parts hde
  have hs : ∀ k, k < cm.length → SameD gr (atD l (nth (rsU gr cm ix l l.length) 0).toNat) (atD l (nth (rsU gr cm ix l l.length) k).toNat) := fun k hk => by
    obtain ⟨m, m1, m2, m3, m4⟩ := U.at_ k (by omega)
    rw [m2, Int.toNat_natCast]
    exact de_same (hd _ (by rw [atD_eq m1]; exact List.getElem_mem _)) m4
  obtain ⟨w1, _, w3, _⟩ := sum_cols (lam := rsM gr cm ix l) hg hs (cm.length - 1) (by omega)
  rw [← e] at w1 w3
  refine ⟨by unfold vdB; rw [hG, hde]; rfl, s2, ?_, by omega, by omega⟩
  rw [w1 0 (by omega), rsC_prG, show cm.length - 1 + 1 = cm.length by omega]
  obtain ⟨d1, d2⟩ := rs_diff hQ ht
  have hxl := rsX_len ix (rsU gr cm ix l l.length) cm.length
  rw [prG_congr (g := fun k => powE gr (atS gr (nth (rsX ix (rsU gr cm ix l l.length) cm.length) k) cm cm.length).1 (lagI gr.q (rsX ix (rsU gr cm ix l l.length) cm.length) 0 k)) _ (fun k hk => by
    obtain ⟨m, m1, m2, m3, m4⟩ := U.at_ k (by omega)
    unfold rsR at m3
    rw [Bool.and_eq_true, beq_iff_eq] at m3
    show powE gr _ _ = powE gr (atE gr cm _) _
    rw [rsX_nth _ _ _ hk, m2, Int.toNat_natCast, m3.1]
    unfold rsM
    rw [lagL_nth (by rw [hxl]; exact hk)])]
  rw [prG_at hg hce cm.length (nth (rsX ix (rsU gr cm ix l l.length) cm.length)) (lagI gr.q (rsX ix (rsU gr cm ix l l.length) cm.length) 0) 0 (fun k hk => ?_) _ (Nat.le_refl _)]
  · exact atE_zero hg hce c1
  · have hin := interp hpr d2 ((pow_isP k).le (by rw [hxl]; omega)) 0 (fun i => nth (rsX ix (rsU gr cm ix l l.length) cm.length) i ^ k % gr.q) (fun i _ => Int.emod_emod ..)
    rwa [hxl] at hin
/-- a share that is recovered is right -/
theorem rec_right {gr : GroupD} {cs ix ss : List Int} {i : Int} (hi : 1 ≤ i ∧ i ≤ 7) (h : asB gr cs ix ss = true) (hv : vaB gr cs ix ss = true) : ckB gr cs i (vaV gr cs ix ss i) = true ∧ ckR gr cs i (vaV gr cs ix ss i) = true := by
  unfold asB at h
  simp only [Bool.and_eq_true, decide_eq_true_iff] at h
  obtain ⟨hG, hc, ht, hl, hs⟩ := h
  have h1 := va_right (x := i) hG hc ht hl hs hv
  have h2 : ckB gr cs i (vaV gr cs ix ss i) = true := by
    unfold ckB; rw [hG, hc, vaV_bd hG, decide_eq_true hi]; rfl
  refine ⟨h2, ?_⟩
  unfold ckR shrB
  rw [h2, h1]; simp
end Go.Proofs.YtacpnphfopmofaaGreat
namespace Go.Proofs.YtacpnphfopmofaaGreat
open Go.RowKit
set_option linter.unusedSimpArgs false
set_option linter.unusedVariables false

/-- a key in new memory, a list and a Bool are returned -/
def RetDLB (e : Ending) (w : World) (d : DealingD) (l : List Int) (b : Bool) : Prop := ∃ x y v, e = .returned (.tuple #[.agg #[x, y], v, .bool b]) ∧ Ints w x d.c ∧ Ints w y d.s ∧ Ints w v l
theorem RetDLB.mk {w : World} {x y v : Value} {d : DealingD} {l : List Int} {b : Bool} (h1 : Ints w x d.c) (h2 : Ints w y d.s) (h3 : Ints w v l) : RetDLB (.returned (.tuple #[.agg #[x, y], v, .bool b])) w d l b := ⟨x, y, v, rfl, h1, h2, h3⟩
theorem Ints.oth {w : World} {B b : Nat} {v : Value} {l : List Int} (h : OwnI w B v l) (hb : b < B) (j : Nat) (x : Value) : OwnI (w.setCell ⟨b, j, none⟩ x) B v l := h.other hb j x
end Go.Proofs.YtacpnphfopmofaaGreat
namespace Go.Proofs.YtacpnphfopmofaaGreat
open Go.RowKit
set_option linter.unusedSimpArgs false
set_option linter.unusedVariables false

theorem asB_parts {gr : GroupD} {cs ix ss : List Int} (h : asB gr cs ix ss = true) : shG gr = true ∧ cmsB gr cs = true ∧ trL ix = true ∧ ss.length = ix.length ∧ ss.all (expB gr) = true := by
  unfold asB at h
  simp only [Bool.and_eq_true, decide_eq_true_iff] at h
  exact ⟨h.1, h.2.1, h.2.2.1, h.2.2.2.1, h.2.2.2.2⟩
end Go.Proofs.YtacpnphfopmofaaGreat
namespace Go.Proofs.YtacpnphfopmofaaGreat
open Go.RowKit
set_option linter.unusedSimpArgs false
set_option linter.unusedVariables false

noncomputable def rvB (gr : GroupD) (cs : List Int) (i : Int) (ix ss : List Int) : Bool := asB gr cs ix ss && (decide (1 ≤ i ∧ i ≤ 7) && vaB gr cs ix ss)
noncomputable def rvR (gr : GroupD) (cs : List Int) (i : Int) (ix ss : List Int) : Int := if rvB gr cs i ix ss = true then vaV gr cs ix ss i else 0
set_option maxRecDepth 100000 in
set_option maxHeartbeats 2000000 in
theorem impl_RecoverShare (gr : GroupD) (cv : Value) (cs : List Int) (i : Int) (iv : Value) (ix : List Int) (sv : Value) (ss : List Int) (w : World) (hcs : Ints w cv cs) (hix : Ints w iv ix) (hss : Ints w sv ss) :
    Calls Tryz.prog 18 #[.agg #[.int .i64 gr.p, .int .i64 gr.q, .int .i64 gr.g], cv, .int .i64 i, iv, sv] w fun e w' => e = .returned (.tuple #[.int .i64 (rvR gr cs i ix ss), .bool (rvB gr cs i ix ss)]) ∧ Below w.heap.size w w' := by
  obtain ⟨cva, cvn, cvc, rfl⟩ := hcs.shape
  have Ecv := Lib.hid hcs.len
  have Kcv := Lib.hid hcs.capMax
  have Hcv := Lib.hid hcs
  clear hcs
  obtain ⟨iva, ivn, ivc, rfl⟩ := hix.shape
  have Eiv := Lib.hid hix.len
  have Kiv := Lib.hid hix.capMax
  have Hiv := Lib.hid hix
  clear hix
  obtain ⟨sva, svn, svc, rfl⟩ := hss.shape
  have Esv := Lib.hid hss.len
  have Ksv := Lib.hid hss.capMax
  have Hsv := Lib.hid hss
  clear hss
  obtain ⟨W, hW⟩ : ∃ W, W = w.alloc (.cells #[.int .i64 gr.p, .int .i64 gr.q, .int .i64 gr.g] 24) := ⟨_, rfl⟩
  have HB : Hid (Below w.heap.size w W) := by unfold Hid; rw [hW]; (repeat (first | exact Below.refl _ _ | assumption | refine Below.drew ?_ | refine Below.alloc ?_ (by first | (simp; done) | (simp; omega)) _ | refine Below.setCell ?_ (by first | (simp; done) | (simp; omega)) _))
  have c0_0 : W.cell? ⟨w.heap.size, 0, none⟩ = some (.int .i64 gr.p) := by rw [hW]; simp [go_sem]
  have c0_1 : W.cell? ⟨w.heap.size, 1, none⟩ = some (.int .i64 gr.q) := by rw [hW]; simp [go_sem]
  have c0_2 : W.cell? ⟨w.heap.size, 2, none⟩ = some (.int .i64 gr.g) := by rw [hW]; simp [go_sem]
  have HSW : Hid (W.heap.size = w.heap.size + 1) := by unfold Hid; rw [hW]; simp
  go_enter Tryz.func18, Tryz.ntmps18
  go_wp2_with fail
  rw [← hW]
  have hse : w.heap.size + 1 = W.heap.size := by have := HSW.out; omega
  (try rw [hse])
  clear hse
  clear hW
  have hc : Below W.heap.size W W := Below.refl _ _
  have HCC : Hid (∀ u, Below W.heap.size W u → u.cell? ⟨w.heap.size, 0, none⟩ = some (.int .i64 gr.p) ∧ u.cell? ⟨w.heap.size, 1, none⟩ = some (.int .i64 gr.q) ∧ u.cell? ⟨w.heap.size, 2, none⟩ = some (.int .i64 gr.g)) := fun u h => ⟨box_at c0_0 h, box_at c0_1 h, box_at c0_2 h⟩
  go_wp2_with fail
  refine (impl_areSharesOf gr _ cs _ ix _ ss _ (Hcv.out.below (HB.out.trans (hc.mono HB.out.size))) (Hiv.out.below (HB.out.trans (hc.mono HB.out.size))) (Hsv.out.below (HB.out.trans (hc.mono HB.out.size)))).mono ?_
  rintro e u1 ⟨rfl, hq1⟩
  replace hc := Below.next hc hq1
  clear hq1 c0_0 c0_1 c0_2
  obtain ⟨c0_0, c0_1, c0_2⟩ := HCC.out _ hc
  cases hc1 : asB gr cs ix ss with
  | false =>
    have Hhc1 := Lib.hid hc1
    clear hc1
    go_wp2_with fail
    have HV : Hid ((.tuple #[.int .i64 (rvR gr cs i ix ss), .bool (rvB gr cs i ix ss)] : Value) = .tuple #[.int .i64 0, .bool false]) := by unfold Hid; simp [rvR, rvB, vaR, Hhc1.out]
    go_ret2
    exact ⟨congrArg Ending.returned HV.out.symm, HB.out.trans (hc.mono HB.out.size)⟩
  | true =>
    have HAS := Lib.hid (asB_parts hc1)
    have Hhc1 := Lib.hid hc1
    clear hc1
    go_wp2_with fail
    refine (impl_isTrustee i _).mono ?_
    rintro e u2 ⟨rfl, hq2⟩
    replace hc := Below.next hc hq2
    clear hq2 c0_0 c0_1 c0_2
    obtain ⟨c0_0, c0_1, c0_2⟩ := HCC.out _ hc
    cases hc2 : decide (1 ≤ i ∧ i ≤ 7) with
    | false =>
      go_wp2_with fail
      have HV : Hid ((.tuple #[.int .i64 (rvR gr cs i ix ss), .bool (rvB gr cs i ix ss)] : Value) = .tuple #[.int .i64 0, .bool false]) := by unfold Hid; simp [rvR, rvB, vaR, Hhc1.out, hc2]
      go_ret2
      exact ⟨congrArg Ending.returned HV.out.symm, HB.out.trans (hc.mono HB.out.size)⟩
    | true =>
      have HIB : Hid (0 ≤ i ∧ i ≤ 1000) := by have := of_decide_eq_true hc2; unfold Hid; omega
      have hic := of_decide_eq_true hc2
      go_wp2_with fail
      refine (impl_valueAt gr _ cs _ ix _ ss i _ (Hcv.out.below (HB.out.trans (hc.mono HB.out.size))) (Hiv.out.below (HB.out.trans (hc.mono HB.out.size))) (Hsv.out.below (HB.out.trans (hc.mono HB.out.size))) HAS.out.1 HAS.out.2.1 HAS.out.2.2.1 HAS.out.2.2.2.1 HAS.out.2.2.2.2 HIB.out).mono ?_
      rintro e u3 ⟨rfl, hq3⟩
      replace hc := Below.next hc hq3
      clear hq3 c0_0 c0_1 c0_2
      obtain ⟨c0_0, c0_1, c0_2⟩ := HCC.out _ hc
      cases hc3 : vaB gr cs ix ss with
      | false =>
        have Hhc3 := Lib.hid hc3
        clear hc3
        go_wp2_with fail
        have HV : Hid ((.tuple #[.int .i64 (rvR gr cs i ix ss), .bool (rvB gr cs i ix ss)] : Value) = .tuple #[.int .i64 (vaR gr cs ix ss i), .bool false]) := by unfold Hid; simp [rvR, rvB, vaR, Hhc1.out, hc2, Hhc3.out]
        go_ret2
        exact ⟨congrArg Ending.returned HV.out.symm, HB.out.trans (hc.mono HB.out.size)⟩
      | true =>
        have Hhc3 := Lib.hid hc3
        clear hc3
        go_wp2_with fail
        have HV : Hid ((.tuple #[.int .i64 (rvR gr cs i ix ss), .bool (rvB gr cs i ix ss)] : Value) = .tuple #[.int .i64 (vaR gr cs ix ss i), .bool true]) := by unfold Hid; simp [rvR, rvB, vaR, Hhc1.out, hc2, Hhc3.out]
        go_ret2
        exact ⟨congrArg Ending.returned HV.out.symm, HB.out.trans (hc.mono HB.out.size)⟩
end Go.Proofs.YtacpnphfopmofaaGreat
