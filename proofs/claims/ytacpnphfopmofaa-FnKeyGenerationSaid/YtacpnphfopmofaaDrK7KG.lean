/- Draws: the outcome of a key generation, bent (printed by gen_drk7.py). -/
import Derived.Test.YtacpnphfopmofaaKg5KG
import Derived.Test.YtacpnphfopmofaaKg11KG
import Derived.Test.YtacpnphfopmofaaRowIKG
namespace Go.Proofs.Ytacpnphfopmofaa
open Go.RowKit
set_option linter.unusedSimpArgs false
set_option linter.unusedVariables false

/-- the blocks of w from B on stand in u -/
def Agr (B : Nat) (w u : World) : Prop := w.heap.size ≤ u.heap.size ∧ ∀ k, B ≤ k → k < w.heap.size → u.heap[k]? = w.heap[k]?
section
variable {B lo hi b j : Nat} {w u u' : World}
theorem Agr.refl (B : Nat) (w : World) : Agr B w w := ⟨Nat.le_refl _, fun _ _ _ => rfl⟩
theorem Agr.within (h : Agr B w u) (hw : Within lo hi u u') (hd : hi ≤ B) : Agr B w u' := ⟨Nat.le_trans h.1 hw.size, fun k hk hlt => (hw.block k (Nat.lt_of_lt_of_le hlt h.1) (.inr (by omega))).trans (h.2 k hk hlt)⟩
theorem Agr.below (h : Agr B w u) (hb : Below u.heap.size u u') : Agr B w u' := ⟨Nat.le_trans h.1 hb.size, fun k hk hlt => (hb.block k (Nat.lt_of_lt_of_le hlt h.1)).trans (h.2 k hk hlt)⟩
theorem Agr.set (h : Agr B w u) (hb : w.heap.size ≤ b) (x : Value) : Agr B w (u.setCell ⟨b, j, none⟩ x) := ⟨by rw [size_setC]; exact h.1, fun k hk hlt => (heap_setCell_other u ⟨b, j, none⟩ k x (by show k ≠ b; omega)).trans (h.2 k hk hlt)⟩
end
theorem kg_pos {gr : GroupD} {l : List DealingD} {an : List (List Int)} (h : cbB gr l an = true) : 1 ≤ (kgQ gr l an).length ∧ (1 ≤ (kgD gr l an).c.length ∧ (kgD gr l an).c.length ≤ 7) ∧ (1 ≤ (kgD gr l an).s.length ∧ (kgD gr l an).s.length ≤ 7) := by
  obtain ⟨e1, _, e3⟩ := cbB_yes h
  rw [e1, e3]
  have hk : kaB gr l an = true := by unfold cbB at h; rw [Bool.and_eq_true] at h; exact h.1
  have hne : kqE gr l an ≠ [] := by
    intro e
    unfold cbB at h
    rw [hk, e] at h
    simp at h
  obtain ⟨hv, _⟩ := kg_right h
  have hde : deB gr (cbD gr l an) = true := by unfold vdB at hv; rw [Bool.and_eq_true] at hv; exact hv.2
  have := (deB_parts hde).1
  have hq : 1 ≤ (kqE gr l an).length := by
    cases hc : kqE gr l an with
    | nil => exact absurd hc hne
    | cons a t => simp
  exact ⟨hq, ⟨by omega, by omega⟩, ⟨by omega, by omega⟩⟩
set_option maxRecDepth 100000 in
set_option maxHeartbeats 8000000 in
theorem spec_DrawCheckKeyGen (v : Value) (w : World) (h : Bytes w v) :
    Calls Try.prog 37 #[v] w fun e w' => (∃ (P : Int) (Q : Int) (G : Int) (lv : Value) (l : List DealingD) (av : Value) (an : List (List Int)) (qv : Value) (qs : List Int) (y : Int) (cv : Value) (cs : List Int) (sv : Value) (ss : List Int), e = .returned (.tuple #[.agg #[.int .i64 P, .int .i64 Q, .int .i64 G], lv, av, .agg #[qv, .int .i64 y, cv, sv]]) ∧ GrB ⟨P, Q, G⟩ ∧ RdR rDealing w' lv l ∧ RdL kInts w' av an ∧ Ints w' qv qs ∧ Ints w' cv cs ∧ Ints w' sv ss) ∧ Below w.heap.size w w' := by
  obtain ⟨a, m, c, rfl, hk1, hk2, hv⟩ := h
  have HY : Hid (Bytes w (.slice a m c)) := ⟨a, m, c, rfl, hk1, hk2, hv⟩
  clear hv
  unfold maxLen at hk2
  obtain ⟨U, hU⟩ : ∃ U, U = (w.alloc (.cells #[.int .i64 0, .int .i64 0, .int .i64 0] 24)).alloc (.cells #[.slice none 0 0, .int .i64 0, .slice none 0 0, .slice none 0 0] 73) := ⟨_, rfl⟩
  have hbU : Below w.heap.size w U := by rw [hU]; (repeat (first | exact Below.refl _ _ | assumption | refine Below.drew ?_ | refine Below.alloc ?_ (by first | (simp; done) | (simp; omega)) _ | refine Below.setCell ?_ (by first | (simp; done) | (simp; omega)) _))
  have HX2 : Hid (BoxN U w.heap.size 24 [.int .i64 0, .int .i64 0, .int .i64 0]) := by unfold Hid; rw [hU]; have h := ((BoxN.new w [.int .i64 0, .int .i64 0, .int .i64 0] 24).alloc (.cells #[.slice none 0 0, .int .i64 0, .slice none 0 0, .slice none 0 0] 73)); simpa using h
  have HX5 : Hid (BoxN U (w.heap.size + 1) 73 [.slice none 0 0, .int .i64 0, .slice none 0 0, .slice none 0 0]) := by unfold Hid; rw [hU]; have h := (BoxN.new (w.alloc (.cells #[.int .i64 0, .int .i64 0, .int .i64 0] 24)) [.slice none 0 0, .int .i64 0, .slice none 0 0, .slice none 0 0] 73); simpa using h
  have hsU : U.heap.size = w.heap.size + 1 + 1 := by rw [hU]; simp
  obtain ⟨W, hW⟩ : ∃ W, W = U.alloc (.cells #[.slice a m c, .int .i64 0, .int .u64 0] 85) := ⟨_, rfl⟩
  have HC : Hid (Cur U W U.heap.size 0) := by unfold Hid; rw [hW]; exact Cur.new U (HY.out.below hbU)
  have hbW : Below U.heap.size U W := by rw [hW]; exact (Below.refl _ _).alloc (Nat.le_refl _) _
  have HBw := Lib.hid (Below.next hbU hbW)
  have HU := Lib.hid hbW
  replace HX2 := Lib.hid (HX2.out.below hbW)
  replace HX5 := Lib.hid (HX5.out.below hbW)
  obtain ⟨g, hg⟩ : ∃ g, g = U.heap.size := ⟨_, rfl⟩
  have HSU : Hid (w.heap.size + 1 + 1 = g) := by unfold Hid; rw [hg, hsU]
  have HWS : Hid (W.heap.size = g + 1) := by unfold Hid; rw [hW, hg]; simp
  go_enter Try.func37, Try.ntmps37
  go_wp2_with fail
  rw [← hU, ← hW]
  rw [HSU.out]
  rw [← hg] at HC
  have HUS : Hid (U.heap.size = g) := hg.symm
  have hwg : w.heap.size + 2 = g := HSU.out
  have hsW := HWS.out
  clear hU hW hbU hbW hsU hg
  try (go_wp2_with fail)
  obtain ⟨B0, hB0⟩ : ∃ b, b = W.heap.size := ⟨_, rfl⟩
  refine (spec_DrawQualifiedIn _ W (HY.out.below HBw.out)).mono ?_
  rintro e u1 ⟨⟨P, Q, G, lv, l, av, anl, rfl, hgr, hl, ha⟩, hb⟩
  rw [← hB0] at hl ha
  have HGR := Lib.hid hgr
  have HLZ := Lib.hid hl
  have HAS := Lib.hid ha
  obtain ⟨la, ln, lc, rfl⟩ := hl.here.shape
  obtain ⟨aa, an, ac, rfl⟩ := ha.here.shape
  have hs1 := hb.size
  have hgB0 : g < B0 := by omega
  have hB0u : B0 ≤ u1.heap.size := by omega
  have hus : U.heap.size = g := HUS.out
  replace HX2 := Lib.hid (HX2.out.below hb)
  replace HX5 := Lib.hid (HX5.out.below hb)
  replace HU := Lib.hid (HU.out.trans (hb.mono HU.out.size))
  replace HBw := Lib.hid (HBw.out.trans (hb.mono HBw.out.size))
  replace HC := Lib.hid (HC.out.keep hb)
  clear hgr hl ha hb hus hB0
  obtain ⟨GA, hGA⟩ : ∃ b, b = u1.heap.size := ⟨_, rfl⟩
  obtain ⟨u2, hu2⟩ : ∃ V, V = u1.alloc (.cells #[.int .i64 P, .int .i64 Q, .int .i64 G] 24) := ⟨_, rfl⟩
  have hbV : Below u1.heap.size u1 u2 := by rw [hu2]; exact (Below.refl _ _).alloc (Nat.le_refl _) _
  have HZ1 : Hid (BoxN u2 GA 24 [.int .i64 P, .int .i64 Q, .int .i64 G]) := by unfold Hid; rw [hu2, hGA]; exact BoxN.new u1 [.int .i64 P, .int .i64 Q, .int .i64 G] _
  have hgGA : B0 ≤ GA := by omega
  have hGAu1 : u1.heap.size ≤ GA := by omega
  go_wp2_with fail
  rw [← hu2, ← hGA]
  replace HX2 := Lib.hid (HX2.out.below hbV)
  replace HX5 := Lib.hid (HX5.out.below hbV)
  replace HU := Lib.hid (HU.out.trans (hbV.mono HU.out.size))
  replace HBw := Lib.hid (HBw.out.trans (hbV.mono HBw.out.size))
  replace HC := Lib.hid (HC.out.keep hbV)
  have HAG : Hid (Agr B0 u1 u2) := (Agr.refl _ _).below hbV
  have hs2 := hbV.size
  have hGA2 := HZ1.out.lt
  clear hu2 hGA hbV
  try (go_wp2_with fail)
  refine (spec_CombineKey ⟨P, Q, G⟩ _ l _ anl u2 (HLZ.out u2 HAG.out.1 HAG.out.2) (HAS.out u2 HAG.out.1 HAG.out.2)).mono ?_
  rintro e u3 ⟨⟨qa, qn, qc, ca, cn, cc, sa, sn, sc, rfl, hq, hcc, hss⟩, hb⟩
  obtain ⟨B1, hB1⟩ : ∃ b, b = u2.heap.size := ⟨_, rfl⟩
  rw [← hB1] at hq hcc hss
  have HOQ := Lib.hid hq
  have HOC := Lib.hid hcc
  have HOS := Lib.hid hss
  have hGB1 : GA < B1 := by omega
  have hs3 := hb.size
  have hB13 : B1 ≤ u3.heap.size := by omega
  replace HX2 := Lib.hid (HX2.out.below hb)
  replace HX5 := Lib.hid (HX5.out.below hb)
  replace HZ1 := Lib.hid (HZ1.out.below hb)
  replace HU := Lib.hid (HU.out.trans (hb.mono HU.out.size))
  replace HBw := Lib.hid (HBw.out.trans (hb.mono HBw.out.size))
  replace HC := Lib.hid (HC.out.keep hb)
  replace HAG := Lib.hid (HAG.out.below hb)
  clear hq hcc hss hb hB1
  obtain ⟨q, hqe⟩ : ∃ q, cbB ⟨P, Q, G⟩ l anl = q := ⟨_, rfl⟩
  rw [hqe]
  have HQE := Lib.hid hqe
  clear hqe
  obtain ⟨Y, hYe⟩ : ∃ z, kgY ⟨P, Q, G⟩ l anl = z := ⟨_, rfl⟩
  rw [hYe]
  clear hYe
  obtain ⟨KA, hKA⟩ : ∃ b, b = u3.heap.size := ⟨_, rfl⟩
  obtain ⟨u4, hu4⟩ : ∃ V, V = u3.alloc (.cells #[.slice qa qn qc, .int .i64 Y, .slice ca cn cc, .slice sa sn sc] 73) := ⟨_, rfl⟩
  have hbV : Below u3.heap.size u3 u4 := by rw [hu4]; exact (Below.refl _ _).alloc (Nat.le_refl _) _
  have HKA : Hid (BoxN u4 KA 73 [.slice qa qn qc, .int .i64 Y, .slice ca cn cc, .slice sa sn sc]) := by unfold Hid; rw [hu4, hKA]; exact BoxN.new u3 [.slice qa qn qc, .int .i64 Y, .slice ca cn cc, .slice sa sn sc] _
  have hKB : B1 ≤ KA := by omega
  have HLQ : Hid (∀ q, (Value.slice qa qn qc).ownBlock = some q → q < KA) := fun q h => by have := HOQ.out.lt q h; omega
  have HLC : Hid (∀ q, (Value.slice ca cn cc).ownBlock = some q → q < KA) := fun q h => by have := HOC.out.lt q h; omega
  have HLS : Hid (∀ q, (Value.slice sa sn sc).ownBlock = some q → q < KA) := fun q h => by have := HOS.out.lt q h; omega
  cases q with
  | false =>
    go_upto_region 14 with fail
    rw [← hu4, ← hKA]
    replace HX2 := Lib.hid (HX2.out.below hbV)
    replace HX5 := Lib.hid (HX5.out.below hbV)
    replace HZ1 := Lib.hid (HZ1.out.below hbV)
    replace HU := Lib.hid (HU.out.trans (hbV.mono HU.out.size))
    replace HBw := Lib.hid (HBw.out.trans (hbV.mono HBw.out.size))
    replace HC := Lib.hid (HC.out.keep hbV)
    replace HAG := Lib.hid (HAG.out.below hbV)
    replace HOQ := Lib.hid (HOQ.out.below hbV)
    replace HOC := Lib.hid (HOC.out.below hbV)
    replace HOS := Lib.hid (HOS.out.below hbV)
    have hs4 := hbV.size
    clear hu4 hKA hbV
    have HSQ : Hid (Since B1 u4 (fun z => Ints z (.slice qa qn qc) (kgQ ⟨P, Q, G⟩ l anl))) := Since.of_ownI HOQ.out (Nat.le_refl _)
    have HSC : Hid (Since B1 u4 (fun z => Ints z (.slice ca cn cc) (kgD ⟨P, Q, G⟩ l anl).c)) := Since.of_ownI HOC.out (Nat.le_refl _)
    have HSS : Hid (Since B1 u4 (fun z => Ints z (.slice sa sn sc) (kgD ⟨P, Q, G⟩ l anl).s)) := Since.of_ownI HOS.out (Nat.le_refl _)
    have z0 := HZ1.out.cell (i := 0) rfl
    have z1 := HZ1.out.cell (i := 1) rfl
    have z2 := HZ1.out.cell (i := 2) rfl
    have k0 := HKA.out.cell (i := 0) rfl
    have k1 := HKA.out.cell (i := 1) rfl
    have k2 := HKA.out.cell (i := 2) rfl
    have k3 := HKA.out.cell (i := 3) rfl
    have hGAu := HZ1.out.lt
    have hKAu := HKA.out.lt
    refine wp_region_noPanic ?_
    refine wp_region_V (fun w' => w'.cell? ⟨GA, 0, none⟩ = some (.int .i64 P) ∧ w'.cell? ⟨GA, 1, none⟩ = some (.int .i64 Q) ∧ w'.cell? ⟨GA, 2, none⟩ = some (.int .i64 G) ∧ w'.cell? ⟨KA, 0, none⟩ = some (.slice qa qn qc) ∧ w'.cell? ⟨KA, 1, none⟩ = some (.int .i64 Y) ∧ w'.cell? ⟨KA, 2, none⟩ = some (.slice ca cn cc) ∧ w'.cell? ⟨KA, 3, none⟩ = some (.slice sa sn sc)) 10 8 (.rd 0 (.rd 1 (.rd 2 (.rd 3 (.alt 4 (.alt 5 (.alt 6 (.alt 7 .done .nil) .nil) .nil) .nil))))) [] (by kernel_rfl) (by kernel_rfl) rfl (fun _ _ _ _ _ h => h) ⟨box_at z0 (Below.refl _ _).drew, box_at z1 (Below.refl _ _).drew, box_at z2 (Below.refl _ _).drew, box_at k0 (Below.refl _ _).drew, box_at k1 (Below.refl _ _).drew, box_at k2 (Below.refl _ _).drew, box_at k3 (Below.refl _ _).drew⟩ ?_
    simp only [pickV, pickN, List.getElem?_cons_zero, List.getElem?_cons_succ]
    repeat (refine' wpV_read _ (by kernel_rfl) (fun w' hS' => ?_) ?_; rotate_left; (focus ((try dsimp only at hS'); go_simp; (try with_reducible rfl))); (try simp only [Act.put, List.setIfInBounds_toArray, List.set_cons_zero, List.set_cons_succ]))
    have hdr : Below u4.heap.size u4 u4.drew := (Below.refl _ _).drew
    have HBD : Hid (Below w.heap.size w u4.drew) := HBw.out.trans (hdr.mono HBw.out.size)
    have HAD := Lib.hid (HAG.out.below hdr)
    have HX2D := Lib.hid (HX2.out.below hdr)
    have HX5D := Lib.hid (HX5.out.below hdr)
    have HZ1D := Lib.hid (HZ1.out.below hdr)
    have HKAD := Lib.hid (HKA.out.below hdr)
    have HSQD := Lib.hid (HSQ.out.below hdr)
    have HSCD := Lib.hid (HSC.out.below hdr)
    have HSSD := Lib.hid (HSS.out.below hdr)
    have hszd := hdr.size
    clear hdr
    refine wpV_do (by kernel_rfl) (fun K hK => ?_)
    have r0 := HX2D.out.cell (i := 0) rfl
    have r1 := HX2D.out.cell (i := 1) rfl
    have r2 := HX2D.out.cell (i := 2) rfl
    have fr := fun j => HX2D.out.frozen j
    have q0 : u4.cell? ⟨w.heap.size, 0, none⟩ = some (.int .i64 0) := r0
    have q1 : u4.cell? ⟨w.heap.size, 1, none⟩ = some (.int .i64 0) := r1
    have q2 : u4.cell? ⟨w.heap.size, 2, none⟩ = some (.int .i64 0) := r2
    have frd : ∀ j, u4.frozen? ⟨w.heap.size, j, none⟩ = false := fr
    obtain ⟨Y1, hY⟩ : ∃ Z, Z = (((u4.setCell ⟨w.heap.size, 0, none⟩ (.int .i64 P)).setCell ⟨w.heap.size, 1, none⟩ (.int .i64 Q)).setCell ⟨w.heap.size, 2, none⟩ (.int .i64 G)).drew := ⟨_, rfl⟩
    have hYG := hY
    replace hY : Y1 = ((u4.drew.setCell ⟨w.heap.size, 0, none⟩ (.int .i64 P)).setCell ⟨w.heap.size, 1, none⟩ (.int .i64 Q)).setCell ⟨w.heap.size, 2, none⟩ (.int .i64 G) := by rw [hY]; first | rfl | simp [go_sem]
    have HYW : Hid (Within w.heap.size (w.heap.size + 1) u4.drew Y1) := by unfold Hid; rw [hY]; exact ((((Within.refl (w.heap.size) (w.heap.size + 1) u4.drew).setCell (b := w.heap.size) (by omega) (by omega) 0 (.int .i64 P)).setCell (b := w.heap.size) (by omega) (by omega) 1 (.int .i64 Q)).setCell (b := w.heap.size) (by omega) (by omega) 2 (.int .i64 G))
    have HX2Y : Hid (BoxN Y1 w.heap.size 24 [.int .i64 P, .int .i64 Q, .int .i64 G]) := by unfold Hid; rw [hY]; exact (((HX2D.out.set 0 (.int .i64 P)).set 1 (.int .i64 Q)).set 2 (.int .i64 G))
    have HX5Y := Lib.hid (HX5D.out.kept HYW.out (.inr (by omega)))
    have HZ1Y := Lib.hid (HZ1D.out.kept HYW.out (.inr (by omega)))
    have HKAY := Lib.hid (HKAD.out.kept HYW.out (.inr (by omega)))
    have HSY : Hid ((fun w' => w'.cell? ⟨GA, 0, none⟩ = some (.int .i64 P) ∧ w'.cell? ⟨GA, 1, none⟩ = some (.int .i64 Q) ∧ w'.cell? ⟨GA, 2, none⟩ = some (.int .i64 G) ∧ w'.cell? ⟨KA, 0, none⟩ = some (.slice qa qn qc) ∧ w'.cell? ⟨KA, 1, none⟩ = some (.int .i64 Y) ∧ w'.cell? ⟨KA, 2, none⟩ = some (.slice ca cn cc) ∧ w'.cell? ⟨KA, 3, none⟩ = some (.slice sa sn sc)) Y1) := ⟨HZ1Y.out.cell (i := 0) rfl, HZ1Y.out.cell (i := 1) rfl, HZ1Y.out.cell (i := 2) rfl, HKAY.out.cell (i := 0) rfl, HKAY.out.cell (i := 1) rfl, HKAY.out.cell (i := 2) rfl, HKAY.out.cell (i := 3) rfl⟩
    go_simp
    refine hK.out _ _ ?_ (fun _ => ?_)
    · rw [← hYG]; exact HSY.out
    rw [← hYG]
    clear hK K fr r0 r1 r2 hYG frd q0 q1 q2 hY z0 z1 z2 k0 k1 k2 k3
    (try simp only [Act.put, List.setIfInBounds_toArray, List.set_cons_zero, List.set_cons_succ])
    refine wpV_do (by kernel_rfl) (fun K hK => ?_)
    go_simp
    refine hK.out _ _ HSY.out (fun _ => ?_)
    clear hK K
    (try simp only [Act.put, List.setIfInBounds_toArray, List.set_cons_zero, List.set_cons_succ])
    refine wpV_do (by kernel_rfl) (fun K hK => ?_)
    go_simp
    refine hK.out _ _ HSY.out (fun _ => ?_)
    clear hK K
    (try simp only [Act.put, List.setIfInBounds_toArray, List.set_cons_zero, List.set_cons_succ])
    refine wpV_do (by kernel_rfl) (fun K hK => ?_)
    have r0 := HX5Y.out.cell (i := 0) rfl
    have r1 := HX5Y.out.cell (i := 1) rfl
    have r2 := HX5Y.out.cell (i := 2) rfl
    have r3 := HX5Y.out.cell (i := 3) rfl
    have fr := fun j => HX5Y.out.frozen j
    obtain ⟨Y2, hY⟩ : ∃ Z, Z = (((Y1.setCell ⟨w.heap.size + 1, 0, none⟩ (.slice qa qn qc)).setCell ⟨w.heap.size + 1, 1, none⟩ (.int .i64 Y)).setCell ⟨w.heap.size + 1, 2, none⟩ (.slice ca cn cc)).setCell ⟨w.heap.size + 1, 3, none⟩ (.slice sa sn sc) := ⟨_, rfl⟩
    have HYW2 : Hid (Within (w.heap.size + 1) (w.heap.size + 1 + 1) Y1 Y2) := by unfold Hid; rw [hY]; exact ((((Within.refl (w.heap.size + 1) (w.heap.size + 1 + 1) Y1).setCell (b := w.heap.size + 1) (by omega) (by omega) 0 (.slice qa qn qc)).setCell (b := w.heap.size + 1) (by omega) (by omega) 1 (.int .i64 Y)).setCell (b := w.heap.size + 1) (by omega) (by omega) 2 (.slice ca cn cc)).setCell (b := w.heap.size + 1) (by omega) (by omega) 3 (.slice sa sn sc)
    have HX5Z : Hid (BoxN Y2 (w.heap.size + 1) 73 [.slice qa qn qc, .int .i64 Y, .slice ca cn cc, .slice sa sn sc]) := by unfold Hid; rw [hY]; exact ((((HX5Y.out.set 0 (.slice qa qn qc)).set 1 (.int .i64 Y)).set 2 (.slice ca cn cc)).set 3 (.slice sa sn sc))
    have HX2Z := Lib.hid (HX2Y.out.kept HYW2.out (.inl (by omega)))
    have HZ1Z := Lib.hid (HZ1Y.out.kept HYW2.out (.inr (by omega)))
    have HKAZ := Lib.hid (HKAY.out.kept HYW2.out (.inr (by omega)))
    have HSZ : Hid ((fun w' => w'.cell? ⟨GA, 0, none⟩ = some (.int .i64 P) ∧ w'.cell? ⟨GA, 1, none⟩ = some (.int .i64 Q) ∧ w'.cell? ⟨GA, 2, none⟩ = some (.int .i64 G) ∧ w'.cell? ⟨KA, 0, none⟩ = some (.slice qa qn qc) ∧ w'.cell? ⟨KA, 1, none⟩ = some (.int .i64 Y) ∧ w'.cell? ⟨KA, 2, none⟩ = some (.slice ca cn cc) ∧ w'.cell? ⟨KA, 3, none⟩ = some (.slice sa sn sc)) Y2) := ⟨HZ1Z.out.cell (i := 0) rfl, HZ1Z.out.cell (i := 1) rfl, HZ1Z.out.cell (i := 2) rfl, HKAZ.out.cell (i := 0) rfl, HKAZ.out.cell (i := 1) rfl, HKAZ.out.cell (i := 2) rfl, HKAZ.out.cell (i := 3) rfl⟩
    go_simp
    refine hK.out _ _ ?_ (fun _ => ?_)
    · rw [← hY]; exact HSZ.out
    rw [← hY]
    clear hK K fr r0 r1 r2 r3 hY
    (try simp only [Act.put, List.setIfInBounds_toArray, List.set_cons_zero, List.set_cons_succ])
    refine wpV_done ?_
    go_wp2_with fail
    refine NoPanic.normal ?_
    have x0 := HX2Z.out.cell (i := 0) rfl
    have x1 := HX2Z.out.cell (i := 1) rfl
    have x2 := HX2Z.out.cell (i := 2) rfl
    have y0 := HX5Z.out.cell (i := 0) rfl
    have y1 := HX5Z.out.cell (i := 1) rfl
    have y2 := HX5Z.out.cell (i := 2) rfl
    have y3 := HX5Z.out.cell (i := 3) rfl
    try (go_wp2_with fail)
    have HAZ : Hid (Agr B0 u1 Y2) := (HAD.out.within HYW.out (by omega)).within HYW2.out (by omega)
    have HBZ : Hid (Below w.heap.size w Y2) := (HBD.out.trans (HYW.out.below HBD.out.size (Nat.le_refl _))).trans (HYW2.out.below (by have := HYW.out.size; have := HBD.out.size; omega) (by omega))
    refine bodyPost_ret (v := .tuple #[.agg #[.int .i64 P, .int .i64 Q, .int .i64 G], .slice la ln lc, .slice aa an ac, .agg #[.slice qa qn qc, .int .i64 Y, .slice ca cn cc, .slice sa sn sc]]) (by simp [results, Try.results37, go_sem, x0, x1, x2, y0, y1, y2, y3]) rfl ⟨⟨P, Q, G, _, l, _, anl, _, _, _, _, _, _, _, rfl, HGR.out, HLZ.out Y2 HAZ.out.1 HAZ.out.2, HAS.out Y2 HAZ.out.1 HAZ.out.2, ((HSQD.out.within HYW.out (by omega)).within HYW2.out (by omega)).here, ((HSCD.out.within HYW.out (by omega)).within HYW2.out (by omega)).here, ((HSSD.out.within HYW.out (by omega)).within HYW2.out (by omega)).here⟩, HBZ.out⟩
  | true =>
  have HPS := Lib.hid (kg_pos HQE.out)
  go_wp2_with fail
  rw [← hu4, ← hKA]
  replace HX2 := Lib.hid (HX2.out.below hbV)
  replace HX5 := Lib.hid (HX5.out.below hbV)
  replace HZ1 := Lib.hid (HZ1.out.below hbV)
  replace HU := Lib.hid (HU.out.trans (hbV.mono HU.out.size))
  replace HBw := Lib.hid (HBw.out.trans (hbV.mono HBw.out.size))
  replace HC := Lib.hid (HC.out.keep hbV)
  replace HAG := Lib.hid (HAG.out.below hbV)
  replace HOQ := Lib.hid (HOQ.out.below hbV)
  replace HOC := Lib.hid (HOC.out.below hbV)
  replace HOS := Lib.hid (HOS.out.below hbV)
  have hs4 := hbV.size
  have hKA4 := HKA.out.lt
  clear hu4 hKA hbV
  try (go_wp2_with fail)
  refine (spec_pick U g _ 8 _ HC.out HU.out (by omega)).mono ?_
  rintro e u5 ⟨⟨x5, rfl, x50, _, x5m, _⟩, hc, hw⟩
  replace x5m := x5m (by omega)
  have hs_u5 := hw.size
  replace HX2 := Lib.hid (HX2.out.kept hw (.inl (by omega)))
  replace HX5 := Lib.hid (HX5.out.kept hw (.inl (by omega)))
  replace HZ1 := Lib.hid (HZ1.out.kept hw (.inr (by omega)))
  replace HKA := Lib.hid (HKA.out.kept hw (.inr (by omega)))
  replace HU := Lib.hid (hw.belowOf HU.out (Nat.le_of_eq HUS.out))
  replace HBw := Lib.hid (hw.belowOf HBw.out (by omega))
  replace HAG := Lib.hid (HAG.out.within hw (by omega))
  replace HOQ := Lib.hid (HOQ.out.within hw (by omega))
  replace HOC := Lib.hid (HOC.out.within hw (by omega))
  replace HOS := Lib.hid (HOS.out.within hw (by omega))
  replace HC := Lib.hid (hc.mono (n' := 3000) (by omega))
  clear hc hw
  have hgu5 : g < u5.heap.size := HC.out.lt
  have hga5 := HZ1.out.lt
  have hka5 := HKA.out.lt
  have hQN : Hid ((kgQ ⟨P, Q, G⟩ l anl).length = qn) := HOQ.out.ints.len
  have hCN : Hid ((kgD ⟨P, Q, G⟩ l anl).c.length = cn) := HOC.out.ints.len
  have hSN : Hid ((kgD ⟨P, Q, G⟩ l anl).s.length = sn) := HOS.out.ints.len
  have hqn1 : 1 ≤ qn := by have := HPS.out; have := hQN.out; omega
  have hcn1 : 1 ≤ cn ∧ cn ≤ 7 := by have := HPS.out; have := hCN.out; omega
  have hsn1 : 1 ≤ sn ∧ sn ≤ 7 := by have := HPS.out; have := hSN.out; omega
  rcases (by omega : x5 = 0 ∨ x5 = 1 ∨ x5 = 2 ∨ x5 = 3 ∨ (x5 ≠ 0 ∧ x5 ≠ 1 ∧ x5 ≠ 2 ∧ x5 ≠ 3)) with rfl | rfl | rfl | rfl | ⟨i0, i1, i2, i3⟩
  · obtain ⟨ad, hrun, hsl⟩ := sl_dropU (a := qa) (n := qn) (c := qc) (x := 1) (k := 1) rfl (by omega)
    obtain ⟨u7, hu7⟩ : ∃ V, V = u5.setCell ⟨KA, 0, none⟩ (.slice ad (qn - 1) (qc - 1)) := ⟨_, rfl⟩
    have HKW : Hid (Within KA (KA + 1) u5 u7) := by unfold Hid; rw [hu7]; exact (Within.refl KA (KA + 1) u5).setCell (b := KA) (by omega) (by omega) 0 (.slice ad (qn - 1) (qc - 1))
    have hf := fun j => HKA.out.frozen j
    have kc0 := HKA.out.cell (i := 0) rfl
    have kc1 := HKA.out.cell (i := 1) rfl
    go_upto_region 14 with fail
    rw [← hu7]
    clear hf kc0 kc1
    replace HKA : Hid (BoxN u7 KA 73 [.slice ad (qn - 1) (qc - 1), .int .i64 Y, .slice ca cn cc, .slice sa sn sc]) := by unfold Hid; rw [hu7]; exact HKA.out.set 0 (.slice ad (qn - 1) (qc - 1))
    clear hu7
    have hw := HKW.out
    replace HX2 := Lib.hid (HX2.out.kept hw (.inl (by omega)))
    replace HX5 := Lib.hid (HX5.out.kept hw (.inl (by omega)))
    replace HZ1 := Lib.hid (HZ1.out.kept hw (.inl (by omega)))
    replace HBw := Lib.hid (HBw.out.trans (hw.below HBw.out.size (by omega)))
    replace HAG : Hid (Agr B0 u1 u7) := ⟨Nat.le_trans HAG.out.1 hw.size, fun k hk hlt => (hw.block k (Nat.lt_of_lt_of_le hlt HAG.out.1) (.inl (by omega))).trans (HAG.out.2 k hk hlt)⟩
    have hkeep : ∀ {v : Value} {lx : List Int}, OwnI u5 B1 v lx → (∀ q, v.ownBlock = some q → q < KA) → OwnI u7 B1 v lx := fun {v lx} h hq => h.kept (row := some KA) ⟨hw.os, hw.tape, hw.output, hw.size, fun k hk hne => hw.block k hk (by have : k ≠ KA := fun e => hne (by rw [e]); omega)⟩ (by
      cases e : v.ownBlock with
      | none => exact .inl rfl
      | some q => exact .inr fun e2 => by have := hq q e; cases e2; omega)
    replace HOQ := Lib.hid (hkeep HOQ.out HLQ.out)
    replace HOC := Lib.hid (hkeep HOC.out HLC.out)
    replace HOS := Lib.hid (hkeep HOS.out HLS.out)
    clear hw hkeep HKW
    have HSQ : Hid (Since B1 u7 (fun z => Ints z (.slice qa qn qc) (kgQ ⟨P, Q, G⟩ l anl))) := Since.of_ownI HOQ.out (Nat.le_refl _)
    have HSC : Hid (Since B1 u7 (fun z => Ints z (.slice ca cn cc) (kgD ⟨P, Q, G⟩ l anl).c)) := Since.of_ownI HOC.out (Nat.le_refl _)
    have HSS : Hid (Since B1 u7 (fun z => Ints z (.slice sa sn sc) (kgD ⟨P, Q, G⟩ l anl).s)) := Since.of_ownI HOS.out (Nat.le_refl _)
    replace HSQ : Hid (Since B1 u7 (fun z => Ints z (.slice ad (qn - 1) (qc - 1)) (List.drop 1 (kgQ ⟨P, Q, G⟩ l anl)))) := fun u hs hb => hsl u _ (HSQ.out u hs hb)
    clear hsl
    have z0 := HZ1.out.cell (i := 0) rfl
    have z1 := HZ1.out.cell (i := 1) rfl
    have z2 := HZ1.out.cell (i := 2) rfl
    have k0 := HKA.out.cell (i := 0) rfl
    have k1 := HKA.out.cell (i := 1) rfl
    have k2 := HKA.out.cell (i := 2) rfl
    have k3 := HKA.out.cell (i := 3) rfl
    have hGAu := HZ1.out.lt
    have hKAu := HKA.out.lt
    refine wp_region_noPanic ?_
    refine wp_region_V (fun w' => w'.cell? ⟨GA, 0, none⟩ = some (.int .i64 P) ∧ w'.cell? ⟨GA, 1, none⟩ = some (.int .i64 Q) ∧ w'.cell? ⟨GA, 2, none⟩ = some (.int .i64 G) ∧ w'.cell? ⟨KA, 0, none⟩ = some (.slice ad (qn - 1) (qc - 1)) ∧ w'.cell? ⟨KA, 1, none⟩ = some (.int .i64 Y) ∧ w'.cell? ⟨KA, 2, none⟩ = some (.slice ca cn cc) ∧ w'.cell? ⟨KA, 3, none⟩ = some (.slice sa sn sc)) 10 8 (.rd 0 (.rd 1 (.rd 2 (.rd 3 (.alt 4 (.alt 5 (.alt 6 (.alt 7 .done .nil) .nil) .nil) .nil))))) [] (by kernel_rfl) (by kernel_rfl) rfl (fun _ _ _ _ _ h => h) ⟨box_at z0 (Below.refl _ _).drew, box_at z1 (Below.refl _ _).drew, box_at z2 (Below.refl _ _).drew, box_at k0 (Below.refl _ _).drew, box_at k1 (Below.refl _ _).drew, box_at k2 (Below.refl _ _).drew, box_at k3 (Below.refl _ _).drew⟩ ?_
    simp only [pickV, pickN, List.getElem?_cons_zero, List.getElem?_cons_succ]
    repeat (refine' wpV_read _ (by kernel_rfl) (fun w' hS' => ?_) ?_; rotate_left; (focus ((try dsimp only at hS'); go_simp; (try with_reducible rfl))); (try simp only [Act.put, List.setIfInBounds_toArray, List.set_cons_zero, List.set_cons_succ]))
    have hdr : Below u7.heap.size u7 u7.drew := (Below.refl _ _).drew
    have HBD : Hid (Below w.heap.size w u7.drew) := HBw.out.trans (hdr.mono HBw.out.size)
    have HAD := Lib.hid (HAG.out.below hdr)
    have HX2D := Lib.hid (HX2.out.below hdr)
    have HX5D := Lib.hid (HX5.out.below hdr)
    have HZ1D := Lib.hid (HZ1.out.below hdr)
    have HKAD := Lib.hid (HKA.out.below hdr)
    have HSQD := Lib.hid (HSQ.out.below hdr)
    have HSCD := Lib.hid (HSC.out.below hdr)
    have HSSD := Lib.hid (HSS.out.below hdr)
    have hszd := hdr.size
    clear hdr
    refine wpV_do (by kernel_rfl) (fun K hK => ?_)
    have r0 := HX2D.out.cell (i := 0) rfl
    have r1 := HX2D.out.cell (i := 1) rfl
    have r2 := HX2D.out.cell (i := 2) rfl
    have fr := fun j => HX2D.out.frozen j
    have q0 : u7.cell? ⟨w.heap.size, 0, none⟩ = some (.int .i64 0) := r0
    have q1 : u7.cell? ⟨w.heap.size, 1, none⟩ = some (.int .i64 0) := r1
    have q2 : u7.cell? ⟨w.heap.size, 2, none⟩ = some (.int .i64 0) := r2
    have frd : ∀ j, u7.frozen? ⟨w.heap.size, j, none⟩ = false := fr
    obtain ⟨Y1, hY⟩ : ∃ Z, Z = (((u7.setCell ⟨w.heap.size, 0, none⟩ (.int .i64 P)).setCell ⟨w.heap.size, 1, none⟩ (.int .i64 Q)).setCell ⟨w.heap.size, 2, none⟩ (.int .i64 G)).drew := ⟨_, rfl⟩
    have hYG := hY
    replace hY : Y1 = ((u7.drew.setCell ⟨w.heap.size, 0, none⟩ (.int .i64 P)).setCell ⟨w.heap.size, 1, none⟩ (.int .i64 Q)).setCell ⟨w.heap.size, 2, none⟩ (.int .i64 G) := by rw [hY]; first | rfl | simp [go_sem]
    have HYW : Hid (Within w.heap.size (w.heap.size + 1) u7.drew Y1) := by unfold Hid; rw [hY]; exact ((((Within.refl (w.heap.size) (w.heap.size + 1) u7.drew).setCell (b := w.heap.size) (by omega) (by omega) 0 (.int .i64 P)).setCell (b := w.heap.size) (by omega) (by omega) 1 (.int .i64 Q)).setCell (b := w.heap.size) (by omega) (by omega) 2 (.int .i64 G))
    have HX2Y : Hid (BoxN Y1 w.heap.size 24 [.int .i64 P, .int .i64 Q, .int .i64 G]) := by unfold Hid; rw [hY]; exact (((HX2D.out.set 0 (.int .i64 P)).set 1 (.int .i64 Q)).set 2 (.int .i64 G))
    have HX5Y := Lib.hid (HX5D.out.kept HYW.out (.inr (by omega)))
    have HZ1Y := Lib.hid (HZ1D.out.kept HYW.out (.inr (by omega)))
    have HKAY := Lib.hid (HKAD.out.kept HYW.out (.inr (by omega)))
    have HSY : Hid ((fun w' => w'.cell? ⟨GA, 0, none⟩ = some (.int .i64 P) ∧ w'.cell? ⟨GA, 1, none⟩ = some (.int .i64 Q) ∧ w'.cell? ⟨GA, 2, none⟩ = some (.int .i64 G) ∧ w'.cell? ⟨KA, 0, none⟩ = some (.slice ad (qn - 1) (qc - 1)) ∧ w'.cell? ⟨KA, 1, none⟩ = some (.int .i64 Y) ∧ w'.cell? ⟨KA, 2, none⟩ = some (.slice ca cn cc) ∧ w'.cell? ⟨KA, 3, none⟩ = some (.slice sa sn sc)) Y1) := ⟨HZ1Y.out.cell (i := 0) rfl, HZ1Y.out.cell (i := 1) rfl, HZ1Y.out.cell (i := 2) rfl, HKAY.out.cell (i := 0) rfl, HKAY.out.cell (i := 1) rfl, HKAY.out.cell (i := 2) rfl, HKAY.out.cell (i := 3) rfl⟩
    go_simp
    refine hK.out _ _ ?_ (fun _ => ?_)
    · rw [← hYG]; exact HSY.out
    rw [← hYG]
    clear hK K fr r0 r1 r2 hYG frd q0 q1 q2 hY z0 z1 z2 k0 k1 k2 k3
    (try simp only [Act.put, List.setIfInBounds_toArray, List.set_cons_zero, List.set_cons_succ])
    refine wpV_do (by kernel_rfl) (fun K hK => ?_)
    go_simp
    refine hK.out _ _ HSY.out (fun _ => ?_)
    clear hK K
    (try simp only [Act.put, List.setIfInBounds_toArray, List.set_cons_zero, List.set_cons_succ])
    refine wpV_do (by kernel_rfl) (fun K hK => ?_)
    go_simp
    refine hK.out _ _ HSY.out (fun _ => ?_)
    clear hK K
    (try simp only [Act.put, List.setIfInBounds_toArray, List.set_cons_zero, List.set_cons_succ])
    refine wpV_do (by kernel_rfl) (fun K hK => ?_)
    have r0 := HX5Y.out.cell (i := 0) rfl
    have r1 := HX5Y.out.cell (i := 1) rfl
    have r2 := HX5Y.out.cell (i := 2) rfl
    have r3 := HX5Y.out.cell (i := 3) rfl
    have fr := fun j => HX5Y.out.frozen j
    obtain ⟨Y2, hY⟩ : ∃ Z, Z = (((Y1.setCell ⟨w.heap.size + 1, 0, none⟩ (.slice ad (qn - 1) (qc - 1))).setCell ⟨w.heap.size + 1, 1, none⟩ (.int .i64 Y)).setCell ⟨w.heap.size + 1, 2, none⟩ (.slice ca cn cc)).setCell ⟨w.heap.size + 1, 3, none⟩ (.slice sa sn sc) := ⟨_, rfl⟩
    have HYW2 : Hid (Within (w.heap.size + 1) (w.heap.size + 1 + 1) Y1 Y2) := by unfold Hid; rw [hY]; exact ((((Within.refl (w.heap.size + 1) (w.heap.size + 1 + 1) Y1).setCell (b := w.heap.size + 1) (by omega) (by omega) 0 (.slice ad (qn - 1) (qc - 1))).setCell (b := w.heap.size + 1) (by omega) (by omega) 1 (.int .i64 Y)).setCell (b := w.heap.size + 1) (by omega) (by omega) 2 (.slice ca cn cc)).setCell (b := w.heap.size + 1) (by omega) (by omega) 3 (.slice sa sn sc)
    have HX5Z : Hid (BoxN Y2 (w.heap.size + 1) 73 [.slice ad (qn - 1) (qc - 1), .int .i64 Y, .slice ca cn cc, .slice sa sn sc]) := by unfold Hid; rw [hY]; exact ((((HX5Y.out.set 0 (.slice ad (qn - 1) (qc - 1))).set 1 (.int .i64 Y)).set 2 (.slice ca cn cc)).set 3 (.slice sa sn sc))
    have HX2Z := Lib.hid (HX2Y.out.kept HYW2.out (.inl (by omega)))
    have HZ1Z := Lib.hid (HZ1Y.out.kept HYW2.out (.inr (by omega)))
    have HKAZ := Lib.hid (HKAY.out.kept HYW2.out (.inr (by omega)))
    have HSZ : Hid ((fun w' => w'.cell? ⟨GA, 0, none⟩ = some (.int .i64 P) ∧ w'.cell? ⟨GA, 1, none⟩ = some (.int .i64 Q) ∧ w'.cell? ⟨GA, 2, none⟩ = some (.int .i64 G) ∧ w'.cell? ⟨KA, 0, none⟩ = some (.slice ad (qn - 1) (qc - 1)) ∧ w'.cell? ⟨KA, 1, none⟩ = some (.int .i64 Y) ∧ w'.cell? ⟨KA, 2, none⟩ = some (.slice ca cn cc) ∧ w'.cell? ⟨KA, 3, none⟩ = some (.slice sa sn sc)) Y2) := ⟨HZ1Z.out.cell (i := 0) rfl, HZ1Z.out.cell (i := 1) rfl, HZ1Z.out.cell (i := 2) rfl, HKAZ.out.cell (i := 0) rfl, HKAZ.out.cell (i := 1) rfl, HKAZ.out.cell (i := 2) rfl, HKAZ.out.cell (i := 3) rfl⟩
    go_simp
    refine hK.out _ _ ?_ (fun _ => ?_)
    · rw [← hY]; exact HSZ.out
    rw [← hY]
    clear hK K fr r0 r1 r2 r3 hY
    (try simp only [Act.put, List.setIfInBounds_toArray, List.set_cons_zero, List.set_cons_succ])
    refine wpV_done ?_
    go_wp2_with fail
    refine NoPanic.normal ?_
    have x0 := HX2Z.out.cell (i := 0) rfl
    have x1 := HX2Z.out.cell (i := 1) rfl
    have x2 := HX2Z.out.cell (i := 2) rfl
    have y0 := HX5Z.out.cell (i := 0) rfl
    have y1 := HX5Z.out.cell (i := 1) rfl
    have y2 := HX5Z.out.cell (i := 2) rfl
    have y3 := HX5Z.out.cell (i := 3) rfl
    try (go_wp2_with fail)
    have HAZ : Hid (Agr B0 u1 Y2) := (HAD.out.within HYW.out (by omega)).within HYW2.out (by omega)
    have HBZ : Hid (Below w.heap.size w Y2) := (HBD.out.trans (HYW.out.below HBD.out.size (Nat.le_refl _))).trans (HYW2.out.below (by have := HYW.out.size; have := HBD.out.size; omega) (by omega))
    refine bodyPost_ret (v := .tuple #[.agg #[.int .i64 P, .int .i64 Q, .int .i64 G], .slice la ln lc, .slice aa an ac, .agg #[.slice ad (qn - 1) (qc - 1), .int .i64 Y, .slice ca cn cc, .slice sa sn sc]]) (by simp [results, Try.results37, go_sem, x0, x1, x2, y0, y1, y2, y3]) rfl ⟨⟨P, Q, G, _, l, _, anl, _, _, _, _, _, _, _, rfl, HGR.out, HLZ.out Y2 HAZ.out.1 HAZ.out.2, HAS.out Y2 HAZ.out.1 HAZ.out.2, ((HSQD.out.within HYW.out (by omega)).within HYW2.out (by omega)).here, ((HSCD.out.within HYW.out (by omega)).within HYW2.out (by omega)).here, ((HSSD.out.within HYW.out (by omega)).within HYW2.out (by omega)).here⟩, HBZ.out⟩
  · have z0 := HZ1.out.cell (i := 0) rfl
    have z1 := HZ1.out.cell (i := 1) rfl
    have z2 := HZ1.out.cell (i := 2) rfl
    go_wp2_with fail
    refine (spec_element U g _ P Q G _ HC.out HU.out (by omega) HGR.out).mono ?_
    rintro e u6 ⟨⟨xe, rfl, xe0, xe1⟩, hc, hw⟩
    have hs_u6 := hw.size
    replace HX2 := Lib.hid (HX2.out.kept hw (.inl (by omega)))
    replace HX5 := Lib.hid (HX5.out.kept hw (.inl (by omega)))
    replace HZ1 := Lib.hid (HZ1.out.kept hw (.inr (by omega)))
    replace HKA := Lib.hid (HKA.out.kept hw (.inr (by omega)))
    replace HU := Lib.hid (hw.belowOf HU.out (Nat.le_of_eq HUS.out))
    replace HBw := Lib.hid (hw.belowOf HBw.out (by omega))
    replace HAG := Lib.hid (HAG.out.within hw (by omega))
    replace HOQ := Lib.hid (HOQ.out.within hw (by omega))
    replace HOC := Lib.hid (HOC.out.within hw (by omega))
    replace HOS := Lib.hid (HOS.out.within hw (by omega))
    clear hc hw z0 z1 z2
    have hga6 := HZ1.out.lt
    have hka6 := HKA.out.lt
    obtain ⟨u7, hu7⟩ : ∃ V, V = u6.setCell ⟨KA, 1, none⟩ (.int .i64 xe) := ⟨_, rfl⟩
    have HKW : Hid (Within KA (KA + 1) u6 u7) := by unfold Hid; rw [hu7]; exact (Within.refl KA (KA + 1) u6).setCell (b := KA) (by omega) (by omega) 1 (.int .i64 xe)
    have hf := fun j => HKA.out.frozen j
    have kc0 := HKA.out.cell (i := 0) rfl
    have kc1 := HKA.out.cell (i := 1) rfl
    go_upto_region 14 with fail
    rw [← hu7]
    clear hf kc0 kc1
    replace HKA : Hid (BoxN u7 KA 73 [.slice qa qn qc, .int .i64 xe, .slice ca cn cc, .slice sa sn sc]) := by unfold Hid; rw [hu7]; exact HKA.out.set 1 (.int .i64 xe)
    clear hu7
    have hw := HKW.out
    replace HX2 := Lib.hid (HX2.out.kept hw (.inl (by omega)))
    replace HX5 := Lib.hid (HX5.out.kept hw (.inl (by omega)))
    replace HZ1 := Lib.hid (HZ1.out.kept hw (.inl (by omega)))
    replace HBw := Lib.hid (HBw.out.trans (hw.below HBw.out.size (by omega)))
    replace HAG : Hid (Agr B0 u1 u7) := ⟨Nat.le_trans HAG.out.1 hw.size, fun k hk hlt => (hw.block k (Nat.lt_of_lt_of_le hlt HAG.out.1) (.inl (by omega))).trans (HAG.out.2 k hk hlt)⟩
    have hkeep : ∀ {v : Value} {lx : List Int}, OwnI u6 B1 v lx → (∀ q, v.ownBlock = some q → q < KA) → OwnI u7 B1 v lx := fun {v lx} h hq => h.kept (row := some KA) ⟨hw.os, hw.tape, hw.output, hw.size, fun k hk hne => hw.block k hk (by have : k ≠ KA := fun e => hne (by rw [e]); omega)⟩ (by
      cases e : v.ownBlock with
      | none => exact .inl rfl
      | some q => exact .inr fun e2 => by have := hq q e; cases e2; omega)
    replace HOQ := Lib.hid (hkeep HOQ.out HLQ.out)
    replace HOC := Lib.hid (hkeep HOC.out HLC.out)
    replace HOS := Lib.hid (hkeep HOS.out HLS.out)
    clear hw hkeep HKW
    have HSQ : Hid (Since B1 u7 (fun z => Ints z (.slice qa qn qc) (kgQ ⟨P, Q, G⟩ l anl))) := Since.of_ownI HOQ.out (Nat.le_refl _)
    have HSC : Hid (Since B1 u7 (fun z => Ints z (.slice ca cn cc) (kgD ⟨P, Q, G⟩ l anl).c)) := Since.of_ownI HOC.out (Nat.le_refl _)
    have HSS : Hid (Since B1 u7 (fun z => Ints z (.slice sa sn sc) (kgD ⟨P, Q, G⟩ l anl).s)) := Since.of_ownI HOS.out (Nat.le_refl _)
    have z0 := HZ1.out.cell (i := 0) rfl
    have z1 := HZ1.out.cell (i := 1) rfl
    have z2 := HZ1.out.cell (i := 2) rfl
    have k0 := HKA.out.cell (i := 0) rfl
    have k1 := HKA.out.cell (i := 1) rfl
    have k2 := HKA.out.cell (i := 2) rfl
    have k3 := HKA.out.cell (i := 3) rfl
    have hGAu := HZ1.out.lt
    have hKAu := HKA.out.lt
    refine wp_region_noPanic ?_
    refine wp_region_V (fun w' => w'.cell? ⟨GA, 0, none⟩ = some (.int .i64 P) ∧ w'.cell? ⟨GA, 1, none⟩ = some (.int .i64 Q) ∧ w'.cell? ⟨GA, 2, none⟩ = some (.int .i64 G) ∧ w'.cell? ⟨KA, 0, none⟩ = some (.slice qa qn qc) ∧ w'.cell? ⟨KA, 1, none⟩ = some (.int .i64 xe) ∧ w'.cell? ⟨KA, 2, none⟩ = some (.slice ca cn cc) ∧ w'.cell? ⟨KA, 3, none⟩ = some (.slice sa sn sc)) 10 8 (.rd 0 (.rd 1 (.rd 2 (.rd 3 (.alt 4 (.alt 5 (.alt 6 (.alt 7 .done .nil) .nil) .nil) .nil))))) [] (by kernel_rfl) (by kernel_rfl) rfl (fun _ _ _ _ _ h => h) ⟨box_at z0 (Below.refl _ _).drew, box_at z1 (Below.refl _ _).drew, box_at z2 (Below.refl _ _).drew, box_at k0 (Below.refl _ _).drew, box_at k1 (Below.refl _ _).drew, box_at k2 (Below.refl _ _).drew, box_at k3 (Below.refl _ _).drew⟩ ?_
    simp only [pickV, pickN, List.getElem?_cons_zero, List.getElem?_cons_succ]
    repeat (refine' wpV_read _ (by kernel_rfl) (fun w' hS' => ?_) ?_; rotate_left; (focus ((try dsimp only at hS'); go_simp; (try with_reducible rfl))); (try simp only [Act.put, List.setIfInBounds_toArray, List.set_cons_zero, List.set_cons_succ]))
    have hdr : Below u7.heap.size u7 u7.drew := (Below.refl _ _).drew
    have HBD : Hid (Below w.heap.size w u7.drew) := HBw.out.trans (hdr.mono HBw.out.size)
    have HAD := Lib.hid (HAG.out.below hdr)
    have HX2D := Lib.hid (HX2.out.below hdr)
    have HX5D := Lib.hid (HX5.out.below hdr)
    have HZ1D := Lib.hid (HZ1.out.below hdr)
    have HKAD := Lib.hid (HKA.out.below hdr)
    have HSQD := Lib.hid (HSQ.out.below hdr)
    have HSCD := Lib.hid (HSC.out.below hdr)
    have HSSD := Lib.hid (HSS.out.below hdr)
    have hszd := hdr.size
    clear hdr
    refine wpV_do (by kernel_rfl) (fun K hK => ?_)
    have r0 := HX2D.out.cell (i := 0) rfl
    have r1 := HX2D.out.cell (i := 1) rfl
    have r2 := HX2D.out.cell (i := 2) rfl
    have fr := fun j => HX2D.out.frozen j
    have q0 : u7.cell? ⟨w.heap.size, 0, none⟩ = some (.int .i64 0) := r0
    have q1 : u7.cell? ⟨w.heap.size, 1, none⟩ = some (.int .i64 0) := r1
    have q2 : u7.cell? ⟨w.heap.size, 2, none⟩ = some (.int .i64 0) := r2
    have frd : ∀ j, u7.frozen? ⟨w.heap.size, j, none⟩ = false := fr
    obtain ⟨Y1, hY⟩ : ∃ Z, Z = (((u7.setCell ⟨w.heap.size, 0, none⟩ (.int .i64 P)).setCell ⟨w.heap.size, 1, none⟩ (.int .i64 Q)).setCell ⟨w.heap.size, 2, none⟩ (.int .i64 G)).drew := ⟨_, rfl⟩
    have hYG := hY
    replace hY : Y1 = ((u7.drew.setCell ⟨w.heap.size, 0, none⟩ (.int .i64 P)).setCell ⟨w.heap.size, 1, none⟩ (.int .i64 Q)).setCell ⟨w.heap.size, 2, none⟩ (.int .i64 G) := by rw [hY]; first | rfl | simp [go_sem]
    have HYW : Hid (Within w.heap.size (w.heap.size + 1) u7.drew Y1) := by unfold Hid; rw [hY]; exact ((((Within.refl (w.heap.size) (w.heap.size + 1) u7.drew).setCell (b := w.heap.size) (by omega) (by omega) 0 (.int .i64 P)).setCell (b := w.heap.size) (by omega) (by omega) 1 (.int .i64 Q)).setCell (b := w.heap.size) (by omega) (by omega) 2 (.int .i64 G))
    have HX2Y : Hid (BoxN Y1 w.heap.size 24 [.int .i64 P, .int .i64 Q, .int .i64 G]) := by unfold Hid; rw [hY]; exact (((HX2D.out.set 0 (.int .i64 P)).set 1 (.int .i64 Q)).set 2 (.int .i64 G))
    have HX5Y := Lib.hid (HX5D.out.kept HYW.out (.inr (by omega)))
    have HZ1Y := Lib.hid (HZ1D.out.kept HYW.out (.inr (by omega)))
    have HKAY := Lib.hid (HKAD.out.kept HYW.out (.inr (by omega)))
    have HSY : Hid ((fun w' => w'.cell? ⟨GA, 0, none⟩ = some (.int .i64 P) ∧ w'.cell? ⟨GA, 1, none⟩ = some (.int .i64 Q) ∧ w'.cell? ⟨GA, 2, none⟩ = some (.int .i64 G) ∧ w'.cell? ⟨KA, 0, none⟩ = some (.slice qa qn qc) ∧ w'.cell? ⟨KA, 1, none⟩ = some (.int .i64 xe) ∧ w'.cell? ⟨KA, 2, none⟩ = some (.slice ca cn cc) ∧ w'.cell? ⟨KA, 3, none⟩ = some (.slice sa sn sc)) Y1) := ⟨HZ1Y.out.cell (i := 0) rfl, HZ1Y.out.cell (i := 1) rfl, HZ1Y.out.cell (i := 2) rfl, HKAY.out.cell (i := 0) rfl, HKAY.out.cell (i := 1) rfl, HKAY.out.cell (i := 2) rfl, HKAY.out.cell (i := 3) rfl⟩
    go_simp
    refine hK.out _ _ ?_ (fun _ => ?_)
    · rw [← hYG]; exact HSY.out
    rw [← hYG]
    clear hK K fr r0 r1 r2 hYG frd q0 q1 q2 hY z0 z1 z2 k0 k1 k2 k3
    (try simp only [Act.put, List.setIfInBounds_toArray, List.set_cons_zero, List.set_cons_succ])
    refine wpV_do (by kernel_rfl) (fun K hK => ?_)
    go_simp
    refine hK.out _ _ HSY.out (fun _ => ?_)
    clear hK K
    (try simp only [Act.put, List.setIfInBounds_toArray, List.set_cons_zero, List.set_cons_succ])
    refine wpV_do (by kernel_rfl) (fun K hK => ?_)
    go_simp
    refine hK.out _ _ HSY.out (fun _ => ?_)
    clear hK K
    (try simp only [Act.put, List.setIfInBounds_toArray, List.set_cons_zero, List.set_cons_succ])
    refine wpV_do (by kernel_rfl) (fun K hK => ?_)
    have r0 := HX5Y.out.cell (i := 0) rfl
    have r1 := HX5Y.out.cell (i := 1) rfl
    have r2 := HX5Y.out.cell (i := 2) rfl
    have r3 := HX5Y.out.cell (i := 3) rfl
    have fr := fun j => HX5Y.out.frozen j
    obtain ⟨Y2, hY⟩ : ∃ Z, Z = (((Y1.setCell ⟨w.heap.size + 1, 0, none⟩ (.slice qa qn qc)).setCell ⟨w.heap.size + 1, 1, none⟩ (.int .i64 xe)).setCell ⟨w.heap.size + 1, 2, none⟩ (.slice ca cn cc)).setCell ⟨w.heap.size + 1, 3, none⟩ (.slice sa sn sc) := ⟨_, rfl⟩
    have HYW2 : Hid (Within (w.heap.size + 1) (w.heap.size + 1 + 1) Y1 Y2) := by unfold Hid; rw [hY]; exact ((((Within.refl (w.heap.size + 1) (w.heap.size + 1 + 1) Y1).setCell (b := w.heap.size + 1) (by omega) (by omega) 0 (.slice qa qn qc)).setCell (b := w.heap.size + 1) (by omega) (by omega) 1 (.int .i64 xe)).setCell (b := w.heap.size + 1) (by omega) (by omega) 2 (.slice ca cn cc)).setCell (b := w.heap.size + 1) (by omega) (by omega) 3 (.slice sa sn sc)
    have HX5Z : Hid (BoxN Y2 (w.heap.size + 1) 73 [.slice qa qn qc, .int .i64 xe, .slice ca cn cc, .slice sa sn sc]) := by unfold Hid; rw [hY]; exact ((((HX5Y.out.set 0 (.slice qa qn qc)).set 1 (.int .i64 xe)).set 2 (.slice ca cn cc)).set 3 (.slice sa sn sc))
    have HX2Z := Lib.hid (HX2Y.out.kept HYW2.out (.inl (by omega)))
    have HZ1Z := Lib.hid (HZ1Y.out.kept HYW2.out (.inr (by omega)))
    have HKAZ := Lib.hid (HKAY.out.kept HYW2.out (.inr (by omega)))
    have HSZ : Hid ((fun w' => w'.cell? ⟨GA, 0, none⟩ = some (.int .i64 P) ∧ w'.cell? ⟨GA, 1, none⟩ = some (.int .i64 Q) ∧ w'.cell? ⟨GA, 2, none⟩ = some (.int .i64 G) ∧ w'.cell? ⟨KA, 0, none⟩ = some (.slice qa qn qc) ∧ w'.cell? ⟨KA, 1, none⟩ = some (.int .i64 xe) ∧ w'.cell? ⟨KA, 2, none⟩ = some (.slice ca cn cc) ∧ w'.cell? ⟨KA, 3, none⟩ = some (.slice sa sn sc)) Y2) := ⟨HZ1Z.out.cell (i := 0) rfl, HZ1Z.out.cell (i := 1) rfl, HZ1Z.out.cell (i := 2) rfl, HKAZ.out.cell (i := 0) rfl, HKAZ.out.cell (i := 1) rfl, HKAZ.out.cell (i := 2) rfl, HKAZ.out.cell (i := 3) rfl⟩
    go_simp
    refine hK.out _ _ ?_ (fun _ => ?_)
    · rw [← hY]; exact HSZ.out
    rw [← hY]
    clear hK K fr r0 r1 r2 r3 hY
    (try simp only [Act.put, List.setIfInBounds_toArray, List.set_cons_zero, List.set_cons_succ])
    refine wpV_done ?_
    go_wp2_with fail
    refine NoPanic.normal ?_
    have x0 := HX2Z.out.cell (i := 0) rfl
    have x1 := HX2Z.out.cell (i := 1) rfl
    have x2 := HX2Z.out.cell (i := 2) rfl
    have y0 := HX5Z.out.cell (i := 0) rfl
    have y1 := HX5Z.out.cell (i := 1) rfl
    have y2 := HX5Z.out.cell (i := 2) rfl
    have y3 := HX5Z.out.cell (i := 3) rfl
    try (go_wp2_with fail)
    have HAZ : Hid (Agr B0 u1 Y2) := (HAD.out.within HYW.out (by omega)).within HYW2.out (by omega)
    have HBZ : Hid (Below w.heap.size w Y2) := (HBD.out.trans (HYW.out.below HBD.out.size (Nat.le_refl _))).trans (HYW2.out.below (by have := HYW.out.size; have := HBD.out.size; omega) (by omega))
    refine bodyPost_ret (v := .tuple #[.agg #[.int .i64 P, .int .i64 Q, .int .i64 G], .slice la ln lc, .slice aa an ac, .agg #[.slice qa qn qc, .int .i64 xe, .slice ca cn cc, .slice sa sn sc]]) (by simp [results, Try.results37, go_sem, x0, x1, x2, y0, y1, y2, y3]) rfl ⟨⟨P, Q, G, _, l, _, anl, _, _, _, _, _, _, _, rfl, HGR.out, HLZ.out Y2 HAZ.out.1 HAZ.out.2, HAS.out Y2 HAZ.out.1 HAZ.out.2, ((HSQD.out.within HYW.out (by omega)).within HYW2.out (by omega)).here, ((HSCD.out.within HYW.out (by omega)).within HYW2.out (by omega)).here, ((HSSD.out.within HYW.out (by omega)).within HYW2.out (by omega)).here⟩, HBZ.out⟩
  · obtain ⟨cb, e, hcb1, _, _⟩ := HOC.out.at_ (by have := hCN.out; omega)
    cases e
    have hcbK := HLC.out cb rfl
    go_upto_region 11 with fail
    have z_0_0 := HZ1.out.cell (i := 0) rfl
    have z_0_1 := HZ1.out.cell (i := 1) rfl
    have z_0_2 := HZ1.out.cell (i := 2) rfl
    have z_1_0 := HKA.out.cell (i := 0) rfl
    have z_1_1 := HKA.out.cell (i := 1) rfl
    have z_1_2 := HKA.out.cell (i := 2) rfl
    have z_1_3 := HKA.out.cell (i := 3) rfl
    try (go_wp2_with fail)
    refine wp_region_noPanic ?_
    refine wp_region_Q (Within g (g + 1)) (DrawS U u5 g _ 100000 (fun w' => w'.cell? ⟨GA, 0, none⟩ = some (.int .i64 P) ∧ w'.cell? ⟨GA, 1, none⟩ = some (.int .i64 Q) ∧ w'.cell? ⟨GA, 2, none⟩ = some (.int .i64 G) ∧ w'.cell? ⟨KA, 0, none⟩ = some (.slice qa qn qc) ∧ w'.cell? ⟨KA, 1, none⟩ = some (.int .i64 Y) ∧ w'.cell? ⟨KA, 2, none⟩ = some (.slice (some ⟨cb, 0, none⟩) cn cc) ∧ w'.cell? ⟨KA, 3, none⟩ = some (.slice sa sn sc))) 14 [(0, []), (1, [0]), (2, []), (3, []), (4, [0]), (5, [0]), (6, [3, 0]), (7, []), (8, []), (9, [1, 0]), (10, [8, 3])] [11] (by kernel_rfl) (by kernel_rfl) (by kernel_rfl) rfl (fun _ _ _ _ h => h) (DrawS.good _ _ _ _ _ _) ⟨(Within.refl _ _ _).drew, by simpa using HC.out.keep (Below.refl _ _).drew, ⟨box_at z_0_0 (Below.refl _ _).drew, box_at z_0_1 (Below.refl _ _).drew, box_at z_0_2 (Below.refl _ _).drew, box_at z_1_0 (Below.refl _ _).drew, box_at z_1_1 (Below.refl _ _).drew, box_at z_1_2 (Below.refl _ _).drew, box_at z_1_3 (Below.refl _ _).drew⟩⟩ ?_
    simp only [pickP, pickN, List.getElem?_cons_zero, List.getElem?_cons_succ]
    iterate 6 (refine' chainQ_read (DrawS.good _ _ _ _ _ _) _ rfl rfl (fun m w' hm' hS' => ?_) ?_; rotate_left; · (simp only [lookP, allP, Act.put, List.getElem?_cons_zero, List.getElem?_cons_succ, List.setIfInBounds_toArray, List.set_cons_zero, List.set_cons_succ]; (try dsimp only [DrawS] at hS'); go_simp; (try with_reducible rfl)))
    -- 6: call { callee := value (func 72), args := #[t47, t50], argTypes := #[82, 3] }
    refine chainQ_do (d := (some 51)) (fun v z => ∃ k : Nat, v = .int .i64 (k : Int) ∧ k < cn) (fun v w1 w2 hw h => h) rfl rfl (fun m w' hm' hS' => ?_) ?_
    · simp only [lookP, allP, Act.put, List.getElem?_cons_zero, List.getElem?_cons_succ, List.setIfInBounds_toArray, List.set_cons_zero, List.set_cons_succ]
      intro K hK
      replace hm' : m < 11 := hm'
      go_simp
      go_at_call 72
      refine (spec_pick U g _ (cn : Int) _ hS'.2.1 (hS'.1.belowOf HU.out (Nat.le_of_eq HUS.out)) (by omega)).mono ?_
      rintro e z ⟨⟨x, rfl, x0, _, xm, _⟩, hc, hw⟩
      replace xm := xm (by omega)
      obtain ⟨k, rfl⟩ := Int.eq_ofNat_of_zero_le x0
      exact hK.out _ _ hw ⟨hS'.1.trans hw, hc.mono (by omega), ⟨within_at (hS'.1.trans hw) z_0_0 (.inr (by omega)), within_at (hS'.1.trans hw) z_0_1 (.inr (by omega)), within_at (hS'.1.trans hw) z_0_2 (.inr (by omega)), within_at (hS'.1.trans hw) z_1_0 (.inr (by omega)), within_at (hS'.1.trans hw) z_1_1 (.inr (by omega)), within_at (hS'.1.trans hw) z_1_2 (.inr (by omega)), within_at (hS'.1.trans hw) z_1_3 (.inr (by omega))⟩⟩ ⟨k, rfl, by omega⟩
    iterate 2 (refine' chainQ_read (DrawS.good _ _ _ _ _ _) _ rfl rfl (fun m w' hm' hS' => ?_) ?_; rotate_left; · (simp only [lookP, allP, Act.put, List.getElem?_cons_zero, List.getElem?_cons_succ, List.setIfInBounds_toArray, List.set_cons_zero, List.set_cons_succ]; (try dsimp only [DrawS] at hS'); go_simp; (try with_reducible rfl)))
    -- 9: call { callee := value (func 60), args := #[t52, t53], argTypes := #[82, 24] }
    refine chainQ_do (d := (some 54)) (fun v z => ∃ x : Int, v = .int .i64 x ∧ -10 ≤ x ∧ x ≤ 2000000010) (fun v w1 w2 hw h => h) rfl rfl (fun m w' hm' hS' => ?_) ?_
    · simp only [lookP, allP, Act.put, List.getElem?_cons_zero, List.getElem?_cons_succ, List.setIfInBounds_toArray, List.set_cons_zero, List.set_cons_succ]
      intro K hK
      replace hm' : m < 11 := hm'
      go_simp
      go_at_call 60
      refine (spec_element U g _ P Q G _ hS'.2.1 (hS'.1.belowOf HU.out (Nat.le_of_eq HUS.out)) (by omega) HGR.out).mono ?_
      rintro e z ⟨⟨x, rfl, x0, x1⟩, hc, hw⟩
      exact hK.out _ _ hw ⟨hS'.1.trans hw, hc.mono (by omega), ⟨within_at (hS'.1.trans hw) z_0_0 (.inr (by omega)), within_at (hS'.1.trans hw) z_0_1 (.inr (by omega)), within_at (hS'.1.trans hw) z_0_2 (.inr (by omega)), within_at (hS'.1.trans hw) z_1_0 (.inr (by omega)), within_at (hS'.1.trans hw) z_1_1 (.inr (by omega)), within_at (hS'.1.trans hw) z_1_2 (.inr (by omega)), within_at (hS'.1.trans hw) z_1_3 (.inr (by omega))⟩⟩ ⟨x, rfl, by omega, by omega⟩
    -- 10: indexAddr 42 t46 t51
    refine chainQ_have (DrawS.good _ _ _ _ _ _) (d := (some 55)) (fun v z => ∃ k : Nat, v = .pointer (some ⟨cb, k, none⟩) ∧ k < cn) (fun v w1 w2 hw h => h) rfl rfl (fun m w' hm' hS' => ?_) ?_
    · simp only [lookP, allP, Act.put, List.getElem?_cons_zero, List.getElem?_cons_succ, List.setIfInBounds_toArray, List.set_cons_zero, List.set_cons_succ]
      intro x6 hx6
      obtain ⟨k, rfl, hk⟩ := hx6
      have bk : (k : Int) < (cn : Int) := by omega
      refine ⟨.pointer (some ⟨cb, k, none⟩), ?_, k, rfl, hk⟩
      go_simp
    refine chainQ_nil (fun u6 hS' => ?_)
    simp only [allP, Act.put, List.setIfInBounds_toArray, List.set_cons_zero, List.set_cons_succ]
    intro x10 hx10
    intro x9 hx9
    intro x6 hx6
    replace hS' : DrawS U u5 g _ 100000 _ 11 u6 := hS'
    obtain ⟨hw, hc, hC⟩ := hS'
    have HWE := Lib.hid hw
    have hsz1 := hw.size
    replace HZ1 := Lib.hid (HZ1.out.kept hw (.inr (by omega)))
    replace HKA := Lib.hid (HKA.out.kept hw (.inr (by omega)))
    replace HC := Lib.hid hc
    clear hc hw hC
    clear z_0_0 z_0_1 z_0_2 z_1_0 z_1_1 z_1_2 z_1_3
    clear hx6
    obtain ⟨xe, rfl, xe0, xe1⟩ := hx9
    obtain ⟨k, rfl, hk⟩ := hx10
    have hw := HWE.out
    replace HX2 := Lib.hid (HX2.out.kept hw (.inl (by omega)))
    replace HX5 := Lib.hid (HX5.out.kept hw (.inl (by omega)))
    replace HU := Lib.hid (hw.belowOf HU.out (Nat.le_of_eq HUS.out))
    replace HBw := Lib.hid (hw.belowOf HBw.out (by omega))
    replace HAG := Lib.hid (HAG.out.within hw (by omega))
    replace HOQ := Lib.hid (HOQ.out.within hw (by omega))
    replace HOC := Lib.hid (HOC.out.within hw (by omega))
    replace HOS := Lib.hid (HOS.out.within hw (by omega))
    clear hw HWE
    have HXE : Hid (I64 xe) := ⟨by omega, by omega⟩
    obtain ⟨_, e, _, _, hcx⟩ := HOC.out.at_ (by have := HPS.out; have := HOC.out.ints.len; omega)
    cases e
    obtain ⟨c6, f6⟩ := hcx k hk
    clear hcx
    obtain ⟨Lq, hq1, _, _⟩ := HOQ.out.pokeW cb k HXE.out
    obtain ⟨Lc, hc1, _, _⟩ := HOC.out.pokeW cb k HXE.out
    obtain ⟨Ls, hs1, _, _⟩ := HOS.out.pokeW cb k HXE.out
    have HSQ := Lib.hid (Since.of_ownI hq1 (Nat.le_refl B1))
    have HSC := Lib.hid (Since.of_ownI hc1 (Nat.le_refl B1))
    have HSS := Lib.hid (Since.of_ownI hs1 (Nat.le_refl B1))
    clear hq1 hc1 hs1
    obtain ⟨u7, hu7⟩ : ∃ V, V = u6.setCell ⟨cb, k, none⟩ (.int .i64 xe) := ⟨_, rfl⟩
    rw [← hu7] at HSQ HSC HSS
    replace HX2 : Hid (BoxN u7 w.heap.size 24 [.int .i64 0, .int .i64 0, .int .i64 0]) := by unfold Hid; rw [hu7]; exact HX2.out.other (b' := cb) (by omega) k _
    replace HX5 : Hid (BoxN u7 (w.heap.size + 1) 73 [.slice none 0 0, .int .i64 0, .slice none 0 0, .slice none 0 0]) := by unfold Hid; rw [hu7]; exact HX5.out.other (b' := cb) (by omega) k _
    replace HZ1 : Hid (BoxN u7 GA 24 [.int .i64 P, .int .i64 Q, .int .i64 G]) := by unfold Hid; rw [hu7]; exact HZ1.out.other (b' := cb) (by omega) k _
    replace HKA : Hid (BoxN u7 KA 73 [.slice qa qn qc, .int .i64 Y, .slice (some ⟨cb, 0, none⟩) cn cc, .slice sa sn sc]) := by unfold Hid; rw [hu7]; exact HKA.out.other (b' := cb) (by omega) k _
    replace HBw : Hid (Below w.heap.size w u7) := by unfold Hid; rw [hu7]; exact HBw.out.setCell (p := ⟨cb, k, none⟩) (by show w.heap.size ≤ cb; omega) _
    replace HAG : Hid (Agr B0 u1 u7) := by unfold Hid; rw [hu7]; exact HAG.out.set (by omega) _
    go_wp2_with fail
    refine NoPanic.normal ?_
    go_upto_region 14 with fail
    rw [← hu7]
    clear c6 f6 hu7
    have z0 := HZ1.out.cell (i := 0) rfl
    have z1 := HZ1.out.cell (i := 1) rfl
    have z2 := HZ1.out.cell (i := 2) rfl
    have k0 := HKA.out.cell (i := 0) rfl
    have k1 := HKA.out.cell (i := 1) rfl
    have k2 := HKA.out.cell (i := 2) rfl
    have k3 := HKA.out.cell (i := 3) rfl
    have hGAu := HZ1.out.lt
    have hKAu := HKA.out.lt
    refine wp_region_noPanic ?_
    refine wp_region_V (fun w' => w'.cell? ⟨GA, 0, none⟩ = some (.int .i64 P) ∧ w'.cell? ⟨GA, 1, none⟩ = some (.int .i64 Q) ∧ w'.cell? ⟨GA, 2, none⟩ = some (.int .i64 G) ∧ w'.cell? ⟨KA, 0, none⟩ = some (.slice qa qn qc) ∧ w'.cell? ⟨KA, 1, none⟩ = some (.int .i64 Y) ∧ w'.cell? ⟨KA, 2, none⟩ = some (.slice (some ⟨cb, 0, none⟩) cn cc) ∧ w'.cell? ⟨KA, 3, none⟩ = some (.slice sa sn sc)) 10 8 (.rd 0 (.rd 1 (.rd 2 (.rd 3 (.alt 4 (.alt 5 (.alt 6 (.alt 7 .done .nil) .nil) .nil) .nil))))) [] (by kernel_rfl) (by kernel_rfl) rfl (fun _ _ _ _ _ h => h) ⟨box_at z0 (Below.refl _ _).drew, box_at z1 (Below.refl _ _).drew, box_at z2 (Below.refl _ _).drew, box_at k0 (Below.refl _ _).drew, box_at k1 (Below.refl _ _).drew, box_at k2 (Below.refl _ _).drew, box_at k3 (Below.refl _ _).drew⟩ ?_
    simp only [pickV, pickN, List.getElem?_cons_zero, List.getElem?_cons_succ]
    repeat (refine' wpV_read _ (by kernel_rfl) (fun w' hS' => ?_) ?_; rotate_left; (focus ((try dsimp only at hS'); go_simp; (try with_reducible rfl))); (try simp only [Act.put, List.setIfInBounds_toArray, List.set_cons_zero, List.set_cons_succ]))
    have hdr : Below u7.heap.size u7 u7.drew := (Below.refl _ _).drew
    have HBD : Hid (Below w.heap.size w u7.drew) := HBw.out.trans (hdr.mono HBw.out.size)
    have HAD := Lib.hid (HAG.out.below hdr)
    have HX2D := Lib.hid (HX2.out.below hdr)
    have HX5D := Lib.hid (HX5.out.below hdr)
    have HZ1D := Lib.hid (HZ1.out.below hdr)
    have HKAD := Lib.hid (HKA.out.below hdr)
    have HSQD := Lib.hid (HSQ.out.below hdr)
    have HSCD := Lib.hid (HSC.out.below hdr)
    have HSSD := Lib.hid (HSS.out.below hdr)
    have hszd := hdr.size
    clear hdr
    refine wpV_do (by kernel_rfl) (fun K hK => ?_)
    have r0 := HX2D.out.cell (i := 0) rfl
    have r1 := HX2D.out.cell (i := 1) rfl
    have r2 := HX2D.out.cell (i := 2) rfl
    have fr := fun j => HX2D.out.frozen j
    have q0 : u7.cell? ⟨w.heap.size, 0, none⟩ = some (.int .i64 0) := r0
    have q1 : u7.cell? ⟨w.heap.size, 1, none⟩ = some (.int .i64 0) := r1
    have q2 : u7.cell? ⟨w.heap.size, 2, none⟩ = some (.int .i64 0) := r2
    have frd : ∀ j, u7.frozen? ⟨w.heap.size, j, none⟩ = false := fr
    obtain ⟨Y1, hY⟩ : ∃ Z, Z = (((u7.setCell ⟨w.heap.size, 0, none⟩ (.int .i64 P)).setCell ⟨w.heap.size, 1, none⟩ (.int .i64 Q)).setCell ⟨w.heap.size, 2, none⟩ (.int .i64 G)).drew := ⟨_, rfl⟩
    have hYG := hY
    replace hY : Y1 = ((u7.drew.setCell ⟨w.heap.size, 0, none⟩ (.int .i64 P)).setCell ⟨w.heap.size, 1, none⟩ (.int .i64 Q)).setCell ⟨w.heap.size, 2, none⟩ (.int .i64 G) := by rw [hY]; first | rfl | simp [go_sem]
    have HYW : Hid (Within w.heap.size (w.heap.size + 1) u7.drew Y1) := by unfold Hid; rw [hY]; exact ((((Within.refl (w.heap.size) (w.heap.size + 1) u7.drew).setCell (b := w.heap.size) (by omega) (by omega) 0 (.int .i64 P)).setCell (b := w.heap.size) (by omega) (by omega) 1 (.int .i64 Q)).setCell (b := w.heap.size) (by omega) (by omega) 2 (.int .i64 G))
    have HX2Y : Hid (BoxN Y1 w.heap.size 24 [.int .i64 P, .int .i64 Q, .int .i64 G]) := by unfold Hid; rw [hY]; exact (((HX2D.out.set 0 (.int .i64 P)).set 1 (.int .i64 Q)).set 2 (.int .i64 G))
    have HX5Y := Lib.hid (HX5D.out.kept HYW.out (.inr (by omega)))
    have HZ1Y := Lib.hid (HZ1D.out.kept HYW.out (.inr (by omega)))
    have HKAY := Lib.hid (HKAD.out.kept HYW.out (.inr (by omega)))
    have HSY : Hid ((fun w' => w'.cell? ⟨GA, 0, none⟩ = some (.int .i64 P) ∧ w'.cell? ⟨GA, 1, none⟩ = some (.int .i64 Q) ∧ w'.cell? ⟨GA, 2, none⟩ = some (.int .i64 G) ∧ w'.cell? ⟨KA, 0, none⟩ = some (.slice qa qn qc) ∧ w'.cell? ⟨KA, 1, none⟩ = some (.int .i64 Y) ∧ w'.cell? ⟨KA, 2, none⟩ = some (.slice (some ⟨cb, 0, none⟩) cn cc) ∧ w'.cell? ⟨KA, 3, none⟩ = some (.slice sa sn sc)) Y1) := ⟨HZ1Y.out.cell (i := 0) rfl, HZ1Y.out.cell (i := 1) rfl, HZ1Y.out.cell (i := 2) rfl, HKAY.out.cell (i := 0) rfl, HKAY.out.cell (i := 1) rfl, HKAY.out.cell (i := 2) rfl, HKAY.out.cell (i := 3) rfl⟩
    go_simp
    refine hK.out _ _ ?_ (fun _ => ?_)
    · rw [← hYG]; exact HSY.out
    rw [← hYG]
    clear hK K fr r0 r1 r2 hYG frd q0 q1 q2 hY z0 z1 z2 k0 k1 k2 k3
    (try simp only [Act.put, List.setIfInBounds_toArray, List.set_cons_zero, List.set_cons_succ])
    refine wpV_do (by kernel_rfl) (fun K hK => ?_)
    go_simp
    refine hK.out _ _ HSY.out (fun _ => ?_)
    clear hK K
    (try simp only [Act.put, List.setIfInBounds_toArray, List.set_cons_zero, List.set_cons_succ])
    refine wpV_do (by kernel_rfl) (fun K hK => ?_)
    go_simp
    refine hK.out _ _ HSY.out (fun _ => ?_)
    clear hK K
    (try simp only [Act.put, List.setIfInBounds_toArray, List.set_cons_zero, List.set_cons_succ])
    refine wpV_do (by kernel_rfl) (fun K hK => ?_)
    have r0 := HX5Y.out.cell (i := 0) rfl
    have r1 := HX5Y.out.cell (i := 1) rfl
    have r2 := HX5Y.out.cell (i := 2) rfl
    have r3 := HX5Y.out.cell (i := 3) rfl
    have fr := fun j => HX5Y.out.frozen j
    obtain ⟨Y2, hY⟩ : ∃ Z, Z = (((Y1.setCell ⟨w.heap.size + 1, 0, none⟩ (.slice qa qn qc)).setCell ⟨w.heap.size + 1, 1, none⟩ (.int .i64 Y)).setCell ⟨w.heap.size + 1, 2, none⟩ (.slice (some ⟨cb, 0, none⟩) cn cc)).setCell ⟨w.heap.size + 1, 3, none⟩ (.slice sa sn sc) := ⟨_, rfl⟩
    have HYW2 : Hid (Within (w.heap.size + 1) (w.heap.size + 1 + 1) Y1 Y2) := by unfold Hid; rw [hY]; exact ((((Within.refl (w.heap.size + 1) (w.heap.size + 1 + 1) Y1).setCell (b := w.heap.size + 1) (by omega) (by omega) 0 (.slice qa qn qc)).setCell (b := w.heap.size + 1) (by omega) (by omega) 1 (.int .i64 Y)).setCell (b := w.heap.size + 1) (by omega) (by omega) 2 (.slice (some ⟨cb, 0, none⟩) cn cc)).setCell (b := w.heap.size + 1) (by omega) (by omega) 3 (.slice sa sn sc)
    have HX5Z : Hid (BoxN Y2 (w.heap.size + 1) 73 [.slice qa qn qc, .int .i64 Y, .slice (some ⟨cb, 0, none⟩) cn cc, .slice sa sn sc]) := by unfold Hid; rw [hY]; exact ((((HX5Y.out.set 0 (.slice qa qn qc)).set 1 (.int .i64 Y)).set 2 (.slice (some ⟨cb, 0, none⟩) cn cc)).set 3 (.slice sa sn sc))
    have HX2Z := Lib.hid (HX2Y.out.kept HYW2.out (.inl (by omega)))
    have HZ1Z := Lib.hid (HZ1Y.out.kept HYW2.out (.inr (by omega)))
    have HKAZ := Lib.hid (HKAY.out.kept HYW2.out (.inr (by omega)))
    have HSZ : Hid ((fun w' => w'.cell? ⟨GA, 0, none⟩ = some (.int .i64 P) ∧ w'.cell? ⟨GA, 1, none⟩ = some (.int .i64 Q) ∧ w'.cell? ⟨GA, 2, none⟩ = some (.int .i64 G) ∧ w'.cell? ⟨KA, 0, none⟩ = some (.slice qa qn qc) ∧ w'.cell? ⟨KA, 1, none⟩ = some (.int .i64 Y) ∧ w'.cell? ⟨KA, 2, none⟩ = some (.slice (some ⟨cb, 0, none⟩) cn cc) ∧ w'.cell? ⟨KA, 3, none⟩ = some (.slice sa sn sc)) Y2) := ⟨HZ1Z.out.cell (i := 0) rfl, HZ1Z.out.cell (i := 1) rfl, HZ1Z.out.cell (i := 2) rfl, HKAZ.out.cell (i := 0) rfl, HKAZ.out.cell (i := 1) rfl, HKAZ.out.cell (i := 2) rfl, HKAZ.out.cell (i := 3) rfl⟩
    go_simp
    refine hK.out _ _ ?_ (fun _ => ?_)
    · rw [← hY]; exact HSZ.out
    rw [← hY]
    clear hK K fr r0 r1 r2 r3 hY
    (try simp only [Act.put, List.setIfInBounds_toArray, List.set_cons_zero, List.set_cons_succ])
    refine wpV_done ?_
    go_wp2_with fail
    refine NoPanic.normal ?_
    have x0 := HX2Z.out.cell (i := 0) rfl
    have x1 := HX2Z.out.cell (i := 1) rfl
    have x2 := HX2Z.out.cell (i := 2) rfl
    have y0 := HX5Z.out.cell (i := 0) rfl
    have y1 := HX5Z.out.cell (i := 1) rfl
    have y2 := HX5Z.out.cell (i := 2) rfl
    have y3 := HX5Z.out.cell (i := 3) rfl
    try (go_wp2_with fail)
    have HAZ : Hid (Agr B0 u1 Y2) := (HAD.out.within HYW.out (by omega)).within HYW2.out (by omega)
    have HBZ : Hid (Below w.heap.size w Y2) := (HBD.out.trans (HYW.out.below HBD.out.size (Nat.le_refl _))).trans (HYW2.out.below (by have := HYW.out.size; have := HBD.out.size; omega) (by omega))
    refine bodyPost_ret (v := .tuple #[.agg #[.int .i64 P, .int .i64 Q, .int .i64 G], .slice la ln lc, .slice aa an ac, .agg #[.slice qa qn qc, .int .i64 Y, .slice (some ⟨cb, 0, none⟩) cn cc, .slice sa sn sc]]) (by simp [results, Try.results37, go_sem, x0, x1, x2, y0, y1, y2, y3]) rfl ⟨⟨P, Q, G, _, l, _, anl, _, _, _, _, _, _, _, rfl, HGR.out, HLZ.out Y2 HAZ.out.1 HAZ.out.2, HAS.out Y2 HAZ.out.1 HAZ.out.2, ((HSQD.out.within HYW.out (by omega)).within HYW2.out (by omega)).here, ((HSCD.out.within HYW.out (by omega)).within HYW2.out (by omega)).here, ((HSSD.out.within HYW.out (by omega)).within HYW2.out (by omega)).here⟩, HBZ.out⟩
  · obtain ⟨sb, e, hsb1, _, _⟩ := HOS.out.at_ (by have := hSN.out; omega)
    cases e
    have hsbK := HLS.out sb rfl
    go_upto_region 13 with fail
    have z_0_0 := HZ1.out.cell (i := 0) rfl
    have z_0_1 := HZ1.out.cell (i := 1) rfl
    have z_0_2 := HZ1.out.cell (i := 2) rfl
    have z_1_0 := HKA.out.cell (i := 0) rfl
    have z_1_1 := HKA.out.cell (i := 1) rfl
    have z_1_2 := HKA.out.cell (i := 2) rfl
    have z_1_3 := HKA.out.cell (i := 3) rfl
    try (go_wp2_with fail)
    refine wp_region_noPanic ?_
    refine wp_region_Q (Within g (g + 1)) (DrawS U u5 g _ 100000 (fun w' => w'.cell? ⟨GA, 0, none⟩ = some (.int .i64 P) ∧ w'.cell? ⟨GA, 1, none⟩ = some (.int .i64 Q) ∧ w'.cell? ⟨GA, 2, none⟩ = some (.int .i64 G) ∧ w'.cell? ⟨KA, 0, none⟩ = some (.slice qa qn qc) ∧ w'.cell? ⟨KA, 1, none⟩ = some (.int .i64 Y) ∧ w'.cell? ⟨KA, 2, none⟩ = some (.slice ca cn cc) ∧ w'.cell? ⟨KA, 3, none⟩ = some (.slice (some ⟨sb, 0, none⟩) sn sc))) 14 [(0, []), (1, [0]), (2, []), (3, []), (4, [0]), (5, [0]), (6, [3, 0]), (7, []), (8, []), (9, [1, 0]), (10, [8, 3])] [11] (by kernel_rfl) (by kernel_rfl) (by kernel_rfl) rfl (fun _ _ _ _ h => h) (DrawS.good _ _ _ _ _ _) ⟨(Within.refl _ _ _).drew, by simpa using HC.out.keep (Below.refl _ _).drew, ⟨box_at z_0_0 (Below.refl _ _).drew, box_at z_0_1 (Below.refl _ _).drew, box_at z_0_2 (Below.refl _ _).drew, box_at z_1_0 (Below.refl _ _).drew, box_at z_1_1 (Below.refl _ _).drew, box_at z_1_2 (Below.refl _ _).drew, box_at z_1_3 (Below.refl _ _).drew⟩⟩ ?_
    simp only [pickP, pickN, List.getElem?_cons_zero, List.getElem?_cons_succ]
    iterate 6 (refine' chainQ_read (DrawS.good _ _ _ _ _ _) _ rfl rfl (fun m w' hm' hS' => ?_) ?_; rotate_left; · (simp only [lookP, allP, Act.put, List.getElem?_cons_zero, List.getElem?_cons_succ, List.setIfInBounds_toArray, List.set_cons_zero, List.set_cons_succ]; (try dsimp only [DrawS] at hS'); go_simp; (try with_reducible rfl)))
    -- 6: call { callee := value (func 72), args := #[t60, t63], argTypes := #[82, 3] }
    refine chainQ_do (d := (some 64)) (fun v z => ∃ k : Nat, v = .int .i64 (k : Int) ∧ k < sn) (fun v w1 w2 hw h => h) rfl rfl (fun m w' hm' hS' => ?_) ?_
    · simp only [lookP, allP, Act.put, List.getElem?_cons_zero, List.getElem?_cons_succ, List.setIfInBounds_toArray, List.set_cons_zero, List.set_cons_succ]
      intro K hK
      replace hm' : m < 11 := hm'
      go_simp
      go_at_call 72
      refine (spec_pick U g _ (sn : Int) _ hS'.2.1 (hS'.1.belowOf HU.out (Nat.le_of_eq HUS.out)) (by omega)).mono ?_
      rintro e z ⟨⟨x, rfl, x0, _, xm, _⟩, hc, hw⟩
      replace xm := xm (by omega)
      obtain ⟨k, rfl⟩ := Int.eq_ofNat_of_zero_le x0
      exact hK.out _ _ hw ⟨hS'.1.trans hw, hc.mono (by omega), ⟨within_at (hS'.1.trans hw) z_0_0 (.inr (by omega)), within_at (hS'.1.trans hw) z_0_1 (.inr (by omega)), within_at (hS'.1.trans hw) z_0_2 (.inr (by omega)), within_at (hS'.1.trans hw) z_1_0 (.inr (by omega)), within_at (hS'.1.trans hw) z_1_1 (.inr (by omega)), within_at (hS'.1.trans hw) z_1_2 (.inr (by omega)), within_at (hS'.1.trans hw) z_1_3 (.inr (by omega))⟩⟩ ⟨k, rfl, by omega⟩
    iterate 2 (refine' chainQ_read (DrawS.good _ _ _ _ _ _) _ rfl rfl (fun m w' hm' hS' => ?_) ?_; rotate_left; · (simp only [lookP, allP, Act.put, List.getElem?_cons_zero, List.getElem?_cons_succ, List.setIfInBounds_toArray, List.set_cons_zero, List.set_cons_succ]; (try dsimp only [DrawS] at hS'); go_simp; (try with_reducible rfl)))
    -- 9: call { callee := value (func 62), args := #[t65, t66], argTypes := #[82, 24] }
    refine chainQ_do (d := (some 67)) (fun v z => ∃ x : Int, v = .int .i64 x ∧ -10 ≤ x ∧ x ≤ 2000000010) (fun v w1 w2 hw h => h) rfl rfl (fun m w' hm' hS' => ?_) ?_
    · simp only [lookP, allP, Act.put, List.getElem?_cons_zero, List.getElem?_cons_succ, List.setIfInBounds_toArray, List.set_cons_zero, List.set_cons_succ]
      intro K hK
      replace hm' : m < 11 := hm'
      go_simp
      go_at_call 62
      refine (spec_expo U g _ P Q G _ hS'.2.1 (hS'.1.belowOf HU.out (Nat.le_of_eq HUS.out)) (by omega) HGR.out).mono ?_
      rintro e z ⟨⟨x, rfl, x0, x1⟩, hc, hw⟩
      exact hK.out _ _ hw ⟨hS'.1.trans hw, hc.mono (by omega), ⟨within_at (hS'.1.trans hw) z_0_0 (.inr (by omega)), within_at (hS'.1.trans hw) z_0_1 (.inr (by omega)), within_at (hS'.1.trans hw) z_0_2 (.inr (by omega)), within_at (hS'.1.trans hw) z_1_0 (.inr (by omega)), within_at (hS'.1.trans hw) z_1_1 (.inr (by omega)), within_at (hS'.1.trans hw) z_1_2 (.inr (by omega)), within_at (hS'.1.trans hw) z_1_3 (.inr (by omega))⟩⟩ ⟨x, rfl, by omega, by omega⟩
    -- 10: indexAddr 42 t59 t64
    refine chainQ_have (DrawS.good _ _ _ _ _ _) (d := (some 68)) (fun v z => ∃ k : Nat, v = .pointer (some ⟨sb, k, none⟩) ∧ k < sn) (fun v w1 w2 hw h => h) rfl rfl (fun m w' hm' hS' => ?_) ?_
    · simp only [lookP, allP, Act.put, List.getElem?_cons_zero, List.getElem?_cons_succ, List.setIfInBounds_toArray, List.set_cons_zero, List.set_cons_succ]
      intro x6 hx6
      obtain ⟨k, rfl, hk⟩ := hx6
      have bk : (k : Int) < (sn : Int) := by omega
      refine ⟨.pointer (some ⟨sb, k, none⟩), ?_, k, rfl, hk⟩
      go_simp
    refine chainQ_nil (fun u6 hS' => ?_)
    simp only [allP, Act.put, List.setIfInBounds_toArray, List.set_cons_zero, List.set_cons_succ]
    intro x10 hx10
    intro x9 hx9
    intro x6 hx6
    replace hS' : DrawS U u5 g _ 100000 _ 11 u6 := hS'
    obtain ⟨hw, hc, hC⟩ := hS'
    have HWE := Lib.hid hw
    have hsz1 := hw.size
    replace HZ1 := Lib.hid (HZ1.out.kept hw (.inr (by omega)))
    replace HKA := Lib.hid (HKA.out.kept hw (.inr (by omega)))
    replace HC := Lib.hid hc
    clear hc hw hC
    clear z_0_0 z_0_1 z_0_2 z_1_0 z_1_1 z_1_2 z_1_3
    clear hx6
    obtain ⟨xe, rfl, xe0, xe1⟩ := hx9
    obtain ⟨k, rfl, hk⟩ := hx10
    have hw := HWE.out
    replace HX2 := Lib.hid (HX2.out.kept hw (.inl (by omega)))
    replace HX5 := Lib.hid (HX5.out.kept hw (.inl (by omega)))
    replace HU := Lib.hid (hw.belowOf HU.out (Nat.le_of_eq HUS.out))
    replace HBw := Lib.hid (hw.belowOf HBw.out (by omega))
    replace HAG := Lib.hid (HAG.out.within hw (by omega))
    replace HOQ := Lib.hid (HOQ.out.within hw (by omega))
    replace HOC := Lib.hid (HOC.out.within hw (by omega))
    replace HOS := Lib.hid (HOS.out.within hw (by omega))
    clear hw HWE
    have HXE : Hid (I64 xe) := ⟨by omega, by omega⟩
    obtain ⟨_, e, _, _, hcx⟩ := HOS.out.at_ (by have := HPS.out; have := HOS.out.ints.len; omega)
    cases e
    obtain ⟨c6, f6⟩ := hcx k hk
    clear hcx
    obtain ⟨Lq, hq1, _, _⟩ := HOQ.out.pokeW sb k HXE.out
    obtain ⟨Lc, hc1, _, _⟩ := HOC.out.pokeW sb k HXE.out
    obtain ⟨Ls, hs1, _, _⟩ := HOS.out.pokeW sb k HXE.out
    have HSQ := Lib.hid (Since.of_ownI hq1 (Nat.le_refl B1))
    have HSC := Lib.hid (Since.of_ownI hc1 (Nat.le_refl B1))
    have HSS := Lib.hid (Since.of_ownI hs1 (Nat.le_refl B1))
    clear hq1 hc1 hs1
    obtain ⟨u7, hu7⟩ : ∃ V, V = u6.setCell ⟨sb, k, none⟩ (.int .i64 xe) := ⟨_, rfl⟩
    rw [← hu7] at HSQ HSC HSS
    replace HX2 : Hid (BoxN u7 w.heap.size 24 [.int .i64 0, .int .i64 0, .int .i64 0]) := by unfold Hid; rw [hu7]; exact HX2.out.other (b' := sb) (by omega) k _
    replace HX5 : Hid (BoxN u7 (w.heap.size + 1) 73 [.slice none 0 0, .int .i64 0, .slice none 0 0, .slice none 0 0]) := by unfold Hid; rw [hu7]; exact HX5.out.other (b' := sb) (by omega) k _
    replace HZ1 : Hid (BoxN u7 GA 24 [.int .i64 P, .int .i64 Q, .int .i64 G]) := by unfold Hid; rw [hu7]; exact HZ1.out.other (b' := sb) (by omega) k _
    replace HKA : Hid (BoxN u7 KA 73 [.slice qa qn qc, .int .i64 Y, .slice ca cn cc, .slice (some ⟨sb, 0, none⟩) sn sc]) := by unfold Hid; rw [hu7]; exact HKA.out.other (b' := sb) (by omega) k _
    replace HBw : Hid (Below w.heap.size w u7) := by unfold Hid; rw [hu7]; exact HBw.out.setCell (p := ⟨sb, k, none⟩) (by show w.heap.size ≤ sb; omega) _
    replace HAG : Hid (Agr B0 u1 u7) := by unfold Hid; rw [hu7]; exact HAG.out.set (by omega) _
    go_wp2_with fail
    refine NoPanic.normal ?_
    go_upto_region 14 with fail
    rw [← hu7]
    clear c6 f6 hu7
    have z0 := HZ1.out.cell (i := 0) rfl
    have z1 := HZ1.out.cell (i := 1) rfl
    have z2 := HZ1.out.cell (i := 2) rfl
    have k0 := HKA.out.cell (i := 0) rfl
    have k1 := HKA.out.cell (i := 1) rfl
    have k2 := HKA.out.cell (i := 2) rfl
    have k3 := HKA.out.cell (i := 3) rfl
    have hGAu := HZ1.out.lt
    have hKAu := HKA.out.lt
    refine wp_region_noPanic ?_
    refine wp_region_V (fun w' => w'.cell? ⟨GA, 0, none⟩ = some (.int .i64 P) ∧ w'.cell? ⟨GA, 1, none⟩ = some (.int .i64 Q) ∧ w'.cell? ⟨GA, 2, none⟩ = some (.int .i64 G) ∧ w'.cell? ⟨KA, 0, none⟩ = some (.slice qa qn qc) ∧ w'.cell? ⟨KA, 1, none⟩ = some (.int .i64 Y) ∧ w'.cell? ⟨KA, 2, none⟩ = some (.slice ca cn cc) ∧ w'.cell? ⟨KA, 3, none⟩ = some (.slice (some ⟨sb, 0, none⟩) sn sc)) 10 8 (.rd 0 (.rd 1 (.rd 2 (.rd 3 (.alt 4 (.alt 5 (.alt 6 (.alt 7 .done .nil) .nil) .nil) .nil))))) [] (by kernel_rfl) (by kernel_rfl) rfl (fun _ _ _ _ _ h => h) ⟨box_at z0 (Below.refl _ _).drew, box_at z1 (Below.refl _ _).drew, box_at z2 (Below.refl _ _).drew, box_at k0 (Below.refl _ _).drew, box_at k1 (Below.refl _ _).drew, box_at k2 (Below.refl _ _).drew, box_at k3 (Below.refl _ _).drew⟩ ?_
    simp only [pickV, pickN, List.getElem?_cons_zero, List.getElem?_cons_succ]
    repeat (refine' wpV_read _ (by kernel_rfl) (fun w' hS' => ?_) ?_; rotate_left; (focus ((try dsimp only at hS'); go_simp; (try with_reducible rfl))); (try simp only [Act.put, List.setIfInBounds_toArray, List.set_cons_zero, List.set_cons_succ]))
    have hdr : Below u7.heap.size u7 u7.drew := (Below.refl _ _).drew
    have HBD : Hid (Below w.heap.size w u7.drew) := HBw.out.trans (hdr.mono HBw.out.size)
    have HAD := Lib.hid (HAG.out.below hdr)
    have HX2D := Lib.hid (HX2.out.below hdr)
    have HX5D := Lib.hid (HX5.out.below hdr)
    have HZ1D := Lib.hid (HZ1.out.below hdr)
    have HKAD := Lib.hid (HKA.out.below hdr)
    have HSQD := Lib.hid (HSQ.out.below hdr)
    have HSCD := Lib.hid (HSC.out.below hdr)
    have HSSD := Lib.hid (HSS.out.below hdr)
    have hszd := hdr.size
    clear hdr
    refine wpV_do (by kernel_rfl) (fun K hK => ?_)
    have r0 := HX2D.out.cell (i := 0) rfl
    have r1 := HX2D.out.cell (i := 1) rfl
    have r2 := HX2D.out.cell (i := 2) rfl
    have fr := fun j => HX2D.out.frozen j
    have q0 : u7.cell? ⟨w.heap.size, 0, none⟩ = some (.int .i64 0) := r0
    have q1 : u7.cell? ⟨w.heap.size, 1, none⟩ = some (.int .i64 0) := r1
    have q2 : u7.cell? ⟨w.heap.size, 2, none⟩ = some (.int .i64 0) := r2
    have frd : ∀ j, u7.frozen? ⟨w.heap.size, j, none⟩ = false := fr
    obtain ⟨Y1, hY⟩ : ∃ Z, Z = (((u7.setCell ⟨w.heap.size, 0, none⟩ (.int .i64 P)).setCell ⟨w.heap.size, 1, none⟩ (.int .i64 Q)).setCell ⟨w.heap.size, 2, none⟩ (.int .i64 G)).drew := ⟨_, rfl⟩
    have hYG := hY
    replace hY : Y1 = ((u7.drew.setCell ⟨w.heap.size, 0, none⟩ (.int .i64 P)).setCell ⟨w.heap.size, 1, none⟩ (.int .i64 Q)).setCell ⟨w.heap.size, 2, none⟩ (.int .i64 G) := by rw [hY]; first | rfl | simp [go_sem]
    have HYW : Hid (Within w.heap.size (w.heap.size + 1) u7.drew Y1) := by unfold Hid; rw [hY]; exact ((((Within.refl (w.heap.size) (w.heap.size + 1) u7.drew).setCell (b := w.heap.size) (by omega) (by omega) 0 (.int .i64 P)).setCell (b := w.heap.size) (by omega) (by omega) 1 (.int .i64 Q)).setCell (b := w.heap.size) (by omega) (by omega) 2 (.int .i64 G))
    have HX2Y : Hid (BoxN Y1 w.heap.size 24 [.int .i64 P, .int .i64 Q, .int .i64 G]) := by unfold Hid; rw [hY]; exact (((HX2D.out.set 0 (.int .i64 P)).set 1 (.int .i64 Q)).set 2 (.int .i64 G))
    have HX5Y := Lib.hid (HX5D.out.kept HYW.out (.inr (by omega)))
    have HZ1Y := Lib.hid (HZ1D.out.kept HYW.out (.inr (by omega)))
    have HKAY := Lib.hid (HKAD.out.kept HYW.out (.inr (by omega)))
    have HSY : Hid ((fun w' => w'.cell? ⟨GA, 0, none⟩ = some (.int .i64 P) ∧ w'.cell? ⟨GA, 1, none⟩ = some (.int .i64 Q) ∧ w'.cell? ⟨GA, 2, none⟩ = some (.int .i64 G) ∧ w'.cell? ⟨KA, 0, none⟩ = some (.slice qa qn qc) ∧ w'.cell? ⟨KA, 1, none⟩ = some (.int .i64 Y) ∧ w'.cell? ⟨KA, 2, none⟩ = some (.slice ca cn cc) ∧ w'.cell? ⟨KA, 3, none⟩ = some (.slice (some ⟨sb, 0, none⟩) sn sc)) Y1) := ⟨HZ1Y.out.cell (i := 0) rfl, HZ1Y.out.cell (i := 1) rfl, HZ1Y.out.cell (i := 2) rfl, HKAY.out.cell (i := 0) rfl, HKAY.out.cell (i := 1) rfl, HKAY.out.cell (i := 2) rfl, HKAY.out.cell (i := 3) rfl⟩
    go_simp
    refine hK.out _ _ ?_ (fun _ => ?_)
    · rw [← hYG]; exact HSY.out
    rw [← hYG]
    clear hK K fr r0 r1 r2 hYG frd q0 q1 q2 hY z0 z1 z2 k0 k1 k2 k3
    (try simp only [Act.put, List.setIfInBounds_toArray, List.set_cons_zero, List.set_cons_succ])
    refine wpV_do (by kernel_rfl) (fun K hK => ?_)
    go_simp
    refine hK.out _ _ HSY.out (fun _ => ?_)
    clear hK K
    (try simp only [Act.put, List.setIfInBounds_toArray, List.set_cons_zero, List.set_cons_succ])
    refine wpV_do (by kernel_rfl) (fun K hK => ?_)
    go_simp
    refine hK.out _ _ HSY.out (fun _ => ?_)
    clear hK K
    (try simp only [Act.put, List.setIfInBounds_toArray, List.set_cons_zero, List.set_cons_succ])
    refine wpV_do (by kernel_rfl) (fun K hK => ?_)
    have r0 := HX5Y.out.cell (i := 0) rfl
    have r1 := HX5Y.out.cell (i := 1) rfl
    have r2 := HX5Y.out.cell (i := 2) rfl
    have r3 := HX5Y.out.cell (i := 3) rfl
    have fr := fun j => HX5Y.out.frozen j
    obtain ⟨Y2, hY⟩ : ∃ Z, Z = (((Y1.setCell ⟨w.heap.size + 1, 0, none⟩ (.slice qa qn qc)).setCell ⟨w.heap.size + 1, 1, none⟩ (.int .i64 Y)).setCell ⟨w.heap.size + 1, 2, none⟩ (.slice ca cn cc)).setCell ⟨w.heap.size + 1, 3, none⟩ (.slice (some ⟨sb, 0, none⟩) sn sc) := ⟨_, rfl⟩
    have HYW2 : Hid (Within (w.heap.size + 1) (w.heap.size + 1 + 1) Y1 Y2) := by unfold Hid; rw [hY]; exact ((((Within.refl (w.heap.size + 1) (w.heap.size + 1 + 1) Y1).setCell (b := w.heap.size + 1) (by omega) (by omega) 0 (.slice qa qn qc)).setCell (b := w.heap.size + 1) (by omega) (by omega) 1 (.int .i64 Y)).setCell (b := w.heap.size + 1) (by omega) (by omega) 2 (.slice ca cn cc)).setCell (b := w.heap.size + 1) (by omega) (by omega) 3 (.slice (some ⟨sb, 0, none⟩) sn sc)
    have HX5Z : Hid (BoxN Y2 (w.heap.size + 1) 73 [.slice qa qn qc, .int .i64 Y, .slice ca cn cc, .slice (some ⟨sb, 0, none⟩) sn sc]) := by unfold Hid; rw [hY]; exact ((((HX5Y.out.set 0 (.slice qa qn qc)).set 1 (.int .i64 Y)).set 2 (.slice ca cn cc)).set 3 (.slice (some ⟨sb, 0, none⟩) sn sc))
    have HX2Z := Lib.hid (HX2Y.out.kept HYW2.out (.inl (by omega)))
    have HZ1Z := Lib.hid (HZ1Y.out.kept HYW2.out (.inr (by omega)))
    have HKAZ := Lib.hid (HKAY.out.kept HYW2.out (.inr (by omega)))
    have HSZ : Hid ((fun w' => w'.cell? ⟨GA, 0, none⟩ = some (.int .i64 P) ∧ w'.cell? ⟨GA, 1, none⟩ = some (.int .i64 Q) ∧ w'.cell? ⟨GA, 2, none⟩ = some (.int .i64 G) ∧ w'.cell? ⟨KA, 0, none⟩ = some (.slice qa qn qc) ∧ w'.cell? ⟨KA, 1, none⟩ = some (.int .i64 Y) ∧ w'.cell? ⟨KA, 2, none⟩ = some (.slice ca cn cc) ∧ w'.cell? ⟨KA, 3, none⟩ = some (.slice (some ⟨sb, 0, none⟩) sn sc)) Y2) := ⟨HZ1Z.out.cell (i := 0) rfl, HZ1Z.out.cell (i := 1) rfl, HZ1Z.out.cell (i := 2) rfl, HKAZ.out.cell (i := 0) rfl, HKAZ.out.cell (i := 1) rfl, HKAZ.out.cell (i := 2) rfl, HKAZ.out.cell (i := 3) rfl⟩
    go_simp
    refine hK.out _ _ ?_ (fun _ => ?_)
    · rw [← hY]; exact HSZ.out
    rw [← hY]
    clear hK K fr r0 r1 r2 r3 hY
    (try simp only [Act.put, List.setIfInBounds_toArray, List.set_cons_zero, List.set_cons_succ])
    refine wpV_done ?_
    go_wp2_with fail
    refine NoPanic.normal ?_
    have x0 := HX2Z.out.cell (i := 0) rfl
    have x1 := HX2Z.out.cell (i := 1) rfl
    have x2 := HX2Z.out.cell (i := 2) rfl
    have y0 := HX5Z.out.cell (i := 0) rfl
    have y1 := HX5Z.out.cell (i := 1) rfl
    have y2 := HX5Z.out.cell (i := 2) rfl
    have y3 := HX5Z.out.cell (i := 3) rfl
    try (go_wp2_with fail)
    have HAZ : Hid (Agr B0 u1 Y2) := (HAD.out.within HYW.out (by omega)).within HYW2.out (by omega)
    have HBZ : Hid (Below w.heap.size w Y2) := (HBD.out.trans (HYW.out.below HBD.out.size (Nat.le_refl _))).trans (HYW2.out.below (by have := HYW.out.size; have := HBD.out.size; omega) (by omega))
    refine bodyPost_ret (v := .tuple #[.agg #[.int .i64 P, .int .i64 Q, .int .i64 G], .slice la ln lc, .slice aa an ac, .agg #[.slice qa qn qc, .int .i64 Y, .slice ca cn cc, .slice (some ⟨sb, 0, none⟩) sn sc]]) (by simp [results, Try.results37, go_sem, x0, x1, x2, y0, y1, y2, y3]) rfl ⟨⟨P, Q, G, _, l, _, anl, _, _, _, _, _, _, _, rfl, HGR.out, HLZ.out Y2 HAZ.out.1 HAZ.out.2, HAS.out Y2 HAZ.out.1 HAZ.out.2, ((HSQD.out.within HYW.out (by omega)).within HYW2.out (by omega)).here, ((HSCD.out.within HYW.out (by omega)).within HYW2.out (by omega)).here, ((HSSD.out.within HYW.out (by omega)).within HYW2.out (by omega)).here⟩, HBZ.out⟩
  · have b0 : (x5 == 0) = false := by rw [beq_eq_false_iff_ne]; exact i0
    have b1 : (x5 == 1) = false := by rw [beq_eq_false_iff_ne]; exact i1
    have b2 : (x5 == 2) = false := by rw [beq_eq_false_iff_ne]; exact i2
    have b3 : (x5 == 3) = false := by rw [beq_eq_false_iff_ne]; exact i3
    go_upto_region 14 with fail
    have HSQ : Hid (Since B1 u5 (fun z => Ints z (.slice qa qn qc) (kgQ ⟨P, Q, G⟩ l anl))) := Since.of_ownI HOQ.out (Nat.le_refl _)
    have HSC : Hid (Since B1 u5 (fun z => Ints z (.slice ca cn cc) (kgD ⟨P, Q, G⟩ l anl).c)) := Since.of_ownI HOC.out (Nat.le_refl _)
    have HSS : Hid (Since B1 u5 (fun z => Ints z (.slice sa sn sc) (kgD ⟨P, Q, G⟩ l anl).s)) := Since.of_ownI HOS.out (Nat.le_refl _)
    have z0 := HZ1.out.cell (i := 0) rfl
    have z1 := HZ1.out.cell (i := 1) rfl
    have z2 := HZ1.out.cell (i := 2) rfl
    have k0 := HKA.out.cell (i := 0) rfl
    have k1 := HKA.out.cell (i := 1) rfl
    have k2 := HKA.out.cell (i := 2) rfl
    have k3 := HKA.out.cell (i := 3) rfl
    have hGAu := HZ1.out.lt
    have hKAu := HKA.out.lt
    refine wp_region_noPanic ?_
    refine wp_region_V (fun w' => w'.cell? ⟨GA, 0, none⟩ = some (.int .i64 P) ∧ w'.cell? ⟨GA, 1, none⟩ = some (.int .i64 Q) ∧ w'.cell? ⟨GA, 2, none⟩ = some (.int .i64 G) ∧ w'.cell? ⟨KA, 0, none⟩ = some (.slice qa qn qc) ∧ w'.cell? ⟨KA, 1, none⟩ = some (.int .i64 Y) ∧ w'.cell? ⟨KA, 2, none⟩ = some (.slice ca cn cc) ∧ w'.cell? ⟨KA, 3, none⟩ = some (.slice sa sn sc)) 10 8 (.rd 0 (.rd 1 (.rd 2 (.rd 3 (.alt 4 (.alt 5 (.alt 6 (.alt 7 .done .nil) .nil) .nil) .nil))))) [] (by kernel_rfl) (by kernel_rfl) rfl (fun _ _ _ _ _ h => h) ⟨box_at z0 (Below.refl _ _).drew, box_at z1 (Below.refl _ _).drew, box_at z2 (Below.refl _ _).drew, box_at k0 (Below.refl _ _).drew, box_at k1 (Below.refl _ _).drew, box_at k2 (Below.refl _ _).drew, box_at k3 (Below.refl _ _).drew⟩ ?_
    simp only [pickV, pickN, List.getElem?_cons_zero, List.getElem?_cons_succ]
    repeat (refine' wpV_read _ (by kernel_rfl) (fun w' hS' => ?_) ?_; rotate_left; (focus ((try dsimp only at hS'); go_simp; (try with_reducible rfl))); (try simp only [Act.put, List.setIfInBounds_toArray, List.set_cons_zero, List.set_cons_succ]))
    have hdr : Below u5.heap.size u5 u5.drew := (Below.refl _ _).drew
    have HBD : Hid (Below w.heap.size w u5.drew) := HBw.out.trans (hdr.mono HBw.out.size)
    have HAD := Lib.hid (HAG.out.below hdr)
    have HX2D := Lib.hid (HX2.out.below hdr)
    have HX5D := Lib.hid (HX5.out.below hdr)
    have HZ1D := Lib.hid (HZ1.out.below hdr)
    have HKAD := Lib.hid (HKA.out.below hdr)
    have HSQD := Lib.hid (HSQ.out.below hdr)
    have HSCD := Lib.hid (HSC.out.below hdr)
    have HSSD := Lib.hid (HSS.out.below hdr)
    have hszd := hdr.size
    clear hdr
    refine wpV_do (by kernel_rfl) (fun K hK => ?_)
    have r0 := HX2D.out.cell (i := 0) rfl
    have r1 := HX2D.out.cell (i := 1) rfl
    have r2 := HX2D.out.cell (i := 2) rfl
    have fr := fun j => HX2D.out.frozen j
    have q0 : u5.cell? ⟨w.heap.size, 0, none⟩ = some (.int .i64 0) := r0
    have q1 : u5.cell? ⟨w.heap.size, 1, none⟩ = some (.int .i64 0) := r1
    have q2 : u5.cell? ⟨w.heap.size, 2, none⟩ = some (.int .i64 0) := r2
    have frd : ∀ j, u5.frozen? ⟨w.heap.size, j, none⟩ = false := fr
    obtain ⟨Y1, hY⟩ : ∃ Z, Z = (((u5.setCell ⟨w.heap.size, 0, none⟩ (.int .i64 P)).setCell ⟨w.heap.size, 1, none⟩ (.int .i64 Q)).setCell ⟨w.heap.size, 2, none⟩ (.int .i64 G)).drew := ⟨_, rfl⟩
    have hYG := hY
    replace hY : Y1 = ((u5.drew.setCell ⟨w.heap.size, 0, none⟩ (.int .i64 P)).setCell ⟨w.heap.size, 1, none⟩ (.int .i64 Q)).setCell ⟨w.heap.size, 2, none⟩ (.int .i64 G) := by rw [hY]; first | rfl | simp [go_sem]
    have HYW : Hid (Within w.heap.size (w.heap.size + 1) u5.drew Y1) := by unfold Hid; rw [hY]; exact ((((Within.refl (w.heap.size) (w.heap.size + 1) u5.drew).setCell (b := w.heap.size) (by omega) (by omega) 0 (.int .i64 P)).setCell (b := w.heap.size) (by omega) (by omega) 1 (.int .i64 Q)).setCell (b := w.heap.size) (by omega) (by omega) 2 (.int .i64 G))
    have HX2Y : Hid (BoxN Y1 w.heap.size 24 [.int .i64 P, .int .i64 Q, .int .i64 G]) := by unfold Hid; rw [hY]; exact (((HX2D.out.set 0 (.int .i64 P)).set 1 (.int .i64 Q)).set 2 (.int .i64 G))
    have HX5Y := Lib.hid (HX5D.out.kept HYW.out (.inr (by omega)))
    have HZ1Y := Lib.hid (HZ1D.out.kept HYW.out (.inr (by omega)))
    have HKAY := Lib.hid (HKAD.out.kept HYW.out (.inr (by omega)))
    have HSY : Hid ((fun w' => w'.cell? ⟨GA, 0, none⟩ = some (.int .i64 P) ∧ w'.cell? ⟨GA, 1, none⟩ = some (.int .i64 Q) ∧ w'.cell? ⟨GA, 2, none⟩ = some (.int .i64 G) ∧ w'.cell? ⟨KA, 0, none⟩ = some (.slice qa qn qc) ∧ w'.cell? ⟨KA, 1, none⟩ = some (.int .i64 Y) ∧ w'.cell? ⟨KA, 2, none⟩ = some (.slice ca cn cc) ∧ w'.cell? ⟨KA, 3, none⟩ = some (.slice sa sn sc)) Y1) := ⟨HZ1Y.out.cell (i := 0) rfl, HZ1Y.out.cell (i := 1) rfl, HZ1Y.out.cell (i := 2) rfl, HKAY.out.cell (i := 0) rfl, HKAY.out.cell (i := 1) rfl, HKAY.out.cell (i := 2) rfl, HKAY.out.cell (i := 3) rfl⟩
    go_simp
    refine hK.out _ _ ?_ (fun _ => ?_)
    · rw [← hYG]; exact HSY.out
    rw [← hYG]
    clear hK K fr r0 r1 r2 hYG frd q0 q1 q2 hY z0 z1 z2 k0 k1 k2 k3
    (try simp only [Act.put, List.setIfInBounds_toArray, List.set_cons_zero, List.set_cons_succ])
    refine wpV_do (by kernel_rfl) (fun K hK => ?_)
    go_simp
    refine hK.out _ _ HSY.out (fun _ => ?_)
    clear hK K
    (try simp only [Act.put, List.setIfInBounds_toArray, List.set_cons_zero, List.set_cons_succ])
    refine wpV_do (by kernel_rfl) (fun K hK => ?_)
    go_simp
    refine hK.out _ _ HSY.out (fun _ => ?_)
    clear hK K
    (try simp only [Act.put, List.setIfInBounds_toArray, List.set_cons_zero, List.set_cons_succ])
    refine wpV_do (by kernel_rfl) (fun K hK => ?_)
    have r0 := HX5Y.out.cell (i := 0) rfl
    have r1 := HX5Y.out.cell (i := 1) rfl
    have r2 := HX5Y.out.cell (i := 2) rfl
    have r3 := HX5Y.out.cell (i := 3) rfl
    have fr := fun j => HX5Y.out.frozen j
    obtain ⟨Y2, hY⟩ : ∃ Z, Z = (((Y1.setCell ⟨w.heap.size + 1, 0, none⟩ (.slice qa qn qc)).setCell ⟨w.heap.size + 1, 1, none⟩ (.int .i64 Y)).setCell ⟨w.heap.size + 1, 2, none⟩ (.slice ca cn cc)).setCell ⟨w.heap.size + 1, 3, none⟩ (.slice sa sn sc) := ⟨_, rfl⟩
    have HYW2 : Hid (Within (w.heap.size + 1) (w.heap.size + 1 + 1) Y1 Y2) := by unfold Hid; rw [hY]; exact ((((Within.refl (w.heap.size + 1) (w.heap.size + 1 + 1) Y1).setCell (b := w.heap.size + 1) (by omega) (by omega) 0 (.slice qa qn qc)).setCell (b := w.heap.size + 1) (by omega) (by omega) 1 (.int .i64 Y)).setCell (b := w.heap.size + 1) (by omega) (by omega) 2 (.slice ca cn cc)).setCell (b := w.heap.size + 1) (by omega) (by omega) 3 (.slice sa sn sc)
    have HX5Z : Hid (BoxN Y2 (w.heap.size + 1) 73 [.slice qa qn qc, .int .i64 Y, .slice ca cn cc, .slice sa sn sc]) := by unfold Hid; rw [hY]; exact ((((HX5Y.out.set 0 (.slice qa qn qc)).set 1 (.int .i64 Y)).set 2 (.slice ca cn cc)).set 3 (.slice sa sn sc))
    have HX2Z := Lib.hid (HX2Y.out.kept HYW2.out (.inl (by omega)))
    have HZ1Z := Lib.hid (HZ1Y.out.kept HYW2.out (.inr (by omega)))
    have HKAZ := Lib.hid (HKAY.out.kept HYW2.out (.inr (by omega)))
    have HSZ : Hid ((fun w' => w'.cell? ⟨GA, 0, none⟩ = some (.int .i64 P) ∧ w'.cell? ⟨GA, 1, none⟩ = some (.int .i64 Q) ∧ w'.cell? ⟨GA, 2, none⟩ = some (.int .i64 G) ∧ w'.cell? ⟨KA, 0, none⟩ = some (.slice qa qn qc) ∧ w'.cell? ⟨KA, 1, none⟩ = some (.int .i64 Y) ∧ w'.cell? ⟨KA, 2, none⟩ = some (.slice ca cn cc) ∧ w'.cell? ⟨KA, 3, none⟩ = some (.slice sa sn sc)) Y2) := ⟨HZ1Z.out.cell (i := 0) rfl, HZ1Z.out.cell (i := 1) rfl, HZ1Z.out.cell (i := 2) rfl, HKAZ.out.cell (i := 0) rfl, HKAZ.out.cell (i := 1) rfl, HKAZ.out.cell (i := 2) rfl, HKAZ.out.cell (i := 3) rfl⟩
    go_simp
    refine hK.out _ _ ?_ (fun _ => ?_)
    · rw [← hY]; exact HSZ.out
    rw [← hY]
    clear hK K fr r0 r1 r2 r3 hY
    (try simp only [Act.put, List.setIfInBounds_toArray, List.set_cons_zero, List.set_cons_succ])
    refine wpV_done ?_
    go_wp2_with fail
    refine NoPanic.normal ?_
    have x0 := HX2Z.out.cell (i := 0) rfl
    have x1 := HX2Z.out.cell (i := 1) rfl
    have x2 := HX2Z.out.cell (i := 2) rfl
    have y0 := HX5Z.out.cell (i := 0) rfl
    have y1 := HX5Z.out.cell (i := 1) rfl
    have y2 := HX5Z.out.cell (i := 2) rfl
    have y3 := HX5Z.out.cell (i := 3) rfl
    try (go_wp2_with fail)
    have HAZ : Hid (Agr B0 u1 Y2) := (HAD.out.within HYW.out (by omega)).within HYW2.out (by omega)
    have HBZ : Hid (Below w.heap.size w Y2) := (HBD.out.trans (HYW.out.below HBD.out.size (Nat.le_refl _))).trans (HYW2.out.below (by have := HYW.out.size; have := HBD.out.size; omega) (by omega))
    refine bodyPost_ret (v := .tuple #[.agg #[.int .i64 P, .int .i64 Q, .int .i64 G], .slice la ln lc, .slice aa an ac, .agg #[.slice qa qn qc, .int .i64 Y, .slice ca cn cc, .slice sa sn sc]]) (by simp [results, Try.results37, go_sem, x0, x1, x2, y0, y1, y2, y3]) rfl ⟨⟨P, Q, G, _, l, _, anl, _, _, _, _, _, _, _, rfl, HGR.out, HLZ.out Y2 HAZ.out.1 HAZ.out.2, HAS.out Y2 HAZ.out.1 HAZ.out.2, ((HSQD.out.within HYW.out (by omega)).within HYW2.out (by omega)).here, ((HSCD.out.within HYW.out (by omega)).within HYW2.out (by omega)).here, ((HSSD.out.within HYW.out (by omega)).within HYW2.out (by omega)).here⟩, HBZ.out⟩
end Go.Proofs.Ytacpnphfopmofaa
