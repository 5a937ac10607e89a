/- Draws: proofs of openings to be checked: walks (printed by gen_dro.py). -/
import Derived.Test.YtboahnklilmdpaaSpoil
import Derived.Test.YtboahnklilmdpaaOp1
namespace Go.Proofs.Ytboahnklilmdpaa
open Go.RowKit
set_option linter.unusedSimpArgs false
set_option linter.unusedVariables false

/-- what holds in every world that agrees in the blocks from B on below T -/
def SinceT (B T : Nat) (w : World) (P : World → Prop) : Prop := T ≤ w.heap.size ∧ ∀ w', w.heap.size ≤ w'.heap.size → (∀ k, B ≤ k → k < T → w'.heap[k]? = w.heap[k]?) → P w'
theorem SinceT.of {B T : Nat} {w W : World} {P : World → Prop} (h : Since B w P) (hb : Below w.heap.size w W) (hT : w.heap.size ≤ T ∧ T ≤ W.heap.size) : SinceT B T W P :=
  ⟨hT.2, fun w' hs hk => h w' (Nat.le_trans hb.size hs) fun k h1 h2 => (hk k h1 (by omega)).trans (hb.block k h2)⟩
theorem SinceT.here {B T : Nat} {w : World} {P : World → Prop} (h : SinceT B T w P) : P w := h.2 w (Nat.le_refl _) fun _ _ _ => rfl
theorem SinceT.step {B T : Nat} {w w' : World} {P : World → Prop} (h : SinceT B T w P) (hs : w.heap.size ≤ w'.heap.size) (hb : ∀ k, B ≤ k → k < T → w'.heap[k]? = w.heap[k]?) : SinceT B T w' P :=
  ⟨Nat.le_trans h.1 hs, fun u h1 h2 => h.2 u (Nat.le_trans hs h1) fun k hk hlt => (h2 k hk hlt).trans (hb k hk hlt)⟩
theorem SinceT.within {B T lo hi : Nat} {w w' : World} {P : World → Prop} (h : SinceT B T w P) (hw : Within lo hi w w') (hT : T ≤ lo ∨ hi ≤ B) : SinceT B T w' P :=
  h.step hw.size fun k hk hlt => hw.block k (by have := h.1; omega) (by omega)
theorem SinceT.below {B T : Nat} {w w' : World} {P : World → Prop} (h : SinceT B T w P) (hb : Below w.heap.size w w') : SinceT B T w' P := h.step hb.size fun k _ hlt => hb.block k (by have := h.1; omega)
theorem SinceT.mono {B B' T : Nat} {w : World} {P : World → Prop} (h : SinceT B T w P) (hB : B' ≤ B) : Since B' w P := fun w' hs hk => h.2 w' hs fun k h1 h2 => hk k (by omega) (by have := h.1; omega)
theorem Within.belowU {lo hi : Nat} {w u Y : World} (hw : Within lo hi u Y) (h : Below w.heap.size w u) (hlo : w.heap.size ≤ lo) : Below w.heap.size w Y := h.trans (hw.below h.size hlo)
theorem cmR_bd {gr : GroupD} {bh : Int} {bl : List Int} {m r : Int} : 0 ≤ cmR gr bh bl m r ∧ cmR gr bh bl m r ≤ 2000000000 := by
  unfold cmR
  split
  · rename_i h
    obtain ⟨h1, _, _⟩ := cmB_parts h
    have hg := goodG_ok (baB_parts h1).1
    have := coM_small hg bh m r
    exact ⟨this.1, this.2⟩
  · exact ⟨by omega, by omega⟩
theorem poR_len (gr : GroupD) (s : ByteArray) (bh : Int) (bl : List Int) (m r : Int) (cs : List Int) : (poR gr s bh bl m r cs).c.length ≤ 30 ∧ (poR gr s bh bl m r cs).h.length ≤ 30 ∧ (poR gr s bh bl m r cs).r.length ≤ 30 := by
  unfold poR
  split
  · exact ⟨by simp [poD], by simp [poD], by simp [poD]⟩
  · exact ⟨by simp, by simp, by simp⟩
set_option maxRecDepth 100000 in
set_option maxHeartbeats 4000000 in
theorem spec_DrawProveOpeningS (v : Value) (w : World) (h : Bytes w v) :
    Calls Try.prog 77 #[v] w fun e w' => (∃ (P : Int) (Q : Int) (G : Int) (hr1 : Int) (vr1 : Value) (lr1 : List Int) (xr2 : Int) (xr3 : Int) (vr4 : Value) (lr4 : List Int), e = .returned (.tuple #[.agg #[.int .i64 P, .int .i64 Q, .int .i64 G], .agg #[.int .i64 hr1, vr1], .int .i64 xr2, .int .i64 xr3, vr4]) ∧ GrB ⟨P, Q, G⟩ ∧ ((-10 ≤ hr1 ∧ hr1 ≤ 2000000010) ∧ (Since w.heap.size w' (fun z => Ints z vr1 lr1) ∧ lr1.length ≤ 26)) ∧ (-10 ≤ xr2 ∧ xr2 ≤ 2000000010) ∧ (-10 ≤ xr3 ∧ xr3 ≤ 2000000010) ∧ (Since w.heap.size w' (fun z => Ints z vr4 lr4) ∧ lr4.length ≤ 1001)) ∧ Below w.heap.size w w' := by
  obtain ⟨a, m, c, rfl, hk1, hk2, hv⟩ := h
  have HY : Hid (Bytes w (.slice a m c)) := ⟨a, m, c, rfl, hk1, hk2, hv⟩
  clear hv
  unfold maxLen at hk2
  obtain ⟨U, hU⟩ : ∃ U, U = (w.alloc (.cells #[.int .i64 0, .int .i64 0, .int .i64 0] 39)).alloc (.cells #[.int .i64 0, (.slice none 0 0)] 79) := ⟨_, rfl⟩
  have hbU : Below w.heap.size w U := by rw [hU]; (repeat (first | exact Below.refl _ _ | assumption | refine Below.drew ?_ | refine Below.alloc ?_ (by first | (simp; done) | (simp; omega)) _ | refine Below.setCell ?_ (by first | (simp; done) | (simp; omega)) _))
  have HX0 : Hid (BoxN U w.heap.size 39 [.int .i64 0, .int .i64 0, .int .i64 0]) := by unfold Hid; rw [hU]; have h := ((BoxN.new w [.int .i64 0, .int .i64 0, .int .i64 0] 39).alloc (.cells #[.int .i64 0, (.slice none 0 0)] 79)); simpa using h
  have HX1 : Hid (BoxN U (w.heap.size + 1) 79 [.int .i64 0, (.slice none 0 0)]) := by unfold Hid; rw [hU]; have h := (BoxN.new (w.alloc (.cells #[.int .i64 0, .int .i64 0, .int .i64 0] 39)) [.int .i64 0, (.slice none 0 0)] 79); simpa using h
  have hsU : U.heap.size = w.heap.size + 1 + 1 := by rw [hU]; simp
  obtain ⟨W, hW⟩ : ∃ W, W = U.alloc (.cells #[.slice a m c, .int .i64 0, .int .u64 0] 170) := ⟨_, rfl⟩
  have HC : Hid (Cur U W U.heap.size 0) := by unfold Hid; rw [hW]; exact Cur.new U (HY.out.below hbU)
  have hbW : Below U.heap.size U W := by rw [hW]; exact (Below.refl _ _).alloc (Nat.le_refl _) _
  have HBW := Lib.hid (Below.next hbU hbW)
  have HUB := Lib.hid hbW
  replace HX0 := Lib.hid (HX0.out.below hbW)
  replace HX1 := Lib.hid (HX1.out.below hbW)
  obtain ⟨g, hg⟩ : ∃ g, g = U.heap.size := ⟨_, rfl⟩
  have HSU : Hid (w.heap.size + 1 + 1 = g) := by unfold Hid; rw [hg, hsU]
  have HWS : Hid (W.heap.size = g + 1) := by unfold Hid; rw [hW, hg]; simp
  go_enter Try.func77, Try.ntmps77
  go_wp2_with fail
  rw [← hU, ← hW]
  rw [HSU.out]
  rw [← hg] at HC HUB
  have HUS : Hid (U.heap.size = g) := hg.symm
  have hwg : w.heap.size + 2 = g := HSU.out
  have hsW := HWS.out
  have HW := Lib.hid (Within.refl g (g + 1) W)
  have HUC : Hid (Below U.heap.size U W) := by unfold Hid; rw [HUS.out]; exact HUB.out
  clear hU hW hbU hbW hsU hg
  have z_0_0 := HX0.out.cell (i := 0) rfl
  have z_0_1 := HX0.out.cell (i := 1) rfl
  have z_0_2 := HX0.out.cell (i := 2) rfl
  have z_1_0 := HX1.out.cell (i := 0) rfl
  have z_1_1 := HX1.out.cell (i := 1) rfl
  try (go_wp2_with fail)
  clear z_0_0 z_0_1 z_0_2 z_1_0 z_1_1
  refine (spec_anyGroup U g _ _ HC.out (HW.out.belowOf HUC.out (Nat.le_of_eq HUS.out)) (by omega)).mono ?_
  rintro e u1 ⟨⟨P, Q, G, rfl, P1, Q1, G1⟩, hc, hw⟩
  have HGR : Hid (GrB ⟨P, Q, G⟩) := ⟨P1, Q1, G1⟩
  clear P1 Q1 G1
  have hsz1 := hw.size
  replace HX0 := Lib.hid (HX0.out.kept hw (.inl (by omega)))
  replace HX1 := Lib.hid (HX1.out.kept hw (.inl (by omega)))
  replace HW := Lib.hid (HW.out.trans hw)
  replace HC := Lib.hid hc
  clear hc hw
  have z_0_0 := HX0.out.cell (i := 0) rfl
  have z_0_1 := HX0.out.cell (i := 1) rfl
  have z_0_2 := HX0.out.cell (i := 2) rfl
  have z_1_0 := HX1.out.cell (i := 0) rfl
  have z_1_1 := HX1.out.cell (i := 1) rfl
  have lt_HX0 := HX0.out.lt
  have lt_HX1 := HX1.out.lt
  obtain ⟨V2, hV⟩ : ∃ V, V = u1.alloc (.cells #[.int .i64 P, .int .i64 Q, .int .i64 G] 39) := ⟨_, rfl⟩
  have hbV : Below u1.heap.size u1 V2 := by rw [hV]; (repeat (first | exact Below.refl _ _ | assumption | refine Below.drew ?_ | refine Below.alloc ?_ (by first | (simp; done) | (simp; omega)) _ | refine Below.setCell ?_ (by first | (simp; done) | (simp; omega)) _))
  have HZ1 : Hid (BoxN V2 u1.heap.size 39 [.int .i64 P, .int .i64 Q, .int .i64 G]) := by unfold Hid; rw [hV]; have h := (BoxN.new u1 [.int .i64 P, .int .i64 Q, .int .i64 G] 39); simpa using h
  have hgc : g < u1.heap.size := HC.out.lt
  go_wp2_with fail
  rw [← hV]
  have hsV2 : V2.heap.size = u1.heap.size + 1 := by rw [hV]; simp
  clear hV hgc
  replace HX0 := Lib.hid (HX0.out.below hbV)
  replace HX1 := Lib.hid (HX1.out.below hbV)
  replace HW := Lib.hid (HW.out.trans (Within.of_below hbV))
  replace HC := Lib.hid (HC.out.keep hbV)
  clear hbV
  clear z_0_0 z_0_1 z_0_2 z_1_0 z_1_1
  clear lt_HX0
  clear lt_HX1
  have z_0_0 := HX0.out.cell (i := 0) rfl
  have z_0_1 := HX0.out.cell (i := 1) rfl
  have z_0_2 := HX0.out.cell (i := 2) rfl
  have z_1_0 := HX1.out.cell (i := 0) rfl
  have z_1_1 := HX1.out.cell (i := 1) rfl
  have z_2_0 := HZ1.out.cell (i := 0) rfl
  have z_2_1 := HZ1.out.cell (i := 1) rfl
  have z_2_2 := HZ1.out.cell (i := 2) rfl
  refine wp_region_noPanic ?_
  refine wp_region_Q (Within g (g + 1)) (DrawS U V2 g _ 1000000000 (fun w' => w'.cell? ⟨u1.heap.size, 0, none⟩ = some (.int .i64 P) ∧ w'.cell? ⟨u1.heap.size, 1, none⟩ = some (.int .i64 Q) ∧ w'.cell? ⟨u1.heap.size, 2, none⟩ = some (.int .i64 G))) 20 [(0, []), (1, []), (2, []), (3, [1, 0]), (4, []), (5, []), (6, [1, 0]), (7, []), (8, []), (9, [1, 0]), (10, []), (11, []), (12, [1, 0])] [13, 14, 15, 16, 17] (by kernel_rfl) (by kernel_rfl) (by kernel_rfl) rfl (fun _ _ _ _ h => h) (DrawS.good _ _ _ _ _ _) ⟨(Within.refl _ _ _).drew, by simpa using HC.out.keep (Below.refl _ _).drew, ⟨box_at z_2_0 (Below.refl _ _).drew, box_at z_2_1 (Below.refl _ _).drew, box_at z_2_2 (Below.refl _ _).drew⟩⟩ ?_
  simp only [pickP, pickN, List.getElem?_cons_zero, List.getElem?_cons_succ]
  iterate 3 (refine' chainQ_read (DrawS.good _ _ _ _ _ _) _ rfl rfl (fun m w' hm' hS' => ?_) ?_; rotate_left; · (simp only [lookP, allP, Act.put, List.getElem?_cons_zero, List.getElem?_cons_succ, List.setIfInBounds_toArray, List.set_cons_zero, List.set_cons_succ]; (try dsimp only [DrawS] at hS'); go_simp; (try with_reducible rfl)))
  -- 3: call { callee := value (func 169), args := #[t15, t16], argTypes := #[167, 39] }
  refine chainQ_do (d := (some 17)) (fun v u => ∃ (hq3 : Int) (vq3 : Value) (lq3 : List Int), v = (.agg #[.int .i64 hq3, vq3]) ∧ ((-10 ≤ hq3 ∧ hq3 ≤ 2000000010) ∧ (Since V2.heap.size u (fun z => Ints z vq3 lq3) ∧ lq3.length ≤ 26))) (fun v w1 w2 hw h => by obtain ⟨z0, z1, z2, h3, h4⟩ := h; exact ⟨z0, z1, z2, h3, ⟨h4.1, (h4.2.1).within hw (by omega), h4.2.2⟩⟩) rfl rfl (fun m w' hm' hS' => ?_) ?_
  · simp only [lookP, allP, Act.put, List.getElem?_cons_zero, List.getElem?_cons_succ, List.setIfInBounds_toArray, List.set_cons_zero, List.set_cons_succ]
    intro K hK
    replace hm' : m < 13 := hm'
    go_simp
    go_at_call 169
    refine (spec_anyBases U g _ P Q G _ hS'.2.1 (hS'.1.belowOf (HW.out.belowOf HUC.out (Nat.le_of_eq HUS.out)) (by have := HUS.out; omega)) (by omega) HGR.out).mono ?_
    rintro e u ⟨⟨hq3, vq3, lq3, rfl, ⟨hq3l, hq3u⟩, hsq3, hlq3⟩, hc, hw⟩
    exact hK.out _ _ hw ⟨hS'.1.trans hw, hc.mono (by omega), ⟨within_at (hS'.1.trans hw) z_2_0 (.inr (by omega)), within_at (hS'.1.trans hw) z_2_1 (.inr (by omega)), within_at (hS'.1.trans hw) z_2_2 (.inr (by omega))⟩⟩ ⟨hq3, vq3, lq3, rfl, ⟨⟨hq3l, hq3u⟩, (hsq3.mono (by have := hS'.1.size; omega)), hlq3⟩⟩
  iterate 2 (refine' chainQ_read (DrawS.good _ _ _ _ _ _) _ rfl rfl (fun m w' hm' hS' => ?_) ?_; rotate_left; · (simp only [lookP, allP, Act.put, List.getElem?_cons_zero, List.getElem?_cons_succ, List.setIfInBounds_toArray, List.set_cons_zero, List.set_cons_succ]; (try dsimp only [DrawS] at hS'); go_simp; (try with_reducible rfl)))
  -- 6: call { callee := value (func 147), args := #[t18, t19], argTypes := #[167, 39] }
  refine chainQ_do (d := (some 20)) (fun v u => ∃ (xq6 : Int), v = (.int .i64 xq6) ∧ (-10 ≤ xq6 ∧ xq6 ≤ 2000000010)) (fun v w1 w2 hw h => h) rfl rfl (fun m w' hm' hS' => ?_) ?_
  · simp only [lookP, allP, Act.put, List.getElem?_cons_zero, List.getElem?_cons_succ, List.setIfInBounds_toArray, List.set_cons_zero, List.set_cons_succ]
    intro K hK
    replace hm' : m < 13 := hm'
    go_simp
    go_at_call 147
    refine (spec_anyExpo U g _ P Q G _ hS'.2.1 (hS'.1.belowOf (HW.out.belowOf HUC.out (Nat.le_of_eq HUS.out)) (by have := HUS.out; omega)) (by omega) HGR.out).mono ?_
    rintro e u ⟨⟨xq6, rfl, xq6l, xq6u⟩, hc, hw⟩
    exact hK.out _ _ hw ⟨hS'.1.trans hw, hc.mono (by omega), ⟨within_at (hS'.1.trans hw) z_2_0 (.inr (by omega)), within_at (hS'.1.trans hw) z_2_1 (.inr (by omega)), within_at (hS'.1.trans hw) z_2_2 (.inr (by omega))⟩⟩ ⟨xq6, rfl, ⟨xq6l, xq6u⟩⟩
  iterate 2 (refine' chainQ_read (DrawS.good _ _ _ _ _ _) _ rfl rfl (fun m w' hm' hS' => ?_) ?_; rotate_left; · (simp only [lookP, allP, Act.put, List.getElem?_cons_zero, List.getElem?_cons_succ, List.setIfInBounds_toArray, List.set_cons_zero, List.set_cons_succ]; (try dsimp only [DrawS] at hS'); go_simp; (try with_reducible rfl)))
  -- 9: call { callee := value (func 147), args := #[t21, t22], argTypes := #[167, 39] }
  refine chainQ_do (d := (some 23)) (fun v u => ∃ (xq9 : Int), v = (.int .i64 xq9) ∧ (-10 ≤ xq9 ∧ xq9 ≤ 2000000010)) (fun v w1 w2 hw h => h) rfl rfl (fun m w' hm' hS' => ?_) ?_
  · simp only [lookP, allP, Act.put, List.getElem?_cons_zero, List.getElem?_cons_succ, List.setIfInBounds_toArray, List.set_cons_zero, List.set_cons_succ]
    intro K hK
    replace hm' : m < 13 := hm'
    go_simp
    go_at_call 147
    refine (spec_anyExpo U g _ P Q G _ hS'.2.1 (hS'.1.belowOf (HW.out.belowOf HUC.out (Nat.le_of_eq HUS.out)) (by have := HUS.out; omega)) (by omega) HGR.out).mono ?_
    rintro e u ⟨⟨xq9, rfl, xq9l, xq9u⟩, hc, hw⟩
    exact hK.out _ _ hw ⟨hS'.1.trans hw, hc.mono (by omega), ⟨within_at (hS'.1.trans hw) z_2_0 (.inr (by omega)), within_at (hS'.1.trans hw) z_2_1 (.inr (by omega)), within_at (hS'.1.trans hw) z_2_2 (.inr (by omega))⟩⟩ ⟨xq9, rfl, ⟨xq9l, xq9u⟩⟩
  iterate 2 (refine' chainQ_read (DrawS.good _ _ _ _ _ _) _ rfl rfl (fun m w' hm' hS' => ?_) ?_; rotate_left; · (simp only [lookP, allP, Act.put, List.getElem?_cons_zero, List.getElem?_cons_succ, List.setIfInBounds_toArray, List.set_cons_zero, List.set_cons_succ]; (try dsimp only [DrawS] at hS'); go_simp; (try with_reducible rfl)))
  -- 12: call { callee := value (func 136), args := #[t24, t25, const (int i64 2)], argTypes := #[167, 39, 3] }
  refine chainQ_do (d := (some 26)) (fun v u => ∃ (vq12 : Value) (lq12 : List Int), v = vq12 ∧ (Since V2.heap.size u (fun z => Ints z vq12 lq12) ∧ lq12.length ≤ 1001)) (fun v w1 w2 hw h => by obtain ⟨z0, z1, h3, h4⟩ := h; exact ⟨z0, z1, h3, ⟨(h4.1).within hw (by omega), h4.2⟩⟩) rfl rfl (fun m w' hm' hS' => ?_) ?_
  · simp only [lookP, allP, Act.put, List.getElem?_cons_zero, List.getElem?_cons_succ, List.setIfInBounds_toArray, List.set_cons_zero, List.set_cons_succ]
    intro K hK
    replace hm' : m < 13 := hm'
    go_simp
    go_at_call 136
    refine (spec_anyCoins U g _ P Q G 2 _ hS'.2.1 (hS'.1.belowOf (HW.out.belowOf HUC.out (Nat.le_of_eq HUS.out)) (by have := HUS.out; omega)) (by omega) HGR.out (by omega)).mono ?_
    rintro e u ⟨⟨vq12, lq12, rfl, hsq12, hlq12⟩, hc, hw⟩
    exact hK.out _ _ hw ⟨hS'.1.trans hw, hc.mono (by omega), ⟨within_at (hS'.1.trans hw) z_2_0 (.inr (by omega)), within_at (hS'.1.trans hw) z_2_1 (.inr (by omega)), within_at (hS'.1.trans hw) z_2_2 (.inr (by omega))⟩⟩ ⟨vq12, lq12, rfl, ⟨(hsq12.mono (by have := hS'.1.size; omega)), by omega⟩⟩
  refine chainQ_nil (fun u3 hS' => ?_)
  simp only [allP, Act.put, List.setIfInBounds_toArray, List.set_cons_zero, List.set_cons_succ]
  intro x12 hx12
  intro x9 hx9
  intro x6 hx6
  intro x3 hx3
  replace hS' : DrawS U V2 g _ 1000000000 _ 13 u3 := hS'
  obtain ⟨hw, hc, hC⟩ := hS'
  obtain ⟨hq3, vq3, lq3, rfl, ⟨hq3l, hq3u⟩, hsq3, hlq3⟩ := hx3
  obtain ⟨xq6, rfl, xq6l, xq6u⟩ := hx6
  obtain ⟨xq9, rfl, xq9l, xq9u⟩ := hx9
  obtain ⟨vq12, lq12, rfl, hsq12, hlq12⟩ := hx12
  have hsz3 := hw.size
  replace HX0 := Lib.hid (HX0.out.kept hw (.inl (by omega)))
  replace HX1 := Lib.hid (HX1.out.kept hw (.inl (by omega)))
  replace HZ1 := Lib.hid (HZ1.out.kept hw (.inr (by omega)))
  replace HW := Lib.hid (HW.out.trans hw)
  replace HC := Lib.hid hc
  clear hc hw hC
  clear z_0_0 z_0_1 z_0_2 z_1_0 z_1_1 z_2_0 z_2_1 z_2_2
  have HLq3 := Lib.hid hsq3
  obtain ⟨aq3, nq3, cq3, rfl⟩ := hsq3.here.shape
  have hnq3 : nq3 ≤ 26 := by have h1 := hsq3.here.len; omega
  have HEq3 := Lib.hid hsq3.here.len
  clear hsq3
  have HLq12 := Lib.hid hsq12
  obtain ⟨aq12, nq12, cq12, rfl⟩ := hsq12.here.shape
  have hnq12 : nq12 ≤ 1001 := by have h1 := hsq12.here.len; omega
  have HEq12 := Lib.hid hsq12.here.len
  clear hsq12
  have r_HX0_0 := HX0.out.cell (i := 0) rfl
  have r_HX0_1 := HX0.out.cell (i := 1) rfl
  have r_HX0_2 := HX0.out.cell (i := 2) rfl
  have fr_HX0 := fun j => HX0.out.frozen j
  have r_HX1_0 := HX1.out.cell (i := 0) rfl
  have r_HX1_1 := HX1.out.cell (i := 1) rfl
  have fr_HX1 := fun j => HX1.out.frozen j
  go_wp2_with fail
  refine NoPanic.normal ?_
  have FHX0 := Lib.hid (((((HX0.out.set 0 (.int .i64 P)).set 1 (.int .i64 Q)).set 2 (.int .i64 G)).other (b' := w.heap.size + 1) (by omega) 0 (.int .i64 hq3)).other (b' := w.heap.size + 1) (by omega) 1 (.slice aq3 nq3 cq3))
  have FHX1 := Lib.hid (((((HX1.out.other (b' := w.heap.size) (by omega) 0 (.int .i64 P)).other (b' := w.heap.size) (by omega) 1 (.int .i64 Q)).other (b' := w.heap.size) (by omega) 2 (.int .i64 G)).set 0 (.int .i64 hq3)).set 1 (.slice aq3 nq3 cq3))
  clear r_HX0_0 r_HX0_1 r_HX0_2 fr_HX0 r_HX1_0 r_HX1_1 fr_HX1
  have t_HX0_0 := FHX0.out.cell (i := 0) rfl
  have t_HX0_1 := FHX0.out.cell (i := 1) rfl
  have t_HX0_2 := FHX0.out.cell (i := 2) rfl
  have t_HX1_0 := FHX1.out.cell (i := 0) rfl
  have t_HX1_1 := FHX1.out.cell (i := 1) rfl
  try (go_wp2_with fail)
  have HYS := Lib.hid ((((((Within.refl w.heap.size (w.heap.size + 2) u3).setCell (b := w.heap.size) (by omega) (by omega) 0 (.int .i64 P)).setCell (b := w.heap.size) (by omega) (by omega) 1 (.int .i64 Q)).setCell (b := w.heap.size) (by omega) (by omega) 2 (.int .i64 G)).setCell (b := w.heap.size + 1) (by omega) (by omega) 0 (.int .i64 hq3)).setCell (b := w.heap.size + 1) (by omega) (by omega) 1 (.slice aq3 nq3 cq3))
  refine bodyPost_ret (v := .tuple #[.agg #[.int .i64 P, .int .i64 Q, .int .i64 G], .agg #[.int .i64 hq3, .slice aq3 nq3 cq3], .int .i64 xq6, .int .i64 xq9, .slice aq12 nq12 cq12]) (by simp [results, Try.results77, go_sem, t_HX0_0, t_HX0_1, t_HX0_2, t_HX1_0, t_HX1_1]) rfl ⟨⟨_, _, _, _, _, _, _, _, _, _, rfl, HGR.out, ⟨⟨by omega, by omega⟩, (HLq3.out.within HYS.out (by omega)).mono (by omega), by have := HEq3.out; omega⟩, ⟨by omega, by omega⟩, ⟨by omega, by omega⟩, ⟨(HLq12.out.within HYS.out (by omega)).mono (by omega), by have := HEq12.out; omega⟩⟩, ((((((HW.out.belowOf HBW.out (by omega)).setCell (p := ⟨w.heap.size, 0, none⟩) (by show w.heap.size ≤ w.heap.size; omega) (.int .i64 P)).setCell (p := ⟨w.heap.size, 1, none⟩) (by show w.heap.size ≤ w.heap.size; omega) (.int .i64 Q)).setCell (p := ⟨w.heap.size, 2, none⟩) (by show w.heap.size ≤ w.heap.size; omega) (.int .i64 G)).setCell (p := ⟨w.heap.size + 1, 0, none⟩) (by show w.heap.size ≤ w.heap.size + 1; omega) (.int .i64 hq3)).setCell (p := ⟨w.heap.size + 1, 1, none⟩) (by show w.heap.size ≤ w.heap.size + 1; omega) (.slice aq3 nq3 cq3))⟩
set_option maxRecDepth 100000 in
set_option maxHeartbeats 4000000 in
theorem spec_DrawVerifyOpening (v : Value) (w : World) (h : Bytes w v) :
    Calls Try.prog 82 #[v] w fun e w' => (∃ (P : Int) (Q : Int) (G : Int) (hr1 : Int) (vr1 : Value) (lr1 : List Int) (xr2 : Int) (vr3a : Value) (vr3b : Value) (vr3c : Value) (lr3a : List Int) (lr3b : List Int) (lr3c : List Int), e = .returned (.tuple #[.agg #[.int .i64 P, .int .i64 Q, .int .i64 G], .agg #[.int .i64 hr1, vr1], .int .i64 xr2, .agg #[vr3a, vr3b, vr3c]]) ∧ GrB ⟨P, Q, G⟩ ∧ ((-10 ≤ hr1 ∧ hr1 ≤ 2000000010) ∧ (Ints w' vr1 lr1 ∧ lr1.length ≤ 26)) ∧ (-10 ≤ xr2 ∧ xr2 ≤ 2000000010) ∧ (Ints w' vr3a lr3a ∧ lr3a.length ≤ 31) ∧ (Ints w' vr3b lr3b ∧ lr3b.length ≤ 31) ∧ (Ints w' vr3c lr3c ∧ lr3c.length ≤ 31)) ∧ Below w.heap.size w w' := by
  obtain ⟨a, m, c, rfl, hk1, hk2, hv⟩ := h
  have HY : Hid (Bytes w (.slice a m c)) := ⟨a, m, c, rfl, hk1, hk2, hv⟩
  clear hv
  unfold maxLen at hk2
  obtain ⟨R0, hR0⟩ : ∃ U, U = ((w.alloc (.cells #[.int .i64 0, .int .i64 0, .int .i64 0] 39)).alloc (.cells #[.int .i64 0, (.slice none 0 0)] 79)).alloc (.cells #[(.slice none 0 0), (.slice none 0 0), (.slice none 0 0)] 42) := ⟨_, rfl⟩
  have hbU : Below w.heap.size w R0 := by rw [hR0]; (repeat (first | exact Below.refl _ _ | assumption | refine Below.drew ?_ | refine Below.alloc ?_ (by first | (simp; done) | (simp; omega)) _ | refine Below.setCell ?_ (by first | (simp; done) | (simp; omega)) _))
  have HX0 : Hid (BoxN R0 w.heap.size 39 [.int .i64 0, .int .i64 0, .int .i64 0]) := by unfold Hid; rw [hR0]; have h := (((BoxN.new w [.int .i64 0, .int .i64 0, .int .i64 0] 39).alloc (.cells #[.int .i64 0, (.slice none 0 0)] 79)).alloc (.cells #[(.slice none 0 0), (.slice none 0 0), (.slice none 0 0)] 42)); simpa using h
  have HX1 : Hid (BoxN R0 (w.heap.size + 1) 79 [.int .i64 0, (.slice none 0 0)]) := by unfold Hid; rw [hR0]; have h := ((BoxN.new (w.alloc (.cells #[.int .i64 0, .int .i64 0, .int .i64 0] 39)) [.int .i64 0, (.slice none 0 0)] 79).alloc (.cells #[(.slice none 0 0), (.slice none 0 0), (.slice none 0 0)] 42)); simpa using h
  have HX2 : Hid (BoxN R0 (w.heap.size + 1 + 1) 42 [(.slice none 0 0), (.slice none 0 0), (.slice none 0 0)]) := by unfold Hid; rw [hR0]; have h := (BoxN.new ((w.alloc (.cells #[.int .i64 0, .int .i64 0, .int .i64 0] 39)).alloc (.cells #[.int .i64 0, (.slice none 0 0)] 79)) [(.slice none 0 0), (.slice none 0 0), (.slice none 0 0)] 42); simpa using h
  have hsU : R0.heap.size = w.heap.size + 1 + 1 + 1 := by rw [hR0]; simp
  have HBW := Lib.hid hbU
  go_enter Try.func82, Try.ntmps82
  go_wp2_with fail
  rw [← hR0]
  clear hR0
  refine (spec_DrawProveOpeningS _ _ (HY.out.below hbU)).mono ?_
  rintro e R1 ⟨⟨P, Q, G, h0b, v0b, l0b, x0c, x0d, v0e, l0e, rfl, hgr, ⟨⟨h0bl, h0bu⟩, hs0b, hl0b⟩, ⟨x0cl, x0cu⟩, ⟨x0dl, x0du⟩, ⟨hs0e, hl0e⟩⟩, hb1⟩
  have HGR := Lib.hid hgr
  clear hgr hbU
  replace HY := Lib.hid (HY.out.below (HBW.out.trans (hb1.mono HBW.out.size)))
  replace HBW := Lib.hid (Below.next HBW.out hb1)
  have hs1 := hb1.size
  replace HX0 := Lib.hid (HX0.out.below hb1)
  replace HX1 := Lib.hid (HX1.out.below hb1)
  replace HX2 := Lib.hid (HX2.out.below hb1)
  clear hb1
  obtain ⟨a0b, n0b, c0b, rfl⟩ := hs0b.here.shape
  have HE0b := Lib.hid hs0b.here.len
  have hn0b : n0b ≤ 26 := by have := HE0b.out; omega
  have HL0b := Lib.hid hs0b
  clear hs0b
  obtain ⟨a0e, n0e, c0e, rfl⟩ := hs0e.here.shape
  have HE0e := Lib.hid hs0e.here.len
  have hn0e : n0e ≤ 1001 := by have := HE0e.out; omega
  have HL0e := Lib.hid hs0e
  clear hs0e
  obtain ⟨U, hU⟩ : ∃ U, U = (R1.alloc (.cells #[.int .i64 P, .int .i64 Q, .int .i64 G] 39)).alloc (.cells #[.int .i64 h0b, .slice a0b n0b c0b] 79) := ⟨_, rfl⟩
  have hbU : Below R1.heap.size R1 U := by rw [hU]; (repeat (first | exact Below.refl _ _ | assumption | refine Below.drew ?_ | refine Below.alloc ?_ (by first | (simp; done) | (simp; omega)) _ | refine Below.setCell ?_ (by first | (simp; done) | (simp; omega)) _))
  have hsU : U.heap.size = R1.heap.size + 2 := by rw [hU]; simp
  have HLb0 : Hid (BoxN U R1.heap.size 39 [.int .i64 P, .int .i64 Q, .int .i64 G]) := by unfold Hid; rw [hU]; have h := ((BoxN.new R1 [.int .i64 P, .int .i64 Q, .int .i64 G] 39).alloc (.cells #[.int .i64 h0b, .slice a0b n0b c0b] 79)); simpa using h
  have HLb1 : Hid (BoxN U (R1.heap.size + 1) 79 [.int .i64 h0b, .slice a0b n0b c0b]) := by unfold Hid; rw [hU]; have h := (BoxN.new (R1.alloc (.cells #[.int .i64 P, .int .i64 Q, .int .i64 G] 39)) [.int .i64 h0b, .slice a0b n0b c0b] 79); simpa using h
  replace HX0 := Lib.hid (HX0.out.below hbU)
  replace HX1 := Lib.hid (HX1.out.below hbU)
  replace HX2 := Lib.hid (HX2.out.below hbU)
  have hr0 : R0.heap.size ≤ R1.heap.size := hs1
  have hwg : w.heap.size + 3 ≤ R0.heap.size := by omega
  replace HL0b : Hid (SinceT R0.heap.size U.heap.size U _) := SinceT.of HL0b.out hbU (by omega)
  replace HL0e : Hid (SinceT R0.heap.size U.heap.size U _) := SinceT.of HL0e.out hbU (by omega)
  replace HY := Lib.hid (HY.out.below hbU)
  replace HBW := Lib.hid (Below.next HBW.out hbU)
  clear hbU
  obtain ⟨W, hW⟩ : ∃ W, W = U.alloc (.cells #[.slice a m c, .int .i64 0, .int .u64 0] 170) := ⟨_, rfl⟩
  have HC : Hid (Cur U W U.heap.size 0) := by unfold Hid; rw [hW]; exact Cur.new U HY.out
  have hbW : Below U.heap.size U W := by rw [hW]; exact (Below.refl _ _).alloc (Nat.le_refl _) _
  replace HBW := Lib.hid (Below.next HBW.out hbW)
  have HUB := Lib.hid hbW
  replace HX0 := Lib.hid (HX0.out.below hbW)
  replace HX1 := Lib.hid (HX1.out.below hbW)
  replace HX2 := Lib.hid (HX2.out.below hbW)
  replace HLb0 := Lib.hid (HLb0.out.below hbW)
  replace HLb1 := Lib.hid (HLb1.out.below hbW)
  replace HL0b := Lib.hid (HL0b.out.below hbW)
  replace HL0e := Lib.hid (HL0e.out.below hbW)
  have lz_HLb0_0 := HLb0.out.cell (i := 0) rfl
  have lz_HLb0_1 := HLb0.out.cell (i := 1) rfl
  have lz_HLb0_2 := HLb0.out.cell (i := 2) rfl
  have lz_HLb1_0 := HLb1.out.cell (i := 0) rfl
  have lz_HLb1_1 := HLb1.out.cell (i := 1) rfl
  have hsW1 : W.heap.size = U.heap.size + 1 := by rw [hW]; simp
  go_wp2_with fail
  rw [← hU, ← hW]
  clear hU hW lz_HLb0_0 lz_HLb0_1 lz_HLb0_2 lz_HLb1_0 lz_HLb1_1
  obtain ⟨g, hg⟩ : ∃ g, g = U.heap.size := ⟨_, rfl⟩
  (try rw [show R1.heap.size + 1 + 1 = g by omega])
  (try rw [← hg])
  rw [← hg] at HC HUB
  have HWS : Hid (W.heap.size = g + 1) := by unfold Hid; omega
  have HUS : Hid (U.heap.size = g) := hg.symm
  have HW := Lib.hid (Within.refl g (g + 1) W)
  have HUC : Hid (Below U.heap.size U W) := by unfold Hid; rw [HUS.out]; exact HUB.out
  have hgl : R1.heap.size + 1 < g := by omega
  have hgU : U.heap.size ≤ g := by omega
  have hgW : g < W.heap.size := by omega
  clear hg hsW1 hsU hbW
  have z_0_0 := HX0.out.cell (i := 0) rfl
  have z_0_1 := HX0.out.cell (i := 1) rfl
  have z_0_2 := HX0.out.cell (i := 2) rfl
  have z_1_0 := HX1.out.cell (i := 0) rfl
  have z_1_1 := HX1.out.cell (i := 1) rfl
  have z_2_0 := HX2.out.cell (i := 0) rfl
  have z_2_1 := HX2.out.cell (i := 1) rfl
  have z_2_2 := HX2.out.cell (i := 2) rfl
  have z_3_0 := HLb0.out.cell (i := 0) rfl
  have z_3_1 := HLb0.out.cell (i := 1) rfl
  have z_3_2 := HLb0.out.cell (i := 2) rfl
  have z_4_0 := HLb1.out.cell (i := 0) rfl
  have z_4_1 := HLb1.out.cell (i := 1) rfl
  try (go_wp2_with fail)
  clear z_0_0 z_0_1 z_0_2 z_1_0 z_1_1 z_2_0 z_2_1 z_2_2 z_3_0 z_3_1 z_3_2 z_4_0 z_4_1
  refine (spec_ProveOpening ⟨P, Q, G⟩ h0b _ l0b x0c x0d _ l0e _ HL0b.out.here ⟨by omega, by omega⟩ ⟨by omega, by omega⟩ ⟨by omega, by omega⟩ HL0e.out.here).mono ?_
  rintro e u1 ⟨⟨v1a, v1b, v1c, rfl, o1a, o1b, o1c⟩, hb⟩
  obtain ⟨n1a, n1b, n1c⟩ := poR_len ⟨P, Q, G⟩ sOpen h0b l0b x0c x0d l0e
  obtain ⟨q1q, hq1q⟩ : ∃ r, poB ⟨P, Q, G⟩ h0b l0b x0c x0d l0e = r := ⟨_, rfl⟩
  have Hq1q := Lib.hid hq1q
  rw [hq1q]
  clear hq1q
  obtain ⟨l1a, hl1a⟩ : ∃ l, (poR ⟨P, Q, G⟩ sOpen h0b l0b x0c x0d l0e).c = l := ⟨_, rfl⟩
  rw [hl1a] at o1a n1a
  clear hl1a
  obtain ⟨a1a, n1a_, c1a, rfl⟩ := o1a.ints.shape
  have HE1a := Lib.hid o1a.ints.len
  have HL1a : Hid (Since W.heap.size u1 (fun z => Ints z (.slice a1a n1a_ c1a) l1a)) := Since.of_ownI o1a (Nat.le_refl _)
  clear o1a
  obtain ⟨l1b, hl1b⟩ : ∃ l, (poR ⟨P, Q, G⟩ sOpen h0b l0b x0c x0d l0e).h = l := ⟨_, rfl⟩
  rw [hl1b] at o1b n1b
  clear hl1b
  obtain ⟨a1b, n1b_, c1b, rfl⟩ := o1b.ints.shape
  have HE1b := Lib.hid o1b.ints.len
  have HL1b : Hid (Since W.heap.size u1 (fun z => Ints z (.slice a1b n1b_ c1b) l1b)) := Since.of_ownI o1b (Nat.le_refl _)
  clear o1b
  obtain ⟨l1c, hl1c⟩ : ∃ l, (poR ⟨P, Q, G⟩ sOpen h0b l0b x0c x0d l0e).r = l := ⟨_, rfl⟩
  rw [hl1c] at o1c n1c
  clear hl1c
  obtain ⟨a1c, n1c_, c1c, rfl⟩ := o1c.ints.shape
  have HE1c := Lib.hid o1c.ints.len
  have HL1c : Hid (Since W.heap.size u1 (fun z => Ints z (.slice a1c n1c_ c1c) l1c)) := Since.of_ownI o1c (Nat.le_refl _)
  clear o1c
  have hsz1 := hb.size
  replace HX0 := Lib.hid (HX0.out.below hb)
  replace HX1 := Lib.hid (HX1.out.below hb)
  replace HX2 := Lib.hid (HX2.out.below hb)
  replace HLb0 := Lib.hid (HLb0.out.below hb)
  replace HLb1 := Lib.hid (HLb1.out.below hb)
  replace HL0b := Lib.hid (HL0b.out.below hb)
  replace HL0e := Lib.hid (HL0e.out.below hb)
  replace HW := Lib.hid (HW.out.trans (Within.of_below hb))
  replace HC := Lib.hid (HC.out.keep hb)
  clear hb
  have z_0_0 := HX0.out.cell (i := 0) rfl
  have z_0_1 := HX0.out.cell (i := 1) rfl
  have z_0_2 := HX0.out.cell (i := 2) rfl
  have z_1_0 := HX1.out.cell (i := 0) rfl
  have z_1_1 := HX1.out.cell (i := 1) rfl
  have z_2_0 := HX2.out.cell (i := 0) rfl
  have z_2_1 := HX2.out.cell (i := 1) rfl
  have z_2_2 := HX2.out.cell (i := 2) rfl
  have z_3_0 := HLb0.out.cell (i := 0) rfl
  have z_3_1 := HLb0.out.cell (i := 1) rfl
  have z_3_2 := HLb0.out.cell (i := 2) rfl
  have z_4_0 := HLb1.out.cell (i := 0) rfl
  have z_4_1 := HLb1.out.cell (i := 1) rfl
  have lt_HX0 := HX0.out.lt
  have lt_HX1 := HX1.out.lt
  have lt_HX2 := HX2.out.lt
  have lt_HLb0 := HLb0.out.lt
  have lt_HLb1 := HLb1.out.lt
  obtain ⟨V2, hV⟩ : ∃ V, V = u1.alloc (.cells #[.slice a1a n1a_ c1a, .slice a1b n1b_ c1b, .slice a1c n1c_ c1c] 42) := ⟨_, rfl⟩
  have hbV : Below u1.heap.size u1 V2 := by rw [hV]; (repeat (first | exact Below.refl _ _ | assumption | refine Below.drew ?_ | refine Below.alloc ?_ (by first | (simp; done) | (simp; omega)) _ | refine Below.setCell ?_ (by first | (simp; done) | (simp; omega)) _))
  have HZ1 : Hid (BoxN V2 u1.heap.size 42 [.slice a1a n1a_ c1a, .slice a1b n1b_ c1b, .slice a1c n1c_ c1c]) := by unfold Hid; rw [hV]; have h := (BoxN.new u1 [.slice a1a n1a_ c1a, .slice a1b n1b_ c1b, .slice a1c n1c_ c1c] 42); simpa using h
  have hgc : g < u1.heap.size := HC.out.lt
  go_wp2_with fail
  rw [← hV]
  have hsV2 : V2.heap.size = u1.heap.size + 1 := by rw [hV]; simp
  clear hV hgc
  replace HX0 := Lib.hid (HX0.out.below hbV)
  replace HX1 := Lib.hid (HX1.out.below hbV)
  replace HX2 := Lib.hid (HX2.out.below hbV)
  replace HLb0 := Lib.hid (HLb0.out.below hbV)
  replace HLb1 := Lib.hid (HLb1.out.below hbV)
  replace HL0b := Lib.hid (HL0b.out.below hbV)
  replace HL0e := Lib.hid (HL0e.out.below hbV)
  replace HL1a := Lib.hid (HL1a.out.below hbV)
  replace HL1b := Lib.hid (HL1b.out.below hbV)
  replace HL1c := Lib.hid (HL1c.out.below hbV)
  replace HW := Lib.hid (HW.out.trans (Within.of_below hbV))
  replace HC := Lib.hid (HC.out.keep hbV)
  clear hbV
  clear z_0_0 z_0_1 z_0_2 z_1_0 z_1_1 z_2_0 z_2_1 z_2_2 z_3_0 z_3_1 z_3_2 z_4_0 z_4_1
  clear lt_HX0
  clear lt_HX1
  clear lt_HX2
  clear lt_HLb0
  clear lt_HLb1
  refine (spec_Commit ⟨P, Q, G⟩ h0b _ l0b x0c x0d _ HL0b.out.here ⟨by omega, by omega⟩ ⟨by omega, by omega⟩ ⟨by omega, by omega⟩).mono ?_
  rintro e u3 ⟨rfl, hb⟩
  obtain ⟨r3a, hr3a⟩ : ∃ r, cmR ⟨P, Q, G⟩ h0b l0b x0c x0d = r := ⟨_, rfl⟩
  have Hr3a := Lib.hid hr3a
  rw [hr3a]
  clear hr3a
  have hx_r3a : 0 ≤ r3a ∧ r3a ≤ 2000000000 := by rw [← Hr3a.out]; exact cmR_bd
  obtain ⟨r3al, r3au⟩ := hx_r3a
  obtain ⟨q3b, hq3b⟩ : ∃ r, cmB ⟨P, Q, G⟩ h0b l0b x0c x0d = r := ⟨_, rfl⟩
  have Hq3b := Lib.hid hq3b
  rw [hq3b]
  clear hq3b
  have hsz3 := hb.size
  replace HX0 := Lib.hid (HX0.out.below hb)
  replace HX1 := Lib.hid (HX1.out.below hb)
  replace HX2 := Lib.hid (HX2.out.below hb)
  replace HLb0 := Lib.hid (HLb0.out.below hb)
  replace HLb1 := Lib.hid (HLb1.out.below hb)
  replace HZ1 := Lib.hid (HZ1.out.below hb)
  replace HL0b := Lib.hid (HL0b.out.below hb)
  replace HL0e := Lib.hid (HL0e.out.below hb)
  replace HL1a := Lib.hid (HL1a.out.below hb)
  replace HL1b := Lib.hid (HL1b.out.below hb)
  replace HL1c := Lib.hid (HL1c.out.below hb)
  replace HW := Lib.hid (HW.out.trans (Within.of_below hb))
  replace HC := Lib.hid (HC.out.keep hb)
  clear hb
  cases q3b with
  | false =>
    have z_0_0 := HX0.out.cell (i := 0) rfl
    have z_0_1 := HX0.out.cell (i := 1) rfl
    have z_0_2 := HX0.out.cell (i := 2) rfl
    have z_1_0 := HX1.out.cell (i := 0) rfl
    have z_1_1 := HX1.out.cell (i := 1) rfl
    have z_2_0 := HX2.out.cell (i := 0) rfl
    have z_2_1 := HX2.out.cell (i := 1) rfl
    have z_2_2 := HX2.out.cell (i := 2) rfl
    have z_3_0 := HLb0.out.cell (i := 0) rfl
    have z_3_1 := HLb0.out.cell (i := 1) rfl
    have z_3_2 := HLb0.out.cell (i := 2) rfl
    have z_4_0 := HLb1.out.cell (i := 0) rfl
    have z_4_1 := HLb1.out.cell (i := 1) rfl
    have z_5_0 := HZ1.out.cell (i := 0) rfl
    have z_5_1 := HZ1.out.cell (i := 1) rfl
    have z_5_2 := HZ1.out.cell (i := 2) rfl
    try (go_wp2_with fail)
    clear z_0_0 z_0_1 z_0_2 z_1_0 z_1_1 z_2_0 z_2_1 z_2_2 z_3_0 z_3_1 z_3_2 z_4_0 z_4_1 z_5_0 z_5_1 z_5_2
    refine (spec_anyElement U g _ P Q G _ HC.out (HW.out.belowOf HUC.out (Nat.le_of_eq HUS.out)) (by omega) HGR.out).mono ?_
    rintro e u4 ⟨⟨x4, rfl, x4l, x4u⟩, hc, hw⟩
    have hsz4 := hw.size
    replace HX0 := Lib.hid (HX0.out.kept hw (.inl (by omega)))
    replace HX1 := Lib.hid (HX1.out.kept hw (.inl (by omega)))
    replace HX2 := Lib.hid (HX2.out.kept hw (.inl (by omega)))
    replace HLb0 := Lib.hid (HLb0.out.kept hw (.inl (by omega)))
    replace HLb1 := Lib.hid (HLb1.out.kept hw (.inl (by omega)))
    replace HZ1 := Lib.hid (HZ1.out.kept hw (.inr (by omega)))
    replace HL0b := Lib.hid (HL0b.out.within hw (by omega))
    replace HL0e := Lib.hid (HL0e.out.within hw (by omega))
    replace HL1a := Lib.hid (HL1a.out.within hw (by omega))
    replace HL1b := Lib.hid (HL1b.out.within hw (by omega))
    replace HL1c := Lib.hid (HL1c.out.within hw (by omega))
    replace HW := Lib.hid (HW.out.trans hw)
    replace HC := Lib.hid hc
    clear hc hw
    have z_0_0 := HX0.out.cell (i := 0) rfl
    have z_0_1 := HX0.out.cell (i := 1) rfl
    have z_0_2 := HX0.out.cell (i := 2) rfl
    have z_1_0 := HX1.out.cell (i := 0) rfl
    have z_1_1 := HX1.out.cell (i := 1) rfl
    have z_2_0 := HX2.out.cell (i := 0) rfl
    have z_2_1 := HX2.out.cell (i := 1) rfl
    have z_2_2 := HX2.out.cell (i := 2) rfl
    have z_3_0 := HLb0.out.cell (i := 0) rfl
    have z_3_1 := HLb0.out.cell (i := 1) rfl
    have z_3_2 := HLb0.out.cell (i := 2) rfl
    have z_4_0 := HLb1.out.cell (i := 0) rfl
    have z_4_1 := HLb1.out.cell (i := 1) rfl
    have z_5_0 := HZ1.out.cell (i := 0) rfl
    have z_5_1 := HZ1.out.cell (i := 1) rfl
    have z_5_2 := HZ1.out.cell (i := 2) rfl
    try (go_wp2_with fail)
    clear z_0_0
    clear z_0_1
    clear z_0_2
    clear z_1_0
    clear z_1_1
    clear z_2_0
    clear z_2_1
    clear z_2_2
    refine wp_region_noPanic ?_
    refine wp_region_V (fun w' => w'.cell? ⟨R1.heap.size, 0, none⟩ = some (.int .i64 P) ∧ w'.cell? ⟨R1.heap.size, 1, none⟩ = some (.int .i64 Q) ∧ w'.cell? ⟨R1.heap.size, 2, none⟩ = some (.int .i64 G) ∧ w'.cell? ⟨R1.heap.size + 1, 0, none⟩ = some (.int .i64 h0b) ∧ w'.cell? ⟨R1.heap.size + 1, 1, none⟩ = some (.slice a0b n0b c0b) ∧ w'.cell? ⟨u1.heap.size, 0, none⟩ = some (.slice a1a n1a_ c1a) ∧ w'.cell? ⟨u1.heap.size, 1, none⟩ = some (.slice a1b n1b_ c1b) ∧ w'.cell? ⟨u1.heap.size, 2, none⟩ = some (.slice a1c n1c_ c1c)) 13 11 (.rd 0 (.rd 2 (.rd 3 (.rd 4 (.rd 5 (.alt 1 (.alt 6 (.alt 7 (.alt 8 (.alt 9 (.alt 10 .done .nil) .nil) .nil) .nil) .nil) (.alt 6 (.alt 1 (.alt 7 (.alt 8 (.alt 9 (.alt 10 .done .nil) .nil) .nil) .nil) (.alt 7 (.alt 1 (.alt 8 (.alt 9 (.alt 10 .done .nil) .nil) .nil) .nil) .nil)) .nil))))))) [] (by kernel_rfl) (by kernel_rfl) rfl (fun _ _ _ _ _ h => h) ⟨box_at z_3_0 (Below.refl _ _).drew, box_at z_3_1 (Below.refl _ _).drew, box_at z_3_2 (Below.refl _ _).drew, box_at z_4_0 (Below.refl _ _).drew, box_at z_4_1 (Below.refl _ _).drew, box_at z_5_0 (Below.refl _ _).drew, box_at z_5_1 (Below.refl _ _).drew, box_at z_5_2 (Below.refl _ _).drew⟩ ?_
    simp only [pickV, pickN, List.getElem?_cons_zero, List.getElem?_cons_succ]
    repeat (refine' wpV_read _ (by kernel_rfl) (fun w' hS' => ?_) ?_; rotate_left; · ((try dsimp only at hS'); go_simp; (try with_reducible rfl)); (try simp only [Act.put, List.setIfInBounds_toArray, List.set_cons_zero, List.set_cons_succ]))
    have hdr : Below u4.heap.size u4 u4.drew := (Below.refl _ _).drew
    have hszd := hdr.size
    replace HX0 := Lib.hid (HX0.out.below hdr)
    replace HX1 := Lib.hid (HX1.out.below hdr)
    replace HX2 := Lib.hid (HX2.out.below hdr)
    replace HLb0 := Lib.hid (HLb0.out.below hdr)
    replace HLb1 := Lib.hid (HLb1.out.below hdr)
    replace HZ1 := Lib.hid (HZ1.out.below hdr)
    replace HL0b := Lib.hid (HL0b.out.below hdr)
    replace HL0e := Lib.hid (HL0e.out.below hdr)
    replace HL1a := Lib.hid (HL1a.out.below hdr)
    replace HL1b := Lib.hid (HL1b.out.below hdr)
    replace HL1c := Lib.hid (HL1c.out.below hdr)
    replace HW := Lib.hid (HW.out.trans (Within.of_below hdr))
    replace HC := Lib.hid (HC.out.keep hdr)
    clear hdr
    refine wpV_or (by kernel_rfl) (fun K hK => ?_) ?_
    · -- 1: load
      go_simp
      refine hK.out _ _ ⟨z_3_0, z_3_1, z_3_2, z_4_0, z_4_1, z_5_0, z_5_1, z_5_2⟩ (fun _ => ?_)
      clear hK K
      (try simp only [Act.put, List.setIfInBounds_toArray, List.set_cons_zero, List.set_cons_succ])
      refine wpV_do (by kernel_rfl) (fun K hK => ?_)
      -- 6: call
      go_simp
      go_at_call 201
      refine (spec_spoiltProof U g _ P Q G _ _ _ l1a l1b l1c _ HC.out (HW.out.belowOf HUC.out (Nat.le_of_eq HUS.out)) (by omega) HGR.out HL1a.out.here HL1b.out.here HL1c.out.here (by have := HE1a.out; omega) (by have := HE1b.out; omega) (by have := HE1c.out; omega)).mono ?_
      rintro e ut1 ⟨⟨vt1a, vt1b, vt1c, lt1a, lt1b, lt1c, rfl, ⟨hst1a, hlt1a⟩, ⟨hst1b, hlt1b⟩, ⟨hst1c, hlt1c⟩⟩, hc, hw⟩
      have HLt1a := Lib.hid hst1a
      obtain ⟨at1a, nt1a, ct1a, rfl⟩ := hst1a.here.shape
      have hnt1a : nt1a ≤ 31 := by have h1 := hst1a.here.len; omega
      have HEt1a := Lib.hid hst1a.here.len
      clear hst1a
      have HLt1b := Lib.hid hst1b
      obtain ⟨at1b, nt1b, ct1b, rfl⟩ := hst1b.here.shape
      have hnt1b : nt1b ≤ 31 := by have h1 := hst1b.here.len; omega
      have HEt1b := Lib.hid hst1b.here.len
      clear hst1b
      have HLt1c := Lib.hid hst1c
      obtain ⟨at1c, nt1c, ct1c, rfl⟩ := hst1c.here.shape
      have hnt1c : nt1c ≤ 31 := by have h1 := hst1c.here.len; omega
      have HEt1c := Lib.hid hst1c.here.len
      clear hst1c
      have hszt1 := hw.size
      replace HX0 := Lib.hid (HX0.out.kept hw (.inl (by omega)))
      replace HX1 := Lib.hid (HX1.out.kept hw (.inl (by omega)))
      replace HX2 := Lib.hid (HX2.out.kept hw (.inl (by omega)))
      replace HLb0 := Lib.hid (HLb0.out.kept hw (.inl (by omega)))
      replace HLb1 := Lib.hid (HLb1.out.kept hw (.inl (by omega)))
      replace HZ1 := Lib.hid (HZ1.out.kept hw (.inr (by omega)))
      replace HL0b := Lib.hid (HL0b.out.within hw (by omega))
      replace HL0e := Lib.hid (HL0e.out.within hw (by omega))
      replace HL1a := Lib.hid (HL1a.out.within hw (by omega))
      replace HL1b := Lib.hid (HL1b.out.within hw (by omega))
      replace HL1c := Lib.hid (HL1c.out.within hw (by omega))
      replace HW := Lib.hid (HW.out.trans hw)
      replace HC := Lib.hid hc
      clear hc hw
      clear z_3_0 z_3_1 z_3_2 z_4_0 z_4_1 z_5_0 z_5_1 z_5_2
      have z_3_0 := HLb0.out.cell (i := 0) rfl
      have z_3_1 := HLb0.out.cell (i := 1) rfl
      have z_3_2 := HLb0.out.cell (i := 2) rfl
      have z_4_0 := HLb1.out.cell (i := 0) rfl
      have z_4_1 := HLb1.out.cell (i := 1) rfl
      have z_5_0 := HZ1.out.cell (i := 0) rfl
      have z_5_1 := HZ1.out.cell (i := 1) rfl
      have z_5_2 := HZ1.out.cell (i := 2) rfl
      refine hK.out _ _ ⟨z_3_0, z_3_1, z_3_2, z_4_0, z_4_1, z_5_0, z_5_1, z_5_2⟩ (fun _ => ?_)
      clear hK K
      (try simp only [Act.put, List.setIfInBounds_toArray, List.set_cons_zero, List.set_cons_succ])
      refine wpV_do (by kernel_rfl) (fun K hK => ?_)
      -- 7: store
      have r0 := HX0.out.cell (i := 0) rfl
      have r1 := HX0.out.cell (i := 1) rfl
      have r2 := HX0.out.cell (i := 2) rfl
      have fr := fun j => HX0.out.frozen j
      obtain ⟨Y2, hY⟩ : ∃ Y, Y = ((ut1.setCell ⟨w.heap.size, 0, none⟩ (.int .i64 P)).setCell ⟨w.heap.size, 1, none⟩ (.int .i64 Q)).setCell ⟨w.heap.size, 2, none⟩ (.int .i64 G) := ⟨_, rfl⟩
      have hYl : Within (w.heap.size) (w.heap.size + 1) ut1 Y2 := by rw [hY]; exact ((((Within.refl (w.heap.size) (w.heap.size + 1) ut1).setCell (b := w.heap.size) (by omega) (by omega) 0 (.int .i64 P)).setCell (b := w.heap.size) (by omega) (by omega) 1 (.int .i64 Q)).setCell (b := w.heap.size) (by omega) (by omega) 2 (.int .i64 G))
      go_simp
      refine hK.out _ _ ?_ (fun _ => ?_)
      · rw [← hY]; exact ⟨(within_at hYl z_3_0 (by omega)), (within_at hYl z_3_1 (by omega)), (within_at hYl z_3_2 (by omega)), (within_at hYl z_4_0 (by omega)), (within_at hYl z_4_1 (by omega)), (within_at hYl z_5_0 (by omega)), (within_at hYl z_5_1 (by omega)), (within_at hYl z_5_2 (by omega))⟩
      rw [← hY]
      clear hK K fr r0 r1 r2
      replace HX0 : Hid (BoxN Y2 w.heap.size 39 [.int .i64 P, .int .i64 Q, .int .i64 G]) := by unfold Hid; rw [hY]; exact (((HX0.out.set 0 (.int .i64 P)).set 1 (.int .i64 Q)).set 2 (.int .i64 G))
      replace HX1 := Lib.hid (HX1.out.kept hYl (by omega))
      replace HX2 := Lib.hid (HX2.out.kept hYl (by omega))
      replace HLb0 := Lib.hid (HLb0.out.kept hYl (by omega))
      replace HLb1 := Lib.hid (HLb1.out.kept hYl (by omega))
      replace HZ1 := Lib.hid (HZ1.out.kept hYl (by omega))
      have HYW : Hid (Within w.heap.size (w.heap.size + 3) ut1 Y2) := hYl.mono (by omega) (by omega)
      have HYB : Hid (Below w.heap.size w Y2) := hYl.belowU (HW.out.belowOf HBW.out (by omega)) (by omega)
      clear hY hYl
      (try simp only [Act.put, List.setIfInBounds_toArray, List.set_cons_zero, List.set_cons_succ])
      clear z_3_0 z_3_1 z_3_2 z_4_0 z_4_1 z_5_0 z_5_1 z_5_2
      have z_3_0 := HLb0.out.cell (i := 0) rfl
      have z_3_1 := HLb0.out.cell (i := 1) rfl
      have z_3_2 := HLb0.out.cell (i := 2) rfl
      have z_4_0 := HLb1.out.cell (i := 0) rfl
      have z_4_1 := HLb1.out.cell (i := 1) rfl
      have z_5_0 := HZ1.out.cell (i := 0) rfl
      have z_5_1 := HZ1.out.cell (i := 1) rfl
      have z_5_2 := HZ1.out.cell (i := 2) rfl
      refine wpV_do (by kernel_rfl) (fun K hK => ?_)
      -- 8: store
      have r0 := HX1.out.cell (i := 0) rfl
      have r1 := HX1.out.cell (i := 1) rfl
      have fr := fun j => HX1.out.frozen j
      obtain ⟨Y3, hY⟩ : ∃ Y, Y = (Y2.setCell ⟨w.heap.size + 1, 0, none⟩ (.int .i64 h0b)).setCell ⟨w.heap.size + 1, 1, none⟩ (.slice a0b n0b c0b) := ⟨_, rfl⟩
      have hYl : Within (w.heap.size + 1) (w.heap.size + 1 + 1) Y2 Y3 := by rw [hY]; exact (((Within.refl (w.heap.size + 1) (w.heap.size + 1 + 1) Y2).setCell (b := w.heap.size + 1) (by omega) (by omega) 0 (.int .i64 h0b)).setCell (b := w.heap.size + 1) (by omega) (by omega) 1 (.slice a0b n0b c0b))
      go_simp
      refine hK.out _ _ ?_ (fun _ => ?_)
      · rw [← hY]; exact ⟨(within_at hYl z_3_0 (by omega)), (within_at hYl z_3_1 (by omega)), (within_at hYl z_3_2 (by omega)), (within_at hYl z_4_0 (by omega)), (within_at hYl z_4_1 (by omega)), (within_at hYl z_5_0 (by omega)), (within_at hYl z_5_1 (by omega)), (within_at hYl z_5_2 (by omega))⟩
      rw [← hY]
      clear hK K fr r0 r1
      replace HX1 : Hid (BoxN Y3 (w.heap.size + 1) 79 [.int .i64 h0b, .slice a0b n0b c0b]) := by unfold Hid; rw [hY]; exact ((HX1.out.set 0 (.int .i64 h0b)).set 1 (.slice a0b n0b c0b))
      replace HX0 := Lib.hid (HX0.out.kept hYl (by omega))
      replace HX2 := Lib.hid (HX2.out.kept hYl (by omega))
      replace HLb0 := Lib.hid (HLb0.out.kept hYl (by omega))
      replace HLb1 := Lib.hid (HLb1.out.kept hYl (by omega))
      replace HZ1 := Lib.hid (HZ1.out.kept hYl (by omega))
      replace HYW := Lib.hid (HYW.out.trans (hYl.mono (by omega) (by omega)))
      replace HYB := Lib.hid (hYl.belowU HYB.out (by omega))
      clear hY hYl
      (try simp only [Act.put, List.setIfInBounds_toArray, List.set_cons_zero, List.set_cons_succ])
      clear z_3_0 z_3_1 z_3_2 z_4_0 z_4_1 z_5_0 z_5_1 z_5_2
      have z_3_0 := HLb0.out.cell (i := 0) rfl
      have z_3_1 := HLb0.out.cell (i := 1) rfl
      have z_3_2 := HLb0.out.cell (i := 2) rfl
      have z_4_0 := HLb1.out.cell (i := 0) rfl
      have z_4_1 := HLb1.out.cell (i := 1) rfl
      have z_5_0 := HZ1.out.cell (i := 0) rfl
      have z_5_1 := HZ1.out.cell (i := 1) rfl
      have z_5_2 := HZ1.out.cell (i := 2) rfl
      refine wpV_do (by kernel_rfl) (fun K hK => ?_)
      -- 9: load
      go_simp
      refine hK.out _ _ ⟨z_3_0, z_3_1, z_3_2, z_4_0, z_4_1, z_5_0, z_5_1, z_5_2⟩ (fun _ => ?_)
      clear hK K
      (try simp only [Act.put, List.setIfInBounds_toArray, List.set_cons_zero, List.set_cons_succ])
      refine wpV_do (by kernel_rfl) (fun K hK => ?_)
      -- 10: store
      have r0 := HX2.out.cell (i := 0) rfl
      have r1 := HX2.out.cell (i := 1) rfl
      have r2 := HX2.out.cell (i := 2) rfl
      have fr := fun j => HX2.out.frozen j
      obtain ⟨Y4, hY⟩ : ∃ Y, Y = ((Y3.setCell ⟨w.heap.size + 1 + 1, 0, none⟩ (.slice at1a nt1a ct1a)).setCell ⟨w.heap.size + 1 + 1, 1, none⟩ (.slice at1b nt1b ct1b)).setCell ⟨w.heap.size + 1 + 1, 2, none⟩ (.slice at1c nt1c ct1c) := ⟨_, rfl⟩
      have hYl : Within (w.heap.size + 1 + 1) (w.heap.size + 1 + 1 + 1) Y3 Y4 := by rw [hY]; exact ((((Within.refl (w.heap.size + 1 + 1) (w.heap.size + 1 + 1 + 1) Y3).setCell (b := w.heap.size + 1 + 1) (by omega) (by omega) 0 (.slice at1a nt1a ct1a)).setCell (b := w.heap.size + 1 + 1) (by omega) (by omega) 1 (.slice at1b nt1b ct1b)).setCell (b := w.heap.size + 1 + 1) (by omega) (by omega) 2 (.slice at1c nt1c ct1c))
      go_simp
      refine hK.out _ _ ?_ (fun _ => ?_)
      · rw [← hY]; exact ⟨(within_at hYl z_3_0 (by omega)), (within_at hYl z_3_1 (by omega)), (within_at hYl z_3_2 (by omega)), (within_at hYl z_4_0 (by omega)), (within_at hYl z_4_1 (by omega)), (within_at hYl z_5_0 (by omega)), (within_at hYl z_5_1 (by omega)), (within_at hYl z_5_2 (by omega))⟩
      rw [← hY]
      clear hK K fr r0 r1 r2
      replace HX2 : Hid (BoxN Y4 (w.heap.size + 1 + 1) 42 [.slice at1a nt1a ct1a, .slice at1b nt1b ct1b, .slice at1c nt1c ct1c]) := by unfold Hid; rw [hY]; exact (((HX2.out.set 0 (.slice at1a nt1a ct1a)).set 1 (.slice at1b nt1b ct1b)).set 2 (.slice at1c nt1c ct1c))
      replace HX0 := Lib.hid (HX0.out.kept hYl (by omega))
      replace HX1 := Lib.hid (HX1.out.kept hYl (by omega))
      replace HLb0 := Lib.hid (HLb0.out.kept hYl (by omega))
      replace HLb1 := Lib.hid (HLb1.out.kept hYl (by omega))
      replace HZ1 := Lib.hid (HZ1.out.kept hYl (by omega))
      replace HYW := Lib.hid (HYW.out.trans (hYl.mono (by omega) (by omega)))
      replace HYB := Lib.hid (hYl.belowU HYB.out (by omega))
      clear hY hYl
      (try simp only [Act.put, List.setIfInBounds_toArray, List.set_cons_zero, List.set_cons_succ])
      clear z_3_0 z_3_1 z_3_2 z_4_0 z_4_1 z_5_0 z_5_1 z_5_2
      have z_3_0 := HLb0.out.cell (i := 0) rfl
      have z_3_1 := HLb0.out.cell (i := 1) rfl
      have z_3_2 := HLb0.out.cell (i := 2) rfl
      have z_4_0 := HLb1.out.cell (i := 0) rfl
      have z_4_1 := HLb1.out.cell (i := 1) rfl
      have z_5_0 := HZ1.out.cell (i := 0) rfl
      have z_5_1 := HZ1.out.cell (i := 1) rfl
      have z_5_2 := HZ1.out.cell (i := 2) rfl
      refine wpV_done ?_
      go_wp2_with fail
      refine NoPanic.normal ?_
      clear z_3_0 z_3_1 z_3_2 z_4_0 z_4_1 z_5_0 z_5_1 z_5_2
      have t_HX0_0 := HX0.out.cell (i := 0) rfl
      have t_HX0_1 := HX0.out.cell (i := 1) rfl
      have t_HX0_2 := HX0.out.cell (i := 2) rfl
      have t_HX1_0 := HX1.out.cell (i := 0) rfl
      have t_HX1_1 := HX1.out.cell (i := 1) rfl
      have t_HX2_0 := HX2.out.cell (i := 0) rfl
      have t_HX2_1 := HX2.out.cell (i := 1) rfl
      have t_HX2_2 := HX2.out.cell (i := 2) rfl
      try (go_wp2_with fail)
      refine bodyPost_ret (v := .tuple #[.agg #[.int .i64 P, .int .i64 Q, .int .i64 G], .agg #[.int .i64 h0b, .slice a0b n0b c0b], .int .i64 x4, .agg #[.slice at1a nt1a ct1a, .slice at1b nt1b ct1b, .slice at1c nt1c ct1c]]) (by simp [results, Try.results82, go_sem, t_HX0_0, t_HX0_1, t_HX0_2, t_HX1_0, t_HX1_1, t_HX2_0, t_HX2_1, t_HX2_2]) rfl ⟨⟨_, _, _, _, _, _, _, _, _, _, _, _, _, rfl, HGR.out, ⟨⟨by omega, by omega⟩, (HL0b.out.within HYW.out (by omega)).here, by have := HE0b.out; omega⟩, ⟨by omega, by omega⟩, ⟨⟨(HLt1a.out.within HYW.out (by omega)).here, by have := HEt1a.out; omega⟩, ⟨(HLt1b.out.within HYW.out (by omega)).here, by have := HEt1b.out; omega⟩, ⟨(HLt1c.out.within HYW.out (by omega)).here, by have := HEt1c.out; omega⟩⟩⟩, HYB.out⟩
    refine wpV_do (by kernel_rfl) (fun K hK => ?_)
    -- 6: call
    go_simp
    go_at_call 201
    refine (spec_spoiltProof U g _ P Q G _ _ _ l1a l1b l1c _ HC.out (HW.out.belowOf HUC.out (Nat.le_of_eq HUS.out)) (by omega) HGR.out HL1a.out.here HL1b.out.here HL1c.out.here (by have := HE1a.out; omega) (by have := HE1b.out; omega) (by have := HE1c.out; omega)).mono ?_
    rintro e ut5 ⟨⟨vt5a, vt5b, vt5c, lt5a, lt5b, lt5c, rfl, ⟨hst5a, hlt5a⟩, ⟨hst5b, hlt5b⟩, ⟨hst5c, hlt5c⟩⟩, hc, hw⟩
    have HLt5a := Lib.hid hst5a
    obtain ⟨at5a, nt5a, ct5a, rfl⟩ := hst5a.here.shape
    have hnt5a : nt5a ≤ 31 := by have h1 := hst5a.here.len; omega
    have HEt5a := Lib.hid hst5a.here.len
    clear hst5a
    have HLt5b := Lib.hid hst5b
    obtain ⟨at5b, nt5b, ct5b, rfl⟩ := hst5b.here.shape
    have hnt5b : nt5b ≤ 31 := by have h1 := hst5b.here.len; omega
    have HEt5b := Lib.hid hst5b.here.len
    clear hst5b
    have HLt5c := Lib.hid hst5c
    obtain ⟨at5c, nt5c, ct5c, rfl⟩ := hst5c.here.shape
    have hnt5c : nt5c ≤ 31 := by have h1 := hst5c.here.len; omega
    have HEt5c := Lib.hid hst5c.here.len
    clear hst5c
    have hszt5 := hw.size
    replace HX0 := Lib.hid (HX0.out.kept hw (.inl (by omega)))
    replace HX1 := Lib.hid (HX1.out.kept hw (.inl (by omega)))
    replace HX2 := Lib.hid (HX2.out.kept hw (.inl (by omega)))
    replace HLb0 := Lib.hid (HLb0.out.kept hw (.inl (by omega)))
    replace HLb1 := Lib.hid (HLb1.out.kept hw (.inl (by omega)))
    replace HZ1 := Lib.hid (HZ1.out.kept hw (.inr (by omega)))
    replace HL0b := Lib.hid (HL0b.out.within hw (by omega))
    replace HL0e := Lib.hid (HL0e.out.within hw (by omega))
    replace HL1a := Lib.hid (HL1a.out.within hw (by omega))
    replace HL1b := Lib.hid (HL1b.out.within hw (by omega))
    replace HL1c := Lib.hid (HL1c.out.within hw (by omega))
    replace HW := Lib.hid (HW.out.trans hw)
    replace HC := Lib.hid hc
    clear hc hw
    clear z_3_0 z_3_1 z_3_2 z_4_0 z_4_1 z_5_0 z_5_1 z_5_2
    have z_3_0 := HLb0.out.cell (i := 0) rfl
    have z_3_1 := HLb0.out.cell (i := 1) rfl
    have z_3_2 := HLb0.out.cell (i := 2) rfl
    have z_4_0 := HLb1.out.cell (i := 0) rfl
    have z_4_1 := HLb1.out.cell (i := 1) rfl
    have z_5_0 := HZ1.out.cell (i := 0) rfl
    have z_5_1 := HZ1.out.cell (i := 1) rfl
    have z_5_2 := HZ1.out.cell (i := 2) rfl
    refine hK.out _ _ ⟨z_3_0, z_3_1, z_3_2, z_4_0, z_4_1, z_5_0, z_5_1, z_5_2⟩ (fun _ => ?_)
    clear hK K
    (try simp only [Act.put, List.setIfInBounds_toArray, List.set_cons_zero, List.set_cons_succ])
    refine wpV_or (by kernel_rfl) (fun K hK => ?_) ?_
    · -- 1: load
      go_simp
      refine hK.out _ _ ⟨z_3_0, z_3_1, z_3_2, z_4_0, z_4_1, z_5_0, z_5_1, z_5_2⟩ (fun _ => ?_)
      clear hK K
      (try simp only [Act.put, List.setIfInBounds_toArray, List.set_cons_zero, List.set_cons_succ])
      refine wpV_do (by kernel_rfl) (fun K hK => ?_)
      -- 7: store
      have r0 := HX0.out.cell (i := 0) rfl
      have r1 := HX0.out.cell (i := 1) rfl
      have r2 := HX0.out.cell (i := 2) rfl
      have fr := fun j => HX0.out.frozen j
      obtain ⟨Y6, hY⟩ : ∃ Y, Y = ((ut5.setCell ⟨w.heap.size, 0, none⟩ (.int .i64 P)).setCell ⟨w.heap.size, 1, none⟩ (.int .i64 Q)).setCell ⟨w.heap.size, 2, none⟩ (.int .i64 G) := ⟨_, rfl⟩
      have hYl : Within (w.heap.size) (w.heap.size + 1) ut5 Y6 := by rw [hY]; exact ((((Within.refl (w.heap.size) (w.heap.size + 1) ut5).setCell (b := w.heap.size) (by omega) (by omega) 0 (.int .i64 P)).setCell (b := w.heap.size) (by omega) (by omega) 1 (.int .i64 Q)).setCell (b := w.heap.size) (by omega) (by omega) 2 (.int .i64 G))
      go_simp
      refine hK.out _ _ ?_ (fun _ => ?_)
      · rw [← hY]; exact ⟨(within_at hYl z_3_0 (by omega)), (within_at hYl z_3_1 (by omega)), (within_at hYl z_3_2 (by omega)), (within_at hYl z_4_0 (by omega)), (within_at hYl z_4_1 (by omega)), (within_at hYl z_5_0 (by omega)), (within_at hYl z_5_1 (by omega)), (within_at hYl z_5_2 (by omega))⟩
      rw [← hY]
      clear hK K fr r0 r1 r2
      replace HX0 : Hid (BoxN Y6 w.heap.size 39 [.int .i64 P, .int .i64 Q, .int .i64 G]) := by unfold Hid; rw [hY]; exact (((HX0.out.set 0 (.int .i64 P)).set 1 (.int .i64 Q)).set 2 (.int .i64 G))
      replace HX1 := Lib.hid (HX1.out.kept hYl (by omega))
      replace HX2 := Lib.hid (HX2.out.kept hYl (by omega))
      replace HLb0 := Lib.hid (HLb0.out.kept hYl (by omega))
      replace HLb1 := Lib.hid (HLb1.out.kept hYl (by omega))
      replace HZ1 := Lib.hid (HZ1.out.kept hYl (by omega))
      have HYW : Hid (Within w.heap.size (w.heap.size + 3) ut5 Y6) := hYl.mono (by omega) (by omega)
      have HYB : Hid (Below w.heap.size w Y6) := hYl.belowU (HW.out.belowOf HBW.out (by omega)) (by omega)
      clear hY hYl
      (try simp only [Act.put, List.setIfInBounds_toArray, List.set_cons_zero, List.set_cons_succ])
      clear z_3_0 z_3_1 z_3_2 z_4_0 z_4_1 z_5_0 z_5_1 z_5_2
      have z_3_0 := HLb0.out.cell (i := 0) rfl
      have z_3_1 := HLb0.out.cell (i := 1) rfl
      have z_3_2 := HLb0.out.cell (i := 2) rfl
      have z_4_0 := HLb1.out.cell (i := 0) rfl
      have z_4_1 := HLb1.out.cell (i := 1) rfl
      have z_5_0 := HZ1.out.cell (i := 0) rfl
      have z_5_1 := HZ1.out.cell (i := 1) rfl
      have z_5_2 := HZ1.out.cell (i := 2) rfl
      refine wpV_do (by kernel_rfl) (fun K hK => ?_)
      -- 8: store
      have r0 := HX1.out.cell (i := 0) rfl
      have r1 := HX1.out.cell (i := 1) rfl
      have fr := fun j => HX1.out.frozen j
      obtain ⟨Y7, hY⟩ : ∃ Y, Y = (Y6.setCell ⟨w.heap.size + 1, 0, none⟩ (.int .i64 h0b)).setCell ⟨w.heap.size + 1, 1, none⟩ (.slice a0b n0b c0b) := ⟨_, rfl⟩
      have hYl : Within (w.heap.size + 1) (w.heap.size + 1 + 1) Y6 Y7 := by rw [hY]; exact (((Within.refl (w.heap.size + 1) (w.heap.size + 1 + 1) Y6).setCell (b := w.heap.size + 1) (by omega) (by omega) 0 (.int .i64 h0b)).setCell (b := w.heap.size + 1) (by omega) (by omega) 1 (.slice a0b n0b c0b))
      go_simp
      refine hK.out _ _ ?_ (fun _ => ?_)
      · rw [← hY]; exact ⟨(within_at hYl z_3_0 (by omega)), (within_at hYl z_3_1 (by omega)), (within_at hYl z_3_2 (by omega)), (within_at hYl z_4_0 (by omega)), (within_at hYl z_4_1 (by omega)), (within_at hYl z_5_0 (by omega)), (within_at hYl z_5_1 (by omega)), (within_at hYl z_5_2 (by omega))⟩
      rw [← hY]
      clear hK K fr r0 r1
      replace HX1 : Hid (BoxN Y7 (w.heap.size + 1) 79 [.int .i64 h0b, .slice a0b n0b c0b]) := by unfold Hid; rw [hY]; exact ((HX1.out.set 0 (.int .i64 h0b)).set 1 (.slice a0b n0b c0b))
      replace HX0 := Lib.hid (HX0.out.kept hYl (by omega))
      replace HX2 := Lib.hid (HX2.out.kept hYl (by omega))
      replace HLb0 := Lib.hid (HLb0.out.kept hYl (by omega))
      replace HLb1 := Lib.hid (HLb1.out.kept hYl (by omega))
      replace HZ1 := Lib.hid (HZ1.out.kept hYl (by omega))
      replace HYW := Lib.hid (HYW.out.trans (hYl.mono (by omega) (by omega)))
      replace HYB := Lib.hid (hYl.belowU HYB.out (by omega))
      clear hY hYl
      (try simp only [Act.put, List.setIfInBounds_toArray, List.set_cons_zero, List.set_cons_succ])
      clear z_3_0 z_3_1 z_3_2 z_4_0 z_4_1 z_5_0 z_5_1 z_5_2
      have z_3_0 := HLb0.out.cell (i := 0) rfl
      have z_3_1 := HLb0.out.cell (i := 1) rfl
      have z_3_2 := HLb0.out.cell (i := 2) rfl
      have z_4_0 := HLb1.out.cell (i := 0) rfl
      have z_4_1 := HLb1.out.cell (i := 1) rfl
      have z_5_0 := HZ1.out.cell (i := 0) rfl
      have z_5_1 := HZ1.out.cell (i := 1) rfl
      have z_5_2 := HZ1.out.cell (i := 2) rfl
      refine wpV_do (by kernel_rfl) (fun K hK => ?_)
      -- 9: load
      go_simp
      refine hK.out _ _ ⟨z_3_0, z_3_1, z_3_2, z_4_0, z_4_1, z_5_0, z_5_1, z_5_2⟩ (fun _ => ?_)
      clear hK K
      (try simp only [Act.put, List.setIfInBounds_toArray, List.set_cons_zero, List.set_cons_succ])
      refine wpV_do (by kernel_rfl) (fun K hK => ?_)
      -- 10: store
      have r0 := HX2.out.cell (i := 0) rfl
      have r1 := HX2.out.cell (i := 1) rfl
      have r2 := HX2.out.cell (i := 2) rfl
      have fr := fun j => HX2.out.frozen j
      obtain ⟨Y8, hY⟩ : ∃ Y, Y = ((Y7.setCell ⟨w.heap.size + 1 + 1, 0, none⟩ (.slice at5a nt5a ct5a)).setCell ⟨w.heap.size + 1 + 1, 1, none⟩ (.slice at5b nt5b ct5b)).setCell ⟨w.heap.size + 1 + 1, 2, none⟩ (.slice at5c nt5c ct5c) := ⟨_, rfl⟩
      have hYl : Within (w.heap.size + 1 + 1) (w.heap.size + 1 + 1 + 1) Y7 Y8 := by rw [hY]; exact ((((Within.refl (w.heap.size + 1 + 1) (w.heap.size + 1 + 1 + 1) Y7).setCell (b := w.heap.size + 1 + 1) (by omega) (by omega) 0 (.slice at5a nt5a ct5a)).setCell (b := w.heap.size + 1 + 1) (by omega) (by omega) 1 (.slice at5b nt5b ct5b)).setCell (b := w.heap.size + 1 + 1) (by omega) (by omega) 2 (.slice at5c nt5c ct5c))
      go_simp
      refine hK.out _ _ ?_ (fun _ => ?_)
      · rw [← hY]; exact ⟨(within_at hYl z_3_0 (by omega)), (within_at hYl z_3_1 (by omega)), (within_at hYl z_3_2 (by omega)), (within_at hYl z_4_0 (by omega)), (within_at hYl z_4_1 (by omega)), (within_at hYl z_5_0 (by omega)), (within_at hYl z_5_1 (by omega)), (within_at hYl z_5_2 (by omega))⟩
      rw [← hY]
      clear hK K fr r0 r1 r2
      replace HX2 : Hid (BoxN Y8 (w.heap.size + 1 + 1) 42 [.slice at5a nt5a ct5a, .slice at5b nt5b ct5b, .slice at5c nt5c ct5c]) := by unfold Hid; rw [hY]; exact (((HX2.out.set 0 (.slice at5a nt5a ct5a)).set 1 (.slice at5b nt5b ct5b)).set 2 (.slice at5c nt5c ct5c))
      replace HX0 := Lib.hid (HX0.out.kept hYl (by omega))
      replace HX1 := Lib.hid (HX1.out.kept hYl (by omega))
      replace HLb0 := Lib.hid (HLb0.out.kept hYl (by omega))
      replace HLb1 := Lib.hid (HLb1.out.kept hYl (by omega))
      replace HZ1 := Lib.hid (HZ1.out.kept hYl (by omega))
      replace HYW := Lib.hid (HYW.out.trans (hYl.mono (by omega) (by omega)))
      replace HYB := Lib.hid (hYl.belowU HYB.out (by omega))
      clear hY hYl
      (try simp only [Act.put, List.setIfInBounds_toArray, List.set_cons_zero, List.set_cons_succ])
      clear z_3_0 z_3_1 z_3_2 z_4_0 z_4_1 z_5_0 z_5_1 z_5_2
      have z_3_0 := HLb0.out.cell (i := 0) rfl
      have z_3_1 := HLb0.out.cell (i := 1) rfl
      have z_3_2 := HLb0.out.cell (i := 2) rfl
      have z_4_0 := HLb1.out.cell (i := 0) rfl
      have z_4_1 := HLb1.out.cell (i := 1) rfl
      have z_5_0 := HZ1.out.cell (i := 0) rfl
      have z_5_1 := HZ1.out.cell (i := 1) rfl
      have z_5_2 := HZ1.out.cell (i := 2) rfl
      refine wpV_done ?_
      go_wp2_with fail
      refine NoPanic.normal ?_
      clear z_3_0 z_3_1 z_3_2 z_4_0 z_4_1 z_5_0 z_5_1 z_5_2
      have t_HX0_0 := HX0.out.cell (i := 0) rfl
      have t_HX0_1 := HX0.out.cell (i := 1) rfl
      have t_HX0_2 := HX0.out.cell (i := 2) rfl
      have t_HX1_0 := HX1.out.cell (i := 0) rfl
      have t_HX1_1 := HX1.out.cell (i := 1) rfl
      have t_HX2_0 := HX2.out.cell (i := 0) rfl
      have t_HX2_1 := HX2.out.cell (i := 1) rfl
      have t_HX2_2 := HX2.out.cell (i := 2) rfl
      try (go_wp2_with fail)
      refine bodyPost_ret (v := .tuple #[.agg #[.int .i64 P, .int .i64 Q, .int .i64 G], .agg #[.int .i64 h0b, .slice a0b n0b c0b], .int .i64 x4, .agg #[.slice at5a nt5a ct5a, .slice at5b nt5b ct5b, .slice at5c nt5c ct5c]]) (by simp [results, Try.results82, go_sem, t_HX0_0, t_HX0_1, t_HX0_2, t_HX1_0, t_HX1_1, t_HX2_0, t_HX2_1, t_HX2_2]) rfl ⟨⟨_, _, _, _, _, _, _, _, _, _, _, _, _, rfl, HGR.out, ⟨⟨by omega, by omega⟩, (HL0b.out.within HYW.out (by omega)).here, by have := HE0b.out; omega⟩, ⟨by omega, by omega⟩, ⟨⟨(HLt5a.out.within HYW.out (by omega)).here, by have := HEt5a.out; omega⟩, ⟨(HLt5b.out.within HYW.out (by omega)).here, by have := HEt5b.out; omega⟩, ⟨(HLt5c.out.within HYW.out (by omega)).here, by have := HEt5c.out; omega⟩⟩⟩, HYB.out⟩
    refine wpV_do (by kernel_rfl) (fun K hK => ?_)
    -- 7: store
    have r0 := HX0.out.cell (i := 0) rfl
    have r1 := HX0.out.cell (i := 1) rfl
    have r2 := HX0.out.cell (i := 2) rfl
    have fr := fun j => HX0.out.frozen j
    obtain ⟨Y9, hY⟩ : ∃ Y, Y = ((ut5.setCell ⟨w.heap.size, 0, none⟩ (.int .i64 P)).setCell ⟨w.heap.size, 1, none⟩ (.int .i64 Q)).setCell ⟨w.heap.size, 2, none⟩ (.int .i64 G) := ⟨_, rfl⟩
    have hYl : Within (w.heap.size) (w.heap.size + 1) ut5 Y9 := by rw [hY]; exact ((((Within.refl (w.heap.size) (w.heap.size + 1) ut5).setCell (b := w.heap.size) (by omega) (by omega) 0 (.int .i64 P)).setCell (b := w.heap.size) (by omega) (by omega) 1 (.int .i64 Q)).setCell (b := w.heap.size) (by omega) (by omega) 2 (.int .i64 G))
    go_simp
    refine hK.out _ _ ?_ (fun _ => ?_)
    · rw [← hY]; exact ⟨(within_at hYl z_3_0 (by omega)), (within_at hYl z_3_1 (by omega)), (within_at hYl z_3_2 (by omega)), (within_at hYl z_4_0 (by omega)), (within_at hYl z_4_1 (by omega)), (within_at hYl z_5_0 (by omega)), (within_at hYl z_5_1 (by omega)), (within_at hYl z_5_2 (by omega))⟩
    rw [← hY]
    clear hK K fr r0 r1 r2
    replace HX0 : Hid (BoxN Y9 w.heap.size 39 [.int .i64 P, .int .i64 Q, .int .i64 G]) := by unfold Hid; rw [hY]; exact (((HX0.out.set 0 (.int .i64 P)).set 1 (.int .i64 Q)).set 2 (.int .i64 G))
    replace HX1 := Lib.hid (HX1.out.kept hYl (by omega))
    replace HX2 := Lib.hid (HX2.out.kept hYl (by omega))
    replace HLb0 := Lib.hid (HLb0.out.kept hYl (by omega))
    replace HLb1 := Lib.hid (HLb1.out.kept hYl (by omega))
    replace HZ1 := Lib.hid (HZ1.out.kept hYl (by omega))
    have HYW : Hid (Within w.heap.size (w.heap.size + 3) ut5 Y9) := hYl.mono (by omega) (by omega)
    have HYB : Hid (Below w.heap.size w Y9) := hYl.belowU (HW.out.belowOf HBW.out (by omega)) (by omega)
    clear hY hYl
    (try simp only [Act.put, List.setIfInBounds_toArray, List.set_cons_zero, List.set_cons_succ])
    clear z_3_0 z_3_1 z_3_2 z_4_0 z_4_1 z_5_0 z_5_1 z_5_2
    have z_3_0 := HLb0.out.cell (i := 0) rfl
    have z_3_1 := HLb0.out.cell (i := 1) rfl
    have z_3_2 := HLb0.out.cell (i := 2) rfl
    have z_4_0 := HLb1.out.cell (i := 0) rfl
    have z_4_1 := HLb1.out.cell (i := 1) rfl
    have z_5_0 := HZ1.out.cell (i := 0) rfl
    have z_5_1 := HZ1.out.cell (i := 1) rfl
    have z_5_2 := HZ1.out.cell (i := 2) rfl
    refine wpV_do (by kernel_rfl) (fun K hK => ?_)
    -- 1: load
    go_simp
    refine hK.out _ _ ⟨z_3_0, z_3_1, z_3_2, z_4_0, z_4_1, z_5_0, z_5_1, z_5_2⟩ (fun _ => ?_)
    clear hK K
    (try simp only [Act.put, List.setIfInBounds_toArray, List.set_cons_zero, List.set_cons_succ])
    refine wpV_do (by kernel_rfl) (fun K hK => ?_)
    -- 8: store
    have r0 := HX1.out.cell (i := 0) rfl
    have r1 := HX1.out.cell (i := 1) rfl
    have fr := fun j => HX1.out.frozen j
    obtain ⟨Y10, hY⟩ : ∃ Y, Y = (Y9.setCell ⟨w.heap.size + 1, 0, none⟩ (.int .i64 h0b)).setCell ⟨w.heap.size + 1, 1, none⟩ (.slice a0b n0b c0b) := ⟨_, rfl⟩
    have hYl : Within (w.heap.size + 1) (w.heap.size + 1 + 1) Y9 Y10 := by rw [hY]; exact (((Within.refl (w.heap.size + 1) (w.heap.size + 1 + 1) Y9).setCell (b := w.heap.size + 1) (by omega) (by omega) 0 (.int .i64 h0b)).setCell (b := w.heap.size + 1) (by omega) (by omega) 1 (.slice a0b n0b c0b))
    go_simp
    refine hK.out _ _ ?_ (fun _ => ?_)
    · rw [← hY]; exact ⟨(within_at hYl z_3_0 (by omega)), (within_at hYl z_3_1 (by omega)), (within_at hYl z_3_2 (by omega)), (within_at hYl z_4_0 (by omega)), (within_at hYl z_4_1 (by omega)), (within_at hYl z_5_0 (by omega)), (within_at hYl z_5_1 (by omega)), (within_at hYl z_5_2 (by omega))⟩
    rw [← hY]
    clear hK K fr r0 r1
    replace HX1 : Hid (BoxN Y10 (w.heap.size + 1) 79 [.int .i64 h0b, .slice a0b n0b c0b]) := by unfold Hid; rw [hY]; exact ((HX1.out.set 0 (.int .i64 h0b)).set 1 (.slice a0b n0b c0b))
    replace HX0 := Lib.hid (HX0.out.kept hYl (by omega))
    replace HX2 := Lib.hid (HX2.out.kept hYl (by omega))
    replace HLb0 := Lib.hid (HLb0.out.kept hYl (by omega))
    replace HLb1 := Lib.hid (HLb1.out.kept hYl (by omega))
    replace HZ1 := Lib.hid (HZ1.out.kept hYl (by omega))
    replace HYW := Lib.hid (HYW.out.trans (hYl.mono (by omega) (by omega)))
    replace HYB := Lib.hid (hYl.belowU HYB.out (by omega))
    clear hY hYl
    (try simp only [Act.put, List.setIfInBounds_toArray, List.set_cons_zero, List.set_cons_succ])
    clear z_3_0 z_3_1 z_3_2 z_4_0 z_4_1 z_5_0 z_5_1 z_5_2
    have z_3_0 := HLb0.out.cell (i := 0) rfl
    have z_3_1 := HLb0.out.cell (i := 1) rfl
    have z_3_2 := HLb0.out.cell (i := 2) rfl
    have z_4_0 := HLb1.out.cell (i := 0) rfl
    have z_4_1 := HLb1.out.cell (i := 1) rfl
    have z_5_0 := HZ1.out.cell (i := 0) rfl
    have z_5_1 := HZ1.out.cell (i := 1) rfl
    have z_5_2 := HZ1.out.cell (i := 2) rfl
    refine wpV_do (by kernel_rfl) (fun K hK => ?_)
    -- 9: load
    go_simp
    refine hK.out _ _ ⟨z_3_0, z_3_1, z_3_2, z_4_0, z_4_1, z_5_0, z_5_1, z_5_2⟩ (fun _ => ?_)
    clear hK K
    (try simp only [Act.put, List.setIfInBounds_toArray, List.set_cons_zero, List.set_cons_succ])
    refine wpV_do (by kernel_rfl) (fun K hK => ?_)
    -- 10: store
    have r0 := HX2.out.cell (i := 0) rfl
    have r1 := HX2.out.cell (i := 1) rfl
    have r2 := HX2.out.cell (i := 2) rfl
    have fr := fun j => HX2.out.frozen j
    obtain ⟨Y11, hY⟩ : ∃ Y, Y = ((Y10.setCell ⟨w.heap.size + 1 + 1, 0, none⟩ (.slice at5a nt5a ct5a)).setCell ⟨w.heap.size + 1 + 1, 1, none⟩ (.slice at5b nt5b ct5b)).setCell ⟨w.heap.size + 1 + 1, 2, none⟩ (.slice at5c nt5c ct5c) := ⟨_, rfl⟩
    have hYl : Within (w.heap.size + 1 + 1) (w.heap.size + 1 + 1 + 1) Y10 Y11 := by rw [hY]; exact ((((Within.refl (w.heap.size + 1 + 1) (w.heap.size + 1 + 1 + 1) Y10).setCell (b := w.heap.size + 1 + 1) (by omega) (by omega) 0 (.slice at5a nt5a ct5a)).setCell (b := w.heap.size + 1 + 1) (by omega) (by omega) 1 (.slice at5b nt5b ct5b)).setCell (b := w.heap.size + 1 + 1) (by omega) (by omega) 2 (.slice at5c nt5c ct5c))
    go_simp
    refine hK.out _ _ ?_ (fun _ => ?_)
    · rw [← hY]; exact ⟨(within_at hYl z_3_0 (by omega)), (within_at hYl z_3_1 (by omega)), (within_at hYl z_3_2 (by omega)), (within_at hYl z_4_0 (by omega)), (within_at hYl z_4_1 (by omega)), (within_at hYl z_5_0 (by omega)), (within_at hYl z_5_1 (by omega)), (within_at hYl z_5_2 (by omega))⟩
    rw [← hY]
    clear hK K fr r0 r1 r2
    replace HX2 : Hid (BoxN Y11 (w.heap.size + 1 + 1) 42 [.slice at5a nt5a ct5a, .slice at5b nt5b ct5b, .slice at5c nt5c ct5c]) := by unfold Hid; rw [hY]; exact (((HX2.out.set 0 (.slice at5a nt5a ct5a)).set 1 (.slice at5b nt5b ct5b)).set 2 (.slice at5c nt5c ct5c))
    replace HX0 := Lib.hid (HX0.out.kept hYl (by omega))
    replace HX1 := Lib.hid (HX1.out.kept hYl (by omega))
    replace HLb0 := Lib.hid (HLb0.out.kept hYl (by omega))
    replace HLb1 := Lib.hid (HLb1.out.kept hYl (by omega))
    replace HZ1 := Lib.hid (HZ1.out.kept hYl (by omega))
    replace HYW := Lib.hid (HYW.out.trans (hYl.mono (by omega) (by omega)))
    replace HYB := Lib.hid (hYl.belowU HYB.out (by omega))
    clear hY hYl
    (try simp only [Act.put, List.setIfInBounds_toArray, List.set_cons_zero, List.set_cons_succ])
    clear z_3_0 z_3_1 z_3_2 z_4_0 z_4_1 z_5_0 z_5_1 z_5_2
    have z_3_0 := HLb0.out.cell (i := 0) rfl
    have z_3_1 := HLb0.out.cell (i := 1) rfl
    have z_3_2 := HLb0.out.cell (i := 2) rfl
    have z_4_0 := HLb1.out.cell (i := 0) rfl
    have z_4_1 := HLb1.out.cell (i := 1) rfl
    have z_5_0 := HZ1.out.cell (i := 0) rfl
    have z_5_1 := HZ1.out.cell (i := 1) rfl
    have z_5_2 := HZ1.out.cell (i := 2) rfl
    refine wpV_done ?_
    go_wp2_with fail
    refine NoPanic.normal ?_
    clear z_3_0 z_3_1 z_3_2 z_4_0 z_4_1 z_5_0 z_5_1 z_5_2
    have t_HX0_0 := HX0.out.cell (i := 0) rfl
    have t_HX0_1 := HX0.out.cell (i := 1) rfl
    have t_HX0_2 := HX0.out.cell (i := 2) rfl
    have t_HX1_0 := HX1.out.cell (i := 0) rfl
    have t_HX1_1 := HX1.out.cell (i := 1) rfl
    have t_HX2_0 := HX2.out.cell (i := 0) rfl
    have t_HX2_1 := HX2.out.cell (i := 1) rfl
    have t_HX2_2 := HX2.out.cell (i := 2) rfl
    try (go_wp2_with fail)
    refine bodyPost_ret (v := .tuple #[.agg #[.int .i64 P, .int .i64 Q, .int .i64 G], .agg #[.int .i64 h0b, .slice a0b n0b c0b], .int .i64 x4, .agg #[.slice at5a nt5a ct5a, .slice at5b nt5b ct5b, .slice at5c nt5c ct5c]]) (by simp [results, Try.results82, go_sem, t_HX0_0, t_HX0_1, t_HX0_2, t_HX1_0, t_HX1_1, t_HX2_0, t_HX2_1, t_HX2_2]) rfl ⟨⟨_, _, _, _, _, _, _, _, _, _, _, _, _, rfl, HGR.out, ⟨⟨by omega, by omega⟩, (HL0b.out.within HYW.out (by omega)).here, by have := HE0b.out; omega⟩, ⟨by omega, by omega⟩, ⟨⟨(HLt5a.out.within HYW.out (by omega)).here, by have := HEt5a.out; omega⟩, ⟨(HLt5b.out.within HYW.out (by omega)).here, by have := HEt5b.out; omega⟩, ⟨(HLt5c.out.within HYW.out (by omega)).here, by have := HEt5c.out; omega⟩⟩⟩, HYB.out⟩
  | true =>
    have z_0_0 := HX0.out.cell (i := 0) rfl
    have z_0_1 := HX0.out.cell (i := 1) rfl
    have z_0_2 := HX0.out.cell (i := 2) rfl
    have z_1_0 := HX1.out.cell (i := 0) rfl
    have z_1_1 := HX1.out.cell (i := 1) rfl
    have z_2_0 := HX2.out.cell (i := 0) rfl
    have z_2_1 := HX2.out.cell (i := 1) rfl
    have z_2_2 := HX2.out.cell (i := 2) rfl
    have z_3_0 := HLb0.out.cell (i := 0) rfl
    have z_3_1 := HLb0.out.cell (i := 1) rfl
    have z_3_2 := HLb0.out.cell (i := 2) rfl
    have z_4_0 := HLb1.out.cell (i := 0) rfl
    have z_4_1 := HLb1.out.cell (i := 1) rfl
    have z_5_0 := HZ1.out.cell (i := 0) rfl
    have z_5_1 := HZ1.out.cell (i := 1) rfl
    have z_5_2 := HZ1.out.cell (i := 2) rfl
    try (go_wp2_with fail)
    clear z_0_0 z_0_1 z_0_2 z_1_0 z_1_1 z_2_0 z_2_1 z_2_2 z_3_0 z_3_1 z_3_2 z_4_0 z_4_1 z_5_0 z_5_1 z_5_2
    refine (spec_one U g _ 8 _ HC.out (HW.out.belowOf HUC.out (Nat.le_of_eq HUS.out)) (by omega) ).mono ?_
    rintro e u4 ⟨⟨b4, rfl⟩, hc, hw⟩
    have hsz4 := hw.size
    replace HX0 := Lib.hid (HX0.out.kept hw (.inl (by omega)))
    replace HX1 := Lib.hid (HX1.out.kept hw (.inl (by omega)))
    replace HX2 := Lib.hid (HX2.out.kept hw (.inl (by omega)))
    replace HLb0 := Lib.hid (HLb0.out.kept hw (.inl (by omega)))
    replace HLb1 := Lib.hid (HLb1.out.kept hw (.inl (by omega)))
    replace HZ1 := Lib.hid (HZ1.out.kept hw (.inr (by omega)))
    replace HL0b := Lib.hid (HL0b.out.within hw (by omega))
    replace HL0e := Lib.hid (HL0e.out.within hw (by omega))
    replace HL1a := Lib.hid (HL1a.out.within hw (by omega))
    replace HL1b := Lib.hid (HL1b.out.within hw (by omega))
    replace HL1c := Lib.hid (HL1c.out.within hw (by omega))
    replace HW := Lib.hid (HW.out.trans hw)
    replace HC := Lib.hid hc
    clear hc hw
    cases b4 with
    | false =>
      have z_0_0 := HX0.out.cell (i := 0) rfl
      have z_0_1 := HX0.out.cell (i := 1) rfl
      have z_0_2 := HX0.out.cell (i := 2) rfl
      have z_1_0 := HX1.out.cell (i := 0) rfl
      have z_1_1 := HX1.out.cell (i := 1) rfl
      have z_2_0 := HX2.out.cell (i := 0) rfl
      have z_2_1 := HX2.out.cell (i := 1) rfl
      have z_2_2 := HX2.out.cell (i := 2) rfl
      have z_3_0 := HLb0.out.cell (i := 0) rfl
      have z_3_1 := HLb0.out.cell (i := 1) rfl
      have z_3_2 := HLb0.out.cell (i := 2) rfl
      have z_4_0 := HLb1.out.cell (i := 0) rfl
      have z_4_1 := HLb1.out.cell (i := 1) rfl
      have z_5_0 := HZ1.out.cell (i := 0) rfl
      have z_5_1 := HZ1.out.cell (i := 1) rfl
      have z_5_2 := HZ1.out.cell (i := 2) rfl
      try (go_wp2_with fail)
      clear z_0_0
      clear z_0_1
      clear z_0_2
      clear z_1_0
      clear z_1_1
      clear z_2_0
      clear z_2_1
      clear z_2_2
      refine wp_region_noPanic ?_
      refine wp_region_V (fun w' => w'.cell? ⟨R1.heap.size, 0, none⟩ = some (.int .i64 P) ∧ w'.cell? ⟨R1.heap.size, 1, none⟩ = some (.int .i64 Q) ∧ w'.cell? ⟨R1.heap.size, 2, none⟩ = some (.int .i64 G) ∧ w'.cell? ⟨R1.heap.size + 1, 0, none⟩ = some (.int .i64 h0b) ∧ w'.cell? ⟨R1.heap.size + 1, 1, none⟩ = some (.slice a0b n0b c0b) ∧ w'.cell? ⟨u1.heap.size, 0, none⟩ = some (.slice a1a n1a_ c1a) ∧ w'.cell? ⟨u1.heap.size, 1, none⟩ = some (.slice a1b n1b_ c1b) ∧ w'.cell? ⟨u1.heap.size, 2, none⟩ = some (.slice a1c n1c_ c1c)) 13 11 (.rd 0 (.rd 2 (.rd 3 (.rd 4 (.rd 5 (.alt 1 (.alt 6 (.alt 7 (.alt 8 (.alt 9 (.alt 10 .done .nil) .nil) .nil) .nil) .nil) (.alt 6 (.alt 1 (.alt 7 (.alt 8 (.alt 9 (.alt 10 .done .nil) .nil) .nil) .nil) (.alt 7 (.alt 1 (.alt 8 (.alt 9 (.alt 10 .done .nil) .nil) .nil) .nil) .nil)) .nil))))))) [] (by kernel_rfl) (by kernel_rfl) rfl (fun _ _ _ _ _ h => h) ⟨box_at z_3_0 (Below.refl _ _).drew, box_at z_3_1 (Below.refl _ _).drew, box_at z_3_2 (Below.refl _ _).drew, box_at z_4_0 (Below.refl _ _).drew, box_at z_4_1 (Below.refl _ _).drew, box_at z_5_0 (Below.refl _ _).drew, box_at z_5_1 (Below.refl _ _).drew, box_at z_5_2 (Below.refl _ _).drew⟩ ?_
      simp only [pickV, pickN, List.getElem?_cons_zero, List.getElem?_cons_succ]
      repeat (refine' wpV_read _ (by kernel_rfl) (fun w' hS' => ?_) ?_; rotate_left; · ((try dsimp only at hS'); go_simp; (try with_reducible rfl)); (try simp only [Act.put, List.setIfInBounds_toArray, List.set_cons_zero, List.set_cons_succ]))
      have hdr : Below u4.heap.size u4 u4.drew := (Below.refl _ _).drew
      have hszd := hdr.size
      replace HX0 := Lib.hid (HX0.out.below hdr)
      replace HX1 := Lib.hid (HX1.out.below hdr)
      replace HX2 := Lib.hid (HX2.out.below hdr)
      replace HLb0 := Lib.hid (HLb0.out.below hdr)
      replace HLb1 := Lib.hid (HLb1.out.below hdr)
      replace HZ1 := Lib.hid (HZ1.out.below hdr)
      replace HL0b := Lib.hid (HL0b.out.below hdr)
      replace HL0e := Lib.hid (HL0e.out.below hdr)
      replace HL1a := Lib.hid (HL1a.out.below hdr)
      replace HL1b := Lib.hid (HL1b.out.below hdr)
      replace HL1c := Lib.hid (HL1c.out.below hdr)
      replace HW := Lib.hid (HW.out.trans (Within.of_below hdr))
      replace HC := Lib.hid (HC.out.keep hdr)
      clear hdr
      refine wpV_or (by kernel_rfl) (fun K hK => ?_) ?_
      · -- 1: load
        go_simp
        refine hK.out _ _ ⟨z_3_0, z_3_1, z_3_2, z_4_0, z_4_1, z_5_0, z_5_1, z_5_2⟩ (fun _ => ?_)
        clear hK K
        (try simp only [Act.put, List.setIfInBounds_toArray, List.set_cons_zero, List.set_cons_succ])
        refine wpV_do (by kernel_rfl) (fun K hK => ?_)
        -- 6: call
        go_simp
        go_at_call 201
        refine (spec_spoiltProof U g _ P Q G _ _ _ l1a l1b l1c _ HC.out (HW.out.belowOf HUC.out (Nat.le_of_eq HUS.out)) (by omega) HGR.out HL1a.out.here HL1b.out.here HL1c.out.here (by have := HE1a.out; omega) (by have := HE1b.out; omega) (by have := HE1c.out; omega)).mono ?_
        rintro e ut1 ⟨⟨vt1a, vt1b, vt1c, lt1a, lt1b, lt1c, rfl, ⟨hst1a, hlt1a⟩, ⟨hst1b, hlt1b⟩, ⟨hst1c, hlt1c⟩⟩, hc, hw⟩
        have HLt1a := Lib.hid hst1a
        obtain ⟨at1a, nt1a, ct1a, rfl⟩ := hst1a.here.shape
        have hnt1a : nt1a ≤ 31 := by have h1 := hst1a.here.len; omega
        have HEt1a := Lib.hid hst1a.here.len
        clear hst1a
        have HLt1b := Lib.hid hst1b
        obtain ⟨at1b, nt1b, ct1b, rfl⟩ := hst1b.here.shape
        have hnt1b : nt1b ≤ 31 := by have h1 := hst1b.here.len; omega
        have HEt1b := Lib.hid hst1b.here.len
        clear hst1b
        have HLt1c := Lib.hid hst1c
        obtain ⟨at1c, nt1c, ct1c, rfl⟩ := hst1c.here.shape
        have hnt1c : nt1c ≤ 31 := by have h1 := hst1c.here.len; omega
        have HEt1c := Lib.hid hst1c.here.len
        clear hst1c
        have hszt1 := hw.size
        replace HX0 := Lib.hid (HX0.out.kept hw (.inl (by omega)))
        replace HX1 := Lib.hid (HX1.out.kept hw (.inl (by omega)))
        replace HX2 := Lib.hid (HX2.out.kept hw (.inl (by omega)))
        replace HLb0 := Lib.hid (HLb0.out.kept hw (.inl (by omega)))
        replace HLb1 := Lib.hid (HLb1.out.kept hw (.inl (by omega)))
        replace HZ1 := Lib.hid (HZ1.out.kept hw (.inr (by omega)))
        replace HL0b := Lib.hid (HL0b.out.within hw (by omega))
        replace HL0e := Lib.hid (HL0e.out.within hw (by omega))
        replace HL1a := Lib.hid (HL1a.out.within hw (by omega))
        replace HL1b := Lib.hid (HL1b.out.within hw (by omega))
        replace HL1c := Lib.hid (HL1c.out.within hw (by omega))
        replace HW := Lib.hid (HW.out.trans hw)
        replace HC := Lib.hid hc
        clear hc hw
        clear z_3_0 z_3_1 z_3_2 z_4_0 z_4_1 z_5_0 z_5_1 z_5_2
        have z_3_0 := HLb0.out.cell (i := 0) rfl
        have z_3_1 := HLb0.out.cell (i := 1) rfl
        have z_3_2 := HLb0.out.cell (i := 2) rfl
        have z_4_0 := HLb1.out.cell (i := 0) rfl
        have z_4_1 := HLb1.out.cell (i := 1) rfl
        have z_5_0 := HZ1.out.cell (i := 0) rfl
        have z_5_1 := HZ1.out.cell (i := 1) rfl
        have z_5_2 := HZ1.out.cell (i := 2) rfl
        refine hK.out _ _ ⟨z_3_0, z_3_1, z_3_2, z_4_0, z_4_1, z_5_0, z_5_1, z_5_2⟩ (fun _ => ?_)
        clear hK K
        (try simp only [Act.put, List.setIfInBounds_toArray, List.set_cons_zero, List.set_cons_succ])
        refine wpV_do (by kernel_rfl) (fun K hK => ?_)
        -- 7: store
        have r0 := HX0.out.cell (i := 0) rfl
        have r1 := HX0.out.cell (i := 1) rfl
        have r2 := HX0.out.cell (i := 2) rfl
        have fr := fun j => HX0.out.frozen j
        obtain ⟨Y2, hY⟩ : ∃ Y, Y = ((ut1.setCell ⟨w.heap.size, 0, none⟩ (.int .i64 P)).setCell ⟨w.heap.size, 1, none⟩ (.int .i64 Q)).setCell ⟨w.heap.size, 2, none⟩ (.int .i64 G) := ⟨_, rfl⟩
        have hYl : Within (w.heap.size) (w.heap.size + 1) ut1 Y2 := by rw [hY]; exact ((((Within.refl (w.heap.size) (w.heap.size + 1) ut1).setCell (b := w.heap.size) (by omega) (by omega) 0 (.int .i64 P)).setCell (b := w.heap.size) (by omega) (by omega) 1 (.int .i64 Q)).setCell (b := w.heap.size) (by omega) (by omega) 2 (.int .i64 G))
        go_simp
        refine hK.out _ _ ?_ (fun _ => ?_)
        · rw [← hY]; exact ⟨(within_at hYl z_3_0 (by omega)), (within_at hYl z_3_1 (by omega)), (within_at hYl z_3_2 (by omega)), (within_at hYl z_4_0 (by omega)), (within_at hYl z_4_1 (by omega)), (within_at hYl z_5_0 (by omega)), (within_at hYl z_5_1 (by omega)), (within_at hYl z_5_2 (by omega))⟩
        rw [← hY]
        clear hK K fr r0 r1 r2
        replace HX0 : Hid (BoxN Y2 w.heap.size 39 [.int .i64 P, .int .i64 Q, .int .i64 G]) := by unfold Hid; rw [hY]; exact (((HX0.out.set 0 (.int .i64 P)).set 1 (.int .i64 Q)).set 2 (.int .i64 G))
        replace HX1 := Lib.hid (HX1.out.kept hYl (by omega))
        replace HX2 := Lib.hid (HX2.out.kept hYl (by omega))
        replace HLb0 := Lib.hid (HLb0.out.kept hYl (by omega))
        replace HLb1 := Lib.hid (HLb1.out.kept hYl (by omega))
        replace HZ1 := Lib.hid (HZ1.out.kept hYl (by omega))
        have HYW : Hid (Within w.heap.size (w.heap.size + 3) ut1 Y2) := hYl.mono (by omega) (by omega)
        have HYB : Hid (Below w.heap.size w Y2) := hYl.belowU (HW.out.belowOf HBW.out (by omega)) (by omega)
        clear hY hYl
        (try simp only [Act.put, List.setIfInBounds_toArray, List.set_cons_zero, List.set_cons_succ])
        clear z_3_0 z_3_1 z_3_2 z_4_0 z_4_1 z_5_0 z_5_1 z_5_2
        have z_3_0 := HLb0.out.cell (i := 0) rfl
        have z_3_1 := HLb0.out.cell (i := 1) rfl
        have z_3_2 := HLb0.out.cell (i := 2) rfl
        have z_4_0 := HLb1.out.cell (i := 0) rfl
        have z_4_1 := HLb1.out.cell (i := 1) rfl
        have z_5_0 := HZ1.out.cell (i := 0) rfl
        have z_5_1 := HZ1.out.cell (i := 1) rfl
        have z_5_2 := HZ1.out.cell (i := 2) rfl
        refine wpV_do (by kernel_rfl) (fun K hK => ?_)
        -- 8: store
        have r0 := HX1.out.cell (i := 0) rfl
        have r1 := HX1.out.cell (i := 1) rfl
        have fr := fun j => HX1.out.frozen j
        obtain ⟨Y3, hY⟩ : ∃ Y, Y = (Y2.setCell ⟨w.heap.size + 1, 0, none⟩ (.int .i64 h0b)).setCell ⟨w.heap.size + 1, 1, none⟩ (.slice a0b n0b c0b) := ⟨_, rfl⟩
        have hYl : Within (w.heap.size + 1) (w.heap.size + 1 + 1) Y2 Y3 := by rw [hY]; exact (((Within.refl (w.heap.size + 1) (w.heap.size + 1 + 1) Y2).setCell (b := w.heap.size + 1) (by omega) (by omega) 0 (.int .i64 h0b)).setCell (b := w.heap.size + 1) (by omega) (by omega) 1 (.slice a0b n0b c0b))
        go_simp
        refine hK.out _ _ ?_ (fun _ => ?_)
        · rw [← hY]; exact ⟨(within_at hYl z_3_0 (by omega)), (within_at hYl z_3_1 (by omega)), (within_at hYl z_3_2 (by omega)), (within_at hYl z_4_0 (by omega)), (within_at hYl z_4_1 (by omega)), (within_at hYl z_5_0 (by omega)), (within_at hYl z_5_1 (by omega)), (within_at hYl z_5_2 (by omega))⟩
        rw [← hY]
        clear hK K fr r0 r1
        replace HX1 : Hid (BoxN Y3 (w.heap.size + 1) 79 [.int .i64 h0b, .slice a0b n0b c0b]) := by unfold Hid; rw [hY]; exact ((HX1.out.set 0 (.int .i64 h0b)).set 1 (.slice a0b n0b c0b))
        replace HX0 := Lib.hid (HX0.out.kept hYl (by omega))
        replace HX2 := Lib.hid (HX2.out.kept hYl (by omega))
        replace HLb0 := Lib.hid (HLb0.out.kept hYl (by omega))
        replace HLb1 := Lib.hid (HLb1.out.kept hYl (by omega))
        replace HZ1 := Lib.hid (HZ1.out.kept hYl (by omega))
        replace HYW := Lib.hid (HYW.out.trans (hYl.mono (by omega) (by omega)))
        replace HYB := Lib.hid (hYl.belowU HYB.out (by omega))
        clear hY hYl
        (try simp only [Act.put, List.setIfInBounds_toArray, List.set_cons_zero, List.set_cons_succ])
        clear z_3_0 z_3_1 z_3_2 z_4_0 z_4_1 z_5_0 z_5_1 z_5_2
        have z_3_0 := HLb0.out.cell (i := 0) rfl
        have z_3_1 := HLb0.out.cell (i := 1) rfl
        have z_3_2 := HLb0.out.cell (i := 2) rfl
        have z_4_0 := HLb1.out.cell (i := 0) rfl
        have z_4_1 := HLb1.out.cell (i := 1) rfl
        have z_5_0 := HZ1.out.cell (i := 0) rfl
        have z_5_1 := HZ1.out.cell (i := 1) rfl
        have z_5_2 := HZ1.out.cell (i := 2) rfl
        refine wpV_do (by kernel_rfl) (fun K hK => ?_)
        -- 9: load
        go_simp
        refine hK.out _ _ ⟨z_3_0, z_3_1, z_3_2, z_4_0, z_4_1, z_5_0, z_5_1, z_5_2⟩ (fun _ => ?_)
        clear hK K
        (try simp only [Act.put, List.setIfInBounds_toArray, List.set_cons_zero, List.set_cons_succ])
        refine wpV_do (by kernel_rfl) (fun K hK => ?_)
        -- 10: store
        have r0 := HX2.out.cell (i := 0) rfl
        have r1 := HX2.out.cell (i := 1) rfl
        have r2 := HX2.out.cell (i := 2) rfl
        have fr := fun j => HX2.out.frozen j
        obtain ⟨Y4, hY⟩ : ∃ Y, Y = ((Y3.setCell ⟨w.heap.size + 1 + 1, 0, none⟩ (.slice at1a nt1a ct1a)).setCell ⟨w.heap.size + 1 + 1, 1, none⟩ (.slice at1b nt1b ct1b)).setCell ⟨w.heap.size + 1 + 1, 2, none⟩ (.slice at1c nt1c ct1c) := ⟨_, rfl⟩
        have hYl : Within (w.heap.size + 1 + 1) (w.heap.size + 1 + 1 + 1) Y3 Y4 := by rw [hY]; exact ((((Within.refl (w.heap.size + 1 + 1) (w.heap.size + 1 + 1 + 1) Y3).setCell (b := w.heap.size + 1 + 1) (by omega) (by omega) 0 (.slice at1a nt1a ct1a)).setCell (b := w.heap.size + 1 + 1) (by omega) (by omega) 1 (.slice at1b nt1b ct1b)).setCell (b := w.heap.size + 1 + 1) (by omega) (by omega) 2 (.slice at1c nt1c ct1c))
        go_simp
        refine hK.out _ _ ?_ (fun _ => ?_)
        · rw [← hY]; exact ⟨(within_at hYl z_3_0 (by omega)), (within_at hYl z_3_1 (by omega)), (within_at hYl z_3_2 (by omega)), (within_at hYl z_4_0 (by omega)), (within_at hYl z_4_1 (by omega)), (within_at hYl z_5_0 (by omega)), (within_at hYl z_5_1 (by omega)), (within_at hYl z_5_2 (by omega))⟩
        rw [← hY]
        clear hK K fr r0 r1 r2
        replace HX2 : Hid (BoxN Y4 (w.heap.size + 1 + 1) 42 [.slice at1a nt1a ct1a, .slice at1b nt1b ct1b, .slice at1c nt1c ct1c]) := by unfold Hid; rw [hY]; exact (((HX2.out.set 0 (.slice at1a nt1a ct1a)).set 1 (.slice at1b nt1b ct1b)).set 2 (.slice at1c nt1c ct1c))
        replace HX0 := Lib.hid (HX0.out.kept hYl (by omega))
        replace HX1 := Lib.hid (HX1.out.kept hYl (by omega))
        replace HLb0 := Lib.hid (HLb0.out.kept hYl (by omega))
        replace HLb1 := Lib.hid (HLb1.out.kept hYl (by omega))
        replace HZ1 := Lib.hid (HZ1.out.kept hYl (by omega))
        replace HYW := Lib.hid (HYW.out.trans (hYl.mono (by omega) (by omega)))
        replace HYB := Lib.hid (hYl.belowU HYB.out (by omega))
        clear hY hYl
        (try simp only [Act.put, List.setIfInBounds_toArray, List.set_cons_zero, List.set_cons_succ])
        clear z_3_0 z_3_1 z_3_2 z_4_0 z_4_1 z_5_0 z_5_1 z_5_2
        have z_3_0 := HLb0.out.cell (i := 0) rfl
        have z_3_1 := HLb0.out.cell (i := 1) rfl
        have z_3_2 := HLb0.out.cell (i := 2) rfl
        have z_4_0 := HLb1.out.cell (i := 0) rfl
        have z_4_1 := HLb1.out.cell (i := 1) rfl
        have z_5_0 := HZ1.out.cell (i := 0) rfl
        have z_5_1 := HZ1.out.cell (i := 1) rfl
        have z_5_2 := HZ1.out.cell (i := 2) rfl
        refine wpV_done ?_
        go_wp2_with fail
        refine NoPanic.normal ?_
        clear z_3_0 z_3_1 z_3_2 z_4_0 z_4_1 z_5_0 z_5_1 z_5_2
        have t_HX0_0 := HX0.out.cell (i := 0) rfl
        have t_HX0_1 := HX0.out.cell (i := 1) rfl
        have t_HX0_2 := HX0.out.cell (i := 2) rfl
        have t_HX1_0 := HX1.out.cell (i := 0) rfl
        have t_HX1_1 := HX1.out.cell (i := 1) rfl
        have t_HX2_0 := HX2.out.cell (i := 0) rfl
        have t_HX2_1 := HX2.out.cell (i := 1) rfl
        have t_HX2_2 := HX2.out.cell (i := 2) rfl
        try (go_wp2_with fail)
        refine bodyPost_ret (v := .tuple #[.agg #[.int .i64 P, .int .i64 Q, .int .i64 G], .agg #[.int .i64 h0b, .slice a0b n0b c0b], .int .i64 r3a, .agg #[.slice at1a nt1a ct1a, .slice at1b nt1b ct1b, .slice at1c nt1c ct1c]]) (by simp [results, Try.results82, go_sem, t_HX0_0, t_HX0_1, t_HX0_2, t_HX1_0, t_HX1_1, t_HX2_0, t_HX2_1, t_HX2_2]) rfl ⟨⟨_, _, _, _, _, _, _, _, _, _, _, _, _, rfl, HGR.out, ⟨⟨by omega, by omega⟩, (HL0b.out.within HYW.out (by omega)).here, by have := HE0b.out; omega⟩, ⟨by omega, by omega⟩, ⟨⟨(HLt1a.out.within HYW.out (by omega)).here, by have := HEt1a.out; omega⟩, ⟨(HLt1b.out.within HYW.out (by omega)).here, by have := HEt1b.out; omega⟩, ⟨(HLt1c.out.within HYW.out (by omega)).here, by have := HEt1c.out; omega⟩⟩⟩, HYB.out⟩
      refine wpV_do (by kernel_rfl) (fun K hK => ?_)
      -- 6: call
      go_simp
      go_at_call 201
      refine (spec_spoiltProof U g _ P Q G _ _ _ l1a l1b l1c _ HC.out (HW.out.belowOf HUC.out (Nat.le_of_eq HUS.out)) (by omega) HGR.out HL1a.out.here HL1b.out.here HL1c.out.here (by have := HE1a.out; omega) (by have := HE1b.out; omega) (by have := HE1c.out; omega)).mono ?_
      rintro e ut5 ⟨⟨vt5a, vt5b, vt5c, lt5a, lt5b, lt5c, rfl, ⟨hst5a, hlt5a⟩, ⟨hst5b, hlt5b⟩, ⟨hst5c, hlt5c⟩⟩, hc, hw⟩
      have HLt5a := Lib.hid hst5a
      obtain ⟨at5a, nt5a, ct5a, rfl⟩ := hst5a.here.shape
      have hnt5a : nt5a ≤ 31 := by have h1 := hst5a.here.len; omega
      have HEt5a := Lib.hid hst5a.here.len
      clear hst5a
      have HLt5b := Lib.hid hst5b
      obtain ⟨at5b, nt5b, ct5b, rfl⟩ := hst5b.here.shape
      have hnt5b : nt5b ≤ 31 := by have h1 := hst5b.here.len; omega
      have HEt5b := Lib.hid hst5b.here.len
      clear hst5b
      have HLt5c := Lib.hid hst5c
      obtain ⟨at5c, nt5c, ct5c, rfl⟩ := hst5c.here.shape
      have hnt5c : nt5c ≤ 31 := by have h1 := hst5c.here.len; omega
      have HEt5c := Lib.hid hst5c.here.len
      clear hst5c
      have hszt5 := hw.size
      replace HX0 := Lib.hid (HX0.out.kept hw (.inl (by omega)))
      replace HX1 := Lib.hid (HX1.out.kept hw (.inl (by omega)))
      replace HX2 := Lib.hid (HX2.out.kept hw (.inl (by omega)))
      replace HLb0 := Lib.hid (HLb0.out.kept hw (.inl (by omega)))
      replace HLb1 := Lib.hid (HLb1.out.kept hw (.inl (by omega)))
      replace HZ1 := Lib.hid (HZ1.out.kept hw (.inr (by omega)))
      replace HL0b := Lib.hid (HL0b.out.within hw (by omega))
      replace HL0e := Lib.hid (HL0e.out.within hw (by omega))
      replace HL1a := Lib.hid (HL1a.out.within hw (by omega))
      replace HL1b := Lib.hid (HL1b.out.within hw (by omega))
      replace HL1c := Lib.hid (HL1c.out.within hw (by omega))
      replace HW := Lib.hid (HW.out.trans hw)
      replace HC := Lib.hid hc
      clear hc hw
      clear z_3_0 z_3_1 z_3_2 z_4_0 z_4_1 z_5_0 z_5_1 z_5_2
      have z_3_0 := HLb0.out.cell (i := 0) rfl
      have z_3_1 := HLb0.out.cell (i := 1) rfl
      have z_3_2 := HLb0.out.cell (i := 2) rfl
      have z_4_0 := HLb1.out.cell (i := 0) rfl
      have z_4_1 := HLb1.out.cell (i := 1) rfl
      have z_5_0 := HZ1.out.cell (i := 0) rfl
      have z_5_1 := HZ1.out.cell (i := 1) rfl
      have z_5_2 := HZ1.out.cell (i := 2) rfl
      refine hK.out _ _ ⟨z_3_0, z_3_1, z_3_2, z_4_0, z_4_1, z_5_0, z_5_1, z_5_2⟩ (fun _ => ?_)
      clear hK K
      (try simp only [Act.put, List.setIfInBounds_toArray, List.set_cons_zero, List.set_cons_succ])
      refine wpV_or (by kernel_rfl) (fun K hK => ?_) ?_
      · -- 1: load
        go_simp
        refine hK.out _ _ ⟨z_3_0, z_3_1, z_3_2, z_4_0, z_4_1, z_5_0, z_5_1, z_5_2⟩ (fun _ => ?_)
        clear hK K
        (try simp only [Act.put, List.setIfInBounds_toArray, List.set_cons_zero, List.set_cons_succ])
        refine wpV_do (by kernel_rfl) (fun K hK => ?_)
        -- 7: store
        have r0 := HX0.out.cell (i := 0) rfl
        have r1 := HX0.out.cell (i := 1) rfl
        have r2 := HX0.out.cell (i := 2) rfl
        have fr := fun j => HX0.out.frozen j
        obtain ⟨Y6, hY⟩ : ∃ Y, Y = ((ut5.setCell ⟨w.heap.size, 0, none⟩ (.int .i64 P)).setCell ⟨w.heap.size, 1, none⟩ (.int .i64 Q)).setCell ⟨w.heap.size, 2, none⟩ (.int .i64 G) := ⟨_, rfl⟩
        have hYl : Within (w.heap.size) (w.heap.size + 1) ut5 Y6 := by rw [hY]; exact ((((Within.refl (w.heap.size) (w.heap.size + 1) ut5).setCell (b := w.heap.size) (by omega) (by omega) 0 (.int .i64 P)).setCell (b := w.heap.size) (by omega) (by omega) 1 (.int .i64 Q)).setCell (b := w.heap.size) (by omega) (by omega) 2 (.int .i64 G))
        go_simp
        refine hK.out _ _ ?_ (fun _ => ?_)
        · rw [← hY]; exact ⟨(within_at hYl z_3_0 (by omega)), (within_at hYl z_3_1 (by omega)), (within_at hYl z_3_2 (by omega)), (within_at hYl z_4_0 (by omega)), (within_at hYl z_4_1 (by omega)), (within_at hYl z_5_0 (by omega)), (within_at hYl z_5_1 (by omega)), (within_at hYl z_5_2 (by omega))⟩
        rw [← hY]
        clear hK K fr r0 r1 r2
        replace HX0 : Hid (BoxN Y6 w.heap.size 39 [.int .i64 P, .int .i64 Q, .int .i64 G]) := by unfold Hid; rw [hY]; exact (((HX0.out.set 0 (.int .i64 P)).set 1 (.int .i64 Q)).set 2 (.int .i64 G))
        replace HX1 := Lib.hid (HX1.out.kept hYl (by omega))
        replace HX2 := Lib.hid (HX2.out.kept hYl (by omega))
        replace HLb0 := Lib.hid (HLb0.out.kept hYl (by omega))
        replace HLb1 := Lib.hid (HLb1.out.kept hYl (by omega))
        replace HZ1 := Lib.hid (HZ1.out.kept hYl (by omega))
        have HYW : Hid (Within w.heap.size (w.heap.size + 3) ut5 Y6) := hYl.mono (by omega) (by omega)
        have HYB : Hid (Below w.heap.size w Y6) := hYl.belowU (HW.out.belowOf HBW.out (by omega)) (by omega)
        clear hY hYl
        (try simp only [Act.put, List.setIfInBounds_toArray, List.set_cons_zero, List.set_cons_succ])
        clear z_3_0 z_3_1 z_3_2 z_4_0 z_4_1 z_5_0 z_5_1 z_5_2
        have z_3_0 := HLb0.out.cell (i := 0) rfl
        have z_3_1 := HLb0.out.cell (i := 1) rfl
        have z_3_2 := HLb0.out.cell (i := 2) rfl
        have z_4_0 := HLb1.out.cell (i := 0) rfl
        have z_4_1 := HLb1.out.cell (i := 1) rfl
        have z_5_0 := HZ1.out.cell (i := 0) rfl
        have z_5_1 := HZ1.out.cell (i := 1) rfl
        have z_5_2 := HZ1.out.cell (i := 2) rfl
        refine wpV_do (by kernel_rfl) (fun K hK => ?_)
        -- 8: store
        have r0 := HX1.out.cell (i := 0) rfl
        have r1 := HX1.out.cell (i := 1) rfl
        have fr := fun j => HX1.out.frozen j
        obtain ⟨Y7, hY⟩ : ∃ Y, Y = (Y6.setCell ⟨w.heap.size + 1, 0, none⟩ (.int .i64 h0b)).setCell ⟨w.heap.size + 1, 1, none⟩ (.slice a0b n0b c0b) := ⟨_, rfl⟩
        have hYl : Within (w.heap.size + 1) (w.heap.size + 1 + 1) Y6 Y7 := by rw [hY]; exact (((Within.refl (w.heap.size + 1) (w.heap.size + 1 + 1) Y6).setCell (b := w.heap.size + 1) (by omega) (by omega) 0 (.int .i64 h0b)).setCell (b := w.heap.size + 1) (by omega) (by omega) 1 (.slice a0b n0b c0b))
        go_simp
        refine hK.out _ _ ?_ (fun _ => ?_)
        · rw [← hY]; exact ⟨(within_at hYl z_3_0 (by omega)), (within_at hYl z_3_1 (by omega)), (within_at hYl z_3_2 (by omega)), (within_at hYl z_4_0 (by omega)), (within_at hYl z_4_1 (by omega)), (within_at hYl z_5_0 (by omega)), (within_at hYl z_5_1 (by omega)), (within_at hYl z_5_2 (by omega))⟩
        rw [← hY]
        clear hK K fr r0 r1
        replace HX1 : Hid (BoxN Y7 (w.heap.size + 1) 79 [.int .i64 h0b, .slice a0b n0b c0b]) := by unfold Hid; rw [hY]; exact ((HX1.out.set 0 (.int .i64 h0b)).set 1 (.slice a0b n0b c0b))
        replace HX0 := Lib.hid (HX0.out.kept hYl (by omega))
        replace HX2 := Lib.hid (HX2.out.kept hYl (by omega))
        replace HLb0 := Lib.hid (HLb0.out.kept hYl (by omega))
        replace HLb1 := Lib.hid (HLb1.out.kept hYl (by omega))
        replace HZ1 := Lib.hid (HZ1.out.kept hYl (by omega))
        replace HYW := Lib.hid (HYW.out.trans (hYl.mono (by omega) (by omega)))
        replace HYB := Lib.hid (hYl.belowU HYB.out (by omega))
        clear hY hYl
        (try simp only [Act.put, List.setIfInBounds_toArray, List.set_cons_zero, List.set_cons_succ])
        clear z_3_0 z_3_1 z_3_2 z_4_0 z_4_1 z_5_0 z_5_1 z_5_2
        have z_3_0 := HLb0.out.cell (i := 0) rfl
        have z_3_1 := HLb0.out.cell (i := 1) rfl
        have z_3_2 := HLb0.out.cell (i := 2) rfl
        have z_4_0 := HLb1.out.cell (i := 0) rfl
        have z_4_1 := HLb1.out.cell (i := 1) rfl
        have z_5_0 := HZ1.out.cell (i := 0) rfl
        have z_5_1 := HZ1.out.cell (i := 1) rfl
        have z_5_2 := HZ1.out.cell (i := 2) rfl
        refine wpV_do (by kernel_rfl) (fun K hK => ?_)
        -- 9: load
        go_simp
        refine hK.out _ _ ⟨z_3_0, z_3_1, z_3_2, z_4_0, z_4_1, z_5_0, z_5_1, z_5_2⟩ (fun _ => ?_)
        clear hK K
        (try simp only [Act.put, List.setIfInBounds_toArray, List.set_cons_zero, List.set_cons_succ])
        refine wpV_do (by kernel_rfl) (fun K hK => ?_)
        -- 10: store
        have r0 := HX2.out.cell (i := 0) rfl
        have r1 := HX2.out.cell (i := 1) rfl
        have r2 := HX2.out.cell (i := 2) rfl
        have fr := fun j => HX2.out.frozen j
        obtain ⟨Y8, hY⟩ : ∃ Y, Y = ((Y7.setCell ⟨w.heap.size + 1 + 1, 0, none⟩ (.slice at5a nt5a ct5a)).setCell ⟨w.heap.size + 1 + 1, 1, none⟩ (.slice at5b nt5b ct5b)).setCell ⟨w.heap.size + 1 + 1, 2, none⟩ (.slice at5c nt5c ct5c) := ⟨_, rfl⟩
        have hYl : Within (w.heap.size + 1 + 1) (w.heap.size + 1 + 1 + 1) Y7 Y8 := by rw [hY]; exact ((((Within.refl (w.heap.size + 1 + 1) (w.heap.size + 1 + 1 + 1) Y7).setCell (b := w.heap.size + 1 + 1) (by omega) (by omega) 0 (.slice at5a nt5a ct5a)).setCell (b := w.heap.size + 1 + 1) (by omega) (by omega) 1 (.slice at5b nt5b ct5b)).setCell (b := w.heap.size + 1 + 1) (by omega) (by omega) 2 (.slice at5c nt5c ct5c))
        go_simp
        refine hK.out _ _ ?_ (fun _ => ?_)
        · rw [← hY]; exact ⟨(within_at hYl z_3_0 (by omega)), (within_at hYl z_3_1 (by omega)), (within_at hYl z_3_2 (by omega)), (within_at hYl z_4_0 (by omega)), (within_at hYl z_4_1 (by omega)), (within_at hYl z_5_0 (by omega)), (within_at hYl z_5_1 (by omega)), (within_at hYl z_5_2 (by omega))⟩
        rw [← hY]
        clear hK K fr r0 r1 r2
        replace HX2 : Hid (BoxN Y8 (w.heap.size + 1 + 1) 42 [.slice at5a nt5a ct5a, .slice at5b nt5b ct5b, .slice at5c nt5c ct5c]) := by unfold Hid; rw [hY]; exact (((HX2.out.set 0 (.slice at5a nt5a ct5a)).set 1 (.slice at5b nt5b ct5b)).set 2 (.slice at5c nt5c ct5c))
        replace HX0 := Lib.hid (HX0.out.kept hYl (by omega))
        replace HX1 := Lib.hid (HX1.out.kept hYl (by omega))
        replace HLb0 := Lib.hid (HLb0.out.kept hYl (by omega))
        replace HLb1 := Lib.hid (HLb1.out.kept hYl (by omega))
        replace HZ1 := Lib.hid (HZ1.out.kept hYl (by omega))
        replace HYW := Lib.hid (HYW.out.trans (hYl.mono (by omega) (by omega)))
        replace HYB := Lib.hid (hYl.belowU HYB.out (by omega))
        clear hY hYl
        (try simp only [Act.put, List.setIfInBounds_toArray, List.set_cons_zero, List.set_cons_succ])
        clear z_3_0 z_3_1 z_3_2 z_4_0 z_4_1 z_5_0 z_5_1 z_5_2
        have z_3_0 := HLb0.out.cell (i := 0) rfl
        have z_3_1 := HLb0.out.cell (i := 1) rfl
        have z_3_2 := HLb0.out.cell (i := 2) rfl
        have z_4_0 := HLb1.out.cell (i := 0) rfl
        have z_4_1 := HLb1.out.cell (i := 1) rfl
        have z_5_0 := HZ1.out.cell (i := 0) rfl
        have z_5_1 := HZ1.out.cell (i := 1) rfl
        have z_5_2 := HZ1.out.cell (i := 2) rfl
        refine wpV_done ?_
        go_wp2_with fail
        refine NoPanic.normal ?_
        clear z_3_0 z_3_1 z_3_2 z_4_0 z_4_1 z_5_0 z_5_1 z_5_2
        have t_HX0_0 := HX0.out.cell (i := 0) rfl
        have t_HX0_1 := HX0.out.cell (i := 1) rfl
        have t_HX0_2 := HX0.out.cell (i := 2) rfl
        have t_HX1_0 := HX1.out.cell (i := 0) rfl
        have t_HX1_1 := HX1.out.cell (i := 1) rfl
        have t_HX2_0 := HX2.out.cell (i := 0) rfl
        have t_HX2_1 := HX2.out.cell (i := 1) rfl
        have t_HX2_2 := HX2.out.cell (i := 2) rfl
        try (go_wp2_with fail)
        refine bodyPost_ret (v := .tuple #[.agg #[.int .i64 P, .int .i64 Q, .int .i64 G], .agg #[.int .i64 h0b, .slice a0b n0b c0b], .int .i64 r3a, .agg #[.slice at5a nt5a ct5a, .slice at5b nt5b ct5b, .slice at5c nt5c ct5c]]) (by simp [results, Try.results82, go_sem, t_HX0_0, t_HX0_1, t_HX0_2, t_HX1_0, t_HX1_1, t_HX2_0, t_HX2_1, t_HX2_2]) rfl ⟨⟨_, _, _, _, _, _, _, _, _, _, _, _, _, rfl, HGR.out, ⟨⟨by omega, by omega⟩, (HL0b.out.within HYW.out (by omega)).here, by have := HE0b.out; omega⟩, ⟨by omega, by omega⟩, ⟨⟨(HLt5a.out.within HYW.out (by omega)).here, by have := HEt5a.out; omega⟩, ⟨(HLt5b.out.within HYW.out (by omega)).here, by have := HEt5b.out; omega⟩, ⟨(HLt5c.out.within HYW.out (by omega)).here, by have := HEt5c.out; omega⟩⟩⟩, HYB.out⟩
      refine wpV_do (by kernel_rfl) (fun K hK => ?_)
      -- 7: store
      have r0 := HX0.out.cell (i := 0) rfl
      have r1 := HX0.out.cell (i := 1) rfl
      have r2 := HX0.out.cell (i := 2) rfl
      have fr := fun j => HX0.out.frozen j
      obtain ⟨Y9, hY⟩ : ∃ Y, Y = ((ut5.setCell ⟨w.heap.size, 0, none⟩ (.int .i64 P)).setCell ⟨w.heap.size, 1, none⟩ (.int .i64 Q)).setCell ⟨w.heap.size, 2, none⟩ (.int .i64 G) := ⟨_, rfl⟩
      have hYl : Within (w.heap.size) (w.heap.size + 1) ut5 Y9 := by rw [hY]; exact ((((Within.refl (w.heap.size) (w.heap.size + 1) ut5).setCell (b := w.heap.size) (by omega) (by omega) 0 (.int .i64 P)).setCell (b := w.heap.size) (by omega) (by omega) 1 (.int .i64 Q)).setCell (b := w.heap.size) (by omega) (by omega) 2 (.int .i64 G))
      go_simp
      refine hK.out _ _ ?_ (fun _ => ?_)
      · rw [← hY]; exact ⟨(within_at hYl z_3_0 (by omega)), (within_at hYl z_3_1 (by omega)), (within_at hYl z_3_2 (by omega)), (within_at hYl z_4_0 (by omega)), (within_at hYl z_4_1 (by omega)), (within_at hYl z_5_0 (by omega)), (within_at hYl z_5_1 (by omega)), (within_at hYl z_5_2 (by omega))⟩
      rw [← hY]
      clear hK K fr r0 r1 r2
      replace HX0 : Hid (BoxN Y9 w.heap.size 39 [.int .i64 P, .int .i64 Q, .int .i64 G]) := by unfold Hid; rw [hY]; exact (((HX0.out.set 0 (.int .i64 P)).set 1 (.int .i64 Q)).set 2 (.int .i64 G))
      replace HX1 := Lib.hid (HX1.out.kept hYl (by omega))
      replace HX2 := Lib.hid (HX2.out.kept hYl (by omega))
      replace HLb0 := Lib.hid (HLb0.out.kept hYl (by omega))
      replace HLb1 := Lib.hid (HLb1.out.kept hYl (by omega))
      replace HZ1 := Lib.hid (HZ1.out.kept hYl (by omega))
      have HYW : Hid (Within w.heap.size (w.heap.size + 3) ut5 Y9) := hYl.mono (by omega) (by omega)
      have HYB : Hid (Below w.heap.size w Y9) := hYl.belowU (HW.out.belowOf HBW.out (by omega)) (by omega)
      clear hY hYl
      (try simp only [Act.put, List.setIfInBounds_toArray, List.set_cons_zero, List.set_cons_succ])
      clear z_3_0 z_3_1 z_3_2 z_4_0 z_4_1 z_5_0 z_5_1 z_5_2
      have z_3_0 := HLb0.out.cell (i := 0) rfl
      have z_3_1 := HLb0.out.cell (i := 1) rfl
      have z_3_2 := HLb0.out.cell (i := 2) rfl
      have z_4_0 := HLb1.out.cell (i := 0) rfl
      have z_4_1 := HLb1.out.cell (i := 1) rfl
      have z_5_0 := HZ1.out.cell (i := 0) rfl
      have z_5_1 := HZ1.out.cell (i := 1) rfl
      have z_5_2 := HZ1.out.cell (i := 2) rfl
      refine wpV_do (by kernel_rfl) (fun K hK => ?_)
      -- 1: load
      go_simp
      refine hK.out _ _ ⟨z_3_0, z_3_1, z_3_2, z_4_0, z_4_1, z_5_0, z_5_1, z_5_2⟩ (fun _ => ?_)
      clear hK K
      (try simp only [Act.put, List.setIfInBounds_toArray, List.set_cons_zero, List.set_cons_succ])
      refine wpV_do (by kernel_rfl) (fun K hK => ?_)
      -- 8: store
      have r0 := HX1.out.cell (i := 0) rfl
      have r1 := HX1.out.cell (i := 1) rfl
      have fr := fun j => HX1.out.frozen j
      obtain ⟨Y10, hY⟩ : ∃ Y, Y = (Y9.setCell ⟨w.heap.size + 1, 0, none⟩ (.int .i64 h0b)).setCell ⟨w.heap.size + 1, 1, none⟩ (.slice a0b n0b c0b) := ⟨_, rfl⟩
      have hYl : Within (w.heap.size + 1) (w.heap.size + 1 + 1) Y9 Y10 := by rw [hY]; exact (((Within.refl (w.heap.size + 1) (w.heap.size + 1 + 1) Y9).setCell (b := w.heap.size + 1) (by omega) (by omega) 0 (.int .i64 h0b)).setCell (b := w.heap.size + 1) (by omega) (by omega) 1 (.slice a0b n0b c0b))
      go_simp
      refine hK.out _ _ ?_ (fun _ => ?_)
      · rw [← hY]; exact ⟨(within_at hYl z_3_0 (by omega)), (within_at hYl z_3_1 (by omega)), (within_at hYl z_3_2 (by omega)), (within_at hYl z_4_0 (by omega)), (within_at hYl z_4_1 (by omega)), (within_at hYl z_5_0 (by omega)), (within_at hYl z_5_1 (by omega)), (within_at hYl z_5_2 (by omega))⟩
      rw [← hY]
      clear hK K fr r0 r1
      replace HX1 : Hid (BoxN Y10 (w.heap.size + 1) 79 [.int .i64 h0b, .slice a0b n0b c0b]) := by unfold Hid; rw [hY]; exact ((HX1.out.set 0 (.int .i64 h0b)).set 1 (.slice a0b n0b c0b))
      replace HX0 := Lib.hid (HX0.out.kept hYl (by omega))
      replace HX2 := Lib.hid (HX2.out.kept hYl (by omega))
      replace HLb0 := Lib.hid (HLb0.out.kept hYl (by omega))
      replace HLb1 := Lib.hid (HLb1.out.kept hYl (by omega))
      replace HZ1 := Lib.hid (HZ1.out.kept hYl (by omega))
      replace HYW := Lib.hid (HYW.out.trans (hYl.mono (by omega) (by omega)))
      replace HYB := Lib.hid (hYl.belowU HYB.out (by omega))
      clear hY hYl
      (try simp only [Act.put, List.setIfInBounds_toArray, List.set_cons_zero, List.set_cons_succ])
      clear z_3_0 z_3_1 z_3_2 z_4_0 z_4_1 z_5_0 z_5_1 z_5_2
      have z_3_0 := HLb0.out.cell (i := 0) rfl
      have z_3_1 := HLb0.out.cell (i := 1) rfl
      have z_3_2 := HLb0.out.cell (i := 2) rfl
      have z_4_0 := HLb1.out.cell (i := 0) rfl
      have z_4_1 := HLb1.out.cell (i := 1) rfl
      have z_5_0 := HZ1.out.cell (i := 0) rfl
      have z_5_1 := HZ1.out.cell (i := 1) rfl
      have z_5_2 := HZ1.out.cell (i := 2) rfl
      refine wpV_do (by kernel_rfl) (fun K hK => ?_)
      -- 9: load
      go_simp
      refine hK.out _ _ ⟨z_3_0, z_3_1, z_3_2, z_4_0, z_4_1, z_5_0, z_5_1, z_5_2⟩ (fun _ => ?_)
      clear hK K
      (try simp only [Act.put, List.setIfInBounds_toArray, List.set_cons_zero, List.set_cons_succ])
      refine wpV_do (by kernel_rfl) (fun K hK => ?_)
      -- 10: store
      have r0 := HX2.out.cell (i := 0) rfl
      have r1 := HX2.out.cell (i := 1) rfl
      have r2 := HX2.out.cell (i := 2) rfl
      have fr := fun j => HX2.out.frozen j
      obtain ⟨Y11, hY⟩ : ∃ Y, Y = ((Y10.setCell ⟨w.heap.size + 1 + 1, 0, none⟩ (.slice at5a nt5a ct5a)).setCell ⟨w.heap.size + 1 + 1, 1, none⟩ (.slice at5b nt5b ct5b)).setCell ⟨w.heap.size + 1 + 1, 2, none⟩ (.slice at5c nt5c ct5c) := ⟨_, rfl⟩
      have hYl : Within (w.heap.size + 1 + 1) (w.heap.size + 1 + 1 + 1) Y10 Y11 := by rw [hY]; exact ((((Within.refl (w.heap.size + 1 + 1) (w.heap.size + 1 + 1 + 1) Y10).setCell (b := w.heap.size + 1 + 1) (by omega) (by omega) 0 (.slice at5a nt5a ct5a)).setCell (b := w.heap.size + 1 + 1) (by omega) (by omega) 1 (.slice at5b nt5b ct5b)).setCell (b := w.heap.size + 1 + 1) (by omega) (by omega) 2 (.slice at5c nt5c ct5c))
      go_simp
      refine hK.out _ _ ?_ (fun _ => ?_)
      · rw [← hY]; exact ⟨(within_at hYl z_3_0 (by omega)), (within_at hYl z_3_1 (by omega)), (within_at hYl z_3_2 (by omega)), (within_at hYl z_4_0 (by omega)), (within_at hYl z_4_1 (by omega)), (within_at hYl z_5_0 (by omega)), (within_at hYl z_5_1 (by omega)), (within_at hYl z_5_2 (by omega))⟩
      rw [← hY]
      clear hK K fr r0 r1 r2
      replace HX2 : Hid (BoxN Y11 (w.heap.size + 1 + 1) 42 [.slice at5a nt5a ct5a, .slice at5b nt5b ct5b, .slice at5c nt5c ct5c]) := by unfold Hid; rw [hY]; exact (((HX2.out.set 0 (.slice at5a nt5a ct5a)).set 1 (.slice at5b nt5b ct5b)).set 2 (.slice at5c nt5c ct5c))
      replace HX0 := Lib.hid (HX0.out.kept hYl (by omega))
      replace HX1 := Lib.hid (HX1.out.kept hYl (by omega))
      replace HLb0 := Lib.hid (HLb0.out.kept hYl (by omega))
      replace HLb1 := Lib.hid (HLb1.out.kept hYl (by omega))
      replace HZ1 := Lib.hid (HZ1.out.kept hYl (by omega))
      replace HYW := Lib.hid (HYW.out.trans (hYl.mono (by omega) (by omega)))
      replace HYB := Lib.hid (hYl.belowU HYB.out (by omega))
      clear hY hYl
      (try simp only [Act.put, List.setIfInBounds_toArray, List.set_cons_zero, List.set_cons_succ])
      clear z_3_0 z_3_1 z_3_2 z_4_0 z_4_1 z_5_0 z_5_1 z_5_2
      have z_3_0 := HLb0.out.cell (i := 0) rfl
      have z_3_1 := HLb0.out.cell (i := 1) rfl
      have z_3_2 := HLb0.out.cell (i := 2) rfl
      have z_4_0 := HLb1.out.cell (i := 0) rfl
      have z_4_1 := HLb1.out.cell (i := 1) rfl
      have z_5_0 := HZ1.out.cell (i := 0) rfl
      have z_5_1 := HZ1.out.cell (i := 1) rfl
      have z_5_2 := HZ1.out.cell (i := 2) rfl
      refine wpV_done ?_
      go_wp2_with fail
      refine NoPanic.normal ?_
      clear z_3_0 z_3_1 z_3_2 z_4_0 z_4_1 z_5_0 z_5_1 z_5_2
      have t_HX0_0 := HX0.out.cell (i := 0) rfl
      have t_HX0_1 := HX0.out.cell (i := 1) rfl
      have t_HX0_2 := HX0.out.cell (i := 2) rfl
      have t_HX1_0 := HX1.out.cell (i := 0) rfl
      have t_HX1_1 := HX1.out.cell (i := 1) rfl
      have t_HX2_0 := HX2.out.cell (i := 0) rfl
      have t_HX2_1 := HX2.out.cell (i := 1) rfl
      have t_HX2_2 := HX2.out.cell (i := 2) rfl
      try (go_wp2_with fail)
      refine bodyPost_ret (v := .tuple #[.agg #[.int .i64 P, .int .i64 Q, .int .i64 G], .agg #[.int .i64 h0b, .slice a0b n0b c0b], .int .i64 r3a, .agg #[.slice at5a nt5a ct5a, .slice at5b nt5b ct5b, .slice at5c nt5c ct5c]]) (by simp [results, Try.results82, go_sem, t_HX0_0, t_HX0_1, t_HX0_2, t_HX1_0, t_HX1_1, t_HX2_0, t_HX2_1, t_HX2_2]) rfl ⟨⟨_, _, _, _, _, _, _, _, _, _, _, _, _, rfl, HGR.out, ⟨⟨by omega, by omega⟩, (HL0b.out.within HYW.out (by omega)).here, by have := HE0b.out; omega⟩, ⟨by omega, by omega⟩, ⟨⟨(HLt5a.out.within HYW.out (by omega)).here, by have := HEt5a.out; omega⟩, ⟨(HLt5b.out.within HYW.out (by omega)).here, by have := HEt5b.out; omega⟩, ⟨(HLt5c.out.within HYW.out (by omega)).here, by have := HEt5c.out; omega⟩⟩⟩, HYB.out⟩
    | true =>
      have z_0_0 := HX0.out.cell (i := 0) rfl
      have z_0_1 := HX0.out.cell (i := 1) rfl
      have z_0_2 := HX0.out.cell (i := 2) rfl
      have z_1_0 := HX1.out.cell (i := 0) rfl
      have z_1_1 := HX1.out.cell (i := 1) rfl
      have z_2_0 := HX2.out.cell (i := 0) rfl
      have z_2_1 := HX2.out.cell (i := 1) rfl
      have z_2_2 := HX2.out.cell (i := 2) rfl
      have z_3_0 := HLb0.out.cell (i := 0) rfl
      have z_3_1 := HLb0.out.cell (i := 1) rfl
      have z_3_2 := HLb0.out.cell (i := 2) rfl
      have z_4_0 := HLb1.out.cell (i := 0) rfl
      have z_4_1 := HLb1.out.cell (i := 1) rfl
      have z_5_0 := HZ1.out.cell (i := 0) rfl
      have z_5_1 := HZ1.out.cell (i := 1) rfl
      have z_5_2 := HZ1.out.cell (i := 2) rfl
      try (go_wp2_with fail)
      clear z_0_0 z_0_1 z_0_2 z_1_0 z_1_1 z_2_0 z_2_1 z_2_2 z_3_0 z_3_1 z_3_2 z_4_0 z_4_1 z_5_0 z_5_1 z_5_2
      refine (spec_anyElement U g _ P Q G _ HC.out (HW.out.belowOf HUC.out (Nat.le_of_eq HUS.out)) (by omega) HGR.out).mono ?_
      rintro e u5 ⟨⟨x5, rfl, x5l, x5u⟩, hc, hw⟩
      have hsz5 := hw.size
      replace HX0 := Lib.hid (HX0.out.kept hw (.inl (by omega)))
      replace HX1 := Lib.hid (HX1.out.kept hw (.inl (by omega)))
      replace HX2 := Lib.hid (HX2.out.kept hw (.inl (by omega)))
      replace HLb0 := Lib.hid (HLb0.out.kept hw (.inl (by omega)))
      replace HLb1 := Lib.hid (HLb1.out.kept hw (.inl (by omega)))
      replace HZ1 := Lib.hid (HZ1.out.kept hw (.inr (by omega)))
      replace HL0b := Lib.hid (HL0b.out.within hw (by omega))
      replace HL0e := Lib.hid (HL0e.out.within hw (by omega))
      replace HL1a := Lib.hid (HL1a.out.within hw (by omega))
      replace HL1b := Lib.hid (HL1b.out.within hw (by omega))
      replace HL1c := Lib.hid (HL1c.out.within hw (by omega))
      replace HW := Lib.hid (HW.out.trans hw)
      replace HC := Lib.hid hc
      clear hc hw
      have z_0_0 := HX0.out.cell (i := 0) rfl
      have z_0_1 := HX0.out.cell (i := 1) rfl
      have z_0_2 := HX0.out.cell (i := 2) rfl
      have z_1_0 := HX1.out.cell (i := 0) rfl
      have z_1_1 := HX1.out.cell (i := 1) rfl
      have z_2_0 := HX2.out.cell (i := 0) rfl
      have z_2_1 := HX2.out.cell (i := 1) rfl
      have z_2_2 := HX2.out.cell (i := 2) rfl
      have z_3_0 := HLb0.out.cell (i := 0) rfl
      have z_3_1 := HLb0.out.cell (i := 1) rfl
      have z_3_2 := HLb0.out.cell (i := 2) rfl
      have z_4_0 := HLb1.out.cell (i := 0) rfl
      have z_4_1 := HLb1.out.cell (i := 1) rfl
      have z_5_0 := HZ1.out.cell (i := 0) rfl
      have z_5_1 := HZ1.out.cell (i := 1) rfl
      have z_5_2 := HZ1.out.cell (i := 2) rfl
      try (go_wp2_with fail)
      clear z_0_0
      clear z_0_1
      clear z_0_2
      clear z_1_0
      clear z_1_1
      clear z_2_0
      clear z_2_1
      clear z_2_2
      refine wp_region_noPanic ?_
      refine wp_region_V (fun w' => w'.cell? ⟨R1.heap.size, 0, none⟩ = some (.int .i64 P) ∧ w'.cell? ⟨R1.heap.size, 1, none⟩ = some (.int .i64 Q) ∧ w'.cell? ⟨R1.heap.size, 2, none⟩ = some (.int .i64 G) ∧ w'.cell? ⟨R1.heap.size + 1, 0, none⟩ = some (.int .i64 h0b) ∧ w'.cell? ⟨R1.heap.size + 1, 1, none⟩ = some (.slice a0b n0b c0b) ∧ w'.cell? ⟨u1.heap.size, 0, none⟩ = some (.slice a1a n1a_ c1a) ∧ w'.cell? ⟨u1.heap.size, 1, none⟩ = some (.slice a1b n1b_ c1b) ∧ w'.cell? ⟨u1.heap.size, 2, none⟩ = some (.slice a1c n1c_ c1c)) 13 11 (.rd 0 (.rd 2 (.rd 3 (.rd 4 (.rd 5 (.alt 1 (.alt 6 (.alt 7 (.alt 8 (.alt 9 (.alt 10 .done .nil) .nil) .nil) .nil) .nil) (.alt 6 (.alt 1 (.alt 7 (.alt 8 (.alt 9 (.alt 10 .done .nil) .nil) .nil) .nil) (.alt 7 (.alt 1 (.alt 8 (.alt 9 (.alt 10 .done .nil) .nil) .nil) .nil) .nil)) .nil))))))) [] (by kernel_rfl) (by kernel_rfl) rfl (fun _ _ _ _ _ h => h) ⟨box_at z_3_0 (Below.refl _ _).drew, box_at z_3_1 (Below.refl _ _).drew, box_at z_3_2 (Below.refl _ _).drew, box_at z_4_0 (Below.refl _ _).drew, box_at z_4_1 (Below.refl _ _).drew, box_at z_5_0 (Below.refl _ _).drew, box_at z_5_1 (Below.refl _ _).drew, box_at z_5_2 (Below.refl _ _).drew⟩ ?_
      simp only [pickV, pickN, List.getElem?_cons_zero, List.getElem?_cons_succ]
      repeat (refine' wpV_read _ (by kernel_rfl) (fun w' hS' => ?_) ?_; rotate_left; · ((try dsimp only at hS'); go_simp; (try with_reducible rfl)); (try simp only [Act.put, List.setIfInBounds_toArray, List.set_cons_zero, List.set_cons_succ]))
      have hdr : Below u5.heap.size u5 u5.drew := (Below.refl _ _).drew
      have hszd := hdr.size
      replace HX0 := Lib.hid (HX0.out.below hdr)
      replace HX1 := Lib.hid (HX1.out.below hdr)
      replace HX2 := Lib.hid (HX2.out.below hdr)
      replace HLb0 := Lib.hid (HLb0.out.below hdr)
      replace HLb1 := Lib.hid (HLb1.out.below hdr)
      replace HZ1 := Lib.hid (HZ1.out.below hdr)
      replace HL0b := Lib.hid (HL0b.out.below hdr)
      replace HL0e := Lib.hid (HL0e.out.below hdr)
      replace HL1a := Lib.hid (HL1a.out.below hdr)
      replace HL1b := Lib.hid (HL1b.out.below hdr)
      replace HL1c := Lib.hid (HL1c.out.below hdr)
      replace HW := Lib.hid (HW.out.trans (Within.of_below hdr))
      replace HC := Lib.hid (HC.out.keep hdr)
      clear hdr
      refine wpV_or (by kernel_rfl) (fun K hK => ?_) ?_
      · -- 1: load
        go_simp
        refine hK.out _ _ ⟨z_3_0, z_3_1, z_3_2, z_4_0, z_4_1, z_5_0, z_5_1, z_5_2⟩ (fun _ => ?_)
        clear hK K
        (try simp only [Act.put, List.setIfInBounds_toArray, List.set_cons_zero, List.set_cons_succ])
        refine wpV_do (by kernel_rfl) (fun K hK => ?_)
        -- 6: call
        go_simp
        go_at_call 201
        refine (spec_spoiltProof U g _ P Q G _ _ _ l1a l1b l1c _ HC.out (HW.out.belowOf HUC.out (Nat.le_of_eq HUS.out)) (by omega) HGR.out HL1a.out.here HL1b.out.here HL1c.out.here (by have := HE1a.out; omega) (by have := HE1b.out; omega) (by have := HE1c.out; omega)).mono ?_
        rintro e ut1 ⟨⟨vt1a, vt1b, vt1c, lt1a, lt1b, lt1c, rfl, ⟨hst1a, hlt1a⟩, ⟨hst1b, hlt1b⟩, ⟨hst1c, hlt1c⟩⟩, hc, hw⟩
        have HLt1a := Lib.hid hst1a
        obtain ⟨at1a, nt1a, ct1a, rfl⟩ := hst1a.here.shape
        have hnt1a : nt1a ≤ 31 := by have h1 := hst1a.here.len; omega
        have HEt1a := Lib.hid hst1a.here.len
        clear hst1a
        have HLt1b := Lib.hid hst1b
        obtain ⟨at1b, nt1b, ct1b, rfl⟩ := hst1b.here.shape
        have hnt1b : nt1b ≤ 31 := by have h1 := hst1b.here.len; omega
        have HEt1b := Lib.hid hst1b.here.len
        clear hst1b
        have HLt1c := Lib.hid hst1c
        obtain ⟨at1c, nt1c, ct1c, rfl⟩ := hst1c.here.shape
        have hnt1c : nt1c ≤ 31 := by have h1 := hst1c.here.len; omega
        have HEt1c := Lib.hid hst1c.here.len
        clear hst1c
        have hszt1 := hw.size
        replace HX0 := Lib.hid (HX0.out.kept hw (.inl (by omega)))
        replace HX1 := Lib.hid (HX1.out.kept hw (.inl (by omega)))
        replace HX2 := Lib.hid (HX2.out.kept hw (.inl (by omega)))
        replace HLb0 := Lib.hid (HLb0.out.kept hw (.inl (by omega)))
        replace HLb1 := Lib.hid (HLb1.out.kept hw (.inl (by omega)))
        replace HZ1 := Lib.hid (HZ1.out.kept hw (.inr (by omega)))
        replace HL0b := Lib.hid (HL0b.out.within hw (by omega))
        replace HL0e := Lib.hid (HL0e.out.within hw (by omega))
        replace HL1a := Lib.hid (HL1a.out.within hw (by omega))
        replace HL1b := Lib.hid (HL1b.out.within hw (by omega))
        replace HL1c := Lib.hid (HL1c.out.within hw (by omega))
        replace HW := Lib.hid (HW.out.trans hw)
        replace HC := Lib.hid hc
        clear hc hw
        clear z_3_0 z_3_1 z_3_2 z_4_0 z_4_1 z_5_0 z_5_1 z_5_2
        have z_3_0 := HLb0.out.cell (i := 0) rfl
        have z_3_1 := HLb0.out.cell (i := 1) rfl
        have z_3_2 := HLb0.out.cell (i := 2) rfl
        have z_4_0 := HLb1.out.cell (i := 0) rfl
        have z_4_1 := HLb1.out.cell (i := 1) rfl
        have z_5_0 := HZ1.out.cell (i := 0) rfl
        have z_5_1 := HZ1.out.cell (i := 1) rfl
        have z_5_2 := HZ1.out.cell (i := 2) rfl
        refine hK.out _ _ ⟨z_3_0, z_3_1, z_3_2, z_4_0, z_4_1, z_5_0, z_5_1, z_5_2⟩ (fun _ => ?_)
        clear hK K
        (try simp only [Act.put, List.setIfInBounds_toArray, List.set_cons_zero, List.set_cons_succ])
        refine wpV_do (by kernel_rfl) (fun K hK => ?_)
        -- 7: store
        have r0 := HX0.out.cell (i := 0) rfl
        have r1 := HX0.out.cell (i := 1) rfl
        have r2 := HX0.out.cell (i := 2) rfl
        have fr := fun j => HX0.out.frozen j
        obtain ⟨Y2, hY⟩ : ∃ Y, Y = ((ut1.setCell ⟨w.heap.size, 0, none⟩ (.int .i64 P)).setCell ⟨w.heap.size, 1, none⟩ (.int .i64 Q)).setCell ⟨w.heap.size, 2, none⟩ (.int .i64 G) := ⟨_, rfl⟩
        have hYl : Within (w.heap.size) (w.heap.size + 1) ut1 Y2 := by rw [hY]; exact ((((Within.refl (w.heap.size) (w.heap.size + 1) ut1).setCell (b := w.heap.size) (by omega) (by omega) 0 (.int .i64 P)).setCell (b := w.heap.size) (by omega) (by omega) 1 (.int .i64 Q)).setCell (b := w.heap.size) (by omega) (by omega) 2 (.int .i64 G))
        go_simp
        refine hK.out _ _ ?_ (fun _ => ?_)
        · rw [← hY]; exact ⟨(within_at hYl z_3_0 (by omega)), (within_at hYl z_3_1 (by omega)), (within_at hYl z_3_2 (by omega)), (within_at hYl z_4_0 (by omega)), (within_at hYl z_4_1 (by omega)), (within_at hYl z_5_0 (by omega)), (within_at hYl z_5_1 (by omega)), (within_at hYl z_5_2 (by omega))⟩
        rw [← hY]
        clear hK K fr r0 r1 r2
        replace HX0 : Hid (BoxN Y2 w.heap.size 39 [.int .i64 P, .int .i64 Q, .int .i64 G]) := by unfold Hid; rw [hY]; exact (((HX0.out.set 0 (.int .i64 P)).set 1 (.int .i64 Q)).set 2 (.int .i64 G))
        replace HX1 := Lib.hid (HX1.out.kept hYl (by omega))
        replace HX2 := Lib.hid (HX2.out.kept hYl (by omega))
        replace HLb0 := Lib.hid (HLb0.out.kept hYl (by omega))
        replace HLb1 := Lib.hid (HLb1.out.kept hYl (by omega))
        replace HZ1 := Lib.hid (HZ1.out.kept hYl (by omega))
        have HYW : Hid (Within w.heap.size (w.heap.size + 3) ut1 Y2) := hYl.mono (by omega) (by omega)
        have HYB : Hid (Below w.heap.size w Y2) := hYl.belowU (HW.out.belowOf HBW.out (by omega)) (by omega)
        clear hY hYl
        (try simp only [Act.put, List.setIfInBounds_toArray, List.set_cons_zero, List.set_cons_succ])
        clear z_3_0 z_3_1 z_3_2 z_4_0 z_4_1 z_5_0 z_5_1 z_5_2
        have z_3_0 := HLb0.out.cell (i := 0) rfl
        have z_3_1 := HLb0.out.cell (i := 1) rfl
        have z_3_2 := HLb0.out.cell (i := 2) rfl
        have z_4_0 := HLb1.out.cell (i := 0) rfl
        have z_4_1 := HLb1.out.cell (i := 1) rfl
        have z_5_0 := HZ1.out.cell (i := 0) rfl
        have z_5_1 := HZ1.out.cell (i := 1) rfl
        have z_5_2 := HZ1.out.cell (i := 2) rfl
        refine wpV_do (by kernel_rfl) (fun K hK => ?_)
        -- 8: store
        have r0 := HX1.out.cell (i := 0) rfl
        have r1 := HX1.out.cell (i := 1) rfl
        have fr := fun j => HX1.out.frozen j
        obtain ⟨Y3, hY⟩ : ∃ Y, Y = (Y2.setCell ⟨w.heap.size + 1, 0, none⟩ (.int .i64 h0b)).setCell ⟨w.heap.size + 1, 1, none⟩ (.slice a0b n0b c0b) := ⟨_, rfl⟩
        have hYl : Within (w.heap.size + 1) (w.heap.size + 1 + 1) Y2 Y3 := by rw [hY]; exact (((Within.refl (w.heap.size + 1) (w.heap.size + 1 + 1) Y2).setCell (b := w.heap.size + 1) (by omega) (by omega) 0 (.int .i64 h0b)).setCell (b := w.heap.size + 1) (by omega) (by omega) 1 (.slice a0b n0b c0b))
        go_simp
        refine hK.out _ _ ?_ (fun _ => ?_)
        · rw [← hY]; exact ⟨(within_at hYl z_3_0 (by omega)), (within_at hYl z_3_1 (by omega)), (within_at hYl z_3_2 (by omega)), (within_at hYl z_4_0 (by omega)), (within_at hYl z_4_1 (by omega)), (within_at hYl z_5_0 (by omega)), (within_at hYl z_5_1 (by omega)), (within_at hYl z_5_2 (by omega))⟩
        rw [← hY]
        clear hK K fr r0 r1
        replace HX1 : Hid (BoxN Y3 (w.heap.size + 1) 79 [.int .i64 h0b, .slice a0b n0b c0b]) := by unfold Hid; rw [hY]; exact ((HX1.out.set 0 (.int .i64 h0b)).set 1 (.slice a0b n0b c0b))
        replace HX0 := Lib.hid (HX0.out.kept hYl (by omega))
        replace HX2 := Lib.hid (HX2.out.kept hYl (by omega))
        replace HLb0 := Lib.hid (HLb0.out.kept hYl (by omega))
        replace HLb1 := Lib.hid (HLb1.out.kept hYl (by omega))
        replace HZ1 := Lib.hid (HZ1.out.kept hYl (by omega))
        replace HYW := Lib.hid (HYW.out.trans (hYl.mono (by omega) (by omega)))
        replace HYB := Lib.hid (hYl.belowU HYB.out (by omega))
        clear hY hYl
        (try simp only [Act.put, List.setIfInBounds_toArray, List.set_cons_zero, List.set_cons_succ])
        clear z_3_0 z_3_1 z_3_2 z_4_0 z_4_1 z_5_0 z_5_1 z_5_2
        have z_3_0 := HLb0.out.cell (i := 0) rfl
        have z_3_1 := HLb0.out.cell (i := 1) rfl
        have z_3_2 := HLb0.out.cell (i := 2) rfl
        have z_4_0 := HLb1.out.cell (i := 0) rfl
        have z_4_1 := HLb1.out.cell (i := 1) rfl
        have z_5_0 := HZ1.out.cell (i := 0) rfl
        have z_5_1 := HZ1.out.cell (i := 1) rfl
        have z_5_2 := HZ1.out.cell (i := 2) rfl
        refine wpV_do (by kernel_rfl) (fun K hK => ?_)
        -- 9: load
        go_simp
        refine hK.out _ _ ⟨z_3_0, z_3_1, z_3_2, z_4_0, z_4_1, z_5_0, z_5_1, z_5_2⟩ (fun _ => ?_)
        clear hK K
        (try simp only [Act.put, List.setIfInBounds_toArray, List.set_cons_zero, List.set_cons_succ])
        refine wpV_do (by kernel_rfl) (fun K hK => ?_)
        -- 10: store
        have r0 := HX2.out.cell (i := 0) rfl
        have r1 := HX2.out.cell (i := 1) rfl
        have r2 := HX2.out.cell (i := 2) rfl
        have fr := fun j => HX2.out.frozen j
        obtain ⟨Y4, hY⟩ : ∃ Y, Y = ((Y3.setCell ⟨w.heap.size + 1 + 1, 0, none⟩ (.slice at1a nt1a ct1a)).setCell ⟨w.heap.size + 1 + 1, 1, none⟩ (.slice at1b nt1b ct1b)).setCell ⟨w.heap.size + 1 + 1, 2, none⟩ (.slice at1c nt1c ct1c) := ⟨_, rfl⟩
        have hYl : Within (w.heap.size + 1 + 1) (w.heap.size + 1 + 1 + 1) Y3 Y4 := by rw [hY]; exact ((((Within.refl (w.heap.size + 1 + 1) (w.heap.size + 1 + 1 + 1) Y3).setCell (b := w.heap.size + 1 + 1) (by omega) (by omega) 0 (.slice at1a nt1a ct1a)).setCell (b := w.heap.size + 1 + 1) (by omega) (by omega) 1 (.slice at1b nt1b ct1b)).setCell (b := w.heap.size + 1 + 1) (by omega) (by omega) 2 (.slice at1c nt1c ct1c))
        go_simp
        refine hK.out _ _ ?_ (fun _ => ?_)
        · rw [← hY]; exact ⟨(within_at hYl z_3_0 (by omega)), (within_at hYl z_3_1 (by omega)), (within_at hYl z_3_2 (by omega)), (within_at hYl z_4_0 (by omega)), (within_at hYl z_4_1 (by omega)), (within_at hYl z_5_0 (by omega)), (within_at hYl z_5_1 (by omega)), (within_at hYl z_5_2 (by omega))⟩
        rw [← hY]
        clear hK K fr r0 r1 r2
        replace HX2 : Hid (BoxN Y4 (w.heap.size + 1 + 1) 42 [.slice at1a nt1a ct1a, .slice at1b nt1b ct1b, .slice at1c nt1c ct1c]) := by unfold Hid; rw [hY]; exact (((HX2.out.set 0 (.slice at1a nt1a ct1a)).set 1 (.slice at1b nt1b ct1b)).set 2 (.slice at1c nt1c ct1c))
        replace HX0 := Lib.hid (HX0.out.kept hYl (by omega))
        replace HX1 := Lib.hid (HX1.out.kept hYl (by omega))
        replace HLb0 := Lib.hid (HLb0.out.kept hYl (by omega))
        replace HLb1 := Lib.hid (HLb1.out.kept hYl (by omega))
        replace HZ1 := Lib.hid (HZ1.out.kept hYl (by omega))
        replace HYW := Lib.hid (HYW.out.trans (hYl.mono (by omega) (by omega)))
        replace HYB := Lib.hid (hYl.belowU HYB.out (by omega))
        clear hY hYl
        (try simp only [Act.put, List.setIfInBounds_toArray, List.set_cons_zero, List.set_cons_succ])
        clear z_3_0 z_3_1 z_3_2 z_4_0 z_4_1 z_5_0 z_5_1 z_5_2
        have z_3_0 := HLb0.out.cell (i := 0) rfl
        have z_3_1 := HLb0.out.cell (i := 1) rfl
        have z_3_2 := HLb0.out.cell (i := 2) rfl
        have z_4_0 := HLb1.out.cell (i := 0) rfl
        have z_4_1 := HLb1.out.cell (i := 1) rfl
        have z_5_0 := HZ1.out.cell (i := 0) rfl
        have z_5_1 := HZ1.out.cell (i := 1) rfl
        have z_5_2 := HZ1.out.cell (i := 2) rfl
        refine wpV_done ?_
        go_wp2_with fail
        refine NoPanic.normal ?_
        clear z_3_0 z_3_1 z_3_2 z_4_0 z_4_1 z_5_0 z_5_1 z_5_2
        have t_HX0_0 := HX0.out.cell (i := 0) rfl
        have t_HX0_1 := HX0.out.cell (i := 1) rfl
        have t_HX0_2 := HX0.out.cell (i := 2) rfl
        have t_HX1_0 := HX1.out.cell (i := 0) rfl
        have t_HX1_1 := HX1.out.cell (i := 1) rfl
        have t_HX2_0 := HX2.out.cell (i := 0) rfl
        have t_HX2_1 := HX2.out.cell (i := 1) rfl
        have t_HX2_2 := HX2.out.cell (i := 2) rfl
        try (go_wp2_with fail)
        refine bodyPost_ret (v := .tuple #[.agg #[.int .i64 P, .int .i64 Q, .int .i64 G], .agg #[.int .i64 h0b, .slice a0b n0b c0b], .int .i64 x5, .agg #[.slice at1a nt1a ct1a, .slice at1b nt1b ct1b, .slice at1c nt1c ct1c]]) (by simp [results, Try.results82, go_sem, t_HX0_0, t_HX0_1, t_HX0_2, t_HX1_0, t_HX1_1, t_HX2_0, t_HX2_1, t_HX2_2]) rfl ⟨⟨_, _, _, _, _, _, _, _, _, _, _, _, _, rfl, HGR.out, ⟨⟨by omega, by omega⟩, (HL0b.out.within HYW.out (by omega)).here, by have := HE0b.out; omega⟩, ⟨by omega, by omega⟩, ⟨⟨(HLt1a.out.within HYW.out (by omega)).here, by have := HEt1a.out; omega⟩, ⟨(HLt1b.out.within HYW.out (by omega)).here, by have := HEt1b.out; omega⟩, ⟨(HLt1c.out.within HYW.out (by omega)).here, by have := HEt1c.out; omega⟩⟩⟩, HYB.out⟩
      refine wpV_do (by kernel_rfl) (fun K hK => ?_)
      -- 6: call
      go_simp
      go_at_call 201
      refine (spec_spoiltProof U g _ P Q G _ _ _ l1a l1b l1c _ HC.out (HW.out.belowOf HUC.out (Nat.le_of_eq HUS.out)) (by omega) HGR.out HL1a.out.here HL1b.out.here HL1c.out.here (by have := HE1a.out; omega) (by have := HE1b.out; omega) (by have := HE1c.out; omega)).mono ?_
      rintro e ut5 ⟨⟨vt5a, vt5b, vt5c, lt5a, lt5b, lt5c, rfl, ⟨hst5a, hlt5a⟩, ⟨hst5b, hlt5b⟩, ⟨hst5c, hlt5c⟩⟩, hc, hw⟩
      have HLt5a := Lib.hid hst5a
      obtain ⟨at5a, nt5a, ct5a, rfl⟩ := hst5a.here.shape
      have hnt5a : nt5a ≤ 31 := by have h1 := hst5a.here.len; omega
      have HEt5a := Lib.hid hst5a.here.len
      clear hst5a
      have HLt5b := Lib.hid hst5b
      obtain ⟨at5b, nt5b, ct5b, rfl⟩ := hst5b.here.shape
      have hnt5b : nt5b ≤ 31 := by have h1 := hst5b.here.len; omega
      have HEt5b := Lib.hid hst5b.here.len
      clear hst5b
      have HLt5c := Lib.hid hst5c
      obtain ⟨at5c, nt5c, ct5c, rfl⟩ := hst5c.here.shape
      have hnt5c : nt5c ≤ 31 := by have h1 := hst5c.here.len; omega
      have HEt5c := Lib.hid hst5c.here.len
      clear hst5c
      have hszt5 := hw.size
      replace HX0 := Lib.hid (HX0.out.kept hw (.inl (by omega)))
      replace HX1 := Lib.hid (HX1.out.kept hw (.inl (by omega)))
      replace HX2 := Lib.hid (HX2.out.kept hw (.inl (by omega)))
      replace HLb0 := Lib.hid (HLb0.out.kept hw (.inl (by omega)))
      replace HLb1 := Lib.hid (HLb1.out.kept hw (.inl (by omega)))
      replace HZ1 := Lib.hid (HZ1.out.kept hw (.inr (by omega)))
      replace HL0b := Lib.hid (HL0b.out.within hw (by omega))
      replace HL0e := Lib.hid (HL0e.out.within hw (by omega))
      replace HL1a := Lib.hid (HL1a.out.within hw (by omega))
      replace HL1b := Lib.hid (HL1b.out.within hw (by omega))
      replace HL1c := Lib.hid (HL1c.out.within hw (by omega))
      replace HW := Lib.hid (HW.out.trans hw)
      replace HC := Lib.hid hc
      clear hc hw
      clear z_3_0 z_3_1 z_3_2 z_4_0 z_4_1 z_5_0 z_5_1 z_5_2
      have z_3_0 := HLb0.out.cell (i := 0) rfl
      have z_3_1 := HLb0.out.cell (i := 1) rfl
      have z_3_2 := HLb0.out.cell (i := 2) rfl
      have z_4_0 := HLb1.out.cell (i := 0) rfl
      have z_4_1 := HLb1.out.cell (i := 1) rfl
      have z_5_0 := HZ1.out.cell (i := 0) rfl
      have z_5_1 := HZ1.out.cell (i := 1) rfl
      have z_5_2 := HZ1.out.cell (i := 2) rfl
      refine hK.out _ _ ⟨z_3_0, z_3_1, z_3_2, z_4_0, z_4_1, z_5_0, z_5_1, z_5_2⟩ (fun _ => ?_)
      clear hK K
      (try simp only [Act.put, List.setIfInBounds_toArray, List.set_cons_zero, List.set_cons_succ])
      refine wpV_or (by kernel_rfl) (fun K hK => ?_) ?_
      · -- 1: load
        go_simp
        refine hK.out _ _ ⟨z_3_0, z_3_1, z_3_2, z_4_0, z_4_1, z_5_0, z_5_1, z_5_2⟩ (fun _ => ?_)
        clear hK K
        (try simp only [Act.put, List.setIfInBounds_toArray, List.set_cons_zero, List.set_cons_succ])
        refine wpV_do (by kernel_rfl) (fun K hK => ?_)
        -- 7: store
        have r0 := HX0.out.cell (i := 0) rfl
        have r1 := HX0.out.cell (i := 1) rfl
        have r2 := HX0.out.cell (i := 2) rfl
        have fr := fun j => HX0.out.frozen j
        obtain ⟨Y6, hY⟩ : ∃ Y, Y = ((ut5.setCell ⟨w.heap.size, 0, none⟩ (.int .i64 P)).setCell ⟨w.heap.size, 1, none⟩ (.int .i64 Q)).setCell ⟨w.heap.size, 2, none⟩ (.int .i64 G) := ⟨_, rfl⟩
        have hYl : Within (w.heap.size) (w.heap.size + 1) ut5 Y6 := by rw [hY]; exact ((((Within.refl (w.heap.size) (w.heap.size + 1) ut5).setCell (b := w.heap.size) (by omega) (by omega) 0 (.int .i64 P)).setCell (b := w.heap.size) (by omega) (by omega) 1 (.int .i64 Q)).setCell (b := w.heap.size) (by omega) (by omega) 2 (.int .i64 G))
        go_simp
        refine hK.out _ _ ?_ (fun _ => ?_)
        · rw [← hY]; exact ⟨(within_at hYl z_3_0 (by omega)), (within_at hYl z_3_1 (by omega)), (within_at hYl z_3_2 (by omega)), (within_at hYl z_4_0 (by omega)), (within_at hYl z_4_1 (by omega)), (within_at hYl z_5_0 (by omega)), (within_at hYl z_5_1 (by omega)), (within_at hYl z_5_2 (by omega))⟩
        rw [← hY]
        clear hK K fr r0 r1 r2
        replace HX0 : Hid (BoxN Y6 w.heap.size 39 [.int .i64 P, .int .i64 Q, .int .i64 G]) := by unfold Hid; rw [hY]; exact (((HX0.out.set 0 (.int .i64 P)).set 1 (.int .i64 Q)).set 2 (.int .i64 G))
        replace HX1 := Lib.hid (HX1.out.kept hYl (by omega))
        replace HX2 := Lib.hid (HX2.out.kept hYl (by omega))
        replace HLb0 := Lib.hid (HLb0.out.kept hYl (by omega))
        replace HLb1 := Lib.hid (HLb1.out.kept hYl (by omega))
        replace HZ1 := Lib.hid (HZ1.out.kept hYl (by omega))
        have HYW : Hid (Within w.heap.size (w.heap.size + 3) ut5 Y6) := hYl.mono (by omega) (by omega)
        have HYB : Hid (Below w.heap.size w Y6) := hYl.belowU (HW.out.belowOf HBW.out (by omega)) (by omega)
        clear hY hYl
        (try simp only [Act.put, List.setIfInBounds_toArray, List.set_cons_zero, List.set_cons_succ])
        clear z_3_0 z_3_1 z_3_2 z_4_0 z_4_1 z_5_0 z_5_1 z_5_2
        have z_3_0 := HLb0.out.cell (i := 0) rfl
        have z_3_1 := HLb0.out.cell (i := 1) rfl
        have z_3_2 := HLb0.out.cell (i := 2) rfl
        have z_4_0 := HLb1.out.cell (i := 0) rfl
        have z_4_1 := HLb1.out.cell (i := 1) rfl
        have z_5_0 := HZ1.out.cell (i := 0) rfl
        have z_5_1 := HZ1.out.cell (i := 1) rfl
        have z_5_2 := HZ1.out.cell (i := 2) rfl
        refine wpV_do (by kernel_rfl) (fun K hK => ?_)
        -- 8: store
        have r0 := HX1.out.cell (i := 0) rfl
        have r1 := HX1.out.cell (i := 1) rfl
        have fr := fun j => HX1.out.frozen j
        obtain ⟨Y7, hY⟩ : ∃ Y, Y = (Y6.setCell ⟨w.heap.size + 1, 0, none⟩ (.int .i64 h0b)).setCell ⟨w.heap.size + 1, 1, none⟩ (.slice a0b n0b c0b) := ⟨_, rfl⟩
        have hYl : Within (w.heap.size + 1) (w.heap.size + 1 + 1) Y6 Y7 := by rw [hY]; exact (((Within.refl (w.heap.size + 1) (w.heap.size + 1 + 1) Y6).setCell (b := w.heap.size + 1) (by omega) (by omega) 0 (.int .i64 h0b)).setCell (b := w.heap.size + 1) (by omega) (by omega) 1 (.slice a0b n0b c0b))
        go_simp
        refine hK.out _ _ ?_ (fun _ => ?_)
        · rw [← hY]; exact ⟨(within_at hYl z_3_0 (by omega)), (within_at hYl z_3_1 (by omega)), (within_at hYl z_3_2 (by omega)), (within_at hYl z_4_0 (by omega)), (within_at hYl z_4_1 (by omega)), (within_at hYl z_5_0 (by omega)), (within_at hYl z_5_1 (by omega)), (within_at hYl z_5_2 (by omega))⟩
        rw [← hY]
        clear hK K fr r0 r1
        replace HX1 : Hid (BoxN Y7 (w.heap.size + 1) 79 [.int .i64 h0b, .slice a0b n0b c0b]) := by unfold Hid; rw [hY]; exact ((HX1.out.set 0 (.int .i64 h0b)).set 1 (.slice a0b n0b c0b))
        replace HX0 := Lib.hid (HX0.out.kept hYl (by omega))
        replace HX2 := Lib.hid (HX2.out.kept hYl (by omega))
        replace HLb0 := Lib.hid (HLb0.out.kept hYl (by omega))
        replace HLb1 := Lib.hid (HLb1.out.kept hYl (by omega))
        replace HZ1 := Lib.hid (HZ1.out.kept hYl (by omega))
        replace HYW := Lib.hid (HYW.out.trans (hYl.mono (by omega) (by omega)))
        replace HYB := Lib.hid (hYl.belowU HYB.out (by omega))
        clear hY hYl
        (try simp only [Act.put, List.setIfInBounds_toArray, List.set_cons_zero, List.set_cons_succ])
        clear z_3_0 z_3_1 z_3_2 z_4_0 z_4_1 z_5_0 z_5_1 z_5_2
        have z_3_0 := HLb0.out.cell (i := 0) rfl
        have z_3_1 := HLb0.out.cell (i := 1) rfl
        have z_3_2 := HLb0.out.cell (i := 2) rfl
        have z_4_0 := HLb1.out.cell (i := 0) rfl
        have z_4_1 := HLb1.out.cell (i := 1) rfl
        have z_5_0 := HZ1.out.cell (i := 0) rfl
        have z_5_1 := HZ1.out.cell (i := 1) rfl
        have z_5_2 := HZ1.out.cell (i := 2) rfl
        refine wpV_do (by kernel_rfl) (fun K hK => ?_)
        -- 9: load
        go_simp
        refine hK.out _ _ ⟨z_3_0, z_3_1, z_3_2, z_4_0, z_4_1, z_5_0, z_5_1, z_5_2⟩ (fun _ => ?_)
        clear hK K
        (try simp only [Act.put, List.setIfInBounds_toArray, List.set_cons_zero, List.set_cons_succ])
        refine wpV_do (by kernel_rfl) (fun K hK => ?_)
        -- 10: store
        have r0 := HX2.out.cell (i := 0) rfl
        have r1 := HX2.out.cell (i := 1) rfl
        have r2 := HX2.out.cell (i := 2) rfl
        have fr := fun j => HX2.out.frozen j
        obtain ⟨Y8, hY⟩ : ∃ Y, Y = ((Y7.setCell ⟨w.heap.size + 1 + 1, 0, none⟩ (.slice at5a nt5a ct5a)).setCell ⟨w.heap.size + 1 + 1, 1, none⟩ (.slice at5b nt5b ct5b)).setCell ⟨w.heap.size + 1 + 1, 2, none⟩ (.slice at5c nt5c ct5c) := ⟨_, rfl⟩
        have hYl : Within (w.heap.size + 1 + 1) (w.heap.size + 1 + 1 + 1) Y7 Y8 := by rw [hY]; exact ((((Within.refl (w.heap.size + 1 + 1) (w.heap.size + 1 + 1 + 1) Y7).setCell (b := w.heap.size + 1 + 1) (by omega) (by omega) 0 (.slice at5a nt5a ct5a)).setCell (b := w.heap.size + 1 + 1) (by omega) (by omega) 1 (.slice at5b nt5b ct5b)).setCell (b := w.heap.size + 1 + 1) (by omega) (by omega) 2 (.slice at5c nt5c ct5c))
        go_simp
        refine hK.out _ _ ?_ (fun _ => ?_)
        · rw [← hY]; exact ⟨(within_at hYl z_3_0 (by omega)), (within_at hYl z_3_1 (by omega)), (within_at hYl z_3_2 (by omega)), (within_at hYl z_4_0 (by omega)), (within_at hYl z_4_1 (by omega)), (within_at hYl z_5_0 (by omega)), (within_at hYl z_5_1 (by omega)), (within_at hYl z_5_2 (by omega))⟩
        rw [← hY]
        clear hK K fr r0 r1 r2
        replace HX2 : Hid (BoxN Y8 (w.heap.size + 1 + 1) 42 [.slice at5a nt5a ct5a, .slice at5b nt5b ct5b, .slice at5c nt5c ct5c]) := by unfold Hid; rw [hY]; exact (((HX2.out.set 0 (.slice at5a nt5a ct5a)).set 1 (.slice at5b nt5b ct5b)).set 2 (.slice at5c nt5c ct5c))
        replace HX0 := Lib.hid (HX0.out.kept hYl (by omega))
        replace HX1 := Lib.hid (HX1.out.kept hYl (by omega))
        replace HLb0 := Lib.hid (HLb0.out.kept hYl (by omega))
        replace HLb1 := Lib.hid (HLb1.out.kept hYl (by omega))
        replace HZ1 := Lib.hid (HZ1.out.kept hYl (by omega))
        replace HYW := Lib.hid (HYW.out.trans (hYl.mono (by omega) (by omega)))
        replace HYB := Lib.hid (hYl.belowU HYB.out (by omega))
        clear hY hYl
        (try simp only [Act.put, List.setIfInBounds_toArray, List.set_cons_zero, List.set_cons_succ])
        clear z_3_0 z_3_1 z_3_2 z_4_0 z_4_1 z_5_0 z_5_1 z_5_2
        have z_3_0 := HLb0.out.cell (i := 0) rfl
        have z_3_1 := HLb0.out.cell (i := 1) rfl
        have z_3_2 := HLb0.out.cell (i := 2) rfl
        have z_4_0 := HLb1.out.cell (i := 0) rfl
        have z_4_1 := HLb1.out.cell (i := 1) rfl
        have z_5_0 := HZ1.out.cell (i := 0) rfl
        have z_5_1 := HZ1.out.cell (i := 1) rfl
        have z_5_2 := HZ1.out.cell (i := 2) rfl
        refine wpV_done ?_
        go_wp2_with fail
        refine NoPanic.normal ?_
        clear z_3_0 z_3_1 z_3_2 z_4_0 z_4_1 z_5_0 z_5_1 z_5_2
        have t_HX0_0 := HX0.out.cell (i := 0) rfl
        have t_HX0_1 := HX0.out.cell (i := 1) rfl
        have t_HX0_2 := HX0.out.cell (i := 2) rfl
        have t_HX1_0 := HX1.out.cell (i := 0) rfl
        have t_HX1_1 := HX1.out.cell (i := 1) rfl
        have t_HX2_0 := HX2.out.cell (i := 0) rfl
        have t_HX2_1 := HX2.out.cell (i := 1) rfl
        have t_HX2_2 := HX2.out.cell (i := 2) rfl
        try (go_wp2_with fail)
        refine bodyPost_ret (v := .tuple #[.agg #[.int .i64 P, .int .i64 Q, .int .i64 G], .agg #[.int .i64 h0b, .slice a0b n0b c0b], .int .i64 x5, .agg #[.slice at5a nt5a ct5a, .slice at5b nt5b ct5b, .slice at5c nt5c ct5c]]) (by simp [results, Try.results82, go_sem, t_HX0_0, t_HX0_1, t_HX0_2, t_HX1_0, t_HX1_1, t_HX2_0, t_HX2_1, t_HX2_2]) rfl ⟨⟨_, _, _, _, _, _, _, _, _, _, _, _, _, rfl, HGR.out, ⟨⟨by omega, by omega⟩, (HL0b.out.within HYW.out (by omega)).here, by have := HE0b.out; omega⟩, ⟨by omega, by omega⟩, ⟨⟨(HLt5a.out.within HYW.out (by omega)).here, by have := HEt5a.out; omega⟩, ⟨(HLt5b.out.within HYW.out (by omega)).here, by have := HEt5b.out; omega⟩, ⟨(HLt5c.out.within HYW.out (by omega)).here, by have := HEt5c.out; omega⟩⟩⟩, HYB.out⟩
      refine wpV_do (by kernel_rfl) (fun K hK => ?_)
      -- 7: store
      have r0 := HX0.out.cell (i := 0) rfl
      have r1 := HX0.out.cell (i := 1) rfl
      have r2 := HX0.out.cell (i := 2) rfl
      have fr := fun j => HX0.out.frozen j
      obtain ⟨Y9, hY⟩ : ∃ Y, Y = ((ut5.setCell ⟨w.heap.size, 0, none⟩ (.int .i64 P)).setCell ⟨w.heap.size, 1, none⟩ (.int .i64 Q)).setCell ⟨w.heap.size, 2, none⟩ (.int .i64 G) := ⟨_, rfl⟩
      have hYl : Within (w.heap.size) (w.heap.size + 1) ut5 Y9 := by rw [hY]; exact ((((Within.refl (w.heap.size) (w.heap.size + 1) ut5).setCell (b := w.heap.size) (by omega) (by omega) 0 (.int .i64 P)).setCell (b := w.heap.size) (by omega) (by omega) 1 (.int .i64 Q)).setCell (b := w.heap.size) (by omega) (by omega) 2 (.int .i64 G))
      go_simp
      refine hK.out _ _ ?_ (fun _ => ?_)
      · rw [← hY]; exact ⟨(within_at hYl z_3_0 (by omega)), (within_at hYl z_3_1 (by omega)), (within_at hYl z_3_2 (by omega)), (within_at hYl z_4_0 (by omega)), (within_at hYl z_4_1 (by omega)), (within_at hYl z_5_0 (by omega)), (within_at hYl z_5_1 (by omega)), (within_at hYl z_5_2 (by omega))⟩
      rw [← hY]
      clear hK K fr r0 r1 r2
      replace HX0 : Hid (BoxN Y9 w.heap.size 39 [.int .i64 P, .int .i64 Q, .int .i64 G]) := by unfold Hid; rw [hY]; exact (((HX0.out.set 0 (.int .i64 P)).set 1 (.int .i64 Q)).set 2 (.int .i64 G))
      replace HX1 := Lib.hid (HX1.out.kept hYl (by omega))
      replace HX2 := Lib.hid (HX2.out.kept hYl (by omega))
      replace HLb0 := Lib.hid (HLb0.out.kept hYl (by omega))
      replace HLb1 := Lib.hid (HLb1.out.kept hYl (by omega))
      replace HZ1 := Lib.hid (HZ1.out.kept hYl (by omega))
      have HYW : Hid (Within w.heap.size (w.heap.size + 3) ut5 Y9) := hYl.mono (by omega) (by omega)
      have HYB : Hid (Below w.heap.size w Y9) := hYl.belowU (HW.out.belowOf HBW.out (by omega)) (by omega)
      clear hY hYl
      (try simp only [Act.put, List.setIfInBounds_toArray, List.set_cons_zero, List.set_cons_succ])
      clear z_3_0 z_3_1 z_3_2 z_4_0 z_4_1 z_5_0 z_5_1 z_5_2
      have z_3_0 := HLb0.out.cell (i := 0) rfl
      have z_3_1 := HLb0.out.cell (i := 1) rfl
      have z_3_2 := HLb0.out.cell (i := 2) rfl
      have z_4_0 := HLb1.out.cell (i := 0) rfl
      have z_4_1 := HLb1.out.cell (i := 1) rfl
      have z_5_0 := HZ1.out.cell (i := 0) rfl
      have z_5_1 := HZ1.out.cell (i := 1) rfl
      have z_5_2 := HZ1.out.cell (i := 2) rfl
      refine wpV_do (by kernel_rfl) (fun K hK => ?_)
      -- 1: load
      go_simp
      refine hK.out _ _ ⟨z_3_0, z_3_1, z_3_2, z_4_0, z_4_1, z_5_0, z_5_1, z_5_2⟩ (fun _ => ?_)
      clear hK K
      (try simp only [Act.put, List.setIfInBounds_toArray, List.set_cons_zero, List.set_cons_succ])
      refine wpV_do (by kernel_rfl) (fun K hK => ?_)
      -- 8: store
      have r0 := HX1.out.cell (i := 0) rfl
      have r1 := HX1.out.cell (i := 1) rfl
      have fr := fun j => HX1.out.frozen j
      obtain ⟨Y10, hY⟩ : ∃ Y, Y = (Y9.setCell ⟨w.heap.size + 1, 0, none⟩ (.int .i64 h0b)).setCell ⟨w.heap.size + 1, 1, none⟩ (.slice a0b n0b c0b) := ⟨_, rfl⟩
      have hYl : Within (w.heap.size + 1) (w.heap.size + 1 + 1) Y9 Y10 := by rw [hY]; exact (((Within.refl (w.heap.size + 1) (w.heap.size + 1 + 1) Y9).setCell (b := w.heap.size + 1) (by omega) (by omega) 0 (.int .i64 h0b)).setCell (b := w.heap.size + 1) (by omega) (by omega) 1 (.slice a0b n0b c0b))
      go_simp
      refine hK.out _ _ ?_ (fun _ => ?_)
      · rw [← hY]; exact ⟨(within_at hYl z_3_0 (by omega)), (within_at hYl z_3_1 (by omega)), (within_at hYl z_3_2 (by omega)), (within_at hYl z_4_0 (by omega)), (within_at hYl z_4_1 (by omega)), (within_at hYl z_5_0 (by omega)), (within_at hYl z_5_1 (by omega)), (within_at hYl z_5_2 (by omega))⟩
      rw [← hY]
      clear hK K fr r0 r1
      replace HX1 : Hid (BoxN Y10 (w.heap.size + 1) 79 [.int .i64 h0b, .slice a0b n0b c0b]) := by unfold Hid; rw [hY]; exact ((HX1.out.set 0 (.int .i64 h0b)).set 1 (.slice a0b n0b c0b))
      replace HX0 := Lib.hid (HX0.out.kept hYl (by omega))
      replace HX2 := Lib.hid (HX2.out.kept hYl (by omega))
      replace HLb0 := Lib.hid (HLb0.out.kept hYl (by omega))
      replace HLb1 := Lib.hid (HLb1.out.kept hYl (by omega))
      replace HZ1 := Lib.hid (HZ1.out.kept hYl (by omega))
      replace HYW := Lib.hid (HYW.out.trans (hYl.mono (by omega) (by omega)))
      replace HYB := Lib.hid (hYl.belowU HYB.out (by omega))
      clear hY hYl
      (try simp only [Act.put, List.setIfInBounds_toArray, List.set_cons_zero, List.set_cons_succ])
      clear z_3_0 z_3_1 z_3_2 z_4_0 z_4_1 z_5_0 z_5_1 z_5_2
      have z_3_0 := HLb0.out.cell (i := 0) rfl
      have z_3_1 := HLb0.out.cell (i := 1) rfl
      have z_3_2 := HLb0.out.cell (i := 2) rfl
      have z_4_0 := HLb1.out.cell (i := 0) rfl
      have z_4_1 := HLb1.out.cell (i := 1) rfl
      have z_5_0 := HZ1.out.cell (i := 0) rfl
      have z_5_1 := HZ1.out.cell (i := 1) rfl
      have z_5_2 := HZ1.out.cell (i := 2) rfl
      refine wpV_do (by kernel_rfl) (fun K hK => ?_)
      -- 9: load
      go_simp
      refine hK.out _ _ ⟨z_3_0, z_3_1, z_3_2, z_4_0, z_4_1, z_5_0, z_5_1, z_5_2⟩ (fun _ => ?_)
      clear hK K
      (try simp only [Act.put, List.setIfInBounds_toArray, List.set_cons_zero, List.set_cons_succ])
      refine wpV_do (by kernel_rfl) (fun K hK => ?_)
      -- 10: store
      have r0 := HX2.out.cell (i := 0) rfl
      have r1 := HX2.out.cell (i := 1) rfl
      have r2 := HX2.out.cell (i := 2) rfl
      have fr := fun j => HX2.out.frozen j
      obtain ⟨Y11, hY⟩ : ∃ Y, Y = ((Y10.setCell ⟨w.heap.size + 1 + 1, 0, none⟩ (.slice at5a nt5a ct5a)).setCell ⟨w.heap.size + 1 + 1, 1, none⟩ (.slice at5b nt5b ct5b)).setCell ⟨w.heap.size + 1 + 1, 2, none⟩ (.slice at5c nt5c ct5c) := ⟨_, rfl⟩
      have hYl : Within (w.heap.size + 1 + 1) (w.heap.size + 1 + 1 + 1) Y10 Y11 := by rw [hY]; exact ((((Within.refl (w.heap.size + 1 + 1) (w.heap.size + 1 + 1 + 1) Y10).setCell (b := w.heap.size + 1 + 1) (by omega) (by omega) 0 (.slice at5a nt5a ct5a)).setCell (b := w.heap.size + 1 + 1) (by omega) (by omega) 1 (.slice at5b nt5b ct5b)).setCell (b := w.heap.size + 1 + 1) (by omega) (by omega) 2 (.slice at5c nt5c ct5c))
      go_simp
      refine hK.out _ _ ?_ (fun _ => ?_)
      · rw [← hY]; exact ⟨(within_at hYl z_3_0 (by omega)), (within_at hYl z_3_1 (by omega)), (within_at hYl z_3_2 (by omega)), (within_at hYl z_4_0 (by omega)), (within_at hYl z_4_1 (by omega)), (within_at hYl z_5_0 (by omega)), (within_at hYl z_5_1 (by omega)), (within_at hYl z_5_2 (by omega))⟩
      rw [← hY]
      clear hK K fr r0 r1 r2
      replace HX2 : Hid (BoxN Y11 (w.heap.size + 1 + 1) 42 [.slice at5a nt5a ct5a, .slice at5b nt5b ct5b, .slice at5c nt5c ct5c]) := by unfold Hid; rw [hY]; exact (((HX2.out.set 0 (.slice at5a nt5a ct5a)).set 1 (.slice at5b nt5b ct5b)).set 2 (.slice at5c nt5c ct5c))
      replace HX0 := Lib.hid (HX0.out.kept hYl (by omega))
      replace HX1 := Lib.hid (HX1.out.kept hYl (by omega))
      replace HLb0 := Lib.hid (HLb0.out.kept hYl (by omega))
      replace HLb1 := Lib.hid (HLb1.out.kept hYl (by omega))
      replace HZ1 := Lib.hid (HZ1.out.kept hYl (by omega))
      replace HYW := Lib.hid (HYW.out.trans (hYl.mono (by omega) (by omega)))
      replace HYB := Lib.hid (hYl.belowU HYB.out (by omega))
      clear hY hYl
      (try simp only [Act.put, List.setIfInBounds_toArray, List.set_cons_zero, List.set_cons_succ])
      clear z_3_0 z_3_1 z_3_2 z_4_0 z_4_1 z_5_0 z_5_1 z_5_2
      have z_3_0 := HLb0.out.cell (i := 0) rfl
      have z_3_1 := HLb0.out.cell (i := 1) rfl
      have z_3_2 := HLb0.out.cell (i := 2) rfl
      have z_4_0 := HLb1.out.cell (i := 0) rfl
      have z_4_1 := HLb1.out.cell (i := 1) rfl
      have z_5_0 := HZ1.out.cell (i := 0) rfl
      have z_5_1 := HZ1.out.cell (i := 1) rfl
      have z_5_2 := HZ1.out.cell (i := 2) rfl
      refine wpV_done ?_
      go_wp2_with fail
      refine NoPanic.normal ?_
      clear z_3_0 z_3_1 z_3_2 z_4_0 z_4_1 z_5_0 z_5_1 z_5_2
      have t_HX0_0 := HX0.out.cell (i := 0) rfl
      have t_HX0_1 := HX0.out.cell (i := 1) rfl
      have t_HX0_2 := HX0.out.cell (i := 2) rfl
      have t_HX1_0 := HX1.out.cell (i := 0) rfl
      have t_HX1_1 := HX1.out.cell (i := 1) rfl
      have t_HX2_0 := HX2.out.cell (i := 0) rfl
      have t_HX2_1 := HX2.out.cell (i := 1) rfl
      have t_HX2_2 := HX2.out.cell (i := 2) rfl
      try (go_wp2_with fail)
      refine bodyPost_ret (v := .tuple #[.agg #[.int .i64 P, .int .i64 Q, .int .i64 G], .agg #[.int .i64 h0b, .slice a0b n0b c0b], .int .i64 x5, .agg #[.slice at5a nt5a ct5a, .slice at5b nt5b ct5b, .slice at5c nt5c ct5c]]) (by simp [results, Try.results82, go_sem, t_HX0_0, t_HX0_1, t_HX0_2, t_HX1_0, t_HX1_1, t_HX2_0, t_HX2_1, t_HX2_2]) rfl ⟨⟨_, _, _, _, _, _, _, _, _, _, _, _, _, rfl, HGR.out, ⟨⟨by omega, by omega⟩, (HL0b.out.within HYW.out (by omega)).here, by have := HE0b.out; omega⟩, ⟨by omega, by omega⟩, ⟨⟨(HLt5a.out.within HYW.out (by omega)).here, by have := HEt5a.out; omega⟩, ⟨(HLt5b.out.within HYW.out (by omega)).here, by have := HEt5b.out; omega⟩, ⟨(HLt5c.out.within HYW.out (by omega)).here, by have := HEt5c.out; omega⟩⟩⟩, HYB.out⟩
end Go.Proofs.Ytboahnklilmdpaa
