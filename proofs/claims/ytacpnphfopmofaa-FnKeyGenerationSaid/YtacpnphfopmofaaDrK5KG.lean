/- Draws: the dealers' polynomials and faults (printed by gen_drk5.py). -/
import Derived.Test.YtacpnphfopmofaaDrK4KG
import Derived.Test.YtacpnphfopmofaaFrKG
namespace Go.Proofs.Ytacpnphfopmofaa
open Go.RowKit
set_option linter.unusedSimpArgs false
set_option linter.unusedVariables false

theorem RowS.pos {w : World} {B k : Nat} {v : Value} {ls : List (List Int)} (h : RowS w B v ls) (hk : k < ls.length) :
    ∃ b c v0, v = .slice (some ⟨b, 0, none⟩) ls.length c ∧ B ≤ b ∧ b < w.heap.size ∧ w.cell? ⟨b, k, none⟩ = some v0 ∧ (∀ j, w.frozen? ⟨b, j, none⟩ = false) ∧ OwnI w B v0 ls[k] := by
  obtain ⟨vs, hl, hO, hel⟩ := h
  have hO' := hO
  obtain ⟨hl1, ⟨rfl, h0⟩ | ⟨b, c, cur, rfl, hb, hgc, hnc, hcm, hcs, htake⟩⟩ := hO
  · omega
  · have h1 := World.ownsRow.cellAt hO' k (by omega)
    rw [List.getElem?_eq_getElem (by omega)] at h1
    exact ⟨b, c, _, rfl, hb, (hO'.lt b rfl).2, h1, fun j => World.ownsRow.frozenAt hO' j, hel k (by omega) hk⟩
/-- another slice in the place of one -/
theorem RowS.put {w : World} {B B' b c n k : Nat} {y : Value} {ls : List (List Int)} {l' : List Int} (h : RowS w B (.slice (some ⟨b, 0, none⟩) n c) ls) (hk : k < ls.length) (hy : Since B' w (fun u => Ints u y l')) (hB : B ≤ B') (hb' : b < B') :
    Since B (w.setCell ⟨b, k, none⟩ y) (fun u => RdL kInts u (.slice (some ⟨b, 0, none⟩) n c) (ls.set k l')) := by
  obtain ⟨vs, hl, hO, hel⟩ := h
  have hO' := hO
  obtain ⟨hl1, ⟨e, h0⟩ | ⟨b2, c2, cur, e, hb, hgc, hnc, hcm, hcs, htake⟩⟩ := hO
  · cases e
  · cases e
    intro u hs hbk
    have hlt := (hO'.lt b rfl).2
    have hst := (hO'.stored k y).1
    have hsz : (w.setCell ⟨b, k, none⟩ y).heap.size = w.heap.size := size_setC
    have hO2 : u.ownsRow B 42 1 (.slice (some ⟨b, 0, none⟩) ls.length c) ls.length (vs.set k y) := ownsRow_frame hst fun g hg => by
      cases hg; exact hbk b hb (by rw [hsz]; exact hlt)
    refine ⟨some ⟨b, 0, none⟩, ls.length, c, rfl, by simp, hnc, hcm, .inr (.inr ⟨b, 0, rfl, fun i => (vs.set k y).getD i undef, fun i hi => ?_⟩)⟩
    have hi0 : i < ls.length := by simpa using hi
    have hi' : i < (vs.set k y).length := by simp; omega
    have h2 := World.ownsRow.cellAt hO2 i (by omega)
    have keep : ∀ {x : Value} {d : List Int}, OwnI w B x d → Ints u x d := fun {x d} hx => ((hx.keptL hO' rfl k y).since hs hbk).ints
    refine ⟨?_, ?_⟩
    · rw [Nat.zero_add, h2]; simp only [List.getD, List.getElem?_eq_getElem hi', Option.getD_some]
    · show Ints u _ _
      by_cases e : i = k
      · subst e
        have := hy u (by rw [hsz] at hs; exact hs) fun j hj hjl => by
          rw [hbk j (by omega) (by rw [hsz]; exact hjl)]
          exact heap_setCell_other w ⟨b, i, none⟩ j y (by show j ≠ b; omega)
        have hvl : i < vs.length := by omega
        simpa [List.getD, hvl] using this
      · have hi2 : i < vs.length := by omega
        have := keep (hel i hi2 hi0)
        simpa [List.getD, hi', List.getElem?_set, List.getElem_set, Ne.symm e, hi2] using this
theorem FaR.toSince {w : World} {B B' : Nat} {v : Value} {fs : List FaultD} (h : FaR w B v fs) (hB : B' ≤ B) : Since B' w (fun u => RdR rFault u v fs) := fun u hs hb =>
  (FaR.toW (FrR.frame h fun k hk => by
    have := FrR.lt h k hk
    exact hb k (by omega) this.2) : FaR u B v fs).rd
theorem Since.step2 {B lo hi : Nat} {w w' : World} {P : World → Prop} (h : Since B w P) (hw : Within lo hi w w') (hd : hi ≤ B) : P w' := (h.within hw hd).here
set_option maxRecDepth 100000 in
set_option maxHeartbeats 8000000 in
theorem spec_DrawPlayDealers (v : Value) (w : World) (h : Bytes w v) :
    Calls Try.prog 170 #[v] w fun e w' => (∃ (P : Int) (Q : Int) (G : Int) (cv : Value) (cs : List (List Int)) (fv : Value) (fs : List FaultD), e = .returned (.tuple #[.agg #[.int .i64 P, .int .i64 Q, .int .i64 G], cv, fv]) ∧ GrB ⟨P, Q, G⟩ ∧ RdL kInts w' cv cs ∧ RdR rFault w' fv fs ∧ fs.length ≤ 5) ∧ Below w.heap.size w w' := by
  obtain ⟨a, m, c, rfl, hk1, hk2, hv⟩ := h
  have HY : Hid (Bytes w (.slice a m c)) := ⟨a, m, c, rfl, hk1, hk2, hv⟩
  clear hv
  unfold maxLen at hk2
  obtain ⟨U, hU⟩ : ∃ U, U = w.alloc (.cells #[.int .i64 0, .int .i64 0, .int .i64 0] 24) := ⟨_, rfl⟩
  have hbU : Below w.heap.size w U := by rw [hU]; (repeat (first | exact Below.refl _ _ | assumption | refine Below.drew ?_ | refine Below.alloc ?_ (by first | (simp; done) | (simp; omega)) _ | refine Below.setCell ?_ (by first | (simp; done) | (simp; omega)) _))
  have HX0 : Hid (BoxN U w.heap.size 24 [.int .i64 0, .int .i64 0, .int .i64 0]) := by unfold Hid; rw [hU]; have h := (BoxN.new w [.int .i64 0, .int .i64 0, .int .i64 0] 24); simpa using h
  have hsU : U.heap.size = w.heap.size + 1 := by rw [hU]; simp
  obtain ⟨W, hW⟩ : ∃ W, W = U.alloc (.cells #[.slice a m c, .int .i64 0, .int .u64 0] 85) := ⟨_, rfl⟩
  have HC : Hid (Cur U W U.heap.size 0) := by unfold Hid; rw [hW]; exact Cur.new U (HY.out.below hbU)
  have hbW : Below U.heap.size U W := by rw [hW]; exact (Below.refl _ _).alloc (Nat.le_refl _) _
  have HBW := Lib.hid (Below.next hbU hbW)
  have HUB := Lib.hid hbW
  replace HX0 := Lib.hid (HX0.out.below hbW)
  obtain ⟨g, hg⟩ : ∃ g, g = U.heap.size := ⟨_, rfl⟩
  have HSU : Hid (w.heap.size + 1 = g) := by unfold Hid; rw [hg, hsU]
  have HWS : Hid (W.heap.size = g + 1) := by unfold Hid; rw [hW, hg]; simp
  go_enter Try.func170, Try.ntmps170
  go_wp2_with fail
  rw [← hU, ← hW]
  rw [HSU.out]
  rw [← hg] at HC HUB
  have HUS : Hid (U.heap.size = g) := hg.symm
  have hwg : w.heap.size + 1 = g := HSU.out
  have hsW := HWS.out
  have HW := Lib.hid (Within.refl g (g + 1) W)
  have HUC : Hid (Below U.heap.size U W) := by unfold Hid; rw [HUS.out]; exact HUB.out
  clear hU hW hbU hbW hsU hg
  try (go_wp2_with fail)
  refine (spec_shared U g _ _ HC.out (HW.out.belowOf HUC.out (Nat.le_of_eq HUS.out)) (by omega)).mono ?_
  rintro e u1 ⟨⟨P, Q, G, rfl, P1, Q1, G1⟩, hc, hw⟩
  have HGR : Hid (GrB ⟨P, Q, G⟩) := ⟨P1, Q1, G1⟩
  clear P1 Q1 G1
  have hsz1 := hw.size
  replace HX0 := Lib.hid (HX0.out.kept hw (.inl (by omega)))
  replace HW := Lib.hid (HW.out.trans hw)
  replace HC := Lib.hid hc
  clear hc hw
  obtain ⟨GA, hGA⟩ : ∃ b, b = u1.heap.size := ⟨_, rfl⟩
  obtain ⟨u2, hu2⟩ : ∃ V, V = u1.alloc (.cells #[.int .i64 P, .int .i64 Q, .int .i64 G] 24) := ⟨_, rfl⟩
  have hbV : Below u1.heap.size u1 u2 := by rw [hu2]; exact (Below.refl _ _).alloc (Nat.le_refl _) _
  have HZ1 : Hid (BoxN u2 GA 24 [.int .i64 P, .int .i64 Q, .int .i64 G]) := by unfold Hid; rw [hu2, hGA]; exact BoxN.new u1 [.int .i64 P, .int .i64 Q, .int .i64 G] _
  have hgc : g < u1.heap.size := HC.out.lt
  have hgGA : g < GA := by omega
  go_wp2_with fail
  rw [← hu2, ← hGA]
  replace HX0 := Lib.hid (HX0.out.below hbV)
  replace HW := Lib.hid (HW.out.trans (Within.of_below hbV))
  replace HC := Lib.hid (HC.out.keep hbV)
  have hs2 := hbV.size
  clear hu2 hGA hbV
  try (go_wp2_with fail)
  refine (spec_pick U g _ _ _ HC.out (HW.out.belowOf HUC.out (Nat.le_of_eq HUS.out)) (by omega)).mono ?_
  rintro e u3 ⟨⟨x3, rfl, x30, _, x3m, _⟩, hc, hw⟩
  replace x3m := x3m (by omega)
  have hsz3 := hw.size
  replace HX0 := Lib.hid (HX0.out.kept hw (.inl (by omega)))
  replace HZ1 := Lib.hid (HZ1.out.kept hw (.inr (by omega)))
  replace HW := Lib.hid (HW.out.trans hw)
  replace HC := Lib.hid (hc.mono (n' := 1000) (by omega))
  clear hc hw
  have ew2 : IntKind.i64.wrap (1 + x3) = 1 + x3 := IntWalk.i64_in _ (by omega)
  go_upto_region 4 with fail
  obtain ⟨nn, hnn⟩ : ∃ z : Nat, (z : Int) = (1 + x3) := ⟨((1 + x3)).toNat, by omega⟩
  rw [← hnn]
  have hnn1 : 1 ≤ nn ∧ nn ≤ 7 := by omega
  have HNNE := Lib.hid hnn
  clear hnn
  have hgU4 : g < u3.heap.size := HC.out.lt
  have hgB4 := HZ1.out.lt
  have z_0_0 := HZ1.out.cell (i := 0) rfl
  have z_0_1 := HZ1.out.cell (i := 1) rfl
  have z_0_2 := HZ1.out.cell (i := 2) rfl
  try (go_wp2_with fail)
  refine wp_region_noPanic ?_
  refine wp_region_Q (Within g (g + 1)) (DrawS U u3 g _ 10000000 (fun w' => w'.cell? ⟨GA, 0, none⟩ = some (.int .i64 P) ∧ w'.cell? ⟨GA, 1, none⟩ = some (.int .i64 Q) ∧ w'.cell? ⟨GA, 2, none⟩ = some (.int .i64 G))) 11 [(0, []), (1, []), (2, []), (3, []), (4, []), (5, [1, 0]), (6, [0]), (7, [6, 5, 4, 0])] [8] (by kernel_rfl) (by kernel_rfl) (by kernel_rfl) rfl (fun _ _ _ _ h => h) (DrawS.good _ _ _ _ _ _) ⟨(Within.refl _ _ _).drew, by simpa using HC.out.keep (Below.refl _ _).drew, ⟨box_at z_0_0 (Below.refl _ _).drew, box_at z_0_1 (Below.refl _ _).drew, box_at z_0_2 (Below.refl _ _).drew⟩⟩ ?_
  simp only [pickP, pickN, List.getElem?_cons_zero, List.getElem?_cons_succ]
  iterate 5 (refine' chainQ_read (DrawS.good _ _ _ _ _ _) _ rfl rfl (fun m w' hm' hS' => ?_) ?_; rotate_left; · (simp only [lookP, allP, Act.put, List.getElem?_cons_zero, List.getElem?_cons_succ, List.setIfInBounds_toArray, List.set_cons_zero, List.set_cons_succ]; (try dsimp only [DrawS] at hS'); go_simp; (try with_reducible rfl)))
  -- 5: call { callee := value (func 72), args := #[t20, t21], argTypes := #[82, 3] }
  refine chainQ_do (d := (some 22)) (fun v z => ∃ x : Int, v = .int .i64 x ∧ 0 ≤ x ∧ x < (nn : Int)) (fun v w1 w2 hw h => h) rfl rfl (fun m w' hm' hS' => ?_) ?_
  · simp only [lookP, allP, Act.put, List.getElem?_cons_zero, List.getElem?_cons_succ, List.setIfInBounds_toArray, List.set_cons_zero, List.set_cons_succ]
    intro K hK
    replace hm' : m < 8 := hm'
    go_simp
    go_at_call 72
    refine (spec_pick U g _ (nn : Int) _ hS'.2.1 (hS'.1.belowOf (HW.out.belowOf HUC.out (Nat.le_of_eq HUS.out)) (Nat.le_of_eq HUS.out)) (by omega)).mono ?_
    rintro e z ⟨⟨x, rfl, x0, _, xm, _⟩, hc, hw⟩
    exact hK.out _ _ hw ⟨hS'.1.trans hw, hc.mono (by omega), ⟨within_at (hS'.1.trans hw) z_0_0 (.inr (by omega)), within_at (hS'.1.trans hw) z_0_1 (.inr (by omega)), within_at (hS'.1.trans hw) z_0_2 (.inr (by omega))⟩⟩ ⟨x, rfl, x0, xm (by omega)⟩
  -- 6: binOp Binadd 3 (const (int i64 1)) t22 3
  refine chainQ_have (DrawS.good _ _ _ _ _ _) (d := (some 23)) (fun v z => ∃ tt : Nat, v = .int .i64 (tt : Int) ∧ 1 ≤ tt ∧ tt ≤ 7) (fun v w1 w2 hw h => h) rfl rfl (fun m w' hm' hS' => ?_) ?_
  · simp only [lookP, allP, Act.put, List.getElem?_cons_zero, List.getElem?_cons_succ, List.setIfInBounds_toArray, List.set_cons_zero, List.set_cons_succ]
    intro x5 hx5
    obtain ⟨x, rfl, xl, xu⟩ := hx5
    obtain ⟨tt, htt⟩ : ∃ z : Nat, (z : Int) = 1 + x := ⟨(1 + x).toNat, by omega⟩
    have ew : IntKind.i64.wrap (1 + x) = 1 + x := IntWalk.i64_in _ (by omega)
    refine ⟨.int .i64 (tt : Int), ?_, tt, rfl, by omega, by omega⟩
    rw [htt]
    go_simp
  -- 7: call { callee := value (func 200), args := #[t17, t18, t19, t23], argTypes := #[82, 24, 3, 3] }
  refine chainQ_do (d := (some 24)) (fun v z => ∃ (a : Option Addr) (c : Nat) (ll : List (List Int)), v = .slice a nn c ∧ RowS z u3.heap.size (.slice a nn c) ll ∧ ll.length = nn ∧ ∀ l ∈ ll, l.length ≤ 8) (fun v w1 w2 hw h => by obtain ⟨a, c, ll, e, h1, h2, h3⟩ := h; exact ⟨a, c, ll, e, h1.within hw (by omega), h2, h3⟩) rfl rfl (fun m w' hm' hS' => ?_) ?_
  · simp only [lookP, allP, Act.put, List.getElem?_cons_zero, List.getElem?_cons_succ, List.setIfInBounds_toArray, List.set_cons_zero, List.set_cons_succ]
    intro x6 hx6
    intro K hK
    replace hm' : m < 8 := hm'
    obtain ⟨tt, rfl, t1, t2⟩ := hx6
    go_simp
    go_at_call 200
    refine (spec_polynomials U g _ P Q G nn tt _ hS'.2.1 (hS'.1.belowOf (HW.out.belowOf HUC.out (Nat.le_of_eq HUS.out)) (Nat.le_of_eq HUS.out)) (by omega) HGR.out (by omega) (by omega)).mono ?_
    rintro e z ⟨⟨v', ll, rfl, h1, h2, h3⟩, hc, hw⟩
    have hsz0 := hS'.1.size
    obtain ⟨a, c, rfl⟩ := h1.shape
    rw [h2] at h1 ⊢
    exact hK.out _ _ hw ⟨hS'.1.trans hw, hc.mono (by omega), ⟨within_at (hS'.1.trans hw) z_0_0 (.inr (by omega)), within_at (hS'.1.trans hw) z_0_1 (.inr (by omega)), within_at (hS'.1.trans hw) z_0_2 (.inr (by omega))⟩⟩ ⟨a, c, ll, rfl, h1.low (by omega), h2, fun l hl => by rw [h3 l hl]; omega⟩
  refine chainQ_nil (fun u4 hS' => ?_)
  simp only [allP, Act.put, List.setIfInBounds_toArray, List.set_cons_zero, List.set_cons_succ]
  intro x7 hx7
  intro x6 hx6
  intro x5 hx5
  replace hS' : DrawS U u3 g _ 10000000 _ 8 u4 := hS'
  obtain ⟨hw, hc, hC⟩ := hS'
  have HWE := Lib.hid hw
  have hsz1 := hw.size
  replace HZ1 := Lib.hid (HZ1.out.kept hw (.inr (by omega)))
  replace HW := Lib.hid (HW.out.trans hw)
  replace HC := Lib.hid hc
  clear hc hw hC
  clear z_0_0 z_0_1 z_0_2
  clear hx5 hx6
  obtain ⟨la, lc, ll, rfl, hll, hln, hl8⟩ := hx7
  replace HX0 := Lib.hid (HX0.out.kept HWE.out (.inl (by omega)))
  have HLL := Lib.hid hll
  have HLN := Lib.hid hln
  have HL8 := Lib.hid hl8
  clear hll hln hl8
  replace HC := Lib.hid (HC.out.mono (n' := 200000000) (by omega))
  go_wp2_with fail
  refine NoPanic.normal ?_
  (try (go_wp2_with fail))
  refine (spec_pick U g _ _ _ HC.out (HW.out.belowOf HUC.out (Nat.le_of_eq HUS.out)) (by omega)).mono ?_
  rintro e u5 ⟨⟨x5, rfl, x50, _, x5m, _⟩, hc, hw⟩
  replace x5m := x5m (by omega)
  have hsz5 := hw.size
  replace HX0 := Lib.hid (HX0.out.kept hw (.inl (by omega)))
  replace HZ1 := Lib.hid (HZ1.out.kept hw (.inr (by omega)))
  replace HW := Lib.hid (HW.out.trans hw)
  replace HC := Lib.hid (hc.mono (n' := 300000000) (by omega))
  replace HLL := Lib.hid (HLL.out.within hw (by omega))
  clear hc hw HWE
  have hgU5 : g < u5.heap.size := HC.out.lt
  have hgB5 := HZ1.out.lt
  have hGAu := HZ1.out.lt
  rcases (by omega : x5 = 0 ∨ x5 = 1 ∨ x5 = 2 ∨ (x5 ≠ 0 ∧ x5 ≠ 1 ∧ x5 ≠ 2)) with rfl | rfl | rfl | ⟨i0, i1, i2⟩
  · obtain ⟨lb, lc', v0, e, hlb1, hlb2, l0, frl, ol⟩ := HLL.out.pos (k := 0) (by rw [HLN.out]; omega)
    rw [HLN.out] at e
    cases e
    obtain ⟨r0a, r0n, r0c, rfl⟩ := ol.ints.shape
    have hr0 : r0n ≤ 8 := by
      have h1 := HL8.out _ (List.getElem_mem (l := ll) (by rw [HLN.out]; omega : 0 < ll.length))
      have h2 := ol.ints.len
      omega
    have L0 := Lib.hid l0
    have FRL := Lib.hid frl
    clear ol l0 frl
    go_upto_region 7 with fail
    have l0 := L0.out
    have bn0 : (0 : Int) < (nn : Int) := by omega
    have bnz : ¬ nn = 0 := by omega
    have bn1 : 0 < nn := by omega
    have z_0_0 := HZ1.out.cell (i := 0) rfl
    have z_0_1 := HZ1.out.cell (i := 1) rfl
    have z_0_2 := HZ1.out.cell (i := 2) rfl
    try (go_wp2_with fail)
    refine wp_region_noPanic ?_
    refine wp_region_Q (Within g (g + 1)) (DrawS U u5 g _ 10000000 (fun w' => w'.cell? ⟨GA, 0, none⟩ = some (.int .i64 P) ∧ w'.cell? ⟨GA, 1, none⟩ = some (.int .i64 Q) ∧ w'.cell? ⟨GA, 2, none⟩ = some (.int .i64 G) ∧ w'.cell? ⟨lb, 0, none⟩ = some (.slice r0a r0n r0c))) 12 [(0, []), (1, []), (2, []), (3, []), (4, [0]), (5, [0]), (6, [0]), (7, [5, 4, 0]), (8, [7])] [9] (by kernel_rfl) (by kernel_rfl) (by kernel_rfl) rfl (fun _ _ _ _ h => h) (DrawS.good _ _ _ _ _ _) ⟨(Within.refl _ _ _).drew, by simpa using HC.out.keep (Below.refl _ _).drew, ⟨box_at z_0_0 (Below.refl _ _).drew, box_at z_0_1 (Below.refl _ _).drew, box_at z_0_2 (Below.refl _ _).drew, box_at l0 (Below.refl _ _).drew⟩⟩ ?_
    simp only [pickP, pickN, List.getElem?_cons_zero, List.getElem?_cons_succ]
    iterate 4 (refine' chainQ_read (DrawS.good _ _ _ _ _ _) _ rfl rfl (fun m w' hm' hS' => ?_) ?_; rotate_left; · (simp only [lookP, allP, Act.put, List.getElem?_cons_zero, List.getElem?_cons_succ, List.setIfInBounds_toArray, List.set_cons_zero, List.set_cons_succ]; (try dsimp only [DrawS] at hS'); go_simp; (try with_reducible rfl)))
    -- 4: indexAddr 69 t32 (const (int i64 0))
    refine chainQ_read (DrawS.good _ _ _ _ _ _) (d := (some 33)) (.pointer (some ⟨lb, 0, none⟩)) rfl rfl (fun m w' hm' hS' => ?_) ?_
    · simp only [lookP, allP, Act.put, List.getElem?_cons_zero, List.getElem?_cons_succ, List.setIfInBounds_toArray, List.set_cons_zero, List.set_cons_succ]
      (try dsimp only [DrawS] at hS')
      go_simp
      (try with_reducible rfl)
    -- 5: load 42 t33
    refine chainQ_read (DrawS.good _ _ _ _ _ _) (d := (some 34)) (.slice r0a r0n r0c) rfl rfl (fun m w' hm' hS' => ?_) ?_
    · simp only [lookP, allP, Act.put, List.getElem?_cons_zero, List.getElem?_cons_succ, List.setIfInBounds_toArray, List.set_cons_zero, List.set_cons_succ]
      (try dsimp only [DrawS] at hS')
      go_simp
      (try with_reducible rfl)
    -- 6: call { callee := builtin Builtin.len, args := #[t34], argTypes := #[42] }
    refine chainQ_read (DrawS.good _ _ _ _ _ _) (d := (some 35)) (.int .i64 (r0n : Int)) rfl rfl (fun m w' hm' hS' => ?_) ?_
    · simp only [lookP, allP, Act.put, List.getElem?_cons_zero, List.getElem?_cons_succ, List.setIfInBounds_toArray, List.set_cons_zero, List.set_cons_succ]
      (try dsimp only [DrawS] at hS')
      go_simp
      (try with_reducible rfl)
    -- 7: call { callee := value (func 100), args := #[t30, t31, t35], argTypes := #[82, 24, 3] }
    refine chainQ_do (d := (some 36)) (fun v z => ∃ (a : Option Addr) (n c : Nat) (l : List Int), v = .slice a n c ∧ Since u5.heap.size z (fun u => Ints u (.slice a n c) l)) (fun v w1 w2 hw h => by obtain ⟨a, n, c, l, e, h1⟩ := h; exact ⟨a, n, c, l, e, h1.within hw (by omega)⟩) rfl rfl (fun m w' hm' hS' => ?_) ?_
    · simp only [lookP, allP, Act.put, List.getElem?_cons_zero, List.getElem?_cons_succ, List.setIfInBounds_toArray, List.set_cons_zero, List.set_cons_succ]
      intro K hK
      replace hm' : m < 9 := hm'
      go_simp
      go_at_call 100
      refine (spec_anyCoins U g _ P Q G r0n _ hS'.2.1 (hS'.1.belowOf (HW.out.belowOf HUC.out (Nat.le_of_eq HUS.out)) (Nat.le_of_eq HUS.out)) (by omega) HGR.out (by omega)).mono ?_
      rintro e z ⟨⟨v', l, rfl, h1, _⟩, hc, hw⟩
      have hsz0 := hS'.1.size
      obtain ⟨a, n, c, rfl⟩ := h1.here.shape
      exact hK.out _ _ hw ⟨hS'.1.trans hw, hc.mono (by omega), ⟨within_at (hS'.1.trans hw) z_0_0 (.inr (by omega)), within_at (hS'.1.trans hw) z_0_1 (.inr (by omega)), within_at (hS'.1.trans hw) z_0_2 (.inr (by omega)), within_at (hS'.1.trans hw) l0 (.inr (by omega))⟩⟩ ⟨a, n, c, l, rfl, h1.mono (by omega)⟩
    -- 8: indexAddr 69 t29 (const (int i64 0))
    refine chainQ_read (DrawS.good _ _ _ _ _ _) (d := (some 37)) (.pointer (some ⟨lb, 0, none⟩)) rfl rfl (fun m w' hm' hS' => ?_) ?_
    · simp only [lookP, allP, Act.put, List.getElem?_cons_zero, List.getElem?_cons_succ, List.setIfInBounds_toArray, List.set_cons_zero, List.set_cons_succ]
      (try dsimp only [DrawS] at hS')
      go_simp
      (try with_reducible rfl)
    refine chainQ_nil (fun u6 hS' => ?_)
    simp only [allP, Act.put, List.setIfInBounds_toArray, List.set_cons_zero, List.set_cons_succ]
    intro x7 hx7
    replace hS' : DrawS U u5 g _ 10000000 _ 9 u6 := hS'
    obtain ⟨hw, hc, hC⟩ := hS'
    have HWE := Lib.hid hw
    have hsz1 := hw.size
    replace HZ1 := Lib.hid (HZ1.out.kept hw (.inr (by omega)))
    replace HW := Lib.hid (HW.out.trans hw)
    replace HC := Lib.hid hc
    clear hc hw hC
    clear z_0_0 z_0_1 z_0_2
    clear l0
    obtain ⟨ca, cn, cc, cl, rfl, hcl⟩ := hx7
    have HCL := Lib.hid hcl
    clear hcl
    replace HX0 := Lib.hid (HX0.out.kept HWE.out (.inl (by omega)))
    have HLL6 := Lib.hid (HLL.out.within HWE.out (by omega))
    obtain ⟨_, _, _, e, _, _, l6, fr6, _⟩ := HLL6.out.pos (k := 0) (by rw [HLN.out]; omega)
    rw [HLN.out] at e
    cases e
    have HLS : Hid (Since u3.heap.size (u6.setCell ⟨lb, 0, none⟩ (.slice ca cn cc)) (fun u => RdL kInts u (.slice (some ⟨lb, 0, none⟩) nn lc) (ll.set 0 cl))) := RowS.put HLL6.out (by rw [HLN.out]; omega) HCL.out (by omega) (by omega)
    have hs6 := HWE.out.size
    obtain ⟨u7, hu7⟩ : ∃ V, V = u6.setCell ⟨lb, 0, none⟩ (.slice ca cn cc) := ⟨_, rfl⟩
    go_wp2_with fail
    refine NoPanic.normal ?_
    go_upto_region 12 with fail
    rw [← hu7]
    clear l6 fr6
    replace HX0 : Hid (BoxN u7 w.heap.size 24 [.int .i64 0, .int .i64 0, .int .i64 0]) := by unfold Hid; rw [hu7]; exact HX0.out.other (b' := lb) (by omega) 0 _
    replace HZ1 : Hid (BoxN u7 GA 24 [.int .i64 P, .int .i64 Q, .int .i64 G]) := by unfold Hid; rw [hu7]; exact HZ1.out.other (b' := lb) (by omega) 0 _
    rw [← hu7] at HLS
    replace HW : Hid (Within g (g + 1) W u7) := by unfold Hid; rw [hu7]; exact HW.out.setNew (b := lb) (by omega) 0 _
    replace HC : Hid (Cur U u7 g 900000000) := by unfold Hid; rw [hu7]; exact (HC.out.setNew (b := lb) (by omega) 0 _).mono (by omega)
    have hs7 : u6.heap.size ≤ u7.heap.size := by rw [hu7]; simp
    clear hu7 HWE
    have hgU9 : g < u7.heap.size := HC.out.lt
    have hgB9 := HZ1.out.lt
    have z_0_0 := HZ1.out.cell (i := 0) rfl
    have z_0_1 := HZ1.out.cell (i := 1) rfl
    have z_0_2 := HZ1.out.cell (i := 2) rfl
    try (go_wp2_with fail)
    refine wp_region_noPanic ?_
    refine wp_region_Q1 (Within g (g + 1)) (DrawS U u7 g _ 10000000 (fun w' => w'.cell? ⟨GA, 0, none⟩ = some (.int .i64 P) ∧ w'.cell? ⟨GA, 1, none⟩ = some (.int .i64 Q) ∧ w'.cell? ⟨GA, 2, none⟩ = some (.int .i64 G))) 11 [1] [(0, []), (2, []), (3, []), (4, []), (5, [2, 1, 0])] [6, 7, 8] (by kernel_rfl) (by kernel_rfl) (by kernel_rfl) (by kernel_rfl) (by kernel_rfl) rfl (fun _ _ _ _ h => h) (DrawS.good _ _ _ _ _ _) ⟨(Within.refl _ _ _).drew, by simpa using HC.out.keep (Below.refl _ _).drew, ⟨box_at z_0_0 (Below.refl _ _).drew, box_at z_0_1 (Below.refl _ _).drew, box_at z_0_2 (Below.refl _ _).drew⟩⟩ ?_
    simp only [pickP, pickN, List.getElem?_cons_zero, List.getElem?_cons_succ]
    refine' wpPre_read _ (fun w' => ?_) ?_; rotate_left
    · go_simp
      (try with_reducible rfl)
    refine wpPre_nil (fun _ => ?_)
    simp only [Act.put, List.setIfInBounds_toArray, List.set_cons_zero, List.set_cons_succ]
    iterate 4 (refine' chainQ_read (DrawS.good _ _ _ _ _ _) _ rfl rfl (fun m w' hm' hS' => ?_) ?_; rotate_left; · (simp only [lookP, allP, Act.put, List.getElem?_cons_zero, List.getElem?_cons_succ, List.setIfInBounds_toArray, List.set_cons_zero, List.set_cons_succ]; (try dsimp only [DrawS] at hS'); go_simp; (try with_reducible rfl)))
    -- 5: call { callee := value (func 201), args := #[t50, t51, t52], argTypes := #[82, 24, 3] }
    refine chainQ_do (d := (some 53)) (fun v z => ∃ (a : Option Addr) (n c : Nat) (fs : List FaultD), v = .slice a n c ∧ FaR z u7.heap.size (.slice a n c) fs ∧ fs.length ≤ 5) (fun v w1 w2 hw h => by obtain ⟨a, n, c, fs, e, h1, h2⟩ := h; exact ⟨a, n, c, fs, e, h1.within hw (by omega), h2⟩) rfl rfl (fun m w' hm' hS' => ?_) ?_
    · simp only [lookP, allP, Act.put, List.getElem?_cons_zero, List.getElem?_cons_succ, List.setIfInBounds_toArray, List.set_cons_zero, List.set_cons_succ]
      intro K hK
      replace hm' : m < 5 := hm'
      go_simp
      go_at_call 201
      refine (spec_faults U g _ P Q G nn _ hS'.2.1 (hS'.1.belowOf (HW.out.belowOf HUC.out (Nat.le_of_eq HUS.out)) (Nat.le_of_eq HUS.out)) (by omega) HGR.out (by omega)).mono ?_
      rintro e z ⟨⟨v', fs, rfl, h1, h2⟩, hc, hw⟩
      have hsz0 := hS'.1.size
      obtain ⟨a, c, rfl⟩ := h1.shape
      exact hK.out _ _ hw ⟨hS'.1.trans hw, hc.mono (by omega), ⟨within_at (hS'.1.trans hw) z_0_0 (.inr (by omega)), within_at (hS'.1.trans hw) z_0_1 (.inr (by omega)), within_at (hS'.1.trans hw) z_0_2 (.inr (by omega))⟩⟩ ⟨a, _, c, fs, rfl, h1.mono (by omega), h2⟩
    refine chainQ_nil (fun u9 hS' => ?_)
    simp only [allP, Act.put, List.setIfInBounds_toArray, List.set_cons_zero, List.set_cons_succ]
    intro x5 hx5
    replace hS' : DrawS U u7 g _ 10000000 _ 5 u9 := hS'
    obtain ⟨hw, hc, hC⟩ := hS'
    have HWE := Lib.hid hw
    have hsz1 := hw.size
    replace HZ1 := Lib.hid (HZ1.out.kept hw (.inr (by omega)))
    replace HW := Lib.hid (HW.out.trans hw)
    replace HC := Lib.hid hc
    clear hc hw hC
    clear z_0_0 z_0_1 z_0_2
    replace HX0 := Lib.hid (HX0.out.kept HWE.out (.inl (by omega)))
    obtain ⟨fa, fn, fc, fs, rfl, hfa, hf5⟩ := hx5
    have HFA := Lib.hid hfa
    clear hfa
    have HS9 := Lib.hid (HLS.out.within HWE.out (by omega))
    have r0 := HX0.out.cell (i := 0) rfl
    have r1 := HX0.out.cell (i := 1) rfl
    have r2 := HX0.out.cell (i := 2) rfl
    have fr := fun j => HX0.out.frozen j
    go_wp2_with fail
    refine NoPanic.normal ?_
    clear r0 r1 r2 fr
    have HX9 := Lib.hid (((HX0.out.set 0 (.int .i64 P)).set 1 (.int .i64 Q)).set 2 (.int .i64 G))
    have HYS := Lib.hid ((((Within.refl w.heap.size (w.heap.size + 1) u9).setCell (b := w.heap.size) (by omega) (by omega) 0 (.int .i64 P)).setCell (b := w.heap.size) (by omega) (by omega) 1 (.int .i64 Q)).setCell (b := w.heap.size) (by omega) (by omega) 2 (.int .i64 G))
    have x0 := HX9.out.cell (i := 0) rfl
    have x1 := HX9.out.cell (i := 1) rfl
    have x2 := HX9.out.cell (i := 2) rfl
    try (go_wp2_with fail)
    have HB9 : Hid (Below w.heap.size w u9) := HW.out.belowOf HBW.out (by omega)
    refine bodyPost_ret (v := .tuple #[.agg #[.int .i64 P, .int .i64 Q, .int .i64 G], .slice (some ⟨lb, 0, none⟩) nn lc, .slice fa fn fc]) (by simp [results, Try.results170, go_sem, x0, x1, x2]) rfl ⟨⟨P, Q, G, _, _, _, fs, rfl, HGR.out, (HS9.out.within HYS.out (by omega)).here, (FaR.toSince HFA.out (by omega)).step2 HYS.out (by omega), hf5⟩, ((HB9.out.setCell (p := ⟨w.heap.size, 0, none⟩) (Nat.le_refl _) _).setCell (p := ⟨w.heap.size, 1, none⟩) (Nat.le_refl _) _).setCell (p := ⟨w.heap.size, 2, none⟩) (Nat.le_refl _) _⟩
  · have HLS : Hid (Since u3.heap.size u5 (fun u => RdL kInts u (.slice none 0 0) [])) := fun u _ _ => RdL.nil _ _
    replace HC := Lib.hid (HC.out.mono (n' := 900000000) (by omega))
    go_upto_region 12 with fail
    have hgU9 : g < u5.heap.size := HC.out.lt
    have hgB9 := HZ1.out.lt
    have z_0_0 := HZ1.out.cell (i := 0) rfl
    have z_0_1 := HZ1.out.cell (i := 1) rfl
    have z_0_2 := HZ1.out.cell (i := 2) rfl
    try (go_wp2_with fail)
    refine wp_region_noPanic ?_
    refine wp_region_Q1 (Within g (g + 1)) (DrawS U u5 g _ 10000000 (fun w' => w'.cell? ⟨GA, 0, none⟩ = some (.int .i64 P) ∧ w'.cell? ⟨GA, 1, none⟩ = some (.int .i64 Q) ∧ w'.cell? ⟨GA, 2, none⟩ = some (.int .i64 G))) 11 [1] [(0, []), (2, []), (3, []), (4, []), (5, [2, 1, 0])] [6, 7, 8] (by kernel_rfl) (by kernel_rfl) (by kernel_rfl) (by kernel_rfl) (by kernel_rfl) rfl (fun _ _ _ _ h => h) (DrawS.good _ _ _ _ _ _) ⟨(Within.refl _ _ _).drew, by simpa using HC.out.keep (Below.refl _ _).drew, ⟨box_at z_0_0 (Below.refl _ _).drew, box_at z_0_1 (Below.refl _ _).drew, box_at z_0_2 (Below.refl _ _).drew⟩⟩ ?_
    simp only [pickP, pickN, List.getElem?_cons_zero, List.getElem?_cons_succ]
    refine' wpPre_read _ (fun w' => ?_) ?_; rotate_left
    · go_simp
      (try with_reducible rfl)
    refine wpPre_nil (fun _ => ?_)
    simp only [Act.put, List.setIfInBounds_toArray, List.set_cons_zero, List.set_cons_succ]
    iterate 4 (refine' chainQ_read (DrawS.good _ _ _ _ _ _) _ rfl rfl (fun m w' hm' hS' => ?_) ?_; rotate_left; · (simp only [lookP, allP, Act.put, List.getElem?_cons_zero, List.getElem?_cons_succ, List.setIfInBounds_toArray, List.set_cons_zero, List.set_cons_succ]; (try dsimp only [DrawS] at hS'); go_simp; (try with_reducible rfl)))
    -- 5: call { callee := value (func 201), args := #[t50, t51, t52], argTypes := #[82, 24, 3] }
    refine chainQ_do (d := (some 53)) (fun v z => ∃ (a : Option Addr) (n c : Nat) (fs : List FaultD), v = .slice a n c ∧ FaR z u5.heap.size (.slice a n c) fs ∧ fs.length ≤ 5) (fun v w1 w2 hw h => by obtain ⟨a, n, c, fs, e, h1, h2⟩ := h; exact ⟨a, n, c, fs, e, h1.within hw (by omega), h2⟩) rfl rfl (fun m w' hm' hS' => ?_) ?_
    · simp only [lookP, allP, Act.put, List.getElem?_cons_zero, List.getElem?_cons_succ, List.setIfInBounds_toArray, List.set_cons_zero, List.set_cons_succ]
      intro K hK
      replace hm' : m < 5 := hm'
      go_simp
      go_at_call 201
      refine (spec_faults U g _ P Q G nn _ hS'.2.1 (hS'.1.belowOf (HW.out.belowOf HUC.out (Nat.le_of_eq HUS.out)) (Nat.le_of_eq HUS.out)) (by omega) HGR.out (by omega)).mono ?_
      rintro e z ⟨⟨v', fs, rfl, h1, h2⟩, hc, hw⟩
      have hsz0 := hS'.1.size
      obtain ⟨a, c, rfl⟩ := h1.shape
      exact hK.out _ _ hw ⟨hS'.1.trans hw, hc.mono (by omega), ⟨within_at (hS'.1.trans hw) z_0_0 (.inr (by omega)), within_at (hS'.1.trans hw) z_0_1 (.inr (by omega)), within_at (hS'.1.trans hw) z_0_2 (.inr (by omega))⟩⟩ ⟨a, _, c, fs, rfl, h1.mono (by omega), h2⟩
    refine chainQ_nil (fun u9 hS' => ?_)
    simp only [allP, Act.put, List.setIfInBounds_toArray, List.set_cons_zero, List.set_cons_succ]
    intro x5 hx5
    replace hS' : DrawS U u5 g _ 10000000 _ 5 u9 := hS'
    obtain ⟨hw, hc, hC⟩ := hS'
    have HWE := Lib.hid hw
    have hsz1 := hw.size
    replace HZ1 := Lib.hid (HZ1.out.kept hw (.inr (by omega)))
    replace HW := Lib.hid (HW.out.trans hw)
    replace HC := Lib.hid hc
    clear hc hw hC
    clear z_0_0 z_0_1 z_0_2
    replace HX0 := Lib.hid (HX0.out.kept HWE.out (.inl (by omega)))
    obtain ⟨fa, fn, fc, fs, rfl, hfa, hf5⟩ := hx5
    have HFA := Lib.hid hfa
    clear hfa
    have HS9 := Lib.hid (HLS.out.within HWE.out (by omega))
    have r0 := HX0.out.cell (i := 0) rfl
    have r1 := HX0.out.cell (i := 1) rfl
    have r2 := HX0.out.cell (i := 2) rfl
    have fr := fun j => HX0.out.frozen j
    go_wp2_with fail
    refine NoPanic.normal ?_
    clear r0 r1 r2 fr
    have HX9 := Lib.hid (((HX0.out.set 0 (.int .i64 P)).set 1 (.int .i64 Q)).set 2 (.int .i64 G))
    have HYS := Lib.hid ((((Within.refl w.heap.size (w.heap.size + 1) u9).setCell (b := w.heap.size) (by omega) (by omega) 0 (.int .i64 P)).setCell (b := w.heap.size) (by omega) (by omega) 1 (.int .i64 Q)).setCell (b := w.heap.size) (by omega) (by omega) 2 (.int .i64 G))
    have x0 := HX9.out.cell (i := 0) rfl
    have x1 := HX9.out.cell (i := 1) rfl
    have x2 := HX9.out.cell (i := 2) rfl
    try (go_wp2_with fail)
    have HB9 : Hid (Below w.heap.size w u9) := HW.out.belowOf HBW.out (by omega)
    refine bodyPost_ret (v := .tuple #[.agg #[.int .i64 P, .int .i64 Q, .int .i64 G], .slice none 0 0, .slice fa fn fc]) (by simp [results, Try.results170, go_sem, x0, x1, x2]) rfl ⟨⟨P, Q, G, _, _, _, fs, rfl, HGR.out, (HS9.out.within HYS.out (by omega)).here, (FaR.toSince HFA.out (by omega)).step2 HYS.out (by omega), hf5⟩, ((HB9.out.setCell (p := ⟨w.heap.size, 0, none⟩) (Nat.le_refl _) _).setCell (p := ⟨w.heap.size, 1, none⟩) (Nat.le_refl _) _).setCell (p := ⟨w.heap.size, 2, none⟩) (Nat.le_refl _) _⟩
  · have ewn : IntKind.i64.wrap ((nn : Int) + 1) = ((nn + 1 : Nat) : Int) := by rw [show (nn : Int) + 1 = ((nn + 1 : Nat) : Int) by omega]; exact IntWalk.i64_in _ (by omega)
    have z0 := HZ1.out.cell (i := 0) rfl
    have z1 := HZ1.out.cell (i := 1) rfl
    have z2 := HZ1.out.cell (i := 2) rfl
    go_wp2_with fail
    refine (spec_polynomials U g _ P Q G nn (nn + 1) _ HC.out (HW.out.belowOf HUC.out (Nat.le_of_eq HUS.out)) (by omega) HGR.out (by omega) (by omega)).mono ?_
    rintro e u7 ⟨⟨v', l2, rfl, h1, h2, h3⟩, hc, hw⟩
    obtain ⟨a2, c2, rfl⟩ := h1.shape
    have HLS : Hid (Since u3.heap.size u7 (fun u => RdL kInts u (.slice a2 l2.length c2) l2)) := h1.since (by omega)
    have hs7 := hw.size
    replace HX0 := Lib.hid (HX0.out.kept hw (.inl (by omega)))
    replace HZ1 := Lib.hid (HZ1.out.kept hw (.inr (by omega)))
    replace HW := Lib.hid (HW.out.trans hw)
    replace HC := Lib.hid (hc.mono (n' := 900000000) (by omega))
    clear hc hw z0 z1 z2 h1 h3
    obtain ⟨n2, hn2⟩ : ∃ z, l2.length = z := ⟨_, rfl⟩
    rw [hn2] at HLS ⊢
    clear hn2 h2
    go_upto_region 12 with fail
    have hgU9 : g < u7.heap.size := HC.out.lt
    have hgB9 := HZ1.out.lt
    have z_0_0 := HZ1.out.cell (i := 0) rfl
    have z_0_1 := HZ1.out.cell (i := 1) rfl
    have z_0_2 := HZ1.out.cell (i := 2) rfl
    try (go_wp2_with fail)
    refine wp_region_noPanic ?_
    refine wp_region_Q1 (Within g (g + 1)) (DrawS U u7 g _ 10000000 (fun w' => w'.cell? ⟨GA, 0, none⟩ = some (.int .i64 P) ∧ w'.cell? ⟨GA, 1, none⟩ = some (.int .i64 Q) ∧ w'.cell? ⟨GA, 2, none⟩ = some (.int .i64 G))) 11 [1] [(0, []), (2, []), (3, []), (4, []), (5, [2, 1, 0])] [6, 7, 8] (by kernel_rfl) (by kernel_rfl) (by kernel_rfl) (by kernel_rfl) (by kernel_rfl) rfl (fun _ _ _ _ h => h) (DrawS.good _ _ _ _ _ _) ⟨(Within.refl _ _ _).drew, by simpa using HC.out.keep (Below.refl _ _).drew, ⟨box_at z_0_0 (Below.refl _ _).drew, box_at z_0_1 (Below.refl _ _).drew, box_at z_0_2 (Below.refl _ _).drew⟩⟩ ?_
    simp only [pickP, pickN, List.getElem?_cons_zero, List.getElem?_cons_succ]
    refine' wpPre_read _ (fun w' => ?_) ?_; rotate_left
    · go_simp
      (try with_reducible rfl)
    refine wpPre_nil (fun _ => ?_)
    simp only [Act.put, List.setIfInBounds_toArray, List.set_cons_zero, List.set_cons_succ]
    iterate 4 (refine' chainQ_read (DrawS.good _ _ _ _ _ _) _ rfl rfl (fun m w' hm' hS' => ?_) ?_; rotate_left; · (simp only [lookP, allP, Act.put, List.getElem?_cons_zero, List.getElem?_cons_succ, List.setIfInBounds_toArray, List.set_cons_zero, List.set_cons_succ]; (try dsimp only [DrawS] at hS'); go_simp; (try with_reducible rfl)))
    -- 5: call { callee := value (func 201), args := #[t50, t51, t52], argTypes := #[82, 24, 3] }
    refine chainQ_do (d := (some 53)) (fun v z => ∃ (a : Option Addr) (n c : Nat) (fs : List FaultD), v = .slice a n c ∧ FaR z u7.heap.size (.slice a n c) fs ∧ fs.length ≤ 5) (fun v w1 w2 hw h => by obtain ⟨a, n, c, fs, e, h1, h2⟩ := h; exact ⟨a, n, c, fs, e, h1.within hw (by omega), h2⟩) rfl rfl (fun m w' hm' hS' => ?_) ?_
    · simp only [lookP, allP, Act.put, List.getElem?_cons_zero, List.getElem?_cons_succ, List.setIfInBounds_toArray, List.set_cons_zero, List.set_cons_succ]
      intro K hK
      replace hm' : m < 5 := hm'
      go_simp
      go_at_call 201
      refine (spec_faults U g _ P Q G nn _ hS'.2.1 (hS'.1.belowOf (HW.out.belowOf HUC.out (Nat.le_of_eq HUS.out)) (Nat.le_of_eq HUS.out)) (by omega) HGR.out (by omega)).mono ?_
      rintro e z ⟨⟨v', fs, rfl, h1, h2⟩, hc, hw⟩
      have hsz0 := hS'.1.size
      obtain ⟨a, c, rfl⟩ := h1.shape
      exact hK.out _ _ hw ⟨hS'.1.trans hw, hc.mono (by omega), ⟨within_at (hS'.1.trans hw) z_0_0 (.inr (by omega)), within_at (hS'.1.trans hw) z_0_1 (.inr (by omega)), within_at (hS'.1.trans hw) z_0_2 (.inr (by omega))⟩⟩ ⟨a, _, c, fs, rfl, h1.mono (by omega), h2⟩
    refine chainQ_nil (fun u9 hS' => ?_)
    simp only [allP, Act.put, List.setIfInBounds_toArray, List.set_cons_zero, List.set_cons_succ]
    intro x5 hx5
    replace hS' : DrawS U u7 g _ 10000000 _ 5 u9 := hS'
    obtain ⟨hw, hc, hC⟩ := hS'
    have HWE := Lib.hid hw
    have hsz1 := hw.size
    replace HZ1 := Lib.hid (HZ1.out.kept hw (.inr (by omega)))
    replace HW := Lib.hid (HW.out.trans hw)
    replace HC := Lib.hid hc
    clear hc hw hC
    clear z_0_0 z_0_1 z_0_2
    replace HX0 := Lib.hid (HX0.out.kept HWE.out (.inl (by omega)))
    obtain ⟨fa, fn, fc, fs, rfl, hfa, hf5⟩ := hx5
    have HFA := Lib.hid hfa
    clear hfa
    have HS9 := Lib.hid (HLS.out.within HWE.out (by omega))
    have r0 := HX0.out.cell (i := 0) rfl
    have r1 := HX0.out.cell (i := 1) rfl
    have r2 := HX0.out.cell (i := 2) rfl
    have fr := fun j => HX0.out.frozen j
    go_wp2_with fail
    refine NoPanic.normal ?_
    clear r0 r1 r2 fr
    have HX9 := Lib.hid (((HX0.out.set 0 (.int .i64 P)).set 1 (.int .i64 Q)).set 2 (.int .i64 G))
    have HYS := Lib.hid ((((Within.refl w.heap.size (w.heap.size + 1) u9).setCell (b := w.heap.size) (by omega) (by omega) 0 (.int .i64 P)).setCell (b := w.heap.size) (by omega) (by omega) 1 (.int .i64 Q)).setCell (b := w.heap.size) (by omega) (by omega) 2 (.int .i64 G))
    have x0 := HX9.out.cell (i := 0) rfl
    have x1 := HX9.out.cell (i := 1) rfl
    have x2 := HX9.out.cell (i := 2) rfl
    try (go_wp2_with fail)
    have HB9 : Hid (Below w.heap.size w u9) := HW.out.belowOf HBW.out (by omega)
    refine bodyPost_ret (v := .tuple #[.agg #[.int .i64 P, .int .i64 Q, .int .i64 G], .slice a2 n2 c2, .slice fa fn fc]) (by simp [results, Try.results170, go_sem, x0, x1, x2]) rfl ⟨⟨P, Q, G, _, _, _, fs, rfl, HGR.out, (HS9.out.within HYS.out (by omega)).here, (FaR.toSince HFA.out (by omega)).step2 HYS.out (by omega), hf5⟩, ((HB9.out.setCell (p := ⟨w.heap.size, 0, none⟩) (Nat.le_refl _) _).setCell (p := ⟨w.heap.size, 1, none⟩) (Nat.le_refl _) _).setCell (p := ⟨w.heap.size, 2, none⟩) (Nat.le_refl _) _⟩
  · have b0 : (x5 == 0) = false := by rw [beq_eq_false_iff_ne]; exact i0
    have b1 : (x5 == 1) = false := by rw [beq_eq_false_iff_ne]; exact i1
    have b2 : (x5 == 2) = false := by rw [beq_eq_false_iff_ne]; exact i2
    have HLS : Hid (Since u3.heap.size u5 (fun u => RdL kInts u (.slice la nn lc) ll)) := HLL.out.since (Nat.le_refl _)
    replace HC := Lib.hid (HC.out.mono (n' := 900000000) (by omega))
    go_upto_region 12 with fail
    have hgU9 : g < u5.heap.size := HC.out.lt
    have hgB9 := HZ1.out.lt
    have z_0_0 := HZ1.out.cell (i := 0) rfl
    have z_0_1 := HZ1.out.cell (i := 1) rfl
    have z_0_2 := HZ1.out.cell (i := 2) rfl
    try (go_wp2_with fail)
    refine wp_region_noPanic ?_
    refine wp_region_Q1 (Within g (g + 1)) (DrawS U u5 g _ 10000000 (fun w' => w'.cell? ⟨GA, 0, none⟩ = some (.int .i64 P) ∧ w'.cell? ⟨GA, 1, none⟩ = some (.int .i64 Q) ∧ w'.cell? ⟨GA, 2, none⟩ = some (.int .i64 G))) 11 [1] [(0, []), (2, []), (3, []), (4, []), (5, [2, 1, 0])] [6, 7, 8] (by kernel_rfl) (by kernel_rfl) (by kernel_rfl) (by kernel_rfl) (by kernel_rfl) rfl (fun _ _ _ _ h => h) (DrawS.good _ _ _ _ _ _) ⟨(Within.refl _ _ _).drew, by simpa using HC.out.keep (Below.refl _ _).drew, ⟨box_at z_0_0 (Below.refl _ _).drew, box_at z_0_1 (Below.refl _ _).drew, box_at z_0_2 (Below.refl _ _).drew⟩⟩ ?_
    simp only [pickP, pickN, List.getElem?_cons_zero, List.getElem?_cons_succ]
    refine' wpPre_read _ (fun w' => ?_) ?_; rotate_left
    · go_simp
      (try with_reducible rfl)
    refine wpPre_nil (fun _ => ?_)
    simp only [Act.put, List.setIfInBounds_toArray, List.set_cons_zero, List.set_cons_succ]
    iterate 4 (refine' chainQ_read (DrawS.good _ _ _ _ _ _) _ rfl rfl (fun m w' hm' hS' => ?_) ?_; rotate_left; · (simp only [lookP, allP, Act.put, List.getElem?_cons_zero, List.getElem?_cons_succ, List.setIfInBounds_toArray, List.set_cons_zero, List.set_cons_succ]; (try dsimp only [DrawS] at hS'); go_simp; (try with_reducible rfl)))
    -- 5: call { callee := value (func 201), args := #[t50, t51, t52], argTypes := #[82, 24, 3] }
    refine chainQ_do (d := (some 53)) (fun v z => ∃ (a : Option Addr) (n c : Nat) (fs : List FaultD), v = .slice a n c ∧ FaR z u5.heap.size (.slice a n c) fs ∧ fs.length ≤ 5) (fun v w1 w2 hw h => by obtain ⟨a, n, c, fs, e, h1, h2⟩ := h; exact ⟨a, n, c, fs, e, h1.within hw (by omega), h2⟩) rfl rfl (fun m w' hm' hS' => ?_) ?_
    · simp only [lookP, allP, Act.put, List.getElem?_cons_zero, List.getElem?_cons_succ, List.setIfInBounds_toArray, List.set_cons_zero, List.set_cons_succ]
      intro K hK
      replace hm' : m < 5 := hm'
      go_simp
      go_at_call 201
      refine (spec_faults U g _ P Q G nn _ hS'.2.1 (hS'.1.belowOf (HW.out.belowOf HUC.out (Nat.le_of_eq HUS.out)) (Nat.le_of_eq HUS.out)) (by omega) HGR.out (by omega)).mono ?_
      rintro e z ⟨⟨v', fs, rfl, h1, h2⟩, hc, hw⟩
      have hsz0 := hS'.1.size
      obtain ⟨a, c, rfl⟩ := h1.shape
      exact hK.out _ _ hw ⟨hS'.1.trans hw, hc.mono (by omega), ⟨within_at (hS'.1.trans hw) z_0_0 (.inr (by omega)), within_at (hS'.1.trans hw) z_0_1 (.inr (by omega)), within_at (hS'.1.trans hw) z_0_2 (.inr (by omega))⟩⟩ ⟨a, _, c, fs, rfl, h1.mono (by omega), h2⟩
    refine chainQ_nil (fun u9 hS' => ?_)
    simp only [allP, Act.put, List.setIfInBounds_toArray, List.set_cons_zero, List.set_cons_succ]
    intro x5 hx5
    replace hS' : DrawS U u5 g _ 10000000 _ 5 u9 := hS'
    obtain ⟨hw, hc, hC⟩ := hS'
    have HWE := Lib.hid hw
    have hsz1 := hw.size
    replace HZ1 := Lib.hid (HZ1.out.kept hw (.inr (by omega)))
    replace HW := Lib.hid (HW.out.trans hw)
    replace HC := Lib.hid hc
    clear hc hw hC
    clear z_0_0 z_0_1 z_0_2
    replace HX0 := Lib.hid (HX0.out.kept HWE.out (.inl (by omega)))
    obtain ⟨fa, fn, fc, fs, rfl, hfa, hf5⟩ := hx5
    have HFA := Lib.hid hfa
    clear hfa
    have HS9 := Lib.hid (HLS.out.within HWE.out (by omega))
    have r0 := HX0.out.cell (i := 0) rfl
    have r1 := HX0.out.cell (i := 1) rfl
    have r2 := HX0.out.cell (i := 2) rfl
    have fr := fun j => HX0.out.frozen j
    go_wp2_with fail
    refine NoPanic.normal ?_
    clear r0 r1 r2 fr
    have HX9 := Lib.hid (((HX0.out.set 0 (.int .i64 P)).set 1 (.int .i64 Q)).set 2 (.int .i64 G))
    have HYS := Lib.hid ((((Within.refl w.heap.size (w.heap.size + 1) u9).setCell (b := w.heap.size) (by omega) (by omega) 0 (.int .i64 P)).setCell (b := w.heap.size) (by omega) (by omega) 1 (.int .i64 Q)).setCell (b := w.heap.size) (by omega) (by omega) 2 (.int .i64 G))
    have x0 := HX9.out.cell (i := 0) rfl
    have x1 := HX9.out.cell (i := 1) rfl
    have x2 := HX9.out.cell (i := 2) rfl
    try (go_wp2_with fail)
    have HB9 : Hid (Below w.heap.size w u9) := HW.out.belowOf HBW.out (by omega)
    refine bodyPost_ret (v := .tuple #[.agg #[.int .i64 P, .int .i64 Q, .int .i64 G], .slice la nn lc, .slice fa fn fc]) (by simp [results, Try.results170, go_sem, x0, x1, x2]) rfl ⟨⟨P, Q, G, _, _, _, fs, rfl, HGR.out, (HS9.out.within HYS.out (by omega)).here, (FaR.toSince HFA.out (by omega)).step2 HYS.out (by omega), hf5⟩, ((HB9.out.setCell (p := ⟨w.heap.size, 0, none⟩) (Nat.le_refl _) _).setCell (p := ⟨w.heap.size, 1, none⟩) (Nat.le_refl _) _).setCell (p := ⟨w.heap.size, 2, none⟩) (Nat.le_refl _) _⟩
end Go.Proofs.Ytacpnphfopmofaa
