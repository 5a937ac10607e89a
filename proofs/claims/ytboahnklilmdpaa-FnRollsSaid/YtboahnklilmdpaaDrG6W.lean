/- Draws of lists of exponents and elements. -/
import Derived.Test.YtboahnklilmdpaaDrG4W
namespace Go.Proofs.Ytboahnklilmdpaa
open Go.RowKit
set_option linter.unusedSimpArgs false
set_option linter.unusedVariables false

/-- what holds in every world that agrees with w in the blocks from B on -/
def Since (B : Nat) (w : World) (P : World → Prop) : Prop := ∀ w', w.heap.size ≤ w'.heap.size → (∀ k, B ≤ k → k < w.heap.size → w'.heap[k]? = w.heap[k]?) → P w'
theorem Since.here {B : Nat} {w : World} {P : World → Prop} (h : Since B w P) : P w := h w (Nat.le_refl _) fun _ _ _ => rfl
theorem Since.step {B : Nat} {w w' : World} {P : World → Prop} (h : Since B w P) (hs : w.heap.size ≤ w'.heap.size) (hb : ∀ k, B ≤ k → k < w.heap.size → w'.heap[k]? = w.heap[k]?) : Since B w' P :=
  fun u h1 h2 => h u (Nat.le_trans hs h1) fun k hk hlt => (h2 k hk (Nat.lt_of_lt_of_le hlt hs)).trans (hb k hk hlt)
theorem Since.within {B lo hi : Nat} {w w' : World} {P : World → Prop} (h : Since B w P) (hw : Within lo hi w w') (hd : hi ≤ B) : Since B w' P := h.step hw.size fun k hk hlt => hw.block k hlt (.inr (by omega))
theorem Since.below {B : Nat} {w w' : World} {P : World → Prop} (h : Since B w P) (hb : Below w.heap.size w w') : Since B w' P := h.step hb.size fun k _ hlt => hb.block k hlt
theorem OwnI.since {B : Nat} {w w' : World} {v : Value} {l : List Int} (h : OwnI w B v l) (hs : w.heap.size ≤ w'.heap.size) (hb : ∀ k, B ≤ k → k < w.heap.size → w'.heap[k]? = w.heap[k]?) : OwnI w' B v l := by
  refine ⟨h.1, h.2.1, ?_⟩
  rcases h.2.2 with h2 | ⟨g, cap, cur, rfl, hg, hr, r⟩
  · exact .inl h2
  · exact .inr ⟨g, cap, cur, rfl, hg, (hb g hg (Array.getElem?_eq_some_iff.1 hr).1).trans hr, r⟩
theorem Since.of_ownI {B B' : Nat} {w : World} {v : Value} {l : List Int} (h : OwnI w B v l) (hB : B' ≤ B) : Since B' w (fun u => Ints u v l) := fun u hs hb => (h.since hs fun k hk hlt => hb k (by omega) hlt).ints
set_option maxRecDepth 100000 in
set_option maxHeartbeats 4000000 in
theorem spec_anyCoins (w0 : World) (g : Nat) (n P Q G : Int) (m : Nat) (w : World) (h : Cur w0 w g n) (hb : Below w0.heap.size w0 w) (hn : n ≤ 900000000000000) (hgr : GrB ⟨P, Q, G⟩) (hm : m ≤ 1000) :
    Calls Try.prog 136 #[.pointer (some ⟨g, 0, none⟩), .agg #[.int .i64 P, .int .i64 Q, .int .i64 G], .int .i64 m] w fun e w' => (∃ v' l, e = .returned v' ∧ Since w.heap.size w' (fun u => Ints u v' l) ∧ l.length ≤ m + 1) ∧ Cur w0 w' g (n + 4010) ∧ Within g (g + 1) w w' := by
  have HGR := Lib.hid hgr
  obtain ⟨⟨P1, P2⟩, ⟨Q1, Q2⟩, ⟨G1, G2⟩⟩ := hgr
  simp only [] at P1 P2 Q1 Q2 G1 G2
  have HC := Lib.hid h
  have hg := h.lt
  have hg0 := h.ge
  have HB0 := Lib.hid hb
  clear h hb
  obtain ⟨W, hW⟩ : ∃ W, W = w.alloc (.cells #[.int .i64 P, .int .i64 Q, .int .i64 G] 39) := ⟨_, rfl⟩
  have hbW : Below w.heap.size w W := by rw [hW]; exact (Below.refl _ _).alloc (Nat.le_refl _) _
  have HX : Hid (BoxN W w.heap.size 39 [.int .i64 P, .int .i64 Q, .int .i64 G]) := by unfold Hid; rw [hW]; exact BoxN.new w _ _
  have HSW : Hid (W.heap.size = w.heap.size + 1) := by unfold Hid; rw [hW]; simp
  have hsW : w.heap.size < W.heap.size := by have := HSW.out; omega
  replace HC := Lib.hid (HC.out.keep hbW)
  have HBW := Lib.hid hbW
  have HWW : Hid (Within g (g + 1) w W) := Within.of_below hbW
  have HB1 := Lib.hid (Below.next HB0.out hbW)
  clear hbW
  go_enter Try.func136, Try.ntmps136
  go_wp2_with fail
  rw [← hW]
  clear hW
  refine (spec_coins w0 g _ P Q G m _ HC.out HB1.out (by omega) HGR.out hm).mono ?_
  rintro e w1 ⟨⟨v1, l, rfl, hO, hl, _⟩, hc, hw⟩
  obtain ⟨ao, co, rfl⟩ := hO.shape
  rw [hl] at hO ⊢
  have HK := Lib.hid hl
  have HO := Lib.hid hO
  replace HX := Lib.hid (HX.out.kept hw (.inr (by omega)))
  replace HWW := Lib.hid (HWW.out.trans hw)
  replace HB1 := Lib.hid (hw.belowOf HB1.out (by omega))
  replace HC := Lib.hid hc
  have hs1 := hw.size
  clear hc hw hl hO
  go_wp2_with fail
  refine (spec_pick w0 g _ 30 _ HC.out HB1.out (by omega)).mono ?_
  rintro e wr ⟨⟨i, rfl, hi0, _, hi2, _⟩, hc, hw⟩
  clear hi2
  replace HO := Lib.hid (HO.out.within hw (by omega))
  replace HX := Lib.hid (HX.out.kept hw (.inr (by omega)))
  replace HWW := Lib.hid (HWW.out.trans hw)
  replace HB1 := Lib.hid (hw.belowOf HB1.out (by omega))
  replace HC := Lib.hid hc
  have hs2 := hw.size
  clear hc hw
  have c0 := HX.out.cell (i := 0) rfl
  have c1 := HX.out.cell (i := 1) rfl
  have c2 := HX.out.cell (i := 2) rfl
  rcases (by omega : i = 0 ∨ i = 1 ∨ i = 2 ∨ (i ≠ 0 ∧ i ≠ 1 ∧ i ≠ 2)) with rfl | rfl | rfl | ⟨i0, i1, i2⟩
  · clear c0 c1 c2
    go_wp2_with (at_builtin; refine wpList_append_ints rfl _ _ rfl W.heap.size _ _ l [0] rfl (HO.out.alloc _) rfl (Ints.lit1 _ ⟨by decide, by decide⟩) (by rw [HK.out]; simp; omega) (by simp; omega) ?_; intro v4 w4 hown4 hgr4)
    have hb4 := (HO.out.alloc _).grown hgr4 (by simp; omega)
    have hb5 := ((Below.refl W.heap.size wr).alloc (by omega) _).trans hb4
    have HB5 := Lib.hid hb5
    have HO4 := Lib.hid hown4
    clear hb4 hb5 hown4 hgr4
    go_ret
    exact ⟨⟨_, _, rfl, Since.of_ownI HO4.out (by omega), by rw [List.length_append, HK.out]; simp⟩, (HC.out.belowB HB5.out (by omega)).mono (by omega), HWW.out.belowStep (HB5.out.mono (by omega))⟩
  · clear c0 c1 c2
    rcases Nat.eq_zero_or_pos m with hm0 | hm0
    · subst hm0
      go_wp2_with fail
      go_ret
      exact ⟨⟨_, l, rfl, Since.of_ownI HO.out (by omega), by rw [HK.out]; omega⟩, HC.out.mono (by omega), HWW.out⟩
    · have hpos : (0 : Int) < (m : Int) := by omega
      obtain ⟨a1, hs1', HI1⟩ := sl_dropU (a := ao) (n := m) (c := co) (x := 1) (k := 1) rfl (by omega)
      have HQ := Lib.hid HI1
      clear HI1
      have HA : Hid (Since w.heap.size wr (fun u => Ints u (.slice a1 (m - 1) (co - 1)) (l.drop 1))) := fun u hs hb => HQ.out u l (HO.out.since hs fun k hk hlt => hb k (by omega) hlt).ints
      go_wp2_with fail
      go_ret
      exact ⟨⟨_, _, rfl, HA.out, by rw [List.length_drop, HK.out]; omega⟩, HC.out.mono (by omega), HWW.out⟩
  · rcases Nat.eq_zero_or_pos m with hm0 | hm0
    · subst hm0
      clear c0 c1 c2
      go_wp2_with fail
      go_ret
      exact ⟨⟨_, l, rfl, Since.of_ownI HO.out (by omega), by rw [HK.out]; omega⟩, HC.out.mono (by omega), HWW.out⟩
    · have hpos : (0 : Int) < (m : Int) := by omega
      go_wp2_with fail
      refine wp_region_noPanic ?_
      refine wp_region_U (fun w' => Within g (g + 1) wr w' ∧ w'.cell? ⟨w.heap.size, 1, none⟩ = some (.int .i64 Q)) 16 [.rd 0, .rd 1, .rd 2, .rd 4, .rd 5, .rd 6, .both 3 7, .one 8] [9, 10] (by kernel_rfl) (by kernel_rfl) rfl (fun _ _ _ _ _ h => h) ⟨(Within.refl _ _ _).drew, c1⟩ ?_
      simp only [pickU, pickN, List.getElem?_cons_zero, List.getElem?_cons_succ]
      have hwz : Within g (g + 1) wr wr.drew := (Within.refl _ _ _).drew
      repeat (refine' wpU_read _ (by kernel_rfl) (fun w' hS' => ?_) ?_; rotate_left; · ((try dsimp only at hS'); go_simp; (try with_reducible rfl)); (try simp only [Act.put, List.setIfInBounds_toArray, List.set_cons_zero, List.set_cons_succ]))
      refine wpU_both ?_ ?_
      · refine wpO_do (by kernel_rfl) (fun K hK => ?_)
        go_simp
        go_at_call 158
        refine (spec_pick w0 g _ m _ (HC.out.keep (Below.refl _ _).drew) (hwz.belowOf HB1.out (by omega)) (by omega)).mono ?_
        rintro e w4 ⟨⟨y, rfl, hy0, _, hy2, _⟩, hc, hw⟩
        replace hy2 := hy2 (by omega)
        obtain ⟨j, rfl⟩ := Int.eq_ofNat_of_zero_le hy0
        have hw4 := hwz.trans hw
        have HC4 := Lib.hid hc
        have hs4 := hw4.size
        clear hc hw hwz
        refine hK.out _ _ ⟨hw4, within_at hw4 c1 (.inr (by omega))⟩ (fun _ => ?_)
        clear hK K
        try simp only [Act.put, List.setIfInBounds_toArray, List.set_cons_zero, List.set_cons_succ]
        refine wpO_do (by kernel_rfl) (fun K hK => ?_)
        go_simp
        have hw5 : Within g (g + 1) wr (w4.alloc (.cells #[.int .i64 (-1), .int .i64 Q] 3)) := hw4.allocR _
        refine hK.out _ _ ⟨hw5, within_at hw5 c1 (.inr (by omega))⟩ (fun _ => ?_)
        clear hK K
        try simp only [Act.put, List.setIfInBounds_toArray, List.set_cons_zero, List.set_cons_succ]
        refine wpU_do (by kernel_rfl) (fun K hK => ?_)
        go_simp
        go_at_call 154
        refine (spec_among w0 g _ _ [-1, Q] _ (HC4.out.keep ((Below.refl _ _).alloc (Nat.le_refl _) _)) (hw5.belowOf HB1.out (by omega)) (by omega) (Apart.of_ownI (OwnI.lit w4 (Nat.le_refl _) (lit_I64 (by simp; omega)) (by rfl) (by simp; decide) 2 rfl) (by omega)) (by simp)).mono ?_
        rintro e w6 ⟨⟨x, rfl, hx⟩, hc, hw⟩
        have hxb : -10 ≤ x ∧ x ≤ 2000000010 := by
          simp only [List.mem_cons, List.not_mem_nil, or_false] at hx
          omega
        have hw6 := hw5.trans hw
        have HC6 := Lib.hid hc
        clear hc hw hx
        refine hK.out _ _ ⟨hw6, within_at hw6 c1 (.inr (by omega))⟩ (fun _ => ?_)
        clear hK K
        try simp only [Act.put, List.setIfInBounds_toArray, List.set_cons_zero, List.set_cons_succ]
        repeat (refine' wpU_read _ (by kernel_rfl) (fun w' hS' => ?_) ?_; rotate_left; · ((try dsimp only at hS'); go_simp; (try with_reducible rfl)); (try simp only [Act.put, List.setIfInBounds_toArray, List.set_cons_zero, List.set_cons_succ]))
        refine wpU_nil ?_
        have HO6 := Lib.hid (HO.out.within hw6 (by omega))
        have HW6 := Lib.hid (HWW.out.trans hw6)
        have hs6 := hw6.size
        clear hw6 c0 c1 c2
        obtain ⟨b, rfl, hbw, _, hcx⟩ := HO6.out.at_ (by have := HK.out; omega)
        obtain ⟨y1, y2⟩ := hcx j (by omega)
        have HS := Lib.hid (HO6.out.stored HK.out j (x := x) ⟨by omega, by omega⟩)
        clear hcx
        have hj0 : (0 : Int) ≤ (j : Int) := by omega
        go_wp2_with fail
        refine NoPanic.normal ?_
        have HBs : Hid (Below w.heap.size w6 (w6.setCell ⟨b, j, none⟩ (.int .i64 x))) := (Below.refl w.heap.size _).setCell (by show w.heap.size ≤ b; omega) _
        clear y1 y2
        go_wp2_with fail
        go_ret
        exact ⟨⟨_, _, rfl, Since.of_ownI HS.out.1 (by omega), by rw [List.length_set, HK.out]; omega⟩, (HC6.out.belowB HBs.out hg).mono (by omega), HW6.out.belowStep HBs.out⟩
      · refine wpO_do (by kernel_rfl) (fun K hK => ?_)
        go_simp
        have hw5 : Within g (g + 1) wr ((wr.alloc (.cells #[.int .i64 (-1), .int .i64 Q] 3)).drew) := ((Within.refl _ _ _).allocR _).drew
        have hb5 : Below wr.heap.size wr ((wr.alloc (.cells #[.int .i64 (-1), .int .i64 Q] 3)).drew) := ((Below.refl _ _).alloc (Nat.le_refl _) _).drew
        have HOL : Hid (OwnI ((wr.alloc (.cells #[.int .i64 (-1), .int .i64 Q] 3)).drew) wr.heap.size (.slice (some ⟨wr.heap.size, 0, none⟩) 2 2) [-1, Q]) := (OwnI.lit wr (Nat.le_refl _) (lit_I64 (by simp; omega)) (by rfl) (by simp; decide) 2 rfl).below (Below.refl _ _).drew
        refine hK.out _ _ ⟨hw5, within_at hw5 c1 (.inr (by omega))⟩ (fun _ => ?_)
        clear hK K hwz
        try simp only [Act.put, List.setIfInBounds_toArray, List.set_cons_zero, List.set_cons_succ]
        refine wpO_do (by kernel_rfl) (fun K hK => ?_)
        go_simp
        go_at_call 158
        refine (spec_pick w0 g _ m _ (HC.out.keep hb5) (hw5.belowOf HB1.out (by omega)) (by omega)).mono ?_
        rintro e w4 ⟨⟨y, rfl, hy0, _, hy2, _⟩, hc, hw⟩
        replace hy2 := hy2 (by omega)
        obtain ⟨j, rfl⟩ := Int.eq_ofNat_of_zero_le hy0
        have hw4 := hw5.trans hw
        have HC4 := Lib.hid hc
        have HOL4 := Lib.hid (HOL.out.within hw (by omega))
        have hs4 := hw4.size
        clear hc hw hw5 hb5 HOL
        refine hK.out _ _ ⟨hw4, within_at hw4 c1 (.inr (by omega))⟩ (fun _ => ?_)
        clear hK K
        try simp only [Act.put, List.setIfInBounds_toArray, List.set_cons_zero, List.set_cons_succ]
        refine wpU_do (by kernel_rfl) (fun K hK => ?_)
        go_simp
        go_at_call 154
        refine (spec_among w0 g _ _ [-1, Q] _ HC4.out (hw4.belowOf HB1.out (by omega)) (by omega) (Apart.of_ownI (HOL4.out) (by omega)) (by simp)).mono ?_
        rintro e w6 ⟨⟨x, rfl, hx⟩, hc, hw⟩
        have hxb : -10 ≤ x ∧ x ≤ 2000000010 := by
          simp only [List.mem_cons, List.not_mem_nil, or_false] at hx
          omega
        have hw6 := hw4.trans hw
        have HC6 := Lib.hid hc
        clear hc hw hx
        refine hK.out _ _ ⟨hw6, within_at hw6 c1 (.inr (by omega))⟩ (fun _ => ?_)
        clear hK K
        try simp only [Act.put, List.setIfInBounds_toArray, List.set_cons_zero, List.set_cons_succ]
        repeat (refine' wpU_read _ (by kernel_rfl) (fun w' hS' => ?_) ?_; rotate_left; · ((try dsimp only at hS'); go_simp; (try with_reducible rfl)); (try simp only [Act.put, List.setIfInBounds_toArray, List.set_cons_zero, List.set_cons_succ]))
        refine wpU_nil ?_
        have HO6 := Lib.hid (HO.out.within hw6 (by omega))
        have HW6 := Lib.hid (HWW.out.trans hw6)
        have hs6 := hw6.size
        clear hw6 c0 c1 c2
        obtain ⟨b, rfl, hbw, _, hcx⟩ := HO6.out.at_ (by have := HK.out; omega)
        obtain ⟨y1, y2⟩ := hcx j (by omega)
        have HS := Lib.hid (HO6.out.stored HK.out j (x := x) ⟨by omega, by omega⟩)
        clear hcx
        have hj0 : (0 : Int) ≤ (j : Int) := by omega
        go_wp2_with fail
        refine NoPanic.normal ?_
        have HBs : Hid (Below w.heap.size w6 (w6.setCell ⟨b, j, none⟩ (.int .i64 x))) := (Below.refl w.heap.size _).setCell (by show w.heap.size ≤ b; omega) _
        clear y1 y2
        go_wp2_with fail
        go_ret
        exact ⟨⟨_, _, rfl, Since.of_ownI HS.out.1 (by omega), by rw [List.length_set, HK.out]; omega⟩, (HC6.out.belowB HBs.out hg).mono (by omega), HW6.out.belowStep HBs.out⟩
  · have j0 : (i == 0) = false := by rw [beq_eq_false_iff_ne]; exact i0
    have j1 : (i == 1) = false := by rw [beq_eq_false_iff_ne]; exact i1
    have j2 : (i == 2) = false := by rw [beq_eq_false_iff_ne]; exact i2
    clear i0 i1 i2 c0 c1 c2
    go_wp2_with fail
    go_ret
    exact ⟨⟨_, l, rfl, Since.of_ownI HO.out (by omega), by rw [HK.out]; omega⟩, HC.out.mono (by omega), HWW.out⟩
end Go.Proofs.Ytboahnklilmdpaa
namespace Go.Proofs.Ytboahnklilmdpaa
open Go.RowKit
set_option linter.unusedSimpArgs false
set_option linter.unusedVariables false

set_option maxRecDepth 100000 in
set_option maxHeartbeats 4000000 in
theorem spec_elements (w0 : World) (g : Nat) (n P Q G : Int) (m : Nat) (w : World) (h : Cur w0 w g n) (hb : Below w0.heap.size w0 w) (hn : n ≤ 900000000000000) (hgr : GrB ⟨P, Q, G⟩) (hm : m ≤ 50) :
    Calls Try.prog 181 #[.pointer (some ⟨g, 0, none⟩), .agg #[.int .i64 P, .int .i64 Q, .int .i64 G], .int .i64 m] w fun e w' => (∃ v', e = .returned v' ∧ ∃ l, Since w.heap.size w' (fun u => Ints u v' l) ∧ l.length ≤ 60) ∧ Cur w0 w' g (n + 500) ∧ Within g (g + 1) w w' := by
  have HGR := Lib.hid hgr
  clear hgr
  have HC := Lib.hid h
  have hg := h.lt
  have hg0 := h.ge
  have HB0 := Lib.hid hb
  clear h hb
  obtain ⟨W, hW⟩ : ∃ W, W = w.alloc (.cells #[.int .i64 P, .int .i64 Q, .int .i64 G] 39) := ⟨_, rfl⟩
  have hbW : Below w.heap.size w W := by rw [hW]; exact (Below.refl _ _).alloc (Nat.le_refl _) _
  have HX : Hid (BoxN W w.heap.size 39 [.int .i64 P, .int .i64 Q, .int .i64 G]) := by unfold Hid; rw [hW]; exact BoxN.new w _ _
  have HSW : Hid (W.heap.size = w.heap.size + 1) := by unfold Hid; rw [hW]; simp
  have hsW : w.heap.size < W.heap.size := by have := HSW.out; omega
  replace HC := Lib.hid (HC.out.keep hbW)
  have HBW := Lib.hid hbW
  have HWW : Hid (Within g (g + 1) w W) := Within.of_below hbW
  have HB1 := Lib.hid (Below.next HB0.out hbW)
  clear hbW
  have ewm : IntKind.i64.wrap ((m : Int) + 1) = (m : Int) + 1 := IntWalk.i64_in _ (by omega)
  go_enter Try.func181, Try.ntmps181
  go_wp2_with fail
  rw [← hW]
  clear hW
  try (go_wp2_with fail)
  refine (spec_pick w0 g _ ((m : Int) + 1) _ HC.out HB1.out (by omega)).mono ?_
  rintro e w1 ⟨⟨x, rfl, hx0, _, hx2, _⟩, hc, hw⟩
  replace hx2 := hx2 (by omega)
  have HC1 := Lib.hid hc
  have HW1 := Lib.hid hw
  clear hc hw
  go_wp2_with fail
  go_loopg [7, 8] m (fun gk ov kv wr => ∃ (l : List Int) (k : Int), kv = .int .i64 k ∧ 0 ≤ k ∧ k ≤ (gk : Int) ∧ gk ≤ m ∧ l.length + gk ≤ m ∧ OwnI wr W.heap.size ov l ∧ Cur w0 wr g (n + 2 + 4 * ((m : Int) - gk)) ∧ Within g (g + 1) W wr)
  case atStart => exact ⟨[], x, rfl, hx0, by omega, by omega, by simp, OwnI.nil _ _, HC1.out.mono (by omega), HW1.out⟩
  case round =>
    obtain ⟨l, k, rfl, hk0, hk1, hk2, hk3, hO, hC, hWr⟩ := hrel
    have hsr := hWr.size
    have HXr := Lib.hid (HX.out.kept hWr (.inr (by omega)))
    have c0 := HXr.out.cell (i := 0) rfl
    have c1 := HXr.out.cell (i := 1) rfl
    have c2 := HXr.out.cell (i := 2) rfl
    clear HC
    have HC := Lib.hid hC
    have HWr := Lib.hid hWr
    obtain ⟨ao, co, rfl⟩ := hO.shape
    have HO := Lib.hid hO
    clear hC hWr hO
    obtain ⟨c, hc⟩ : ∃ c, l.length = c := ⟨_, rfl⟩
    rw [hc] at HO hk3 ⊢
    have HK := Lib.hid hc; clear hc
    by_cases hpos : 0 < k
    · obtain ⟨f, rfl⟩ : ∃ f, gk = f + 1 := ⟨gk - 1, by omega⟩
      have ew : IntKind.i64.wrap (k - 1) = k - 1 := IntWalk.i64_in _ (by omega)
      go_wp2_with fail
      refine (spec_element w0 g _ P Q G _ HC.out (HWr.out.belowOf HB1.out (by omega)) (by omega) HGR.out).mono ?_
      rintro e w3 ⟨⟨z, rfl, hz0, hz1⟩, hc, hw⟩
      have hs3 := hw.size
      have HO3 := Lib.hid (HO.out.within hw (by omega))
      have HC3 := Lib.hid (hc.mono (n' := n + 2 + 4 * ((m : Int) - f)) (by omega))
      have HW3 := Lib.hid (HWr.out.trans hw)
      clear hc hw c0 c1 c2 HO HC
      go_wp2_with (at_builtin; refine wpList_append_ints rfl _ _ rfl W.heap.size _ _ l [z] rfl (HO3.out.alloc _) rfl (Ints.lit1 _ ⟨by omega, by omega⟩) (by rw [HK.out]; simp; omega) (by simp; omega) ?_; intro v4 w4 hown4 hgr4)
      have hb4 := (HO3.out.alloc _).grown hgr4 (by simp; omega)
      have hb5 := ((Below.refl W.heap.size w3).alloc (by omega) _).trans hb4
      go_roundg f
      case measure => omega
      case rel => exact ⟨l ++ [z], k - 1, by go_num, by omega, by omega, by omega, by rw [List.length_append, HK.out, List.length_singleton]; omega, hown4, HC3.out.belowB hb5 (by omega), HW3.out.belowStep hb5⟩
    · go_wp2_with fail
      refine (spec_one w0 g _ 20 _ HC.out (HWr.out.belowOf HB1.out (by omega)) (by omega)).mono ?_
      rintro e w5 ⟨⟨q, rfl⟩, hc, hw⟩
      have hs5 := hw.size
      replace HO := Lib.hid (HO.out.within hw (by omega))
      replace HC := Lib.hid (hc.mono (n' := n + 220) (by omega))
      replace HWr := Lib.hid (HWr.out.trans hw)
      replace HXr := Lib.hid (HXr.out.kept hw (.inr (by omega)))
      clear hc hw c0 c1 c2
      cases q
      · have hkl : c ≤ 60 := by omega
        go_wp2_with fail
        refine (spec_one w0 g _ 40 _ HC.out (HWr.out.belowOf HB1.out (by omega)) (by omega)).mono ?_
        rintro e w7 ⟨⟨q, rfl⟩, hc, hw⟩
        have hs7 := hw.size
        replace HO := Lib.hid (HO.out.within hw (by omega))
        replace HC := Lib.hid (hc.mono (n' := n + 300) (by omega))
        replace HWr := Lib.hid (HWr.out.trans hw)
        clear hc hw
        cases q
        · go_wp2_with fail
          go_ret
          exact ⟨⟨_, rfl, _, Since.of_ownI HO.out (by omega), by rw [HK.out]; omega⟩, HC.out.mono (by omega), HWW.out.trans HWr.out⟩
        · go_wp2_with fail
          refine (spec_pick w0 g _ 2 _ HC.out (HWr.out.belowOf HB1.out (by omega)) (by omega)).mono ?_
          rintro e w8 ⟨⟨y, rfl, hy0, _, hy2, _⟩, hc, hw⟩
          replace hy2 := hy2 (by omega)
          have hs8 := hw.size
          replace HC := Lib.hid (hc.mono (n' := n + 400) (by omega))
          replace HWr := Lib.hid (HWr.out.trans hw)
          clear hc hw HO
          have ewy : IntKind.i64.wrap (24 + y) = 24 + y := IntWalk.i64_in _ (by omega)
          go_wp2_with fail
          go_loopg [7, 9] 26 (fun gk ov kv wr => ∃ (l : List Int) (k : Int), kv = .int .i64 k ∧ 0 ≤ k ∧ k ≤ (gk : Int) ∧ gk ≤ 26 ∧ l.length + gk ≤ 26 ∧ OwnI wr W.heap.size ov l ∧ Cur w0 wr g (n + 400) ∧ Within g (g + 1) W wr)
          case atStart => exact ⟨[], 24 + y, rfl, by omega, by omega, by omega, by simp, OwnI.nil _ _, HC.out, HWr.out⟩
          case round =>
            obtain ⟨l, k, rfl, hk0, hk1, hk2, hk3, hO, hC, hWr⟩ := hrel
            have hsr := hWr.size
            have HC := Lib.hid hC
            have HWr := Lib.hid hWr
            obtain ⟨ao, co, rfl⟩ := hO.shape
            have HO := Lib.hid hO
            clear hC hWr hO
            by_cases hpos : 0 < k
            · obtain ⟨f, rfl⟩ : ∃ f, gk = f + 1 := ⟨gk - 1, by omega⟩
              have ew : IntKind.i64.wrap (k - 1) = k - 1 := IntWalk.i64_in _ (by omega)
              obtain ⟨c, hc⟩ : ∃ c, l.length = c := ⟨_, rfl⟩
              rw [hc] at HO hk3 ⊢
              have HK := Lib.hid hc; clear hc
              go_wp2_with (at_builtin; refine wpList_append_ints rfl _ _ rfl W.heap.size _ _ l [1] rfl (HO.out.alloc _) rfl (Ints.lit1 _ ⟨by decide, by decide⟩) (by rw [HK.out]; simp; omega) (by simp; omega) ?_; intro v4 w4 hown4 hgr4)
              have hb4 := (HO.out.alloc _).grown hgr4 (by simp; omega)
              have hb5 := ((Below.refl W.heap.size _).alloc (by omega) _).trans hb4
              go_roundg f
              case measure => omega
              case rel => exact ⟨l ++ [1], k - 1, by go_num, by omega, by omega, by omega, by rw [List.length_append, HK.out, List.length_singleton]; omega, hown4, HC.out.belowB hb5 (by omega), HWr.out.belowStep hb5⟩
            · obtain ⟨c, hc⟩ : ∃ c, l.length = c := ⟨_, rfl⟩
              rw [hc] at HO hk3 ⊢
              have HK := Lib.hid hc; clear hc
              go_wp2_with fail
              go_ret
              exact ⟨⟨_, rfl, l, Since.of_ownI HO.out (by omega), by rw [HK.out]; omega⟩, HC.out.mono (by omega), HWW.out.trans HWr.out⟩
      · have c0 := HXr.out.cell (i := 0) rfl
        have c1 := HXr.out.cell (i := 1) rfl
        have c2 := HXr.out.cell (i := 2) rfl
        go_wp2_with fail
        refine (spec_anyElement w0 g _ P Q G _ HC.out (HWr.out.belowOf HB1.out (by omega)) (by omega) HGR.out).mono ?_
        rintro e w6 ⟨⟨z, rfl, hz0, hz1⟩, hc, hw⟩
        have hs6 := hw.size
        replace HO := Lib.hid (HO.out.within hw (by omega))
        replace HC := Lib.hid (hc.mono (n' := n + 240) (by omega))
        replace HWr := Lib.hid (HWr.out.trans hw)
        clear hc hw c0 c1 c2
        go_wp2_with (at_builtin; refine wpList_append_ints rfl _ _ rfl W.heap.size _ _ l [z] rfl (HO.out.alloc _) rfl (Ints.lit1 _ ⟨by omega, by omega⟩) (by rw [HK.out]; simp; omega) (by simp; omega) ?_; intro v4 w4 hown4 hgr4)
        have hb4 := (HO.out.alloc _).grown hgr4 (by simp; omega)
        have hb5 := ((Below.refl W.heap.size w6).alloc (by omega) _).trans hb4
        have hs4 := hb5.size
        replace HC := Lib.hid (HC.out.belowB hb5 (by omega))
        replace HWr := Lib.hid (HWr.out.belowStep hb5)
        replace HO := Lib.hid hown4
        clear hb4 hb5 hown4 hgr4
        obtain ⟨a4, c4, rfl⟩ := HO.out.shape
        have HKL : Hid ((l ++ [z]).length = c + 1) := by unfold Hid; rw [List.length_append, HK.out]; rfl
        have hkl : c + 1 ≤ 60 := by omega
        obtain ⟨l2, hl2⟩ : ∃ l2, l ++ [z] = l2 := ⟨_, rfl⟩
        rw [hl2] at HO HKL ⊢
        clear hl2
        obtain ⟨c', hc'⟩ : ∃ c', l2.length = c' := ⟨_, rfl⟩
        rw [hc'] at HO HKL ⊢
        replace hkl : c' ≤ 60 := by have := HKL.out; omega
        clear HK
        have HK := Lib.hid hc'
        clear hc'
        go_wp2_with fail
        refine (spec_one w0 g _ 40 _ HC.out (HWr.out.belowOf HB1.out (by omega)) (by omega)).mono ?_
        rintro e w7 ⟨⟨q, rfl⟩, hc, hw⟩
        have hs7 := hw.size
        replace HO := Lib.hid (HO.out.within hw (by omega))
        replace HC := Lib.hid (hc.mono (n' := n + 300) (by omega))
        replace HWr := Lib.hid (HWr.out.trans hw)
        clear hc hw
        cases q
        · go_wp2_with fail
          go_ret
          exact ⟨⟨_, rfl, _, Since.of_ownI HO.out (by omega), by rw [HK.out]; omega⟩, HC.out.mono (by omega), HWW.out.trans HWr.out⟩
        · go_wp2_with fail
          refine (spec_pick w0 g _ 2 _ HC.out (HWr.out.belowOf HB1.out (by omega)) (by omega)).mono ?_
          rintro e w8 ⟨⟨y, rfl, hy0, _, hy2, _⟩, hc, hw⟩
          replace hy2 := hy2 (by omega)
          have hs8 := hw.size
          replace HC := Lib.hid (hc.mono (n' := n + 400) (by omega))
          replace HWr := Lib.hid (HWr.out.trans hw)
          clear hc hw HO
          have ewy : IntKind.i64.wrap (24 + y) = 24 + y := IntWalk.i64_in _ (by omega)
          go_wp2_with fail
          go_loopg [7, 9] 26 (fun gk ov kv wr => ∃ (l : List Int) (k : Int), kv = .int .i64 k ∧ 0 ≤ k ∧ k ≤ (gk : Int) ∧ gk ≤ 26 ∧ l.length + gk ≤ 26 ∧ OwnI wr W.heap.size ov l ∧ Cur w0 wr g (n + 400) ∧ Within g (g + 1) W wr)
          case atStart => exact ⟨[], 24 + y, rfl, by omega, by omega, by omega, by simp, OwnI.nil _ _, HC.out, HWr.out⟩
          case round =>
            obtain ⟨l, k, rfl, hk0, hk1, hk2, hk3, hO, hC, hWr⟩ := hrel
            have hsr := hWr.size
            have HC := Lib.hid hC
            have HWr := Lib.hid hWr
            obtain ⟨ao, co, rfl⟩ := hO.shape
            have HO := Lib.hid hO
            clear hC hWr hO
            by_cases hpos : 0 < k
            · obtain ⟨f, rfl⟩ : ∃ f, gk = f + 1 := ⟨gk - 1, by omega⟩
              have ew : IntKind.i64.wrap (k - 1) = k - 1 := IntWalk.i64_in _ (by omega)
              obtain ⟨c, hc⟩ : ∃ c, l.length = c := ⟨_, rfl⟩
              rw [hc] at HO hk3 ⊢
              have HK := Lib.hid hc; clear hc
              go_wp2_with (at_builtin; refine wpList_append_ints rfl _ _ rfl W.heap.size _ _ l [1] rfl (HO.out.alloc _) rfl (Ints.lit1 _ ⟨by decide, by decide⟩) (by rw [HK.out]; simp; omega) (by simp; omega) ?_; intro v4 w4 hown4 hgr4)
              have hb4 := (HO.out.alloc _).grown hgr4 (by simp; omega)
              have hb5 := ((Below.refl W.heap.size _).alloc (by omega) _).trans hb4
              go_roundg f
              case measure => omega
              case rel => exact ⟨l ++ [1], k - 1, by go_num, by omega, by omega, by omega, by rw [List.length_append, HK.out, List.length_singleton]; omega, hown4, HC.out.belowB hb5 (by omega), HWr.out.belowStep hb5⟩
            · obtain ⟨c, hc⟩ : ∃ c, l.length = c := ⟨_, rfl⟩
              rw [hc] at HO hk3 ⊢
              have HK := Lib.hid hc; clear hc
              go_wp2_with fail
              go_ret
              exact ⟨⟨_, rfl, l, Since.of_ownI HO.out (by omega), by rw [HK.out]; omega⟩, HC.out.mono (by omega), HWW.out.trans HWr.out⟩
end Go.Proofs.Ytboahnklilmdpaa
