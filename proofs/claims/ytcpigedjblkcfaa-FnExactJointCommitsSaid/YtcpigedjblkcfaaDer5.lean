/- Bases: the program's walk. -/
import Derived.Test.YtcpigedjblkcfaaDer4
namespace Go.Proofs.Ytcpigedjblkcfaa
open Go.RowKit
set_option linter.unusedSimpArgs false
set_option linter.unusedVariables false

theorem BoxN.belowB {w w' : World} {b B : Nat} {t : TypeId} {cs : List Value} (h : BoxN w b t cs) (hb : Below B w w') (hB : b < B) : BoxN w' b t cs := (hb.block b hB).trans h
set_option maxRecDepth 100000 in
set_option maxHeartbeats 4000000 in
theorem impl_basesOf (gr : GroupD) (n : Nat) (w : World) (hg : OkG gr) (hn : n ≤ 24) :
    Calls Try.prog 174 #[.agg #[.int .i64 gr.p, .int .i64 gr.q, .int .i64 gr.g], .int .i64 n] w fun e w' => (∃ x a m c, e = .returned (.tuple #[.agg #[.int .i64 x, .slice a m c], .bool (basB gr sH sHs n)])) ∧ Below w.heap.size w w' := by
  have HG := Lib.hid hg; clear hg
  obtain ⟨p, q, g⟩ := gr
  obtain ⟨W, hW⟩ : ∃ W, W = w.alloc (.cells #[.int .i64 p, .int .i64 q, .int .i64 g] 30) := ⟨_, rfl⟩
  have hsW : W.heap.size = w.heap.size + 1 := by rw [hW]; simp
  have hgW : w.heap.size < W.heap.size := by omega
  have HWB : Hid (Below w.heap.size w W) := by unfold Hid; rw [hW]; exact (Below.refl _ _).alloc (Nat.le_refl _) _
  have c0 : W.cell? ⟨w.heap.size, 0, none⟩ = some (.int .i64 p) := by rw [hW]; simp [go_sem]
  have c1 : W.cell? ⟨w.heap.size, 1, none⟩ = some (.int .i64 q) := by rw [hW]; simp [go_sem]
  have c2 : W.cell? ⟨w.heap.size, 2, none⟩ = some (.int .i64 g) := by rw [hW]; simp [go_sem]
  have HGX : Hid (BoxN W w.heap.size 30 [.int .i64 p, .int .i64 q, .int .i64 g]) := by unfold Hid; rw [hW]; exact BoxN.new w _ _
  obtain ⟨V, hV⟩ : ∃ V, V = W.alloc (.cells #[.int .i64 0, .slice none 0 0] 202) := ⟨_, rfl⟩
  have hsV : V.heap.size = w.heap.size + 1 + 1 := by rw [hV]; simp [hsW]
  have HVB : Hid (Below W.heap.size W V) := by unfold Hid; rw [hV]; exact (Below.refl _ _).alloc (Nat.le_refl _) _
  replace c0 := box_at c0 HVB.out
  replace c1 := box_at c1 HVB.out
  replace c2 := box_at c2 HVB.out
  have HX : Hid (BoxN V (w.heap.size + 1) 202 [.int .i64 0, .slice none 0 0]) := by unfold Hid; rw [hV, ← hsW]; exact BoxN.new W _ _
  have HWV : Hid (Below w.heap.size w V) := Below.next HWB.out HVB.out
  replace HGX : Hid (BoxN V w.heap.size 30 [.int .i64 p, .int .i64 q, .int .i64 g]) := HGX.out.below HVB.out
  go_enter Try.func174, Try.ntmps174
  go_wp2_with fail
  rw [← hW, ← hV]
  clear hW hV
  go_wp2_with fail
  refine (impl_derive ⟨p, q, g⟩ sH 0 _ HG.out (by decide) (by decide)).mono ?_
  rintro e w1 ⟨rfl, hb1⟩
  have hs1 := hb1.size
  rw [hsV] at hs1
  have HX1 : Hid (BoxN w1 (w.heap.size + 1) 202 [.int .i64 0, .slice none 0 0]) := HX.out.below hb1
  have HGX1 : Hid (BoxN w1 w.heap.size 30 [.int .i64 p, .int .i64 q, .int .i64 g]) := HGX.out.below hb1
  have HB1 := Lib.hid (Below.next HWV.out hb1)
  clear hb1 HX HGX c0 c1 c2
  obtain ⟨q1, hq1⟩ : ∃ b, decide (0 < hD ⟨p, q, g⟩ sH 0) = b := ⟨_, rfl⟩
  have HQ1 := Lib.hid hq1
  rw [hq1]
  clear hq1
  generalize hD ⟨p, q, g⟩ sH 0 = x
  go_wp2_with fail
  obtain ⟨U, hU⟩ : ∃ U, U = w1.alloc (.cells #[.int .i64 x, .slice none 0 0] 202) := ⟨_, rfl⟩
  have hsU : U.heap.size = w1.heap.size + 1 := by rw [hU]; simp
  have HUB : Hid (Below w1.heap.size w1 U) := by unfold Hid; rw [hU]; exact (Below.refl _ _).alloc (Nat.le_refl _) _
  have HX0 : Hid (BoxN U (w.heap.size + 1) 202 [.int .i64 0, .slice none 0 0]) := HX1.out.below HUB.out
  have HG0 : Hid (BoxN U w.heap.size 30 [.int .i64 p, .int .i64 q, .int .i64 g]) := HGX1.out.below HUB.out
  have HY0 : Hid (BoxN U w1.heap.size 202 [.int .i64 x, .slice none 0 0]) := by unfold Hid; rw [hU]; exact BoxN.new w1 _ _
  have HWU : Hid (Below w.heap.size w U) := Below.next HB1.out HUB.out
  have HO0 : Hid (OwnI U U.heap.size (.slice none 0 0) []) := OwnI.nil _ _
  rw [← hU]
  clear hU HX1 HGX1
  generalize hgz : w1.heap.size = z at hs1 hsU HY0
  go_loopg [9, 21] n (fun gg tv i wr => ∃ (k m c : Nat) (a : Option Addr), k + gg = n ∧ i = .int .i64 k ∧ tv = .bool (hsB ⟨p, q, g⟩ sHs k) ∧ Hid (OwnI wr U.heap.size (.slice a m c) (tab k (fun i => hD ⟨p, q, g⟩ sHs i))) ∧
    Hid (BoxN wr (w.heap.size + 1) 202 [.int .i64 0, .slice none 0 0]) ∧ Hid (BoxN wr w.heap.size 30 [.int .i64 p, .int .i64 q, .int .i64 g]) ∧ Hid (BoxN wr z 202 [.int .i64 x, .slice a m c]) ∧ U.heap.size ≤ wr.heap.size ∧ Hid (Below w.heap.size w wr))
  case atStart => exact ⟨0, 0, 0, none, by omega, rfl, rfl, by rw [tab_zero]; exact HO0, HX0, HG0, HY0, Nat.le_refl _, HWU⟩
  case round =>
    obtain ⟨k, m, c, a, hkg, rfl, rfl, HO, HX, HGX, HY, hsr, HB⟩ := hrel
    clear HX0 HG0 HY0
    have HLN := Lib.hid (tab_length k (fun i => hD ⟨p, q, g⟩ sHs i))
    have hmk : m = k := by have := HO.out.ints.len; rw [HLN.out] at this; exact this.symm
    subst hmk
    by_cases hlt : m < n
    · have HS := Lib.hid (tab_succ m (fun i => hD ⟨p, q, g⟩ sHs i))
      have HSS := Lib.hid (hsB_succ ⟨p, q, g⟩ sHs m)
      have HKD : Hid (digestB (m : Int) = true) := by unfold Hid digestB; exact decide_eq_true ⟨by omega, by omega⟩
      have hwk : IntKind.i64.wrap ((m : Int) + 1) = (m : Int) + 1 := IntWalk.i64_in _ (by omega)
      obtain ⟨q2, hq2⟩ : ∃ b, hsB ⟨p, q, g⟩ sHs m = b := ⟨_, rfl⟩
      rw [hq2] at HSS ⊢
      clear hq2
      have c0 := HGX.out.cell (i := 0) rfl
      have c1 := HGX.out.cell (i := 1) rfl
      have c2 := HGX.out.cell (i := 2) rfl
      go_wp2_with fail
      refine (impl_derive ⟨p, q, g⟩ sHs m _ HG.out (by decide) HKD.out).mono ?_
      rintro e w3 ⟨rfl, hb3⟩
      have HO3 := Lib.hid (HO.out.below hb3)
      have HX3 := Lib.hid (HX.out.below hb3)
      have HG3 := Lib.hid (HGX.out.below hb3)
      have HY3 := Lib.hid (HY.out.below hb3)
      have HB3 := Lib.hid (Below.next HB.out hb3)
      have hs3 := hb3.size
      clear hb3 HO HX HGX HY HB c0 c1 c2
      have hyb := hD_bd HG.out sHs m
      have hyp := HG.out.p2
      simp only [] at hyb hyp
      obtain ⟨y, hy⟩ : ∃ y, hD ⟨p, q, g⟩ sHs m = y := ⟨_, rfl⟩
      rw [hy] at hyb HSS ⊢
      have HYY := Lib.hid hy; clear hy
      obtain ⟨q3, hq3⟩ : ∃ b, decide (0 < y) = b := ⟨_, rfl⟩
      rw [hq3] at HSS ⊢
      clear hq3
      have z0 := HY3.out.cell (i := 0) rfl
      have z1 := HY3.out.cell (i := 1) rfl
      have f1 := HY3.out.frozen 1
      cases q2
      all_goals
        go_wp2_with (at_builtin; refine wpList_append_intsN rfl _ _ rfl U.heap.size _ _ (tab m (fun i => hD ⟨p, q, g⟩ sHs i)) [y] rfl (HO3.out.alloc _) rfl (Ints.lit1 _ ⟨by omega, by omega⟩) (by rw [HLN.out]; simp; omega) (by simp; omega) (m + 1) (by rw [HLN.out]; rfl) ?_; intro a5 c5 w5 hown5 hgr5; have hb5 : Below U.heap.size w3 w5 := ((Below.refl _ _).alloc (by omega) _).trans ((HO3.out.alloc _).grown hgr5 (by simp; omega)); have HX5 := Lib.hid (HX3.out.belowB hb5 (by omega)); have HG5 := Lib.hid (HG3.out.belowB hb5 (by omega)); have HY5 := Lib.hid (HY3.out.belowB hb5 (by omega)); have HB5 := Lib.hid (HB3.out.trans (hb5.mono (by omega))); have hs5 := hb5.size; have HO5 := Lib.hid hown5; clear hb5 hown5 hgr5; have f5 := HY5.out.frozen 1; have y1 := HY5.out.cell (i := 1) rfl)
        go_roundg (n - (m + 1))
        case measure => omega
        case rel =>
          refine ⟨m + 1, m + 1, c5, a5, by omega, by go_num, by rw [HSS.out]; rfl, ?_, HX5.out.other (by omega) _ _, HG5.out.other (by omega) _ _, HY5.out.set 1 _, by simp; omega, HB5.out.setCell (by show w.heap.size ≤ z; omega) _⟩
          rw [HS.out, HYY.out]
          refine HO5.out.kept (grownBy_setCell _ z 1 _) (.inr fun e => ?_)
          have := (HO5.out.lt z e).1
          omega
    · obtain rfl : n = m := by omega
      obtain ⟨q2, hq2⟩ : ∃ b, hsB ⟨p, q, g⟩ sHs n = b := ⟨_, rfl⟩
      have HQ : Hid (basB ⟨p, q, g⟩ sH sHs n = (q1 && q2)) := by unfold Hid basB; rw [HQ1.out, hq2]
      rw [hq2]
      clear hq2
      have x0 : wr.cell? ⟨w.heap.size + 1, 0, none⟩ = some (.int .i64 0) := HX.out.cell rfl
      have x1 : wr.cell? ⟨w.heap.size + 1, 1, none⟩ = some (.slice none 0 0) := HX.out.cell rfl
      have f0 : wr.frozen? ⟨w.heap.size + 1, 0, none⟩ = false := HX.out.frozen 0
      have f1 : wr.frozen? ⟨w.heap.size + 1, 1, none⟩ = false := HX.out.frozen 1
      have z0 : wr.cell? ⟨z, 0, none⟩ = some (.int .i64 x) := HY.out.cell rfl
      have z1 : wr.cell? ⟨z, 1, none⟩ = some (.slice a n c) := HY.out.cell rfl
      have HZ : Hid (∀ u1 u2, BoxN ((wr.setCell ⟨w.heap.size + 1, 0, none⟩ u1).setCell ⟨w.heap.size + 1, 1, none⟩ u2) (w.heap.size + 1) 202 [u1, u2]) := fun u1 u2 => (HX.out.set 0 u1).set 1 u2
      have HB4 := HB
      cases q1 <;> cases q2
      · go_wp2_with fail
        have r0 := (HZ.out (.int .i64 0) (.slice none 0 0)).cell (i := 0) rfl
        have r1 := (HZ.out (.int .i64 0) (.slice none 0 0)).cell (i := 1) rfl
        refine bodyPost_ret (v := .tuple #[.agg #[.int .i64 0, .slice none 0 0], .bool false]) (by simp [results, Try.results174, go_sem, r0, r1]) rfl ⟨⟨_, _, _, _, by rw [HQ.out]; rfl⟩, ?_⟩
        exact (HB4.out.setCell (Nat.le_succ _) _).setCell (Nat.le_succ _) _
      · go_wp2_with fail
        have r0 := (HZ.out (.int .i64 0) (.slice none 0 0)).cell (i := 0) rfl
        have r1 := (HZ.out (.int .i64 0) (.slice none 0 0)).cell (i := 1) rfl
        refine bodyPost_ret (v := .tuple #[.agg #[.int .i64 0, .slice none 0 0], .bool false]) (by simp [results, Try.results174, go_sem, r0, r1]) rfl ⟨⟨_, _, _, _, by rw [HQ.out]; rfl⟩, ?_⟩
        exact (HB4.out.setCell (Nat.le_succ _) _).setCell (Nat.le_succ _) _
      · go_wp2_with fail
        have r0 := (HZ.out (.int .i64 0) (.slice none 0 0)).cell (i := 0) rfl
        have r1 := (HZ.out (.int .i64 0) (.slice none 0 0)).cell (i := 1) rfl
        refine bodyPost_ret (v := .tuple #[.agg #[.int .i64 0, .slice none 0 0], .bool false]) (by simp [results, Try.results174, go_sem, r0, r1]) rfl ⟨⟨_, _, _, _, by rw [HQ.out]; rfl⟩, ?_⟩
        exact (HB4.out.setCell (Nat.le_succ _) _).setCell (Nat.le_succ _) _
      · go_wp2_with fail
        have r0 := (HZ.out (.int .i64 x) (.slice a n c)).cell (i := 0) rfl
        have r1 := (HZ.out (.int .i64 x) (.slice a n c)).cell (i := 1) rfl
        refine bodyPost_ret (v := .tuple #[.agg #[.int .i64 x, .slice a n c], .bool true]) (by simp [results, Try.results174, go_sem, r0, r1]) rfl ⟨⟨_, _, _, _, by rw [HQ.out]; rfl⟩, ?_⟩
        exact (HB4.out.setCell (Nat.le_succ _) _).setCell (Nat.le_succ _) _
end Go.Proofs.Ytcpigedjblkcfaa
