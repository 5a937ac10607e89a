/- Bases: walks. -/
import Derived.Test.YtcpigedjblkcfaaDer3
import Derived.Test.YtcpigedjblkcfaaBa
namespace Go.Proofs.Ytcpigedjblkcfaa
open Go.RowKit
set_option linter.unusedSimpArgs false
set_option linter.unusedVariables false

def sH : ByteArray := { data := #[104] }
def sHs : ByteArray := { data := #[104, 115] }
set_option maxRecDepth 100000 in
set_option maxHeartbeats 4000000 in
theorem spec_BasesOf (gr : GroupD) (n : Nat) (w : World) (hg : goodG gr = true) (hn : n ≤ 24) :
    Calls Try.prog 170 #[.agg #[.int .i64 gr.p, .int .i64 gr.q, .int .i64 gr.g], .int .i64 n] w fun e w' => (∃ x a m c, e = .returned (.tuple #[.agg #[.int .i64 x, .slice a m c], .bool (basB gr sH sHs n)])) ∧ Below w.heap.size w w' := by
  have HG := Lib.hid (goodG_ok hg)
  have HGD := Lib.hid hg; clear hg
  obtain ⟨p, q, g⟩ := gr
  obtain ⟨W, hW⟩ : ∃ W, W = w.alloc (.cells #[.int .i64 p, .int .i64 q, .int .i64 g] 30) := ⟨_, rfl⟩
  have hsW : W.heap.size = w.heap.size + 1 := by rw [hW]; simp
  have hgW : w.heap.size < W.heap.size := by omega
  have HWB : Hid (Below w.heap.size w W) := by unfold Hid; rw [hW]; exact (Below.refl _ _).alloc (Nat.le_refl _) _
  have c0 : W.cell? ⟨w.heap.size, 0, none⟩ = some (.int .i64 p) := by rw [hW]; simp [go_sem]
  have c1 : W.cell? ⟨w.heap.size, 1, none⟩ = some (.int .i64 q) := by rw [hW]; simp [go_sem]
  have c2 : W.cell? ⟨w.heap.size, 2, none⟩ = some (.int .i64 g) := by rw [hW]; simp [go_sem]
  obtain ⟨V, hV⟩ : ∃ V, V = W.alloc (.cells #[.int .i64 0, .slice none 0 0] 202) := ⟨_, rfl⟩
  have hsV : V.heap.size = w.heap.size + 1 + 1 := by rw [hV]; simp [hsW]
  have HVB : Hid (Below W.heap.size W V) := by unfold Hid; rw [hV]; exact (Below.refl _ _).alloc (Nat.le_refl _) _
  replace c0 := box_at c0 HVB.out
  replace c1 := box_at c1 HVB.out
  replace c2 := box_at c2 HVB.out
  have HX : Hid (BoxN V (w.heap.size + 1) 202 [.int .i64 0, .slice none 0 0]) := by unfold Hid; rw [hV, ← hsW]; exact BoxN.new W _ _
  have HWV : Hid (Below w.heap.size w V) := Below.next HWB.out HVB.out
  have HIN : Hid (decide (0 ≤ (n : Int) ∧ (n : Int) ≤ 24) = true) := decide_eq_true ⟨by omega, by omega⟩
  go_enter Try.func170, Try.ntmps170
  go_wp2_with fail
  rw [← hW, ← hV]
  clear hW hV
  go_wp2_with fail
  refine (spec_l2Good ⟨p, q, g⟩ _).mono ?_
  rintro e w1 ⟨rfl, hb1⟩
  rw [HGD.out]
  replace c0 := box_at c0 hb1
  replace c1 := box_at c1 hb1
  replace c2 := box_at c2 hb1
  have HX1 : Hid (BoxN w1 (w.heap.size + 1) 202 [.int .i64 0, .slice none 0 0]) := HX.out.below hb1
  have HB1 := Lib.hid (Below.next HWV.out hb1)
  clear hb1 HX
  go_wp2_with fail
  refine (spec_l1In n 0 24 _).mono ?_
  rintro e w2 ⟨rfl, rfl⟩
  rw [HIN.out]
  go_wp2_with fail
  refine (spec_DeriveElement ⟨p, q, g⟩ sH 0 _ HGD.out (by decide) (by decide)).mono ?_
  rintro e w3 ⟨rfl, hb3⟩
  replace c0 := box_at c0 hb3
  replace c1 := box_at c1 hb3
  replace c2 := box_at c2 hb3
  have HX3 : Hid (BoxN w3 (w.heap.size + 1) 202 [.int .i64 0, .slice none 0 0]) := HX1.out.below hb3
  have HB3 := Lib.hid (Below.next HB1.out hb3)
  clear hb3 HX1
  go_wp2_with fail
  refine (spec_DeriveElements ⟨p, q, g⟩ sHs n _ HGD.out (by decide) (by omega)).mono ?_
  rintro e w4 ⟨⟨a, m, c, rfl⟩, hb4⟩
  have HX4 : Hid (BoxN w4 (w.heap.size + 1) 202 [.int .i64 0, .slice none 0 0]) := HX3.out.below hb4
  have HB4 := Lib.hid (Below.next HB3.out hb4)
  clear hb4 HX3 c0 c1 c2
  obtain ⟨q1, hq1⟩ : ∃ b, decide (0 < hD ⟨p, q, g⟩ sH 0) = b := ⟨_, rfl⟩
  obtain ⟨q2, hq2⟩ : ∃ b, hsB ⟨p, q, g⟩ sHs n = b := ⟨_, rfl⟩
  have HQ : Hid (basB ⟨p, q, g⟩ sH sHs n = (q1 && q2)) := by unfold Hid basB; rw [hq1, hq2]
  rw [hq1, hq2]
  clear hq1 hq2
  generalize hD ⟨p, q, g⟩ sH 0 = x
  have x0 : w4.cell? ⟨w.heap.size + 1, 0, none⟩ = some (.int .i64 0) := HX4.out.cell rfl
  have x1 : w4.cell? ⟨w.heap.size + 1, 1, none⟩ = some (.slice none 0 0) := HX4.out.cell rfl
  have f0 : w4.frozen? ⟨w.heap.size + 1, 0, none⟩ = false := HX4.out.frozen 0
  have f1 : w4.frozen? ⟨w.heap.size + 1, 1, none⟩ = false := HX4.out.frozen 1
  have HZ : Hid (∀ u1 u2, BoxN ((w4.setCell ⟨w.heap.size + 1, 0, none⟩ u1).setCell ⟨w.heap.size + 1, 1, none⟩ u2) (w.heap.size + 1) 202 [u1, u2]) := fun u1 u2 => (HX4.out.set 0 u1).set 1 u2
  cases q1 <;> cases q2
  · go_wp2_with fail
    have r0 := (HZ.out (.int .i64 0) (.slice none 0 0)).cell (i := 0) rfl
    have r1 := (HZ.out (.int .i64 0) (.slice none 0 0)).cell (i := 1) rfl
    refine bodyPost_ret (v := .tuple #[.agg #[.int .i64 0, .slice none 0 0], .bool false]) (by simp [results, Try.results170, go_sem, r0, r1]) rfl ⟨⟨_, _, _, _, by rw [HQ.out]; rfl⟩, ?_⟩
    exact (HB4.out.setCell (Nat.le_succ _) _).setCell (Nat.le_succ _) _
  · go_wp2_with fail
    have r0 := (HZ.out (.int .i64 0) (.slice none 0 0)).cell (i := 0) rfl
    have r1 := (HZ.out (.int .i64 0) (.slice none 0 0)).cell (i := 1) rfl
    refine bodyPost_ret (v := .tuple #[.agg #[.int .i64 0, .slice none 0 0], .bool false]) (by simp [results, Try.results170, go_sem, r0, r1]) rfl ⟨⟨_, _, _, _, by rw [HQ.out]; rfl⟩, ?_⟩
    exact (HB4.out.setCell (Nat.le_succ _) _).setCell (Nat.le_succ _) _
  · go_wp2_with fail
    have r0 := (HZ.out (.int .i64 0) (.slice none 0 0)).cell (i := 0) rfl
    have r1 := (HZ.out (.int .i64 0) (.slice none 0 0)).cell (i := 1) rfl
    refine bodyPost_ret (v := .tuple #[.agg #[.int .i64 0, .slice none 0 0], .bool false]) (by simp [results, Try.results170, go_sem, r0, r1]) rfl ⟨⟨_, _, _, _, by rw [HQ.out]; rfl⟩, ?_⟩
    exact (HB4.out.setCell (Nat.le_succ _) _).setCell (Nat.le_succ _) _
  · go_wp2_with fail
    have r0 := (HZ.out (.int .i64 x) (.slice a m c)).cell (i := 0) rfl
    have r1 := (HZ.out (.int .i64 x) (.slice a m c)).cell (i := 1) rfl
    refine bodyPost_ret (v := .tuple #[.agg #[.int .i64 x, .slice a m c], .bool true]) (by simp [results, Try.results170, go_sem, r0, r1]) rfl ⟨⟨_, _, _, _, by rw [HQ.out]; rfl⟩, ?_⟩
    exact (HB4.out.setCell (Nat.le_succ _) _).setCell (Nat.le_succ _) _
end Go.Proofs.Ytcpigedjblkcfaa
