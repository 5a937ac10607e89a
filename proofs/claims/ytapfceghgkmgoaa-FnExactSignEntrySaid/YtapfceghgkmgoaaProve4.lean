/- Walks: ProveKnowledge of the program, signatures of the reference. -/
import Derived.Test.YtapfceghgkmgoaaProve3
namespace Go.Proofs.Ytapfceghgkmgoaa
open Go.RowKit
set_option linter.unusedSimpArgs false
set_option linter.unusedVariables false
theorem alloc4_below {B : Nat} {w : World} {a b c d : Obj} (h : B ≤ w.heap.size) : Below B w ((((w.alloc a).alloc b).alloc c).alloc d) :=
  ((((Below.refl B w).alloc h _).alloc (by simp; omega) _).alloc (by simp; omega) _).alloc (by simp; omega) _
theorem size4 {w : World} {a b c d : Obj} : ((((w.alloc a).alloc b).alloc c).alloc d).heap.size = w.heap.size + 4 := by simp
set_option maxRecDepth 100000 in
set_option maxHeartbeats 4000000 in
theorem impl_ProveKnowledge (gr : GroupD) (s : ByteArray) (b x c : Int) (w : World) (hs : s.size ≤ 1000000) (hb : I64 b) (hx : I64 x) (hc : I64 c) :
    Calls Try.prog 144 #[.agg #[.int .i64 gr.p, .int .i64 gr.q, .int .i64 gr.g], .string s, .int .i64 b, .int .i64 x, .int .i64 c] w fun e w' => ∃ v, e = .returned (.tuple #[v, .bool (plB gr s [[b]] [x] [c])]) ∧ (kS rProof).own w' w.heap.size w'.heap.size v (plD gr s [[b]] [x] [c]) ∧ Below w.heap.size w w' := by
  obtain ⟨p, q, g⟩ := gr
  have JB := Lib.hid hb; have JX := Lib.hid hx; have JC := Lib.hid hc
  clear hb hx hc
  obtain ⟨W, hW⟩ : ∃ W, W = (w.alloc (.cells #[.int .i64 p, .int .i64 q, .int .i64 g] 88)).alloc (.cells #[.slice none 0 0, .slice none 0 0, .slice none 0 0] 47) := ⟨_, rfl⟩
  have HWB : Hid (Below w.heap.size w W) := by unfold Hid; rw [hW]; (repeat (first | exact Below.refl _ _ | assumption | refine Below.drew ?_ | refine Below.alloc ?_ (by first | (simp; done) | (simp; omega)) _ | refine Below.setCell ?_ (by first | (simp; done) | (simp; omega)) _))
  have hsW : W.heap.size = w.heap.size + 2 := by rw [hW]; simp
  have p0 : W.cell? ⟨w.heap.size, 0, none⟩ = some (.int .i64 p) := by rw [hW]; simp [go_sem]
  have p1 : W.cell? ⟨w.heap.size, 1, none⟩ = some (.int .i64 q) := by rw [hW]; simp [go_sem]
  have p2 : W.cell? ⟨w.heap.size, 2, none⟩ = some (.int .i64 g) := by rw [hW]; simp [go_sem]
  have hs1 : (w.alloc (.cells #[.int .i64 p, .int .i64 q, .int .i64 g] 88)).heap.size = w.heap.size + 1 := by simp
  have BR : Hid (BoxN W (w.heap.size + 1) 47 [.slice none 0 0, .slice none 0 0, .slice none 0 0]) := by unfold Hid; rw [hW, ← hs1]; exact BoxN.new _ [.slice none 0 0, .slice none 0 0, .slice none 0 0] _
  have BG : Hid (BoxN W w.heap.size 88 [.int .i64 p, .int .i64 q, .int .i64 g]) := by unfold Hid; rw [hW]; exact (BoxN.new w [.int .i64 p, .int .i64 q, .int .i64 g] _).alloc _
  have FX : Hid (∀ W', Below W.heap.size W W' → W'.cell? ⟨w.heap.size, 0, none⟩ = some (.int .i64 p) ∧ W'.cell? ⟨w.heap.size, 1, none⟩ = some (.int .i64 q) ∧ W'.cell? ⟨w.heap.size, 2, none⟩ = some (.int .i64 g)) := fun W' hb => ⟨box_at p0 hb, box_at p1 hb, box_at p2 hb⟩
  have hcum : Below W.heap.size W W := Below.refl _ _
  clear hs1
  have HW := Lib.hid hW
  clear hW
  go_enter Try.func144, Try.ntmps144
  go_wp2_with fail
  rw [← HW.out]
  refine (impl_ProveLinear ⟨p, q, g⟩ s _ [[b]] _ [x] _ [c] _ hs ?_ ?_ ?_).mono ?_
  · refine kRows.rd_below (kRows.rd_below (rd1 (W.alloc (.cells #[.int .i64 b] 3)) (by simp; omega) ?_) ((Below.refl _ _).alloc (Nat.le_refl _) _)) ((Below.refl _ _).alloc (Nat.le_refl _) _)
    exact (Ints.lit1' W (by omega) JB.out).alloc _
  · exact (Ints.lit1' _ (by simp; omega) JX.out).alloc _
  · exact Ints.lit1' _ (by simp; omega) JC.out
  · rintro e w5 ⟨v5, rfl, ho5, hb5⟩
    obtain ⟨a1, m1, c1, a2, m2, c2, a3, m3, c3, rfl, _, _, _⟩ := rdProof.1 ((kS rProof).own_rd ho5)
    have HO5 := Lib.hid ho5
    have hs5 := hb5.size
    rw [size4] at hs5 HO5
    replace hcum : Below W.heap.size W w5 := (alloc4_below (Nat.le_refl _)).trans (hb5.mono (by simp; omega))
    clear hb5 ho5 p0 p1 p2
    have BU := Lib.hid (BR.out.below hcum)
    have r0 := BU.out.cell (i := 0) rfl
    have r1 := BU.out.cell (i := 1) rfl
    have r2 := BU.out.cell (i := 2) rfl
    have fr := BU.out.frozen
    have hlw := hcum.size
    go_wp2_with fail
    obtain ⟨Z, hZ⟩ : ∃ Z, Z = ((w5.setCell ⟨w.heap.size + 1, 0, none⟩ (.slice a1 m1 c1)).setCell ⟨w.heap.size + 1, 1, none⟩ (.slice a2 m2 c2)).setCell ⟨w.heap.size + 1, 2, none⟩ (.slice a3 m3 c3) := ⟨_, rfl⟩
    rw [← hZ]
    have hwz : Within (w.heap.size + 1) (w.heap.size + 2) w5 Z := by rw [hZ]; exact ((Within.refl _ _ _ |>.setCell (by omega) (by omega) _ _) |>.setCell (by omega) (by omega) _ _) |>.setCell (by omega) (by omega) _ _
    have hZs : Z.heap.size = w5.heap.size := by rw [hZ]; simp only [size_setC]
    have BZ : BoxN Z (w.heap.size + 1) 47 [(.slice a1 m1 c1), (.slice a2 m2 c2), (.slice a3 m3 c3)] := by rw [hZ]; exact ((BU.out.set 0 _).set 1 _).set 2 _
    have HZB := Lib.hid ((Below.next HWB.out hcum).trans (hwz.below (B := w.heap.size) (by omega) (by omega)))
    have HOZ := Lib.hid ((kS rProof).own_mono (Kind.kept (K := kS rProof) HO5.out hwz (.inr (by omega))) (show w.heap.size ≤ _ by omega) (show _ ≤ Z.heap.size by omega))
    clear hZ r0 r1 r2 fr
    have r0 := BZ.cell (i := 0) rfl
    have r1 := BZ.cell (i := 1) rfl
    have r2 := BZ.cell (i := 2) rfl
    refine bodyPost_ret (v := .tuple #[.agg #[.slice a1 m1 c1, .slice a2 m2 c2, .slice a3 m3 c3], .bool (plB ⟨p, q, g⟩ s [[b]] [x] [c])]) (by simp [results, Try.results144, go_sem, r0, r1, r2]) rfl ⟨_, rfl, HOZ.out, HZB.out⟩
theorem prvOk1 {gr : GroupD} (hg : OkG gr) {s : ByteArray} {x c : Int} (hs : s.size ≤ 40) (hx : expB gr x = true) (hc : expB gr c = true) : PrvOk gr s [[gr.g]] [x] [c] := by
  refine ⟨hs, by simp, by simp, by simp [headLen], fun r hr => ?_, by simp [headLen], by simp [headLen], by simp [hx], by simp [hc]⟩
  simp at hr; subst hr
  refine ⟨rfl, fun x hx => ?_⟩
  simp at hx; subst hx
  have := hg.g1; have := hg.g2; have := hg.p2
  exact ⟨by omega, by omega⟩
set_option maxRecDepth 100000 in
set_option maxHeartbeats 4000000 in
theorem spec_oSign (gr : GroupD) (s : ByteArray) (x c : Int) (w : World) (hg : OkG gr) (hs : s.size ≤ 40) (hx : expB gr x = true) (hc : expB gr c = true) :
    Calls Try.prog 141 #[.agg #[.int .i64 gr.p, .int .i64 gr.q, .int .i64 gr.g], .string s, .int .i64 x, .int .i64 c] w fun e w' => ∃ v, e = .returned v ∧ (kS rProof).own w' w.heap.size w'.heap.size v (pvD gr s [[gr.g]] [x] [c]) ∧ Below w.heap.size w w' := by
  have HPO := Lib.hid (prvOk1 hg hs hx hc)
  have JX : Hid (I64 x) := by have := expB_bd hx; have := hg.q2; have := hg.p2; exact ⟨by omega, by omega⟩
  have JC : Hid (I64 c) := by have := expB_bd hc; have := hg.q2; have := hg.p2; exact ⟨by omega, by omega⟩
  have JB : Hid (I64 gr.g) := by have := hg.g1; have := hg.g2; have := hg.p2; exact ⟨by omega, by omega⟩
  have HG := Lib.hid hg
  clear hg hx hc
  obtain ⟨p, q, g⟩ := gr
  obtain ⟨W, hW⟩ : ∃ W, W = (w.alloc (.cells #[.int .i64 p, .int .i64 q, .int .i64 g] 88)).alloc (.cells #[.slice none 0 0, .slice none 0 0, .slice none 0 0] 47) := ⟨_, rfl⟩
  have HWB : Hid (Below w.heap.size w W) := by unfold Hid; rw [hW]; (repeat (first | exact Below.refl _ _ | assumption | refine Below.drew ?_ | refine Below.alloc ?_ (by first | (simp; done) | (simp; omega)) _ | refine Below.setCell ?_ (by first | (simp; done) | (simp; omega)) _))
  have hsW : W.heap.size = w.heap.size + 2 := by rw [hW]; simp
  have p0 : W.cell? ⟨w.heap.size, 0, none⟩ = some (.int .i64 p) := by rw [hW]; simp [go_sem]
  have p1 : W.cell? ⟨w.heap.size, 1, none⟩ = some (.int .i64 q) := by rw [hW]; simp [go_sem]
  have p2 : W.cell? ⟨w.heap.size, 2, none⟩ = some (.int .i64 g) := by rw [hW]; simp [go_sem]
  have hs1 : (w.alloc (.cells #[.int .i64 p, .int .i64 q, .int .i64 g] 88)).heap.size = w.heap.size + 1 := by simp
  have BR : Hid (BoxN W (w.heap.size + 1) 47 [.slice none 0 0, .slice none 0 0, .slice none 0 0]) := by unfold Hid; rw [hW, ← hs1]; exact BoxN.new _ [.slice none 0 0, .slice none 0 0, .slice none 0 0] _
  have BG : Hid (BoxN W w.heap.size 88 [.int .i64 p, .int .i64 q, .int .i64 g]) := by unfold Hid; rw [hW]; exact (BoxN.new w [.int .i64 p, .int .i64 q, .int .i64 g] _).alloc _
  have FX : Hid (∀ W', Below W.heap.size W W' → W'.cell? ⟨w.heap.size, 0, none⟩ = some (.int .i64 p) ∧ W'.cell? ⟨w.heap.size, 1, none⟩ = some (.int .i64 q) ∧ W'.cell? ⟨w.heap.size, 2, none⟩ = some (.int .i64 g)) := fun W' hb => ⟨box_at p0 hb, box_at p1 hb, box_at p2 hb⟩
  have hcum : Below W.heap.size W W := Below.refl _ _
  clear hs1
  have HW := Lib.hid hW
  clear hW
  go_enter Try.func141, Try.ntmps141
  go_wp2_with fail
  rw [← HW.out]
  refine (spec_sProve ⟨p, q, g⟩ s _ [[g]] _ [x] _ [c] _ HG.out ?_ ?_ ?_ HPO.out).mono ?_
  · refine kRows.rd_below (kRows.rd_below (rd1 (W.alloc (.cells #[.int .i64 g] 3)) (by simp; omega) ?_) ((Below.refl _ _).alloc (Nat.le_refl _) _)) ((Below.refl _ _).alloc (Nat.le_refl _) _)
    exact (Ints.lit1' W (by omega) JB.out).alloc _
  · exact (Ints.lit1' _ (by simp; omega) JX.out).alloc _
  · exact Ints.lit1' _ (by simp; omega) JC.out
  · rintro e w5 ⟨v5, rfl, ho5, hb5⟩
    obtain ⟨a1, m1, c1, a2, m2, c2, a3, m3, c3, rfl, _, _, _⟩ := rdProof.1 ((kS rProof).own_rd ho5)
    have HO5 := Lib.hid ho5
    have hs5 := hb5.size
    rw [size4] at hs5 HO5
    replace hcum : Below W.heap.size W w5 := (alloc4_below (Nat.le_refl _)).trans (hb5.mono (by simp; omega))
    clear hb5 ho5 p0 p1 p2
    have BU := Lib.hid (BR.out.below hcum)
    have r0 := BU.out.cell (i := 0) rfl
    have r1 := BU.out.cell (i := 1) rfl
    have r2 := BU.out.cell (i := 2) rfl
    have fr := BU.out.frozen
    have hlw := hcum.size
    go_wp2_with fail
    obtain ⟨Z, hZ⟩ : ∃ Z, Z = ((w5.setCell ⟨w.heap.size + 1, 0, none⟩ (.slice a1 m1 c1)).setCell ⟨w.heap.size + 1, 1, none⟩ (.slice a2 m2 c2)).setCell ⟨w.heap.size + 1, 2, none⟩ (.slice a3 m3 c3) := ⟨_, rfl⟩
    rw [← hZ]
    have hwz : Within (w.heap.size + 1) (w.heap.size + 2) w5 Z := by rw [hZ]; exact ((Within.refl _ _ _ |>.setCell (by omega) (by omega) _ _) |>.setCell (by omega) (by omega) _ _) |>.setCell (by omega) (by omega) _ _
    have hZs : Z.heap.size = w5.heap.size := by rw [hZ]; simp only [size_setC]
    have BZ : BoxN Z (w.heap.size + 1) 47 [(.slice a1 m1 c1), (.slice a2 m2 c2), (.slice a3 m3 c3)] := by rw [hZ]; exact ((BU.out.set 0 _).set 1 _).set 2 _
    have HZB := Lib.hid ((Below.next HWB.out hcum).trans (hwz.below (B := w.heap.size) (by omega) (by omega)))
    have HOZ := Lib.hid ((kS rProof).own_mono (Kind.kept (K := kS rProof) HO5.out hwz (.inr (by omega))) (show w.heap.size ≤ _ by omega) (show _ ≤ Z.heap.size by omega))
    clear hZ r0 r1 r2 fr
    have r0 := BZ.cell (i := 0) rfl
    have r1 := BZ.cell (i := 1) rfl
    have r2 := BZ.cell (i := 2) rfl
    refine bodyPost_ret (v := .agg #[.slice a1 m1 c1, .slice a2 m2 c2, .slice a3 m3 c3]) (by simp [results, Try.results141, go_sem, r0, r1, r2]) rfl ⟨_, rfl, HOZ.out, HZB.out⟩
end Go.Proofs.Ytapfceghgkmgoaa
