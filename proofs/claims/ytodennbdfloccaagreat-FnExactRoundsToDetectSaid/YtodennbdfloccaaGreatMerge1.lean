/- Walks: copies of proofs and heads, equality of them. -/
import Derived.Test.YtodennbdfloccaaGreatKHeadS
import Derived.Test.YtodennbdfloccaaGreatBa
import Derived.Test.YtodennbdfloccaaGreatHeads
namespace Go.Proofs.YtodennbdfloccaaGreat
open Go.RowKit
set_option linter.unusedSimpArgs false
set_option linter.unusedVariables false

theorem sc_far {w : World} {p a : Addr} {v : Value} (h : p.block ≠ a.block) : (w.setCell p v).cell? a = w.cell? a := World.cell?_setCell_other w p a v (fun e => h (by rw [e]))
set_option maxHeartbeats 4000000 in
theorem impl_copyProof (v : Value) (d : ProofD) (w : World) (hl : (szProof d : Int) ≤ 1000000000) (h : (kS rProof).rd w v d) :
    Calls Tryz.prog 129 #[v] w fun e w' => ∃ v', e = .returned v' ∧ (kS rProof).own w' w.heap.size w'.heap.size v' d ∧ Below w.heap.size w w' := by
  unfold szProof at hl
  have L0 : Hid (d.c.length ≤ 1000000000) := by unfold Hid; omega
  have L1 : Hid (d.h.length ≤ 1000000000) := by unfold Hid; omega
  have L2 : Hid (d.r.length ≤ 1000000000) := by unfold Hid; omega
  clear hl
  obtain ⟨a0, n0, c0, a1, n1, c1, a2, n2, c2, rfl, h0, h1, h2⟩ := rdProof.1 h
  clear h
  obtain ⟨W, hW⟩ : ∃ W, W = (w.alloc (.cells #[.slice a0 n0 c0, .slice a1 n1 c1, .slice a2 n2 c2] 42)).alloc (.cells #[.slice none 0 0, .slice none 0 0, .slice none 0 0] 42) := ⟨_, rfl⟩
  have HWB : Hid (Below w.heap.size w W) := by unfold Hid; rw [hW]; (repeat (first | exact Below.refl _ _ | assumption | refine Below.drew ?_ | refine Below.alloc ?_ (by first | (simp; done) | (simp; omega)) _ | refine Below.setCell ?_ (by first | (simp; done) | (simp; omega)) _))
  have hs0 : W.heap.size = w.heap.size + 2 := by rw [hW]; simp
  have p0 : W.cell? ⟨w.heap.size, 0, none⟩ = some (.slice a0 n0 c0) := by rw [hW]; simp [go_sem]
  have p1 : W.cell? ⟨w.heap.size, 1, none⟩ = some (.slice a1 n1 c1) := by rw [hW]; simp [go_sem]
  have p2 : W.cell? ⟨w.heap.size, 2, none⟩ = some (.slice a2 n2 c2) := by rw [hW]; simp [go_sem]
  have hs1 : (w.alloc (.cells #[.slice a0 n0 c0, .slice a1 n1 c1, .slice a2 n2 c2] 42)).heap.size = w.heap.size + 1 := by simp
  have BR : Hid (BoxN W (w.heap.size + 1) 42 [.slice none 0 0, .slice none 0 0, .slice none 0 0]) := by unfold Hid; rw [hW, ← hs1]; exact BoxN.new _ [.slice none 0 0, .slice none 0 0, .slice none 0 0] _
  have H0 := Lib.hid (sInts.rd_below h0 HWB.out)
  have H1 := Lib.hid (sInts.rd_below h1 HWB.out)
  have H2 := Lib.hid (sInts.rd_below h2 HWB.out)
  have HW := Lib.hid hW
  clear h0 h1 h2 hs1
  go_enter Tryz.func129, Tryz.ntmps129
  go_wp2_with fail
  rw [← hW]
  clear hW
  go_region_held3 (fun w' => (Below W.heap.size W w' ∨ Within (w.heap.size + 1) (w.heap.size + 2) W w') ∧ w'.cell? ⟨w.heap.size, 0, none⟩ = some (.slice a0 n0 c0) ∧ w'.cell? ⟨w.heap.size, 1, none⟩ = some (.slice a1 n1 c1) ∧ w'.cell? ⟨w.heap.size, 2, none⟩ = some (.slice a2 n2 c2)) (first
    | (have hbq : Below W.heap.size W _ := (Below.refl _ _).drew; exact ⟨.inl hbq, box_at p0 hbq, box_at p1 hbq, box_at p2 hbq⟩)
    | (have hbq := hbz; exact ⟨.inl hbq, box_at p0 hbq, box_at p1 hbq, box_at p2 hbq⟩)
    | (refine ⟨.inr (((Within.of_below hbz).setCell (by simp) (by simp) _ _ |>.setCell (by simp) (by simp) _ _) |>.setCell (by simp) (by simp) _ _), ?_, ?_, ?_⟩ <;> (rw [sc_far (by simp), sc_far (by simp), sc_far (by simp)]; first | exact box_at p0 hbz | exact box_at p1 hbz | exact box_at p2 hbz))
    | fail) ((first
    | (go_at_call_of 156 (Value.slice a0 n0 c0); refine (slices_Clone _ d.c _ (sInts.rd_below H0.out (Below.refl _ _).drew) L0.out).mono ?_; rintro e w1 ⟨v1, rfl, X, hb⟩; (obtain ⟨x0, y0, z0, hv⟩ := OwnI.ints X |>.shape); subst hv; (have O1 := Lib.hid (InI.of_own X)); clear X; (have us1 : W.heap.size ≤ w1.heap.size := hb.size); (have hbz := keep_b hb (Below.refl _ _).drew); (have r0 := (BR.out.below hbz).cell (i := 0) rfl); (have r1 := (BR.out.below hbz).cell (i := 1) rfl); (have r2 := (BR.out.below hbz).cell (i := 2) rfl); (have fr := (BR.out.below hbz).frozen))
    | (go_at_call_of 156 (Value.slice a1 n1 c1); refine (slices_Clone _ d.h _ (sInts.rd_below H1.out hbz) L1.out).mono ?_; rintro e w2 ⟨v2, rfl, X, hb⟩; (obtain ⟨x1, y1, z1, hv⟩ := OwnI.ints X |>.shape); subst hv; (have O2 := Lib.hid (InI.of_own X)); (have O1b := Lib.hid (Kind.next (K := kInts) O1.out hb)); clear X; (have us2 := hb.size); (have hbz := hbz.trans (hb.mono hbz.size)); (have r0 := (BR.out.below hbz).cell (i := 0) rfl); (have r1 := (BR.out.below hbz).cell (i := 1) rfl); (have r2 := (BR.out.below hbz).cell (i := 2) rfl); (have fr := (BR.out.below hbz).frozen))
    | (go_at_call_of 156 (Value.slice a2 n2 c2); refine (slices_Clone _ d.r _ (sInts.rd_below H2.out hbz) L2.out).mono ?_; rintro e w3 ⟨v3, rfl, X, hb⟩; (obtain ⟨x2, y2, z2, hv⟩ := OwnI.ints X |>.shape); subst hv; (have O3 := Lib.hid (InI.of_own X)); (have O1c := Lib.hid (Kind.next (K := kInts) O1b.out hb)); (have O2b := Lib.hid (Kind.next (K := kInts) O2.out hb)); clear X; (have us3 := hb.size); (have hbz := hbz.trans (hb.mono hbz.size)); (have r0 := (BR.out.below hbz).cell (i := 0) rfl); (have r1 := (BR.out.below hbz).cell (i := 1) rfl); (have r2 := (BR.out.below hbz).cell (i := 2) rfl); (have fr := (BR.out.below hbz).frozen))
    | fail))
  obtain ⟨V, hV⟩ : ∃ V, V = ((w3.setCell ⟨w.heap.size + 1, 0, none⟩ (.slice x0 y0 z0)).setCell ⟨w.heap.size + 1, 1, none⟩ (.slice x1 y1 z1)).setCell ⟨w.heap.size + 1, 2, none⟩ (.slice x2 y2 z2) := ⟨_, rfl⟩
  rw [← hV]
  have hwi : Within (w.heap.size + 1) (w.heap.size + 2) w3 V := by rw [hV]; exact ((Within.refl _ _ _ |>.setCell (by omega) (by omega) _ _) |>.setCell (by omega) (by omega) _ _) |>.setCell (by omega) (by omega) _ _
  have hVs : V.heap.size = w3.heap.size := by rw [hV]; simp only [size_setC]
  have BV : BoxN V (w.heap.size + 1) 42 [.slice x0 y0 z0, .slice x1 y1 z1, .slice x2 y2 z2] := by rw [hV]; exact (((BR.out.below hbz).set 0 _).set 1 _).set 2 _
  have P1 := Lib.hid (Kind.kept (K := kInts) O1c.out hwi (.inr (show _ ≤ W.heap.size by omega)))
  have P2 := Lib.hid (Kind.kept (K := kInts) O2b.out hwi (.inr (by omega)))
  have P3 := Lib.hid (Kind.kept (K := kInts) O3.out hwi (.inr (by omega)))
  have HV := Lib.hid (HWB.out.trans (hbz.mono HWB.out.size) |>.trans (hwi.below (by omega) (by omega)))
  clear hV r0 r1 r2 fr hb hbz hwi
  have r0 := BV.cell (i := 0) rfl
  have r1 := BV.cell (i := 1) rfl
  have r2 := BV.cell (i := 2) rfl
  go_wp2_with fail
  refine bodyPost_ret (v := .agg #[.slice x0 y0 z0, .slice x1 y1 z1, .slice x2 y2 z2]) (by simp [results, Tryz.results129, go_sem, r0, r1, r2]) rfl ⟨_, rfl, ⟨_, rfl, ⟨_, _, W.heap.size, w1.heap.size, w1.heap.size, V.heap.size, rfl, P1.out, ⟨_, _, w1.heap.size, w2.heap.size, w2.heap.size, V.heap.size, rfl, P2.out, ⟨_, _, w2.heap.size, w3.heap.size, V.heap.size, V.heap.size, rfl, P3.out, rfl, ⟨by omega, by omega⟩, ⟨by omega, by omega⟩, by omega⟩, ⟨by omega, by omega⟩, ⟨by omega, by omega⟩, by omega⟩, ⟨by omega, by omega⟩, ⟨by omega, by omega⟩, by omega⟩⟩, HV.out⟩
set_option maxHeartbeats 4000000 in
theorem spec_oOwnProof (v : Value) (d : ProofD) (w : World) (hl : (szProof d : Int) ≤ 1000000000) (h : (kS rProof).rd w v d) :
    Calls Tryz.prog 125 #[v] w fun e w' => ∃ v', e = .returned v' ∧ (kS rProof).own w' w.heap.size w'.heap.size v' d ∧ Below w.heap.size w w' := by
  unfold szProof at hl
  have L0 : Hid (d.c.length ≤ 1000000000) := by unfold Hid; omega
  have L1 : Hid (d.h.length ≤ 1000000000) := by unfold Hid; omega
  have L2 : Hid (d.r.length ≤ 1000000000) := by unfold Hid; omega
  clear hl
  obtain ⟨a0, n0, c0, a1, n1, c1, a2, n2, c2, rfl, h0, h1, h2⟩ := rdProof.1 h
  clear h
  obtain ⟨W, hW⟩ : ∃ W, W = (w.alloc (.cells #[.slice a0 n0 c0, .slice a1 n1 c1, .slice a2 n2 c2] 42)).alloc (.cells #[.slice none 0 0, .slice none 0 0, .slice none 0 0] 42) := ⟨_, rfl⟩
  have HWB : Hid (Below w.heap.size w W) := by unfold Hid; rw [hW]; (repeat (first | exact Below.refl _ _ | assumption | refine Below.drew ?_ | refine Below.alloc ?_ (by first | (simp; done) | (simp; omega)) _ | refine Below.setCell ?_ (by first | (simp; done) | (simp; omega)) _))
  have hs0 : W.heap.size = w.heap.size + 2 := by rw [hW]; simp
  have p0 : W.cell? ⟨w.heap.size, 0, none⟩ = some (.slice a0 n0 c0) := by rw [hW]; simp [go_sem]
  have p1 : W.cell? ⟨w.heap.size, 1, none⟩ = some (.slice a1 n1 c1) := by rw [hW]; simp [go_sem]
  have p2 : W.cell? ⟨w.heap.size, 2, none⟩ = some (.slice a2 n2 c2) := by rw [hW]; simp [go_sem]
  have hs1 : (w.alloc (.cells #[.slice a0 n0 c0, .slice a1 n1 c1, .slice a2 n2 c2] 42)).heap.size = w.heap.size + 1 := by simp
  have BR : Hid (BoxN W (w.heap.size + 1) 42 [.slice none 0 0, .slice none 0 0, .slice none 0 0]) := by unfold Hid; rw [hW, ← hs1]; exact BoxN.new _ [.slice none 0 0, .slice none 0 0, .slice none 0 0] _
  have H0 := Lib.hid (sInts.rd_below h0 HWB.out)
  have H1 := Lib.hid (sInts.rd_below h1 HWB.out)
  have H2 := Lib.hid (sInts.rd_below h2 HWB.out)
  have HW := Lib.hid hW
  clear h0 h1 h2 hs1
  go_enter Tryz.func125, Tryz.ntmps125
  go_wp2_with fail
  rw [← hW]
  clear hW
  go_region_held3 (fun w' => (Below W.heap.size W w' ∨ Within (w.heap.size + 1) (w.heap.size + 2) W w') ∧ w'.cell? ⟨w.heap.size, 0, none⟩ = some (.slice a0 n0 c0) ∧ w'.cell? ⟨w.heap.size, 1, none⟩ = some (.slice a1 n1 c1) ∧ w'.cell? ⟨w.heap.size, 2, none⟩ = some (.slice a2 n2 c2)) (first
    | (have hbq : Below W.heap.size W _ := (Below.refl _ _).drew; exact ⟨.inl hbq, box_at p0 hbq, box_at p1 hbq, box_at p2 hbq⟩)
    | (have hbq := hbz; exact ⟨.inl hbq, box_at p0 hbq, box_at p1 hbq, box_at p2 hbq⟩)
    | (refine ⟨.inr (((Within.of_below hbz).setCell (by simp) (by simp) _ _ |>.setCell (by simp) (by simp) _ _) |>.setCell (by simp) (by simp) _ _), ?_, ?_, ?_⟩ <;> (rw [sc_far (by simp), sc_far (by simp), sc_far (by simp)]; first | exact box_at p0 hbz | exact box_at p1 hbz | exact box_at p2 hbz))
    | fail) ((first
    | (go_at_call_of 153 (Value.slice a0 n0 c0); refine (spec_l1Own _ d.c _ (sInts.rd_below H0.out (Below.refl _ _).drew) L0.out).mono ?_; rintro e w1 ⟨v1, rfl, X, hb⟩; (obtain ⟨x0, y0, z0, hv⟩ := OwnI.ints X |>.shape); subst hv; (have O1 := Lib.hid (InI.of_own X)); clear X; (have us1 : W.heap.size ≤ w1.heap.size := hb.size); (have hbz := keep_b hb (Below.refl _ _).drew); (have r0 := (BR.out.below hbz).cell (i := 0) rfl); (have r1 := (BR.out.below hbz).cell (i := 1) rfl); (have r2 := (BR.out.below hbz).cell (i := 2) rfl); (have fr := (BR.out.below hbz).frozen))
    | (go_at_call_of 153 (Value.slice a1 n1 c1); refine (spec_l1Own _ d.h _ (sInts.rd_below H1.out hbz) L1.out).mono ?_; rintro e w2 ⟨v2, rfl, X, hb⟩; (obtain ⟨x1, y1, z1, hv⟩ := OwnI.ints X |>.shape); subst hv; (have O2 := Lib.hid (InI.of_own X)); (have O1b := Lib.hid (Kind.next (K := kInts) O1.out hb)); clear X; (have us2 := hb.size); (have hbz := hbz.trans (hb.mono hbz.size)); (have r0 := (BR.out.below hbz).cell (i := 0) rfl); (have r1 := (BR.out.below hbz).cell (i := 1) rfl); (have r2 := (BR.out.below hbz).cell (i := 2) rfl); (have fr := (BR.out.below hbz).frozen))
    | (go_at_call_of 153 (Value.slice a2 n2 c2); refine (spec_l1Own _ d.r _ (sInts.rd_below H2.out hbz) L2.out).mono ?_; rintro e w3 ⟨v3, rfl, X, hb⟩; (obtain ⟨x2, y2, z2, hv⟩ := OwnI.ints X |>.shape); subst hv; (have O3 := Lib.hid (InI.of_own X)); (have O1c := Lib.hid (Kind.next (K := kInts) O1b.out hb)); (have O2b := Lib.hid (Kind.next (K := kInts) O2.out hb)); clear X; (have us3 := hb.size); (have hbz := hbz.trans (hb.mono hbz.size)); (have r0 := (BR.out.below hbz).cell (i := 0) rfl); (have r1 := (BR.out.below hbz).cell (i := 1) rfl); (have r2 := (BR.out.below hbz).cell (i := 2) rfl); (have fr := (BR.out.below hbz).frozen))
    | fail))
  obtain ⟨V, hV⟩ : ∃ V, V = ((w3.setCell ⟨w.heap.size + 1, 0, none⟩ (.slice x0 y0 z0)).setCell ⟨w.heap.size + 1, 1, none⟩ (.slice x1 y1 z1)).setCell ⟨w.heap.size + 1, 2, none⟩ (.slice x2 y2 z2) := ⟨_, rfl⟩
  rw [← hV]
  have hwi : Within (w.heap.size + 1) (w.heap.size + 2) w3 V := by rw [hV]; exact ((Within.refl _ _ _ |>.setCell (by omega) (by omega) _ _) |>.setCell (by omega) (by omega) _ _) |>.setCell (by omega) (by omega) _ _
  have hVs : V.heap.size = w3.heap.size := by rw [hV]; simp only [size_setC]
  have BV : BoxN V (w.heap.size + 1) 42 [.slice x0 y0 z0, .slice x1 y1 z1, .slice x2 y2 z2] := by rw [hV]; exact (((BR.out.below hbz).set 0 _).set 1 _).set 2 _
  have P1 := Lib.hid (Kind.kept (K := kInts) O1c.out hwi (.inr (show _ ≤ W.heap.size by omega)))
  have P2 := Lib.hid (Kind.kept (K := kInts) O2b.out hwi (.inr (by omega)))
  have P3 := Lib.hid (Kind.kept (K := kInts) O3.out hwi (.inr (by omega)))
  have HV := Lib.hid (HWB.out.trans (hbz.mono HWB.out.size) |>.trans (hwi.below (by omega) (by omega)))
  clear hV r0 r1 r2 fr hb hbz hwi
  have r0 := BV.cell (i := 0) rfl
  have r1 := BV.cell (i := 1) rfl
  have r2 := BV.cell (i := 2) rfl
  go_wp2_with fail
  refine bodyPost_ret (v := .agg #[.slice x0 y0 z0, .slice x1 y1 z1, .slice x2 y2 z2]) (by simp [results, Tryz.results125, go_sem, r0, r1, r2]) rfl ⟨_, rfl, ⟨_, rfl, ⟨_, _, W.heap.size, w1.heap.size, w1.heap.size, V.heap.size, rfl, P1.out, ⟨_, _, w1.heap.size, w2.heap.size, w2.heap.size, V.heap.size, rfl, P2.out, ⟨_, _, w2.heap.size, w3.heap.size, V.heap.size, V.heap.size, rfl, P3.out, rfl, ⟨by omega, by omega⟩, ⟨by omega, by omega⟩, by omega⟩, ⟨by omega, by omega⟩, ⟨by omega, by omega⟩, by omega⟩, ⟨by omega, by omega⟩, ⟨by omega, by omega⟩, by omega⟩⟩, HV.out⟩
end Go.Proofs.YtodennbdfloccaaGreat
