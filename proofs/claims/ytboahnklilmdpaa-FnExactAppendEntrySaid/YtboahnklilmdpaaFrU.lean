/- Walks: proofs in new memory. -/
import Derived.Test.YtboahnklilmdpaaRegTU
import Derived.Test.YtboahnklilmdpaaSign3U
import Derived.Test.YtboahnklilmdpaaBaU
namespace Go.Proofs.Ytboahnklilmdpaa
open Go.RowKit
set_option linter.unusedSimpArgs false
set_option linter.unusedVariables false

theorem own_proof3 {w1 w2 w3 : World} {B C D : Nat} {v1 v2 v3 : Value} {d : ProofD} (h1 : OwnI w1 B v1 d.c) (b12 : Below w1.heap.size w1 w2) (h2 : OwnI w2 C v2 d.h) (b23 : Below w2.heap.size w2 w3) (h3 : OwnI w3 D v3 d.r)
    (hC : w1.heap.size ≤ C) (hD : w2.heap.size ≤ D) (hB : B ≤ w1.heap.size) : (kS rProof).own w3 B w3.heap.size (.agg #[v1, v2, v3]) d := by
  have s12 := b12.size
  have s23 := b23.size
  have o1 := ((InI.of_own h1).next b12).next b23
  have o2 := (InI.of_own (h2.mono (B' := w1.heap.size) hC)).next b23
  have o3 := InI.of_own (h3.mono (B' := w2.heap.size) hD)
  exact ⟨[v1, v2, v3], rfl, v1, [v2, v3], B, w1.heap.size, w1.heap.size, w3.heap.size, rfl, o1, ⟨v2, [v3], w1.heap.size, w2.heap.size, w2.heap.size, w3.heap.size, rfl, o2, ⟨v3, [], w2.heap.size, w3.heap.size, w3.heap.size, w3.heap.size, rfl, o3, rfl, ⟨Nat.le_refl _, Nat.le_refl _⟩, ⟨s23, Nat.le_refl _⟩, .inl (Nat.le_refl _)⟩, ⟨Nat.le_refl _, s23⟩, ⟨s12, Nat.le_refl _⟩, .inl (Nat.le_refl _)⟩, ⟨Nat.le_refl _, Nat.le_trans s12 s23⟩, ⟨hB, Nat.le_refl _⟩, .inl (Nat.le_refl _)⟩
set_option maxRecDepth 100000 in
set_option maxHeartbeats 2000000 in
theorem impl_copyProof (v : Value) (d : ProofD) (w : World) (hz : szProof d ≤ 1000000000) (h : (kS rProof).rd w v d) :
    Calls Try.prog 253 #[v] w fun e w' => ∃ v', e = .returned v' ∧ (kS rProof).own w' w.heap.size w'.heap.size v' d ∧ Below w.heap.size w w' := by
    have hl : d.c.length ≤ 1000000000 ∧ d.h.length ≤ 1000000000 ∧ d.r.length ≤ 1000000000 := by unfold szProof at hz; omega
    obtain ⟨l0, l1, l2⟩ := hl
    clear hz
    obtain ⟨a0, n0, c0, a1, n1, c1, a2, n2, c2, rfl, k0, k1, k2⟩ := rdProof.1 h
    clear h
    obtain ⟨W, hW⟩ : ∃ W, W = (w.alloc (.cells #[.slice a0 n0 c0, .slice a1 n1 c1, .slice a2 n2 c2] 42)).alloc (.cells #[.slice none 0 0, .slice none 0 0, .slice none 0 0] 42) := ⟨_, rfl⟩
    have HB : Hid (Below w.heap.size w W) := by unfold Hid; rw [hW]; (repeat (first | exact Below.refl _ _ | assumption | refine Below.drew ?_ | refine Below.alloc ?_ (by first | (simp; done) | (simp; omega)) _ | refine Below.setCell ?_ (by first | (simp; done) | (simp; omega)) _))
    have H0 : Hid (Ints W (.slice a0 n0 c0) d.c) := Ints.below k0 HB.out
    have H1 : Hid (Ints W (.slice a1 n1 c1) d.h) := Ints.below k1 HB.out
    have H2 : Hid (Ints W (.slice a2 n2 c2) d.r) := Ints.below k2 HB.out
    clear k0 k1 k2
    have x0 : W.cell? ⟨w.heap.size, 0, none⟩ = some (.slice a0 n0 c0) := by rw [hW]; simp [go_sem]
    have x1 : W.cell? ⟨w.heap.size, 1, none⟩ = some (.slice a1 n1 c1) := by rw [hW]; simp [go_sem]
    have x2 : W.cell? ⟨w.heap.size, 2, none⟩ = some (.slice a2 n2 c2) := by rw [hW]; simp [go_sem]
    have HR : Hid (BoxN W (w.heap.size + 1) 42 [.slice none 0 0, .slice none 0 0, .slice none 0 0]) := by unfold Hid; rw [hW]; have h := BoxN.new (w.alloc (.cells #[.slice a0 n0 c0, .slice a1 n1 c1, .slice a2 n2 c2] 42)) [.slice none 0 0, .slice none 0 0, .slice none 0 0] 42; simpa using h
    have hlr : w.heap.size + 1 < W.heap.size := HR.out.lt
    go_enter Try.func253, Try.ntmps253
    go_wp2_with fail
    rw [← hW]
    clear hW
    try (go_wp2_with fail)
    refine wp_region_noPanic ?_
    refine wp_region_V (fun w' => Below W.heap.size W w' ∧ w'.cell? ⟨w.heap.size, 0, none⟩ = some (.slice a0 n0 c0) ∧ w'.cell? ⟨w.heap.size, 1, none⟩ = some (.slice a1 n1 c1) ∧ w'.cell? ⟨w.heap.size, 2, none⟩ = some (.slice a2 n2 c2)) 13 10 (.rd 0 (.rd 1 (.rd 3 (.rd 4 (.rd 6 (.rd 7 (.alt 2 (.alt 5 (.alt 8 (.rd 9 .done) .nil) .nil) .nil))))))) [10] (by kernel_rfl) (by kernel_rfl) rfl (fun _ _ _ _ _ h => h) ⟨(Below.refl _ _).drew, x0, x1, x2⟩ ?_
    simp only [pickV, pickN, List.getElem?_cons_zero, List.getElem?_cons_succ]
    have hb0 : Below W.heap.size W W.drew := (Below.refl _ _).drew
    repeat (refine' wpV_read _ (by kernel_rfl) (fun w' hS' => ?_) ?_; rotate_left; · ((try dsimp only at hS'); go_simp; (try with_reducible rfl)); (try simp only [Act.put, List.setIfInBounds_toArray, List.set_cons_zero, List.set_cons_succ]))
    refine wpV_do (by kernel_rfl) (fun K hK => ?_)
    go_simp
    go_at_call 251
    refine (slices_Clone _ d.c _ (Ints.below H0.out hb0) (by omega)).mono ?_
    rintro e u1 ⟨v1, rfl, ho1, hq1⟩
    have hb1 := keep_b hq1 hb0
    obtain ⟨ax1, cx1, rfl⟩ := ho1.shape
    have HO1 := Lib.hid ho1; clear ho1
    have hs1 := hq1.size
    have HQ1 := Lib.hid hq1; clear hq1
    refine hK.out _ _ ⟨hb1, box_at x0 hb1, box_at x1 hb1, box_at x2 hb1⟩ (fun _ => ?_)
    clear hK K
    try simp only [Act.put, List.setIfInBounds_toArray, List.set_cons_zero, List.set_cons_succ]
    repeat (refine' wpV_read _ (by kernel_rfl) (fun w' hS' => ?_) ?_; rotate_left; · ((try dsimp only at hS'); go_simp; (try with_reducible rfl)); (try simp only [Act.put, List.setIfInBounds_toArray, List.set_cons_zero, List.set_cons_succ]))
    refine wpV_do (by kernel_rfl) (fun K hK => ?_)
    go_simp
    go_at_call 251
    refine (slices_Clone _ d.h _ (Ints.below H1.out hb1) (by omega)).mono ?_
    rintro e u2 ⟨v2, rfl, ho2, hq2⟩
    have hb2 := keep_b hq2 hb1
    obtain ⟨ax2, cx2, rfl⟩ := ho2.shape
    have HO2 := Lib.hid ho2; clear ho2
    have hs2 := hq2.size
    have HQ2 := Lib.hid hq2; clear hq2
    refine hK.out _ _ ⟨hb2, box_at x0 hb2, box_at x1 hb2, box_at x2 hb2⟩ (fun _ => ?_)
    clear hK K
    try simp only [Act.put, List.setIfInBounds_toArray, List.set_cons_zero, List.set_cons_succ]
    repeat (refine' wpV_read _ (by kernel_rfl) (fun w' hS' => ?_) ?_; rotate_left; · ((try dsimp only at hS'); go_simp; (try with_reducible rfl)); (try simp only [Act.put, List.setIfInBounds_toArray, List.set_cons_zero, List.set_cons_succ]))
    refine wpV_do (by kernel_rfl) (fun K hK => ?_)
    go_simp
    go_at_call 251
    refine (slices_Clone _ d.r _ (Ints.below H2.out hb2) (by omega)).mono ?_
    rintro e u3 ⟨v3, rfl, ho3, hq3⟩
    have hb3 := keep_b hq3 hb2
    obtain ⟨ax3, cx3, rfl⟩ := ho3.shape
    have HO3 := Lib.hid ho3; clear ho3
    have hs3 := hq3.size
    have HQ3 := Lib.hid hq3; clear hq3
    refine hK.out _ _ ⟨hb3, box_at x0 hb3, box_at x1 hb3, box_at x2 hb3⟩ (fun _ => ?_)
    clear hK K
    try simp only [Act.put, List.setIfInBounds_toArray, List.set_cons_zero, List.set_cons_succ]
    repeat (refine' wpV_read _ (by kernel_rfl) (fun w' hS' => ?_) ?_; rotate_left; · ((try dsimp only at hS'); go_simp; (try with_reducible rfl)); (try simp only [Act.put, List.setIfInBounds_toArray, List.set_cons_zero, List.set_cons_succ]))
    refine wpV_done ?_
    have HOP := Lib.hid (own_proof3 (d := d) HO1.out HQ2.out HO2.out HQ3.out HO3.out (Nat.le_refl _) (Nat.le_refl _) hs1)
    have HRE := Lib.hid (HR.out.below hb3)
    have HBE := Lib.hid (HB.out.trans (hb3.mono HB.out.size))
    have hs13 : W.heap.size ≤ u3.heap.size := hb3.size
    have hW0 := HB.out.size
    have hWd : W.drew.heap.size = W.heap.size := by simp
    clear hb0 hb1 hb2 hb3 HQ2 HQ3 HO1 HO2 HO3
    have r0 := HRE.out.cell (i := 0) rfl
    have r1 := HRE.out.cell (i := 1) rfl
    have r2 := HRE.out.cell (i := 2) rfl
    have fr := fun j => HRE.out.frozen j
    go_wp2_with fail
    refine NoPanic.normal ?_
    have HRF := Lib.hid (((HRE.out.set 0 (.slice ax1 d.c.length cx1)).set 1 (.slice ax2 d.h.length cx2)).set 2 (.slice ax3 d.r.length cx3))
    obtain ⟨Z, hZ⟩ : ∃ Z, Z = ((u3.setCell ⟨w.heap.size + 1, 0, none⟩ (.slice ax1 d.c.length cx1)).setCell ⟨w.heap.size + 1, 1, none⟩ (.slice ax2 d.h.length cx2)).setCell ⟨w.heap.size + 1, 2, none⟩ (.slice ax3 d.r.length cx3) := ⟨_, rfl⟩
    have hZs : Z.heap.size = u3.heap.size := by rw [hZ]; simp [World.setCell]
    have HBF : Hid (Below w.heap.size w Z) := by unfold Hid; rw [hZ]; exact ((HBE.out.setCell (by show w.heap.size ≤ w.heap.size + 1; omega) _).setCell (by show w.heap.size ≤ w.heap.size + 1; omega) _).setCell (by show w.heap.size ≤ w.heap.size + 1; omega) _
    have HOF : Hid ((kS rProof).own Z w.heap.size Z.heap.size (.agg #[.slice ax1 d.c.length cx1, .slice ax2 d.h.length cx2, .slice ax3 d.r.length cx3]) d) := by
      unfold Hid
      rw [hZs]
      refine (kS rProof).own_mono ((kS rProof).own_frame HOP.out (fun k h1 h2 h3 => ?_)) (by rw [hWd]; omega) (Nat.le_refl _)
      rw [hZ, heap_setCell_other _ _ k _ (fun e => by simp at e; omega), heap_setCell_other _ _ k _ (fun e => by simp at e; omega), heap_setCell_other _ _ k _ (fun e => by simp at e; omega)]
    rw [← hZ] at HRF ⊢
    clear r0 r1 r2 fr hZ
    have r0 := HRF.out.cell (i := 0) rfl
    have r1 := HRF.out.cell (i := 1) rfl
    have r2 := HRF.out.cell (i := 2) rfl
    go_wp2_with fail
    refine bodyPost_ret (v := .agg #[.slice ax1 d.c.length cx1, .slice ax2 d.h.length cx2, .slice ax3 d.r.length cx3]) (by simp [results, Try.results253, go_sem, r0, r1, r2]) rfl ⟨_, rfl, HOF.out, HBF.out⟩
set_option maxRecDepth 100000 in
set_option maxHeartbeats 2000000 in
theorem spec_oOwnProof (v : Value) (d : ProofD) (w : World) (hz : szProof d ≤ 1000000000) (h : (kS rProof).rd w v d) :
    Calls Try.prog 249 #[v] w fun e w' => ∃ v', e = .returned v' ∧ (kS rProof).own w' w.heap.size w'.heap.size v' d ∧ Below w.heap.size w w' := by
    have hl : d.c.length ≤ 1000000000 ∧ d.h.length ≤ 1000000000 ∧ d.r.length ≤ 1000000000 := by unfold szProof at hz; omega
    obtain ⟨l0, l1, l2⟩ := hl
    clear hz
    obtain ⟨a0, n0, c0, a1, n1, c1, a2, n2, c2, rfl, k0, k1, k2⟩ := rdProof.1 h
    clear h
    obtain ⟨W, hW⟩ : ∃ W, W = (w.alloc (.cells #[.slice a0 n0 c0, .slice a1 n1 c1, .slice a2 n2 c2] 42)).alloc (.cells #[.slice none 0 0, .slice none 0 0, .slice none 0 0] 42) := ⟨_, rfl⟩
    have HB : Hid (Below w.heap.size w W) := by unfold Hid; rw [hW]; (repeat (first | exact Below.refl _ _ | assumption | refine Below.drew ?_ | refine Below.alloc ?_ (by first | (simp; done) | (simp; omega)) _ | refine Below.setCell ?_ (by first | (simp; done) | (simp; omega)) _))
    have H0 : Hid (Ints W (.slice a0 n0 c0) d.c) := Ints.below k0 HB.out
    have H1 : Hid (Ints W (.slice a1 n1 c1) d.h) := Ints.below k1 HB.out
    have H2 : Hid (Ints W (.slice a2 n2 c2) d.r) := Ints.below k2 HB.out
    clear k0 k1 k2
    have x0 : W.cell? ⟨w.heap.size, 0, none⟩ = some (.slice a0 n0 c0) := by rw [hW]; simp [go_sem]
    have x1 : W.cell? ⟨w.heap.size, 1, none⟩ = some (.slice a1 n1 c1) := by rw [hW]; simp [go_sem]
    have x2 : W.cell? ⟨w.heap.size, 2, none⟩ = some (.slice a2 n2 c2) := by rw [hW]; simp [go_sem]
    have HR : Hid (BoxN W (w.heap.size + 1) 42 [.slice none 0 0, .slice none 0 0, .slice none 0 0]) := by unfold Hid; rw [hW]; have h := BoxN.new (w.alloc (.cells #[.slice a0 n0 c0, .slice a1 n1 c1, .slice a2 n2 c2] 42)) [.slice none 0 0, .slice none 0 0, .slice none 0 0] 42; simpa using h
    have hlr : w.heap.size + 1 < W.heap.size := HR.out.lt
    go_enter Try.func249, Try.ntmps249
    go_wp2_with fail
    rw [← hW]
    clear hW
    try (go_wp2_with fail)
    refine wp_region_noPanic ?_
    refine wp_region_V (fun w' => Below W.heap.size W w' ∧ w'.cell? ⟨w.heap.size, 0, none⟩ = some (.slice a0 n0 c0) ∧ w'.cell? ⟨w.heap.size, 1, none⟩ = some (.slice a1 n1 c1) ∧ w'.cell? ⟨w.heap.size, 2, none⟩ = some (.slice a2 n2 c2)) 13 10 (.rd 0 (.rd 1 (.rd 3 (.rd 4 (.rd 6 (.rd 7 (.alt 2 (.alt 5 (.alt 8 (.rd 9 .done) .nil) .nil) .nil))))))) [10] (by kernel_rfl) (by kernel_rfl) rfl (fun _ _ _ _ _ h => h) ⟨(Below.refl _ _).drew, x0, x1, x2⟩ ?_
    simp only [pickV, pickN, List.getElem?_cons_zero, List.getElem?_cons_succ]
    have hb0 : Below W.heap.size W W.drew := (Below.refl _ _).drew
    repeat (refine' wpV_read _ (by kernel_rfl) (fun w' hS' => ?_) ?_; rotate_left; · ((try dsimp only at hS'); go_simp; (try with_reducible rfl)); (try simp only [Act.put, List.setIfInBounds_toArray, List.set_cons_zero, List.set_cons_succ]))
    refine wpV_do (by kernel_rfl) (fun K hK => ?_)
    go_simp
    go_at_call 248
    refine (spec_l1Own _ d.c _ (Ints.below H0.out hb0) (by omega)).mono ?_
    rintro e u1 ⟨v1, rfl, ho1, hq1⟩
    have hb1 := keep_b hq1 hb0
    obtain ⟨ax1, cx1, rfl⟩ := ho1.shape
    have HO1 := Lib.hid ho1; clear ho1
    have hs1 := hq1.size
    have HQ1 := Lib.hid hq1; clear hq1
    refine hK.out _ _ ⟨hb1, box_at x0 hb1, box_at x1 hb1, box_at x2 hb1⟩ (fun _ => ?_)
    clear hK K
    try simp only [Act.put, List.setIfInBounds_toArray, List.set_cons_zero, List.set_cons_succ]
    repeat (refine' wpV_read _ (by kernel_rfl) (fun w' hS' => ?_) ?_; rotate_left; · ((try dsimp only at hS'); go_simp; (try with_reducible rfl)); (try simp only [Act.put, List.setIfInBounds_toArray, List.set_cons_zero, List.set_cons_succ]))
    refine wpV_do (by kernel_rfl) (fun K hK => ?_)
    go_simp
    go_at_call 248
    refine (spec_l1Own _ d.h _ (Ints.below H1.out hb1) (by omega)).mono ?_
    rintro e u2 ⟨v2, rfl, ho2, hq2⟩
    have hb2 := keep_b hq2 hb1
    obtain ⟨ax2, cx2, rfl⟩ := ho2.shape
    have HO2 := Lib.hid ho2; clear ho2
    have hs2 := hq2.size
    have HQ2 := Lib.hid hq2; clear hq2
    refine hK.out _ _ ⟨hb2, box_at x0 hb2, box_at x1 hb2, box_at x2 hb2⟩ (fun _ => ?_)
    clear hK K
    try simp only [Act.put, List.setIfInBounds_toArray, List.set_cons_zero, List.set_cons_succ]
    repeat (refine' wpV_read _ (by kernel_rfl) (fun w' hS' => ?_) ?_; rotate_left; · ((try dsimp only at hS'); go_simp; (try with_reducible rfl)); (try simp only [Act.put, List.setIfInBounds_toArray, List.set_cons_zero, List.set_cons_succ]))
    refine wpV_do (by kernel_rfl) (fun K hK => ?_)
    go_simp
    go_at_call 248
    refine (spec_l1Own _ d.r _ (Ints.below H2.out hb2) (by omega)).mono ?_
    rintro e u3 ⟨v3, rfl, ho3, hq3⟩
    have hb3 := keep_b hq3 hb2
    obtain ⟨ax3, cx3, rfl⟩ := ho3.shape
    have HO3 := Lib.hid ho3; clear ho3
    have hs3 := hq3.size
    have HQ3 := Lib.hid hq3; clear hq3
    refine hK.out _ _ ⟨hb3, box_at x0 hb3, box_at x1 hb3, box_at x2 hb3⟩ (fun _ => ?_)
    clear hK K
    try simp only [Act.put, List.setIfInBounds_toArray, List.set_cons_zero, List.set_cons_succ]
    repeat (refine' wpV_read _ (by kernel_rfl) (fun w' hS' => ?_) ?_; rotate_left; · ((try dsimp only at hS'); go_simp; (try with_reducible rfl)); (try simp only [Act.put, List.setIfInBounds_toArray, List.set_cons_zero, List.set_cons_succ]))
    refine wpV_done ?_
    have HOP := Lib.hid (own_proof3 (d := d) HO1.out HQ2.out HO2.out HQ3.out HO3.out (Nat.le_refl _) (Nat.le_refl _) hs1)
    have HRE := Lib.hid (HR.out.below hb3)
    have HBE := Lib.hid (HB.out.trans (hb3.mono HB.out.size))
    have hs13 : W.heap.size ≤ u3.heap.size := hb3.size
    have hW0 := HB.out.size
    have hWd : W.drew.heap.size = W.heap.size := by simp
    clear hb0 hb1 hb2 hb3 HQ2 HQ3 HO1 HO2 HO3
    have r0 := HRE.out.cell (i := 0) rfl
    have r1 := HRE.out.cell (i := 1) rfl
    have r2 := HRE.out.cell (i := 2) rfl
    have fr := fun j => HRE.out.frozen j
    go_wp2_with fail
    refine NoPanic.normal ?_
    have HRF := Lib.hid (((HRE.out.set 0 (.slice ax1 d.c.length cx1)).set 1 (.slice ax2 d.h.length cx2)).set 2 (.slice ax3 d.r.length cx3))
    obtain ⟨Z, hZ⟩ : ∃ Z, Z = ((u3.setCell ⟨w.heap.size + 1, 0, none⟩ (.slice ax1 d.c.length cx1)).setCell ⟨w.heap.size + 1, 1, none⟩ (.slice ax2 d.h.length cx2)).setCell ⟨w.heap.size + 1, 2, none⟩ (.slice ax3 d.r.length cx3) := ⟨_, rfl⟩
    have hZs : Z.heap.size = u3.heap.size := by rw [hZ]; simp [World.setCell]
    have HBF : Hid (Below w.heap.size w Z) := by unfold Hid; rw [hZ]; exact ((HBE.out.setCell (by show w.heap.size ≤ w.heap.size + 1; omega) _).setCell (by show w.heap.size ≤ w.heap.size + 1; omega) _).setCell (by show w.heap.size ≤ w.heap.size + 1; omega) _
    have HOF : Hid ((kS rProof).own Z w.heap.size Z.heap.size (.agg #[.slice ax1 d.c.length cx1, .slice ax2 d.h.length cx2, .slice ax3 d.r.length cx3]) d) := by
      unfold Hid
      rw [hZs]
      refine (kS rProof).own_mono ((kS rProof).own_frame HOP.out (fun k h1 h2 h3 => ?_)) (by rw [hWd]; omega) (Nat.le_refl _)
      rw [hZ, heap_setCell_other _ _ k _ (fun e => by simp at e; omega), heap_setCell_other _ _ k _ (fun e => by simp at e; omega), heap_setCell_other _ _ k _ (fun e => by simp at e; omega)]
    rw [← hZ] at HRF ⊢
    clear r0 r1 r2 fr hZ
    have r0 := HRF.out.cell (i := 0) rfl
    have r1 := HRF.out.cell (i := 1) rfl
    have r2 := HRF.out.cell (i := 2) rfl
    go_wp2_with fail
    refine bodyPost_ret (v := .agg #[.slice ax1 d.c.length cx1, .slice ax2 d.h.length cx2, .slice ax3 d.r.length cx3]) (by simp [results, Try.results249, go_sem, r0, r1, r2]) rfl ⟨_, rfl, HOF.out, HBF.out⟩
end Go.Proofs.Ytboahnklilmdpaa
namespace Go.Proofs.Ytboahnklilmdpaa
open Go.RowKit
set_option linter.unusedSimpArgs false
set_option linter.unusedVariables false

def FrR {δ : Type} (e : TypeId) (R : RowK δ) (w0 w : World) (B : Nat) (v : Value) (ds : List δ) : Prop :=
  ∃ css : List (List Value), css.length = ds.length ∧ w.ownsRow B e R.width v ds.length css.flatten ∧ ∀ i (h1 : i < css.length) (h2 : i < ds.length), R.rd w0 css[i] ds[i]
section
variable {δ : Type} {e : TypeId} {R : RowK δ} {w0 w w' : World} {B : Nat} {v : Value} {ds es : List δ}
theorem FrR.lens {css : List (List Value)} (hl : css.length = ds.length) (hel : ∀ i (h1 : i < css.length) (h2 : i < ds.length), R.rd w0 css[i] ds[i]) : ∀ c ∈ css, c.length = R.width := by
  intro c hc
  obtain ⟨i, hi, rfl⟩ := List.getElem_of_mem hc
  exact R.rd_len (hel i hi (by omega))
theorem FrR.ones {css : List (List Value)} (hl : css.length = ds.length) (hel : ∀ i (h1 : i < css.length) (h2 : i < ds.length), R.rd w0 css[i] ds[i]) : ∀ u ∈ css.flatten, u.oneCell' = true := by
  intro u hu
  obtain ⟨c, hc, hu⟩ := List.mem_flatten.1 hu
  obtain ⟨i, hi, rfl⟩ := List.getElem_of_mem hc
  exact R.rd_one (hel i hi (by omega)) u hu
theorem FrR.rd (h : FrR e R w0 w B v ds) (hb : Below w0.heap.size w0 w) : RdR R w v ds := by
  obtain ⟨css, hl, hO, hel⟩ := h
  have hlen := FrR.lens hl hel
  have hO' := hO
  obtain ⟨hl1, ⟨rfl, h0⟩ | ⟨g, c, cur, rfl, hbb, hgc, hnc, hcm, hcs, htake⟩⟩ := hO
  · have : ds = [] := List.eq_nil_of_length_eq_zero h0
    subst this; exact RdR.nil R w
  · refine ⟨some ⟨g, 0, none⟩, ds.length, c, rfl, rfl, hnc, hcm, .inr (.inr ⟨g, 0, rfl, fun i hi => ?_⟩)⟩
    refine ⟨css[i]'(by omega), fun k hk => ?_, R.rd_below (hel i (by omega) hi) hb⟩
    have h1 := World.ownsRow.cellAt hO' (i * R.width + k) (by
      have : (i + 1) * R.width ≤ ds.length * R.width := Nat.mul_le_mul_right _ hi
      rw [Nat.succ_mul] at this; omega)
    rw [Nat.zero_add, h1, flat_get hlen hk, List.getElem?_eq_getElem (by omega)]
    rfl
theorem FrR.nil (e : TypeId) (R : RowK δ) (w0 w : World) (B : Nat) : FrR e R w0 w B (.slice none 0 0) [] :=
  ⟨[], rfl, by simpa using World.ownsRow_nil w B e R.width, fun i h1 _ => by simp at h1⟩
theorem FrR.lit0 (e : TypeId) (R : RowK δ) (w0 w : World) (B : Nat) (hB : B ≤ w.heap.size) : FrR e R w0 (w.alloc (.cells #[] e)) B (.slice (some ⟨w.heap.size, 0, none⟩) 0 0) [] :=
  ⟨[], rfl, World.ownsRow_lit (e := e) (size := R.width) w #[] 0 hB (Nat.zero_le _) (by simp), fun i h1 _ => by simp at h1⟩
theorem FrR.below (h : FrR e R w0 w B v ds) (hb : Below w.heap.size w w') : FrR e R w0 w' B v ds := by
  obtain ⟨css, hl, hO, hel⟩ := h
  exact ⟨css, hl, ownsRow_frame hO fun g hg => hb.block g (hO.lt g hg).2, hel⟩
theorem FrR.frame (h : FrR e R w0 w B v ds) (hf : ∀ g, v.ownBlock = some g → w'.heap[g]? = w.heap[g]?) : FrR e R w0 w' B v ds := by
  obtain ⟨css, hl, hO, hel⟩ := h
  exact ⟨css, hl, ownsRow_frame hO hf, hel⟩
theorem FrR.lt (h : FrR e R w0 w B v ds) : ∀ g, v.ownBlock = some g → B ≤ g ∧ g < w.heap.size := by
  obtain ⟨css, hl, hO, hel⟩ := h
  exact fun g hg => hO.lt g hg
theorem FrR.mono {B' : Nat} (h : FrR e R w0 w B v ds) (hB : B' ≤ B) : FrR e R w0 w B' v ds := by
  obtain ⟨css, hl, hO, hel⟩ := h
  exact ⟨css, hl, ownsRow_mono hO hB, hel⟩
/-- the rows of a slice that is read -/
theorem rows_of_RdR {ad : Addr} {n c : Nat} (h : RdR R w (.slice (some ad) n c) ds) : ∃ css : List (List Value), css.length = ds.length ∧ (∀ j u, css.flatten[j]? = some u → w.cell? (ad.add j) = some u) ∧ ∀ i (h1 : i < css.length) (h2 : i < ds.length), R.rd w css[i] ds[i] := by
  have hn := h.len
  rcases Nat.eq_zero_or_pos n with h0 | h0
  · have : ds = [] := List.eq_nil_of_length_eq_zero (by omega)
    subst this
    exact ⟨[], rfl, fun j u hu => by simp at hu, fun i h1 _ => by simp at h1⟩
  · obtain ⟨b, o, hab, hc⟩ := h.at_ h0
    cases hab
    have h' : ∀ i : Fin ds.length, ∃ vs, (∀ k, k < R.width → w.cell? ⟨b, o + (i.1 * R.width + k), none⟩ = vs[k]?) ∧ R.rd w vs ds[i.1] := fun i => hc i.1 i.2
    let f : Fin ds.length → List Value := fun i => Classical.choose (h' i)
    have hf : ∀ i : Fin ds.length, (∀ k, k < R.width → w.cell? ⟨b, o + (i.1 * R.width + k), none⟩ = (f i)[k]?) ∧ R.rd w (f i) ds[i.1] := fun i => Classical.choose_spec (h' i)
    have hlen : ∀ c ∈ (List.finRange ds.length).map f, c.length = R.width := fun c hc => by
      obtain ⟨i, _, rfl⟩ := List.mem_map.1 hc
      exact R.rd_len (hf i).2
    refine ⟨(List.finRange ds.length).map f, by simp, fun j u hu => ?_, fun i h1 h2 => ?_⟩
    · have hj : j < ((List.finRange ds.length).map f).flatten.length := (List.getElem?_eq_some_iff.1 hu).1
      have hfl := flat_len hlen
      rw [hfl] at hj
      have hW : 0 < R.width := by
        rcases Nat.eq_zero_or_pos R.width with hz | hz
        · rw [hz] at hj; omega
        · exact hz
      have hd : j / R.width < ds.length := Nat.div_lt_of_lt_mul (by rw [Nat.mul_comm]; simpa using hj)
      have hm := Nat.mod_lt j hW
      have e1 : j = (j / R.width) * R.width + j % R.width := by rw [Nat.mul_comm]; exact (Nat.div_add_mod j R.width).symm
      have h3 := flat_get hlen (i := j / R.width) (k := j % R.width) hm
      rw [← e1] at h3
      rw [h3, List.getElem?_map, List.getElem?_eq_getElem (by simpa using hd)] at hu
      simp only [Option.map_some, Option.bind_some, List.getElem_finRange] at hu
      have h4 := (hf ⟨j / R.width, hd⟩).1 (j % R.width) hm
      rw [Addr.add_lit, e1, h4]
      simpa using hu
    · simpa using (hf ⟨i, h2⟩).2
/-- more structs -/
theorem run_append_Fr {P : Program} (ts : TypeId) (i : TypeInfo) (z : Value) (ht : P.underlying ts = some (.slice e)) (hi' : P.info? e = some i) (hz : i.zero = some z) (hsz : i.size = R.width) (hby : i.bytes ≤ 1000) (hzs : z.cells.size = R.width) (hpos : 0 < R.width)
    (hown : FrR e R w0 w B v ds) (ad : Addr) (m c : Nat) (css' : List (List Value)) (hl' : css'.length = es.length) (hm : es.length = m) (hnews : ∀ j u, css'.flatten[j]? = some u → w.cell? (ad.add j) = some u)
    (hrd : ∀ i (h1 : i < css'.length) (h2 : i < es.length), R.rd w0 css'[i] es[i]) (hB : B ≤ w.heap.size) (hlen : ds.length + es.length ≤ 1000000000) (ty : TypeId) :
    ∃ v' w', (Builtin.append_ #[ts, ts] ty #[v, .slice (some ad) m c]).run P w = .ok v' w' ∧ FrR e R w0 w' B v' (ds ++ es) ∧ Below B w w' := by
  obtain ⟨css, hvl, hO, hel⟩ := hown
  have hb1 : (ds.length + m) * i.bytes ≤ 140737488355328 := by
    have : (ds.length + m) * i.bytes ≤ 1000000000 * 1000 := Nat.mul_le_mul (by omega) hby
    omega
  have hfl := flat_len (FrR.lens hl' hrd)
  obtain ⟨v', w', hr, h1, h2, _⟩ := run_append_own (P := P) w B ts ty e i z R.width i.bytes ht hi' hz hsz rfl hzs hpos v ds.length css.flatten hO ad m c css'.flatten (by rw [hfl, hl', hm]) hnews (FrR.ones hl' hrd) (by unfold maxLen; omega) hb1 hB
  refine ⟨v', w', hr, ⟨css ++ css', by simp [hvl, hl'], by simpa [List.flatten_append, hm] using h1, fun k k1 k2 => ?_⟩, (Below.refl B w).grown h2 hB (fun k hk => (hO.lt k hk).1)⟩
  by_cases hk : k < ds.length
  · rw [List.getElem_append_left (by omega), List.getElem_append_left hk]
    exact hel k (by omega) hk
  · rw [List.getElem_append_right (by omega), List.getElem_append_right (by omega)]
    have e1 : k - css.length = k - ds.length := by omega
    simp only [List.length_append] at k2
    have := hrd (k - ds.length) (by omega) (by omega)
    simpa only [e1] using this
theorem wpList_append_Fr {P : Program} (ts : TypeId) (i : TypeInfo) (z : Value) (ht : P.underlying ts = some (.slice e)) (hi' : P.info? e = some i) (hz : i.zero = some z) (hsz : i.size = R.width) (hby : i.bytes ≤ 1000) (hzs : z.cells.size = R.width) (hpos : 0 < R.width)
    {ops : Array Oper} {rest : List Oper} {o : Oper} {ac : Act} {Q : Exit → Act → World → Prop} (hgd : o.guard = none) (s y : Operand)
    (ho : o.op = .call { callee := .builtin .append, args := #[s, y], argTypes := #[ts, ts] })
    (hown : FrR e R w0 w B v ds) (ad : Addr) (m c : Nat) (css' : List (List Value)) (hs : ac.eval s = v) (hy : ac.eval y = .slice (some ad) m c) (hl' : css'.length = es.length) (hm : es.length = m) (hnews : ∀ j u, css'.flatten[j]? = some u → w.cell? (ad.add j) = some u)
    (hrd : ∀ i (h1 : i < css'.length) (h2 : i < es.length), R.rd w0 css'[i] es[i]) (hB : B ≤ w.heap.size) (hlen : ds.length + es.length ≤ 1000000000)
    (hK : ∀ v' w', FrR e R w0 w' B v' (ds ++ es) → Below B w w' → wpList P ops Q rest (ac.put o.dst v') w') : wpList P ops Q (o :: rest) ac w := by
  obtain ⟨v', w', hr, h1, h2⟩ := run_append_Fr ts i z ht hi' hz hsz hby hzs hpos hown ad m c css' hl' hm hnews hrd hB hlen o.type
  refine wpList_plain hgd fun K hK' => ?_
  unfold Oper.wp execOp
  simp only [ho, resolve, invoke, builtin, Sem.run_bind, Sem.run_pure, Result.andThen_ok, List.map_toArray, List.map_cons, List.map_nil, hs, hy, hr]
  exact hK' _ _ (hK v' w' h1 h2)
end
end Go.Proofs.Ytboahnklilmdpaa
