/- Primes of the drawn groups. -/
import Derived.Test.YtacpnphfopmofaaPow1SM
import Derived.Test.YtacpnphfopmofaaDrG1SM
import Derived.Test.YtacpnphfopmofaaPow2SM
namespace Go.Proofs.Ytacpnphfopmofaa
open Go.RowKit
set_option linter.unusedSimpArgs false
set_option linter.unusedVariables false

/-- no number from 2 to D + 1 divides n -/
def noDivC (n : Nat) : Nat → Bool
  | 0 => true
  | D + 1 => n % (D + 2) != 0 && noDivC n D
theorem noDivC_at {n : Nat} : ∀ {D : Nat}, noDivC n D = true → ∀ d, d < D → n % (d + 2) ≠ 0
  | 0, _, d, hd => by omega
  | D + 1, h, d, hd => by
    simp only [noDivC, Bool.and_eq_true, bne_iff_ne] at h
    rcases (by omega : d = D ∨ d < D) with rfl | h2
    · exact h.1
    · exact noDivC_at h.2 d h2
theorem Prm_check {n D : Nat} (h2 : 2 ≤ n) (hD : n < (D + 2) * (D + 2)) (h : noDivC n D = true) : Prm (n : Int) := by
  refine ⟨by omega, fun d h3 h4 => ?_⟩
  obtain ⟨e, rfl⟩ := Int.eq_ofNat_of_zero_le (by omega : 0 ≤ d)
  have h5 : e * e ≤ n := by exact_mod_cast h4
  have h6 : e < D + 2 := by
    rcases Nat.lt_or_ge e (D + 2) with h | h
    · exact h
    · have := Nat.mul_le_mul h h; omega
  have h7 : 2 ≤ e := by omega
  have h8 := noDivC_at h (e - 2) (by omega)
  rw [show e - 2 + 2 = e by omega] at h8
  intro h9
  exact h8 (by exact_mod_cast h9)
/-- MakeGroup finds a group for this number -/
def MkOk (x : Int) : Prop := ∃ p0 : Int, ∃ j : Nat, (2 ≤ x ∧ x ≤ 1000000) ∧ Prm x ∧ Prm p0 ∧ p0 = x + 1 + j * x ∧ p0 ≤ 2000000000
theorem mkOk_tiny : ∀ x ∈ ([3, 5, 5, 7, 11, 11, 13, 23] : List Int), MkOk x := by
  have h3 : MkOk 3 := ⟨7, 1, by omega, Prm_check (n := 3) (D := 0) (by decide) (by decide) (by decide +kernel), Prm_check (n := 7) (D := 1) (by decide) (by decide) (by decide +kernel), by omega, by omega⟩
  have h5 : MkOk 5 := ⟨11, 1, by omega, Prm_check (n := 5) (D := 1) (by decide) (by decide) (by decide +kernel), Prm_check (n := 11) (D := 2) (by decide) (by decide) (by decide +kernel), by omega, by omega⟩
  have h7 : MkOk 7 := ⟨29, 3, by omega, Prm_check (n := 7) (D := 1) (by decide) (by decide) (by decide +kernel), Prm_check (n := 29) (D := 4) (by decide) (by decide) (by decide +kernel), by omega, by omega⟩
  have h11 : MkOk 11 := ⟨23, 1, by omega, Prm_check (n := 11) (D := 2) (by decide) (by decide) (by decide +kernel), Prm_check (n := 23) (D := 3) (by decide) (by decide) (by decide +kernel), by omega, by omega⟩
  have h13 : MkOk 13 := ⟨53, 3, by omega, Prm_check (n := 13) (D := 2) (by decide) (by decide) (by decide +kernel), Prm_check (n := 53) (D := 6) (by decide) (by decide) (by decide +kernel), by omega, by omega⟩
  have h23 : MkOk 23 := ⟨47, 1, by omega, Prm_check (n := 23) (D := 3) (by decide) (by decide) (by decide +kernel), Prm_check (n := 47) (D := 5) (by decide) (by decide) (by decide +kernel), by omega, by omega⟩
  intro x hx
  simp only [List.mem_cons, List.not_mem_nil, or_false] at hx
  rcases hx with rfl | rfl | rfl | rfl | rfl | rfl | rfl | rfl <;> assumption
theorem mkOk_more : ∀ x ∈ ([101, 1009, 1019, 65537, 999983] : List Int), MkOk x := by
  have h1 : MkOk 101 := ⟨607, 5, by omega, Prm_check (n := 101) (D := 9) (by decide) (by decide) (by decide +kernel), Prm_check (n := 607) (D := 24) (by decide) (by decide) (by decide +kernel), by omega, by omega⟩
  have h2 : MkOk 1009 := ⟨10091, 9, by omega, Prm_check (n := 1009) (D := 30) (by decide) (by decide) (by decide +kernel), Prm_check (n := 10091) (D := 100) (by decide) (by decide) (by decide +kernel), by omega, by omega⟩
  have h3 : MkOk 1019 := ⟨2039, 1, by omega, Prm_check (n := 1019) (D := 30) (by decide) (by decide) (by decide +kernel), Prm_check (n := 2039) (D := 44) (by decide) (by decide) (by decide +kernel), by omega, by omega⟩
  have h4 : MkOk 65537 := ⟨917519, 13, by omega, Prm_check (n := 65537) (D := 255) (by decide) (by decide) (by decide +kernel), Prm_check (n := 917519) (D := 957) (by decide) (by decide) (by decide +kernel), by omega, by omega⟩
  have h5 : MkOk 999983 := ⟨11999797, 11, by omega, Prm_check (n := 999983) (D := 998) (by decide) (by decide) (by decide +kernel), Prm_check (n := 11999797) (D := 3463) (by decide) (by decide) (by decide +kernel), by omega, by omega⟩
  intro x hx
  simp only [List.mem_cons, List.not_mem_nil, or_false] at hx
  rcases hx with rfl | rfl | rfl | rfl | rfl <;> assumption
end Go.Proofs.Ytacpnphfopmofaa
namespace Go.Proofs.Ytacpnphfopmofaa
open Go.RowKit
set_option linter.unusedSimpArgs false
set_option linter.unusedVariables false

set_option maxRecDepth 100000 in
set_option maxHeartbeats 2000000 in
theorem spec_tiny (w0 : World) (g : Nat) (n : Int) (w : World) (h : Cur w0 w g n) (hb : Below w0.heap.size w0 w) (hn : n ≤ 2000000000000000) :
    Calls Try.prog 133 #[.pointer (some ⟨g, 0, none⟩)] w fun e w' => (∃ P Q G : Int, e = .returned (.agg #[.int .i64 P, .int .i64 Q, .int .i64 G]) ∧ (3 ≤ P ∧ P ≤ 2000000000) ∧ (2 ≤ Q ∧ Q ≤ 1000000) ∧ (0 ≤ G ∧ G < P)) ∧ Cur w0 w' g (n + 2) ∧ Within g (g + 1) w w' := by
  have HC := Lib.hid h
  have hg := h.lt
  have hg0 := h.ge
  have HB0 := Lib.hid hb
  clear h hb
  obtain ⟨W, hW⟩ : ∃ W, W = w.alloc (.cells #[.int .i64 0, .int .i64 0, .int .i64 0] 24) := ⟨_, rfl⟩
  have hbW : Below w.heap.size w W := by rw [hW]; exact (Below.refl _ _).alloc (Nat.le_refl _) _
  have HX : Hid (BoxN W w.heap.size 24 [.int .i64 0, .int .i64 0, .int .i64 0]) := by unfold Hid; rw [hW]; exact BoxN.new w _ _
  have HSW : Hid (W.heap.size = w.heap.size + 1) := by unfold Hid; rw [hW]; simp
  have hsW : w.heap.size < W.heap.size := by have := HSW.out; omega
  replace HC := Lib.hid (HC.out.keep hbW)
  have HBW := Lib.hid hbW
  have HWW : Hid (Within g (g + 1) w W) := Within.of_below hbW
  have HB1 := Lib.hid (Below.next HB0.out hbW)
  clear hbW
  go_enter Try.func133, Try.ntmps133
  go_wp2_with fail
  rw [← hW]
  try rw [← HSW.out]
  clear hW
  refine (spec_among w0 g _ _ [3, 5, 5, 7, 11, 11, 13, 23] _ (HC.out.keep ((Below.refl _ _).alloc (Nat.le_refl _) _)) (HB1.out.alloc HB1.out.size _) (by omega) (Apart.of_ownI (OwnI.lit W (Nat.le_refl _) (lit_I64 rfl) (by rfl) (by decide) 8 rfl) (by omega)) (by decide)).mono ?_
  rintro e w1 ⟨⟨x, rfl, hx⟩, hc, hw⟩
  obtain ⟨p0, j, hx1, hx2, hx3, hx4, hx5⟩ := mkOk_tiny x hx
  have hw1 : Within g (g + 1) W w1 := (Within.of_below ((Below.refl _ _).alloc (Nat.le_refl _) _)).trans hw
  have HX1 := Lib.hid (HX.out.kept hw1 (.inr (by omega)))
  have HW1 := Lib.hid (HWW.out.trans hw1)
  have HC1 := Lib.hid hc
  have hs1 := hw1.size
  clear hc hw hw1 hx
  go_wp2_with fail
  refine (spec_MakeGroup x p0 j _ hx1 hx2 hx3 hx4 hx5).mono ?_
  rintro e w2 ⟨⟨P, G, rfl, P1, P2, G1, G2⟩, hb2⟩
  have HX2 := Lib.hid (HX1.out.below hb2)
  have HW2 := Lib.hid (HW1.out.trans (Within.of_below hb2))
  have HC2 := Lib.hid (HC1.out.keep hb2)
  have hs2 := hb2.size
  obtain ⟨x1, x2⟩ := hx1
  clear hb2 hx2 hx3 hx4 hx5
  have r0 := fun o => (HX2.out.alloc o).cell (i := 0) rfl
  have r1 := fun o => (HX2.out.alloc o).cell (i := 1) rfl
  have r2 := fun o => (HX2.out.alloc o).cell (i := 2) rfl
  have fr := fun o j => (HX2.out.alloc o).frozen j
  go_wp2_with fail
  obtain ⟨Y, hY⟩ : ∃ Y, Y = ((((w2.alloc (.cells #[.int .i64 P, .int .i64 x, .int .i64 G] 24)).setCell ⟨w.heap.size, 0, none⟩ (.int .i64 P)).setCell ⟨w.heap.size, 1, none⟩ (.int .i64 x)).setCell ⟨w.heap.size, 2, none⟩ (.int .i64 G)) := ⟨_, rfl⟩
  have HXY : Hid (BoxN Y w.heap.size 24 [.int .i64 P, .int .i64 x, .int .i64 G]) := by unfold Hid; rw [hY]; exact (((HX2.out.alloc _).set 0 _).set 1 _).set 2 _
  have HBY : Hid (Below w.heap.size ((w2.alloc (.cells #[.int .i64 P, .int .i64 x, .int .i64 G] 24))) Y) := by unfold Hid; rw [hY]; exact (((Below.refl w.heap.size _).setCell (Nat.le_refl _) _).setCell (Nat.le_refl _) _).setCell (Nat.le_refl _) _
  rw [← hY]
  clear hY r0 r1 r2 fr
  have r0 := HXY.out.cell (i := 0) rfl
  have r1 := HXY.out.cell (i := 1) rfl
  have r2 := HXY.out.cell (i := 2) rfl
  refine bodyPost_ret (v := .agg #[.int .i64 P, .int .i64 x, .int .i64 G]) (by simp [results, Try.results133, go_sem, r0, r1, r2]) rfl ⟨⟨_, _, _, rfl, ⟨by omega, by omega⟩, ⟨by omega, by omega⟩, ⟨by omega, by omega⟩⟩, ((HC2.out.keep ((Below.refl _ _).alloc (Nat.le_refl _) _)).belowB HBY.out hg).mono (by omega), (HW2.out.allocR _).belowStep HBY.out⟩
set_option maxRecDepth 100000 in
set_option maxHeartbeats 4000000 in
theorem spec_group (w0 : World) (g : Nat) (n : Int) (w : World) (h : Cur w0 w g n) (hb : Below w0.heap.size w0 w) (hn : n ≤ 1500000000000000) :
    Calls Try.prog 147 #[.pointer (some ⟨g, 0, none⟩)] w fun e w' => (∃ P Q G : Int, e = .returned (.agg #[.int .i64 P, .int .i64 Q, .int .i64 G]) ∧ (3 ≤ P ∧ P ≤ 2000000000) ∧ (2 ≤ Q ∧ Q ≤ 2000000000) ∧ (0 ≤ G ∧ G < P)) ∧ Cur w0 w' g (n + 6) ∧ Within g (g + 1) w w' := by
  have HC := Lib.hid h
  have hg := h.lt
  have hg0 := h.ge
  have HB0 := Lib.hid hb
  clear h hb
  obtain ⟨W, hW⟩ : ∃ W, W = w.alloc (.cells #[.int .i64 0, .int .i64 0, .int .i64 0] 24) := ⟨_, rfl⟩
  have hbW : Below w.heap.size w W := by rw [hW]; exact (Below.refl _ _).alloc (Nat.le_refl _) _
  have HX : Hid (BoxN W w.heap.size 24 [.int .i64 0, .int .i64 0, .int .i64 0]) := by unfold Hid; rw [hW]; exact BoxN.new w _ _
  have HSW : Hid (W.heap.size = w.heap.size + 1) := by unfold Hid; rw [hW]; simp
  have hsW : w.heap.size < W.heap.size := by have := HSW.out; omega
  replace HC := Lib.hid (HC.out.keep hbW)
  have HBW := Lib.hid hbW
  have HWW : Hid (Within g (g + 1) w W) := Within.of_below hbW
  have HB1 := Lib.hid (Below.next HB0.out hbW)
  clear hbW
  go_enter Try.func147, Try.ntmps147
  go_wp2_with fail
  rw [← hW]
  clear hW
  refine (spec_pick w0 g _ 6 _ HC.out HB1.out (by omega)).mono ?_
  rintro e wP ⟨⟨i, rfl, hi0, hi1, hi2, _⟩, hc, hw⟩
  have hi6 := hi2 (by omega)
  clear hi1 hi2
  replace HX := Lib.hid (HX.out.kept hw (.inr (by omega)))
  replace HWW := Lib.hid (HWW.out.trans hw)
  replace HB1 := Lib.hid (hw.belowOf HB1.out (by omega))
  replace HC := Lib.hid hc
  have hsp := hw.size
  clear hc hw
  by_cases h0 : i = 0
  · subst h0
    have r0 := HX.out.cell (i := 0) rfl
    have r1 := HX.out.cell (i := 1) rfl
    have r2 := HX.out.cell (i := 2) rfl
    have fr := fun j => HX.out.frozen j
    go_wp2_with fail
    obtain ⟨Y, hY⟩ : ∃ Y, Y = (((wP.setCell ⟨w.heap.size, 0, none⟩ (.int .i64 1000000007)).setCell ⟨w.heap.size, 1, none⟩ (.int .i64 500000003)).setCell ⟨w.heap.size, 2, none⟩ (.int .i64 4)) := ⟨_, rfl⟩
    have HXY : Hid (BoxN Y w.heap.size 24 [.int .i64 1000000007, .int .i64 500000003, .int .i64 4]) := by unfold Hid; rw [hY]; exact (((HX.out).set 0 _).set 1 _).set 2 _
    have HBY : Hid (Below w.heap.size (wP) Y) := by unfold Hid; rw [hY]; exact (((Below.refl w.heap.size _).setCell (Nat.le_refl _) _).setCell (Nat.le_refl _) _).setCell (Nat.le_refl _) _
    rw [← hY]
    clear hY r0 r1 r2 fr
    have r0 := HXY.out.cell (i := 0) rfl
    have r1 := HXY.out.cell (i := 1) rfl
    have r2 := HXY.out.cell (i := 2) rfl
    refine bodyPost_ret (v := .agg #[.int .i64 1000000007, .int .i64 500000003, .int .i64 4]) (by simp [results, Try.results147, go_sem, r0, r1, r2]) rfl ⟨⟨_, _, _, rfl, ⟨by omega, by omega⟩, ⟨by omega, by omega⟩, ⟨by omega, by omega⟩⟩, ((HC.out).belowB HBY.out hg).mono (by omega), (HWW.out).belowStep HBY.out⟩
  · have z0 : (i == 0) = false := by rw [beq_eq_false_iff_ne]; exact h0
    by_cases h1 : i = 1
    · subst h1
      go_wp2_with fail
      refine (spec_among w0 g _ _ [101, 1009, 1019, 65537, 999983] _ (HC.out.keep ((Below.refl _ _).alloc (Nat.le_refl _) _)) (HB1.out.alloc HB1.out.size _) (by omega) (Apart.of_ownI (OwnI.lit wP (Nat.le_refl _) (lit_I64 rfl) (by rfl) (by decide) 5 rfl) (by omega)) (by decide)).mono ?_
      rintro e w1 ⟨⟨x, rfl, hx⟩, hc, hw⟩
      obtain ⟨p0, j, hx1, hx2, hx3, hx4, hx5⟩ := mkOk_more x hx
      have hw1 : Within g (g + 1) wP w1 := (Within.of_below ((Below.refl _ _).alloc (Nat.le_refl _) _)).trans hw
      have HX1 := Lib.hid (HX.out.kept hw1 (.inr (by omega)))
      have HW1 := Lib.hid (HWW.out.trans hw1)
      have HC1 := Lib.hid hc
      have hs1 := hw1.size
      clear hc hw hw1 hx
      go_wp2_with fail
      refine (spec_MakeGroup x p0 j _ hx1 hx2 hx3 hx4 hx5).mono ?_
      rintro e w2 ⟨⟨P, G, rfl, P1, P2, G1, G2⟩, hb2⟩
      have HX2 := Lib.hid (HX1.out.below hb2)
      have HW2 := Lib.hid (HW1.out.trans (Within.of_below hb2))
      have HC2 := Lib.hid (HC1.out.keep hb2)
      have hs2 := hb2.size
      obtain ⟨x1, x2⟩ := hx1
      clear hb2 hx2 hx3 hx4 hx5
      have r0 := fun o => (HX2.out.alloc o).cell (i := 0) rfl
      have r1 := fun o => (HX2.out.alloc o).cell (i := 1) rfl
      have r2 := fun o => (HX2.out.alloc o).cell (i := 2) rfl
      have fr := fun o j => (HX2.out.alloc o).frozen j
      go_wp2_with fail
      obtain ⟨Y, hY⟩ : ∃ Y, Y = ((((w2.alloc (.cells #[.int .i64 P, .int .i64 x, .int .i64 G] 24)).setCell ⟨w.heap.size, 0, none⟩ (.int .i64 P)).setCell ⟨w.heap.size, 1, none⟩ (.int .i64 x)).setCell ⟨w.heap.size, 2, none⟩ (.int .i64 G)) := ⟨_, rfl⟩
      have HXY : Hid (BoxN Y w.heap.size 24 [.int .i64 P, .int .i64 x, .int .i64 G]) := by unfold Hid; rw [hY]; exact (((HX2.out.alloc _).set 0 _).set 1 _).set 2 _
      have HBY : Hid (Below w.heap.size ((w2.alloc (.cells #[.int .i64 P, .int .i64 x, .int .i64 G] 24))) Y) := by unfold Hid; rw [hY]; exact (((Below.refl w.heap.size _).setCell (Nat.le_refl _) _).setCell (Nat.le_refl _) _).setCell (Nat.le_refl _) _
      rw [← hY]
      clear hY r0 r1 r2 fr
      have r0 := HXY.out.cell (i := 0) rfl
      have r1 := HXY.out.cell (i := 1) rfl
      have r2 := HXY.out.cell (i := 2) rfl
      refine bodyPost_ret (v := .agg #[.int .i64 P, .int .i64 x, .int .i64 G]) (by simp [results, Try.results147, go_sem, r0, r1, r2]) rfl ⟨⟨_, _, _, rfl, ⟨by omega, by omega⟩, ⟨by omega, by omega⟩, ⟨by omega, by omega⟩⟩, ((HC2.out.keep ((Below.refl _ _).alloc (Nat.le_refl _) _)).belowB HBY.out hg).mono (by omega), (HW2.out.allocR _).belowStep HBY.out⟩
    · have z1 : (i == 1) = false := by rw [beq_eq_false_iff_ne]; exact h1
      clear h0 h1
      go_wp2_with fail
      refine (spec_tiny w0 g _ _ HC.out HB1.out (by omega)).mono ?_
      rintro e w1 ⟨⟨P, Q, G, rfl, ⟨P1, P2⟩, ⟨Q1, Q2⟩, ⟨G1, G2⟩⟩, hc, hw⟩
      replace HX := Lib.hid (HX.out.kept hw (.inr (by omega)))
      replace HWW := Lib.hid (HWW.out.trans hw)
      replace HB1 := Lib.hid (hw.belowOf HB1.out (by omega))
      replace HC := Lib.hid hc
      have hs1 := hw.size
      clear hc hw
      obtain ⟨V, hV⟩ : ∃ V, V = w1.alloc (.cells #[.int .i64 P, .int .i64 Q, .int .i64 G] 24) := ⟨_, rfl⟩
      have hbV : Below w1.heap.size w1 V := by rw [hV]; exact (Below.refl _ _).alloc (Nat.le_refl _) _
      have HZ : Hid (BoxN V w1.heap.size 24 [.int .i64 P, .int .i64 Q, .int .i64 G]) := by unfold Hid; rw [hV]; exact BoxN.new w1 _ _
      go_wp2_with fail
      rw [← hV]
      clear hV
      replace HX := Lib.hid (HX.out.below hbV)
      replace HWW := Lib.hid (HWW.out.trans (Within.of_below hbV))
      replace HB1 := Lib.hid (Below.next HB1.out hbV)
      replace HC := Lib.hid (HC.out.keep hbV)
      have hsV := hbV.size
      clear hbV
      have z0' := HZ.out.cell (i := 0) rfl
      have z1' := HZ.out.cell (i := 1) rfl
      have z2' := HZ.out.cell (i := 2) rfl
      have eq1 : IntKind.i64.wrap (Q - 1) = Q - 1 := IntWalk.i64_in _ (by omega)
      try (go_wp2_with fail)
      refine wp_region_noPanic ?_
      refine wp_region_take (fun w' => Within g (g + 1) V w' ∧ w'.cell? ⟨w1.heap.size, 0, none⟩ = some (.int .i64 P) ∧ w'.cell? ⟨w1.heap.size, 1, none⟩ = some (.int .i64 Q) ∧ w'.cell? ⟨w1.heap.size, 2, none⟩ = some (.int .i64 G)) 16 [(true, 0), (true, 1), (true, 2), (true, 3), (true, 4), (true, 5), (true, 6), (false, 7), (true, 8), (false, 9)] [10, 11] (by kernel_rfl) (by kernel_rfl) rfl (fun _ _ _ _ _ h => h) ⟨(Within.refl _ _ _).drew, z0', z1', z2'⟩ ?_
      simp only [pickL, pickN, List.getElem?_cons_zero, List.getElem?_cons_succ]
      have hwz : Within g (g + 1) V V.drew := (Within.refl _ _ _).drew
      repeat (refine' wpTake_read _ (by rfl) (fun w' hS' => ?_) ?_; rotate_left; · ((try dsimp only at hS'); go_simp; (try with_reducible rfl)); (try simp only [Act.put, List.setIfInBounds_toArray, List.set_cons_zero, List.set_cons_succ]))
      refine wpTake_do (by rfl) (fun K hK => ?_)
      go_simp
      go_at_call 72
      refine (spec_pick w0 g _ (Q - 1) _ (HC.out.keep (Below.refl _ _).drew) (hwz.belowOf HB1.out (by omega)) (by omega)).mono ?_
      rintro e w4 ⟨⟨y, rfl, hy0, hy1, _, _⟩, hc, hw⟩
      have hw4 := hwz.trans hw
      have HC4 := Lib.hid hc
      clear hc hw hwz
      have ey : IntKind.i64.wrap (1 + y) = 1 + y := IntWalk.i64_in _ (by omega)
      refine hK.out _ _ ⟨hw4, within_at hw4 z0' (.inr (by omega)), within_at hw4 z1' (.inr (by omega)), within_at hw4 z2' (.inr (by omega))⟩ (fun _ => ?_)
      clear hK K
      try simp only [Act.put, List.setIfInBounds_toArray, List.set_cons_zero, List.set_cons_succ]
      repeat (refine' wpTake_read _ (by rfl) (fun w' hS' => ?_) ?_; rotate_left; · ((try dsimp only at hS'); go_simp; (try with_reducible rfl)); (try simp only [Act.put, List.setIfInBounds_toArray, List.set_cons_zero, List.set_cons_succ]))
      refine wpTake_do (by rfl) (fun K hK => ?_)
      go_simp
      go_at_call 57
      refine (spec_gExpW ⟨P, Q, G⟩ G (1 + y) _ ⟨by show (1 : Int) ≤ P; omega, by show P ≤ 3000000000; omega⟩ ⟨by show (1 : Int) ≤ Q; omega, by show Q ≤ 3000000000; omega⟩ ⟨by omega, by omega⟩ ⟨by omega, by omega⟩).mono ?_
      rintro e w5 ⟨⟨z, rfl, hz0, hz1⟩, hb5⟩
      have hw5 := hw4.trans (Within.of_below hb5)
      have HC5 := Lib.hid (HC4.out.keep hb5)
      clear hb5 hw4
      refine hK.out _ _ ⟨hw5, within_at hw5 z0' (.inr (by omega)), within_at hw5 z1' (.inr (by omega)), within_at hw5 z2' (.inr (by omega))⟩ (fun _ => ?_)
      clear hK K
      try simp only [Act.put, List.setIfInBounds_toArray, List.set_cons_zero, List.set_cons_succ]
      refine wpTake_nil ?_
      have HZ5 := Lib.hid (HZ.out.kept hw5 (.inr (by omega)))
      have HX5 := Lib.hid (HX.out.kept hw5 (.inr (by omega)))
      have HW5 := Lib.hid (HWW.out.trans hw5)
      have hs5 := hw5.size
      clear hw5 z0' z1' z2'
      have q0 := HZ5.out.cell (i := 0) rfl
      have q1 := HZ5.out.cell (i := 1) rfl
      have q2 := HZ5.out.cell (i := 2) rfl
      have fq := fun j => HZ5.out.frozen j
      go_wp2_with fail
      refine NoPanic.normal ?_
      have HZ6 := Lib.hid (HZ5.out.set 2 (.int .i64 z))
      have HX6 := Lib.hid (HX5.out.other (b' := w1.heap.size) (by omega) 2 (.int .i64 z))
      have HBs : Hid (Below w.heap.size w5 (w5.setCell ⟨w1.heap.size, 2, none⟩ (.int .i64 z))) := (Below.refl w.heap.size _).setCell (by show w.heap.size ≤ w1.heap.size; omega) _
      obtain ⟨U, hU⟩ : ∃ U, U = w5.setCell ⟨w1.heap.size, 2, none⟩ (.int .i64 z) := ⟨_, rfl⟩
      rw [← hU] at HZ6 HX6 HBs ⊢
      clear hU q0 q1 q2 fq
      have q0 := HZ6.out.cell (i := 0) rfl
      have q1 := HZ6.out.cell (i := 1) rfl
      have q2 := HZ6.out.cell (i := 2) rfl
      have r0 := HX6.out.cell (i := 0) rfl
      have r1 := HX6.out.cell (i := 1) rfl
      have r2 := HX6.out.cell (i := 2) rfl
      have fr := fun j => HX6.out.frozen j
      go_wp2_with fail
      clear q0 q1 q2
      obtain ⟨Y, hY⟩ : ∃ Y, Y = (((U.setCell ⟨w.heap.size, 0, none⟩ (.int .i64 P)).setCell ⟨w.heap.size, 1, none⟩ (.int .i64 Q)).setCell ⟨w.heap.size, 2, none⟩ (.int .i64 z)) := ⟨_, rfl⟩
      have HXY : Hid (BoxN Y w.heap.size 24 [.int .i64 P, .int .i64 Q, .int .i64 z]) := by unfold Hid; rw [hY]; exact (((HX6.out).set 0 _).set 1 _).set 2 _
      have HBY : Hid (Below w.heap.size (U) Y) := by unfold Hid; rw [hY]; exact (((Below.refl w.heap.size _).setCell (Nat.le_refl _) _).setCell (Nat.le_refl _) _).setCell (Nat.le_refl _) _
      rw [← hY]
      clear hY r0 r1 r2 fr
      have r0 := HXY.out.cell (i := 0) rfl
      have r1 := HXY.out.cell (i := 1) rfl
      have r2 := HXY.out.cell (i := 2) rfl
      refine bodyPost_ret (v := .agg #[.int .i64 P, .int .i64 Q, .int .i64 z]) (by simp [results, Try.results147, go_sem, r0, r1, r2]) rfl ⟨⟨_, _, _, rfl, ⟨by omega, by omega⟩, ⟨by omega, by omega⟩, ⟨by omega, hz1⟩⟩, ((HC5.out.belowB HBs.out hg).belowB HBY.out hg).mono (by omega), (HW5.out.belowStep HBs.out).belowStep HBY.out⟩
end Go.Proofs.Ytacpnphfopmofaa
namespace Go.Proofs.Ytacpnphfopmofaa
open Go.RowKit
set_option linter.unusedSimpArgs false
set_option linter.unusedVariables false

set_option maxRecDepth 100000 in
set_option maxHeartbeats 4000000 in
theorem spec_anyGroup (w0 : World) (g : Nat) (n : Int) (w : World) (h : Cur w0 w g n) (hb : Below w0.heap.size w0 w) (hn : n ≤ 1000000000000000) :
    Calls Try.prog 78 #[.pointer (some ⟨g, 0, none⟩)] w fun e w' => (∃ P Q G : Int, e = .returned (.agg #[.int .i64 P, .int .i64 Q, .int .i64 G]) ∧ (-7 ≤ P ∧ P ≤ 2000000010) ∧ (-7 ≤ Q ∧ Q ≤ 2000000010) ∧ (-7 ≤ G ∧ G ≤ 2000000010)) ∧ Cur w0 w' g (n + 10) ∧ Within g (g + 1) w w' := by
  have HC := Lib.hid h
  have hg := h.lt
  have hg0 := h.ge
  have HB0 := Lib.hid hb
  clear h hb
  obtain ⟨W, hW⟩ : ∃ W, W = w.alloc (.cells #[.int .i64 0, .int .i64 0, .int .i64 0] 24) := ⟨_, rfl⟩
  have hbW : Below w.heap.size w W := by rw [hW]; exact (Below.refl _ _).alloc (Nat.le_refl _) _
  have HX : Hid (BoxN W w.heap.size 24 [.int .i64 0, .int .i64 0, .int .i64 0]) := by unfold Hid; rw [hW]; exact BoxN.new w _ _
  have HSW : Hid (W.heap.size = w.heap.size + 1) := by unfold Hid; rw [hW]; simp
  have hsW : w.heap.size < W.heap.size := by have := HSW.out; omega
  replace HC := Lib.hid (HC.out.keep hbW)
  have HBW := Lib.hid hbW
  have HWW : Hid (Within g (g + 1) w W) := Within.of_below hbW
  have HB1 := Lib.hid (Below.next HB0.out hbW)
  clear hbW
  go_enter Try.func78, Try.ntmps78
  go_wp2_with fail
  rw [← hW]
  clear hW
  refine (spec_group w0 g _ _ HC.out HB1.out (by omega)).mono ?_
  rintro e w1 ⟨⟨P, Q, G, rfl, ⟨P1, P2⟩, ⟨Q1, Q2⟩, ⟨G1, G2⟩⟩, hc, hw⟩
  replace HX := Lib.hid (HX.out.kept hw (.inr (by omega)))
  replace HWW := Lib.hid (HWW.out.trans hw)
  replace HB1 := Lib.hid (hw.belowOf HB1.out (by omega))
  replace HC := Lib.hid hc
  have hs1 := hw.size
  clear hc hw
  obtain ⟨V, hV⟩ : ∃ V, V = w1.alloc (.cells #[.int .i64 P, .int .i64 Q, .int .i64 G] 24) := ⟨_, rfl⟩
  have hbV : Below w1.heap.size w1 V := by rw [hV]; exact (Below.refl _ _).alloc (Nat.le_refl _) _
  have HZ : Hid (BoxN V w1.heap.size 24 [.int .i64 P, .int .i64 Q, .int .i64 G]) := by unfold Hid; rw [hV]; exact BoxN.new w1 _ _
  have HSV : Hid (V.heap.size = w1.heap.size + 1) := by unfold Hid; rw [hV]; simp
  go_wp2_with fail
  rw [← hV]
  clear hV
  replace HX := Lib.hid (HX.out.below hbV)
  replace HWW := Lib.hid (HWW.out.trans (Within.of_below hbV))
  replace HB1 := Lib.hid (Below.next HB1.out hbV)
  replace HC := Lib.hid (HC.out.keep hbV)
  have hsV : w1.heap.size < V.heap.size := by have := HSV.out; omega
  clear hbV
  refine (spec_pick w0 g _ 24 _ HC.out HB1.out (by omega)).mono ?_
  rintro e w2 ⟨⟨i, rfl, hi0, _, hi2, _⟩, hc, hw⟩
  clear hi2
  replace HX := Lib.hid (HX.out.kept hw (.inr (by omega)))
  replace HZ := Lib.hid (HZ.out.kept hw (.inr (by omega)))
  replace HWW := Lib.hid (HWW.out.trans hw)
  replace HB1 := Lib.hid (hw.belowOf HB1.out (by omega))
  replace HC := Lib.hid hc
  have hs2 := hw.size
  clear hc hw HSV
  obtain ⟨V, rfl⟩ : ∃ u, u = w2 := ⟨_, rfl⟩
  have z0' := HZ.out.cell (i := 0) rfl
  have z1' := HZ.out.cell (i := 1) rfl
  have z2' := HZ.out.cell (i := 2) rfl
  have e1 : IntKind.i64.wrap (P + 2) = P + 2 := IntWalk.i64_in _ (by omega)
  have e2 : IntKind.i64.wrap (Q + 1) = Q + 1 := IntWalk.i64_in _ (by omega)
  have e3 : IntKind.i64.wrap (P - 1) = P - 1 := IntWalk.i64_in _ (by omega)
  have e4 : IntKind.i64.wrap (G + 1) = G + 1 := IntWalk.i64_in _ (by omega)
  rcases (by omega : i = 0 ∨ i = 1 ∨ i = 2 ∨ (i ≠ 0 ∧ i ≠ 1 ∧ i ≠ 2)) with rfl | rfl | rfl | ⟨i0, i1, i2⟩
  · go_wp2_with fail
    refine (spec_among w0 g _ _ [0, P + 2, 4, -7] _ (HC.out.keep ((Below.refl _ _).alloc (Nat.le_refl _) _)) (HB1.out.alloc HB1.out.size _) (by omega) (Apart.of_ownI (OwnI.lit V (Nat.le_refl _) (lit_I64 (by simp; omega)) (by rfl) (by simp; decide) 4 rfl) (by omega)) (by simp)).mono ?_
    rintro e w3 ⟨⟨x, rfl, hx⟩, hc, hw⟩
    have hxb : -7 ≤ x ∧ x ≤ 2000000010 := by
      simp only [List.mem_cons, List.not_mem_nil, or_false] at hx
      omega
    have hw3 : Within g (g + 1) V w3 := (Within.of_below ((Below.refl _ _).alloc (Nat.le_refl _) _)).trans hw
    have HZ3 := Lib.hid (HZ.out.kept hw3 (.inr (by omega)))
    have HX3 := Lib.hid (HX.out.kept hw3 (.inr (by omega)))
    have HW3 := Lib.hid (HWW.out.trans hw3)
    have HC3 := Lib.hid hc
    have hs3 := hw3.size
    clear hc hw hw3 hx z0' z1' z2'
    have q0 := HZ3.out.cell (i := 0) rfl
    have q1 := HZ3.out.cell (i := 1) rfl
    have q2 := HZ3.out.cell (i := 2) rfl
    have fq := fun j => HZ3.out.frozen j
    have HZ6 := Lib.hid (HZ3.out.set 0 (.int .i64 x))
    have HX6 := Lib.hid (HX3.out.other (b' := w1.heap.size) (by omega) 0 (.int .i64 x))
    have HBs : Hid (Below w.heap.size w3 (w3.setCell ⟨w1.heap.size, 0, none⟩ (.int .i64 x))) := (Below.refl w.heap.size _).setCell (by show w.heap.size ≤ w1.heap.size; omega) _
    have r0 := HX6.out.cell (i := 0) rfl
    have r1 := HX6.out.cell (i := 1) rfl
    have r2 := HX6.out.cell (i := 2) rfl
    have fr := fun j => HX6.out.frozen j
    go_wp2_with fail
    clear q0 q1 q2 fq
    obtain ⟨Y, hY⟩ : ∃ Y, Y = ((((w3.setCell ⟨w1.heap.size, 0, none⟩ (.int .i64 x)).setCell ⟨w.heap.size, 0, none⟩ (.int .i64 x)).setCell ⟨w.heap.size, 1, none⟩ (.int .i64 Q)).setCell ⟨w.heap.size, 2, none⟩ (.int .i64 G)) := ⟨_, rfl⟩
    have HXY : Hid (BoxN Y w.heap.size 24 [.int .i64 x, .int .i64 Q, .int .i64 G]) := by unfold Hid; rw [hY]; exact (((HX6.out).set 0 _).set 1 _).set 2 _
    have HBY : Hid (Below w.heap.size ((w3.setCell ⟨w1.heap.size, 0, none⟩ (.int .i64 x))) Y) := by unfold Hid; rw [hY]; exact (((Below.refl w.heap.size _).setCell (Nat.le_refl _) _).setCell (Nat.le_refl _) _).setCell (Nat.le_refl _) _
    rw [← hY]
    clear hY r0 r1 r2 fr
    have r0 := HXY.out.cell (i := 0) rfl
    have r1 := HXY.out.cell (i := 1) rfl
    have r2 := HXY.out.cell (i := 2) rfl
    refine bodyPost_ret (v := .agg #[.int .i64 x, .int .i64 Q, .int .i64 G]) (by simp [results, Try.results78, go_sem, r0, r1, r2]) rfl ⟨⟨_, _, _, rfl, ⟨by omega, by omega⟩, ⟨by omega, by omega⟩, ⟨by omega, by omega⟩⟩, ((HC3.out.belowB HBs.out hg).belowB HBY.out hg).mono (by omega), (HW3.out.belowStep HBs.out).belowStep HBY.out⟩
  · go_wp2_with fail
    refine (spec_among w0 g _ _ [0, 1, Q + 1, P - 1] _ (HC.out.keep ((Below.refl _ _).alloc (Nat.le_refl _) _)) (HB1.out.alloc HB1.out.size _) (by omega) (Apart.of_ownI (OwnI.lit V (Nat.le_refl _) (lit_I64 (by simp; omega)) (by rfl) (by simp; decide) 4 rfl) (by omega)) (by simp)).mono ?_
    rintro e w3 ⟨⟨x, rfl, hx⟩, hc, hw⟩
    have hxb : -7 ≤ x ∧ x ≤ 2000000010 := by
      simp only [List.mem_cons, List.not_mem_nil, or_false] at hx
      omega
    have hw3 : Within g (g + 1) V w3 := (Within.of_below ((Below.refl _ _).alloc (Nat.le_refl _) _)).trans hw
    have HZ3 := Lib.hid (HZ.out.kept hw3 (.inr (by omega)))
    have HX3 := Lib.hid (HX.out.kept hw3 (.inr (by omega)))
    have HW3 := Lib.hid (HWW.out.trans hw3)
    have HC3 := Lib.hid hc
    have hs3 := hw3.size
    clear hc hw hw3 hx z0' z1' z2'
    have q0 := HZ3.out.cell (i := 0) rfl
    have q1 := HZ3.out.cell (i := 1) rfl
    have q2 := HZ3.out.cell (i := 2) rfl
    have fq := fun j => HZ3.out.frozen j
    have HZ6 := Lib.hid (HZ3.out.set 1 (.int .i64 x))
    have HX6 := Lib.hid (HX3.out.other (b' := w1.heap.size) (by omega) 1 (.int .i64 x))
    have HBs : Hid (Below w.heap.size w3 (w3.setCell ⟨w1.heap.size, 1, none⟩ (.int .i64 x))) := (Below.refl w.heap.size _).setCell (by show w.heap.size ≤ w1.heap.size; omega) _
    have r0 := HX6.out.cell (i := 0) rfl
    have r1 := HX6.out.cell (i := 1) rfl
    have r2 := HX6.out.cell (i := 2) rfl
    have fr := fun j => HX6.out.frozen j
    go_wp2_with fail
    clear q0 q1 q2 fq
    obtain ⟨Y, hY⟩ : ∃ Y, Y = ((((w3.setCell ⟨w1.heap.size, 1, none⟩ (.int .i64 x)).setCell ⟨w.heap.size, 0, none⟩ (.int .i64 P)).setCell ⟨w.heap.size, 1, none⟩ (.int .i64 x)).setCell ⟨w.heap.size, 2, none⟩ (.int .i64 G)) := ⟨_, rfl⟩
    have HXY : Hid (BoxN Y w.heap.size 24 [.int .i64 P, .int .i64 x, .int .i64 G]) := by unfold Hid; rw [hY]; exact (((HX6.out).set 0 _).set 1 _).set 2 _
    have HBY : Hid (Below w.heap.size ((w3.setCell ⟨w1.heap.size, 1, none⟩ (.int .i64 x))) Y) := by unfold Hid; rw [hY]; exact (((Below.refl w.heap.size _).setCell (Nat.le_refl _) _).setCell (Nat.le_refl _) _).setCell (Nat.le_refl _) _
    rw [← hY]
    clear hY r0 r1 r2 fr
    have r0 := HXY.out.cell (i := 0) rfl
    have r1 := HXY.out.cell (i := 1) rfl
    have r2 := HXY.out.cell (i := 2) rfl
    refine bodyPost_ret (v := .agg #[.int .i64 P, .int .i64 x, .int .i64 G]) (by simp [results, Try.results78, go_sem, r0, r1, r2]) rfl ⟨⟨_, _, _, rfl, ⟨by omega, by omega⟩, ⟨by omega, by omega⟩, ⟨by omega, by omega⟩⟩, ((HC3.out.belowB HBs.out hg).belowB HBY.out hg).mono (by omega), (HW3.out.belowStep HBs.out).belowStep HBY.out⟩
  · go_wp2_with fail
    refine (spec_among w0 g _ _ [0, 1, P - 1, P, G + 1] _ (HC.out.keep ((Below.refl _ _).alloc (Nat.le_refl _) _)) (HB1.out.alloc HB1.out.size _) (by omega) (Apart.of_ownI (OwnI.lit V (Nat.le_refl _) (lit_I64 (by simp; omega)) (by rfl) (by simp; decide) 5 rfl) (by omega)) (by simp)).mono ?_
    rintro e w3 ⟨⟨x, rfl, hx⟩, hc, hw⟩
    have hxb : -7 ≤ x ∧ x ≤ 2000000010 := by
      simp only [List.mem_cons, List.not_mem_nil, or_false] at hx
      omega
    have hw3 : Within g (g + 1) V w3 := (Within.of_below ((Below.refl _ _).alloc (Nat.le_refl _) _)).trans hw
    have HZ3 := Lib.hid (HZ.out.kept hw3 (.inr (by omega)))
    have HX3 := Lib.hid (HX.out.kept hw3 (.inr (by omega)))
    have HW3 := Lib.hid (HWW.out.trans hw3)
    have HC3 := Lib.hid hc
    have hs3 := hw3.size
    clear hc hw hw3 hx z0' z1' z2'
    have q0 := HZ3.out.cell (i := 0) rfl
    have q1 := HZ3.out.cell (i := 1) rfl
    have q2 := HZ3.out.cell (i := 2) rfl
    have fq := fun j => HZ3.out.frozen j
    have HZ6 := Lib.hid (HZ3.out.set 2 (.int .i64 x))
    have HX6 := Lib.hid (HX3.out.other (b' := w1.heap.size) (by omega) 2 (.int .i64 x))
    have HBs : Hid (Below w.heap.size w3 (w3.setCell ⟨w1.heap.size, 2, none⟩ (.int .i64 x))) := (Below.refl w.heap.size _).setCell (by show w.heap.size ≤ w1.heap.size; omega) _
    have r0 := HX6.out.cell (i := 0) rfl
    have r1 := HX6.out.cell (i := 1) rfl
    have r2 := HX6.out.cell (i := 2) rfl
    have fr := fun j => HX6.out.frozen j
    go_wp2_with fail
    clear q0 q1 q2 fq
    obtain ⟨Y, hY⟩ : ∃ Y, Y = ((((w3.setCell ⟨w1.heap.size, 2, none⟩ (.int .i64 x)).setCell ⟨w.heap.size, 0, none⟩ (.int .i64 P)).setCell ⟨w.heap.size, 1, none⟩ (.int .i64 Q)).setCell ⟨w.heap.size, 2, none⟩ (.int .i64 x)) := ⟨_, rfl⟩
    have HXY : Hid (BoxN Y w.heap.size 24 [.int .i64 P, .int .i64 Q, .int .i64 x]) := by unfold Hid; rw [hY]; exact (((HX6.out).set 0 _).set 1 _).set 2 _
    have HBY : Hid (Below w.heap.size ((w3.setCell ⟨w1.heap.size, 2, none⟩ (.int .i64 x))) Y) := by unfold Hid; rw [hY]; exact (((Below.refl w.heap.size _).setCell (Nat.le_refl _) _).setCell (Nat.le_refl _) _).setCell (Nat.le_refl _) _
    rw [← hY]
    clear hY r0 r1 r2 fr
    have r0 := HXY.out.cell (i := 0) rfl
    have r1 := HXY.out.cell (i := 1) rfl
    have r2 := HXY.out.cell (i := 2) rfl
    refine bodyPost_ret (v := .agg #[.int .i64 P, .int .i64 Q, .int .i64 x]) (by simp [results, Try.results78, go_sem, r0, r1, r2]) rfl ⟨⟨_, _, _, rfl, ⟨by omega, by omega⟩, ⟨by omega, by omega⟩, ⟨by omega, by omega⟩⟩, ((HC3.out.belowB HBs.out hg).belowB HBY.out hg).mono (by omega), (HW3.out.belowStep HBs.out).belowStep HBY.out⟩
  · have j0 : (i == 0) = false := by rw [beq_eq_false_iff_ne]; exact i0
    have j1 : (i == 1) = false := by rw [beq_eq_false_iff_ne]; exact i1
    have j2 : (i == 2) = false := by rw [beq_eq_false_iff_ne]; exact i2
    have r0 := HX.out.cell (i := 0) rfl
    have r1 := HX.out.cell (i := 1) rfl
    have r2 := HX.out.cell (i := 2) rfl
    have fr := fun j => HX.out.frozen j
    go_wp2_with fail
    clear z0' z1' z2'
    obtain ⟨Y, hY⟩ : ∃ Y, Y = (((V.setCell ⟨w.heap.size, 0, none⟩ (.int .i64 P)).setCell ⟨w.heap.size, 1, none⟩ (.int .i64 Q)).setCell ⟨w.heap.size, 2, none⟩ (.int .i64 G)) := ⟨_, rfl⟩
    have HXY : Hid (BoxN Y w.heap.size 24 [.int .i64 P, .int .i64 Q, .int .i64 G]) := by unfold Hid; rw [hY]; exact (((HX.out).set 0 _).set 1 _).set 2 _
    have HBY : Hid (Below w.heap.size (V) Y) := by unfold Hid; rw [hY]; exact (((Below.refl w.heap.size _).setCell (Nat.le_refl _) _).setCell (Nat.le_refl _) _).setCell (Nat.le_refl _) _
    rw [← hY]
    clear hY r0 r1 r2 fr
    have r0 := HXY.out.cell (i := 0) rfl
    have r1 := HXY.out.cell (i := 1) rfl
    have r2 := HXY.out.cell (i := 2) rfl
    refine bodyPost_ret (v := .agg #[.int .i64 P, .int .i64 Q, .int .i64 G]) (by simp [results, Try.results78, go_sem, r0, r1, r2]) rfl ⟨⟨_, _, _, rfl, ⟨by omega, by omega⟩, ⟨by omega, by omega⟩, ⟨by omega, by omega⟩⟩, ((HC.out).belowB HBY.out hg).mono (by omega), (HWW.out).belowStep HBY.out⟩
end Go.Proofs.Ytacpnphfopmofaa
namespace Go.Proofs.Ytacpnphfopmofaa
open Go.RowKit
set_option linter.unusedSimpArgs false
set_option linter.unusedVariables false

set_option maxRecDepth 100000 in
set_option maxHeartbeats 2000000 in
theorem spec_expo (w0 : World) (g : Nat) (n P Q G : Int) (w : World) (h : Cur w0 w g n) (hb : Below w0.heap.size w0 w) (hn : n ≤ 2000000000000000) (hgr : GrB ⟨P, Q, G⟩) :
    Calls Try.prog 62 #[.pointer (some ⟨g, 0, none⟩), .agg #[.int .i64 P, .int .i64 Q, .int .i64 G]] w fun e w' => (∃ x : Int, e = .returned (.int .i64 x) ∧ 0 ≤ x ∧ x ≤ 2000000010) ∧ Cur w0 w' g (n + 4) ∧ Within g (g + 1) w w' := by
  obtain ⟨⟨P1, P2⟩, ⟨Q1, Q2⟩, ⟨G1, G2⟩⟩ := hgr
  simp only [] at P1 P2 Q1 Q2 G1 G2
  have HC := Lib.hid h
  have hg := h.lt
  have hg0 := h.ge
  have HB0 := Lib.hid hb
  clear h hb
  obtain ⟨W, hW⟩ : ∃ W, W = w.alloc (.cells #[.int .i64 P, .int .i64 Q, .int .i64 G] 24) := ⟨_, rfl⟩
  have hbW : Below w.heap.size w W := by rw [hW]; exact (Below.refl _ _).alloc (Nat.le_refl _) _
  have HX : Hid (BoxN W w.heap.size 24 [.int .i64 P, .int .i64 Q, .int .i64 G]) := by unfold Hid; rw [hW]; exact BoxN.new w _ _
  have HSW : Hid (W.heap.size = w.heap.size + 1) := by unfold Hid; rw [hW]; simp
  have hsW : w.heap.size < W.heap.size := by have := HSW.out; omega
  replace HC := Lib.hid (HC.out.keep hbW)
  have HBW := Lib.hid hbW
  have HWW : Hid (Within g (g + 1) w W) := Within.of_below hbW
  have HB1 := Lib.hid (Below.next HB0.out hbW)
  clear hbW
  have c0 := HX.out.cell (i := 0) rfl
  have c1 := HX.out.cell (i := 1) rfl
  have c2 := HX.out.cell (i := 2) rfl
  by_cases hq : Q < 2
  · go_enter Try.func62, Try.ntmps62
    go_wp2_with fail
    rw [← hW]
    clear hW
    try (go_wp2_with fail)
    go_ret
    exact ⟨⟨0, rfl, by omega, by omega⟩, HC.out.mono (by omega), HWW.out⟩
  · go_enter Try.func62, Try.ntmps62
    go_wp2_with fail
    rw [← hW]
    clear hW
    try (go_wp2_with fail)
    have hqz : ¬ Q = 0 := by omega
    have hqz2 : (Q == 0) = false := by rw [beq_eq_false_iff_ne]; omega
    refine wp_region_noPanic ?_
    refine wp_region_take (fun w' => Within g (g + 1) W w' ∧ w'.cell? ⟨w.heap.size, 1, none⟩ = some (.int .i64 Q)) 16 [(true, 0), (true, 3), (true, 6), (true, 7), (false, 1), (true, 2), (false, 4), (true, 5), (true, 8)] [9] (by kernel_rfl) (by kernel_rfl) rfl (fun _ _ _ _ _ h => h) ⟨(Within.refl _ _ _).drew, c1⟩ ?_
    simp only [pickL, pickN, List.getElem?_cons_zero, List.getElem?_cons_succ]
    have hwz : Within g (g + 1) W W.drew := (Within.refl _ _ _).drew
    repeat (refine' wpTake_read _ (by rfl) (fun w' hS' => ?_) ?_; rotate_left; · ((try dsimp only at hS'); go_simp; (try with_reducible rfl)); (try simp only [Act.put, List.setIfInBounds_toArray, List.set_cons_zero, List.set_cons_succ]))
    refine wpTake_do (by rfl) (fun K hK => ?_)
    go_simp
    go_at_call 72
    refine (spec_pick w0 g _ 60000 _ (HC.out.keep (Below.refl _ _).drew) (hwz.belowOf HB1.out (by omega)) (by omega)).mono ?_
    rintro e w4 ⟨⟨x, rfl, hx0, _, hx1, _⟩, hc, hw⟩
    replace hx1 := hx1 (by omega)
    have hw4 := hwz.trans hw
    have HC4 := Lib.hid hc
    clear hc hw hwz
    have em : IntKind.i64.wrap (x * 60000) = x * 60000 := IntWalk.i64_in _ (by omega)
    refine hK.out _ _ ⟨hw4, within_at hw4 c1 (.inr (by omega))⟩ (fun _ => ?_)
    clear hK K
    try simp only [Act.put, List.setIfInBounds_toArray, List.set_cons_zero, List.set_cons_succ]
    repeat (refine' wpTake_read _ (by rfl) (fun w' hS' => ?_) ?_; rotate_left; · ((try dsimp only at hS'); go_simp; (try with_reducible rfl)); (try simp only [Act.put, List.setIfInBounds_toArray, List.set_cons_zero, List.set_cons_succ]))
    refine wpTake_do (by rfl) (fun K hK => ?_)
    go_simp
    go_at_call 72
    refine (spec_pick w0 g _ 60000 _ HC4.out (hw4.belowOf HB1.out (by omega)) (by omega)).mono ?_
    rintro e w5 ⟨⟨y, rfl, hy0, _, hy1, _⟩, hc, hw⟩
    replace hy1 := hy1 (by omega)
    have hw5 := hw4.trans hw
    have HC5 := Lib.hid hc
    clear hc hw hw4
    have r0 : 0 ≤ (x * 60000 + y) % Q := Int.emod_nonneg _ hqz
    have r1 : (x * 60000 + y) % Q < Q := Int.emod_lt_of_pos _ (by omega)
    have et : Int.tmod (x * 60000 + y) Q = (x * 60000 + y) % Q := Int.tmod_eq_emod_of_nonneg (by omega)
    have ea : IntKind.i64.wrap (x * 60000 + y) = x * 60000 + y := IntWalk.i64_in _ (by omega)
    have er : IntKind.i64.wrap ((x * 60000 + y) % Q) = (x * 60000 + y) % Q := IntWalk.i64_in _ (by omega)
    refine hK.out _ _ ⟨hw5, within_at hw5 c1 (.inr (by omega))⟩ (fun _ => ?_)
    clear hK K
    try simp only [Act.put, List.setIfInBounds_toArray, List.set_cons_zero, List.set_cons_succ]
    repeat (refine' wpTake_read _ (by rfl) (fun w' hS' => ?_) ?_; rotate_left; · ((try dsimp only at hS'); go_simp; (try with_reducible rfl)); (try simp only [Act.put, List.setIfInBounds_toArray, List.set_cons_zero, List.set_cons_succ]))
    refine wpTake_nil ?_
    have HW5 := Lib.hid (HWW.out.trans hw5)
    clear hw5 c0 c1 c2
    go_wp2_with fail
    refine NoPanic.normal ?_
    go_wp2_with fail
    go_ret
    exact ⟨⟨_, rfl, by omega, by omega⟩, HC5.out.mono (by omega), HW5.out⟩
set_option maxRecDepth 100000 in
set_option maxHeartbeats 2000000 in
theorem spec_element (w0 : World) (g : Nat) (n P Q G : Int) (w : World) (h : Cur w0 w g n) (hb : Below w0.heap.size w0 w) (hn : n ≤ 1500000000000000) (hgr : GrB ⟨P, Q, G⟩) :
    Calls Try.prog 60 #[.pointer (some ⟨g, 0, none⟩), .agg #[.int .i64 P, .int .i64 Q, .int .i64 G]] w fun e w' => (∃ x : Int, e = .returned (.int .i64 x) ∧ 0 ≤ x ∧ x ≤ 2000000010) ∧ Cur w0 w' g (n + 4) ∧ Within g (g + 1) w w' := by
  have HGR := Lib.hid hgr
  obtain ⟨⟨P1, P2⟩, ⟨Q1, Q2⟩, ⟨G1, G2⟩⟩ := hgr
  simp only [] at P1 P2 Q1 Q2 G1 G2
  have HC := Lib.hid h
  have hg := h.lt
  have hg0 := h.ge
  have HB0 := Lib.hid hb
  clear h hb
  obtain ⟨W, hW⟩ : ∃ W, W = w.alloc (.cells #[.int .i64 P, .int .i64 Q, .int .i64 G] 24) := ⟨_, rfl⟩
  have hbW : Below w.heap.size w W := by rw [hW]; exact (Below.refl _ _).alloc (Nat.le_refl _) _
  have HX : Hid (BoxN W w.heap.size 24 [.int .i64 P, .int .i64 Q, .int .i64 G]) := by unfold Hid; rw [hW]; exact BoxN.new w _ _
  have HSW : Hid (W.heap.size = w.heap.size + 1) := by unfold Hid; rw [hW]; simp
  have hsW : w.heap.size < W.heap.size := by have := HSW.out; omega
  replace HC := Lib.hid (HC.out.keep hbW)
  have HBW := Lib.hid hbW
  have HWW : Hid (Within g (g + 1) w W) := Within.of_below hbW
  have HB1 := Lib.hid (Below.next HB0.out hbW)
  clear hbW
  have c0 := HX.out.cell (i := 0) rfl
  have c1 := HX.out.cell (i := 1) rfl
  have c2 := HX.out.cell (i := 2) rfl
  by_cases hp : P < 3
  · go_enter Try.func60, Try.ntmps60
    go_wp2_with fail
    rw [← hW]
    clear hW
    try (go_wp2_with fail)
    go_ret
    exact ⟨⟨1, rfl, by omega, by omega⟩, HC.out.mono (by omega), HWW.out⟩
  by_cases hq : Q < 1
  · go_enter Try.func60, Try.ntmps60
    go_wp2_with fail
    rw [← hW]
    clear hW
    try (go_wp2_with fail)
    go_ret
    exact ⟨⟨1, rfl, by omega, by omega⟩, HC.out.mono (by omega), HWW.out⟩
  · go_enter Try.func60, Try.ntmps60
    go_wp2_with fail
    rw [← hW]
    clear hW
    try (go_wp2_with fail)
    have hm0 : 0 ≤ G % P := Int.emod_nonneg _ (by omega)
    have hm1 : G % P < P := Int.emod_lt_of_pos _ (by omega)
    refine wp_region_noPanic ?_
    refine wp_region_take (fun w' => Within g (g + 1) W w' ∧ w'.cell? ⟨w.heap.size, 0, none⟩ = some (.int .i64 P) ∧ w'.cell? ⟨w.heap.size, 1, none⟩ = some (.int .i64 Q) ∧ w'.cell? ⟨w.heap.size, 2, none⟩ = some (.int .i64 G)) 16 [(true, 0), (true, 1), (true, 2), (true, 3), (true, 4), (true, 6), (true, 7), (false, 5), (false, 8), (false, 9)] [10] (by kernel_rfl) (by kernel_rfl) rfl (fun _ _ _ _ _ h => h) ⟨(Within.refl _ _ _).drew, c0, c1, c2⟩ ?_
    simp only [pickL, pickN, List.getElem?_cons_zero, List.getElem?_cons_succ]
    have hwz : Within g (g + 1) W W.drew := (Within.refl _ _ _).drew
    repeat (refine' wpTake_read _ (by rfl) (fun w' hS' => ?_) ?_; rotate_left; · ((try dsimp only at hS'); go_simp; (try with_reducible rfl)); (try simp only [Act.put, List.setIfInBounds_toArray, List.set_cons_zero, List.set_cons_succ]))
    refine wpTake_do (by rfl) (fun K hK => ?_)
    go_simp
    go_at_call 94
    refine (spec_nMod G P _ ⟨by omega, by omega⟩ (by omega) (by omega)).mono ?_
    rintro e w4 ⟨rfl, rfl⟩
    refine hK.out _ _ ⟨hwz, within_at hwz c0 (.inr (by omega)), within_at hwz c1 (.inr (by omega)), within_at hwz c2 (.inr (by omega))⟩ (fun _ => ?_)
    clear hK K
    try simp only [Act.put, List.setIfInBounds_toArray, List.set_cons_zero, List.set_cons_succ]
    refine wpTake_do (by rfl) (fun K hK => ?_)
    go_simp
    go_at_call 62
    refine (spec_expo w0 g _ P Q G _ (HC.out.keep (Below.refl _ _).drew) (hwz.belowOf HB1.out (by omega)) (by omega) HGR.out).mono ?_
    rintro e w5 ⟨⟨y, rfl, hy0, hy1⟩, hc, hw⟩
    have hw5 := hwz.trans hw
    have HC5 := Lib.hid hc
    clear hc hw hwz
    refine hK.out _ _ ⟨hw5, within_at hw5 c0 (.inr (by omega)), within_at hw5 c1 (.inr (by omega)), within_at hw5 c2 (.inr (by omega))⟩ (fun _ => ?_)
    clear hK K
    try simp only [Act.put, List.setIfInBounds_toArray, List.set_cons_zero, List.set_cons_succ]
    refine wpTake_do (by rfl) (fun K hK => ?_)
    go_simp
    go_at_call 57
    refine (spec_gExpW ⟨P, Q, G⟩ (G % P) y _ ⟨by show (1 : Int) ≤ P; omega, by show P ≤ 3000000000; omega⟩ ⟨by show (1 : Int) ≤ Q; omega, by show Q ≤ 3000000000; omega⟩ ⟨by omega, by omega⟩ ⟨by omega, by omega⟩).mono ?_
    rintro e w6 ⟨⟨z, rfl, hz0, hz1⟩, hb6⟩
    replace hz1 : z < P := hz1
    have hw6 := hw5.trans (Within.of_below hb6)
    have HC6 := Lib.hid (HC5.out.keep hb6)
    clear hb6 hw5
    refine hK.out _ _ ⟨hw6, within_at hw6 c0 (.inr (by omega)), within_at hw6 c1 (.inr (by omega)), within_at hw6 c2 (.inr (by omega))⟩ (fun _ => ?_)
    clear hK K
    try simp only [Act.put, List.setIfInBounds_toArray, List.set_cons_zero, List.set_cons_succ]
    refine wpTake_nil ?_
    have HW6 := Lib.hid (HWW.out.trans hw6)
    clear hw6 c0 c1 c2
    go_wp2_with fail
    refine NoPanic.normal ?_
    go_wp2_with fail
    go_ret
    exact ⟨⟨_, rfl, by omega, by omega⟩, HC6.out.mono (by omega), HW6.out⟩
set_option maxRecDepth 100000 in
set_option maxHeartbeats 2000000 in
theorem spec_anyElement (w0 : World) (g : Nat) (n P Q G : Int) (w : World) (h : Cur w0 w g n) (hb : Below w0.heap.size w0 w) (hn : n ≤ 1000000000000000) (hgr : GrB ⟨P, Q, G⟩) :
    Calls Try.prog 44 #[.pointer (some ⟨g, 0, none⟩), .agg #[.int .i64 P, .int .i64 Q, .int .i64 G]] w fun e w' => (∃ x : Int, e = .returned (.int .i64 x) ∧ -10 ≤ x ∧ x ≤ 2000000010) ∧ Cur w0 w' g (n + 6) ∧ Within g (g + 1) w w' := by
  have HGR := Lib.hid hgr
  obtain ⟨⟨P1, P2⟩, ⟨Q1, Q2⟩, ⟨G1, G2⟩⟩ := hgr
  simp only [] at P1 P2 Q1 Q2 G1 G2
  have HC := Lib.hid h
  have hg := h.lt
  have hg0 := h.ge
  have HB0 := Lib.hid hb
  clear h hb
  obtain ⟨W, hW⟩ : ∃ W, W = w.alloc (.cells #[.int .i64 P, .int .i64 Q, .int .i64 G] 24) := ⟨_, rfl⟩
  have hbW : Below w.heap.size w W := by rw [hW]; exact (Below.refl _ _).alloc (Nat.le_refl _) _
  have HX : Hid (BoxN W w.heap.size 24 [.int .i64 P, .int .i64 Q, .int .i64 G]) := by unfold Hid; rw [hW]; exact BoxN.new w _ _
  have HSW : Hid (W.heap.size = w.heap.size + 1) := by unfold Hid; rw [hW]; simp
  have hsW : w.heap.size < W.heap.size := by have := HSW.out; omega
  replace HC := Lib.hid (HC.out.keep hbW)
  have HBW := Lib.hid hbW
  have HWW : Hid (Within g (g + 1) w W) := Within.of_below hbW
  have HB1 := Lib.hid (Below.next HB0.out hbW)
  clear hbW
  have ew1 : IntKind.i64.wrap (P - 1) = P - 1 := IntWalk.i64_in _ (by omega)
  have ew2 : IntKind.i64.wrap (Q - 1) = Q - 1 := IntWalk.i64_in _ (by omega)
  go_enter Try.func44, Try.ntmps44
  go_wp2_with fail
  rw [← hW]
  clear hW
  refine (spec_one w0 g _ 20 _ HC.out HB1.out (by omega)).mono ?_
  rintro e w1 ⟨⟨q, rfl⟩, hc, hw⟩
  replace HX := Lib.hid (HX.out.kept hw (.inr (by omega)))
  replace HWW := Lib.hid (HWW.out.trans hw)
  replace HB1 := Lib.hid (hw.belowOf HB1.out (by omega))
  replace HC := Lib.hid hc
  have hs1 := hw.size
  clear hc hw
  have c0 := HX.out.cell (i := 0) rfl
  have c1 := HX.out.cell (i := 1) rfl
  have c2 := HX.out.cell (i := 2) rfl
  cases q with
  | false =>
    go_wp2_with fail
    refine (spec_element w0 g _ P Q G _ HC.out HB1.out (by omega) HGR.out).mono ?_
    rintro e w2 ⟨⟨x, rfl, hx0, hx1⟩, hc, hw⟩
    have HW2 := Lib.hid (HWW.out.trans hw)
    have HC2 := Lib.hid hc
    clear hc hw c0 c1 c2
    go_wp2_with fail
    go_ret
    exact ⟨⟨x, rfl, by omega, by omega⟩, HC2.out.mono (by omega), HW2.out⟩
  | true =>
    go_wp2_with fail
    refine (spec_among w0 g _ _ [0, 1, P - 1, P, -1, 5] _ (HC.out.keep ((Below.refl _ _).alloc (Nat.le_refl _) _)) (HB1.out.alloc HB1.out.size _) (by omega) (Apart.of_ownI (OwnI.lit w1 (Nat.le_refl _) (lit_I64 (by simp; omega)) (by rfl) (by simp; decide) 6 rfl) (by omega)) (by simp)).mono ?_
    rintro e w3 ⟨⟨x, rfl, hx⟩, hc, hw⟩
    have hxb : -10 ≤ x ∧ x ≤ 2000000010 := by
      simp only [List.mem_cons, List.not_mem_nil, or_false] at hx
      omega
    have HW2 := Lib.hid ((HWW.out.allocR _).trans hw)
    have HC2 := Lib.hid hc
    clear hc hw hx c0 c1 c2
    go_wp2_with fail
    go_ret
    exact ⟨⟨x, rfl, by omega, by omega⟩, HC2.out.mono (by omega), HW2.out⟩
set_option maxRecDepth 100000 in
set_option maxHeartbeats 2000000 in
theorem spec_anyExpo (w0 : World) (g : Nat) (n P Q G : Int) (w : World) (h : Cur w0 w g n) (hb : Below w0.heap.size w0 w) (hn : n ≤ 1000000000000000) (hgr : GrB ⟨P, Q, G⟩) :
    Calls Try.prog 45 #[.pointer (some ⟨g, 0, none⟩), .agg #[.int .i64 P, .int .i64 Q, .int .i64 G]] w fun e w' => (∃ x : Int, e = .returned (.int .i64 x) ∧ -10 ≤ x ∧ x ≤ 2000000010) ∧ Cur w0 w' g (n + 6) ∧ Within g (g + 1) w w' := by
  have HGR := Lib.hid hgr
  obtain ⟨⟨P1, P2⟩, ⟨Q1, Q2⟩, ⟨G1, G2⟩⟩ := hgr
  simp only [] at P1 P2 Q1 Q2 G1 G2
  have HC := Lib.hid h
  have hg := h.lt
  have hg0 := h.ge
  have HB0 := Lib.hid hb
  clear h hb
  obtain ⟨W, hW⟩ : ∃ W, W = w.alloc (.cells #[.int .i64 P, .int .i64 Q, .int .i64 G] 24) := ⟨_, rfl⟩
  have hbW : Below w.heap.size w W := by rw [hW]; exact (Below.refl _ _).alloc (Nat.le_refl _) _
  have HX : Hid (BoxN W w.heap.size 24 [.int .i64 P, .int .i64 Q, .int .i64 G]) := by unfold Hid; rw [hW]; exact BoxN.new w _ _
  have HSW : Hid (W.heap.size = w.heap.size + 1) := by unfold Hid; rw [hW]; simp
  have hsW : w.heap.size < W.heap.size := by have := HSW.out; omega
  replace HC := Lib.hid (HC.out.keep hbW)
  have HBW := Lib.hid hbW
  have HWW : Hid (Within g (g + 1) w W) := Within.of_below hbW
  have HB1 := Lib.hid (Below.next HB0.out hbW)
  clear hbW
  have ew1 : IntKind.i64.wrap (P - 1) = P - 1 := IntWalk.i64_in _ (by omega)
  have ew2 : IntKind.i64.wrap (Q - 1) = Q - 1 := IntWalk.i64_in _ (by omega)
  go_enter Try.func45, Try.ntmps45
  go_wp2_with fail
  rw [← hW]
  clear hW
  refine (spec_one w0 g _ 24 _ HC.out HB1.out (by omega)).mono ?_
  rintro e w1 ⟨⟨q, rfl⟩, hc, hw⟩
  replace HX := Lib.hid (HX.out.kept hw (.inr (by omega)))
  replace HWW := Lib.hid (HWW.out.trans hw)
  replace HB1 := Lib.hid (hw.belowOf HB1.out (by omega))
  replace HC := Lib.hid hc
  have hs1 := hw.size
  clear hc hw
  have c0 := HX.out.cell (i := 0) rfl
  have c1 := HX.out.cell (i := 1) rfl
  have c2 := HX.out.cell (i := 2) rfl
  cases q with
  | false =>
    go_wp2_with fail
    refine (spec_expo w0 g _ P Q G _ HC.out HB1.out (by omega) HGR.out).mono ?_
    rintro e w2 ⟨⟨x, rfl, hx0, hx1⟩, hc, hw⟩
    have HW2 := Lib.hid (HWW.out.trans hw)
    have HC2 := Lib.hid hc
    clear hc hw c0 c1 c2
    go_wp2_with fail
    go_ret
    exact ⟨⟨x, rfl, by omega, by omega⟩, HC2.out.mono (by omega), HW2.out⟩
  | true =>
    go_wp2_with fail
    refine (spec_among w0 g _ _ [Q, -1, Q - 1] _ (HC.out.keep ((Below.refl _ _).alloc (Nat.le_refl _) _)) (HB1.out.alloc HB1.out.size _) (by omega) (Apart.of_ownI (OwnI.lit w1 (Nat.le_refl _) (lit_I64 (by simp; omega)) (by rfl) (by simp; decide) 3 rfl) (by omega)) (by simp)).mono ?_
    rintro e w3 ⟨⟨x, rfl, hx⟩, hc, hw⟩
    have hxb : -10 ≤ x ∧ x ≤ 2000000010 := by
      simp only [List.mem_cons, List.not_mem_nil, or_false] at hx
      omega
    have HW2 := Lib.hid ((HWW.out.allocR _).trans hw)
    have HC2 := Lib.hid hc
    clear hc hw hx c0 c1 c2
    go_wp2_with fail
    go_ret
    exact ⟨⟨x, rfl, by omega, by omega⟩, HC2.out.mono (by omega), HW2.out⟩
end Go.Proofs.Ytacpnphfopmofaa
namespace Go.Proofs.Ytacpnphfopmofaa
open Go.RowKit
set_option linter.unusedSimpArgs false
set_option linter.unusedVariables false

/-- what holds in every world that agrees with w in the blocks from B on -/
def Since (B : Nat) (w : World) (P : World → Prop) : Prop := ∀ w', w.heap.size ≤ w'.heap.size → (∀ k, B ≤ k → k < w.heap.size → w'.heap[k]? = w.heap[k]?) → P w'
theorem Since.here {B : Nat} {w : World} {P : World → Prop} (h : Since B w P) : P w := h w (Nat.le_refl _) fun _ _ _ => rfl
theorem Since.step {B : Nat} {w w' : World} {P : World → Prop} (h : Since B w P) (hs : w.heap.size ≤ w'.heap.size) (hb : ∀ k, B ≤ k → k < w.heap.size → w'.heap[k]? = w.heap[k]?) : Since B w' P :=
  fun u h1 h2 => h u (Nat.le_trans hs h1) fun k hk hlt => (h2 k hk (Nat.lt_of_lt_of_le hlt hs)).trans (hb k hk hlt)
theorem Since.within {B lo hi : Nat} {w w' : World} {P : World → Prop} (h : Since B w P) (hw : Within lo hi w w') (hd : hi ≤ B) : Since B w' P := h.step hw.size fun k hk hlt => hw.block k hlt (.inr (by omega))
theorem Since.below {B : Nat} {w w' : World} {P : World → Prop} (h : Since B w P) (hb : Below w.heap.size w w') : Since B w' P := h.step hb.size fun k _ hlt => hb.block k hlt
theorem OwnI.since {B : Nat} {w w' : World} {v : Value} {l : List Int} (h : OwnI w B v l) (hs : w.heap.size ≤ w'.heap.size) (hb : ∀ k, B ≤ k → k < w.heap.size → w'.heap[k]? = w.heap[k]?) : OwnI w' B v l := by
  refine ⟨h.1, h.2.1, ?_⟩
  rcases h.2.2 with h2 | ⟨g, cap, cur, rfl, hg, hr, r⟩
  · exact .inl h2
  · exact .inr ⟨g, cap, cur, rfl, hg, (hb g hg (Array.getElem?_eq_some_iff.1 hr).1).trans hr, r⟩
theorem Since.of_ownI {B B' : Nat} {w : World} {v : Value} {l : List Int} (h : OwnI w B v l) (hB : B' ≤ B) : Since B' w (fun u => Ints u v l) := fun u hs hb => (h.since hs fun k hk hlt => hb k (by omega) hlt).ints
end Go.Proofs.Ytacpnphfopmofaa
