/- Draws of groups: MakeGroup, weak contracts of powers. -/
import Derived.Test.YtacpnphfopmofaaGreatPow2S
import Derived.Test.YtacpnphfopmofaaGreatBmS
import Derived.Test.YtacpnphfopmofaaGreatRegPS
import Derived.Deep.QuietTactic
import Derived.BigQuiet
namespace Go.Proofs.YtacpnphfopmofaaGreat
open Go.RowKit
set_option linter.unusedSimpArgs false
set_option linter.unusedVariables false

theorem powM_self {p e : Int} (hp : 0 < p) (he : 1 ≤ e) : powM p e p = 0 := by
  unfold powM
  obtain ⟨k, hk⟩ : ∃ k, e.toNat = k + 1 := ⟨e.toNat - 1, by omega⟩
  rw [hk, Int.pow_succ, Int.mul_comm]
  exact Int.mul_emod_right _ _
/-- weak bounds of a drawn group -/
def GrB (gr : GroupD) : Prop := (-7 ≤ gr.p ∧ gr.p ≤ 2000000010) ∧ (-7 ≤ gr.q ∧ gr.q ≤ 2000000010) ∧ (-7 ≤ gr.g ∧ gr.g ≤ 2000000010)
set_option maxHeartbeats 1000000 in
theorem spec_gExpW (gr : GroupD) (x e : Int) (w : World) (hp : 1 ≤ gr.p ∧ gr.p ≤ 3000000000) (hq : 1 ≤ gr.q ∧ gr.q ≤ 3000000000) (hx : 0 ≤ x ∧ x ≤ 3000000000) (he : I64 e) :
    Calls Tryz.prog 65 #[.agg #[.int .i64 gr.p, .int .i64 gr.q, .int .i64 gr.g], .int .i64 x, .int .i64 e] w fun e' w' => (∃ y : Int, e' = .returned (.int .i64 y) ∧ 0 ≤ y ∧ y < gr.p) ∧ Below w.heap.size w w' := by
  obtain ⟨hp1, hp2⟩ := hp
  obtain ⟨hq1, hq2⟩ := hq
  obtain ⟨p, q, g⟩ := gr
  obtain ⟨hx1, hx2⟩ := hx
  simp only [] at hp1 hp2 hq1 hq2
  have HR := Lib.hid (powM_bd (a := x) (e := e % q) (m := p) (by omega))
  have hm0 : 0 ≤ e % q := Int.emod_nonneg _ (by omega)
  have hm1 : e % q < q := Int.emod_lt_of_pos _ (by omega)
  have HE := Lib.hid he; clear he
  go_enter Tryz.func65, Tryz.ntmps65
  go_wp2
  go_quiet (first
    | (go_at_call 85; exact Calls.quiet_of_same ((spec_nMod e q _ HE.out (by omega) (by omega)).mono fun e' w' h => ⟨h.1, h.2.symm⟩))
    | (go_at_call 106; exact Calls.quiet_of_same ((spec_nPower x (e % q) p _ (by omega) (by omega) (by omega)).mono fun e' w' h => ⟨h.1, h.2.symm⟩))
    | fail)
  go_wp2
  go_ret
  exact ⟨⟨_, rfl, HR.out.1, HR.out.2⟩, by (repeat (first | exact Below.refl _ _ | assumption | refine Below.drew ?_ | refine below_drewN ?_ _ | refine Below.alloc ?_ (by first | (simp; done) | (simp; omega)) _ | refine Below.setCell ?_ (by first | (simp; done) | (simp; omega)) _))⟩
set_option maxRecDepth 100000 in
set_option maxHeartbeats 4000000 in
theorem spec_MakeGroup (q p0 : Int) (j : Nat) (w : World) (hq : 2 ≤ q ∧ q ≤ 1000000) (hqp : Prm q) (hpp : Prm p0) (hj : p0 = q + 1 + j * q) (hb : p0 ≤ 2000000000) :
    Calls Tryz.prog 74 #[.int .i64 q] w fun e w' => (∃ P G : Int, e = .returned (.tuple #[.agg #[.int .i64 P, .int .i64 q, .int .i64 G], .bool true]) ∧ q + 1 ≤ P ∧ P ≤ 2000000000 ∧ 0 ≤ G ∧ G < P) ∧ Below w.heap.size w w' := by
  obtain ⟨hq1, hq2⟩ := hq
  have HQ : Hid (primeB q = true) := primeB_yes hqp
  have HP : Hid (primeB p0 = true) := primeB_yes hpp
  have HIN : Hid (decide (2 ≤ q ∧ q ≤ 1000000) = true) := decide_eq_true ⟨hq1, hq2⟩
  have HJ := Lib.hid hj
  clear hqp hpp hj
  obtain ⟨W, hW⟩ : ∃ W, W = w.alloc (.cells #[.int .i64 0, .int .i64 0, .int .i64 0] 24) := ⟨_, rfl⟩
  have HB : Hid (Below w.heap.size w W) := by unfold Hid; rw [hW]; exact (Below.refl _ _).alloc (Nat.le_refl _) _
  have HX : Hid (BoxN W w.heap.size 24 [.int .i64 0, .int .i64 0, .int .i64 0]) := by unfold Hid; rw [hW]; exact BoxN.new w _ _
  have ew0 : IntKind.i64.wrap (q + 1) = q + 1 := IntWalk.i64_in _ (by omega)
  go_enter Tryz.func74, Tryz.ntmps74
  go_wp2_with fail
  rw [← hW]
  clear hW
  refine (spec_l1In q 2 1000000 _).mono ?_
  rintro e w1 ⟨rfl, rfl⟩
  rw [HIN.out]
  go_wp2_with fail
  refine (spec_nPrime q _ (by omega)).mono ?_
  rintro e w1 ⟨rfl, rfl⟩
  rw [HQ.out]
  go_wp2_with fail
  go_loopg [4] j (fun gg pv wr => ∃ p : Int, Hid (p0 = p + (gg : Int) * q) ∧ pv = .int .i64 p ∧ q + 1 ≤ p ∧ p ≤ p0 ∧ W = wr)
  case atStart => exact ⟨q + 1, HJ.out, rfl, Int.le_refl _, by have := HJ.out; have : 0 ≤ (j : Int) * q := Int.mul_nonneg (by omega) (by omega); omega, rfl⟩
  case round =>
    obtain ⟨p, HK, rfl, hp1, hp2, rfl⟩ := hrel
    have hle : p ≤ 2000000000 := by omega
    go_wp2_with fail
    refine (spec_nPrime p _ (by omega)).mono ?_
    rintro e w2 ⟨rfl, rfl⟩
    obtain ⟨b, hpb⟩ : ∃ b, primeB p = b := ⟨_, rfl⟩
    rw [hpb]
    cases b with
    | false =>
      have hne : p ≠ p0 := fun e => by
        have h1 := HP.out
        rw [← e, hpb] at h1
        cases h1
      obtain ⟨f, rfl⟩ : ∃ f, gk = f + 1 := by
        cases gk with
        | zero => exact absurd (by have := HK.out; simpa using this.symm) hne
        | succ f => exact ⟨f, rfl⟩
      have hk2 : p0 = p + q + (f : Int) * q := by
        have h1 := HK.out
        rw [show ((f + 1 : Nat) : Int) = (f : Int) + 1 by omega, Int.add_mul] at h1
        omega
      have hfq : 0 ≤ (f : Int) * q := Int.mul_nonneg (by omega) (by omega)
      have hpq : p + q ≤ p0 := by omega
      have HK2 := Lib.hid hk2
      have ew : IntKind.i64.wrap (p + q) = p + q := IntWalk.i64_in _ (by omega)
      clear HK hne hk2 hfq hpb
      go_wp2_with fail
      go_roundg f
      case measure => omega
      case rel => exact ⟨p + q, HK2.out, rfl, by omega, by omega, rfl⟩
    | true =>
      have ht0 : 0 ≤ (p - 1) / q := Int.ediv_nonneg (by omega) (by omega)
      have ht1 : (p - 1) / q ≤ p - 1 := Int.ediv_le_self _ (by omega)
      have ht2 : 1 ≤ (p - 1) / q := (Int.le_ediv_iff_mul_le (by omega)).2 (by omega)
      have HS := Lib.hid (powM_self (p := p) (e := (p - 1) / q) (by omega) ht2)
      have HPB : Hid (∀ h : Int, 0 ≤ powM h ((p - 1) / q) p ∧ powM h ((p - 1) / q) p < p) := fun h => powM_bd (by omega)
      have et : Int.tdiv (p - 1) q = (p - 1) / q := Int.tdiv_eq_ediv_of_nonneg (by omega)
      obtain ⟨e', he'⟩ : ∃ e', (p - 1) / q = e' := ⟨_, rfl⟩
      rw [he'] at ht0 ht1 ht2 HS HPB et
      have HE := Lib.hid he'
      clear he'
      have ewp : IntKind.i64.wrap (p - 1) = p - 1 := IntWalk.i64_in _ (by omega)
      have ewe : IntKind.i64.wrap e' = e' := IntWalk.i64_in _ (by omega)
      have hqz : ¬ q = 0 := by omega
      go_wp2_with fail
      go_loopg [5] (p.toNat) (fun gg hv wr => ∃ h : Int, hv = .int .i64 h ∧ 2 ≤ h ∧ h ≤ p ∧ p - h ≤ (gg : Int) ∧ W = wr)
      case atStart => exact ⟨2, rfl, by omega, by omega, by omega, rfl⟩
      case round =>
        obtain ⟨h, rfl, h2, h3, h4, rfl⟩ := hrel
        have HY := HPB.out h
        have HSP : Hid (h = p → powM h e' p = 0) := fun e => by rw [e]; exact HS.out
        have ewh : IntKind.i64.wrap (h + 1) = h + 1 := IntWalk.i64_in _ (by omega)
        go_wp2_with fail
        try rw [HE.out]
        refine (spec_nPower h e' p _ (by omega) (by omega) (by omega)).mono ?_
        rintro e w3 ⟨rfl, rfl⟩
        obtain ⟨y, hy⟩ : ∃ y, powM h e' p = y := ⟨_, rfl⟩
        rw [hy] at HY HSP ⊢
        have HYY := Lib.hid hy; clear hy
        obtain ⟨y0, y1⟩ := HY
        by_cases hy1 : y = 1
        · subst hy1
          have hlt : h < p := by
            rcases (by omega : h = p ∨ h < p) with h5 | h5
            · have := HSP.out h5; omega
            · exact h5
          obtain ⟨f, rfl⟩ : ∃ f, gk = f + 1 := ⟨gk - 1, by omega⟩
          go_wp2_with fail
          go_roundg f
          case measure => omega
          case rel => exact ⟨h + 1, rfl, by omega, by omega, by omega, rfl⟩
        · have hyb : (y == 1) = false := by rw [beq_eq_false_iff_ne]; exact hy1
          clear hy1
          go_wp2_with fail
          try rw [HE.out]
          refine (spec_nPower h e' p _ (by omega) (by omega) (by omega)).mono ?_
          rintro e w3 ⟨rfl, rfl⟩
          rw [HYY.out]
          have r0 := HX.out.cell (i := 0) rfl
          have r1 := HX.out.cell (i := 1) rfl
          have r2 := HX.out.cell (i := 2) rfl
          have fr := fun j => HX.out.frozen j
          go_wp2_with fail
          obtain ⟨Y, hY⟩ : ∃ Y, Y = (((W.setCell ⟨w.heap.size, 0, none⟩ (.int .i64 p)).setCell ⟨w.heap.size, 1, none⟩ (.int .i64 q)).setCell ⟨w.heap.size, 2, none⟩ (.int .i64 y)) := ⟨_, rfl⟩
          have HY4 : Hid (BoxN Y w.heap.size 24 [.int .i64 p, .int .i64 q, .int .i64 y]) := by unfold Hid; rw [hY]; exact ((HX.out.set 0 _).set 1 _).set 2 _
          have HB4 : Hid (Below w.heap.size w Y) := by unfold Hid; rw [hY]; exact ((HB.out.setCell (Nat.le_refl _) _).setCell (Nat.le_refl _) _).setCell (Nat.le_refl _) _
          rw [← hY]
          clear hY r0 r1 r2 fr
          have r0 := HY4.out.cell (i := 0) rfl
          have r1 := HY4.out.cell (i := 1) rfl
          have r2 := HY4.out.cell (i := 2) rfl
          refine bodyPost_ret (v := .tuple #[.agg #[.int .i64 p, .int .i64 q, .int .i64 y], .bool true]) (by simp [results, Tryz.results74, go_sem, r0, r1, r2]) rfl ⟨⟨p, y, rfl, hp1, by omega, y0, y1⟩, HB4.out⟩
end Go.Proofs.YtacpnphfopmofaaGreat
namespace Go.Proofs.YtacpnphfopmofaaGreat
open Go.RowKit
set_option linter.unusedSimpArgs false
set_option linter.unusedVariables false

/-- no number from 2 to D + 1 divides n -/
def noDivC (n : Nat) : Nat → Bool
  | 0 => true
  | D + 1 => n % (D + 2) != 0 && noDivC n D
theorem noDivC_at {n : Nat} : ∀ {D : Nat}, noDivC n D = true → ∀ d, d < D → n % (d + 2) ≠ 0
  | 0, _, d, hd => by omega
  | D + 1, h, d, hd => by
    simp only [noDivC, Bool.and_eq_true, bne_iff_ne] at h
    rcases (by omega : d = D ∨ d < D) with rfl | h2
    · exact h.1
    · exact noDivC_at h.2 d h2
theorem Prm_check {n D : Nat} (h2 : 2 ≤ n) (hD : n < (D + 2) * (D + 2)) (h : noDivC n D = true) : Prm (n : Int) := by
  refine ⟨by omega, fun d h3 h4 => ?_⟩
  obtain ⟨e, rfl⟩ := Int.eq_ofNat_of_zero_le (by omega : 0 ≤ d)
  have h5 : e * e ≤ n := by exact_mod_cast h4
  have h6 : e < D + 2 := by
    rcases Nat.lt_or_ge e (D + 2) with h | h
    · exact h
    · have := Nat.mul_le_mul h h; omega
  have h7 : 2 ≤ e := by omega
  have h8 := noDivC_at h (e - 2) (by omega)
  rw [show e - 2 + 2 = e by omega] at h8
  intro h9
  exact h8 (by exact_mod_cast h9)
/-- MakeGroup finds a group for this number -/
def MkOk (x : Int) : Prop := ∃ p0 : Int, ∃ j : Nat, (2 ≤ x ∧ x ≤ 1000000) ∧ Prm x ∧ Prm p0 ∧ p0 = x + 1 + j * x ∧ p0 ≤ 2000000000
theorem mkOk_tiny : ∀ x ∈ ([3, 5, 5, 7, 11, 11, 13, 23] : List Int), MkOk x := by
  have h3 : MkOk 3 := ⟨7, 1, by omega, Prm_check (n := 3) (D := 0) (by decide) (by decide) (by decide +kernel), Prm_check (n := 7) (D := 1) (by decide) (by decide) (by decide +kernel), by omega, by omega⟩
  have h5 : MkOk 5 := ⟨11, 1, by omega, Prm_check (n := 5) (D := 1) (by decide) (by decide) (by decide +kernel), Prm_check (n := 11) (D := 2) (by decide) (by decide) (by decide +kernel), by omega, by omega⟩
  have h7 : MkOk 7 := ⟨29, 3, by omega, Prm_check (n := 7) (D := 1) (by decide) (by decide) (by decide +kernel), Prm_check (n := 29) (D := 4) (by decide) (by decide) (by decide +kernel), by omega, by omega⟩
  have h11 : MkOk 11 := ⟨23, 1, by omega, Prm_check (n := 11) (D := 2) (by decide) (by decide) (by decide +kernel), Prm_check (n := 23) (D := 3) (by decide) (by decide) (by decide +kernel), by omega, by omega⟩
  have h13 : MkOk 13 := ⟨53, 3, by omega, Prm_check (n := 13) (D := 2) (by decide) (by decide) (by decide +kernel), Prm_check (n := 53) (D := 6) (by decide) (by decide) (by decide +kernel), by omega, by omega⟩
  have h23 : MkOk 23 := ⟨47, 1, by omega, Prm_check (n := 23) (D := 3) (by decide) (by decide) (by decide +kernel), Prm_check (n := 47) (D := 5) (by decide) (by decide) (by decide +kernel), by omega, by omega⟩
  intro x hx
  simp only [List.mem_cons, List.not_mem_nil, or_false] at hx
  rcases hx with rfl | rfl | rfl | rfl | rfl | rfl | rfl | rfl <;> assumption
theorem mkOk_more : ∀ x ∈ ([101, 1009, 1019, 65537, 999983] : List Int), MkOk x := by
  have h1 : MkOk 101 := ⟨607, 5, by omega, Prm_check (n := 101) (D := 9) (by decide) (by decide) (by decide +kernel), Prm_check (n := 607) (D := 24) (by decide) (by decide) (by decide +kernel), by omega, by omega⟩
  have h2 : MkOk 1009 := ⟨10091, 9, by omega, Prm_check (n := 1009) (D := 30) (by decide) (by decide) (by decide +kernel), Prm_check (n := 10091) (D := 100) (by decide) (by decide) (by decide +kernel), by omega, by omega⟩
  have h3 : MkOk 1019 := ⟨2039, 1, by omega, Prm_check (n := 1019) (D := 30) (by decide) (by decide) (by decide +kernel), Prm_check (n := 2039) (D := 44) (by decide) (by decide) (by decide +kernel), by omega, by omega⟩
  have h4 : MkOk 65537 := ⟨917519, 13, by omega, Prm_check (n := 65537) (D := 255) (by decide) (by decide) (by decide +kernel), Prm_check (n := 917519) (D := 957) (by decide) (by decide) (by decide +kernel), by omega, by omega⟩
  have h5 : MkOk 999983 := ⟨11999797, 11, by omega, Prm_check (n := 999983) (D := 998) (by decide) (by decide) (by decide +kernel), Prm_check (n := 11999797) (D := 3463) (by decide) (by decide) (by decide +kernel), by omega, by omega⟩
  intro x hx
  simp only [List.mem_cons, List.not_mem_nil, or_false] at hx
  rcases hx with rfl | rfl | rfl | rfl | rfl <;> assumption
end Go.Proofs.YtacpnphfopmofaaGreat
namespace Go.Proofs.YtacpnphfopmofaaGreat
open Go.RowKit
set_option linter.unusedSimpArgs false
set_option linter.unusedVariables false

set_option maxRecDepth 100000 in
set_option maxHeartbeats 2000000 in
theorem spec_tiny (w0 : World) (g : Nat) (n : Int) (w : World) (h : Cur w0 w g n) (hb : Below w0.heap.size w0 w) (hn : n ≤ 2000000000000000) :
    Calls Tryz.prog 122 #[.pointer (some ⟨g, 0, none⟩)] w fun e w' => (∃ P Q G : Int, e = .returned (.agg #[.int .i64 P, .int .i64 Q, .int .i64 G]) ∧ (3 ≤ P ∧ P ≤ 2000000000) ∧ (2 ≤ Q ∧ Q ≤ 1000000) ∧ (0 ≤ G ∧ G < P)) ∧ Cur w0 w' g (n + 2) ∧ Within g (g + 1) w w' := by
  have HC := Lib.hid h
  have hg := h.lt
  have hg0 := h.ge
  have HB0 := Lib.hid hb
  clear h hb
  obtain ⟨W, hW⟩ : ∃ W, W = w.alloc (.cells #[.int .i64 0, .int .i64 0, .int .i64 0] 24) := ⟨_, rfl⟩
  have hbW : Below w.heap.size w W := by rw [hW]; exact (Below.refl _ _).alloc (Nat.le_refl _) _
  have HX : Hid (BoxN W w.heap.size 24 [.int .i64 0, .int .i64 0, .int .i64 0]) := by unfold Hid; rw [hW]; exact BoxN.new w _ _
  have HSW : Hid (W.heap.size = w.heap.size + 1) := by unfold Hid; rw [hW]; simp
  have hsW : w.heap.size < W.heap.size := by have := HSW.out; omega
  replace HC := Lib.hid (HC.out.keep hbW)
  have HBW := Lib.hid hbW
  have HWW : Hid (Within g (g + 1) w W) := Within.of_below hbW
  have HB1 := Lib.hid (Below.next HB0.out hbW)
  clear hbW
  go_enter Tryz.func122, Tryz.ntmps122
  go_wp2_with fail
  rw [← hW]
  try rw [← HSW.out]
  clear hW
  refine (spec_among w0 g _ _ [3, 5, 5, 7, 11, 11, 13, 23] _ (HC.out.keep ((Below.refl _ _).alloc (Nat.le_refl _) _)) (HB1.out.alloc HB1.out.size _) (by omega) (Apart.of_ownI (OwnI.lit W (Nat.le_refl _) (lit_I64 rfl) (by rfl) (by decide) 8 rfl) (by omega)) (by decide)).mono ?_
  rintro e w1 ⟨⟨x, rfl, hx⟩, hc, hw⟩
  obtain ⟨p0, j, hx1, hx2, hx3, hx4, hx5⟩ := mkOk_tiny x hx
  have hw1 : Within g (g + 1) W w1 := (Within.of_below ((Below.refl _ _).alloc (Nat.le_refl _) _)).trans hw
  have HX1 := Lib.hid (HX.out.kept hw1 (.inr (by omega)))
  have HW1 := Lib.hid (HWW.out.trans hw1)
  have HC1 := Lib.hid hc
  have hs1 := hw1.size
  clear hc hw hw1 hx
  go_wp2_with fail
  refine (spec_MakeGroup x p0 j _ hx1 hx2 hx3 hx4 hx5).mono ?_
  rintro e w2 ⟨⟨P, G, rfl, P1, P2, G1, G2⟩, hb2⟩
  have HX2 := Lib.hid (HX1.out.below hb2)
  have HW2 := Lib.hid (HW1.out.trans (Within.of_below hb2))
  have HC2 := Lib.hid (HC1.out.keep hb2)
  have hs2 := hb2.size
  obtain ⟨x1, x2⟩ := hx1
  clear hb2 hx2 hx3 hx4 hx5
  have r0 := fun o => (HX2.out.alloc o).cell (i := 0) rfl
  have r1 := fun o => (HX2.out.alloc o).cell (i := 1) rfl
  have r2 := fun o => (HX2.out.alloc o).cell (i := 2) rfl
  have fr := fun o j => (HX2.out.alloc o).frozen j
  go_wp2_with fail
  obtain ⟨Y, hY⟩ : ∃ Y, Y = ((((w2.alloc (.cells #[.int .i64 P, .int .i64 x, .int .i64 G] 24)).setCell ⟨w.heap.size, 0, none⟩ (.int .i64 P)).setCell ⟨w.heap.size, 1, none⟩ (.int .i64 x)).setCell ⟨w.heap.size, 2, none⟩ (.int .i64 G)) := ⟨_, rfl⟩
  have HXY : Hid (BoxN Y w.heap.size 24 [.int .i64 P, .int .i64 x, .int .i64 G]) := by unfold Hid; rw [hY]; exact (((HX2.out.alloc _).set 0 _).set 1 _).set 2 _
  have HBY : Hid (Below w.heap.size ((w2.alloc (.cells #[.int .i64 P, .int .i64 x, .int .i64 G] 24))) Y) := by unfold Hid; rw [hY]; exact (((Below.refl w.heap.size _).setCell (Nat.le_refl _) _).setCell (Nat.le_refl _) _).setCell (Nat.le_refl _) _
  rw [← hY]
  clear hY r0 r1 r2 fr
  have r0 := HXY.out.cell (i := 0) rfl
  have r1 := HXY.out.cell (i := 1) rfl
  have r2 := HXY.out.cell (i := 2) rfl
  refine bodyPost_ret (v := .agg #[.int .i64 P, .int .i64 x, .int .i64 G]) (by simp [results, Tryz.results122, go_sem, r0, r1, r2]) rfl ⟨⟨_, _, _, rfl, ⟨by omega, by omega⟩, ⟨by omega, by omega⟩, ⟨by omega, by omega⟩⟩, ((HC2.out.keep ((Below.refl _ _).alloc (Nat.le_refl _) _)).belowB HBY.out hg).mono (by omega), (HW2.out.allocR _).belowStep HBY.out⟩
set_option maxRecDepth 100000 in
set_option maxHeartbeats 4000000 in
theorem spec_group (w0 : World) (g : Nat) (n : Int) (w : World) (h : Cur w0 w g n) (hb : Below w0.heap.size w0 w) (hn : n ≤ 1500000000000000) :
    Calls Tryz.prog 110 #[.pointer (some ⟨g, 0, none⟩)] w fun e w' => (∃ P Q G : Int, e = .returned (.agg #[.int .i64 P, .int .i64 Q, .int .i64 G]) ∧ (3 ≤ P ∧ P ≤ 2000000000) ∧ (2 ≤ Q ∧ Q ≤ 2000000000) ∧ (0 ≤ G ∧ G < P)) ∧ Cur w0 w' g (n + 6) ∧ Within g (g + 1) w w' := by
  have HC := Lib.hid h
  have hg := h.lt
  have hg0 := h.ge
  have HB0 := Lib.hid hb
  clear h hb
  obtain ⟨W, hW⟩ : ∃ W, W = w.alloc (.cells #[.int .i64 0, .int .i64 0, .int .i64 0] 24) := ⟨_, rfl⟩
  have hbW : Below w.heap.size w W := by rw [hW]; exact (Below.refl _ _).alloc (Nat.le_refl _) _
  have HX : Hid (BoxN W w.heap.size 24 [.int .i64 0, .int .i64 0, .int .i64 0]) := by unfold Hid; rw [hW]; exact BoxN.new w _ _
  have HSW : Hid (W.heap.size = w.heap.size + 1) := by unfold Hid; rw [hW]; simp
  have hsW : w.heap.size < W.heap.size := by have := HSW.out; omega
  replace HC := Lib.hid (HC.out.keep hbW)
  have HBW := Lib.hid hbW
  have HWW : Hid (Within g (g + 1) w W) := Within.of_below hbW
  have HB1 := Lib.hid (Below.next HB0.out hbW)
  clear hbW
  go_enter Tryz.func110, Tryz.ntmps110
  go_wp2_with fail
  rw [← hW]
  clear hW
  refine (spec_pick w0 g _ 6 _ HC.out HB1.out (by omega)).mono ?_
  rintro e wP ⟨⟨i, rfl, hi0, hi1, hi2, _⟩, hc, hw⟩
  have hi6 := hi2 (by omega)
  clear hi1 hi2
  replace HX := Lib.hid (HX.out.kept hw (.inr (by omega)))
  replace HWW := Lib.hid (HWW.out.trans hw)
  replace HB1 := Lib.hid (hw.belowOf HB1.out (by omega))
  replace HC := Lib.hid hc
  have hsp := hw.size
  clear hc hw
  by_cases h0 : i = 0
  · subst h0
    have r0 := HX.out.cell (i := 0) rfl
    have r1 := HX.out.cell (i := 1) rfl
    have r2 := HX.out.cell (i := 2) rfl
    have fr := fun j => HX.out.frozen j
    go_wp2_with fail
    obtain ⟨Y, hY⟩ : ∃ Y, Y = (((wP.setCell ⟨w.heap.size, 0, none⟩ (.int .i64 1000000007)).setCell ⟨w.heap.size, 1, none⟩ (.int .i64 500000003)).setCell ⟨w.heap.size, 2, none⟩ (.int .i64 4)) := ⟨_, rfl⟩
    have HXY : Hid (BoxN Y w.heap.size 24 [.int .i64 1000000007, .int .i64 500000003, .int .i64 4]) := by unfold Hid; rw [hY]; exact (((HX.out).set 0 _).set 1 _).set 2 _
    have HBY : Hid (Below w.heap.size (wP) Y) := by unfold Hid; rw [hY]; exact (((Below.refl w.heap.size _).setCell (Nat.le_refl _) _).setCell (Nat.le_refl _) _).setCell (Nat.le_refl _) _
    rw [← hY]
    clear hY r0 r1 r2 fr
    have r0 := HXY.out.cell (i := 0) rfl
    have r1 := HXY.out.cell (i := 1) rfl
    have r2 := HXY.out.cell (i := 2) rfl
    refine bodyPost_ret (v := .agg #[.int .i64 1000000007, .int .i64 500000003, .int .i64 4]) (by simp [results, Tryz.results110, go_sem, r0, r1, r2]) rfl ⟨⟨_, _, _, rfl, ⟨by omega, by omega⟩, ⟨by omega, by omega⟩, ⟨by omega, by omega⟩⟩, ((HC.out).belowB HBY.out hg).mono (by omega), (HWW.out).belowStep HBY.out⟩
  · have z0 : (i == 0) = false := by rw [beq_eq_false_iff_ne]; exact h0
    by_cases h1 : i = 1
    · subst h1
      go_wp2_with fail
      refine (spec_among w0 g _ _ [101, 1009, 1019, 65537, 999983] _ (HC.out.keep ((Below.refl _ _).alloc (Nat.le_refl _) _)) (HB1.out.alloc HB1.out.size _) (by omega) (Apart.of_ownI (OwnI.lit wP (Nat.le_refl _) (lit_I64 rfl) (by rfl) (by decide) 5 rfl) (by omega)) (by decide)).mono ?_
      rintro e w1 ⟨⟨x, rfl, hx⟩, hc, hw⟩
      obtain ⟨p0, j, hx1, hx2, hx3, hx4, hx5⟩ := mkOk_more x hx
      have hw1 : Within g (g + 1) wP w1 := (Within.of_below ((Below.refl _ _).alloc (Nat.le_refl _) _)).trans hw
      have HX1 := Lib.hid (HX.out.kept hw1 (.inr (by omega)))
      have HW1 := Lib.hid (HWW.out.trans hw1)
      have HC1 := Lib.hid hc
      have hs1 := hw1.size
      clear hc hw hw1 hx
      go_wp2_with fail
      refine (spec_MakeGroup x p0 j _ hx1 hx2 hx3 hx4 hx5).mono ?_
      rintro e w2 ⟨⟨P, G, rfl, P1, P2, G1, G2⟩, hb2⟩
      have HX2 := Lib.hid (HX1.out.below hb2)
      have HW2 := Lib.hid (HW1.out.trans (Within.of_below hb2))
      have HC2 := Lib.hid (HC1.out.keep hb2)
      have hs2 := hb2.size
      obtain ⟨x1, x2⟩ := hx1
      clear hb2 hx2 hx3 hx4 hx5
      have r0 := fun o => (HX2.out.alloc o).cell (i := 0) rfl
      have r1 := fun o => (HX2.out.alloc o).cell (i := 1) rfl
      have r2 := fun o => (HX2.out.alloc o).cell (i := 2) rfl
      have fr := fun o j => (HX2.out.alloc o).frozen j
      go_wp2_with fail
      obtain ⟨Y, hY⟩ : ∃ Y, Y = ((((w2.alloc (.cells #[.int .i64 P, .int .i64 x, .int .i64 G] 24)).setCell ⟨w.heap.size, 0, none⟩ (.int .i64 P)).setCell ⟨w.heap.size, 1, none⟩ (.int .i64 x)).setCell ⟨w.heap.size, 2, none⟩ (.int .i64 G)) := ⟨_, rfl⟩
      have HXY : Hid (BoxN Y w.heap.size 24 [.int .i64 P, .int .i64 x, .int .i64 G]) := by unfold Hid; rw [hY]; exact (((HX2.out.alloc _).set 0 _).set 1 _).set 2 _
      have HBY : Hid (Below w.heap.size ((w2.alloc (.cells #[.int .i64 P, .int .i64 x, .int .i64 G] 24))) Y) := by unfold Hid; rw [hY]; exact (((Below.refl w.heap.size _).setCell (Nat.le_refl _) _).setCell (Nat.le_refl _) _).setCell (Nat.le_refl _) _
      rw [← hY]
      clear hY r0 r1 r2 fr
      have r0 := HXY.out.cell (i := 0) rfl
      have r1 := HXY.out.cell (i := 1) rfl
      have r2 := HXY.out.cell (i := 2) rfl
      refine bodyPost_ret (v := .agg #[.int .i64 P, .int .i64 x, .int .i64 G]) (by simp [results, Tryz.results110, go_sem, r0, r1, r2]) rfl ⟨⟨_, _, _, rfl, ⟨by omega, by omega⟩, ⟨by omega, by omega⟩, ⟨by omega, by omega⟩⟩, ((HC2.out.keep ((Below.refl _ _).alloc (Nat.le_refl _) _)).belowB HBY.out hg).mono (by omega), (HW2.out.allocR _).belowStep HBY.out⟩
    · have z1 : (i == 1) = false := by rw [beq_eq_false_iff_ne]; exact h1
      clear h0 h1
      go_wp2_with fail
      refine (spec_tiny w0 g _ _ HC.out HB1.out (by omega)).mono ?_
      rintro e w1 ⟨⟨P, Q, G, rfl, ⟨P1, P2⟩, ⟨Q1, Q2⟩, ⟨G1, G2⟩⟩, hc, hw⟩
      replace HX := Lib.hid (HX.out.kept hw (.inr (by omega)))
      replace HWW := Lib.hid (HWW.out.trans hw)
      replace HB1 := Lib.hid (hw.belowOf HB1.out (by omega))
      replace HC := Lib.hid hc
      have hs1 := hw.size
      clear hc hw
      obtain ⟨V, hV⟩ : ∃ V, V = w1.alloc (.cells #[.int .i64 P, .int .i64 Q, .int .i64 G] 24) := ⟨_, rfl⟩
      have hbV : Below w1.heap.size w1 V := by rw [hV]; exact (Below.refl _ _).alloc (Nat.le_refl _) _
      have HZ : Hid (BoxN V w1.heap.size 24 [.int .i64 P, .int .i64 Q, .int .i64 G]) := by unfold Hid; rw [hV]; exact BoxN.new w1 _ _
      go_wp2_with fail
      rw [← hV]
      clear hV
      replace HX := Lib.hid (HX.out.below hbV)
      replace HWW := Lib.hid (HWW.out.trans (Within.of_below hbV))
      replace HB1 := Lib.hid (Below.next HB1.out hbV)
      replace HC := Lib.hid (HC.out.keep hbV)
      have hsV := hbV.size
      clear hbV
      have z0' := HZ.out.cell (i := 0) rfl
      have z1' := HZ.out.cell (i := 1) rfl
      have z2' := HZ.out.cell (i := 2) rfl
      have eq1 : IntKind.i64.wrap (Q - 1) = Q - 1 := IntWalk.i64_in _ (by omega)
      try (go_wp2_with fail)
      refine wp_region_noPanic ?_
      refine wp_region_take (fun w' => Within g (g + 1) V w' ∧ w'.cell? ⟨w1.heap.size, 0, none⟩ = some (.int .i64 P) ∧ w'.cell? ⟨w1.heap.size, 1, none⟩ = some (.int .i64 Q) ∧ w'.cell? ⟨w1.heap.size, 2, none⟩ = some (.int .i64 G)) 16 [(true, 0), (true, 1), (true, 2), (true, 3), (true, 4), (true, 5), (true, 6), (false, 7), (true, 8), (false, 9)] [10, 11] (by kernel_rfl) (by kernel_rfl) rfl (fun _ _ _ _ _ h => h) ⟨(Within.refl _ _ _).drew, z0', z1', z2'⟩ ?_
      simp only [pickL, pickN, List.getElem?_cons_zero, List.getElem?_cons_succ]
      have hwz : Within g (g + 1) V V.drew := (Within.refl _ _ _).drew
      repeat (refine' wpTake_read _ (by rfl) (fun w' hS' => ?_) ?_; rotate_left; · ((try dsimp only at hS'); go_simp; (try with_reducible rfl)); (try simp only [Act.put, List.setIfInBounds_toArray, List.set_cons_zero, List.set_cons_succ]))
      refine wpTake_do (by rfl) (fun K hK => ?_)
      go_simp
      go_at_call 22
      refine (spec_pick w0 g _ (Q - 1) _ (HC.out.keep (Below.refl _ _).drew) (hwz.belowOf HB1.out (by omega)) (by omega)).mono ?_
      rintro e w4 ⟨⟨y, rfl, hy0, hy1, _, _⟩, hc, hw⟩
      have hw4 := hwz.trans hw
      have HC4 := Lib.hid hc
      clear hc hw hwz
      have ey : IntKind.i64.wrap (1 + y) = 1 + y := IntWalk.i64_in _ (by omega)
      refine hK.out _ _ ⟨hw4, within_at hw4 z0' (.inr (by omega)), within_at hw4 z1' (.inr (by omega)), within_at hw4 z2' (.inr (by omega))⟩ (fun _ => ?_)
      clear hK K
      try simp only [Act.put, List.setIfInBounds_toArray, List.set_cons_zero, List.set_cons_succ]
      repeat (refine' wpTake_read _ (by rfl) (fun w' hS' => ?_) ?_; rotate_left; · ((try dsimp only at hS'); go_simp; (try with_reducible rfl)); (try simp only [Act.put, List.setIfInBounds_toArray, List.set_cons_zero, List.set_cons_succ]))
      refine wpTake_do (by rfl) (fun K hK => ?_)
      go_simp
      go_at_call 65
      refine (spec_gExpW ⟨P, Q, G⟩ G (1 + y) _ ⟨by show (1 : Int) ≤ P; omega, by show P ≤ 3000000000; omega⟩ ⟨by show (1 : Int) ≤ Q; omega, by show Q ≤ 3000000000; omega⟩ ⟨by omega, by omega⟩ ⟨by omega, by omega⟩).mono ?_
      rintro e w5 ⟨⟨z, rfl, hz0, hz1⟩, hb5⟩
      have hw5 := hw4.trans (Within.of_below hb5)
      have HC5 := Lib.hid (HC4.out.keep hb5)
      clear hb5 hw4
      refine hK.out _ _ ⟨hw5, within_at hw5 z0' (.inr (by omega)), within_at hw5 z1' (.inr (by omega)), within_at hw5 z2' (.inr (by omega))⟩ (fun _ => ?_)
      clear hK K
      try simp only [Act.put, List.setIfInBounds_toArray, List.set_cons_zero, List.set_cons_succ]
      refine wpTake_nil ?_
      have HZ5 := Lib.hid (HZ.out.kept hw5 (.inr (by omega)))
      have HX5 := Lib.hid (HX.out.kept hw5 (.inr (by omega)))
      have HW5 := Lib.hid (HWW.out.trans hw5)
      have hs5 := hw5.size
      clear hw5 z0' z1' z2'
      have q0 := HZ5.out.cell (i := 0) rfl
      have q1 := HZ5.out.cell (i := 1) rfl
      have q2 := HZ5.out.cell (i := 2) rfl
      have fq := fun j => HZ5.out.frozen j
      go_wp2_with fail
      refine NoPanic.normal ?_
      have HZ6 := Lib.hid (HZ5.out.set 2 (.int .i64 z))
      have HX6 := Lib.hid (HX5.out.other (b' := w1.heap.size) (by omega) 2 (.int .i64 z))
      have HBs : Hid (Below w.heap.size w5 (w5.setCell ⟨w1.heap.size, 2, none⟩ (.int .i64 z))) := (Below.refl w.heap.size _).setCell (by show w.heap.size ≤ w1.heap.size; omega) _
      obtain ⟨U, hU⟩ : ∃ U, U = w5.setCell ⟨w1.heap.size, 2, none⟩ (.int .i64 z) := ⟨_, rfl⟩
      rw [← hU] at HZ6 HX6 HBs ⊢
      clear hU q0 q1 q2 fq
      have q0 := HZ6.out.cell (i := 0) rfl
      have q1 := HZ6.out.cell (i := 1) rfl
      have q2 := HZ6.out.cell (i := 2) rfl
      have r0 := HX6.out.cell (i := 0) rfl
      have r1 := HX6.out.cell (i := 1) rfl
      have r2 := HX6.out.cell (i := 2) rfl
      have fr := fun j => HX6.out.frozen j
      go_wp2_with fail
      clear q0 q1 q2
      obtain ⟨Y, hY⟩ : ∃ Y, Y = (((U.setCell ⟨w.heap.size, 0, none⟩ (.int .i64 P)).setCell ⟨w.heap.size, 1, none⟩ (.int .i64 Q)).setCell ⟨w.heap.size, 2, none⟩ (.int .i64 z)) := ⟨_, rfl⟩
      have HXY : Hid (BoxN Y w.heap.size 24 [.int .i64 P, .int .i64 Q, .int .i64 z]) := by unfold Hid; rw [hY]; exact (((HX6.out).set 0 _).set 1 _).set 2 _
      have HBY : Hid (Below w.heap.size (U) Y) := by unfold Hid; rw [hY]; exact (((Below.refl w.heap.size _).setCell (Nat.le_refl _) _).setCell (Nat.le_refl _) _).setCell (Nat.le_refl _) _
      rw [← hY]
      clear hY r0 r1 r2 fr
      have r0 := HXY.out.cell (i := 0) rfl
      have r1 := HXY.out.cell (i := 1) rfl
      have r2 := HXY.out.cell (i := 2) rfl
      refine bodyPost_ret (v := .agg #[.int .i64 P, .int .i64 Q, .int .i64 z]) (by simp [results, Tryz.results110, go_sem, r0, r1, r2]) rfl ⟨⟨_, _, _, rfl, ⟨by omega, by omega⟩, ⟨by omega, by omega⟩, ⟨by omega, hz1⟩⟩, ((HC5.out.belowB HBs.out hg).belowB HBY.out hg).mono (by omega), (HW5.out.belowStep HBs.out).belowStep HBY.out⟩
end Go.Proofs.YtacpnphfopmofaaGreat
namespace Go.Proofs.YtacpnphfopmofaaGreat
open Go.RowKit
set_option linter.unusedSimpArgs false
set_option linter.unusedVariables false

set_option maxRecDepth 100000 in
set_option maxHeartbeats 4000000 in
theorem spec_anyGroup (w0 : World) (g : Nat) (n : Int) (w : World) (h : Cur w0 w g n) (hb : Below w0.heap.size w0 w) (hn : n ≤ 1000000000000000) :
    Calls Tryz.prog 73 #[.pointer (some ⟨g, 0, none⟩)] w fun e w' => (∃ P Q G : Int, e = .returned (.agg #[.int .i64 P, .int .i64 Q, .int .i64 G]) ∧ (-7 ≤ P ∧ P ≤ 2000000010) ∧ (-7 ≤ Q ∧ Q ≤ 2000000010) ∧ (-7 ≤ G ∧ G ≤ 2000000010)) ∧ Cur w0 w' g (n + 10) ∧ Within g (g + 1) w w' := by
  have HC := Lib.hid h
  have hg := h.lt
  have hg0 := h.ge
  have HB0 := Lib.hid hb
  clear h hb
  obtain ⟨W, hW⟩ : ∃ W, W = w.alloc (.cells #[.int .i64 0, .int .i64 0, .int .i64 0] 24) := ⟨_, rfl⟩
  have hbW : Below w.heap.size w W := by rw [hW]; exact (Below.refl _ _).alloc (Nat.le_refl _) _
  have HX : Hid (BoxN W w.heap.size 24 [.int .i64 0, .int .i64 0, .int .i64 0]) := by unfold Hid; rw [hW]; exact BoxN.new w _ _
  have HSW : Hid (W.heap.size = w.heap.size + 1) := by unfold Hid; rw [hW]; simp
  have hsW : w.heap.size < W.heap.size := by have := HSW.out; omega
  replace HC := Lib.hid (HC.out.keep hbW)
  have HBW := Lib.hid hbW
  have HWW : Hid (Within g (g + 1) w W) := Within.of_below hbW
  have HB1 := Lib.hid (Below.next HB0.out hbW)
  clear hbW
  go_enter Tryz.func73, Tryz.ntmps73
  go_wp2_with fail
  rw [← hW]
  clear hW
  refine (spec_group w0 g _ _ HC.out HB1.out (by omega)).mono ?_
  rintro e w1 ⟨⟨P, Q, G, rfl, ⟨P1, P2⟩, ⟨Q1, Q2⟩, ⟨G1, G2⟩⟩, hc, hw⟩
  replace HX := Lib.hid (HX.out.kept hw (.inr (by omega)))
  replace HWW := Lib.hid (HWW.out.trans hw)
  replace HB1 := Lib.hid (hw.belowOf HB1.out (by omega))
  replace HC := Lib.hid hc
  have hs1 := hw.size
  clear hc hw
  obtain ⟨V, hV⟩ : ∃ V, V = w1.alloc (.cells #[.int .i64 P, .int .i64 Q, .int .i64 G] 24) := ⟨_, rfl⟩
  have hbV : Below w1.heap.size w1 V := by rw [hV]; exact (Below.refl _ _).alloc (Nat.le_refl _) _
  have HZ : Hid (BoxN V w1.heap.size 24 [.int .i64 P, .int .i64 Q, .int .i64 G]) := by unfold Hid; rw [hV]; exact BoxN.new w1 _ _
  have HSV : Hid (V.heap.size = w1.heap.size + 1) := by unfold Hid; rw [hV]; simp
  go_wp2_with fail
  rw [← hV]
  clear hV
  replace HX := Lib.hid (HX.out.below hbV)
  replace HWW := Lib.hid (HWW.out.trans (Within.of_below hbV))
  replace HB1 := Lib.hid (Below.next HB1.out hbV)
  replace HC := Lib.hid (HC.out.keep hbV)
  have hsV : w1.heap.size < V.heap.size := by have := HSV.out; omega
  clear hbV
  refine (spec_pick w0 g _ 24 _ HC.out HB1.out (by omega)).mono ?_
  rintro e w2 ⟨⟨i, rfl, hi0, _, hi2, _⟩, hc, hw⟩
  clear hi2
  replace HX := Lib.hid (HX.out.kept hw (.inr (by omega)))
  replace HZ := Lib.hid (HZ.out.kept hw (.inr (by omega)))
  replace HWW := Lib.hid (HWW.out.trans hw)
  replace HB1 := Lib.hid (hw.belowOf HB1.out (by omega))
  replace HC := Lib.hid hc
  have hs2 := hw.size
  clear hc hw HSV
  obtain ⟨V, rfl⟩ : ∃ u, u = w2 := ⟨_, rfl⟩
  have z0' := HZ.out.cell (i := 0) rfl
  have z1' := HZ.out.cell (i := 1) rfl
  have z2' := HZ.out.cell (i := 2) rfl
  have e1 : IntKind.i64.wrap (P + 2) = P + 2 := IntWalk.i64_in _ (by omega)
  have e2 : IntKind.i64.wrap (Q + 1) = Q + 1 := IntWalk.i64_in _ (by omega)
  have e3 : IntKind.i64.wrap (P - 1) = P - 1 := IntWalk.i64_in _ (by omega)
  have e4 : IntKind.i64.wrap (G + 1) = G + 1 := IntWalk.i64_in _ (by omega)
  rcases (by omega : i = 0 ∨ i = 1 ∨ i = 2 ∨ (i ≠ 0 ∧ i ≠ 1 ∧ i ≠ 2)) with rfl | rfl | rfl | ⟨i0, i1, i2⟩
  · go_wp2_with fail
    refine (spec_among w0 g _ _ [0, P + 2, 4, -7] _ (HC.out.keep ((Below.refl _ _).alloc (Nat.le_refl _) _)) (HB1.out.alloc HB1.out.size _) (by omega) (Apart.of_ownI (OwnI.lit V (Nat.le_refl _) (lit_I64 (by simp; omega)) (by rfl) (by simp; decide) 4 rfl) (by omega)) (by simp)).mono ?_
    rintro e w3 ⟨⟨x, rfl, hx⟩, hc, hw⟩
    have hxb : -7 ≤ x ∧ x ≤ 2000000010 := by
      simp only [List.mem_cons, List.not_mem_nil, or_false] at hx
      omega
    have hw3 : Within g (g + 1) V w3 := (Within.of_below ((Below.refl _ _).alloc (Nat.le_refl _) _)).trans hw
    have HZ3 := Lib.hid (HZ.out.kept hw3 (.inr (by omega)))
    have HX3 := Lib.hid (HX.out.kept hw3 (.inr (by omega)))
    have HW3 := Lib.hid (HWW.out.trans hw3)
    have HC3 := Lib.hid hc
    have hs3 := hw3.size
    clear hc hw hw3 hx z0' z1' z2'
    have q0 := HZ3.out.cell (i := 0) rfl
    have q1 := HZ3.out.cell (i := 1) rfl
    have q2 := HZ3.out.cell (i := 2) rfl
    have fq := fun j => HZ3.out.frozen j
    have HZ6 := Lib.hid (HZ3.out.set 0 (.int .i64 x))
    have HX6 := Lib.hid (HX3.out.other (b' := w1.heap.size) (by omega) 0 (.int .i64 x))
    have HBs : Hid (Below w.heap.size w3 (w3.setCell ⟨w1.heap.size, 0, none⟩ (.int .i64 x))) := (Below.refl w.heap.size _).setCell (by show w.heap.size ≤ w1.heap.size; omega) _
    have r0 := HX6.out.cell (i := 0) rfl
    have r1 := HX6.out.cell (i := 1) rfl
    have r2 := HX6.out.cell (i := 2) rfl
    have fr := fun j => HX6.out.frozen j
    go_wp2_with fail
    clear q0 q1 q2 fq
    obtain ⟨Y, hY⟩ : ∃ Y, Y = ((((w3.setCell ⟨w1.heap.size, 0, none⟩ (.int .i64 x)).setCell ⟨w.heap.size, 0, none⟩ (.int .i64 x)).setCell ⟨w.heap.size, 1, none⟩ (.int .i64 Q)).setCell ⟨w.heap.size, 2, none⟩ (.int .i64 G)) := ⟨_, rfl⟩
    have HXY : Hid (BoxN Y w.heap.size 24 [.int .i64 x, .int .i64 Q, .int .i64 G]) := by unfold Hid; rw [hY]; exact (((HX6.out).set 0 _).set 1 _).set 2 _
    have HBY : Hid (Below w.heap.size ((w3.setCell ⟨w1.heap.size, 0, none⟩ (.int .i64 x))) Y) := by unfold Hid; rw [hY]; exact (((Below.refl w.heap.size _).setCell (Nat.le_refl _) _).setCell (Nat.le_refl _) _).setCell (Nat.le_refl _) _
    rw [← hY]
    clear hY r0 r1 r2 fr
    have r0 := HXY.out.cell (i := 0) rfl
    have r1 := HXY.out.cell (i := 1) rfl
    have r2 := HXY.out.cell (i := 2) rfl
    refine bodyPost_ret (v := .agg #[.int .i64 x, .int .i64 Q, .int .i64 G]) (by simp [results, Tryz.results73, go_sem, r0, r1, r2]) rfl ⟨⟨_, _, _, rfl, ⟨by omega, by omega⟩, ⟨by omega, by omega⟩, ⟨by omega, by omega⟩⟩, ((HC3.out.belowB HBs.out hg).belowB HBY.out hg).mono (by omega), (HW3.out.belowStep HBs.out).belowStep HBY.out⟩
  · go_wp2_with fail
    refine (spec_among w0 g _ _ [0, 1, Q + 1, P - 1] _ (HC.out.keep ((Below.refl _ _).alloc (Nat.le_refl _) _)) (HB1.out.alloc HB1.out.size _) (by omega) (Apart.of_ownI (OwnI.lit V (Nat.le_refl _) (lit_I64 (by simp; omega)) (by rfl) (by simp; decide) 4 rfl) (by omega)) (by simp)).mono ?_
    rintro e w3 ⟨⟨x, rfl, hx⟩, hc, hw⟩
    have hxb : -7 ≤ x ∧ x ≤ 2000000010 := by
      simp only [List.mem_cons, List.not_mem_nil, or_false] at hx
      omega
    have hw3 : Within g (g + 1) V w3 := (Within.of_below ((Below.refl _ _).alloc (Nat.le_refl _) _)).trans hw
    have HZ3 := Lib.hid (HZ.out.kept hw3 (.inr (by omega)))
    have HX3 := Lib.hid (HX.out.kept hw3 (.inr (by omega)))
    have HW3 := Lib.hid (HWW.out.trans hw3)
    have HC3 := Lib.hid hc
    have hs3 := hw3.size
    clear hc hw hw3 hx z0' z1' z2'
    have q0 := HZ3.out.cell (i := 0) rfl
    have q1 := HZ3.out.cell (i := 1) rfl
    have q2 := HZ3.out.cell (i := 2) rfl
    have fq := fun j => HZ3.out.frozen j
    have HZ6 := Lib.hid (HZ3.out.set 1 (.int .i64 x))
    have HX6 := Lib.hid (HX3.out.other (b' := w1.heap.size) (by omega) 1 (.int .i64 x))
    have HBs : Hid (Below w.heap.size w3 (w3.setCell ⟨w1.heap.size, 1, none⟩ (.int .i64 x))) := (Below.refl w.heap.size _).setCell (by show w.heap.size ≤ w1.heap.size; omega) _
    have r0 := HX6.out.cell (i := 0) rfl
    have r1 := HX6.out.cell (i := 1) rfl
    have r2 := HX6.out.cell (i := 2) rfl
    have fr := fun j => HX6.out.frozen j
    go_wp2_with fail
    clear q0 q1 q2 fq
    obtain ⟨Y, hY⟩ : ∃ Y, Y = ((((w3.setCell ⟨w1.heap.size, 1, none⟩ (.int .i64 x)).setCell ⟨w.heap.size, 0, none⟩ (.int .i64 P)).setCell ⟨w.heap.size, 1, none⟩ (.int .i64 x)).setCell ⟨w.heap.size, 2, none⟩ (.int .i64 G)) := ⟨_, rfl⟩
    have HXY : Hid (BoxN Y w.heap.size 24 [.int .i64 P, .int .i64 x, .int .i64 G]) := by unfold Hid; rw [hY]; exact (((HX6.out).set 0 _).set 1 _).set 2 _
    have HBY : Hid (Below w.heap.size ((w3.setCell ⟨w1.heap.size, 1, none⟩ (.int .i64 x))) Y) := by unfold Hid; rw [hY]; exact (((Below.refl w.heap.size _).setCell (Nat.le_refl _) _).setCell (Nat.le_refl _) _).setCell (Nat.le_refl _) _
    rw [← hY]
    clear hY r0 r1 r2 fr
    have r0 := HXY.out.cell (i := 0) rfl
    have r1 := HXY.out.cell (i := 1) rfl
    have r2 := HXY.out.cell (i := 2) rfl
    refine bodyPost_ret (v := .agg #[.int .i64 P, .int .i64 x, .int .i64 G]) (by simp [results, Tryz.results73, go_sem, r0, r1, r2]) rfl ⟨⟨_, _, _, rfl, ⟨by omega, by omega⟩, ⟨by omega, by omega⟩, ⟨by omega, by omega⟩⟩, ((HC3.out.belowB HBs.out hg).belowB HBY.out hg).mono (by omega), (HW3.out.belowStep HBs.out).belowStep HBY.out⟩
  · go_wp2_with fail
    refine (spec_among w0 g _ _ [0, 1, P - 1, P, G + 1] _ (HC.out.keep ((Below.refl _ _).alloc (Nat.le_refl _) _)) (HB1.out.alloc HB1.out.size _) (by omega) (Apart.of_ownI (OwnI.lit V (Nat.le_refl _) (lit_I64 (by simp; omega)) (by rfl) (by simp; decide) 5 rfl) (by omega)) (by simp)).mono ?_
    rintro e w3 ⟨⟨x, rfl, hx⟩, hc, hw⟩
    have hxb : -7 ≤ x ∧ x ≤ 2000000010 := by
      simp only [List.mem_cons, List.not_mem_nil, or_false] at hx
      omega
    have hw3 : Within g (g + 1) V w3 := (Within.of_below ((Below.refl _ _).alloc (Nat.le_refl _) _)).trans hw
    have HZ3 := Lib.hid (HZ.out.kept hw3 (.inr (by omega)))
    have HX3 := Lib.hid (HX.out.kept hw3 (.inr (by omega)))
    have HW3 := Lib.hid (HWW.out.trans hw3)
    have HC3 := Lib.hid hc
    have hs3 := hw3.size
    clear hc hw hw3 hx z0' z1' z2'
    have q0 := HZ3.out.cell (i := 0) rfl
    have q1 := HZ3.out.cell (i := 1) rfl
    have q2 := HZ3.out.cell (i := 2) rfl
    have fq := fun j => HZ3.out.frozen j
    have HZ6 := Lib.hid (HZ3.out.set 2 (.int .i64 x))
    have HX6 := Lib.hid (HX3.out.other (b' := w1.heap.size) (by omega) 2 (.int .i64 x))
    have HBs : Hid (Below w.heap.size w3 (w3.setCell ⟨w1.heap.size, 2, none⟩ (.int .i64 x))) := (Below.refl w.heap.size _).setCell (by show w.heap.size ≤ w1.heap.size; omega) _
    have r0 := HX6.out.cell (i := 0) rfl
    have r1 := HX6.out.cell (i := 1) rfl
    have r2 := HX6.out.cell (i := 2) rfl
    have fr := fun j => HX6.out.frozen j
    go_wp2_with fail
    clear q0 q1 q2 fq
    obtain ⟨Y, hY⟩ : ∃ Y, Y = ((((w3.setCell ⟨w1.heap.size, 2, none⟩ (.int .i64 x)).setCell ⟨w.heap.size, 0, none⟩ (.int .i64 P)).setCell ⟨w.heap.size, 1, none⟩ (.int .i64 Q)).setCell ⟨w.heap.size, 2, none⟩ (.int .i64 x)) := ⟨_, rfl⟩
    have HXY : Hid (BoxN Y w.heap.size 24 [.int .i64 P, .int .i64 Q, .int .i64 x]) := by unfold Hid; rw [hY]; exact (((HX6.out).set 0 _).set 1 _).set 2 _
    have HBY : Hid (Below w.heap.size ((w3.setCell ⟨w1.heap.size, 2, none⟩ (.int .i64 x))) Y) := by unfold Hid; rw [hY]; exact (((Below.refl w.heap.size _).setCell (Nat.le_refl _) _).setCell (Nat.le_refl _) _).setCell (Nat.le_refl _) _
    rw [← hY]
    clear hY r0 r1 r2 fr
    have r0 := HXY.out.cell (i := 0) rfl
    have r1 := HXY.out.cell (i := 1) rfl
    have r2 := HXY.out.cell (i := 2) rfl
    refine bodyPost_ret (v := .agg #[.int .i64 P, .int .i64 Q, .int .i64 x]) (by simp [results, Tryz.results73, go_sem, r0, r1, r2]) rfl ⟨⟨_, _, _, rfl, ⟨by omega, by omega⟩, ⟨by omega, by omega⟩, ⟨by omega, by omega⟩⟩, ((HC3.out.belowB HBs.out hg).belowB HBY.out hg).mono (by omega), (HW3.out.belowStep HBs.out).belowStep HBY.out⟩
  · have j0 : (i == 0) = false := by rw [beq_eq_false_iff_ne]; exact i0
    have j1 : (i == 1) = false := by rw [beq_eq_false_iff_ne]; exact i1
    have j2 : (i == 2) = false := by rw [beq_eq_false_iff_ne]; exact i2
    have r0 := HX.out.cell (i := 0) rfl
    have r1 := HX.out.cell (i := 1) rfl
    have r2 := HX.out.cell (i := 2) rfl
    have fr := fun j => HX.out.frozen j
    go_wp2_with fail
    clear z0' z1' z2'
    obtain ⟨Y, hY⟩ : ∃ Y, Y = (((V.setCell ⟨w.heap.size, 0, none⟩ (.int .i64 P)).setCell ⟨w.heap.size, 1, none⟩ (.int .i64 Q)).setCell ⟨w.heap.size, 2, none⟩ (.int .i64 G)) := ⟨_, rfl⟩
    have HXY : Hid (BoxN Y w.heap.size 24 [.int .i64 P, .int .i64 Q, .int .i64 G]) := by unfold Hid; rw [hY]; exact (((HX.out).set 0 _).set 1 _).set 2 _
    have HBY : Hid (Below w.heap.size (V) Y) := by unfold Hid; rw [hY]; exact (((Below.refl w.heap.size _).setCell (Nat.le_refl _) _).setCell (Nat.le_refl _) _).setCell (Nat.le_refl _) _
    rw [← hY]
    clear hY r0 r1 r2 fr
    have r0 := HXY.out.cell (i := 0) rfl
    have r1 := HXY.out.cell (i := 1) rfl
    have r2 := HXY.out.cell (i := 2) rfl
    refine bodyPost_ret (v := .agg #[.int .i64 P, .int .i64 Q, .int .i64 G]) (by simp [results, Tryz.results73, go_sem, r0, r1, r2]) rfl ⟨⟨_, _, _, rfl, ⟨by omega, by omega⟩, ⟨by omega, by omega⟩, ⟨by omega, by omega⟩⟩, ((HC.out).belowB HBY.out hg).mono (by omega), (HWW.out).belowStep HBY.out⟩
end Go.Proofs.YtacpnphfopmofaaGreat
