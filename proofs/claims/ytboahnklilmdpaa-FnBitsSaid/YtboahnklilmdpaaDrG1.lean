/- Draws of groups: MakeGroup, weak contracts of powers. -/
import Derived.Test.YtboahnklilmdpaaBg
import Derived.Test.YtboahnklilmdpaaCurL
import Derived.Test.YtboahnklilmdpaaRegT
import Derived.Deep.QuietTactic
import Derived.BigQuiet
namespace Go.Proofs.Ytboahnklilmdpaa
open Go.RowKit
set_option linter.unusedSimpArgs false
set_option linter.unusedVariables false

theorem powM_self {p e : Int} (hp : 0 < p) (he : 1 ≤ e) : powM p e p = 0 := by
  unfold powM
  obtain ⟨k, hk⟩ : ∃ k, e.toNat = k + 1 := ⟨e.toNat - 1, by omega⟩
  rw [hk, Int.pow_succ, Int.mul_comm]
  exact Int.mul_emod_right _ _
/-- weak bounds of a drawn group -/
def GrB (gr : GroupD) : Prop := (-7 ≤ gr.p ∧ gr.p ≤ 2000000010) ∧ (-7 ≤ gr.q ∧ gr.q ≤ 2000000010) ∧ (-7 ≤ gr.g ∧ gr.g ≤ 2000000010)
set_option maxHeartbeats 1000000 in
theorem spec_gExpW (gr : GroupD) (x e : Int) (w : World) (hp : 1 ≤ gr.p ∧ gr.p ≤ 3000000000) (hq : 1 ≤ gr.q ∧ gr.q ≤ 3000000000) (hx : 0 ≤ x ∧ x ≤ 3000000000) (he : I64 e) :
    Calls Try.prog 156 #[.agg #[.int .i64 gr.p, .int .i64 gr.q, .int .i64 gr.g], .int .i64 x, .int .i64 e] w fun e' w' => (∃ y : Int, e' = .returned (.int .i64 y) ∧ 0 ≤ y ∧ y < gr.p) ∧ Below w.heap.size w w' := by
  obtain ⟨hp1, hp2⟩ := hp
  obtain ⟨hq1, hq2⟩ := hq
  obtain ⟨p, q, g⟩ := gr
  obtain ⟨hx1, hx2⟩ := hx
  simp only [] at hp1 hp2 hq1 hq2
  have HR := Lib.hid (powM_bd (a := x) (e := e % q) (m := p) (by omega))
  have hm0 : 0 ≤ e % q := Int.emod_nonneg _ (by omega)
  have hm1 : e % q < q := Int.emod_lt_of_pos _ (by omega)
  have HE := Lib.hid he; clear he
  go_enter Try.func156, Try.ntmps156
  go_wp2
  go_quiet (first
    | (go_at_call 180; exact Calls.quiet_of_same ((spec_nMod e q _ HE.out (by omega) (by omega)).mono fun e' w' h => ⟨h.1, h.2.symm⟩))
    | (go_at_call 246; exact Calls.quiet_of_same ((spec_nPower x (e % q) p _ (by omega) (by omega) (by omega)).mono fun e' w' h => ⟨h.1, h.2.symm⟩))
    | fail)
  go_wp2
  go_ret
  exact ⟨⟨_, rfl, HR.out.1, HR.out.2⟩, by (repeat (first | exact Below.refl _ _ | assumption | refine Below.drew ?_ | refine below_drewN ?_ _ | refine Below.alloc ?_ (by first | (simp; done) | (simp; omega)) _ | refine Below.setCell ?_ (by first | (simp; done) | (simp; omega)) _))⟩
set_option maxRecDepth 100000 in
set_option maxHeartbeats 4000000 in
theorem spec_MakeGroup (q p0 : Int) (j : Nat) (w : World) (hq : 2 ≤ q ∧ q ≤ 1000000) (hqp : Prm q) (hpp : Prm p0) (hj : p0 = q + 1 + j * q) (hb : p0 ≤ 2000000000) :
    Calls Try.prog 307 #[.int .i64 q] w fun e w' => (∃ P G : Int, e = .returned (.tuple #[.agg #[.int .i64 P, .int .i64 q, .int .i64 G], .bool true]) ∧ q + 1 ≤ P ∧ P ≤ 2000000000 ∧ 0 ≤ G ∧ G < P) ∧ Below w.heap.size w w' := by
  obtain ⟨hq1, hq2⟩ := hq
  have HQ : Hid (primeB q = true) := primeB_yes hqp
  have HP : Hid (primeB p0 = true) := primeB_yes hpp
  have HIN : Hid (decide (2 ≤ q ∧ q ≤ 1000000) = true) := decide_eq_true ⟨hq1, hq2⟩
  have HJ := Lib.hid hj
  clear hqp hpp hj
  obtain ⟨W, hW⟩ : ∃ W, W = w.alloc (.cells #[.int .i64 0, .int .i64 0, .int .i64 0] 39) := ⟨_, rfl⟩
  have HB : Hid (Below w.heap.size w W) := by unfold Hid; rw [hW]; exact (Below.refl _ _).alloc (Nat.le_refl _) _
  have HX : Hid (BoxN W w.heap.size 39 [.int .i64 0, .int .i64 0, .int .i64 0]) := by unfold Hid; rw [hW]; exact BoxN.new w _ _
  have ew0 : IntKind.i64.wrap (q + 1) = q + 1 := IntWalk.i64_in _ (by omega)
  go_enter Try.func307, Try.ntmps307
  go_wp2_with fail
  rw [← hW]
  clear hW
  refine (spec_l1In q 2 1000000 _).mono ?_
  rintro e w1 ⟨rfl, rfl⟩
  rw [HIN.out]
  go_wp2_with fail
  refine (spec_nPrime q _ (by omega)).mono ?_
  rintro e w1 ⟨rfl, rfl⟩
  rw [HQ.out]
  go_wp2_with fail
  go_loopg [4] j (fun gg pv wr => ∃ p : Int, Hid (p0 = p + (gg : Int) * q) ∧ pv = .int .i64 p ∧ q + 1 ≤ p ∧ p ≤ p0 ∧ W = wr)
  case atStart => exact ⟨q + 1, HJ.out, rfl, Int.le_refl _, by have := HJ.out; have : 0 ≤ (j : Int) * q := Int.mul_nonneg (by omega) (by omega); omega, rfl⟩
  case round =>
    obtain ⟨p, HK, rfl, hp1, hp2, rfl⟩ := hrel
    have hle : p ≤ 2000000000 := by omega
    go_wp2_with fail
    refine (spec_nPrime p _ (by omega)).mono ?_
    rintro e w2 ⟨rfl, rfl⟩
    obtain ⟨b, hpb⟩ : ∃ b, primeB p = b := ⟨_, rfl⟩
    rw [hpb]
    cases b with
    | false =>
      have hne : p ≠ p0 := fun e => by
        have h1 := HP.out
        rw [← e, hpb] at h1
        cases h1
      obtain ⟨f, rfl⟩ : ∃ f, gk = f + 1 := by
        cases gk with
        | zero => exact absurd (by have := HK.out; simpa using this.symm) hne
        | succ f => exact ⟨f, rfl⟩
      have hk2 : p0 = p + q + (f : Int) * q := by
        have h1 := HK.out
        rw [show ((f + 1 : Nat) : Int) = (f : Int) + 1 by omega, Int.add_mul] at h1
        omega
      have hfq : 0 ≤ (f : Int) * q := Int.mul_nonneg (by omega) (by omega)
      have hpq : p + q ≤ p0 := by omega
      have HK2 := Lib.hid hk2
      have ew : IntKind.i64.wrap (p + q) = p + q := IntWalk.i64_in _ (by omega)
      clear HK hne hk2 hfq hpb
      go_wp2_with fail
      go_roundg f
      case measure => omega
      case rel => exact ⟨p + q, HK2.out, rfl, by omega, by omega, rfl⟩
    | true =>
      have ht0 : 0 ≤ (p - 1) / q := Int.ediv_nonneg (by omega) (by omega)
      have ht1 : (p - 1) / q ≤ p - 1 := Int.ediv_le_self _ (by omega)
      have ht2 : 1 ≤ (p - 1) / q := (Int.le_ediv_iff_mul_le (by omega)).2 (by omega)
      have HS := Lib.hid (powM_self (p := p) (e := (p - 1) / q) (by omega) ht2)
      have HPB : Hid (∀ h : Int, 0 ≤ powM h ((p - 1) / q) p ∧ powM h ((p - 1) / q) p < p) := fun h => powM_bd (by omega)
      have et : Int.tdiv (p - 1) q = (p - 1) / q := Int.tdiv_eq_ediv_of_nonneg (by omega)
      obtain ⟨e', he'⟩ : ∃ e', (p - 1) / q = e' := ⟨_, rfl⟩
      rw [he'] at ht0 ht1 ht2 HS HPB et
      have HE := Lib.hid he'
      clear he'
      have ewp : IntKind.i64.wrap (p - 1) = p - 1 := IntWalk.i64_in _ (by omega)
      have ewe : IntKind.i64.wrap e' = e' := IntWalk.i64_in _ (by omega)
      have hqz : ¬ q = 0 := by omega
      go_wp2_with fail
      go_loopg [5] (p.toNat) (fun gg hv wr => ∃ h : Int, hv = .int .i64 h ∧ 2 ≤ h ∧ h ≤ p ∧ p - h ≤ (gg : Int) ∧ W = wr)
      case atStart => exact ⟨2, rfl, by omega, by omega, by omega, rfl⟩
      case round =>
        obtain ⟨h, rfl, h2, h3, h4, rfl⟩ := hrel
        have HY := HPB.out h
        have HSP : Hid (h = p → powM h e' p = 0) := fun e => by rw [e]; exact HS.out
        have ewh : IntKind.i64.wrap (h + 1) = h + 1 := IntWalk.i64_in _ (by omega)
        go_wp2_with fail
        try rw [HE.out]
        refine (spec_nPower h e' p _ (by omega) (by omega) (by omega)).mono ?_
        rintro e w3 ⟨rfl, rfl⟩
        obtain ⟨y, hy⟩ : ∃ y, powM h e' p = y := ⟨_, rfl⟩
        rw [hy] at HY HSP ⊢
        have HYY := Lib.hid hy; clear hy
        obtain ⟨y0, y1⟩ := HY
        by_cases hy1 : y = 1
        · subst hy1
          have hlt : h < p := by
            rcases (by omega : h = p ∨ h < p) with h5 | h5
            · have := HSP.out h5; omega
            · exact h5
          obtain ⟨f, rfl⟩ : ∃ f, gk = f + 1 := ⟨gk - 1, by omega⟩
          go_wp2_with fail
          go_roundg f
          case measure => omega
          case rel => exact ⟨h + 1, rfl, by omega, by omega, by omega, rfl⟩
        · have hyb : (y == 1) = false := by rw [beq_eq_false_iff_ne]; exact hy1
          clear hy1
          go_wp2_with fail
          try rw [HE.out]
          refine (spec_nPower h e' p _ (by omega) (by omega) (by omega)).mono ?_
          rintro e w3 ⟨rfl, rfl⟩
          rw [HYY.out]
          have r0 := HX.out.cell (i := 0) rfl
          have r1 := HX.out.cell (i := 1) rfl
          have r2 := HX.out.cell (i := 2) rfl
          have fr := fun j => HX.out.frozen j
          go_wp2_with fail
          obtain ⟨Y, hY⟩ : ∃ Y, Y = (((W.setCell ⟨w.heap.size, 0, none⟩ (.int .i64 p)).setCell ⟨w.heap.size, 1, none⟩ (.int .i64 q)).setCell ⟨w.heap.size, 2, none⟩ (.int .i64 y)) := ⟨_, rfl⟩
          have HY4 : Hid (BoxN Y w.heap.size 39 [.int .i64 p, .int .i64 q, .int .i64 y]) := by unfold Hid; rw [hY]; exact ((HX.out.set 0 _).set 1 _).set 2 _
          have HB4 : Hid (Below w.heap.size w Y) := by unfold Hid; rw [hY]; exact ((HB.out.setCell (Nat.le_refl _) _).setCell (Nat.le_refl _) _).setCell (Nat.le_refl _) _
          rw [← hY]
          clear hY r0 r1 r2 fr
          have r0 := HY4.out.cell (i := 0) rfl
          have r1 := HY4.out.cell (i := 1) rfl
          have r2 := HY4.out.cell (i := 2) rfl
          refine bodyPost_ret (v := .tuple #[.agg #[.int .i64 p, .int .i64 q, .int .i64 y], .bool true]) (by simp [results, Try.results307, go_sem, r0, r1, r2]) rfl ⟨⟨p, y, rfl, hp1, by omega, y0, y1⟩, HB4.out⟩
end Go.Proofs.Ytboahnklilmdpaa
