/- Draws: dealings of zero (printed by gen_drz1.py). -/
import Derived.Test.YtacpnphfopmofaaGreatRowIR
import Derived.Test.YtacpnphfopmofaaGreatRc0R
namespace Go.Proofs.YtacpnphfopmofaaGreat
open Go.RowKit
set_option linter.unusedSimpArgs false
set_option linter.unusedVariables false

/-- a dealing of the call's own, or none, is returned -/
def RetZD (e : Ending) (w : World) (B : Nat) : Prop := ∃ (x y : Value) (lx ly : List Int) (b : Bool), e = .returned (.tuple #[.agg #[x, y], .bool b]) ∧ OwnD w B x y lx ly ∧ lx.length ≤ 7 ∧ ly.length ≤ 7 ∧ (b = true → 1 ≤ lx.length ∧ 1 ≤ ly.length)
theorem OwnD.nils (w : World) (B : Nat) : OwnD w B (.slice none 0 0) (.slice none 0 0) [] [] := ⟨OwnI.nil _ _, OwnI.nil _ _, fun k h => by cases h⟩
theorem RetZD.no (w : World) (B : Nat) : RetZD (.returned (.tuple #[.agg #[.slice none 0 0, .slice none 0 0], .bool false])) w B := ⟨_, _, [], [], false, rfl, OwnD.nils _ _, by simp, by simp, fun h => by cases h⟩
set_option maxRecDepth 100000 in
set_option maxHeartbeats 8000000 in
theorem spec_yMul (q : Int) (v u : Value) (f h : List Int) (w : World) (hq : 2 ≤ q ∧ q ≤ 2000000000) (hf : Ints w v f) (hh : Ints w u h) (rf : ResL q f) (rh : ResL q h) (f0 : 0 < f.length) (h0 : 0 < h.length) (fl : f.length ≤ 1000) (hl : h.length ≤ 1000) :
    Calls Tryz.prog 84 #[.int .i64 q, v, u] w fun e w' => (∃ v' o, e = .returned v' ∧ OwnI w' w.heap.size v' o ∧ o.length = f.length + h.length - 1 ∧ ResL q o ∧ ∀ x, evI o x % q = evI f x * evI h x % q) ∧ Below w.heap.size w w' := by
  obtain ⟨hq1, hq2⟩ := hq
  obtain ⟨fa, fn, fc, rfl⟩ := hf.shape
  obtain ⟨ha, hn, hc, rfl⟩ := hh.shape
  have HFE := Lib.hid hf.len
  have HHE := Lib.hid hh.len
  have HF := Lib.hid hf
  have HH := Lib.hid hh
  have RF := Lib.hid rf
  have RH := Lib.hid rh
  have hfn : 0 < fn := by have := HFE.out; omega
  have hhn : 0 < hn := by have := HHE.out; omega
  have hf1 : fn ≤ 1000 := by have := HFE.out; omega
  have hh1 : hn ≤ 1000 := by have := HHE.out; omega
  clear hf hh rf rh f0 h0 fl hl
  obtain ⟨N, hN⟩ : ∃ N, N = fn + hn - 1 := ⟨_, rfl⟩
  have hNi : (fn : Int) + (hn : Int) - 1 = (N : Int) := by omega
  have HNL : Hid (f.length + h.length - 1 = N) := by unfold Hid; rw [HFE.out, HHE.out, hN]
  have hN0 : N ≤ 2000 := by omega
  have hN1 : fn + hn = N + 1 := by omega
  have HN1 := Lib.hid hN1
  clear hN1
  have ew1 : IntKind.i64.wrap ((fn : Int) + (hn : Int)) = (fn : Int) + (hn : Int) := IntWalk.i64_in _ (by omega)
  have ew2 : IntKind.i64.wrap ((fn : Int) + (hn : Int) - 1) = (N : Int) := by rw [hNi]; exact IntWalk.i64_in _ (by omega)
  have hz1 : ((fn : Int) == 0) = false := by rw [beq_eq_false_iff_ne]; omega
  have hz2 : ((hn : Int) == 0) = false := by rw [beq_eq_false_iff_ne]; omega
  have hz3 : ¬ fn = 0 := by omega
  have hz4 : ¬ hn = 0 := by omega
  clear hN hNi
  obtain ⟨V, hV⟩ : ∃ V, V = w.alloc (.cells (madeCells #[.int .i64 0] N) 3) := ⟨_, rfl⟩
  have HO0 : Hid (OwnI V w.heap.size (.slice (some ⟨w.heap.size, 0, none⟩) N N) (List.replicate N 0)) := by unfold Hid; rw [hV]; exact own_zeros w N (by omega)
  have HB0 : Hid (Below w.heap.size w V) := by unfold Hid; rw [hV]; exact (Below.refl _ _).alloc (Nat.le_refl _) _
  have hmk : ∀ u, (Instr.makeSlice 25 (.int .i64 (N : Int)) (.int .i64 (N : Int))).run Tryz.prog u = .ok (.slice (some ⟨u.heap.size, 0, none⟩) N N) (u.alloc (.cells (madeCells #[.int .i64 0] N) 3)) := fun u => by
    obtain ⟨i, hi, hz, hsz, hby⟩ := info_parts info_int
    have := run_make (P := Tryz.prog) u 25 3 i (.int .i64 0) Tryz.underlying25 hi hz .i64 .i64 N N (by omega) (Int.le_refl _) (by rw [hby]; omega) (by omega)
    simpa [Value.cells, hsz] using this
  go_enter Tryz.func84, Tryz.ntmps84
  go_wp2_with fail
  rw [← hV]
  clear hV
  go_loopg [29] fn (fun gg iv wr => ∃ (i : Nat) (o : List Int), i + gg = fn ∧ iv = .int .i64 (i : Int) ∧ Hid (OwnI wr w.heap.size (.slice (some ⟨w.heap.size, 0, none⟩) N N) o) ∧ Hid (MulS q f h o i 0) ∧ Hid (Below w.heap.size w wr))
  case atStart => exact ⟨0, _, by omega, rfl, HO0, by unfold Hid; rw [← HNL.out]; exact MulS.start (by omega), HB0⟩
  case round =>
    obtain ⟨i, o, hig, rfl, HO, HM, HB⟩ := hrel
    have HIG := Lib.hid hig
    clear hig
    by_cases hlt : i < fn
    · have hgi : fn - (i + 1) < gk := by have := HIG.out; omega
      obtain ⟨b, oo, rfl, hcx⟩ := (HF.out.below HB.out).at_ hfn
      have y0 := hcx i hlt
      clear hcx
      have b0 : (0 : Int) ≤ (i : Int) := by omega
      have bk1 : (i : Int) < (fn : Int) := by omega
      have hwk : IntKind.i64.wrap ((i : Int) + 1) = (i : Int) + 1 := IntWalk.i64_in _ (by omega)
      have HFI : Hid (0 ≤ nth f i ∧ nth f i < q) := RF.out.at_ (by rw [HFE.out]; exact hlt)
      obtain ⟨x, hx⟩ : ∃ x, nth f i = x := ⟨_, rfl⟩
      rw [hx] at y0 HFI
      have HX := Lib.hid hx
      clear hx
      obtain ⟨x0, x1⟩ := HFI.out
      obtain ⟨wo, rfl⟩ : ∃ u, u = wr := ⟨_, rfl⟩
      obtain ⟨go, rfl⟩ : ∃ u, u = gk := ⟨_, rfl⟩
      go_wp2_with fail
      clear y0
      go_loopg [36] hn (fun gj iv wr => ∃ (k : Nat) (o : List Int), k + gj = hn ∧ iv = .int .i64 (k : Int) ∧ Hid (OwnI wr w.heap.size (.slice (some ⟨w.heap.size, 0, none⟩) N N) o) ∧ Hid (MulS q f h o i k) ∧ Hid (Below w.heap.size w wr))
      case atStart => exact ⟨0, o, by omega, rfl, HO, HM, HB⟩
      case round =>
        clear HO HM HB
        obtain ⟨k, o, hkg, rfl, HO, HM, HB⟩ := hrel
        by_cases hlk : k < hn
        · obtain ⟨b2, o2, rfl, hcy⟩ := (HH.out.below HB.out).at_ hhn
          have y1 := hcy k hlk
          clear hcy
          have hgk : hn - (k + 1) < gk := by omega
          have b2' : (0 : Int) ≤ (k : Int) := by omega
          have bk2 : (k : Int) < (hn : Int) := by omega
          have hwk2 : IntKind.i64.wrap ((k : Int) + 1) = (k : Int) + 1 := IntWalk.i64_in _ (by omega)
          have HHI : Hid (0 ≤ nth h k ∧ nth h k < q) := RH.out.at_ (by rw [HHE.out]; exact hlk)
          obtain ⟨y, hy⟩ : ∃ x, nth h k = x := ⟨_, rfl⟩
          rw [hy] at y1 HHI
          have HY := Lib.hid hy
          clear hy
          obtain ⟨yy0, yy1⟩ := HHI.out
          obtain ⟨J, hJ⟩ : ∃ J, i + k = J := ⟨_, rfl⟩
          have hJN : J < N := by have := HN1.out; omega
          have ewJ : IntKind.i64.wrap ((i : Int) + (k : Int)) = (J : Int) := by rw [show (i : Int) + (k : Int) = (J : Int) by omega]; exact IntWalk.i64_in _ (by omega)
          have bJ0 : (0 : Int) ≤ (J : Int) := by omega
          have bJ1 : (J : Int) < (N : Int) := by omega
          have HJ := Lib.hid hJ
          clear hJ
          have HOL : Hid (o.length = N) := by unfold Hid; rw [HM.out.len, HNL.out]
          obtain ⟨g, e, _, _, hcz⟩ := HO.out.at_ (by rw [HOL.out]; omega)
          cases e
          obtain ⟨z0, zf⟩ := hcz J hJN
          clear hcz
          have HZI : Hid (0 ≤ nth o J ∧ nth o J < q) := HM.out.res.at_ (by rw [HOL.out]; exact hJN)
          have HST : Hid (MulS q f h (o.set J ((nth o J + x * y) % q)) i (k + 1)) := by
            have hs := HM.out.step (by omega) (by rw [HFE.out]; exact hlt) (by rw [HHE.out]; exact hlk)
            rw [HJ.out, HX.out, HY.out] at hs
            exact hs
          obtain ⟨z, hz⟩ : ∃ x, nth o J = x := ⟨_, rfl⟩
          rw [hz] at z0 HZI HST
          clear hz
          obtain ⟨zz0, zz1⟩ := HZI.out
          obtain ⟨m0, m1⟩ := mulD_bd x0 x1 yy0 yy1 hq2
          have r0 : 0 ≤ x * y % q := Int.emod_nonneg _ (by omega)
          have r1 : x * y % q < q := Int.emod_lt_of_pos _ (by omega)
          have s0 : 0 ≤ (z + x * y) % q := Int.emod_nonneg _ (by omega)
          have s1 : (z + x * y) % q < q := Int.emod_lt_of_pos _ (by omega)
          have et1 : Int.tmod (x * y) q = x * y % q := Int.tmod_eq_emod_of_nonneg m0
          have et2 : Int.tmod (z + x * y) q = (z + x * y) % q := Int.tmod_eq_emod_of_nonneg (by omega)
          have ewa : IntKind.i64.wrap (x * y) = x * y := IntWalk.i64_in _ (by omega)
          have ewb : IntKind.i64.wrap (x * y % q) = x * y % q := IntWalk.i64_in _ (by omega)
          have ewc : IntKind.i64.wrap (z + x * y) = z + x * y := IntWalk.i64_in _ (by omega)
          have ewd : IntKind.i64.wrap ((z + x * y) % q) = (z + x * y) % q := IntWalk.i64_in _ (by omega)
          have HVI : Hid (I64 ((z + x * y) % q)) := ⟨by omega, by omega⟩
          have hpz : ¬ q = 0 := by omega
          have hpz2 : (q == 0) = false := by rw [beq_eq_false_iff_ne]; omega
          have HO2 := Lib.hid (HO.out.stored HOL.out J HVI.out)
          clear HO
          go_wp2_with fail
          clear y1 z0 zf
          go_roundg (hn - (k + 1))
          case measure => exact hgk
          case rel => exact ⟨k + 1, _, by omega, by go_num, HO2.out.1, HST, HB.out.setCell (p := ⟨w.heap.size, J, none⟩) (Nat.le_refl _) _⟩
        · obtain rfl : hn = k := by omega
          have HRW : Hid (MulS q f h o (i + 1) 0) := MulS.row (by rw [HHE.out]; exact HM.out) (by rw [HFE.out]; exact hlt)
          go_wp2_with fail
          go_roundg (fn - (i + 1))
          case measure => exact hgi
          case rel => exact ⟨i + 1, o, by omega, by go_num, HO, HRW, HB⟩
    · obtain rfl : fn = i := by have := HIG.out; omega
      have HEV : Hid (∀ x, evI o x % q = evI f x * evI h x % q) := fun x => by
        rw [HM.out.ev x, List.take_of_length_le (by rw [HFE.out]; exact Nat.le_refl _)]
        simp only [List.take_zero]; rw [show evI [] x = 0 from rfl]; congr 1; grind
      go_wp2_with fail
      go_ret
      exact ⟨⟨_, o, rfl, HO.out, HM.out.len, HM.out.res, HEV.out⟩, HB.out⟩
set_option maxRecDepth 100000 in
set_option maxHeartbeats 2000000 in
theorem spec_ZeroDealing (gr : GroupD) (i : Int) (cv : Value) (cs : List Int) (n : Int) (w : World) (hcs : Ints w cv cs) (hi : 0 ≤ i ∧ i ≤ 1000) (hn : 0 ≤ n ∧ n ≤ 1000) :
    Calls Tryz.prog 36 #[.agg #[.int .i64 gr.p, .int .i64 gr.q, .int .i64 gr.g], .int .i64 i, cv, .int .i64 n] w fun e w' => RetZD e w' w.heap.size ∧ Below w.heap.size w w' := by
  have HII := Lib.hid hi
  have HNN := Lib.hid hn
  have ewn : IntKind.i64.wrap (n - 1) = n - 1 := IntWalk.i64_in _ (by omega)
  have ewi : IntKind.i64.wrap (-i) = -i := IntWalk.i64_in _ (by omega)
  clear hi hn
  obtain ⟨cva, cvn, cvc, rfl⟩ := hcs.shape
  have Ecv := Lib.hid hcs.len
  have Kcv := Lib.hid hcs.capMax
  have Hcv := Lib.hid hcs
  clear hcs
  obtain ⟨W, hW⟩ : ∃ W, W = (w.alloc (.cells #[.int .i64 gr.p, .int .i64 gr.q, .int .i64 gr.g] 24)).alloc (.cells #[(.slice none 0 0), (.slice none 0 0)] 61) := ⟨_, rfl⟩
  have HB : Hid (Below w.heap.size w W) := by unfold Hid; rw [hW]; (repeat (first | exact Below.refl _ _ | assumption | refine Below.drew ?_ | refine Below.alloc ?_ (by first | (simp; done) | (simp; omega)) _ | refine Below.setCell ?_ (by first | (simp; done) | (simp; omega)) _))
  have c0_0 : W.cell? ⟨w.heap.size, 0, none⟩ = some (.int .i64 gr.p) := by rw [hW]; simp [go_sem]
  have c0_1 : W.cell? ⟨w.heap.size, 1, none⟩ = some (.int .i64 gr.q) := by rw [hW]; simp [go_sem]
  have c0_2 : W.cell? ⟨w.heap.size, 2, none⟩ = some (.int .i64 gr.g) := by rw [hW]; simp [go_sem]
  have HR1 : Hid (BoxN W (w.heap.size + 1) 61 [(.slice none 0 0), (.slice none 0 0)]) := by unfold Hid; rw [hW]; have h := (BoxN.new (w.alloc (.cells #[.int .i64 gr.p, .int .i64 gr.q, .int .i64 gr.g] 24)) [(.slice none 0 0), (.slice none 0 0)] 61); simpa using h
  have HSW : Hid (W.heap.size = w.heap.size + 2) := by unfold Hid; rw [hW]; simp
  have lr1 : w.heap.size + 1 < W.heap.size := by have := HSW.out; omega
  go_enter Tryz.func36, Tryz.ntmps36
  go_wp2_with fail
  rw [← hW]
  have hse : w.heap.size + 1 + 1 = W.heap.size := by have := HSW.out; omega
  (try rw [hse])
  clear hse
  clear hW
  have hc : Below W.heap.size W W := Below.refl _ _
  have HCC : Hid (∀ u, Below W.heap.size W u → u.cell? ⟨w.heap.size, 0, none⟩ = some (.int .i64 gr.p) ∧ u.cell? ⟨w.heap.size, 1, none⟩ = some (.int .i64 gr.q) ∧ u.cell? ⟨w.heap.size, 2, none⟩ = some (.int .i64 gr.g)) := fun u h => ⟨box_at c0_0 h, box_at c0_1 h, box_at c0_2 h⟩
  go_wp2_with fail
  refine (spec_sGroup gr _).mono ?_
  rintro e u1 ⟨rfl, hq1⟩
  replace hc := Below.next hc hq1
  clear hq1 c0_0 c0_1 c0_2
  obtain ⟨c0_0, c0_1, c0_2⟩ := HCC.out _ hc
  cases hc1 : shG gr with
  | false =>
    have Hhc1 := Lib.hid hc1
    clear hc1
    have HRE1 := Lib.hid (HR1.out.below hc)
    clear HR1
    have HBE := Lib.hid (HB.out.trans (hc.mono HB.out.size))
    have r1_0 := HRE1.out.cell (i := 0) rfl
    have r1_1 := HRE1.out.cell (i := 1) rfl
    have fr1 := fun j => HRE1.out.frozen j
    go_wp2_with fail
    have HRF := Lib.hid ((HRE1.out.set 0 ((.slice none 0 0))).set 1 ((.slice none 0 0)))
    have HBF := Lib.hid ((HBE.out.setCell (p := ⟨w.heap.size + 1, 0, none⟩) (by show w.heap.size ≤ w.heap.size + 1; omega) ((.slice none 0 0))).setCell (p := ⟨w.heap.size + 1, 1, none⟩) (by show w.heap.size ≤ w.heap.size + 1; omega) ((.slice none 0 0)))
    clear r1_0 r1_1 fr1
    have r1_0 := HRF.out.cell (i := 0) rfl
    have r1_1 := HRF.out.cell (i := 1) rfl
    try (go_wp2_with fail)
    refine bodyPost_ret (v := .tuple #[.agg #[(.slice none 0 0), (.slice none 0 0)], .bool false]) (by simp [results, Tryz.results36, go_sem, r1_0, r1_1]) rfl ⟨RetZD.no _ _, HBF.out⟩
  | true =>
    have HG := Lib.hid (shG_ok hc1)
    have HSP := Lib.hid (shG_prm hc1)
    have Hhc1 := Lib.hid hc1
    clear hc1
    go_wp2_with fail
    refine (spec_l1In i 0 7 _).mono ?_
    rintro e u2 ⟨rfl, rfl⟩
    cases hc2 : decide (0 ≤ i ∧ i ≤ 7) with
    | false =>
      have HRE1 := Lib.hid (HR1.out.below hc)
      clear HR1
      have HBE := Lib.hid (HB.out.trans (hc.mono HB.out.size))
      have r1_0 := HRE1.out.cell (i := 0) rfl
      have r1_1 := HRE1.out.cell (i := 1) rfl
      have fr1 := fun j => HRE1.out.frozen j
      go_wp2_with fail
      have HRF := Lib.hid ((HRE1.out.set 0 ((.slice none 0 0))).set 1 ((.slice none 0 0)))
      have HBF := Lib.hid ((HBE.out.setCell (p := ⟨w.heap.size + 1, 0, none⟩) (by show w.heap.size ≤ w.heap.size + 1; omega) ((.slice none 0 0))).setCell (p := ⟨w.heap.size + 1, 1, none⟩) (by show w.heap.size ≤ w.heap.size + 1; omega) ((.slice none 0 0)))
      clear r1_0 r1_1 fr1
      have r1_0 := HRF.out.cell (i := 0) rfl
      have r1_1 := HRF.out.cell (i := 1) rfl
      try (go_wp2_with fail)
      refine bodyPost_ret (v := .tuple #[.agg #[(.slice none 0 0), (.slice none 0 0)], .bool false]) (by simp [results, Tryz.results36, go_sem, r1_0, r1_1]) rfl ⟨RetZD.no _ _, HBF.out⟩
    | true =>
      go_wp2_with fail
      refine (spec_l1In n 1 7 _).mono ?_
      rintro e u3 ⟨rfl, rfl⟩
      cases hc3 : decide (1 ≤ n ∧ n ≤ 7) with
      | false =>
        have HRE1 := Lib.hid (HR1.out.below hc)
        clear HR1
        have HBE := Lib.hid (HB.out.trans (hc.mono HB.out.size))
        have r1_0 := HRE1.out.cell (i := 0) rfl
        have r1_1 := HRE1.out.cell (i := 1) rfl
        have fr1 := fun j => HRE1.out.frozen j
        go_wp2_with fail
        have HRF := Lib.hid ((HRE1.out.set 0 ((.slice none 0 0))).set 1 ((.slice none 0 0)))
        have HBF := Lib.hid ((HBE.out.setCell (p := ⟨w.heap.size + 1, 0, none⟩) (by show w.heap.size ≤ w.heap.size + 1; omega) ((.slice none 0 0))).setCell (p := ⟨w.heap.size + 1, 1, none⟩) (by show w.heap.size ≤ w.heap.size + 1; omega) ((.slice none 0 0)))
        clear r1_0 r1_1 fr1
        have r1_0 := HRF.out.cell (i := 0) rfl
        have r1_1 := HRF.out.cell (i := 1) rfl
        try (go_wp2_with fail)
        refine bodyPost_ret (v := .tuple #[.agg #[(.slice none 0 0), (.slice none 0 0)], .bool false]) (by simp [results, Tryz.results36, go_sem, r1_0, r1_1]) rfl ⟨RetZD.no _ _, HBF.out⟩
      | true =>
        have hN7 := of_decide_eq_true hc3
        go_wp2_with fail
        refine (spec_l1In (cvn : Int) 1 (n - 1) _).mono ?_
        rintro e u4 ⟨rfl, rfl⟩
        cases hc4 : decide (1 ≤ (cvn : Int) ∧ (cvn : Int) ≤ (n - 1)) with
        | false =>
          have HRE1 := Lib.hid (HR1.out.below hc)
          clear HR1
          have HBE := Lib.hid (HB.out.trans (hc.mono HB.out.size))
          have r1_0 := HRE1.out.cell (i := 0) rfl
          have r1_1 := HRE1.out.cell (i := 1) rfl
          have fr1 := fun j => HRE1.out.frozen j
          go_wp2_with fail
          have HRF := Lib.hid ((HRE1.out.set 0 ((.slice none 0 0))).set 1 ((.slice none 0 0)))
          have HBF := Lib.hid ((HBE.out.setCell (p := ⟨w.heap.size + 1, 0, none⟩) (by show w.heap.size ≤ w.heap.size + 1; omega) ((.slice none 0 0))).setCell (p := ⟨w.heap.size + 1, 1, none⟩) (by show w.heap.size ≤ w.heap.size + 1; omega) ((.slice none 0 0)))
          clear r1_0 r1_1 fr1
          have r1_0 := HRF.out.cell (i := 0) rfl
          have r1_1 := HRF.out.cell (i := 1) rfl
          try (go_wp2_with fail)
          refine bodyPost_ret (v := .tuple #[.agg #[(.slice none 0 0), (.slice none 0 0)], .bool false]) (by simp [results, Tryz.results36, go_sem, r1_0, r1_1]) rfl ⟨RetZD.no _ _, HBF.out⟩
        | true =>
          have hL7 := of_decide_eq_true hc4
          go_wp2_with fail
          refine (spec_gExps gr _ cs _ HG.out (Hcv.out.below (HB.out.trans (hc.mono HB.out.size)))).mono ?_
          rintro e u5 ⟨rfl, hq5⟩
          replace hc := Below.next hc hq5
          clear hq5 c0_0 c0_1 c0_2
          obtain ⟨c0_0, c0_1, c0_2⟩ := HCC.out _ hc
          cases hc5 : cs.all (expB gr) with
          | false =>
            have Hhc5 := Lib.hid hc5
            clear hc5
            have HRE1 := Lib.hid (HR1.out.below hc)
            clear HR1
            have HBE := Lib.hid (HB.out.trans (hc.mono HB.out.size))
            have r1_0 := HRE1.out.cell (i := 0) rfl
            have r1_1 := HRE1.out.cell (i := 1) rfl
            have fr1 := fun j => HRE1.out.frozen j
            go_wp2_with fail
            have HRF := Lib.hid ((HRE1.out.set 0 ((.slice none 0 0))).set 1 ((.slice none 0 0)))
            have HBF := Lib.hid ((HBE.out.setCell (p := ⟨w.heap.size + 1, 0, none⟩) (by show w.heap.size ≤ w.heap.size + 1; omega) ((.slice none 0 0))).setCell (p := ⟨w.heap.size + 1, 1, none⟩) (by show w.heap.size ≤ w.heap.size + 1; omega) ((.slice none 0 0)))
            clear r1_0 r1_1 fr1
            have r1_0 := HRF.out.cell (i := 0) rfl
            have r1_1 := HRF.out.cell (i := 1) rfl
            try (go_wp2_with fail)
            refine bodyPost_ret (v := .tuple #[.agg #[(.slice none 0 0), (.slice none 0 0)], .bool false]) (by simp [results, Tryz.results36, go_sem, r1_0, r1_1]) rfl ⟨RetZD.no _ _, HBF.out⟩
          | true =>
            have HCE : Hid (ResL gr.q cs) := fun y hy => by have q := expB_bd (List.all_eq_true.1 hc5 y hy); exact ⟨q.1, by omega⟩
            have Hhc5 := Lib.hid hc5
            clear hc5
            have HBS := Lib.hid (HB.out.trans (hc.mono HB.out.size))
            have HQB : Hid (2 ≤ gr.q ∧ gr.q ≤ 2000000000) := ⟨by have := HSP.out.2.2; omega, HSP.out.2.1⟩
            obtain ⟨R, hR⟩ : ∃ z, (-i) % gr.q = z := ⟨_, rfl⟩
            have HRE := Lib.hid hR
            have hR0 : 0 ≤ R ∧ R < gr.q := by rw [← hR]; exact ⟨Int.emod_nonneg _ (by have := HQB.out; omega), Int.emod_lt_of_pos _ (by have := HQB.out; omega)⟩
            have HRI : Hid (I64 R) := by have := HQB.out; exact ⟨by omega, by omega⟩
            have HRL : Hid (ResL gr.q [R, 1]) := fun y hy => by
              simp only [List.mem_cons, List.not_mem_nil, or_false] at hy
              rcases hy with rfl | rfl
              · exact hR0
              · have := HQB.out; omega
            have HMI : Hid (I64 (-i)) := by have := HII.out; exact ⟨by omega, by omega⟩
            have HMQ : Hid (0 < gr.q) := by have := HQB.out; unfold Hid; omega
            have HMQ2 : Hid (gr.q ≤ 4000000000) := by have := HQB.out; unfold Hid; omega
            have hSW : W.heap.size ≤ u5.heap.size := hc.size
            have HC0 : Hid (0 < cs.length) := by have := Ecv.out; unfold Hid; omega
            have HC7 : Hid (cs.length ≤ 1000) := by have := Ecv.out; unfold Hid; omega
            have HC8 : Hid (cs.length ≤ 6) := by have := Ecv.out; unfold Hid; omega
            have HNZ : Hid (n = (n.toNat : Int)) := by unfold Hid; omega
            have HN1 : Hid (n ≤ 7) := by unfold Hid; omega
            clear hR hR0
            go_wp2_with fail
            refine wp_region_noPanic ?_
            refine wp_region_P (fun w' => w'.cell? ⟨w.heap.size, 0, none⟩ = some (.int .i64 gr.p) ∧ w'.cell? ⟨w.heap.size, 1, none⟩ = some (.int .i64 gr.q) ∧ w'.cell? ⟨w.heap.size, 2, none⟩ = some (.int .i64 gr.g)) 17 [(0, []), (1, []), (2, [0]), (3, []), (4, []), (5, [0]), (6, []), (7, [0]), (8, [2, 0]), (9, [0]), (10, [7, 6, 0]), (11, []), (12, [11, 1, 0])] [13, 14] (by kernel_rfl) (by kernel_rfl) (by kernel_rfl) rfl (fun _ _ _ _ h => h) (fun w' h => ⟨box_at c0_0 h, box_at c0_1 h, box_at c0_2 h⟩) ?_
            simp only [pickP, pickN, List.getElem?_cons_zero, List.getElem?_cons_succ]
            iterate 8 (refine' chainP_read _ rfl rfl (fun w' hS' => ?_) ?_; rotate_left; · (simp only [lookP, allP, Act.put, List.getElem?_cons_zero, List.getElem?_cons_succ, List.setIfInBounds_toArray, List.set_cons_zero, List.set_cons_succ]; (try dsimp only at hS'); go_simp; (try with_reducible rfl)))
            -- 8: call { callee := value (func 85), args := #[t43, t45], argTypes := #[3, 3] }
            refine chainP_call (d := (some 46)) (.int .i64 R) rfl rfl (fun w' hS' => ?_) ?_
            · simp only [lookP, allP, Act.put, List.getElem?_cons_zero, List.getElem?_cons_succ, List.setIfInBounds_toArray, List.set_cons_zero, List.set_cons_succ]
              intro K hK
              go_simp
              go_at_call 85
              refine (spec_nMod (-i) gr.q _ HMI.out HMQ.out HMQ2.out).mono ?_
              rintro e u ⟨rfl, rfl⟩
              rw [HRE.out]
              exact hK.out _ (Below.refl _ _)
            -- 9: buildSlice 25 2 #[(0, t46), (1, const (int i64 1))]
            refine chainP_do (d := (some 47)) (fun v u => Ints u v [R, 1]) (fun v w1 w2 hb h => h.below hb) rfl rfl (fun w' hS' => ?_) ?_
            · simp only [lookP, allP, Act.put, List.getElem?_cons_zero, List.getElem?_cons_succ, List.setIfInBounds_toArray, List.set_cons_zero, List.set_cons_succ]
              intro K hK
              go_simp
              refine hK.out _ _ ((Below.refl _ _).alloc (Nat.le_refl _) _) ?_
              exact (OwnI.lit (B := w'.heap.size) w' (Nat.le_refl _) (l := [R, 1]) (AllI64.cons HRI.out (AllI64.cons ⟨by decide, by decide⟩ AllI64.nil)) rfl (by simp [maxLen]) 2 rfl).ints
            -- 10: call { callee := value (func 84), args := #[t40, t41, t47], argTypes := #[3, 25, 25] }
            refine chainP_do (d := (some 48)) (fun v u => ∃ o : List Int, Ints u v o ∧ o.length = cs.length + 1 ∧ ResL gr.q o) (fun v w1 w2 hb h => by obtain ⟨o, h1, h2⟩ := h; exact ⟨o, h1.below hb, h2⟩) rfl rfl (fun w' hS' => ?_) ?_
            · simp only [lookP, allP, Act.put, List.getElem?_cons_zero, List.getElem?_cons_succ, List.setIfInBounds_toArray, List.set_cons_zero, List.set_cons_succ]
              intro x9 hx9
              intro K hK
              go_simp
              go_at_call 84
              refine (spec_yMul gr.q _ _ cs [R, 1] _ HQB.out ((Hcv.out.below HBS.out).below hS'.1) hx9 HCE.out HRL.out HC0.out (by simp) HC7.out (by simp)).mono ?_
              rintro e u ⟨⟨v2, o, rfl, ho, hol, hres, _⟩, hq⟩
              exact hK.out _ _ hq ⟨o, ho.ints, by rw [hol]; rfl, hres⟩
            -- 11: move t3
            refine' chainP_read (d := (some 49)) _ rfl rfl (fun w' hS' => ?_) ?_; rotate_left
            · simp only [lookP, allP, Act.put, List.getElem?_cons_zero, List.getElem?_cons_succ, List.setIfInBounds_toArray, List.set_cons_zero, List.set_cons_succ]
              (try dsimp only at hS')
              go_simp
              (try with_reducible rfl)
            -- 12: call { callee := value (func 47), args := #[t38, t48, t49], argTypes := #[24, 25, 3] }
            refine chainP_do (d := (some 50)) (fun v u => ∃ ax cx ay cy lx ly, v = .agg #[.slice ax (cs.length + 1) cx, .slice ay n.toNat cy] ∧ lx.length = cs.length + 1 ∧ ly.length = n.toNat ∧ OwnD u u5.heap.size (.slice ax (cs.length + 1) cx) (.slice ay n.toNat cy) lx ly) (fun v w1 w2 hb h => by obtain ⟨ax, cx, ay, cy, lx, ly, e, h1, h2, h3⟩ := h; exact ⟨ax, cx, ay, cy, lx, ly, e, h1, h2, h3.below hb⟩) rfl rfl (fun w' hS' => ?_) ?_
            · simp only [lookP, allP, Act.put, List.getElem?_cons_zero, List.getElem?_cons_succ, List.setIfInBounds_toArray, List.set_cons_zero, List.set_cons_succ]
              intro x10 hx10
              intro K hK
              obtain ⟨o, ho, hol, hres⟩ := hx10
              go_simp
              go_at_call 47
              refine (spec_sDealZ gr _ o n.toNat n _ HNZ.out HG.out ho (fun y hy => by have q := hres y hy; have := HQB.out; omega) (by have := HNZ.out; have := HN1.out; omega) (by have := HC8.out; omega)).mono ?_
              rintro e u ⟨⟨x, y, rfl, hox, hoy, hne⟩, hq⟩
              obtain ⟨ax, cx, rfl⟩ := OwnI.shapeN (n := cs.length + 1) hox (by rw [dcL_len, hol])
              obtain ⟨ay, cy, rfl⟩ := OwnI.shapeN (n := n.toNat) hoy (dsL_len ..)
              exact hK.out _ _ hq ⟨ax, cx, ay, cy, _, _, rfl, by rw [dcL_len, hol], dsL_len .., ⟨hox.mono hS'.1.size, hoy.mono hS'.1.size, hne⟩⟩
            refine chainP_nil (fun ua hS' => ?_)
            simp only [allP, Act.put, List.setIfInBounds_toArray, List.set_cons_zero, List.set_cons_succ]
            intro x12 hx12
            intro x10 hx10
            intro x9 hx9
            have hq1 := hS'.1
            clear hS'
            replace hc := Below.next hc hq1
            replace c0_0 := box_at c0_0 hq1
            replace c0_1 := box_at c0_1 hq1
            replace c0_2 := box_at c0_2 hq1
            clear hq1
            obtain ⟨ax, cx, ay, cy, lx, ly, rfl, hlx, hly, hod⟩ := hx12
            clear c0_0 c0_1 c0_2 hx9 hx10
            have hszu := hc.size
            have hsw := HSW.out
            have HR := Lib.hid (HR1.out.below hc)
            have r0 := HR.out.cell (i := 0) rfl
            have r1 := HR.out.cell (i := 1) rfl
            have fr := fun j => HR.out.frozen j
            go_wp2_with fail
            refine NoPanic.normal ?_
            clear r0 r1 fr
            have HRF := Lib.hid ((HR.out.set 0 (.slice ax (cs.length + 1) cx)).set 1 (.slice ay n.toNat cy))
            have t0 := HRF.out.cell (i := 0) rfl
            have t1 := HRF.out.cell (i := 1) rfl
            try (go_wp2_with fail)
            have hss := HBS.out.size
            refine bodyPost_ret (v := .tuple #[.agg #[.slice ax (cs.length + 1) cx, .slice ay n.toNat cy], .bool true]) (by simp [results, Tryz.results36, go_sem, t0, t1]) rfl ⟨⟨_, _, lx, ly, true, rfl, (((hod.other (b := w.heap.size + 1) (by omega) 0 (.slice ax (cs.length + 1) cx)).other (b := w.heap.size + 1) (by omega) 1 (.slice ay n.toNat cy)).mono (by omega)), by have := HC8.out; omega, by have := HN1.out; omega, fun _ => ⟨by omega, by omega⟩⟩, ((HB.out.trans (hc.mono HB.out.size)).setCell (p := ⟨w.heap.size + 1, 0, none⟩) (by show w.heap.size ≤ w.heap.size + 1; omega) _).setCell (p := ⟨w.heap.size + 1, 1, none⟩) (by show w.heap.size ≤ w.heap.size + 1; omega) _⟩
end Go.Proofs.YtacpnphfopmofaaGreat
