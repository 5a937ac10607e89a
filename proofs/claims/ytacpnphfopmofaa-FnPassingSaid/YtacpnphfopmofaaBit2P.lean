/- Bits: proofs made: walks (printed by gen_bit2.py). -/
import Derived.Test.YtacpnphfopmofaaBit1P
import Derived.Test.YtacpnphfopmofaaDer5P
import Derived.Test.YtacpnphfopmofaaInvP
import Derived.Deep.CutRange
namespace Go.Proofs.Ytacpnphfopmofaa
open Go.RowKit
set_option linter.unusedSimpArgs false
set_option linter.unusedVariables false

/-- a proof in new memory is returned -/
def RetD (e : Ending) (w : World) (B : Nat) (d : ProofD) : Prop := ∃ x y z, e = .returned (.agg #[x, y, z]) ∧ OwnI w B x d.c ∧ OwnI w B y d.h ∧ OwnI w B z d.r
theorem RetD.mk {w : World} {B : Nat} {x y z : Value} {d : ProofD} (h1 : OwnI w B x d.c) (h2 : OwnI w B y d.h) (h3 : OwnI w B z d.r) : RetD (.returned (.agg #[x, y, z])) w B d := ⟨x, y, z, rfl, h1, h2, h3⟩
/-- two cells of integers are a row of the call's own -/
theorem rowI {w : World} {B b : Nat} {x y : Int} (h : BoxN w b 3 [.int .i64 x, .int .i64 y]) (hB : B ≤ b) (hx : I64 x) (hy : I64 y) : OwnI w B (.slice (some ⟨b, 0, none⟩) 2 2) [x, y] :=
  ⟨AllI64.cons hx (AllI64.cons hy AllI64.nil), rfl, .inr ⟨b, 2, #[.int .i64 x, .int .i64 y], rfl, hB, h, Nat.le_refl _, by decide, rfl, rfl⟩⟩
theorem make2 (u : World) : (Instr.makeSlice 42 (.int .i64 2) (.int .i64 2)).run Try.prog u = .ok (.slice (some ⟨u.heap.size, 0, none⟩) 2 2) (u.alloc (.cells #[.int .i64 0, .int .i64 0] 3)) := by
  have h := run_make_row' (P := Try.prog) 42 3 (.int .i64 0) 8 Try.underlying42 info_int rfl .i64 .i64 2 (by omega) (by omega) u
  rw [show madeCells #[Value.int IntKind.i64 0] 2 = #[.int .i64 0, .int .i64 0] from Array.ext' (by rw [toList_madeCells_one]; rfl)] at h
  exact h
set_option maxRecDepth 100000 in
set_option maxHeartbeats 4000000 in
theorem spec_rBit (gr : GroupD) (bh : Int) (bv : Value) (bl : List Int) (m r : Int) (cv : Value) (cs : List Int) (w : World) (hg : OkG gr) (hb : Ints w bv bl) (sbh : Small bh) (hm : m = 0 ∨ m = 1) (hr : expB gr r = true) (hcs : Ints w cv cs) (hcl : cs.length = 3) (hca : cs.all (expB gr) = true) :
    Calls Try.prog 150 #[.agg #[.int .i64 gr.p, .int .i64 gr.q, .int .i64 gr.g], .agg #[.int .i64 bh, bv], .int .i64 m, .int .i64 r, cv] w fun e w' => RetD e w' w.heap.size (btD gr sBit bh m r cs) ∧ Below w.heap.size w w' := by
  obtain ⟨bva, bvn, bvc, rfl⟩ := hb.shape
  have Ebv := Lib.hid hb.len
  have Kbv := Lib.hid hb.capMax
  have Hbv := Lib.hid hb
  clear hb
  obtain ⟨cva, cvn, cvc, rfl⟩ := hcs.shape
  have Ecv := Lib.hid hcs.len
  have Kcv := Lib.hid hcs.capMax
  have Hcv := Lib.hid hcs
  clear hcs
  have HG := Lib.hid hg
  clear hg
  have zq1 := HG.out.q1
  have zq2 := HG.out.q2
  have zp2 := HG.out.p2
  have zq3 : gr.q ≤ 2000000000 := by omega
  have zq0 : 0 < gr.q := by omega
  have zq4 : gr.q ≤ 4000000000 := by omega
  obtain ⟨r1, r2⟩ := expB_bd hr
  obtain ⟨a1, a2, a3⟩ := all_three hcl hca
  obtain ⟨a11, a12⟩ := expB_bd a1
  obtain ⟨a21, a22⟩ := expB_bd a2
  obtain ⟨a31, a32⟩ := expB_bd a3
  clear hr a1 a2 a3 hca
  obtain rfl : cvn = 3 := by have := Ecv.out; omega
  obtain ⟨cvb, cvo, rfl, hx⟩ := Hcv.out.at_ (by omega)
  have Kcv0 : Hid (w.cell? ⟨cvb, cvo, none⟩ = some (.int .i64 (nth cs 0))) := by unfold Hid; have h := hx 0 (by omega); simpa using h
  have Kcv1 : Hid (w.cell? ⟨cvb, cvo + 1, none⟩ = some (.int .i64 (nth cs 1))) := by unfold Hid; have h := hx 1 (by omega); simpa using h
  have Kcv2 : Hid (w.cell? ⟨cvb, cvo + 2, none⟩ = some (.int .i64 (nth cs 2))) := by unfold Hid; have h := hx 2 (by omega); simpa using h
  clear hx
  rcases hm with rfl | rfl
  · obtain ⟨C0, hC0⟩ : ∃ x, coM gr bh 0 r = x := ⟨_, rfl⟩
    have HC0 := Lib.hid hC0
    have sC0 : Small C0 := hC0 ▸ coM_small HG.out bh 0 r
    obtain ⟨H2, hH2⟩ : ∃ x, powE gr bh (nth cs 2) = x := ⟨_, rfl⟩
    have HH2 := Lib.hid hH2
    have sH2 : Small H2 := hH2 ▸ powE_small HG.out bh (nth cs 2)
    obtain ⟨BC, hBC⟩ : ∃ x, bcI gr C0 1 = x := ⟨_, rfl⟩
    have HBC := Lib.hid hBC
    have sBC : Small BC := hBC ▸ bcI_small HG.out sC0 1
    obtain ⟨BP, hBP⟩ : ∃ x, powE gr BC (-nth cs 1) = x := ⟨_, rfl⟩
    have HBP := Lib.hid hBP
    have sBP : Small BP := hBP ▸ powE_small HG.out BC (-nth cs 1)
    obtain ⟨XO, hXO⟩ : ∃ x, mulL gr [H2, BP] = x := ⟨_, rfl⟩
    have HXO := Lib.hid hXO
    have sXO : Small XO := hXO ▸ mulL_small HG.out [H2, BP]
    have HBX : Hid (btX gr bh C0 1 (nth cs 1) (nth cs 2) = XO) := by unfold Hid btX; rw [hBC, hH2, hBP, hXO]
    obtain ⟨XM, hXM⟩ : ∃ x, powE gr bh (nth cs 0) = x := ⟨_, rfl⟩
    have HXM := Lib.hid hXM
    have sXM : Small XM := hXM ▸ powE_small HG.out bh (nth cs 0)
    obtain ⟨E, hE⟩ : ∃ x, btE gr sBit bh C0 XM XO = x := ⟨_, rfl⟩
    have HE := Lib.hid hE
    have he := chV_bd HG.out sBit [bh, C0, XM, XO]
    obtain ⟨e1, e2⟩ : 0 ≤ E ∧ E < gr.q := hE ▸ he
    have HAS : Hid (AllSmall [bh, C0, XM, XO]) := AllSmall.cons sbh (AllSmall.cons sC0 (AllSmall.cons sXM (AllSmall.cons sXO AllSmall.nil)))
    have HCB : Hid (chB gr sBit [bh, C0, XM, XO] = true) := chB_yes HG.out (digests_small HAS.out) (by decide) (by simp)
    have HCI : Hid (chI gr sBit [bh, C0, XM, XO] = E) := (chI_yes HCB.out).trans HE.out
    have ewn : IntKind.i64.wrap (-nth cs 1) = -nth cs 1 := IntWalk.i64_in _ (by omega)
    have ewe : IntKind.i64.wrap (E - nth cs 1) = E - nth cs 1 := IntWalk.i64_in _ (by omega)
    have HN1 : Hid (I64 (E - nth cs 1)) := ⟨by omega, by omega⟩
    obtain ⟨EM, hEM⟩ : ∃ x, (E - nth cs 1) % gr.q = x := ⟨_, rfl⟩
    have HEM := Lib.hid hEM
    have m1 : 0 ≤ EM := by rw [← hEM]; exact Int.emod_nonneg _ (by omega)
    have m2 : EM < gr.q := by rw [← hEM]; exact Int.emod_lt_of_pos _ (by omega)
    obtain ⟨pp1, pp2⟩ := mul_bnd (a := EM) (b := r) (by omega) (by omega) (by omega) (by omega)
    have ewa : IntKind.i64.wrap (EM * r) = EM * r := IntWalk.i64_in _ (by omega)
    have ewb : IntKind.i64.wrap (nth cs 0 + EM * r) = nth cs 0 + EM * r := IntWalk.i64_in _ (by omega)
    have HN2 : Hid (I64 (nth cs 0 + EM * r)) := ⟨by omega, by omega⟩
    clear pp1 pp2
    obtain ⟨ZM, hZM⟩ : ∃ x, (nth cs 0 + EM * r) % gr.q = x := ⟨_, rfl⟩
    have HZM := Lib.hid hZM
    have z1 : 0 ≤ ZM := by rw [← hZM]; exact Int.emod_nonneg _ (by omega)
    have z2 : ZM < gr.q := by rw [← hZM]; exact Int.emod_lt_of_pos _ (by omega)
    have HBD : Hid (btD gr sBit bh 0 r cs = ⟨[XM, XO], [EM, nth cs 1], [ZM, nth cs 2]⟩) := by unfold Hid btD; rw [if_pos rfl]; simp only [hC0, HBX.out, hXM, hE, hEM, hZM]
    clear hC0 hH2 hBC hBP hXO hXM hE hEM hZM he
    have hmk := make2
    obtain ⟨W, hW⟩ : ∃ W, W = ((w.alloc (.cells #[.int .i64 gr.p, .int .i64 gr.q, .int .i64 gr.g] 24)).alloc (.cells #[.int .i64 bh, .slice bva bvn bvc] 49)).alloc (.cells #[.slice none 0 0, .slice none 0 0, .slice none 0 0] 115) := ⟨_, rfl⟩
    have HB : Hid (Below w.heap.size w W) := by unfold Hid; rw [hW]; (repeat (first | exact Below.refl _ _ | assumption | refine Below.drew ?_ | refine Below.alloc ?_ (by first | (simp; done) | (simp; omega)) _ | refine Below.setCell ?_ (by first | (simp; done) | (simp; omega)) _))
    have HS0 : Hid (BoxN W (w.heap.size) 24 [.int .i64 gr.p, .int .i64 gr.q, .int .i64 gr.g]) := by unfold Hid; rw [hW]; have h := (((BoxN.new w [.int .i64 gr.p, .int .i64 gr.q, .int .i64 gr.g] 24).alloc (.cells #[.int .i64 bh, .slice bva bvn bvc] 49)).alloc (.cells #[.slice none 0 0, .slice none 0 0, .slice none 0 0] 115)); simpa using h
    have HS1 : Hid (BoxN W (w.heap.size + 1) 49 [.int .i64 bh, .slice bva bvn bvc]) := by unfold Hid; rw [hW]; have h := ((BoxN.new (w.alloc (.cells #[.int .i64 gr.p, .int .i64 gr.q, .int .i64 gr.g] 24)) [.int .i64 bh, .slice bva bvn bvc] 49).alloc (.cells #[.slice none 0 0, .slice none 0 0, .slice none 0 0] 115)); simpa using h
    have HS2 : Hid (BoxN W (w.heap.size + 1 + 1) 115 [.slice none 0 0, .slice none 0 0, .slice none 0 0]) := by unfold Hid; rw [hW]; have h := (BoxN.new ((w.alloc (.cells #[.int .i64 gr.p, .int .i64 gr.q, .int .i64 gr.g] 24)).alloc (.cells #[.int .i64 bh, .slice bva bvn bvc] 49)) [.slice none 0 0, .slice none 0 0, .slice none 0 0] 115); simpa using h
    have HSW : Hid (W.heap.size = w.heap.size + 3) := by unfold Hid; rw [hW]; simp
    have hwW : w.heap.size + 2 < W.heap.size := by have := HSW.out; omega
    go_enter Try.func150, Try.ntmps150
    go_wp2_with fail
    rw [← hW]
    clear hW
    have hc : Below W.heap.size W W := Below.refl _ _
    have s0_0 := box_at (HS0.out.cell (i := 0) rfl) hc
    have s0_1 := box_at (HS0.out.cell (i := 1) rfl) hc
    have s0_2 := box_at (HS0.out.cell (i := 2) rfl) hc
    have s1_0 := box_at (HS1.out.cell (i := 0) rfl) hc
    have s1_1 := box_at (HS1.out.cell (i := 1) rfl) hc
    have y0 := box_at Kcv0.out (HB.out.trans (hc.mono HB.out.size))
    have y1 := box_at Kcv1.out (HB.out.trans (hc.mono HB.out.size))
    have y2 := box_at Kcv2.out (HB.out.trans (hc.mono HB.out.size))
    go_wp2_with fail
    refine (spec_pCommit gr bh _ bl 0 r _ HG.out (Hbv.out.below (HB.out.trans (hc.mono HB.out.size))) sbh ⟨by omega, by omega⟩ ⟨by omega, by omega⟩).mono ?_
    rintro e u_0 ⟨rfl, hq⟩
    rw [HC0.out]
    clear s0_0 s0_1 s0_2 s1_0 s1_1 y0 y1 y2
    replace hc := Below.next hc hq
    clear hq
    go_upto_region 2 with fail
    go_cut [12, 13, 14] from 15 to 108 (fun v12 v13 v14 wx => ∃ R0 R1 R2 : Nat, v12 = .slice (some ⟨R0, 0, none⟩) 2 2 ∧ v13 = .slice (some ⟨R1, 0, none⟩) 2 2 ∧ v14 = .slice (some ⟨R2, 0, none⟩) 2 2 ∧ u_0.heap.size ≤ R0 ∧ u_0.heap.size ≤ R1 ∧ u_0.heap.size ≤ R2 ∧ R0 ≠ R1 ∧ R0 ≠ R2 ∧ R1 ≠ R2 ∧ Hid (Below u_0.heap.size u_0 wx) ∧ Hid (BoxN wx R0 3 [.int .i64 0, .int .i64 0]) ∧ Hid (BoxN wx R1 3 [.int .i64 0, .int .i64 0]) ∧ Hid (BoxN wx R2 3 [.int .i64 0, .int .i64 0]))
    case first =>
      refine wp_region_noPanic ?_
      refine wp_region_V (fun _ => True) 8 6 (.alt 0 (.rd 3 (.alt 1 (.rd 4 (.alt 2 (.rd 5 .done) .nil)) (.alt 2 (.alt 1 (.rd 4 (.rd 5 .done)) .nil) .nil))) (.alt 1 (.alt 0 (.rd 3 (.rd 4 (.alt 2 (.rd 5 .done) .nil))) (.alt 2 (.alt 0 (.rd 3 (.rd 4 (.rd 5 .done))) .nil) .nil)) (.alt 2 (.alt 0 (.rd 3 (.alt 1 (.rd 4 (.rd 5 .done)) .nil)) (.alt 1 (.alt 0 (.rd 3 (.rd 4 (.rd 5 .done))) .nil) .nil)) .nil))) [] (by kernel_rfl) (by kernel_rfl) rfl (fun _ _ _ _ _ h => h) trivial ?_
      simp only [pickV, pickN, List.getElem?_cons_zero, List.getElem?_cons_succ]
      have hb0 : Below u_0.heap.size u_0 u_0.drew := (Below.refl _ _).drew
      refine wpV_or (by kernel_rfl) (fun K hK => ?_) ?_
      · go_simp
        obtain ⟨X1, hX⟩ : ∃ x0, x0 = (u_0.alloc (.cells #[.int .i64 0, .int .i64 0] 3)).drew := ⟨_, rfl⟩
        have hbX1 : Below u_0.heap.size u_0 X1 := by rw [hX]; exact hb0.alloc hb0.size _
        have HAX1 : Hid (BoxN X1 u_0.heap.size 3 [.int .i64 0, .int .i64 0]) := by unfold Hid; rw [hX]; exact BoxN.below (BoxN.new u_0 [.int .i64 0, .int .i64 0] 3) (Below.refl _ _).drew
        have hlX1 : u_0.heap.size < X1.heap.size := HAX1.out.lt
        have hgX1 : u_0.heap.size ≤ u_0.heap.size := Nat.le_refl _
        rw [← hX]
        clear hX
        refine hK.out _ _ trivial (fun _ => ?_)
        clear hK K
        (try simp only [Act.put, List.setIfInBounds_toArray, List.set_cons_zero, List.set_cons_succ])
        repeat (refine' wpV_read _ (by kernel_rfl) (fun w' hS' => ?_) ?_; rotate_left; · ((try dsimp only at hS'); go_simp; (try with_reducible rfl)); (try simp only [Act.put, List.setIfInBounds_toArray, List.set_cons_zero, List.set_cons_succ]))
        refine wpV_or (by kernel_rfl) (fun K hK => ?_) ?_
        · go_simp
          obtain ⟨X2, hX⟩ : ∃ x0, x0 = (X1.alloc (.cells #[.int .i64 0, .int .i64 0] 3)) := ⟨_, rfl⟩
          have hbX2 : Below u_0.heap.size u_0 X2 := by rw [hX]; exact hbX1.alloc hbX1.size _
          have HAX2 : Hid (BoxN X2 X1.heap.size 3 [.int .i64 0, .int .i64 0]) := by unfold Hid; rw [hX]; exact BoxN.new X1 [.int .i64 0, .int .i64 0] 3
          have HBX2_0 : Hid (BoxN X2 u_0.heap.size 3 [.int .i64 0, .int .i64 0]) := by unfold Hid; rw [hX]; exact HAX1.out.alloc _
          have hlX2 : X1.heap.size < X2.heap.size := HAX2.out.lt
          have hgX2 : u_0.heap.size ≤ X1.heap.size := hbX1.size
          rw [← hX]
          clear hX
          refine hK.out _ _ trivial (fun _ => ?_)
          clear hK K
          (try simp only [Act.put, List.setIfInBounds_toArray, List.set_cons_zero, List.set_cons_succ])
          repeat (refine' wpV_read _ (by kernel_rfl) (fun w' hS' => ?_) ?_; rotate_left; · ((try dsimp only at hS'); go_simp; (try with_reducible rfl)); (try simp only [Act.put, List.setIfInBounds_toArray, List.set_cons_zero, List.set_cons_succ]))
          refine wpV_do (by kernel_rfl) (fun K hK => ?_)
          go_simp
          obtain ⟨X3, hX⟩ : ∃ x0, x0 = (X2.alloc (.cells #[.int .i64 0, .int .i64 0] 3)) := ⟨_, rfl⟩
          have hbX3 : Below u_0.heap.size u_0 X3 := by rw [hX]; exact hbX2.alloc hbX2.size _
          have HAX3 : Hid (BoxN X3 X2.heap.size 3 [.int .i64 0, .int .i64 0]) := by unfold Hid; rw [hX]; exact BoxN.new X2 [.int .i64 0, .int .i64 0] 3
          have HBX3_1 : Hid (BoxN X3 X1.heap.size 3 [.int .i64 0, .int .i64 0]) := by unfold Hid; rw [hX]; exact HAX2.out.alloc _
          have HBX3_0 : Hid (BoxN X3 u_0.heap.size 3 [.int .i64 0, .int .i64 0]) := by unfold Hid; rw [hX]; exact HBX2_0.out.alloc _
          have hlX3 : X2.heap.size < X3.heap.size := HAX3.out.lt
          have hgX3 : u_0.heap.size ≤ X2.heap.size := hbX2.size
          rw [← hX]
          clear hX
          refine hK.out _ _ trivial (fun _ => ?_)
          clear hK K
          (try simp only [Act.put, List.setIfInBounds_toArray, List.set_cons_zero, List.set_cons_succ])
          repeat (refine' wpV_read _ (by kernel_rfl) (fun w' hS' => ?_) ?_; rotate_left; · ((try dsimp only at hS'); go_simp; (try with_reducible rfl)); (try simp only [Act.put, List.setIfInBounds_toArray, List.set_cons_zero, List.set_cons_succ]))
          refine wpV_done ?_
          go_wp2_with fail
          refine NoPanic.normal ?_
          try (go_wp2_with fail)
          have HF := Lib.hid hbX3
          go_meet
          exact ⟨u_0.heap.size, X1.heap.size, X2.heap.size, rfl, rfl, rfl, by omega, by omega, by omega, by omega, by omega, by omega, HF, HBX3_0, HBX3_1, HAX3⟩
        refine wpV_do (by kernel_rfl) (fun K hK => ?_)
        go_simp
        obtain ⟨X4, hX⟩ : ∃ x0, x0 = (X1.alloc (.cells #[.int .i64 0, .int .i64 0] 3)) := ⟨_, rfl⟩
        have hbX4 : Below u_0.heap.size u_0 X4 := by rw [hX]; exact hbX1.alloc hbX1.size _
        have HAX4 : Hid (BoxN X4 X1.heap.size 3 [.int .i64 0, .int .i64 0]) := by unfold Hid; rw [hX]; exact BoxN.new X1 [.int .i64 0, .int .i64 0] 3
        have HBX4_0 : Hid (BoxN X4 u_0.heap.size 3 [.int .i64 0, .int .i64 0]) := by unfold Hid; rw [hX]; exact HAX1.out.alloc _
        have hlX4 : X1.heap.size < X4.heap.size := HAX4.out.lt
        have hgX4 : u_0.heap.size ≤ X1.heap.size := hbX1.size
        rw [← hX]
        clear hX
        refine hK.out _ _ trivial (fun _ => ?_)
        clear hK K
        (try simp only [Act.put, List.setIfInBounds_toArray, List.set_cons_zero, List.set_cons_succ])
        refine wpV_do (by kernel_rfl) (fun K hK => ?_)
        go_simp
        obtain ⟨X5, hX⟩ : ∃ x0, x0 = (X4.alloc (.cells #[.int .i64 0, .int .i64 0] 3)) := ⟨_, rfl⟩
        have hbX5 : Below u_0.heap.size u_0 X5 := by rw [hX]; exact hbX4.alloc hbX4.size _
        have HAX5 : Hid (BoxN X5 X4.heap.size 3 [.int .i64 0, .int .i64 0]) := by unfold Hid; rw [hX]; exact BoxN.new X4 [.int .i64 0, .int .i64 0] 3
        have HBX5_2 : Hid (BoxN X5 X1.heap.size 3 [.int .i64 0, .int .i64 0]) := by unfold Hid; rw [hX]; exact HAX4.out.alloc _
        have HBX5_0 : Hid (BoxN X5 u_0.heap.size 3 [.int .i64 0, .int .i64 0]) := by unfold Hid; rw [hX]; exact HBX4_0.out.alloc _
        have hlX5 : X4.heap.size < X5.heap.size := HAX5.out.lt
        have hgX5 : u_0.heap.size ≤ X4.heap.size := hbX4.size
        rw [← hX]
        clear hX
        refine hK.out _ _ trivial (fun _ => ?_)
        clear hK K
        (try simp only [Act.put, List.setIfInBounds_toArray, List.set_cons_zero, List.set_cons_succ])
        repeat (refine' wpV_read _ (by kernel_rfl) (fun w' hS' => ?_) ?_; rotate_left; · ((try dsimp only at hS'); go_simp; (try with_reducible rfl)); (try simp only [Act.put, List.setIfInBounds_toArray, List.set_cons_zero, List.set_cons_succ]))
        refine wpV_done ?_
        go_wp2_with fail
        refine NoPanic.normal ?_
        try (go_wp2_with fail)
        have HF := Lib.hid hbX5
        go_meet
        exact ⟨u_0.heap.size, X4.heap.size, X1.heap.size, rfl, rfl, rfl, by omega, by omega, by omega, by omega, by omega, by omega, HF, HBX5_0, HAX5, HBX5_2⟩
      refine wpV_or (by kernel_rfl) (fun K hK => ?_) ?_
      · go_simp
        obtain ⟨X6, hX⟩ : ∃ x0, x0 = (u_0.alloc (.cells #[.int .i64 0, .int .i64 0] 3)).drew := ⟨_, rfl⟩
        have hbX6 : Below u_0.heap.size u_0 X6 := by rw [hX]; exact hb0.alloc hb0.size _
        have HAX6 : Hid (BoxN X6 u_0.heap.size 3 [.int .i64 0, .int .i64 0]) := by unfold Hid; rw [hX]; exact BoxN.below (BoxN.new u_0 [.int .i64 0, .int .i64 0] 3) (Below.refl _ _).drew
        have hlX6 : u_0.heap.size < X6.heap.size := HAX6.out.lt
        have hgX6 : u_0.heap.size ≤ u_0.heap.size := Nat.le_refl _
        rw [← hX]
        clear hX
        refine hK.out _ _ trivial (fun _ => ?_)
        clear hK K
        (try simp only [Act.put, List.setIfInBounds_toArray, List.set_cons_zero, List.set_cons_succ])
        refine wpV_or (by kernel_rfl) (fun K hK => ?_) ?_
        · go_simp
          obtain ⟨X7, hX⟩ : ∃ x0, x0 = (X6.alloc (.cells #[.int .i64 0, .int .i64 0] 3)) := ⟨_, rfl⟩
          have hbX7 : Below u_0.heap.size u_0 X7 := by rw [hX]; exact hbX6.alloc hbX6.size _
          have HAX7 : Hid (BoxN X7 X6.heap.size 3 [.int .i64 0, .int .i64 0]) := by unfold Hid; rw [hX]; exact BoxN.new X6 [.int .i64 0, .int .i64 0] 3
          have HBX7_1 : Hid (BoxN X7 u_0.heap.size 3 [.int .i64 0, .int .i64 0]) := by unfold Hid; rw [hX]; exact HAX6.out.alloc _
          have hlX7 : X6.heap.size < X7.heap.size := HAX7.out.lt
          have hgX7 : u_0.heap.size ≤ X6.heap.size := hbX6.size
          rw [← hX]
          clear hX
          refine hK.out _ _ trivial (fun _ => ?_)
          clear hK K
          (try simp only [Act.put, List.setIfInBounds_toArray, List.set_cons_zero, List.set_cons_succ])
          repeat (refine' wpV_read _ (by kernel_rfl) (fun w' hS' => ?_) ?_; rotate_left; · ((try dsimp only at hS'); go_simp; (try with_reducible rfl)); (try simp only [Act.put, List.setIfInBounds_toArray, List.set_cons_zero, List.set_cons_succ]))
          refine wpV_do (by kernel_rfl) (fun K hK => ?_)
          go_simp
          obtain ⟨X8, hX⟩ : ∃ x0, x0 = (X7.alloc (.cells #[.int .i64 0, .int .i64 0] 3)) := ⟨_, rfl⟩
          have hbX8 : Below u_0.heap.size u_0 X8 := by rw [hX]; exact hbX7.alloc hbX7.size _
          have HAX8 : Hid (BoxN X8 X7.heap.size 3 [.int .i64 0, .int .i64 0]) := by unfold Hid; rw [hX]; exact BoxN.new X7 [.int .i64 0, .int .i64 0] 3
          have HBX8_0 : Hid (BoxN X8 X6.heap.size 3 [.int .i64 0, .int .i64 0]) := by unfold Hid; rw [hX]; exact HAX7.out.alloc _
          have HBX8_1 : Hid (BoxN X8 u_0.heap.size 3 [.int .i64 0, .int .i64 0]) := by unfold Hid; rw [hX]; exact HBX7_1.out.alloc _
          have hlX8 : X7.heap.size < X8.heap.size := HAX8.out.lt
          have hgX8 : u_0.heap.size ≤ X7.heap.size := hbX7.size
          rw [← hX]
          clear hX
          refine hK.out _ _ trivial (fun _ => ?_)
          clear hK K
          (try simp only [Act.put, List.setIfInBounds_toArray, List.set_cons_zero, List.set_cons_succ])
          repeat (refine' wpV_read _ (by kernel_rfl) (fun w' hS' => ?_) ?_; rotate_left; · ((try dsimp only at hS'); go_simp; (try with_reducible rfl)); (try simp only [Act.put, List.setIfInBounds_toArray, List.set_cons_zero, List.set_cons_succ]))
          refine wpV_done ?_
          go_wp2_with fail
          refine NoPanic.normal ?_
          try (go_wp2_with fail)
          have HF := Lib.hid hbX8
          go_meet
          exact ⟨X6.heap.size, u_0.heap.size, X7.heap.size, rfl, rfl, rfl, by omega, by omega, by omega, by omega, by omega, by omega, HF, HBX8_0, HBX8_1, HAX8⟩
        refine wpV_do (by kernel_rfl) (fun K hK => ?_)
        go_simp
        obtain ⟨X9, hX⟩ : ∃ x0, x0 = (X6.alloc (.cells #[.int .i64 0, .int .i64 0] 3)) := ⟨_, rfl⟩
        have hbX9 : Below u_0.heap.size u_0 X9 := by rw [hX]; exact hbX6.alloc hbX6.size _
        have HAX9 : Hid (BoxN X9 X6.heap.size 3 [.int .i64 0, .int .i64 0]) := by unfold Hid; rw [hX]; exact BoxN.new X6 [.int .i64 0, .int .i64 0] 3
        have HBX9_1 : Hid (BoxN X9 u_0.heap.size 3 [.int .i64 0, .int .i64 0]) := by unfold Hid; rw [hX]; exact HAX6.out.alloc _
        have hlX9 : X6.heap.size < X9.heap.size := HAX9.out.lt
        have hgX9 : u_0.heap.size ≤ X6.heap.size := hbX6.size
        rw [← hX]
        clear hX
        refine hK.out _ _ trivial (fun _ => ?_)
        clear hK K
        (try simp only [Act.put, List.setIfInBounds_toArray, List.set_cons_zero, List.set_cons_succ])
        refine wpV_do (by kernel_rfl) (fun K hK => ?_)
        go_simp
        obtain ⟨X10, hX⟩ : ∃ x0, x0 = (X9.alloc (.cells #[.int .i64 0, .int .i64 0] 3)) := ⟨_, rfl⟩
        have hbX10 : Below u_0.heap.size u_0 X10 := by rw [hX]; exact hbX9.alloc hbX9.size _
        have HAX10 : Hid (BoxN X10 X9.heap.size 3 [.int .i64 0, .int .i64 0]) := by unfold Hid; rw [hX]; exact BoxN.new X9 [.int .i64 0, .int .i64 0] 3
        have HBX10_2 : Hid (BoxN X10 X6.heap.size 3 [.int .i64 0, .int .i64 0]) := by unfold Hid; rw [hX]; exact HAX9.out.alloc _
        have HBX10_1 : Hid (BoxN X10 u_0.heap.size 3 [.int .i64 0, .int .i64 0]) := by unfold Hid; rw [hX]; exact HBX9_1.out.alloc _
        have hlX10 : X9.heap.size < X10.heap.size := HAX10.out.lt
        have hgX10 : u_0.heap.size ≤ X9.heap.size := hbX9.size
        rw [← hX]
        clear hX
        refine hK.out _ _ trivial (fun _ => ?_)
        clear hK K
        (try simp only [Act.put, List.setIfInBounds_toArray, List.set_cons_zero, List.set_cons_succ])
        repeat (refine' wpV_read _ (by kernel_rfl) (fun w' hS' => ?_) ?_; rotate_left; · ((try dsimp only at hS'); go_simp; (try with_reducible rfl)); (try simp only [Act.put, List.setIfInBounds_toArray, List.set_cons_zero, List.set_cons_succ]))
        refine wpV_done ?_
        go_wp2_with fail
        refine NoPanic.normal ?_
        try (go_wp2_with fail)
        have HF := Lib.hid hbX10
        go_meet
        exact ⟨X9.heap.size, u_0.heap.size, X6.heap.size, rfl, rfl, rfl, by omega, by omega, by omega, by omega, by omega, by omega, HF, HAX10, HBX10_1, HBX10_2⟩
      refine wpV_do (by kernel_rfl) (fun K hK => ?_)
      go_simp
      obtain ⟨X11, hX⟩ : ∃ x0, x0 = (u_0.alloc (.cells #[.int .i64 0, .int .i64 0] 3)).drew := ⟨_, rfl⟩
      have hbX11 : Below u_0.heap.size u_0 X11 := by rw [hX]; exact hb0.alloc hb0.size _
      have HAX11 : Hid (BoxN X11 u_0.heap.size 3 [.int .i64 0, .int .i64 0]) := by unfold Hid; rw [hX]; exact BoxN.below (BoxN.new u_0 [.int .i64 0, .int .i64 0] 3) (Below.refl _ _).drew
      have hlX11 : u_0.heap.size < X11.heap.size := HAX11.out.lt
      have hgX11 : u_0.heap.size ≤ u_0.heap.size := Nat.le_refl _
      rw [← hX]
      clear hX
      refine hK.out _ _ trivial (fun _ => ?_)
      clear hK K
      (try simp only [Act.put, List.setIfInBounds_toArray, List.set_cons_zero, List.set_cons_succ])
      refine wpV_or (by kernel_rfl) (fun K hK => ?_) ?_
      · go_simp
        obtain ⟨X12, hX⟩ : ∃ x0, x0 = (X11.alloc (.cells #[.int .i64 0, .int .i64 0] 3)) := ⟨_, rfl⟩
        have hbX12 : Below u_0.heap.size u_0 X12 := by rw [hX]; exact hbX11.alloc hbX11.size _
        have HAX12 : Hid (BoxN X12 X11.heap.size 3 [.int .i64 0, .int .i64 0]) := by unfold Hid; rw [hX]; exact BoxN.new X11 [.int .i64 0, .int .i64 0] 3
        have HBX12_2 : Hid (BoxN X12 u_0.heap.size 3 [.int .i64 0, .int .i64 0]) := by unfold Hid; rw [hX]; exact HAX11.out.alloc _
        have hlX12 : X11.heap.size < X12.heap.size := HAX12.out.lt
        have hgX12 : u_0.heap.size ≤ X11.heap.size := hbX11.size
        rw [← hX]
        clear hX
        refine hK.out _ _ trivial (fun _ => ?_)
        clear hK K
        (try simp only [Act.put, List.setIfInBounds_toArray, List.set_cons_zero, List.set_cons_succ])
        repeat (refine' wpV_read _ (by kernel_rfl) (fun w' hS' => ?_) ?_; rotate_left; · ((try dsimp only at hS'); go_simp; (try with_reducible rfl)); (try simp only [Act.put, List.setIfInBounds_toArray, List.set_cons_zero, List.set_cons_succ]))
        refine wpV_do (by kernel_rfl) (fun K hK => ?_)
        go_simp
        obtain ⟨X13, hX⟩ : ∃ x0, x0 = (X12.alloc (.cells #[.int .i64 0, .int .i64 0] 3)) := ⟨_, rfl⟩
        have hbX13 : Below u_0.heap.size u_0 X13 := by rw [hX]; exact hbX12.alloc hbX12.size _
        have HAX13 : Hid (BoxN X13 X12.heap.size 3 [.int .i64 0, .int .i64 0]) := by unfold Hid; rw [hX]; exact BoxN.new X12 [.int .i64 0, .int .i64 0] 3
        have HBX13_0 : Hid (BoxN X13 X11.heap.size 3 [.int .i64 0, .int .i64 0]) := by unfold Hid; rw [hX]; exact HAX12.out.alloc _
        have HBX13_2 : Hid (BoxN X13 u_0.heap.size 3 [.int .i64 0, .int .i64 0]) := by unfold Hid; rw [hX]; exact HBX12_2.out.alloc _
        have hlX13 : X12.heap.size < X13.heap.size := HAX13.out.lt
        have hgX13 : u_0.heap.size ≤ X12.heap.size := hbX12.size
        rw [← hX]
        clear hX
        refine hK.out _ _ trivial (fun _ => ?_)
        clear hK K
        (try simp only [Act.put, List.setIfInBounds_toArray, List.set_cons_zero, List.set_cons_succ])
        repeat (refine' wpV_read _ (by kernel_rfl) (fun w' hS' => ?_) ?_; rotate_left; · ((try dsimp only at hS'); go_simp; (try with_reducible rfl)); (try simp only [Act.put, List.setIfInBounds_toArray, List.set_cons_zero, List.set_cons_succ]))
        refine wpV_done ?_
        go_wp2_with fail
        refine NoPanic.normal ?_
        try (go_wp2_with fail)
        have HF := Lib.hid hbX13
        go_meet
        exact ⟨X11.heap.size, X12.heap.size, u_0.heap.size, rfl, rfl, rfl, by omega, by omega, by omega, by omega, by omega, by omega, HF, HBX13_0, HAX13, HBX13_2⟩
      refine wpV_do (by kernel_rfl) (fun K hK => ?_)
      go_simp
      obtain ⟨X14, hX⟩ : ∃ x0, x0 = (X11.alloc (.cells #[.int .i64 0, .int .i64 0] 3)) := ⟨_, rfl⟩
      have hbX14 : Below u_0.heap.size u_0 X14 := by rw [hX]; exact hbX11.alloc hbX11.size _
      have HAX14 : Hid (BoxN X14 X11.heap.size 3 [.int .i64 0, .int .i64 0]) := by unfold Hid; rw [hX]; exact BoxN.new X11 [.int .i64 0, .int .i64 0] 3
      have HBX14_2 : Hid (BoxN X14 u_0.heap.size 3 [.int .i64 0, .int .i64 0]) := by unfold Hid; rw [hX]; exact HAX11.out.alloc _
      have hlX14 : X11.heap.size < X14.heap.size := HAX14.out.lt
      have hgX14 : u_0.heap.size ≤ X11.heap.size := hbX11.size
      rw [← hX]
      clear hX
      refine hK.out _ _ trivial (fun _ => ?_)
      clear hK K
      (try simp only [Act.put, List.setIfInBounds_toArray, List.set_cons_zero, List.set_cons_succ])
      refine wpV_do (by kernel_rfl) (fun K hK => ?_)
      go_simp
      obtain ⟨X15, hX⟩ : ∃ x0, x0 = (X14.alloc (.cells #[.int .i64 0, .int .i64 0] 3)) := ⟨_, rfl⟩
      have hbX15 : Below u_0.heap.size u_0 X15 := by rw [hX]; exact hbX14.alloc hbX14.size _
      have HAX15 : Hid (BoxN X15 X14.heap.size 3 [.int .i64 0, .int .i64 0]) := by unfold Hid; rw [hX]; exact BoxN.new X14 [.int .i64 0, .int .i64 0] 3
      have HBX15_1 : Hid (BoxN X15 X11.heap.size 3 [.int .i64 0, .int .i64 0]) := by unfold Hid; rw [hX]; exact HAX14.out.alloc _
      have HBX15_2 : Hid (BoxN X15 u_0.heap.size 3 [.int .i64 0, .int .i64 0]) := by unfold Hid; rw [hX]; exact HBX14_2.out.alloc _
      have hlX15 : X14.heap.size < X15.heap.size := HAX15.out.lt
      have hgX15 : u_0.heap.size ≤ X14.heap.size := hbX14.size
      rw [← hX]
      clear hX
      refine hK.out _ _ trivial (fun _ => ?_)
      clear hK K
      (try simp only [Act.put, List.setIfInBounds_toArray, List.set_cons_zero, List.set_cons_succ])
      repeat (refine' wpV_read _ (by kernel_rfl) (fun w' hS' => ?_) ?_; rotate_left; · ((try dsimp only at hS'); go_simp; (try with_reducible rfl)); (try simp only [Act.put, List.setIfInBounds_toArray, List.set_cons_zero, List.set_cons_succ]))
      refine wpV_done ?_
      go_wp2_with fail
      refine NoPanic.normal ?_
      try (go_wp2_with fail)
      have HF := Lib.hid hbX15
      go_meet
      exact ⟨X14.heap.size, X11.heap.size, u_0.heap.size, rfl, rfl, rfl, by omega, by omega, by omega, by omega, by omega, by omega, HF, HAX15, HBX15_1, HBX15_2⟩
    case rest =>
      obtain ⟨R0, R1, R2, rfl, rfl, rfl, hR0, hR1, hR2, n01, n02, n12, HBV, HM0, HM1, HM2⟩ := hcut
      obtain ⟨V, hV⟩ : ∃ V, V = wc := ⟨_, rfl⟩
      rw [← hV] at HBV HM0 HM1 HM2 ⊢
      clear hV
      have hRW : W.heap.size ≤ u_0.heap.size := hc.size
      replace hc := Below.next hc HBV.out
      clear HBV
      have s0_0 := box_at (HS0.out.cell (i := 0) rfl) hc
      have s0_1 := box_at (HS0.out.cell (i := 1) rfl) hc
      have s0_2 := box_at (HS0.out.cell (i := 2) rfl) hc
      have s1_0 := box_at (HS1.out.cell (i := 0) rfl) hc
      have s1_1 := box_at (HS1.out.cell (i := 1) rfl) hc
      have m0_0 := HM0.out.cell (i := 0) rfl
      have m0_1 := HM0.out.cell (i := 1) rfl
      have m1_0 := HM1.out.cell (i := 0) rfl
      have m1_1 := HM1.out.cell (i := 1) rfl
      have m2_0 := HM2.out.cell (i := 0) rfl
      have m2_1 := HM2.out.cell (i := 1) rfl
      have y0 := box_at Kcv0.out (HB.out.trans (hc.mono HB.out.size))
      have y1 := box_at Kcv1.out (HB.out.trans (hc.mono HB.out.size))
      have y2 := box_at Kcv2.out (HB.out.trans (hc.mono HB.out.size))
      have fz1 := fun i => HM1.out.frozen i
      have hsz := hc.size
      go_upto_region 5 with fail
      obtain ⟨Y_1, hY⟩ : ∃ Y, Y = V.setCell ⟨R1, 1, none⟩ (.int .i64 (nth cs 1)) := ⟨_, rfl⟩
      have NHM0 : Hid (BoxN Y_1 R0 3 [.int .i64 0, .int .i64 0]) := by unfold Hid; rw [hY]; exact (HM0.out.other (b' := R1) (by omega) 1 (.int .i64 (nth cs 1)))
      have NHM1 : Hid (BoxN Y_1 R1 3 [.int .i64 0, .int .i64 (nth cs 1)]) := by unfold Hid; rw [hY]; exact (HM1.out.set 1 (.int .i64 (nth cs 1)))
      have NHM2 : Hid (BoxN Y_1 R2 3 [.int .i64 0, .int .i64 0]) := by unfold Hid; rw [hY]; exact (HM2.out.other (b' := R1) (by omega) 1 (.int .i64 (nth cs 1)))
      have hcY : Below W.heap.size W Y_1 := by rw [hY]; exact (hc.setCell (p := ⟨R1, 1, none⟩) (by show W.heap.size ≤ R1; omega) (.int .i64 (nth cs 1)))
      rw [← hY]
      clear hY fz1
      clear HM0
      have HM0 := NHM0
      clear NHM0
      clear HM1
      have HM1 := NHM1
      clear NHM1
      clear HM2
      have HM2 := NHM2
      clear NHM2
      clear s0_0 s0_1 s0_2 s1_0 s1_1 m0_0 m0_1 m1_0 m1_1 m2_0 m2_1 y0 y1 y2
      clear hc hsz
      have hc := hcY
      clear hcY
      have s0_0 := box_at (HS0.out.cell (i := 0) rfl) hc
      have s0_1 := box_at (HS0.out.cell (i := 1) rfl) hc
      have s0_2 := box_at (HS0.out.cell (i := 2) rfl) hc
      have s1_0 := box_at (HS1.out.cell (i := 0) rfl) hc
      have s1_1 := box_at (HS1.out.cell (i := 1) rfl) hc
      have m0_0 := HM0.out.cell (i := 0) rfl
      have m0_1 := HM0.out.cell (i := 1) rfl
      have m1_0 := HM1.out.cell (i := 0) rfl
      have m1_1 := HM1.out.cell (i := 1) rfl
      have m2_0 := HM2.out.cell (i := 0) rfl
      have m2_1 := HM2.out.cell (i := 1) rfl
      have y0 := box_at Kcv0.out (HB.out.trans (hc.mono HB.out.size))
      have y1 := box_at Kcv1.out (HB.out.trans (hc.mono HB.out.size))
      have y2 := box_at Kcv2.out (HB.out.trans (hc.mono HB.out.size))
      have fz2 := fun i => HM2.out.frozen i
      have hsz := hc.size
      go_wp2_with fail
      obtain ⟨Y_2, hY⟩ : ∃ Y, Y = Y_1.setCell ⟨R2, 1, none⟩ (.int .i64 (nth cs 2)) := ⟨_, rfl⟩
      have NHM0 : Hid (BoxN Y_2 R0 3 [.int .i64 0, .int .i64 0]) := by unfold Hid; rw [hY]; exact (HM0.out.other (b' := R2) (by omega) 1 (.int .i64 (nth cs 2)))
      have NHM1 : Hid (BoxN Y_2 R1 3 [.int .i64 0, .int .i64 (nth cs 1)]) := by unfold Hid; rw [hY]; exact (HM1.out.other (b' := R2) (by omega) 1 (.int .i64 (nth cs 2)))
      have NHM2 : Hid (BoxN Y_2 R2 3 [.int .i64 0, .int .i64 (nth cs 2)]) := by unfold Hid; rw [hY]; exact (HM2.out.set 1 (.int .i64 (nth cs 2)))
      have hcY : Below W.heap.size W Y_2 := by rw [hY]; exact (hc.setCell (p := ⟨R2, 1, none⟩) (by show W.heap.size ≤ R2; omega) (.int .i64 (nth cs 2)))
      rw [← hY]
      clear hY fz2
      clear HM0
      have HM0 := NHM0
      clear NHM0
      clear HM1
      have HM1 := NHM1
      clear NHM1
      clear HM2
      have HM2 := NHM2
      clear NHM2
      clear s0_0 s0_1 s0_2 s1_0 s1_1 m0_0 m0_1 m1_0 m1_1 m2_0 m2_1 y0 y1 y2
      clear hc hsz
      have hc := hcY
      clear hcY
      have s0_0 := box_at (HS0.out.cell (i := 0) rfl) hc
      have s0_1 := box_at (HS0.out.cell (i := 1) rfl) hc
      have s0_2 := box_at (HS0.out.cell (i := 2) rfl) hc
      have s1_0 := box_at (HS1.out.cell (i := 0) rfl) hc
      have s1_1 := box_at (HS1.out.cell (i := 1) rfl) hc
      have m0_0 := HM0.out.cell (i := 0) rfl
      have m0_1 := HM0.out.cell (i := 1) rfl
      have m1_0 := HM1.out.cell (i := 0) rfl
      have m1_1 := HM1.out.cell (i := 1) rfl
      have m2_0 := HM2.out.cell (i := 0) rfl
      have m2_1 := HM2.out.cell (i := 1) rfl
      have y0 := box_at Kcv0.out (HB.out.trans (hc.mono HB.out.size))
      have y1 := box_at Kcv1.out (HB.out.trans (hc.mono HB.out.size))
      have y2 := box_at Kcv2.out (HB.out.trans (hc.mono HB.out.size))
      try (go_wp2_with fail)
      refine wp_region_noPanic ?_
      refine wp_region_P (fun w' => w'.cell? ⟨w.heap.size, 0, none⟩ = some (.int .i64 gr.p) ∧ w'.cell? ⟨w.heap.size, 1, none⟩ = some (.int .i64 gr.q) ∧ w'.cell? ⟨w.heap.size, 2, none⟩ = some (.int .i64 gr.g) ∧ w'.cell? ⟨(w.heap.size + 1), 0, none⟩ = some (.int .i64 bh) ∧ w'.cell? ⟨(w.heap.size + 1), 1, none⟩ = some (.slice bva bvn bvc) ∧ w'.cell? ⟨R0, 0, none⟩ = some (.int .i64 0) ∧ w'.cell? ⟨R0, 1, none⟩ = some (.int .i64 0) ∧ w'.cell? ⟨R1, 0, none⟩ = some (.int .i64 0) ∧ w'.cell? ⟨R1, 1, none⟩ = some (.int .i64 (nth cs 1)) ∧ w'.cell? ⟨R2, 0, none⟩ = some (.int .i64 0) ∧ w'.cell? ⟨R2, 1, none⟩ = some (.int .i64 (nth cs 2)) ∧ w'.cell? ⟨cvb, cvo, none⟩ = some (.int .i64 (nth cs 0)) ∧ w'.cell? ⟨cvb, cvo + 1, none⟩ = some (.int .i64 (nth cs 1)) ∧ w'.cell? ⟨cvb, cvo + 2, none⟩ = some (.int .i64 (nth cs 2))) 28 [(0, []), (1, []), (2, []), (3, []), (4, []), (5, [0]), (6, []), (7, []), (8, [1, 0]), (9, [0]), (10, [6, 4, 0]), (11, []), (12, []), (13, []), (14, []), (15, [2, 1, 0]), (16, []), (17, []), (18, [1, 0]), (19, [0]), (20, [0]), (21, [9, 5, 0]), (22, [11, 0]), (23, [20, 0]), (24, [23, 22])] [25] (by kernel_rfl) (by kernel_rfl) (by kernel_rfl) rfl (fun _ _ _ _ h => h) (fun w' h => ⟨box_at s0_0 h, box_at s0_1 h, box_at s0_2 h, box_at s1_0 h, box_at s1_1 h, box_at m0_0 h, box_at m0_1 h, box_at m1_0 h, box_at m1_1 h, box_at m2_0 h, box_at m2_1 h, box_at y0 h, box_at y1 h, box_at y2 h⟩) ?_
      simp only [pickP, pickN, List.getElem?_cons_zero, List.getElem?_cons_succ]
      iterate 10 (refine' chainP_read _ rfl rfl (fun w' hS' => ?_) ?_; rotate_left; · (simp only [lookP, allP, Act.put, List.getElem?_cons_zero, List.getElem?_cons_succ, List.setIfInBounds_toArray, List.set_cons_zero, List.set_cons_succ]; (try dsimp only at hS'); go_simp; (try with_reducible rfl)))
      -- 10: call { callee := value (func 156), args := #[t41, t43, t47], argTypes := #[39, 3, 3] }
      refine chainP_call (d := (some 48)) (.int .i64 H2) rfl rfl (fun w' hS' => ?_) ?_
      · simp only [lookP, allP, Act.put, List.getElem?_cons_zero, List.getElem?_cons_succ, List.setIfInBounds_toArray, List.set_cons_zero, List.set_cons_succ]
        intro K hK
        go_simp
        go_at_call 57
        refine (spec_gExp gr bh (nth cs 2) _ HG.out sbh ⟨by omega, by omega⟩).mono ?_
        rintro e u ⟨rfl, hq⟩
        rw [HH2.out]
        exact hK.out _ hq
      iterate 4 (refine' chainP_read _ rfl rfl (fun w' hS' => ?_) ?_; rotate_left; · (simp only [lookP, allP, Act.put, List.getElem?_cons_zero, List.getElem?_cons_succ, List.setIfInBounds_toArray, List.set_cons_zero, List.set_cons_succ]; (try dsimp only at hS'); go_simp; (try with_reducible rfl)))
      -- 15: call { callee := value (func 281), args := #[t50, t51, t52], argTypes := #[39, 3, 3] }
      refine chainP_call (d := (some 53)) (.int .i64 BC) rfl rfl (fun w' hS' => ?_) ?_
      · simp only [lookP, allP, Act.put, List.getElem?_cons_zero, List.getElem?_cons_succ, List.setIfInBounds_toArray, List.set_cons_zero, List.set_cons_succ]
        intro K hK
        go_simp
        go_at_call 98
        refine (spec_rCase gr C0 1 _ HG.out sC0).mono ?_
        rintro e u ⟨rfl, hq⟩
        rw [HBC.out]
        exact hK.out _ hq
      iterate 5 (refine' chainP_read _ rfl rfl (fun w' hS' => ?_) ?_; rotate_left; · (simp only [lookP, allP, Act.put, List.getElem?_cons_zero, List.getElem?_cons_succ, List.setIfInBounds_toArray, List.set_cons_zero, List.set_cons_succ]; (try dsimp only at hS'); go_simp; (try with_reducible rfl)))
      -- 21: call { callee := value (func 156), args := #[t49, t53, t58], argTypes := #[39, 3, 3] }
      refine chainP_call (d := (some 59)) (.int .i64 BP) rfl rfl (fun w' hS' => ?_) ?_
      · simp only [lookP, allP, Act.put, List.getElem?_cons_zero, List.getElem?_cons_succ, List.setIfInBounds_toArray, List.set_cons_zero, List.set_cons_succ]
        intro K hK
        go_simp
        go_at_call 57
        refine (spec_gExp gr BC (-nth cs 1) _ HG.out sBC ⟨by omega, by omega⟩).mono ?_
        rintro e u ⟨rfl, hq⟩
        rw [HBP.out]
        exact hK.out _ hq
      -- 22: buildSlice 24 2 #[(0, t48), (1, t59)]
      refine chainP_do (d := (some 60)) (fun v w => Ints w v [H2, BP]) (fun v w w' hb h => Ints.below h hb) rfl rfl (fun w' hS' => ?_) ?_
      · simp only [lookP, allP, Act.put, List.getElem?_cons_zero, List.getElem?_cons_succ, List.setIfInBounds_toArray, List.set_cons_zero, List.set_cons_succ]
        intro K hK
        go_simp
        refine hK.out _ _ ((Below.refl _ _).alloc (Nat.le_refl _) _) ?_
        exact (OwnI.lit (B := w'.heap.size) w' (Nat.le_refl _) (l := [H2, BP]) (AllI64.cons (small_64 sH2) (AllI64.cons (small_64 sBP) AllI64.nil)) rfl (by simp [maxLen]) 2 rfl).ints
      -- 23: call { callee := value (func 211), args := #[t40, t60], argTypes := #[39, 24] }
      refine chainP_call (d := (some 61)) (.int .i64 XO) rfl rfl (fun w' hS' => ?_) ?_
      · simp only [lookP, allP, Act.put, List.getElem?_cons_zero, List.getElem?_cons_succ, List.setIfInBounds_toArray, List.set_cons_zero, List.set_cons_succ]
        intro x22 hx22
        intro K hK
        go_simp
        go_at_call 66
        refine (spec_gMul gr _ [H2, BP] _ HG.out hx22 (AllSmall.cons sH2 (AllSmall.cons sBP AllSmall.nil))).mono ?_
        rintro e u ⟨rfl, hq⟩
        rw [HXO.out]
        exact hK.out _ hq
      -- 24: indexAddr 24 t38 t39
      refine' chainP_read (d := (some 62)) _ rfl rfl (fun w' hS' => ?_) ?_; rotate_left
      · simp only [lookP, allP, Act.put, List.getElem?_cons_zero, List.getElem?_cons_succ, List.setIfInBounds_toArray, List.set_cons_zero, List.set_cons_succ]
        (try dsimp only at hS')
        go_simp
        (try with_reducible rfl)
      refine chainP_nil (fun u_3 hS' => ?_)
      simp only [allP, Act.put, List.setIfInBounds_toArray, List.set_cons_zero, List.set_cons_succ]
      intro x22 hx22
      have hq1 := hS'.1
      replace HM0 := Lib.hid (HM0.out.below hq1)
      replace HM1 := Lib.hid (HM1.out.below hq1)
      replace HM2 := Lib.hid (HM2.out.below hq1)
      clear hS'
      replace hc := Below.next hc hq1
      replace s0_0 := box_at s0_0 hq1
      replace s0_1 := box_at s0_1 hq1
      replace s0_2 := box_at s0_2 hq1
      replace s1_0 := box_at s1_0 hq1
      replace s1_1 := box_at s1_1 hq1
      replace m0_0 := box_at m0_0 hq1
      replace m0_1 := box_at m0_1 hq1
      replace m1_0 := box_at m1_0 hq1
      replace m1_1 := box_at m1_1 hq1
      replace m2_0 := box_at m2_0 hq1
      replace m2_1 := box_at m2_1 hq1
      replace y0 := box_at y0 hq1
      replace y1 := box_at y1 hq1
      replace y2 := box_at y2 hq1
      clear hq1
      have fz0 := fun i => HM0.out.frozen i
      have hsz := hc.size
      go_wp2_with fail
      refine NoPanic.normal ?_
      (try (go_wp2_with fail))
      obtain ⟨Y_4, hY⟩ : ∃ Y, Y = u_3.setCell ⟨R0, 1, none⟩ (.int .i64 XO) := ⟨_, rfl⟩
      have NHM0 : Hid (BoxN Y_4 R0 3 [.int .i64 0, .int .i64 XO]) := by unfold Hid; rw [hY]; exact (HM0.out.set 1 (.int .i64 XO))
      have NHM1 : Hid (BoxN Y_4 R1 3 [.int .i64 0, .int .i64 (nth cs 1)]) := by unfold Hid; rw [hY]; exact (HM1.out.other (b' := R0) (by omega) 1 (.int .i64 XO))
      have NHM2 : Hid (BoxN Y_4 R2 3 [.int .i64 0, .int .i64 (nth cs 2)]) := by unfold Hid; rw [hY]; exact (HM2.out.other (b' := R0) (by omega) 1 (.int .i64 XO))
      have hcY : Below W.heap.size W Y_4 := by rw [hY]; exact (hc.setCell (p := ⟨R0, 1, none⟩) (by show W.heap.size ≤ R0; omega) (.int .i64 XO))
      rw [← hY]
      clear hY fz0
      clear HM0
      have HM0 := NHM0
      clear NHM0
      clear HM1
      have HM1 := NHM1
      clear NHM1
      clear HM2
      have HM2 := NHM2
      clear NHM2
      clear s0_0 s0_1 s0_2 s1_0 s1_1 m0_0 m0_1 m1_0 m1_1 m2_0 m2_1 y0 y1 y2
      clear hc hsz
      have hc := hcY
      clear hcY
      have s0_0 := box_at (HS0.out.cell (i := 0) rfl) hc
      have s0_1 := box_at (HS0.out.cell (i := 1) rfl) hc
      have s0_2 := box_at (HS0.out.cell (i := 2) rfl) hc
      have s1_0 := box_at (HS1.out.cell (i := 0) rfl) hc
      have s1_1 := box_at (HS1.out.cell (i := 1) rfl) hc
      have m0_0 := HM0.out.cell (i := 0) rfl
      have m0_1 := HM0.out.cell (i := 1) rfl
      have m1_0 := HM1.out.cell (i := 0) rfl
      have m1_1 := HM1.out.cell (i := 1) rfl
      have m2_0 := HM2.out.cell (i := 0) rfl
      have m2_1 := HM2.out.cell (i := 1) rfl
      have y0 := box_at Kcv0.out (HB.out.trans (hc.mono HB.out.size))
      have y1 := box_at Kcv1.out (HB.out.trans (hc.mono HB.out.size))
      have y2 := box_at Kcv2.out (HB.out.trans (hc.mono HB.out.size))
      try (go_wp2_with fail)
      refine wp_region_noPanic ?_
      refine wp_region_P (fun w' => w'.cell? ⟨w.heap.size, 0, none⟩ = some (.int .i64 gr.p) ∧ w'.cell? ⟨w.heap.size, 1, none⟩ = some (.int .i64 gr.q) ∧ w'.cell? ⟨w.heap.size, 2, none⟩ = some (.int .i64 gr.g) ∧ w'.cell? ⟨(w.heap.size + 1), 0, none⟩ = some (.int .i64 bh) ∧ w'.cell? ⟨(w.heap.size + 1), 1, none⟩ = some (.slice bva bvn bvc) ∧ w'.cell? ⟨R0, 0, none⟩ = some (.int .i64 0) ∧ w'.cell? ⟨R0, 1, none⟩ = some (.int .i64 XO) ∧ w'.cell? ⟨R1, 0, none⟩ = some (.int .i64 0) ∧ w'.cell? ⟨R1, 1, none⟩ = some (.int .i64 (nth cs 1)) ∧ w'.cell? ⟨R2, 0, none⟩ = some (.int .i64 0) ∧ w'.cell? ⟨R2, 1, none⟩ = some (.int .i64 (nth cs 2)) ∧ w'.cell? ⟨cvb, cvo, none⟩ = some (.int .i64 (nth cs 0)) ∧ w'.cell? ⟨cvb, cvo + 1, none⟩ = some (.int .i64 (nth cs 1)) ∧ w'.cell? ⟨cvb, cvo + 2, none⟩ = some (.int .i64 (nth cs 2))) 13 [(0, []), (1, []), (2, []), (3, []), (4, [0]), (5, []), (6, [0]), (7, [0]), (8, [5, 3, 0]), (9, [8, 7])] [10] (by kernel_rfl) (by kernel_rfl) (by kernel_rfl) rfl (fun _ _ _ _ h => h) (fun w' h => ⟨box_at s0_0 h, box_at s0_1 h, box_at s0_2 h, box_at s1_0 h, box_at s1_1 h, box_at m0_0 h, box_at m0_1 h, box_at m1_0 h, box_at m1_1 h, box_at m2_0 h, box_at m2_1 h, box_at y0 h, box_at y1 h, box_at y2 h⟩) ?_
      simp only [pickP, pickN, List.getElem?_cons_zero, List.getElem?_cons_succ]
      iterate 8 (refine' chainP_read _ rfl rfl (fun w' hS' => ?_) ?_; rotate_left; · (simp only [lookP, allP, Act.put, List.getElem?_cons_zero, List.getElem?_cons_succ, List.setIfInBounds_toArray, List.set_cons_zero, List.set_cons_succ]; (try dsimp only at hS'); go_simp; (try with_reducible rfl)))
      -- 8: call { callee := value (func 156), args := #[t65, t67, t70], argTypes := #[39, 3, 3] }
      refine chainP_call (d := (some 71)) (.int .i64 XM) rfl rfl (fun w' hS' => ?_) ?_
      · simp only [lookP, allP, Act.put, List.getElem?_cons_zero, List.getElem?_cons_succ, List.setIfInBounds_toArray, List.set_cons_zero, List.set_cons_succ]
        intro K hK
        go_simp
        go_at_call 57
        refine (spec_gExp gr bh (nth cs 0) _ HG.out sbh ⟨by omega, by omega⟩).mono ?_
        rintro e u ⟨rfl, hq⟩
        rw [HXM.out]
        exact hK.out _ hq
      -- 9: indexAddr 24 t63 t64
      refine' chainP_read (d := (some 72)) _ rfl rfl (fun w' hS' => ?_) ?_; rotate_left
      · simp only [lookP, allP, Act.put, List.getElem?_cons_zero, List.getElem?_cons_succ, List.setIfInBounds_toArray, List.set_cons_zero, List.set_cons_succ]
        (try dsimp only at hS')
        go_simp
        (try with_reducible rfl)
      refine chainP_nil (fun u_5 hS' => ?_)
      simp only [allP, Act.put, List.setIfInBounds_toArray, List.set_cons_zero, List.set_cons_succ]
      have hq1 := hS'.1
      replace HM0 := Lib.hid (HM0.out.below hq1)
      replace HM1 := Lib.hid (HM1.out.below hq1)
      replace HM2 := Lib.hid (HM2.out.below hq1)
      clear hS'
      replace hc := Below.next hc hq1
      replace s0_0 := box_at s0_0 hq1
      replace s0_1 := box_at s0_1 hq1
      replace s0_2 := box_at s0_2 hq1
      replace s1_0 := box_at s1_0 hq1
      replace s1_1 := box_at s1_1 hq1
      replace m0_0 := box_at m0_0 hq1
      replace m0_1 := box_at m0_1 hq1
      replace m1_0 := box_at m1_0 hq1
      replace m1_1 := box_at m1_1 hq1
      replace m2_0 := box_at m2_0 hq1
      replace m2_1 := box_at m2_1 hq1
      replace y0 := box_at y0 hq1
      replace y1 := box_at y1 hq1
      replace y2 := box_at y2 hq1
      clear hq1
      have fz0 := fun i => HM0.out.frozen i
      have hsz := hc.size
      go_wp2_with fail
      refine NoPanic.normal ?_
      (try (go_wp2_with fail))
      obtain ⟨Y_6, hY⟩ : ∃ Y, Y = u_5.setCell ⟨R0, 0, none⟩ (.int .i64 XM) := ⟨_, rfl⟩
      have NHM0 : Hid (BoxN Y_6 R0 3 [.int .i64 XM, .int .i64 XO]) := by unfold Hid; rw [hY]; exact (HM0.out.set 0 (.int .i64 XM))
      have NHM1 : Hid (BoxN Y_6 R1 3 [.int .i64 0, .int .i64 (nth cs 1)]) := by unfold Hid; rw [hY]; exact (HM1.out.other (b' := R0) (by omega) 0 (.int .i64 XM))
      have NHM2 : Hid (BoxN Y_6 R2 3 [.int .i64 0, .int .i64 (nth cs 2)]) := by unfold Hid; rw [hY]; exact (HM2.out.other (b' := R0) (by omega) 0 (.int .i64 XM))
      have hcY : Below W.heap.size W Y_6 := by rw [hY]; exact (hc.setCell (p := ⟨R0, 0, none⟩) (by show W.heap.size ≤ R0; omega) (.int .i64 XM))
      rw [← hY]
      clear hY fz0
      clear HM0
      have HM0 := NHM0
      clear NHM0
      clear HM1
      have HM1 := NHM1
      clear NHM1
      clear HM2
      have HM2 := NHM2
      clear NHM2
      clear s0_0 s0_1 s0_2 s1_0 s1_1 m0_0 m0_1 m1_0 m1_1 m2_0 m2_1 y0 y1 y2
      clear hc hsz
      have hc := hcY
      clear hcY
      have s0_0 := box_at (HS0.out.cell (i := 0) rfl) hc
      have s0_1 := box_at (HS0.out.cell (i := 1) rfl) hc
      have s0_2 := box_at (HS0.out.cell (i := 2) rfl) hc
      have s1_0 := box_at (HS1.out.cell (i := 0) rfl) hc
      have s1_1 := box_at (HS1.out.cell (i := 1) rfl) hc
      have m0_0 := HM0.out.cell (i := 0) rfl
      have m0_1 := HM0.out.cell (i := 1) rfl
      have m1_0 := HM1.out.cell (i := 0) rfl
      have m1_1 := HM1.out.cell (i := 1) rfl
      have m2_0 := HM2.out.cell (i := 0) rfl
      have m2_1 := HM2.out.cell (i := 1) rfl
      have y0 := box_at Kcv0.out (HB.out.trans (hc.mono HB.out.size))
      have y1 := box_at Kcv1.out (HB.out.trans (hc.mono HB.out.size))
      have y2 := box_at Kcv2.out (HB.out.trans (hc.mono HB.out.size))
      try (go_wp2_with fail)
      refine wp_region_noPanic ?_
      refine wp_region_P (fun w' => w'.cell? ⟨w.heap.size, 0, none⟩ = some (.int .i64 gr.p) ∧ w'.cell? ⟨w.heap.size, 1, none⟩ = some (.int .i64 gr.q) ∧ w'.cell? ⟨w.heap.size, 2, none⟩ = some (.int .i64 gr.g) ∧ w'.cell? ⟨(w.heap.size + 1), 0, none⟩ = some (.int .i64 bh) ∧ w'.cell? ⟨(w.heap.size + 1), 1, none⟩ = some (.slice bva bvn bvc) ∧ w'.cell? ⟨R0, 0, none⟩ = some (.int .i64 XM) ∧ w'.cell? ⟨R0, 1, none⟩ = some (.int .i64 XO) ∧ w'.cell? ⟨R1, 0, none⟩ = some (.int .i64 0) ∧ w'.cell? ⟨R1, 1, none⟩ = some (.int .i64 (nth cs 1)) ∧ w'.cell? ⟨R2, 0, none⟩ = some (.int .i64 0) ∧ w'.cell? ⟨R2, 1, none⟩ = some (.int .i64 (nth cs 2)) ∧ w'.cell? ⟨cvb, cvo, none⟩ = some (.int .i64 (nth cs 0)) ∧ w'.cell? ⟨cvb, cvo + 1, none⟩ = some (.int .i64 (nth cs 1)) ∧ w'.cell? ⟨cvb, cvo + 2, none⟩ = some (.int .i64 (nth cs 2))) 19 [(0, []), (1, []), (2, []), (3, []), (4, []), (5, []), (6, [3, 2, 1, 0]), (7, []), (8, []), (9, [1, 0]), (10, [0]), (11, [4, 0]), (12, []), (13, [0]), (14, [2, 0]), (15, [14, 13])] [16] (by kernel_rfl) (by kernel_rfl) (by kernel_rfl) rfl (fun _ _ _ _ h => h) (fun w' h => ⟨box_at s0_0 h, box_at s0_1 h, box_at s0_2 h, box_at s1_0 h, box_at s1_1 h, box_at m0_0 h, box_at m0_1 h, box_at m1_0 h, box_at m1_1 h, box_at m2_0 h, box_at m2_1 h, box_at y0 h, box_at y1 h, box_at y2 h⟩) ?_
      simp only [pickP, pickN, List.getElem?_cons_zero, List.getElem?_cons_succ]
      iterate 6 (refine' chainP_read _ rfl rfl (fun w' hS' => ?_) ?_; rotate_left; · (simp only [lookP, allP, Act.put, List.getElem?_cons_zero, List.getElem?_cons_succ, List.setIfInBounds_toArray, List.set_cons_zero, List.set_cons_succ]; (try dsimp only at hS'); go_simp; (try with_reducible rfl)))
      -- 6: call { callee := value (func 282), args := #[t75, t76, t77, t78], argTypes := #[39, 79, 3, 24] }
      refine chainP_call (d := (some 79)) (.int .i64 E) rfl rfl (fun w' hS' => ?_) ?_
      · simp only [lookP, allP, Act.put, List.getElem?_cons_zero, List.getElem?_cons_succ, List.setIfInBounds_toArray, List.set_cons_zero, List.set_cons_succ]
        intro K hK
        go_simp
        go_at_call 95
        refine (spec_rBitChallenge gr bh _ bl C0 _ [XM, XO] _ HG.out (Hbv.out.below (HB.out.trans ((Below.next hc hS'.1).mono HB.out.size))) ((rowI HM0.out (by omega) (small_64 sXM) (small_64 sXO) : OwnI _ w.heap.size _ _).ints.below hS'.1) rfl sbh sC0 sXM sXO).mono ?_
        rintro e u ⟨rfl, hq⟩
        rw [show btE gr sBit bh C0 (nth [XM, XO] 0) (nth [XM, XO] 1) = E from HE.out]
        exact hK.out _ hq
      iterate 7 (refine' chainP_read _ rfl rfl (fun w' hS' => ?_) ?_; rotate_left; · (simp only [lookP, allP, Act.put, List.getElem?_cons_zero, List.getElem?_cons_succ, List.setIfInBounds_toArray, List.set_cons_zero, List.set_cons_succ]; (try dsimp only at hS'); go_simp; (try with_reducible rfl)))
      -- 14: call { callee := value (func 180), args := #[t84, t86], argTypes := #[3, 3] }
      refine chainP_call (d := (some 87)) (.int .i64 EM) rfl rfl (fun w' hS' => ?_) ?_
      · simp only [lookP, allP, Act.put, List.getElem?_cons_zero, List.getElem?_cons_succ, List.setIfInBounds_toArray, List.set_cons_zero, List.set_cons_succ]
        intro K hK
        go_simp
        go_at_call 94
        refine (spec_nMod (E - nth cs 1) gr.q _ HN1.out zq0 zq4).mono ?_
        rintro e u ⟨rfl, rfl⟩
        rw [HEM.out]
        exact hK.out _ (Below.refl _ _)
      -- 15: indexAddr 24 t73 t74
      refine' chainP_read (d := (some 88)) _ rfl rfl (fun w' hS' => ?_) ?_; rotate_left
      · simp only [lookP, allP, Act.put, List.getElem?_cons_zero, List.getElem?_cons_succ, List.setIfInBounds_toArray, List.set_cons_zero, List.set_cons_succ]
        (try dsimp only at hS')
        go_simp
        (try with_reducible rfl)
      refine chainP_nil (fun u_7 hS' => ?_)
      simp only [allP, Act.put, List.setIfInBounds_toArray, List.set_cons_zero, List.set_cons_succ]
      have hq1 := hS'.1
      replace HM0 := Lib.hid (HM0.out.below hq1)
      replace HM1 := Lib.hid (HM1.out.below hq1)
      replace HM2 := Lib.hid (HM2.out.below hq1)
      clear hS'
      replace hc := Below.next hc hq1
      replace s0_0 := box_at s0_0 hq1
      replace s0_1 := box_at s0_1 hq1
      replace s0_2 := box_at s0_2 hq1
      replace s1_0 := box_at s1_0 hq1
      replace s1_1 := box_at s1_1 hq1
      replace m0_0 := box_at m0_0 hq1
      replace m0_1 := box_at m0_1 hq1
      replace m1_0 := box_at m1_0 hq1
      replace m1_1 := box_at m1_1 hq1
      replace m2_0 := box_at m2_0 hq1
      replace m2_1 := box_at m2_1 hq1
      replace y0 := box_at y0 hq1
      replace y1 := box_at y1 hq1
      replace y2 := box_at y2 hq1
      clear hq1
      have fz1 := fun i => HM1.out.frozen i
      have hsz := hc.size
      go_wp2_with fail
      refine NoPanic.normal ?_
      (try (go_wp2_with fail))
      obtain ⟨Y_8, hY⟩ : ∃ Y, Y = u_7.setCell ⟨R1, 0, none⟩ (.int .i64 EM) := ⟨_, rfl⟩
      have NHM0 : Hid (BoxN Y_8 R0 3 [.int .i64 XM, .int .i64 XO]) := by unfold Hid; rw [hY]; exact (HM0.out.other (b' := R1) (by omega) 0 (.int .i64 EM))
      have NHM1 : Hid (BoxN Y_8 R1 3 [.int .i64 EM, .int .i64 (nth cs 1)]) := by unfold Hid; rw [hY]; exact (HM1.out.set 0 (.int .i64 EM))
      have NHM2 : Hid (BoxN Y_8 R2 3 [.int .i64 0, .int .i64 (nth cs 2)]) := by unfold Hid; rw [hY]; exact (HM2.out.other (b' := R1) (by omega) 0 (.int .i64 EM))
      have hcY : Below W.heap.size W Y_8 := by rw [hY]; exact (hc.setCell (p := ⟨R1, 0, none⟩) (by show W.heap.size ≤ R1; omega) (.int .i64 EM))
      rw [← hY]
      clear hY fz1
      clear HM0
      have HM0 := NHM0
      clear NHM0
      clear HM1
      have HM1 := NHM1
      clear NHM1
      clear HM2
      have HM2 := NHM2
      clear NHM2
      clear s0_0 s0_1 s0_2 s1_0 s1_1 m0_0 m0_1 m1_0 m1_1 m2_0 m2_1 y0 y1 y2
      clear hc hsz
      have hc := hcY
      clear hcY
      have HR := Lib.hid (HS2.out.below hc)
      have s0_0 := box_at (HS0.out.cell (i := 0) rfl) hc
      have s0_1 := box_at (HS0.out.cell (i := 1) rfl) hc
      have s0_2 := box_at (HS0.out.cell (i := 2) rfl) hc
      have s1_0 := box_at (HS1.out.cell (i := 0) rfl) hc
      have s1_1 := box_at (HS1.out.cell (i := 1) rfl) hc
      have m0_0 := HM0.out.cell (i := 0) rfl
      have m0_1 := HM0.out.cell (i := 1) rfl
      have m1_0 := HM1.out.cell (i := 0) rfl
      have m1_1 := HM1.out.cell (i := 1) rfl
      have m2_0 := HM2.out.cell (i := 0) rfl
      have m2_1 := HM2.out.cell (i := 1) rfl
      have m3_0 := HR.out.cell (i := 0) rfl
      have m3_1 := HR.out.cell (i := 1) rfl
      have m3_2 := HR.out.cell (i := 2) rfl
      have y0 := box_at Kcv0.out (HB.out.trans (hc.mono HB.out.size))
      have y1 := box_at Kcv1.out (HB.out.trans (hc.mono HB.out.size))
      have y2 := box_at Kcv2.out (HB.out.trans (hc.mono HB.out.size))
      try (go_wp2_with fail)
      refine wp_region_noPanic ?_
      refine wp_region_P (fun w' => w'.cell? ⟨w.heap.size, 0, none⟩ = some (.int .i64 gr.p) ∧ w'.cell? ⟨w.heap.size, 1, none⟩ = some (.int .i64 gr.q) ∧ w'.cell? ⟨w.heap.size, 2, none⟩ = some (.int .i64 gr.g) ∧ w'.cell? ⟨(w.heap.size + 1), 0, none⟩ = some (.int .i64 bh) ∧ w'.cell? ⟨(w.heap.size + 1), 1, none⟩ = some (.slice bva bvn bvc) ∧ w'.cell? ⟨R0, 0, none⟩ = some (.int .i64 XM) ∧ w'.cell? ⟨R0, 1, none⟩ = some (.int .i64 XO) ∧ w'.cell? ⟨R1, 0, none⟩ = some (.int .i64 EM) ∧ w'.cell? ⟨R1, 1, none⟩ = some (.int .i64 (nth cs 1)) ∧ w'.cell? ⟨R2, 0, none⟩ = some (.int .i64 0) ∧ w'.cell? ⟨R2, 1, none⟩ = some (.int .i64 (nth cs 2)) ∧ w'.cell? ⟨w.heap.size + 1 + 1, 0, none⟩ = some (.slice none 0 0) ∧ w'.cell? ⟨w.heap.size + 1 + 1, 1, none⟩ = some (.slice none 0 0) ∧ w'.cell? ⟨w.heap.size + 1 + 1, 2, none⟩ = some (.slice none 0 0) ∧ w'.cell? ⟨cvb, cvo, none⟩ = some (.int .i64 (nth cs 0)) ∧ w'.cell? ⟨cvb, cvo + 1, none⟩ = some (.int .i64 (nth cs 1)) ∧ w'.cell? ⟨cvb, cvo + 2, none⟩ = some (.int .i64 (nth cs 2))) 19 [(0, []), (1, []), (2, []), (3, [0]), (4, [0]), (5, []), (6, []), (7, [1, 0]), (8, [0]), (9, []), (10, [1, 0]), (11, [6, 0]), (12, []), (13, [0]), (14, [2, 0]), (15, [14, 13])] [16] (by kernel_rfl) (by kernel_rfl) (by kernel_rfl) rfl (fun _ _ _ _ h => h) (fun w' h => ⟨box_at s0_0 h, box_at s0_1 h, box_at s0_2 h, box_at s1_0 h, box_at s1_1 h, box_at m0_0 h, box_at m0_1 h, box_at m1_0 h, box_at m1_1 h, box_at m2_0 h, box_at m2_1 h, box_at m3_0 h, box_at m3_1 h, box_at m3_2 h, box_at y0 h, box_at y1 h, box_at y2 h⟩) ?_
      simp only [pickP, pickN, List.getElem?_cons_zero, List.getElem?_cons_succ]
      iterate 14 (refine' chainP_read _ rfl rfl (fun w' hS' => ?_) ?_; rotate_left; · (simp only [lookP, allP, Act.put, List.getElem?_cons_zero, List.getElem?_cons_succ, List.setIfInBounds_toArray, List.set_cons_zero, List.set_cons_succ]; (try dsimp only at hS'); go_simp; (try with_reducible rfl)))
      -- 14: call { callee := value (func 180), args := #[t100, t102], argTypes := #[3, 3] }
      refine chainP_call (d := (some 103)) (.int .i64 ZM) rfl rfl (fun w' hS' => ?_) ?_
      · simp only [lookP, allP, Act.put, List.getElem?_cons_zero, List.getElem?_cons_succ, List.setIfInBounds_toArray, List.set_cons_zero, List.set_cons_succ]
        intro K hK
        go_simp
        go_at_call 94
        refine (spec_nMod (nth cs 0 + EM * r) gr.q _ HN2.out zq0 zq4).mono ?_
        rintro e u ⟨rfl, rfl⟩
        rw [HZM.out]
        exact hK.out _ (Below.refl _ _)
      -- 15: indexAddr 24 t89 t90
      refine' chainP_read (d := (some 104)) _ rfl rfl (fun w' hS' => ?_) ?_; rotate_left
      · simp only [lookP, allP, Act.put, List.getElem?_cons_zero, List.getElem?_cons_succ, List.setIfInBounds_toArray, List.set_cons_zero, List.set_cons_succ]
        (try dsimp only at hS')
        go_simp
        (try with_reducible rfl)
      refine chainP_nil (fun u_9 hS' => ?_)
      simp only [allP, Act.put, List.setIfInBounds_toArray, List.set_cons_zero, List.set_cons_succ]
      have hq1 := hS'.1
      replace HM0 := Lib.hid (HM0.out.below hq1)
      replace HM1 := Lib.hid (HM1.out.below hq1)
      replace HM2 := Lib.hid (HM2.out.below hq1)
      replace HR := Lib.hid (HR.out.below hq1)
      clear hS'
      replace hc := Below.next hc hq1
      replace s0_0 := box_at s0_0 hq1
      replace s0_1 := box_at s0_1 hq1
      replace s0_2 := box_at s0_2 hq1
      replace s1_0 := box_at s1_0 hq1
      replace s1_1 := box_at s1_1 hq1
      replace m0_0 := box_at m0_0 hq1
      replace m0_1 := box_at m0_1 hq1
      replace m1_0 := box_at m1_0 hq1
      replace m1_1 := box_at m1_1 hq1
      replace m2_0 := box_at m2_0 hq1
      replace m2_1 := box_at m2_1 hq1
      replace m3_0 := box_at m3_0 hq1
      replace m3_1 := box_at m3_1 hq1
      replace m3_2 := box_at m3_2 hq1
      replace y0 := box_at y0 hq1
      replace y1 := box_at y1 hq1
      replace y2 := box_at y2 hq1
      clear hq1
      have fz2 := fun i => HM2.out.frozen i
      have fz3 := fun i => HR.out.frozen i
      have hsz := hc.size
      go_wp2_with fail
      refine NoPanic.normal ?_
      (try (go_wp2_with fail))
      obtain ⟨Y_10, hY⟩ : ∃ Y, Y = (((u_9.setCell ⟨R2, 0, none⟩ (.int .i64 ZM)).setCell ⟨w.heap.size + 1 + 1, 0, none⟩ (.slice (some ⟨R0, 0, none⟩) 2 2)).setCell ⟨w.heap.size + 1 + 1, 1, none⟩ (.slice (some ⟨R1, 0, none⟩) 2 2)).setCell ⟨w.heap.size + 1 + 1, 2, none⟩ (.slice (some ⟨R2, 0, none⟩) 2 2) := ⟨_, rfl⟩
      have NHM0 : Hid (BoxN Y_10 R0 3 [.int .i64 XM, .int .i64 XO]) := by unfold Hid; rw [hY]; exact ((((HM0.out.other (b' := R2) (by omega) 0 (.int .i64 ZM)).other (b' := w.heap.size + 1 + 1) (by omega) 0 (.slice (some ⟨R0, 0, none⟩) 2 2)).other (b' := w.heap.size + 1 + 1) (by omega) 1 (.slice (some ⟨R1, 0, none⟩) 2 2)).other (b' := w.heap.size + 1 + 1) (by omega) 2 (.slice (some ⟨R2, 0, none⟩) 2 2))
      have NHM1 : Hid (BoxN Y_10 R1 3 [.int .i64 EM, .int .i64 (nth cs 1)]) := by unfold Hid; rw [hY]; exact ((((HM1.out.other (b' := R2) (by omega) 0 (.int .i64 ZM)).other (b' := w.heap.size + 1 + 1) (by omega) 0 (.slice (some ⟨R0, 0, none⟩) 2 2)).other (b' := w.heap.size + 1 + 1) (by omega) 1 (.slice (some ⟨R1, 0, none⟩) 2 2)).other (b' := w.heap.size + 1 + 1) (by omega) 2 (.slice (some ⟨R2, 0, none⟩) 2 2))
      have NHM2 : Hid (BoxN Y_10 R2 3 [.int .i64 ZM, .int .i64 (nth cs 2)]) := by unfold Hid; rw [hY]; exact ((((HM2.out.set 0 (.int .i64 ZM)).other (b' := w.heap.size + 1 + 1) (by omega) 0 (.slice (some ⟨R0, 0, none⟩) 2 2)).other (b' := w.heap.size + 1 + 1) (by omega) 1 (.slice (some ⟨R1, 0, none⟩) 2 2)).other (b' := w.heap.size + 1 + 1) (by omega) 2 (.slice (some ⟨R2, 0, none⟩) 2 2))
      have NHR : Hid (BoxN Y_10 (w.heap.size + 1 + 1) 115 [.slice (some ⟨R0, 0, none⟩) 2 2, .slice (some ⟨R1, 0, none⟩) 2 2, .slice (some ⟨R2, 0, none⟩) 2 2]) := by unfold Hid; rw [hY]; exact ((((HR.out.other (b' := R2) (by omega) 0 (.int .i64 ZM)).set 0 (.slice (some ⟨R0, 0, none⟩) 2 2)).set 1 (.slice (some ⟨R1, 0, none⟩) 2 2)).set 2 (.slice (some ⟨R2, 0, none⟩) 2 2))
      have HBF : Hid (Below w.heap.size w Y_10) := by unfold Hid; rw [hY]; exact (((((HB.out.trans (hc.mono HB.out.size)).setCell (p := ⟨R2, 0, none⟩) (by show w.heap.size ≤ R2; omega) (.int .i64 ZM)).setCell (p := ⟨w.heap.size + 1 + 1, 0, none⟩) (by show w.heap.size ≤ w.heap.size + 1 + 1; omega) (.slice (some ⟨R0, 0, none⟩) 2 2)).setCell (p := ⟨w.heap.size + 1 + 1, 1, none⟩) (by show w.heap.size ≤ w.heap.size + 1 + 1; omega) (.slice (some ⟨R1, 0, none⟩) 2 2)).setCell (p := ⟨w.heap.size + 1 + 1, 2, none⟩) (by show w.heap.size ≤ w.heap.size + 1 + 1; omega) (.slice (some ⟨R2, 0, none⟩) 2 2))
      have hcY := HSW
      rw [← hY]
      clear hY fz2 fz3
      clear HM0
      have HM0 := NHM0
      clear NHM0
      clear HM1
      have HM1 := NHM1
      clear NHM1
      clear HM2
      have HM2 := NHM2
      clear NHM2
      clear HR
      have HR := NHR
      clear NHR
      clear s0_0 s0_1 s0_2 s1_0 s1_1 m0_0 m0_1 m1_0 m1_1 m2_0 m2_1 m3_0 m3_1 m3_2 y0 y1 y2
      clear hc hsz
      have hc := hcY
      clear hcY
      have t0 := HR.out.cell (i := 0) rfl
      have t1 := HR.out.cell (i := 1) rfl
      have t2 := HR.out.cell (i := 2) rfl
      try (go_wp2_with fail)
      refine bodyPost_ret (v := .agg #[.slice (some ⟨R0, 0, none⟩) 2 2, .slice (some ⟨R1, 0, none⟩) 2 2, .slice (some ⟨R2, 0, none⟩) 2 2]) (by simp [results, Try.results150, go_sem, t0, t1, t2]) rfl ⟨(by rw [HBD.out]; exact RetD.mk (rowI HM0.out (by omega) (small_64 sXM) (small_64 sXO)) (rowI HM1.out (by omega) ⟨by omega, by omega⟩ ⟨by omega, by omega⟩) (rowI HM2.out (by omega) ⟨by omega, by omega⟩ ⟨by omega, by omega⟩)), HBF.out⟩
  · obtain ⟨C0, hC0⟩ : ∃ x, coM gr bh 1 r = x := ⟨_, rfl⟩
    have HC0 := Lib.hid hC0
    have sC0 : Small C0 := hC0 ▸ coM_small HG.out bh 1 r
    obtain ⟨H2, hH2⟩ : ∃ x, powE gr bh (nth cs 2) = x := ⟨_, rfl⟩
    have HH2 := Lib.hid hH2
    have sH2 : Small H2 := hH2 ▸ powE_small HG.out bh (nth cs 2)
    obtain ⟨BC, hBC⟩ : ∃ x, bcI gr C0 0 = x := ⟨_, rfl⟩
    have HBC := Lib.hid hBC
    have sBC : Small BC := hBC ▸ bcI_small HG.out sC0 0
    obtain ⟨BP, hBP⟩ : ∃ x, powE gr BC (-nth cs 1) = x := ⟨_, rfl⟩
    have HBP := Lib.hid hBP
    have sBP : Small BP := hBP ▸ powE_small HG.out BC (-nth cs 1)
    obtain ⟨XO, hXO⟩ : ∃ x, mulL gr [H2, BP] = x := ⟨_, rfl⟩
    have HXO := Lib.hid hXO
    have sXO : Small XO := hXO ▸ mulL_small HG.out [H2, BP]
    have HBX : Hid (btX gr bh C0 0 (nth cs 1) (nth cs 2) = XO) := by unfold Hid btX; rw [hBC, hH2, hBP, hXO]
    obtain ⟨XM, hXM⟩ : ∃ x, powE gr bh (nth cs 0) = x := ⟨_, rfl⟩
    have HXM := Lib.hid hXM
    have sXM : Small XM := hXM ▸ powE_small HG.out bh (nth cs 0)
    obtain ⟨E, hE⟩ : ∃ x, btE gr sBit bh C0 XO XM = x := ⟨_, rfl⟩
    have HE := Lib.hid hE
    have he := chV_bd HG.out sBit [bh, C0, XO, XM]
    obtain ⟨e1, e2⟩ : 0 ≤ E ∧ E < gr.q := hE ▸ he
    have HAS : Hid (AllSmall [bh, C0, XO, XM]) := AllSmall.cons sbh (AllSmall.cons sC0 (AllSmall.cons sXO (AllSmall.cons sXM AllSmall.nil)))
    have HCB : Hid (chB gr sBit [bh, C0, XO, XM] = true) := chB_yes HG.out (digests_small HAS.out) (by decide) (by simp)
    have HCI : Hid (chI gr sBit [bh, C0, XO, XM] = E) := (chI_yes HCB.out).trans HE.out
    have ewn : IntKind.i64.wrap (-nth cs 1) = -nth cs 1 := IntWalk.i64_in _ (by omega)
    have ewe : IntKind.i64.wrap (E - nth cs 1) = E - nth cs 1 := IntWalk.i64_in _ (by omega)
    have HN1 : Hid (I64 (E - nth cs 1)) := ⟨by omega, by omega⟩
    obtain ⟨EM, hEM⟩ : ∃ x, (E - nth cs 1) % gr.q = x := ⟨_, rfl⟩
    have HEM := Lib.hid hEM
    have m1 : 0 ≤ EM := by rw [← hEM]; exact Int.emod_nonneg _ (by omega)
    have m2 : EM < gr.q := by rw [← hEM]; exact Int.emod_lt_of_pos _ (by omega)
    obtain ⟨pp1, pp2⟩ := mul_bnd (a := EM) (b := r) (by omega) (by omega) (by omega) (by omega)
    have ewa : IntKind.i64.wrap (EM * r) = EM * r := IntWalk.i64_in _ (by omega)
    have ewb : IntKind.i64.wrap (nth cs 0 + EM * r) = nth cs 0 + EM * r := IntWalk.i64_in _ (by omega)
    have HN2 : Hid (I64 (nth cs 0 + EM * r)) := ⟨by omega, by omega⟩
    clear pp1 pp2
    obtain ⟨ZM, hZM⟩ : ∃ x, (nth cs 0 + EM * r) % gr.q = x := ⟨_, rfl⟩
    have HZM := Lib.hid hZM
    have z1 : 0 ≤ ZM := by rw [← hZM]; exact Int.emod_nonneg _ (by omega)
    have z2 : ZM < gr.q := by rw [← hZM]; exact Int.emod_lt_of_pos _ (by omega)
    have HBD : Hid (btD gr sBit bh 1 r cs = ⟨[XO, XM], [nth cs 1, EM], [nth cs 2, ZM]⟩) := by unfold Hid btD; rw [if_neg (by omega)]; simp only [hC0, HBX.out, hXM, hE, hEM, hZM]
    clear hC0 hH2 hBC hBP hXO hXM hE hEM hZM he
    have hmk := make2
    obtain ⟨W, hW⟩ : ∃ W, W = ((w.alloc (.cells #[.int .i64 gr.p, .int .i64 gr.q, .int .i64 gr.g] 24)).alloc (.cells #[.int .i64 bh, .slice bva bvn bvc] 49)).alloc (.cells #[.slice none 0 0, .slice none 0 0, .slice none 0 0] 115) := ⟨_, rfl⟩
    have HB : Hid (Below w.heap.size w W) := by unfold Hid; rw [hW]; (repeat (first | exact Below.refl _ _ | assumption | refine Below.drew ?_ | refine Below.alloc ?_ (by first | (simp; done) | (simp; omega)) _ | refine Below.setCell ?_ (by first | (simp; done) | (simp; omega)) _))
    have HS0 : Hid (BoxN W (w.heap.size) 24 [.int .i64 gr.p, .int .i64 gr.q, .int .i64 gr.g]) := by unfold Hid; rw [hW]; have h := (((BoxN.new w [.int .i64 gr.p, .int .i64 gr.q, .int .i64 gr.g] 24).alloc (.cells #[.int .i64 bh, .slice bva bvn bvc] 49)).alloc (.cells #[.slice none 0 0, .slice none 0 0, .slice none 0 0] 115)); simpa using h
    have HS1 : Hid (BoxN W (w.heap.size + 1) 49 [.int .i64 bh, .slice bva bvn bvc]) := by unfold Hid; rw [hW]; have h := ((BoxN.new (w.alloc (.cells #[.int .i64 gr.p, .int .i64 gr.q, .int .i64 gr.g] 24)) [.int .i64 bh, .slice bva bvn bvc] 49).alloc (.cells #[.slice none 0 0, .slice none 0 0, .slice none 0 0] 115)); simpa using h
    have HS2 : Hid (BoxN W (w.heap.size + 1 + 1) 115 [.slice none 0 0, .slice none 0 0, .slice none 0 0]) := by unfold Hid; rw [hW]; have h := (BoxN.new ((w.alloc (.cells #[.int .i64 gr.p, .int .i64 gr.q, .int .i64 gr.g] 24)).alloc (.cells #[.int .i64 bh, .slice bva bvn bvc] 49)) [.slice none 0 0, .slice none 0 0, .slice none 0 0] 115); simpa using h
    have HSW : Hid (W.heap.size = w.heap.size + 3) := by unfold Hid; rw [hW]; simp
    have hwW : w.heap.size + 2 < W.heap.size := by have := HSW.out; omega
    go_enter Try.func150, Try.ntmps150
    go_wp2_with fail
    rw [← hW]
    clear hW
    have hc : Below W.heap.size W W := Below.refl _ _
    have s0_0 := box_at (HS0.out.cell (i := 0) rfl) hc
    have s0_1 := box_at (HS0.out.cell (i := 1) rfl) hc
    have s0_2 := box_at (HS0.out.cell (i := 2) rfl) hc
    have s1_0 := box_at (HS1.out.cell (i := 0) rfl) hc
    have s1_1 := box_at (HS1.out.cell (i := 1) rfl) hc
    have y0 := box_at Kcv0.out (HB.out.trans (hc.mono HB.out.size))
    have y1 := box_at Kcv1.out (HB.out.trans (hc.mono HB.out.size))
    have y2 := box_at Kcv2.out (HB.out.trans (hc.mono HB.out.size))
    go_wp2_with fail
    refine (spec_pCommit gr bh _ bl 1 r _ HG.out (Hbv.out.below (HB.out.trans (hc.mono HB.out.size))) sbh ⟨by omega, by omega⟩ ⟨by omega, by omega⟩).mono ?_
    rintro e u_0 ⟨rfl, hq⟩
    rw [HC0.out]
    clear s0_0 s0_1 s0_2 s1_0 s1_1 y0 y1 y2
    replace hc := Below.next hc hq
    clear hq
    go_upto_region 2 with fail
    go_cut [12, 13, 14] from 15 to 108 (fun v12 v13 v14 wx => ∃ R0 R1 R2 : Nat, v12 = .slice (some ⟨R0, 0, none⟩) 2 2 ∧ v13 = .slice (some ⟨R1, 0, none⟩) 2 2 ∧ v14 = .slice (some ⟨R2, 0, none⟩) 2 2 ∧ u_0.heap.size ≤ R0 ∧ u_0.heap.size ≤ R1 ∧ u_0.heap.size ≤ R2 ∧ R0 ≠ R1 ∧ R0 ≠ R2 ∧ R1 ≠ R2 ∧ Hid (Below u_0.heap.size u_0 wx) ∧ Hid (BoxN wx R0 3 [.int .i64 0, .int .i64 0]) ∧ Hid (BoxN wx R1 3 [.int .i64 0, .int .i64 0]) ∧ Hid (BoxN wx R2 3 [.int .i64 0, .int .i64 0]))
    case first =>
      refine wp_region_noPanic ?_
      refine wp_region_V (fun _ => True) 8 6 (.alt 0 (.rd 3 (.alt 1 (.rd 4 (.alt 2 (.rd 5 .done) .nil)) (.alt 2 (.alt 1 (.rd 4 (.rd 5 .done)) .nil) .nil))) (.alt 1 (.alt 0 (.rd 3 (.rd 4 (.alt 2 (.rd 5 .done) .nil))) (.alt 2 (.alt 0 (.rd 3 (.rd 4 (.rd 5 .done))) .nil) .nil)) (.alt 2 (.alt 0 (.rd 3 (.alt 1 (.rd 4 (.rd 5 .done)) .nil)) (.alt 1 (.alt 0 (.rd 3 (.rd 4 (.rd 5 .done))) .nil) .nil)) .nil))) [] (by kernel_rfl) (by kernel_rfl) rfl (fun _ _ _ _ _ h => h) trivial ?_
      simp only [pickV, pickN, List.getElem?_cons_zero, List.getElem?_cons_succ]
      have hb0 : Below u_0.heap.size u_0 u_0.drew := (Below.refl _ _).drew
      refine wpV_or (by kernel_rfl) (fun K hK => ?_) ?_
      · go_simp
        obtain ⟨X1, hX⟩ : ∃ x0, x0 = (u_0.alloc (.cells #[.int .i64 0, .int .i64 0] 3)).drew := ⟨_, rfl⟩
        have hbX1 : Below u_0.heap.size u_0 X1 := by rw [hX]; exact hb0.alloc hb0.size _
        have HAX1 : Hid (BoxN X1 u_0.heap.size 3 [.int .i64 0, .int .i64 0]) := by unfold Hid; rw [hX]; exact BoxN.below (BoxN.new u_0 [.int .i64 0, .int .i64 0] 3) (Below.refl _ _).drew
        have hlX1 : u_0.heap.size < X1.heap.size := HAX1.out.lt
        have hgX1 : u_0.heap.size ≤ u_0.heap.size := Nat.le_refl _
        rw [← hX]
        clear hX
        refine hK.out _ _ trivial (fun _ => ?_)
        clear hK K
        (try simp only [Act.put, List.setIfInBounds_toArray, List.set_cons_zero, List.set_cons_succ])
        repeat (refine' wpV_read _ (by kernel_rfl) (fun w' hS' => ?_) ?_; rotate_left; · ((try dsimp only at hS'); go_simp; (try with_reducible rfl)); (try simp only [Act.put, List.setIfInBounds_toArray, List.set_cons_zero, List.set_cons_succ]))
        refine wpV_or (by kernel_rfl) (fun K hK => ?_) ?_
        · go_simp
          obtain ⟨X2, hX⟩ : ∃ x0, x0 = (X1.alloc (.cells #[.int .i64 0, .int .i64 0] 3)) := ⟨_, rfl⟩
          have hbX2 : Below u_0.heap.size u_0 X2 := by rw [hX]; exact hbX1.alloc hbX1.size _
          have HAX2 : Hid (BoxN X2 X1.heap.size 3 [.int .i64 0, .int .i64 0]) := by unfold Hid; rw [hX]; exact BoxN.new X1 [.int .i64 0, .int .i64 0] 3
          have HBX2_0 : Hid (BoxN X2 u_0.heap.size 3 [.int .i64 0, .int .i64 0]) := by unfold Hid; rw [hX]; exact HAX1.out.alloc _
          have hlX2 : X1.heap.size < X2.heap.size := HAX2.out.lt
          have hgX2 : u_0.heap.size ≤ X1.heap.size := hbX1.size
          rw [← hX]
          clear hX
          refine hK.out _ _ trivial (fun _ => ?_)
          clear hK K
          (try simp only [Act.put, List.setIfInBounds_toArray, List.set_cons_zero, List.set_cons_succ])
          repeat (refine' wpV_read _ (by kernel_rfl) (fun w' hS' => ?_) ?_; rotate_left; · ((try dsimp only at hS'); go_simp; (try with_reducible rfl)); (try simp only [Act.put, List.setIfInBounds_toArray, List.set_cons_zero, List.set_cons_succ]))
          refine wpV_do (by kernel_rfl) (fun K hK => ?_)
          go_simp
          obtain ⟨X3, hX⟩ : ∃ x0, x0 = (X2.alloc (.cells #[.int .i64 0, .int .i64 0] 3)) := ⟨_, rfl⟩
          have hbX3 : Below u_0.heap.size u_0 X3 := by rw [hX]; exact hbX2.alloc hbX2.size _
          have HAX3 : Hid (BoxN X3 X2.heap.size 3 [.int .i64 0, .int .i64 0]) := by unfold Hid; rw [hX]; exact BoxN.new X2 [.int .i64 0, .int .i64 0] 3
          have HBX3_1 : Hid (BoxN X3 X1.heap.size 3 [.int .i64 0, .int .i64 0]) := by unfold Hid; rw [hX]; exact HAX2.out.alloc _
          have HBX3_0 : Hid (BoxN X3 u_0.heap.size 3 [.int .i64 0, .int .i64 0]) := by unfold Hid; rw [hX]; exact HBX2_0.out.alloc _
          have hlX3 : X2.heap.size < X3.heap.size := HAX3.out.lt
          have hgX3 : u_0.heap.size ≤ X2.heap.size := hbX2.size
          rw [← hX]
          clear hX
          refine hK.out _ _ trivial (fun _ => ?_)
          clear hK K
          (try simp only [Act.put, List.setIfInBounds_toArray, List.set_cons_zero, List.set_cons_succ])
          repeat (refine' wpV_read _ (by kernel_rfl) (fun w' hS' => ?_) ?_; rotate_left; · ((try dsimp only at hS'); go_simp; (try with_reducible rfl)); (try simp only [Act.put, List.setIfInBounds_toArray, List.set_cons_zero, List.set_cons_succ]))
          refine wpV_done ?_
          go_wp2_with fail
          refine NoPanic.normal ?_
          try (go_wp2_with fail)
          have HF := Lib.hid hbX3
          go_meet
          exact ⟨u_0.heap.size, X1.heap.size, X2.heap.size, rfl, rfl, rfl, by omega, by omega, by omega, by omega, by omega, by omega, HF, HBX3_0, HBX3_1, HAX3⟩
        refine wpV_do (by kernel_rfl) (fun K hK => ?_)
        go_simp
        obtain ⟨X4, hX⟩ : ∃ x0, x0 = (X1.alloc (.cells #[.int .i64 0, .int .i64 0] 3)) := ⟨_, rfl⟩
        have hbX4 : Below u_0.heap.size u_0 X4 := by rw [hX]; exact hbX1.alloc hbX1.size _
        have HAX4 : Hid (BoxN X4 X1.heap.size 3 [.int .i64 0, .int .i64 0]) := by unfold Hid; rw [hX]; exact BoxN.new X1 [.int .i64 0, .int .i64 0] 3
        have HBX4_0 : Hid (BoxN X4 u_0.heap.size 3 [.int .i64 0, .int .i64 0]) := by unfold Hid; rw [hX]; exact HAX1.out.alloc _
        have hlX4 : X1.heap.size < X4.heap.size := HAX4.out.lt
        have hgX4 : u_0.heap.size ≤ X1.heap.size := hbX1.size
        rw [← hX]
        clear hX
        refine hK.out _ _ trivial (fun _ => ?_)
        clear hK K
        (try simp only [Act.put, List.setIfInBounds_toArray, List.set_cons_zero, List.set_cons_succ])
        refine wpV_do (by kernel_rfl) (fun K hK => ?_)
        go_simp
        obtain ⟨X5, hX⟩ : ∃ x0, x0 = (X4.alloc (.cells #[.int .i64 0, .int .i64 0] 3)) := ⟨_, rfl⟩
        have hbX5 : Below u_0.heap.size u_0 X5 := by rw [hX]; exact hbX4.alloc hbX4.size _
        have HAX5 : Hid (BoxN X5 X4.heap.size 3 [.int .i64 0, .int .i64 0]) := by unfold Hid; rw [hX]; exact BoxN.new X4 [.int .i64 0, .int .i64 0] 3
        have HBX5_2 : Hid (BoxN X5 X1.heap.size 3 [.int .i64 0, .int .i64 0]) := by unfold Hid; rw [hX]; exact HAX4.out.alloc _
        have HBX5_0 : Hid (BoxN X5 u_0.heap.size 3 [.int .i64 0, .int .i64 0]) := by unfold Hid; rw [hX]; exact HBX4_0.out.alloc _
        have hlX5 : X4.heap.size < X5.heap.size := HAX5.out.lt
        have hgX5 : u_0.heap.size ≤ X4.heap.size := hbX4.size
        rw [← hX]
        clear hX
        refine hK.out _ _ trivial (fun _ => ?_)
        clear hK K
        (try simp only [Act.put, List.setIfInBounds_toArray, List.set_cons_zero, List.set_cons_succ])
        repeat (refine' wpV_read _ (by kernel_rfl) (fun w' hS' => ?_) ?_; rotate_left; · ((try dsimp only at hS'); go_simp; (try with_reducible rfl)); (try simp only [Act.put, List.setIfInBounds_toArray, List.set_cons_zero, List.set_cons_succ]))
        refine wpV_done ?_
        go_wp2_with fail
        refine NoPanic.normal ?_
        try (go_wp2_with fail)
        have HF := Lib.hid hbX5
        go_meet
        exact ⟨u_0.heap.size, X4.heap.size, X1.heap.size, rfl, rfl, rfl, by omega, by omega, by omega, by omega, by omega, by omega, HF, HBX5_0, HAX5, HBX5_2⟩
      refine wpV_or (by kernel_rfl) (fun K hK => ?_) ?_
      · go_simp
        obtain ⟨X6, hX⟩ : ∃ x0, x0 = (u_0.alloc (.cells #[.int .i64 0, .int .i64 0] 3)).drew := ⟨_, rfl⟩
        have hbX6 : Below u_0.heap.size u_0 X6 := by rw [hX]; exact hb0.alloc hb0.size _
        have HAX6 : Hid (BoxN X6 u_0.heap.size 3 [.int .i64 0, .int .i64 0]) := by unfold Hid; rw [hX]; exact BoxN.below (BoxN.new u_0 [.int .i64 0, .int .i64 0] 3) (Below.refl _ _).drew
        have hlX6 : u_0.heap.size < X6.heap.size := HAX6.out.lt
        have hgX6 : u_0.heap.size ≤ u_0.heap.size := Nat.le_refl _
        rw [← hX]
        clear hX
        refine hK.out _ _ trivial (fun _ => ?_)
        clear hK K
        (try simp only [Act.put, List.setIfInBounds_toArray, List.set_cons_zero, List.set_cons_succ])
        refine wpV_or (by kernel_rfl) (fun K hK => ?_) ?_
        · go_simp
          obtain ⟨X7, hX⟩ : ∃ x0, x0 = (X6.alloc (.cells #[.int .i64 0, .int .i64 0] 3)) := ⟨_, rfl⟩
          have hbX7 : Below u_0.heap.size u_0 X7 := by rw [hX]; exact hbX6.alloc hbX6.size _
          have HAX7 : Hid (BoxN X7 X6.heap.size 3 [.int .i64 0, .int .i64 0]) := by unfold Hid; rw [hX]; exact BoxN.new X6 [.int .i64 0, .int .i64 0] 3
          have HBX7_1 : Hid (BoxN X7 u_0.heap.size 3 [.int .i64 0, .int .i64 0]) := by unfold Hid; rw [hX]; exact HAX6.out.alloc _
          have hlX7 : X6.heap.size < X7.heap.size := HAX7.out.lt
          have hgX7 : u_0.heap.size ≤ X6.heap.size := hbX6.size
          rw [← hX]
          clear hX
          refine hK.out _ _ trivial (fun _ => ?_)
          clear hK K
          (try simp only [Act.put, List.setIfInBounds_toArray, List.set_cons_zero, List.set_cons_succ])
          repeat (refine' wpV_read _ (by kernel_rfl) (fun w' hS' => ?_) ?_; rotate_left; · ((try dsimp only at hS'); go_simp; (try with_reducible rfl)); (try simp only [Act.put, List.setIfInBounds_toArray, List.set_cons_zero, List.set_cons_succ]))
          refine wpV_do (by kernel_rfl) (fun K hK => ?_)
          go_simp
          obtain ⟨X8, hX⟩ : ∃ x0, x0 = (X7.alloc (.cells #[.int .i64 0, .int .i64 0] 3)) := ⟨_, rfl⟩
          have hbX8 : Below u_0.heap.size u_0 X8 := by rw [hX]; exact hbX7.alloc hbX7.size _
          have HAX8 : Hid (BoxN X8 X7.heap.size 3 [.int .i64 0, .int .i64 0]) := by unfold Hid; rw [hX]; exact BoxN.new X7 [.int .i64 0, .int .i64 0] 3
          have HBX8_0 : Hid (BoxN X8 X6.heap.size 3 [.int .i64 0, .int .i64 0]) := by unfold Hid; rw [hX]; exact HAX7.out.alloc _
          have HBX8_1 : Hid (BoxN X8 u_0.heap.size 3 [.int .i64 0, .int .i64 0]) := by unfold Hid; rw [hX]; exact HBX7_1.out.alloc _
          have hlX8 : X7.heap.size < X8.heap.size := HAX8.out.lt
          have hgX8 : u_0.heap.size ≤ X7.heap.size := hbX7.size
          rw [← hX]
          clear hX
          refine hK.out _ _ trivial (fun _ => ?_)
          clear hK K
          (try simp only [Act.put, List.setIfInBounds_toArray, List.set_cons_zero, List.set_cons_succ])
          repeat (refine' wpV_read _ (by kernel_rfl) (fun w' hS' => ?_) ?_; rotate_left; · ((try dsimp only at hS'); go_simp; (try with_reducible rfl)); (try simp only [Act.put, List.setIfInBounds_toArray, List.set_cons_zero, List.set_cons_succ]))
          refine wpV_done ?_
          go_wp2_with fail
          refine NoPanic.normal ?_
          try (go_wp2_with fail)
          have HF := Lib.hid hbX8
          go_meet
          exact ⟨X6.heap.size, u_0.heap.size, X7.heap.size, rfl, rfl, rfl, by omega, by omega, by omega, by omega, by omega, by omega, HF, HBX8_0, HBX8_1, HAX8⟩
        refine wpV_do (by kernel_rfl) (fun K hK => ?_)
        go_simp
        obtain ⟨X9, hX⟩ : ∃ x0, x0 = (X6.alloc (.cells #[.int .i64 0, .int .i64 0] 3)) := ⟨_, rfl⟩
        have hbX9 : Below u_0.heap.size u_0 X9 := by rw [hX]; exact hbX6.alloc hbX6.size _
        have HAX9 : Hid (BoxN X9 X6.heap.size 3 [.int .i64 0, .int .i64 0]) := by unfold Hid; rw [hX]; exact BoxN.new X6 [.int .i64 0, .int .i64 0] 3
        have HBX9_1 : Hid (BoxN X9 u_0.heap.size 3 [.int .i64 0, .int .i64 0]) := by unfold Hid; rw [hX]; exact HAX6.out.alloc _
        have hlX9 : X6.heap.size < X9.heap.size := HAX9.out.lt
        have hgX9 : u_0.heap.size ≤ X6.heap.size := hbX6.size
        rw [← hX]
        clear hX
        refine hK.out _ _ trivial (fun _ => ?_)
        clear hK K
        (try simp only [Act.put, List.setIfInBounds_toArray, List.set_cons_zero, List.set_cons_succ])
        refine wpV_do (by kernel_rfl) (fun K hK => ?_)
        go_simp
        obtain ⟨X10, hX⟩ : ∃ x0, x0 = (X9.alloc (.cells #[.int .i64 0, .int .i64 0] 3)) := ⟨_, rfl⟩
        have hbX10 : Below u_0.heap.size u_0 X10 := by rw [hX]; exact hbX9.alloc hbX9.size _
        have HAX10 : Hid (BoxN X10 X9.heap.size 3 [.int .i64 0, .int .i64 0]) := by unfold Hid; rw [hX]; exact BoxN.new X9 [.int .i64 0, .int .i64 0] 3
        have HBX10_2 : Hid (BoxN X10 X6.heap.size 3 [.int .i64 0, .int .i64 0]) := by unfold Hid; rw [hX]; exact HAX9.out.alloc _
        have HBX10_1 : Hid (BoxN X10 u_0.heap.size 3 [.int .i64 0, .int .i64 0]) := by unfold Hid; rw [hX]; exact HBX9_1.out.alloc _
        have hlX10 : X9.heap.size < X10.heap.size := HAX10.out.lt
        have hgX10 : u_0.heap.size ≤ X9.heap.size := hbX9.size
        rw [← hX]
        clear hX
        refine hK.out _ _ trivial (fun _ => ?_)
        clear hK K
        (try simp only [Act.put, List.setIfInBounds_toArray, List.set_cons_zero, List.set_cons_succ])
        repeat (refine' wpV_read _ (by kernel_rfl) (fun w' hS' => ?_) ?_; rotate_left; · ((try dsimp only at hS'); go_simp; (try with_reducible rfl)); (try simp only [Act.put, List.setIfInBounds_toArray, List.set_cons_zero, List.set_cons_succ]))
        refine wpV_done ?_
        go_wp2_with fail
        refine NoPanic.normal ?_
        try (go_wp2_with fail)
        have HF := Lib.hid hbX10
        go_meet
        exact ⟨X9.heap.size, u_0.heap.size, X6.heap.size, rfl, rfl, rfl, by omega, by omega, by omega, by omega, by omega, by omega, HF, HAX10, HBX10_1, HBX10_2⟩
      refine wpV_do (by kernel_rfl) (fun K hK => ?_)
      go_simp
      obtain ⟨X11, hX⟩ : ∃ x0, x0 = (u_0.alloc (.cells #[.int .i64 0, .int .i64 0] 3)).drew := ⟨_, rfl⟩
      have hbX11 : Below u_0.heap.size u_0 X11 := by rw [hX]; exact hb0.alloc hb0.size _
      have HAX11 : Hid (BoxN X11 u_0.heap.size 3 [.int .i64 0, .int .i64 0]) := by unfold Hid; rw [hX]; exact BoxN.below (BoxN.new u_0 [.int .i64 0, .int .i64 0] 3) (Below.refl _ _).drew
      have hlX11 : u_0.heap.size < X11.heap.size := HAX11.out.lt
      have hgX11 : u_0.heap.size ≤ u_0.heap.size := Nat.le_refl _
      rw [← hX]
      clear hX
      refine hK.out _ _ trivial (fun _ => ?_)
      clear hK K
      (try simp only [Act.put, List.setIfInBounds_toArray, List.set_cons_zero, List.set_cons_succ])
      refine wpV_or (by kernel_rfl) (fun K hK => ?_) ?_
      · go_simp
        obtain ⟨X12, hX⟩ : ∃ x0, x0 = (X11.alloc (.cells #[.int .i64 0, .int .i64 0] 3)) := ⟨_, rfl⟩
        have hbX12 : Below u_0.heap.size u_0 X12 := by rw [hX]; exact hbX11.alloc hbX11.size _
        have HAX12 : Hid (BoxN X12 X11.heap.size 3 [.int .i64 0, .int .i64 0]) := by unfold Hid; rw [hX]; exact BoxN.new X11 [.int .i64 0, .int .i64 0] 3
        have HBX12_2 : Hid (BoxN X12 u_0.heap.size 3 [.int .i64 0, .int .i64 0]) := by unfold Hid; rw [hX]; exact HAX11.out.alloc _
        have hlX12 : X11.heap.size < X12.heap.size := HAX12.out.lt
        have hgX12 : u_0.heap.size ≤ X11.heap.size := hbX11.size
        rw [← hX]
        clear hX
        refine hK.out _ _ trivial (fun _ => ?_)
        clear hK K
        (try simp only [Act.put, List.setIfInBounds_toArray, List.set_cons_zero, List.set_cons_succ])
        repeat (refine' wpV_read _ (by kernel_rfl) (fun w' hS' => ?_) ?_; rotate_left; · ((try dsimp only at hS'); go_simp; (try with_reducible rfl)); (try simp only [Act.put, List.setIfInBounds_toArray, List.set_cons_zero, List.set_cons_succ]))
        refine wpV_do (by kernel_rfl) (fun K hK => ?_)
        go_simp
        obtain ⟨X13, hX⟩ : ∃ x0, x0 = (X12.alloc (.cells #[.int .i64 0, .int .i64 0] 3)) := ⟨_, rfl⟩
        have hbX13 : Below u_0.heap.size u_0 X13 := by rw [hX]; exact hbX12.alloc hbX12.size _
        have HAX13 : Hid (BoxN X13 X12.heap.size 3 [.int .i64 0, .int .i64 0]) := by unfold Hid; rw [hX]; exact BoxN.new X12 [.int .i64 0, .int .i64 0] 3
        have HBX13_0 : Hid (BoxN X13 X11.heap.size 3 [.int .i64 0, .int .i64 0]) := by unfold Hid; rw [hX]; exact HAX12.out.alloc _
        have HBX13_2 : Hid (BoxN X13 u_0.heap.size 3 [.int .i64 0, .int .i64 0]) := by unfold Hid; rw [hX]; exact HBX12_2.out.alloc _
        have hlX13 : X12.heap.size < X13.heap.size := HAX13.out.lt
        have hgX13 : u_0.heap.size ≤ X12.heap.size := hbX12.size
        rw [← hX]
        clear hX
        refine hK.out _ _ trivial (fun _ => ?_)
        clear hK K
        (try simp only [Act.put, List.setIfInBounds_toArray, List.set_cons_zero, List.set_cons_succ])
        repeat (refine' wpV_read _ (by kernel_rfl) (fun w' hS' => ?_) ?_; rotate_left; · ((try dsimp only at hS'); go_simp; (try with_reducible rfl)); (try simp only [Act.put, List.setIfInBounds_toArray, List.set_cons_zero, List.set_cons_succ]))
        refine wpV_done ?_
        go_wp2_with fail
        refine NoPanic.normal ?_
        try (go_wp2_with fail)
        have HF := Lib.hid hbX13
        go_meet
        exact ⟨X11.heap.size, X12.heap.size, u_0.heap.size, rfl, rfl, rfl, by omega, by omega, by omega, by omega, by omega, by omega, HF, HBX13_0, HAX13, HBX13_2⟩
      refine wpV_do (by kernel_rfl) (fun K hK => ?_)
      go_simp
      obtain ⟨X14, hX⟩ : ∃ x0, x0 = (X11.alloc (.cells #[.int .i64 0, .int .i64 0] 3)) := ⟨_, rfl⟩
      have hbX14 : Below u_0.heap.size u_0 X14 := by rw [hX]; exact hbX11.alloc hbX11.size _
      have HAX14 : Hid (BoxN X14 X11.heap.size 3 [.int .i64 0, .int .i64 0]) := by unfold Hid; rw [hX]; exact BoxN.new X11 [.int .i64 0, .int .i64 0] 3
      have HBX14_2 : Hid (BoxN X14 u_0.heap.size 3 [.int .i64 0, .int .i64 0]) := by unfold Hid; rw [hX]; exact HAX11.out.alloc _
      have hlX14 : X11.heap.size < X14.heap.size := HAX14.out.lt
      have hgX14 : u_0.heap.size ≤ X11.heap.size := hbX11.size
      rw [← hX]
      clear hX
      refine hK.out _ _ trivial (fun _ => ?_)
      clear hK K
      (try simp only [Act.put, List.setIfInBounds_toArray, List.set_cons_zero, List.set_cons_succ])
      refine wpV_do (by kernel_rfl) (fun K hK => ?_)
      go_simp
      obtain ⟨X15, hX⟩ : ∃ x0, x0 = (X14.alloc (.cells #[.int .i64 0, .int .i64 0] 3)) := ⟨_, rfl⟩
      have hbX15 : Below u_0.heap.size u_0 X15 := by rw [hX]; exact hbX14.alloc hbX14.size _
      have HAX15 : Hid (BoxN X15 X14.heap.size 3 [.int .i64 0, .int .i64 0]) := by unfold Hid; rw [hX]; exact BoxN.new X14 [.int .i64 0, .int .i64 0] 3
      have HBX15_1 : Hid (BoxN X15 X11.heap.size 3 [.int .i64 0, .int .i64 0]) := by unfold Hid; rw [hX]; exact HAX14.out.alloc _
      have HBX15_2 : Hid (BoxN X15 u_0.heap.size 3 [.int .i64 0, .int .i64 0]) := by unfold Hid; rw [hX]; exact HBX14_2.out.alloc _
      have hlX15 : X14.heap.size < X15.heap.size := HAX15.out.lt
      have hgX15 : u_0.heap.size ≤ X14.heap.size := hbX14.size
      rw [← hX]
      clear hX
      refine hK.out _ _ trivial (fun _ => ?_)
      clear hK K
      (try simp only [Act.put, List.setIfInBounds_toArray, List.set_cons_zero, List.set_cons_succ])
      repeat (refine' wpV_read _ (by kernel_rfl) (fun w' hS' => ?_) ?_; rotate_left; · ((try dsimp only at hS'); go_simp; (try with_reducible rfl)); (try simp only [Act.put, List.setIfInBounds_toArray, List.set_cons_zero, List.set_cons_succ]))
      refine wpV_done ?_
      go_wp2_with fail
      refine NoPanic.normal ?_
      try (go_wp2_with fail)
      have HF := Lib.hid hbX15
      go_meet
      exact ⟨X14.heap.size, X11.heap.size, u_0.heap.size, rfl, rfl, rfl, by omega, by omega, by omega, by omega, by omega, by omega, HF, HAX15, HBX15_1, HBX15_2⟩
    case rest =>
      obtain ⟨R0, R1, R2, rfl, rfl, rfl, hR0, hR1, hR2, n01, n02, n12, HBV, HM0, HM1, HM2⟩ := hcut
      obtain ⟨V, hV⟩ : ∃ V, V = wc := ⟨_, rfl⟩
      rw [← hV] at HBV HM0 HM1 HM2 ⊢
      clear hV
      have hRW : W.heap.size ≤ u_0.heap.size := hc.size
      replace hc := Below.next hc HBV.out
      clear HBV
      have s0_0 := box_at (HS0.out.cell (i := 0) rfl) hc
      have s0_1 := box_at (HS0.out.cell (i := 1) rfl) hc
      have s0_2 := box_at (HS0.out.cell (i := 2) rfl) hc
      have s1_0 := box_at (HS1.out.cell (i := 0) rfl) hc
      have s1_1 := box_at (HS1.out.cell (i := 1) rfl) hc
      have m0_0 := HM0.out.cell (i := 0) rfl
      have m0_1 := HM0.out.cell (i := 1) rfl
      have m1_0 := HM1.out.cell (i := 0) rfl
      have m1_1 := HM1.out.cell (i := 1) rfl
      have m2_0 := HM2.out.cell (i := 0) rfl
      have m2_1 := HM2.out.cell (i := 1) rfl
      have y0 := box_at Kcv0.out (HB.out.trans (hc.mono HB.out.size))
      have y1 := box_at Kcv1.out (HB.out.trans (hc.mono HB.out.size))
      have y2 := box_at Kcv2.out (HB.out.trans (hc.mono HB.out.size))
      have fz1 := fun i => HM1.out.frozen i
      have hsz := hc.size
      go_upto_region 5 with fail
      obtain ⟨Y_1, hY⟩ : ∃ Y, Y = V.setCell ⟨R1, 0, none⟩ (.int .i64 (nth cs 1)) := ⟨_, rfl⟩
      have NHM0 : Hid (BoxN Y_1 R0 3 [.int .i64 0, .int .i64 0]) := by unfold Hid; rw [hY]; exact (HM0.out.other (b' := R1) (by omega) 0 (.int .i64 (nth cs 1)))
      have NHM1 : Hid (BoxN Y_1 R1 3 [.int .i64 (nth cs 1), .int .i64 0]) := by unfold Hid; rw [hY]; exact (HM1.out.set 0 (.int .i64 (nth cs 1)))
      have NHM2 : Hid (BoxN Y_1 R2 3 [.int .i64 0, .int .i64 0]) := by unfold Hid; rw [hY]; exact (HM2.out.other (b' := R1) (by omega) 0 (.int .i64 (nth cs 1)))
      have hcY : Below W.heap.size W Y_1 := by rw [hY]; exact (hc.setCell (p := ⟨R1, 0, none⟩) (by show W.heap.size ≤ R1; omega) (.int .i64 (nth cs 1)))
      rw [← hY]
      clear hY fz1
      clear HM0
      have HM0 := NHM0
      clear NHM0
      clear HM1
      have HM1 := NHM1
      clear NHM1
      clear HM2
      have HM2 := NHM2
      clear NHM2
      clear s0_0 s0_1 s0_2 s1_0 s1_1 m0_0 m0_1 m1_0 m1_1 m2_0 m2_1 y0 y1 y2
      clear hc hsz
      have hc := hcY
      clear hcY
      have s0_0 := box_at (HS0.out.cell (i := 0) rfl) hc
      have s0_1 := box_at (HS0.out.cell (i := 1) rfl) hc
      have s0_2 := box_at (HS0.out.cell (i := 2) rfl) hc
      have s1_0 := box_at (HS1.out.cell (i := 0) rfl) hc
      have s1_1 := box_at (HS1.out.cell (i := 1) rfl) hc
      have m0_0 := HM0.out.cell (i := 0) rfl
      have m0_1 := HM0.out.cell (i := 1) rfl
      have m1_0 := HM1.out.cell (i := 0) rfl
      have m1_1 := HM1.out.cell (i := 1) rfl
      have m2_0 := HM2.out.cell (i := 0) rfl
      have m2_1 := HM2.out.cell (i := 1) rfl
      have y0 := box_at Kcv0.out (HB.out.trans (hc.mono HB.out.size))
      have y1 := box_at Kcv1.out (HB.out.trans (hc.mono HB.out.size))
      have y2 := box_at Kcv2.out (HB.out.trans (hc.mono HB.out.size))
      have fz2 := fun i => HM2.out.frozen i
      have hsz := hc.size
      go_wp2_with fail
      obtain ⟨Y_2, hY⟩ : ∃ Y, Y = Y_1.setCell ⟨R2, 0, none⟩ (.int .i64 (nth cs 2)) := ⟨_, rfl⟩
      have NHM0 : Hid (BoxN Y_2 R0 3 [.int .i64 0, .int .i64 0]) := by unfold Hid; rw [hY]; exact (HM0.out.other (b' := R2) (by omega) 0 (.int .i64 (nth cs 2)))
      have NHM1 : Hid (BoxN Y_2 R1 3 [.int .i64 (nth cs 1), .int .i64 0]) := by unfold Hid; rw [hY]; exact (HM1.out.other (b' := R2) (by omega) 0 (.int .i64 (nth cs 2)))
      have NHM2 : Hid (BoxN Y_2 R2 3 [.int .i64 (nth cs 2), .int .i64 0]) := by unfold Hid; rw [hY]; exact (HM2.out.set 0 (.int .i64 (nth cs 2)))
      have hcY : Below W.heap.size W Y_2 := by rw [hY]; exact (hc.setCell (p := ⟨R2, 0, none⟩) (by show W.heap.size ≤ R2; omega) (.int .i64 (nth cs 2)))
      rw [← hY]
      clear hY fz2
      clear HM0
      have HM0 := NHM0
      clear NHM0
      clear HM1
      have HM1 := NHM1
      clear NHM1
      clear HM2
      have HM2 := NHM2
      clear NHM2
      clear s0_0 s0_1 s0_2 s1_0 s1_1 m0_0 m0_1 m1_0 m1_1 m2_0 m2_1 y0 y1 y2
      clear hc hsz
      have hc := hcY
      clear hcY
      have s0_0 := box_at (HS0.out.cell (i := 0) rfl) hc
      have s0_1 := box_at (HS0.out.cell (i := 1) rfl) hc
      have s0_2 := box_at (HS0.out.cell (i := 2) rfl) hc
      have s1_0 := box_at (HS1.out.cell (i := 0) rfl) hc
      have s1_1 := box_at (HS1.out.cell (i := 1) rfl) hc
      have m0_0 := HM0.out.cell (i := 0) rfl
      have m0_1 := HM0.out.cell (i := 1) rfl
      have m1_0 := HM1.out.cell (i := 0) rfl
      have m1_1 := HM1.out.cell (i := 1) rfl
      have m2_0 := HM2.out.cell (i := 0) rfl
      have m2_1 := HM2.out.cell (i := 1) rfl
      have y0 := box_at Kcv0.out (HB.out.trans (hc.mono HB.out.size))
      have y1 := box_at Kcv1.out (HB.out.trans (hc.mono HB.out.size))
      have y2 := box_at Kcv2.out (HB.out.trans (hc.mono HB.out.size))
      try (go_wp2_with fail)
      refine wp_region_noPanic ?_
      refine wp_region_P (fun w' => w'.cell? ⟨w.heap.size, 0, none⟩ = some (.int .i64 gr.p) ∧ w'.cell? ⟨w.heap.size, 1, none⟩ = some (.int .i64 gr.q) ∧ w'.cell? ⟨w.heap.size, 2, none⟩ = some (.int .i64 gr.g) ∧ w'.cell? ⟨(w.heap.size + 1), 0, none⟩ = some (.int .i64 bh) ∧ w'.cell? ⟨(w.heap.size + 1), 1, none⟩ = some (.slice bva bvn bvc) ∧ w'.cell? ⟨R0, 0, none⟩ = some (.int .i64 0) ∧ w'.cell? ⟨R0, 1, none⟩ = some (.int .i64 0) ∧ w'.cell? ⟨R1, 0, none⟩ = some (.int .i64 (nth cs 1)) ∧ w'.cell? ⟨R1, 1, none⟩ = some (.int .i64 0) ∧ w'.cell? ⟨R2, 0, none⟩ = some (.int .i64 (nth cs 2)) ∧ w'.cell? ⟨R2, 1, none⟩ = some (.int .i64 0) ∧ w'.cell? ⟨cvb, cvo, none⟩ = some (.int .i64 (nth cs 0)) ∧ w'.cell? ⟨cvb, cvo + 1, none⟩ = some (.int .i64 (nth cs 1)) ∧ w'.cell? ⟨cvb, cvo + 2, none⟩ = some (.int .i64 (nth cs 2))) 28 [(0, []), (1, []), (2, []), (3, []), (4, []), (5, [0]), (6, []), (7, []), (8, [1, 0]), (9, [0]), (10, [6, 4, 0]), (11, []), (12, []), (13, []), (14, []), (15, [2, 1, 0]), (16, []), (17, []), (18, [1, 0]), (19, [0]), (20, [0]), (21, [9, 5, 0]), (22, [11, 0]), (23, [20, 0]), (24, [23, 22])] [25] (by kernel_rfl) (by kernel_rfl) (by kernel_rfl) rfl (fun _ _ _ _ h => h) (fun w' h => ⟨box_at s0_0 h, box_at s0_1 h, box_at s0_2 h, box_at s1_0 h, box_at s1_1 h, box_at m0_0 h, box_at m0_1 h, box_at m1_0 h, box_at m1_1 h, box_at m2_0 h, box_at m2_1 h, box_at y0 h, box_at y1 h, box_at y2 h⟩) ?_
      simp only [pickP, pickN, List.getElem?_cons_zero, List.getElem?_cons_succ]
      iterate 10 (refine' chainP_read _ rfl rfl (fun w' hS' => ?_) ?_; rotate_left; · (simp only [lookP, allP, Act.put, List.getElem?_cons_zero, List.getElem?_cons_succ, List.setIfInBounds_toArray, List.set_cons_zero, List.set_cons_succ]; (try dsimp only at hS'); go_simp; (try with_reducible rfl)))
      -- 10: call { callee := value (func 156), args := #[t41, t43, t47], argTypes := #[39, 3, 3] }
      refine chainP_call (d := (some 48)) (.int .i64 H2) rfl rfl (fun w' hS' => ?_) ?_
      · simp only [lookP, allP, Act.put, List.getElem?_cons_zero, List.getElem?_cons_succ, List.setIfInBounds_toArray, List.set_cons_zero, List.set_cons_succ]
        intro K hK
        go_simp
        go_at_call 57
        refine (spec_gExp gr bh (nth cs 2) _ HG.out sbh ⟨by omega, by omega⟩).mono ?_
        rintro e u ⟨rfl, hq⟩
        rw [HH2.out]
        exact hK.out _ hq
      iterate 4 (refine' chainP_read _ rfl rfl (fun w' hS' => ?_) ?_; rotate_left; · (simp only [lookP, allP, Act.put, List.getElem?_cons_zero, List.getElem?_cons_succ, List.setIfInBounds_toArray, List.set_cons_zero, List.set_cons_succ]; (try dsimp only at hS'); go_simp; (try with_reducible rfl)))
      -- 15: call { callee := value (func 281), args := #[t50, t51, t52], argTypes := #[39, 3, 3] }
      refine chainP_call (d := (some 53)) (.int .i64 BC) rfl rfl (fun w' hS' => ?_) ?_
      · simp only [lookP, allP, Act.put, List.getElem?_cons_zero, List.getElem?_cons_succ, List.setIfInBounds_toArray, List.set_cons_zero, List.set_cons_succ]
        intro K hK
        go_simp
        go_at_call 98
        refine (spec_rCase gr C0 0 _ HG.out sC0).mono ?_
        rintro e u ⟨rfl, hq⟩
        rw [HBC.out]
        exact hK.out _ hq
      iterate 5 (refine' chainP_read _ rfl rfl (fun w' hS' => ?_) ?_; rotate_left; · (simp only [lookP, allP, Act.put, List.getElem?_cons_zero, List.getElem?_cons_succ, List.setIfInBounds_toArray, List.set_cons_zero, List.set_cons_succ]; (try dsimp only at hS'); go_simp; (try with_reducible rfl)))
      -- 21: call { callee := value (func 156), args := #[t49, t53, t58], argTypes := #[39, 3, 3] }
      refine chainP_call (d := (some 59)) (.int .i64 BP) rfl rfl (fun w' hS' => ?_) ?_
      · simp only [lookP, allP, Act.put, List.getElem?_cons_zero, List.getElem?_cons_succ, List.setIfInBounds_toArray, List.set_cons_zero, List.set_cons_succ]
        intro K hK
        go_simp
        go_at_call 57
        refine (spec_gExp gr BC (-nth cs 1) _ HG.out sBC ⟨by omega, by omega⟩).mono ?_
        rintro e u ⟨rfl, hq⟩
        rw [HBP.out]
        exact hK.out _ hq
      -- 22: buildSlice 24 2 #[(0, t48), (1, t59)]
      refine chainP_do (d := (some 60)) (fun v w => Ints w v [H2, BP]) (fun v w w' hb h => Ints.below h hb) rfl rfl (fun w' hS' => ?_) ?_
      · simp only [lookP, allP, Act.put, List.getElem?_cons_zero, List.getElem?_cons_succ, List.setIfInBounds_toArray, List.set_cons_zero, List.set_cons_succ]
        intro K hK
        go_simp
        refine hK.out _ _ ((Below.refl _ _).alloc (Nat.le_refl _) _) ?_
        exact (OwnI.lit (B := w'.heap.size) w' (Nat.le_refl _) (l := [H2, BP]) (AllI64.cons (small_64 sH2) (AllI64.cons (small_64 sBP) AllI64.nil)) rfl (by simp [maxLen]) 2 rfl).ints
      -- 23: call { callee := value (func 211), args := #[t40, t60], argTypes := #[39, 24] }
      refine chainP_call (d := (some 61)) (.int .i64 XO) rfl rfl (fun w' hS' => ?_) ?_
      · simp only [lookP, allP, Act.put, List.getElem?_cons_zero, List.getElem?_cons_succ, List.setIfInBounds_toArray, List.set_cons_zero, List.set_cons_succ]
        intro x22 hx22
        intro K hK
        go_simp
        go_at_call 66
        refine (spec_gMul gr _ [H2, BP] _ HG.out hx22 (AllSmall.cons sH2 (AllSmall.cons sBP AllSmall.nil))).mono ?_
        rintro e u ⟨rfl, hq⟩
        rw [HXO.out]
        exact hK.out _ hq
      -- 24: indexAddr 24 t38 t39
      refine' chainP_read (d := (some 62)) _ rfl rfl (fun w' hS' => ?_) ?_; rotate_left
      · simp only [lookP, allP, Act.put, List.getElem?_cons_zero, List.getElem?_cons_succ, List.setIfInBounds_toArray, List.set_cons_zero, List.set_cons_succ]
        (try dsimp only at hS')
        go_simp
        (try with_reducible rfl)
      refine chainP_nil (fun u_3 hS' => ?_)
      simp only [allP, Act.put, List.setIfInBounds_toArray, List.set_cons_zero, List.set_cons_succ]
      intro x22 hx22
      have hq1 := hS'.1
      replace HM0 := Lib.hid (HM0.out.below hq1)
      replace HM1 := Lib.hid (HM1.out.below hq1)
      replace HM2 := Lib.hid (HM2.out.below hq1)
      clear hS'
      replace hc := Below.next hc hq1
      replace s0_0 := box_at s0_0 hq1
      replace s0_1 := box_at s0_1 hq1
      replace s0_2 := box_at s0_2 hq1
      replace s1_0 := box_at s1_0 hq1
      replace s1_1 := box_at s1_1 hq1
      replace m0_0 := box_at m0_0 hq1
      replace m0_1 := box_at m0_1 hq1
      replace m1_0 := box_at m1_0 hq1
      replace m1_1 := box_at m1_1 hq1
      replace m2_0 := box_at m2_0 hq1
      replace m2_1 := box_at m2_1 hq1
      replace y0 := box_at y0 hq1
      replace y1 := box_at y1 hq1
      replace y2 := box_at y2 hq1
      clear hq1
      have fz0 := fun i => HM0.out.frozen i
      have hsz := hc.size
      go_wp2_with fail
      refine NoPanic.normal ?_
      (try (go_wp2_with fail))
      obtain ⟨Y_4, hY⟩ : ∃ Y, Y = u_3.setCell ⟨R0, 0, none⟩ (.int .i64 XO) := ⟨_, rfl⟩
      have NHM0 : Hid (BoxN Y_4 R0 3 [.int .i64 XO, .int .i64 0]) := by unfold Hid; rw [hY]; exact (HM0.out.set 0 (.int .i64 XO))
      have NHM1 : Hid (BoxN Y_4 R1 3 [.int .i64 (nth cs 1), .int .i64 0]) := by unfold Hid; rw [hY]; exact (HM1.out.other (b' := R0) (by omega) 0 (.int .i64 XO))
      have NHM2 : Hid (BoxN Y_4 R2 3 [.int .i64 (nth cs 2), .int .i64 0]) := by unfold Hid; rw [hY]; exact (HM2.out.other (b' := R0) (by omega) 0 (.int .i64 XO))
      have hcY : Below W.heap.size W Y_4 := by rw [hY]; exact (hc.setCell (p := ⟨R0, 0, none⟩) (by show W.heap.size ≤ R0; omega) (.int .i64 XO))
      rw [← hY]
      clear hY fz0
      clear HM0
      have HM0 := NHM0
      clear NHM0
      clear HM1
      have HM1 := NHM1
      clear NHM1
      clear HM2
      have HM2 := NHM2
      clear NHM2
      clear s0_0 s0_1 s0_2 s1_0 s1_1 m0_0 m0_1 m1_0 m1_1 m2_0 m2_1 y0 y1 y2
      clear hc hsz
      have hc := hcY
      clear hcY
      have s0_0 := box_at (HS0.out.cell (i := 0) rfl) hc
      have s0_1 := box_at (HS0.out.cell (i := 1) rfl) hc
      have s0_2 := box_at (HS0.out.cell (i := 2) rfl) hc
      have s1_0 := box_at (HS1.out.cell (i := 0) rfl) hc
      have s1_1 := box_at (HS1.out.cell (i := 1) rfl) hc
      have m0_0 := HM0.out.cell (i := 0) rfl
      have m0_1 := HM0.out.cell (i := 1) rfl
      have m1_0 := HM1.out.cell (i := 0) rfl
      have m1_1 := HM1.out.cell (i := 1) rfl
      have m2_0 := HM2.out.cell (i := 0) rfl
      have m2_1 := HM2.out.cell (i := 1) rfl
      have y0 := box_at Kcv0.out (HB.out.trans (hc.mono HB.out.size))
      have y1 := box_at Kcv1.out (HB.out.trans (hc.mono HB.out.size))
      have y2 := box_at Kcv2.out (HB.out.trans (hc.mono HB.out.size))
      try (go_wp2_with fail)
      refine wp_region_noPanic ?_
      refine wp_region_P (fun w' => w'.cell? ⟨w.heap.size, 0, none⟩ = some (.int .i64 gr.p) ∧ w'.cell? ⟨w.heap.size, 1, none⟩ = some (.int .i64 gr.q) ∧ w'.cell? ⟨w.heap.size, 2, none⟩ = some (.int .i64 gr.g) ∧ w'.cell? ⟨(w.heap.size + 1), 0, none⟩ = some (.int .i64 bh) ∧ w'.cell? ⟨(w.heap.size + 1), 1, none⟩ = some (.slice bva bvn bvc) ∧ w'.cell? ⟨R0, 0, none⟩ = some (.int .i64 XO) ∧ w'.cell? ⟨R0, 1, none⟩ = some (.int .i64 0) ∧ w'.cell? ⟨R1, 0, none⟩ = some (.int .i64 (nth cs 1)) ∧ w'.cell? ⟨R1, 1, none⟩ = some (.int .i64 0) ∧ w'.cell? ⟨R2, 0, none⟩ = some (.int .i64 (nth cs 2)) ∧ w'.cell? ⟨R2, 1, none⟩ = some (.int .i64 0) ∧ w'.cell? ⟨cvb, cvo, none⟩ = some (.int .i64 (nth cs 0)) ∧ w'.cell? ⟨cvb, cvo + 1, none⟩ = some (.int .i64 (nth cs 1)) ∧ w'.cell? ⟨cvb, cvo + 2, none⟩ = some (.int .i64 (nth cs 2))) 13 [(0, []), (1, []), (2, []), (3, []), (4, [0]), (5, []), (6, [0]), (7, [0]), (8, [5, 3, 0]), (9, [8, 7])] [10] (by kernel_rfl) (by kernel_rfl) (by kernel_rfl) rfl (fun _ _ _ _ h => h) (fun w' h => ⟨box_at s0_0 h, box_at s0_1 h, box_at s0_2 h, box_at s1_0 h, box_at s1_1 h, box_at m0_0 h, box_at m0_1 h, box_at m1_0 h, box_at m1_1 h, box_at m2_0 h, box_at m2_1 h, box_at y0 h, box_at y1 h, box_at y2 h⟩) ?_
      simp only [pickP, pickN, List.getElem?_cons_zero, List.getElem?_cons_succ]
      iterate 8 (refine' chainP_read _ rfl rfl (fun w' hS' => ?_) ?_; rotate_left; · (simp only [lookP, allP, Act.put, List.getElem?_cons_zero, List.getElem?_cons_succ, List.setIfInBounds_toArray, List.set_cons_zero, List.set_cons_succ]; (try dsimp only at hS'); go_simp; (try with_reducible rfl)))
      -- 8: call { callee := value (func 156), args := #[t65, t67, t70], argTypes := #[39, 3, 3] }
      refine chainP_call (d := (some 71)) (.int .i64 XM) rfl rfl (fun w' hS' => ?_) ?_
      · simp only [lookP, allP, Act.put, List.getElem?_cons_zero, List.getElem?_cons_succ, List.setIfInBounds_toArray, List.set_cons_zero, List.set_cons_succ]
        intro K hK
        go_simp
        go_at_call 57
        refine (spec_gExp gr bh (nth cs 0) _ HG.out sbh ⟨by omega, by omega⟩).mono ?_
        rintro e u ⟨rfl, hq⟩
        rw [HXM.out]
        exact hK.out _ hq
      -- 9: indexAddr 24 t63 t64
      refine' chainP_read (d := (some 72)) _ rfl rfl (fun w' hS' => ?_) ?_; rotate_left
      · simp only [lookP, allP, Act.put, List.getElem?_cons_zero, List.getElem?_cons_succ, List.setIfInBounds_toArray, List.set_cons_zero, List.set_cons_succ]
        (try dsimp only at hS')
        go_simp
        (try with_reducible rfl)
      refine chainP_nil (fun u_5 hS' => ?_)
      simp only [allP, Act.put, List.setIfInBounds_toArray, List.set_cons_zero, List.set_cons_succ]
      have hq1 := hS'.1
      replace HM0 := Lib.hid (HM0.out.below hq1)
      replace HM1 := Lib.hid (HM1.out.below hq1)
      replace HM2 := Lib.hid (HM2.out.below hq1)
      clear hS'
      replace hc := Below.next hc hq1
      replace s0_0 := box_at s0_0 hq1
      replace s0_1 := box_at s0_1 hq1
      replace s0_2 := box_at s0_2 hq1
      replace s1_0 := box_at s1_0 hq1
      replace s1_1 := box_at s1_1 hq1
      replace m0_0 := box_at m0_0 hq1
      replace m0_1 := box_at m0_1 hq1
      replace m1_0 := box_at m1_0 hq1
      replace m1_1 := box_at m1_1 hq1
      replace m2_0 := box_at m2_0 hq1
      replace m2_1 := box_at m2_1 hq1
      replace y0 := box_at y0 hq1
      replace y1 := box_at y1 hq1
      replace y2 := box_at y2 hq1
      clear hq1
      have fz0 := fun i => HM0.out.frozen i
      have hsz := hc.size
      go_wp2_with fail
      refine NoPanic.normal ?_
      (try (go_wp2_with fail))
      obtain ⟨Y_6, hY⟩ : ∃ Y, Y = u_5.setCell ⟨R0, 1, none⟩ (.int .i64 XM) := ⟨_, rfl⟩
      have NHM0 : Hid (BoxN Y_6 R0 3 [.int .i64 XO, .int .i64 XM]) := by unfold Hid; rw [hY]; exact (HM0.out.set 1 (.int .i64 XM))
      have NHM1 : Hid (BoxN Y_6 R1 3 [.int .i64 (nth cs 1), .int .i64 0]) := by unfold Hid; rw [hY]; exact (HM1.out.other (b' := R0) (by omega) 1 (.int .i64 XM))
      have NHM2 : Hid (BoxN Y_6 R2 3 [.int .i64 (nth cs 2), .int .i64 0]) := by unfold Hid; rw [hY]; exact (HM2.out.other (b' := R0) (by omega) 1 (.int .i64 XM))
      have hcY : Below W.heap.size W Y_6 := by rw [hY]; exact (hc.setCell (p := ⟨R0, 1, none⟩) (by show W.heap.size ≤ R0; omega) (.int .i64 XM))
      rw [← hY]
      clear hY fz0
      clear HM0
      have HM0 := NHM0
      clear NHM0
      clear HM1
      have HM1 := NHM1
      clear NHM1
      clear HM2
      have HM2 := NHM2
      clear NHM2
      clear s0_0 s0_1 s0_2 s1_0 s1_1 m0_0 m0_1 m1_0 m1_1 m2_0 m2_1 y0 y1 y2
      clear hc hsz
      have hc := hcY
      clear hcY
      have s0_0 := box_at (HS0.out.cell (i := 0) rfl) hc
      have s0_1 := box_at (HS0.out.cell (i := 1) rfl) hc
      have s0_2 := box_at (HS0.out.cell (i := 2) rfl) hc
      have s1_0 := box_at (HS1.out.cell (i := 0) rfl) hc
      have s1_1 := box_at (HS1.out.cell (i := 1) rfl) hc
      have m0_0 := HM0.out.cell (i := 0) rfl
      have m0_1 := HM0.out.cell (i := 1) rfl
      have m1_0 := HM1.out.cell (i := 0) rfl
      have m1_1 := HM1.out.cell (i := 1) rfl
      have m2_0 := HM2.out.cell (i := 0) rfl
      have m2_1 := HM2.out.cell (i := 1) rfl
      have y0 := box_at Kcv0.out (HB.out.trans (hc.mono HB.out.size))
      have y1 := box_at Kcv1.out (HB.out.trans (hc.mono HB.out.size))
      have y2 := box_at Kcv2.out (HB.out.trans (hc.mono HB.out.size))
      try (go_wp2_with fail)
      refine wp_region_noPanic ?_
      refine wp_region_P (fun w' => w'.cell? ⟨w.heap.size, 0, none⟩ = some (.int .i64 gr.p) ∧ w'.cell? ⟨w.heap.size, 1, none⟩ = some (.int .i64 gr.q) ∧ w'.cell? ⟨w.heap.size, 2, none⟩ = some (.int .i64 gr.g) ∧ w'.cell? ⟨(w.heap.size + 1), 0, none⟩ = some (.int .i64 bh) ∧ w'.cell? ⟨(w.heap.size + 1), 1, none⟩ = some (.slice bva bvn bvc) ∧ w'.cell? ⟨R0, 0, none⟩ = some (.int .i64 XO) ∧ w'.cell? ⟨R0, 1, none⟩ = some (.int .i64 XM) ∧ w'.cell? ⟨R1, 0, none⟩ = some (.int .i64 (nth cs 1)) ∧ w'.cell? ⟨R1, 1, none⟩ = some (.int .i64 0) ∧ w'.cell? ⟨R2, 0, none⟩ = some (.int .i64 (nth cs 2)) ∧ w'.cell? ⟨R2, 1, none⟩ = some (.int .i64 0) ∧ w'.cell? ⟨cvb, cvo, none⟩ = some (.int .i64 (nth cs 0)) ∧ w'.cell? ⟨cvb, cvo + 1, none⟩ = some (.int .i64 (nth cs 1)) ∧ w'.cell? ⟨cvb, cvo + 2, none⟩ = some (.int .i64 (nth cs 2))) 19 [(0, []), (1, []), (2, []), (3, []), (4, []), (5, []), (6, [3, 2, 1, 0]), (7, []), (8, []), (9, [1, 0]), (10, [0]), (11, [4, 0]), (12, []), (13, [0]), (14, [2, 0]), (15, [14, 13])] [16] (by kernel_rfl) (by kernel_rfl) (by kernel_rfl) rfl (fun _ _ _ _ h => h) (fun w' h => ⟨box_at s0_0 h, box_at s0_1 h, box_at s0_2 h, box_at s1_0 h, box_at s1_1 h, box_at m0_0 h, box_at m0_1 h, box_at m1_0 h, box_at m1_1 h, box_at m2_0 h, box_at m2_1 h, box_at y0 h, box_at y1 h, box_at y2 h⟩) ?_
      simp only [pickP, pickN, List.getElem?_cons_zero, List.getElem?_cons_succ]
      iterate 6 (refine' chainP_read _ rfl rfl (fun w' hS' => ?_) ?_; rotate_left; · (simp only [lookP, allP, Act.put, List.getElem?_cons_zero, List.getElem?_cons_succ, List.setIfInBounds_toArray, List.set_cons_zero, List.set_cons_succ]; (try dsimp only at hS'); go_simp; (try with_reducible rfl)))
      -- 6: call { callee := value (func 282), args := #[t75, t76, t77, t78], argTypes := #[39, 79, 3, 24] }
      refine chainP_call (d := (some 79)) (.int .i64 E) rfl rfl (fun w' hS' => ?_) ?_
      · simp only [lookP, allP, Act.put, List.getElem?_cons_zero, List.getElem?_cons_succ, List.setIfInBounds_toArray, List.set_cons_zero, List.set_cons_succ]
        intro K hK
        go_simp
        go_at_call 95
        refine (spec_rBitChallenge gr bh _ bl C0 _ [XO, XM] _ HG.out (Hbv.out.below (HB.out.trans ((Below.next hc hS'.1).mono HB.out.size))) ((rowI HM0.out (by omega) (small_64 sXO) (small_64 sXM) : OwnI _ w.heap.size _ _).ints.below hS'.1) rfl sbh sC0 sXO sXM).mono ?_
        rintro e u ⟨rfl, hq⟩
        rw [show btE gr sBit bh C0 (nth [XO, XM] 0) (nth [XO, XM] 1) = E from HE.out]
        exact hK.out _ hq
      iterate 7 (refine' chainP_read _ rfl rfl (fun w' hS' => ?_) ?_; rotate_left; · (simp only [lookP, allP, Act.put, List.getElem?_cons_zero, List.getElem?_cons_succ, List.setIfInBounds_toArray, List.set_cons_zero, List.set_cons_succ]; (try dsimp only at hS'); go_simp; (try with_reducible rfl)))
      -- 14: call { callee := value (func 180), args := #[t84, t86], argTypes := #[3, 3] }
      refine chainP_call (d := (some 87)) (.int .i64 EM) rfl rfl (fun w' hS' => ?_) ?_
      · simp only [lookP, allP, Act.put, List.getElem?_cons_zero, List.getElem?_cons_succ, List.setIfInBounds_toArray, List.set_cons_zero, List.set_cons_succ]
        intro K hK
        go_simp
        go_at_call 94
        refine (spec_nMod (E - nth cs 1) gr.q _ HN1.out zq0 zq4).mono ?_
        rintro e u ⟨rfl, rfl⟩
        rw [HEM.out]
        exact hK.out _ (Below.refl _ _)
      -- 15: indexAddr 24 t73 t74
      refine' chainP_read (d := (some 88)) _ rfl rfl (fun w' hS' => ?_) ?_; rotate_left
      · simp only [lookP, allP, Act.put, List.getElem?_cons_zero, List.getElem?_cons_succ, List.setIfInBounds_toArray, List.set_cons_zero, List.set_cons_succ]
        (try dsimp only at hS')
        go_simp
        (try with_reducible rfl)
      refine chainP_nil (fun u_7 hS' => ?_)
      simp only [allP, Act.put, List.setIfInBounds_toArray, List.set_cons_zero, List.set_cons_succ]
      have hq1 := hS'.1
      replace HM0 := Lib.hid (HM0.out.below hq1)
      replace HM1 := Lib.hid (HM1.out.below hq1)
      replace HM2 := Lib.hid (HM2.out.below hq1)
      clear hS'
      replace hc := Below.next hc hq1
      replace s0_0 := box_at s0_0 hq1
      replace s0_1 := box_at s0_1 hq1
      replace s0_2 := box_at s0_2 hq1
      replace s1_0 := box_at s1_0 hq1
      replace s1_1 := box_at s1_1 hq1
      replace m0_0 := box_at m0_0 hq1
      replace m0_1 := box_at m0_1 hq1
      replace m1_0 := box_at m1_0 hq1
      replace m1_1 := box_at m1_1 hq1
      replace m2_0 := box_at m2_0 hq1
      replace m2_1 := box_at m2_1 hq1
      replace y0 := box_at y0 hq1
      replace y1 := box_at y1 hq1
      replace y2 := box_at y2 hq1
      clear hq1
      have fz1 := fun i => HM1.out.frozen i
      have hsz := hc.size
      go_wp2_with fail
      refine NoPanic.normal ?_
      (try (go_wp2_with fail))
      obtain ⟨Y_8, hY⟩ : ∃ Y, Y = u_7.setCell ⟨R1, 1, none⟩ (.int .i64 EM) := ⟨_, rfl⟩
      have NHM0 : Hid (BoxN Y_8 R0 3 [.int .i64 XO, .int .i64 XM]) := by unfold Hid; rw [hY]; exact (HM0.out.other (b' := R1) (by omega) 1 (.int .i64 EM))
      have NHM1 : Hid (BoxN Y_8 R1 3 [.int .i64 (nth cs 1), .int .i64 EM]) := by unfold Hid; rw [hY]; exact (HM1.out.set 1 (.int .i64 EM))
      have NHM2 : Hid (BoxN Y_8 R2 3 [.int .i64 (nth cs 2), .int .i64 0]) := by unfold Hid; rw [hY]; exact (HM2.out.other (b' := R1) (by omega) 1 (.int .i64 EM))
      have hcY : Below W.heap.size W Y_8 := by rw [hY]; exact (hc.setCell (p := ⟨R1, 1, none⟩) (by show W.heap.size ≤ R1; omega) (.int .i64 EM))
      rw [← hY]
      clear hY fz1
      clear HM0
      have HM0 := NHM0
      clear NHM0
      clear HM1
      have HM1 := NHM1
      clear NHM1
      clear HM2
      have HM2 := NHM2
      clear NHM2
      clear s0_0 s0_1 s0_2 s1_0 s1_1 m0_0 m0_1 m1_0 m1_1 m2_0 m2_1 y0 y1 y2
      clear hc hsz
      have hc := hcY
      clear hcY
      have HR := Lib.hid (HS2.out.below hc)
      have s0_0 := box_at (HS0.out.cell (i := 0) rfl) hc
      have s0_1 := box_at (HS0.out.cell (i := 1) rfl) hc
      have s0_2 := box_at (HS0.out.cell (i := 2) rfl) hc
      have s1_0 := box_at (HS1.out.cell (i := 0) rfl) hc
      have s1_1 := box_at (HS1.out.cell (i := 1) rfl) hc
      have m0_0 := HM0.out.cell (i := 0) rfl
      have m0_1 := HM0.out.cell (i := 1) rfl
      have m1_0 := HM1.out.cell (i := 0) rfl
      have m1_1 := HM1.out.cell (i := 1) rfl
      have m2_0 := HM2.out.cell (i := 0) rfl
      have m2_1 := HM2.out.cell (i := 1) rfl
      have m3_0 := HR.out.cell (i := 0) rfl
      have m3_1 := HR.out.cell (i := 1) rfl
      have m3_2 := HR.out.cell (i := 2) rfl
      have y0 := box_at Kcv0.out (HB.out.trans (hc.mono HB.out.size))
      have y1 := box_at Kcv1.out (HB.out.trans (hc.mono HB.out.size))
      have y2 := box_at Kcv2.out (HB.out.trans (hc.mono HB.out.size))
      try (go_wp2_with fail)
      refine wp_region_noPanic ?_
      refine wp_region_P (fun w' => w'.cell? ⟨w.heap.size, 0, none⟩ = some (.int .i64 gr.p) ∧ w'.cell? ⟨w.heap.size, 1, none⟩ = some (.int .i64 gr.q) ∧ w'.cell? ⟨w.heap.size, 2, none⟩ = some (.int .i64 gr.g) ∧ w'.cell? ⟨(w.heap.size + 1), 0, none⟩ = some (.int .i64 bh) ∧ w'.cell? ⟨(w.heap.size + 1), 1, none⟩ = some (.slice bva bvn bvc) ∧ w'.cell? ⟨R0, 0, none⟩ = some (.int .i64 XO) ∧ w'.cell? ⟨R0, 1, none⟩ = some (.int .i64 XM) ∧ w'.cell? ⟨R1, 0, none⟩ = some (.int .i64 (nth cs 1)) ∧ w'.cell? ⟨R1, 1, none⟩ = some (.int .i64 EM) ∧ w'.cell? ⟨R2, 0, none⟩ = some (.int .i64 (nth cs 2)) ∧ w'.cell? ⟨R2, 1, none⟩ = some (.int .i64 0) ∧ w'.cell? ⟨w.heap.size + 1 + 1, 0, none⟩ = some (.slice none 0 0) ∧ w'.cell? ⟨w.heap.size + 1 + 1, 1, none⟩ = some (.slice none 0 0) ∧ w'.cell? ⟨w.heap.size + 1 + 1, 2, none⟩ = some (.slice none 0 0) ∧ w'.cell? ⟨cvb, cvo, none⟩ = some (.int .i64 (nth cs 0)) ∧ w'.cell? ⟨cvb, cvo + 1, none⟩ = some (.int .i64 (nth cs 1)) ∧ w'.cell? ⟨cvb, cvo + 2, none⟩ = some (.int .i64 (nth cs 2))) 19 [(0, []), (1, []), (2, []), (3, [0]), (4, [0]), (5, []), (6, []), (7, [1, 0]), (8, [0]), (9, []), (10, [1, 0]), (11, [6, 0]), (12, []), (13, [0]), (14, [2, 0]), (15, [14, 13])] [16] (by kernel_rfl) (by kernel_rfl) (by kernel_rfl) rfl (fun _ _ _ _ h => h) (fun w' h => ⟨box_at s0_0 h, box_at s0_1 h, box_at s0_2 h, box_at s1_0 h, box_at s1_1 h, box_at m0_0 h, box_at m0_1 h, box_at m1_0 h, box_at m1_1 h, box_at m2_0 h, box_at m2_1 h, box_at m3_0 h, box_at m3_1 h, box_at m3_2 h, box_at y0 h, box_at y1 h, box_at y2 h⟩) ?_
      simp only [pickP, pickN, List.getElem?_cons_zero, List.getElem?_cons_succ]
      iterate 14 (refine' chainP_read _ rfl rfl (fun w' hS' => ?_) ?_; rotate_left; · (simp only [lookP, allP, Act.put, List.getElem?_cons_zero, List.getElem?_cons_succ, List.setIfInBounds_toArray, List.set_cons_zero, List.set_cons_succ]; (try dsimp only at hS'); go_simp; (try with_reducible rfl)))
      -- 14: call { callee := value (func 180), args := #[t100, t102], argTypes := #[3, 3] }
      refine chainP_call (d := (some 103)) (.int .i64 ZM) rfl rfl (fun w' hS' => ?_) ?_
      · simp only [lookP, allP, Act.put, List.getElem?_cons_zero, List.getElem?_cons_succ, List.setIfInBounds_toArray, List.set_cons_zero, List.set_cons_succ]
        intro K hK
        go_simp
        go_at_call 94
        refine (spec_nMod (nth cs 0 + EM * r) gr.q _ HN2.out zq0 zq4).mono ?_
        rintro e u ⟨rfl, rfl⟩
        rw [HZM.out]
        exact hK.out _ (Below.refl _ _)
      -- 15: indexAddr 24 t89 t90
      refine' chainP_read (d := (some 104)) _ rfl rfl (fun w' hS' => ?_) ?_; rotate_left
      · simp only [lookP, allP, Act.put, List.getElem?_cons_zero, List.getElem?_cons_succ, List.setIfInBounds_toArray, List.set_cons_zero, List.set_cons_succ]
        (try dsimp only at hS')
        go_simp
        (try with_reducible rfl)
      refine chainP_nil (fun u_9 hS' => ?_)
      simp only [allP, Act.put, List.setIfInBounds_toArray, List.set_cons_zero, List.set_cons_succ]
      have hq1 := hS'.1
      replace HM0 := Lib.hid (HM0.out.below hq1)
      replace HM1 := Lib.hid (HM1.out.below hq1)
      replace HM2 := Lib.hid (HM2.out.below hq1)
      replace HR := Lib.hid (HR.out.below hq1)
      clear hS'
      replace hc := Below.next hc hq1
      replace s0_0 := box_at s0_0 hq1
      replace s0_1 := box_at s0_1 hq1
      replace s0_2 := box_at s0_2 hq1
      replace s1_0 := box_at s1_0 hq1
      replace s1_1 := box_at s1_1 hq1
      replace m0_0 := box_at m0_0 hq1
      replace m0_1 := box_at m0_1 hq1
      replace m1_0 := box_at m1_0 hq1
      replace m1_1 := box_at m1_1 hq1
      replace m2_0 := box_at m2_0 hq1
      replace m2_1 := box_at m2_1 hq1
      replace m3_0 := box_at m3_0 hq1
      replace m3_1 := box_at m3_1 hq1
      replace m3_2 := box_at m3_2 hq1
      replace y0 := box_at y0 hq1
      replace y1 := box_at y1 hq1
      replace y2 := box_at y2 hq1
      clear hq1
      have fz2 := fun i => HM2.out.frozen i
      have fz3 := fun i => HR.out.frozen i
      have hsz := hc.size
      go_wp2_with fail
      refine NoPanic.normal ?_
      (try (go_wp2_with fail))
      obtain ⟨Y_10, hY⟩ : ∃ Y, Y = (((u_9.setCell ⟨R2, 1, none⟩ (.int .i64 ZM)).setCell ⟨w.heap.size + 1 + 1, 0, none⟩ (.slice (some ⟨R0, 0, none⟩) 2 2)).setCell ⟨w.heap.size + 1 + 1, 1, none⟩ (.slice (some ⟨R1, 0, none⟩) 2 2)).setCell ⟨w.heap.size + 1 + 1, 2, none⟩ (.slice (some ⟨R2, 0, none⟩) 2 2) := ⟨_, rfl⟩
      have NHM0 : Hid (BoxN Y_10 R0 3 [.int .i64 XO, .int .i64 XM]) := by unfold Hid; rw [hY]; exact ((((HM0.out.other (b' := R2) (by omega) 1 (.int .i64 ZM)).other (b' := w.heap.size + 1 + 1) (by omega) 0 (.slice (some ⟨R0, 0, none⟩) 2 2)).other (b' := w.heap.size + 1 + 1) (by omega) 1 (.slice (some ⟨R1, 0, none⟩) 2 2)).other (b' := w.heap.size + 1 + 1) (by omega) 2 (.slice (some ⟨R2, 0, none⟩) 2 2))
      have NHM1 : Hid (BoxN Y_10 R1 3 [.int .i64 (nth cs 1), .int .i64 EM]) := by unfold Hid; rw [hY]; exact ((((HM1.out.other (b' := R2) (by omega) 1 (.int .i64 ZM)).other (b' := w.heap.size + 1 + 1) (by omega) 0 (.slice (some ⟨R0, 0, none⟩) 2 2)).other (b' := w.heap.size + 1 + 1) (by omega) 1 (.slice (some ⟨R1, 0, none⟩) 2 2)).other (b' := w.heap.size + 1 + 1) (by omega) 2 (.slice (some ⟨R2, 0, none⟩) 2 2))
      have NHM2 : Hid (BoxN Y_10 R2 3 [.int .i64 (nth cs 2), .int .i64 ZM]) := by unfold Hid; rw [hY]; exact ((((HM2.out.set 1 (.int .i64 ZM)).other (b' := w.heap.size + 1 + 1) (by omega) 0 (.slice (some ⟨R0, 0, none⟩) 2 2)).other (b' := w.heap.size + 1 + 1) (by omega) 1 (.slice (some ⟨R1, 0, none⟩) 2 2)).other (b' := w.heap.size + 1 + 1) (by omega) 2 (.slice (some ⟨R2, 0, none⟩) 2 2))
      have NHR : Hid (BoxN Y_10 (w.heap.size + 1 + 1) 115 [.slice (some ⟨R0, 0, none⟩) 2 2, .slice (some ⟨R1, 0, none⟩) 2 2, .slice (some ⟨R2, 0, none⟩) 2 2]) := by unfold Hid; rw [hY]; exact ((((HR.out.other (b' := R2) (by omega) 1 (.int .i64 ZM)).set 0 (.slice (some ⟨R0, 0, none⟩) 2 2)).set 1 (.slice (some ⟨R1, 0, none⟩) 2 2)).set 2 (.slice (some ⟨R2, 0, none⟩) 2 2))
      have HBF : Hid (Below w.heap.size w Y_10) := by unfold Hid; rw [hY]; exact (((((HB.out.trans (hc.mono HB.out.size)).setCell (p := ⟨R2, 1, none⟩) (by show w.heap.size ≤ R2; omega) (.int .i64 ZM)).setCell (p := ⟨w.heap.size + 1 + 1, 0, none⟩) (by show w.heap.size ≤ w.heap.size + 1 + 1; omega) (.slice (some ⟨R0, 0, none⟩) 2 2)).setCell (p := ⟨w.heap.size + 1 + 1, 1, none⟩) (by show w.heap.size ≤ w.heap.size + 1 + 1; omega) (.slice (some ⟨R1, 0, none⟩) 2 2)).setCell (p := ⟨w.heap.size + 1 + 1, 2, none⟩) (by show w.heap.size ≤ w.heap.size + 1 + 1; omega) (.slice (some ⟨R2, 0, none⟩) 2 2))
      have hcY := HSW
      rw [← hY]
      clear hY fz2 fz3
      clear HM0
      have HM0 := NHM0
      clear NHM0
      clear HM1
      have HM1 := NHM1
      clear NHM1
      clear HM2
      have HM2 := NHM2
      clear NHM2
      clear HR
      have HR := NHR
      clear NHR
      clear s0_0 s0_1 s0_2 s1_0 s1_1 m0_0 m0_1 m1_0 m1_1 m2_0 m2_1 m3_0 m3_1 m3_2 y0 y1 y2
      clear hc hsz
      have hc := hcY
      clear hcY
      have t0 := HR.out.cell (i := 0) rfl
      have t1 := HR.out.cell (i := 1) rfl
      have t2 := HR.out.cell (i := 2) rfl
      try (go_wp2_with fail)
      refine bodyPost_ret (v := .agg #[.slice (some ⟨R0, 0, none⟩) 2 2, .slice (some ⟨R1, 0, none⟩) 2 2, .slice (some ⟨R2, 0, none⟩) 2 2]) (by simp [results, Try.results150, go_sem, t0, t1, t2]) rfl ⟨(by rw [HBD.out]; exact RetD.mk (rowI HM0.out (by omega) (small_64 sXO) (small_64 sXM)) (rowI HM1.out (by omega) ⟨by omega, by omega⟩ ⟨by omega, by omega⟩) (rowI HM2.out (by omega) ⟨by omega, by omega⟩ ⟨by omega, by omega⟩)), HBF.out⟩
end Go.Proofs.Ytacpnphfopmofaa
