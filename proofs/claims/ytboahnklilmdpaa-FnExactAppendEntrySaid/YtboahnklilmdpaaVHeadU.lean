/- Walks: spec.sVerify, where the head is right. -/
import Derived.Test.YtboahnklilmdpaaGrp7U
import Derived.Test.YtboahnklilmdpaaBaU
import Derived.Test.YtboahnklilmdpaaBkU
import Derived.Test.YtboahnklilmdpaaBmU
namespace Go.Proofs.Ytboahnklilmdpaa
open Go.RowKit
set_option linter.unusedSimpArgs false
set_option linter.unusedVariables false

set_option maxRecDepth 100000 in
set_option maxHeartbeats 4000000 in
theorem spec_sVerify_yes (gr : GroupD) (s : ByteArray) (vb : Value) (bs : List (List Int)) (vi : Value) (ims : List Int) (vp : Value) (d : ProofD) (w : World) (hg : OkG gr) (hb : RdL kInts w vb bs) (hi : Ints w vi ims) (hp : (kS rProof).rd w vp d) (hok : StmtOk gr s bs ims) (hyes : vlHead gr bs d = true) :
    Calls Try.prog 324 #[.agg #[.int .i64 gr.p, .int .i64 gr.q, .int .i64 gr.g], .string s, vb, vi, vp] w fun e w' => e = .returned (.bool (vlB gr s bs ims d)) ∧ Below w.heap.size w w' := by
  have HG := Lib.hid hg; clear hg
  have HOK := Lib.hid hok; clear hok
  have HYES := Lib.hid hyes; clear hyes
  have hb1 := HOK.out.b1
  obtain ⟨ai, ni, ci, rfl⟩ := hi.shape
  have ei := hi.len
  obtain ⟨i1, i2⟩ := hi.capMax
  unfold maxLen at i2
  have HIM := Lib.hid hi; clear hi
  obtain ⟨p, q, g⟩ := gr
  obtain ⟨ac, nc, cc, ah, nh, ch, ar, nr, cr, rfl, kc, kh, kr⟩ := rdProof.1 hp
  obtain ⟨ab, nb, cb, rfl⟩ := hb.shape
  have ec := kc.len; have eh := kh.len; have er := kr.len; have eb := hb.len
  obtain ⟨b1, b2⟩ := kc.capMax
  obtain ⟨b3, b4⟩ := kh.capMax
  obtain ⟨b5, b6⟩ := kr.capMax
  obtain ⟨b7, b8⟩ := hb.capMax
  unfold maxLen at b2 b4 b6 b8
  have KC := Lib.hid kc; have KH := Lib.hid kh; have KR := Lib.hid kr; have HBS := Lib.hid hb
  clear kc kh kr hb hp
  have h0 : 0 < bs.length := by omega
  have hnb : 0 < nb := by omega
  obtain ⟨bb, oo, rfl, cs, hcx⟩ := HBS.out.at_ hnb
  obtain ⟨hy, hr0⟩ := hcx 0 h0
  rw [Nat.add_zero] at hy
  obtain ⟨a0, n0, c0', hs0⟩ := Ints.shape hr0
  rw [hs0] at hy hr0
  have e0 := Ints.len hr0
  obtain ⟨k5, k6⟩ := Ints.capMax hr0
  unfold maxLen at k6
  have e00 : headLen bs = n0 := by rw [headLen_eq h0]; exact e0
  have HHL := Lib.hid e00
  clear hcx hr0 hs0 e0
  (obtain ⟨q4, h_q⟩ : ∃ b_q, d.c.all (elB ⟨p, q, g⟩) = b_q := ⟨_, rfl⟩); have H4 := Lib.hid h_q; clear h_q
  (obtain ⟨q5, h_q⟩ : ∃ b_q, d.r.all (expB ⟨p, q, g⟩) = b_q := ⟨_, rfl⟩); have H5 := Lib.hid h_q; clear h_q
  obtain ⟨W, hW⟩ : ∃ W, W = (w.alloc (.cells #[.int .i64 p, .int .i64 q, .int .i64 g] 39)).alloc (.cells #[.slice ac nc cc, .slice ah nh ch, .slice ar nr cr] 42) := ⟨_, rfl⟩
  have HB : Hid (Below w.heap.size w W) := by unfold Hid; rw [hW]; (repeat (first | exact Below.refl _ _ | assumption | refine Below.drew ?_ | refine Below.alloc ?_ (by first | (simp; done) | (simp; omega)) _ | refine Below.setCell ?_ (by first | (simp; done) | (simp; omega)) _))
  have C0 : Hid (W.cell? ⟨w.heap.size, 0, none⟩ = some (.int .i64 p)) := by unfold Hid; rw [hW]; simp [go_sem]
  have C1 : Hid (W.cell? ⟨w.heap.size, 1, none⟩ = some (.int .i64 q)) := by unfold Hid; rw [hW]; simp [go_sem]
  have C2 : Hid (W.cell? ⟨w.heap.size, 2, none⟩ = some (.int .i64 g)) := by unfold Hid; rw [hW]; simp [go_sem]
  have D0 : Hid (W.cell? ⟨w.heap.size + 1, 0, none⟩ = some (.slice ac nc cc)) := by unfold Hid; rw [hW]; simp [go_sem]
  have D1 : Hid (W.cell? ⟨w.heap.size + 1, 1, none⟩ = some (.slice ah nh ch)) := by unfold Hid; rw [hW]; simp [go_sem]
  have D2 : Hid (W.cell? ⟨w.heap.size + 1, 2, none⟩ = some (.slice ar nr cr)) := by unfold Hid; rw [hW]; simp [go_sem]
  have HY := Lib.hid (box_at hy HB.out)
  clear hy
  have HWW := Lib.hid hW; clear hW
  obtain ⟨x1, x2, x3, x4, x5⟩ := vlHead_parts HYES.out
  obtain ⟨sd, sl⟩ := stmt_digests HG.out HOK.out HYES.out
  have HSL := Lib.hid sl
  have HCH : Hid (chB ⟨p, q, g⟩ s (bs.flatten ++ ims ++ d.c) = true) := chB_yes HG.out sd HOK.out.s40 (by omega)
  have HCI := Lib.hid (chI_yes HCH.out)
  have hebnd := chV_bd HG.out s (bs.flatten ++ ims ++ d.c)
  obtain ⟨E, hE⟩ : ∃ E, chV ⟨p, q, g⟩ s (bs.flatten ++ ims ++ d.c) = E := ⟨_, rfl⟩
  have HE := Lib.hid hE
  rw [hE] at HCI hebnd
  obtain ⟨E0, E1⟩ := hebnd
  simp only [] at E1
  have hq2 := HG.out.q2; have hp2 := HG.out.p2
  simp only [] at hq2 hp2
  have HRES : Hid (vlB ⟨p, q, g⟩ s bs ims d = ((nth d.h 0 == E) && (List.range nb).all (vlEq ⟨p, q, g⟩ bs ims d E))) := by
    unfold Hid vlB vlE; rw [HYES.out, hE, eb]; rfl
  rw [HRES.out]
  obtain rfl : q4 = true := by rw [← H4.out]; exact x4
  obtain rfl : q5 = true := by rw [← H5.out]; exact x5
  obtain rfl : nc = nb := by omega
  obtain rfl : nh = 1 := by omega
  obtain rfl : nr = n0 := by omega
  have HIL : Hid (ims.length = nc) := by unfold Hid; rw [HOK.out.len]; exact eb
  obtain rfl : nc = ni := by have := HIL.out; omega
  have HCL := Lib.hid ec; have HRL := Lib.hid er; have HBL := Lib.hid eb
  have HHLn := Lib.hid eh
  have hn8 : nc ≤ 8 := by have := HOK.out.b8; omega
  clear x1 x2 x3 x4 x5 sd sl hE ec eh er eb e00 ei
  obtain ⟨hk, oh, hah, hcx⟩ := KH.out.at_ (by omega)
  subst hah
  have hyh := hcx 0 (by omega)
  rw [Nat.add_zero] at hyh
  have HYH := Lib.hid (box_at hyh HB.out)
  clear hcx hyh
  obtain ⟨x, hx⟩ : ∃ x, nth d.h 0 = x := ⟨_, rfl⟩
  rw [hx] at HYH ⊢
  clear hx HRES
  have z1 : ((nc : Int) != (nc : Int)) = false := by simp
  have z3 : ((nr : Int) != (nr : Int)) = false := by simp
  go_enter Try.func324, Try.ntmps324
  go_wp2_with fail
  rw [← HWW.out]
  clear HWW
  have g0 := fun u => grow_cell C0.out u
  have g1 := fun u => grow_cell C1.out u
  have g2 := fun u => grow_cell C2.out u
  have g3 := fun u => grow_cell D0.out u
  have g4 := fun u => grow_cell D1.out u
  have g5 := fun u => grow_cell D2.out u
  have g6 := fun u => grow_cell HY.out u
  (refine wp_region_grow (by kernel_rfl) (by kernel_rfl) ?_; (repeat (go_big_quiet_step ((first | (go_at_call 202; refine calls_grow (spec_gIs ⟨p, q, g⟩ _ d.c _ HG.out ((KC.out.below HB.out).below (grow_below _ _))) (fun e w' h => ⟨by rw [h.1, H4.out], h.2⟩)) | (go_at_call 144; refine calls_grow (spec_gExps ⟨p, q, g⟩ _ d.r _ HG.out ((KR.out.below HB.out).below (grow_below _ _))) (fun e w' h => ⟨by rw [h.1, H5.out], h.2⟩)) | fail)))); refine wpQuiet_nil ?_; intro _ hw'; obtain ⟨uq, hw''⟩ := hw'; subst hw''; have hbq := grow_below W uq; generalize grow W uq = wq at hbq ⊢)
  have HBQ := Lib.hid hbq
  have HBW := Lib.hid (Below.next HB.out hbq)
  have d0 := box_at C0.out hbq
  have d1 := box_at C1.out hbq
  have d2 := box_at C2.out hbq
  have f0 := box_at D0.out hbq
  have f1 := box_at D1.out hbq
  have f2 := box_at D2.out hbq
  have yh := box_at HYH.out hbq
  clear hbq g0 g1 g2 g3 g4 g5 g6 z1 z3
  go_wp2_with fail
  have hsQ := HBW.out.size
  have HYF := Lib.hid (box_at HY.out HBQ.out)
  have HRB : Hid (RdL kInts wq (.slice (some ⟨bb, oo, none⟩) nc cb) bs) := kRows.rd_below HBS.out HBW.out
  have HRI : Hid (Ints wq (.slice ai nc ci) ims) := HIM.out.below HBW.out
  have HRC : Hid (Ints wq (.slice ac nc cc) d.c) := Ints.below KC.out HBW.out
  have HRR : Hid (Ints wq (.slice ar nr cr) d.r) := Ints.below KR.out HBW.out
  have HTB : Hid (total bs ≤ 64) := HOK.out.total
  obtain ⟨sd, _⟩ := stmt_digests HG.out HOK.out HYES.out
  have HSD := Lib.hid sd; clear sd
  clear h0 hb1 C0 C1 C2 D0 D1 D2 HY HYH
  have hx1 : (0 : Int) < 1 := by omega
  have HIL8 : Hid (ims.length ≤ 8) := by have := HIL.out; unfold Hid; omega
  have HCL8 : Hid (d.c.length ≤ 8) := by have := HCL.out; unfold Hid; omega
  go_wp2_with fail
  go_region_held3 (fun w' => Below wq.heap.size wq w' ∧ w'.cell? ⟨w.heap.size, 0, none⟩ = some (.int .i64 p) ∧ w'.cell? ⟨w.heap.size, 1, none⟩ = some (.int .i64 q) ∧ w'.cell? ⟨w.heap.size, 2, none⟩ = some (.int .i64 g) ∧ w'.cell? ⟨w.heap.size + 1, 0, none⟩ = some (.slice ac nc cc)) (first | (have hbq : Below wq.heap.size wq _ := (Below.refl _ _).drew; exact ⟨hbq, box_at d0 hbq, box_at d1 hbq, box_at d2 hbq, box_at f0 hbq⟩) | (refine (fun (hbq : Below wq.heap.size wq _) => ⟨hbq, box_at d0 hbq, box_at d1 hbq, box_at d2 hbq, box_at f0 hbq⟩) ?_; exact keep_b (by with_reducible assumption) (And.left (by assumption))) | assumption | fail) ((first
    | (go_at_call 334; refine (spec_sStatement _ bs _ _ ims d.c _ (kRows.rd_below HRB.out (And.left (by assumption))) (HRI.out.below (And.left (by assumption))) (HRC.out.below (And.left (by assumption))) (by have := HTB.out; omega) (by have := HIL8.out; omega) (by have := HCL8.out; omega)).mono ?_; rintro e w1 ⟨v1, rfl, ho1, hb1⟩; (have HO1 := Lib.hid ho1); clear ho1)
    | (go_at_call 277; refine (spec_hChallenge ⟨p, q, g⟩ s _ (bs.flatten ++ ims ++ d.c) _ HG.out HO1.out.ints (by have := HOK.out.s40; omega) (by have := HSL.out; omega) HSD.out).mono ?_; rintro e w3 ⟨rfl, hb3⟩; rw [HE.out])
    | fail))
  have HBX := Lib.hid (‹Below wq.heap.size wq _ ∧ _›).1
  replace d0 := box_at d0 HBX.out
  replace d1 := box_at d1 HBX.out
  replace d2 := box_at d2 HBX.out
  replace f0 := box_at f0 HBX.out
  replace f1 := box_at f1 HBX.out
  replace f2 := box_at f2 HBX.out
  replace yh := box_at yh HBX.out
  have HBY := Lib.hid (Below.next HBW.out HBX.out)
  clear hsQ HO1
  by_cases hxe : x = E
  rotate_left
  · have hxb : (x != E) = true := by rw [bne_iff_ne]; exact hxe
    have HX : Hid ((x == E) = false) := by unfold Hid; rw [beq_eq_false_iff_ne]; exact hxe
    clear hxe
    go_wp2_with fail
    go_ret
    exact ⟨ret_bool (by rw [HX.out]; rfl), HBY.out⟩
  · obtain rfl : E = x := hxe.symm
    have hxb : (E != E) = false := by simp
    have HX : Hid ((E == E) = true) := by unfold Hid; simp
    have HRW : Hid (∀ r ∈ bs, r.length ≤ d.r.length ∧ AllSmall r) := fun r hr => by
      have h1 := HOK.out.rows r hr
      have h2 := HRL.out; have h3 := HHL.out
      exact ⟨by omega, h1.2⟩
    go_wp2_with fail
    go_loopg [66] nc (fun gh iv wr => ∃ k : Nat, k + gh = nc ∧ iv = .int .i64 k ∧ Hid (∀ j, j < k → vlEq ⟨p, q, g⟩ bs ims d E j = true) ∧ Below w3.heap.size w3 wr)
    case atStart => exact ⟨0, by omega, rfl, fun j hj => by omega, Below.refl _ _⟩
    case round =>
      obtain ⟨k, hk', rfl, HF, hbw⟩ := hrel
      have HBR := Lib.hid (Below.next HBY.out hbw)
      by_cases hlt : k < nc
      · have HKB : Hid (k < bs.length) := by have := HBL.out; unfold Hid; omega
        obtain ⟨bb', oo', e', cs', hcx⟩ := (kRows.rd_below HBS.out HBR.out).at_ (by omega)
        cases e'
        obtain ⟨yk, hry⟩ := hcx k HKB.out
        have hry' : Ints wr (cs' k) (bs[k]'HKB.out) := hry
        obtain ⟨ark, nrk, crk, hcs⟩ := hry'.shape
        rw [hcs] at yk hry'
        have HRK := Lib.hid hry'
        have hrw := HRW.out _ (List.getElem_mem HKB.out)
        have HRL1 := Lib.hid hrw.1; have HRL2 := Lib.hid hrw.2
        have HGD : Hid (bs.getD k [] = bs[k]'HKB.out) := by unfold Hid; rw [List.getD_eq_getElem?_getD, List.getElem?_eq_getElem HKB.out]; rfl
        clear hcs hry hry' hrw
        obtain ⟨bc, oc, rfl, hcc⟩ := (KC.out.below HBR.out).at_ (by omega)
        have yc := hcc k hlt
        obtain ⟨bi, oi, rfl, hci⟩ := (HIM.out.below HBR.out).at_ (by omega)
        have yi := hci k hlt
        have HSI := Lib.hid (HOK.out.small.at_ k)
        have HSC := Lib.hid ((all_small HG.out H4.out).at_ k)
        have HVE : Hid (vlEq ⟨p, q, g⟩ bs ims d E k = (prodL ⟨p, q, g⟩ (bs.getD k []) d.r == mulL ⟨p, q, g⟩ [nth d.c k, powE ⟨p, q, g⟩ (nth ims k) E])) := rfl
        have hpb := prodL_bd HG.out (bs.getD k []) d.r
        have hwb := powE_bd HG.out (nth ims k) E
        simp only [] at hpb hwb
        rw [HGD.out] at HVE hpb
        clear hcx hcc hci
        generalize bs[k]'HKB.out = row at HVE hpb HRK HRL1 HRL2 HGD
        obtain ⟨u, hu⟩ : ∃ u, prodL ⟨p, q, g⟩ row d.r = u := ⟨_, rfl⟩
        rw [hu] at HVE hpb
        have HU := Lib.hid hu; clear hu
        generalize nth ims k = y at yi HSI HVE hwb
        generalize nth d.c k = c at yc HSC HVE
        obtain ⟨z, hz⟩ : ∃ z, powE ⟨p, q, g⟩ y E = z := ⟨_, rfl⟩
        rw [hz] at HVE hwb
        have HZ := Lib.hid hz; clear hz
        obtain ⟨m, hm⟩ : ∃ m, mulL ⟨p, q, g⟩ [c, z] = m := ⟨_, rfl⟩
        rw [hm] at HVE
        have HM := Lib.hid hm; clear hm
        have HSM : Hid (AllSmall [c, z]) := fun t ht => by
          simp at ht
          rcases ht with rfl | rfl
          · exact HSC.out
          · exact ⟨by omega, by omega⟩
        obtain ⟨c1, c2⟩ := HSC.out
        have HEI : Hid (I64 E) := ⟨by omega, by omega⟩
        have HCI6 : Hid (I64 c) := ⟨by omega, by omega⟩
        have HZI6 : Hid (I64 z) := ⟨by omega, by omega⟩
        replace d0 := box_at d0 hbw
        replace d1 := box_at d1 hbw
        replace d2 := box_at d2 hbw
        replace f0 := box_at f0 hbw
        replace f2 := box_at f2 hbw
        have HBW2 := Lib.hid hbw
        clear hbw
        have k0 : (0 : Int) ≤ (k : Int) := by omega
        have k1' : (k : Int) < (nc : Int) := by omega
        by_cases hum : u = m
        · have hub : (u != m) = false := by rw [hum]; simp
          have HUM : Hid ((u == m) = true) := by unfold Hid; rw [hum]; simp
          clear hum
          go_wp2_with fail
          go_region_held3 (fun w' => Below wr.heap.size wr w' ∧ w'.cell? ⟨w.heap.size, 0, none⟩ = some (.int .i64 p) ∧ w'.cell? ⟨w.heap.size, 1, none⟩ = some (.int .i64 q) ∧ w'.cell? ⟨w.heap.size, 2, none⟩ = some (.int .i64 g) ∧ w'.cell? ⟨w.heap.size + 1, 0, none⟩ = some (.slice (some ⟨bc, oc, none⟩) nc cc) ∧ w'.cell? ⟨w.heap.size + 1, 2, none⟩ = some (.slice ar nr cr) ∧ w'.cell? ⟨bc, oc + k, none⟩ = some (.int .i64 c) ∧ w'.cell? ⟨bi, oi + k, none⟩ = some (.int .i64 y)) (first | (have hbq : Below wr.heap.size wr _ := (Below.refl _ _).drew; exact ⟨hbq, box_at d0 hbq, box_at d1 hbq, box_at d2 hbq, box_at f0 hbq, box_at f2 hbq, box_at yc hbq, box_at yi hbq⟩) | (refine (fun (hbq : Below wr.heap.size wr _) => ⟨hbq, box_at d0 hbq, box_at d1 hbq, box_at d2 hbq, box_at f0 hbq, box_at f2 hbq, box_at yc hbq, box_at yi hbq⟩) ?_; exact keep_b (by with_reducible assumption) (And.left (by assumption))) | (refine (fun (hbq : Below wr.heap.size wr _) => ⟨hbq, box_at d0 hbq, box_at d1 hbq, box_at d2 hbq, box_at f0 hbq, box_at f2 hbq, box_at yc hbq, box_at yi hbq⟩) ?_; exact keep_al (And.left (by assumption)) _) | assumption | fail) ((first
            | (go_at_call 273; refine (spec_gProd ⟨p, q, g⟩ _ _ row d.r _ HG.out (HRK.out.below (And.left (by assumption))) (Ints.below (Ints.below KR.out HBR.out) (And.left (by assumption))) HRL2.out HRL1.out).mono ?_; rintro e w7 ⟨rfl, hb7⟩; rw [HU.out])
            | (go_at_call 156; refine (spec_gExp ⟨p, q, g⟩ y E _ HG.out HSI.out HEI.out).mono ?_; rintro e w5 ⟨rfl, hb5⟩; rw [HZ.out])
            | (go_at_call 211; ((with_reducible refine (spec_gMul ⟨p, q, g⟩ _ [c, z] _ HG.out (Ints.lit2 _ HCI6.out HZI6.out) HSM.out).mono ?_); rintro e w6 ⟨rfl, hb6⟩); rw [HM.out])
            | fail))
          all_goals have HBZ := (‹Below wr.heap.size wr _ ∧ _›).1
          all_goals go_wp2_with fail
          all_goals go_roundg (nc - (k + 1))
          case' measure => omega
          all_goals first
            | omega
            | skip
          all_goals
            refine ⟨k + 1, by omega, by go_num, fun j hj => ?_, Below.next HBW2.out HBZ⟩
            rcases Nat.lt_succ_iff_lt_or_eq.1 hj with h | rfl
            · exact HF.out j h
            · rw [HVE.out, HUM.out]
        · have hub : (u != m) = true := by rw [bne_iff_ne]; exact hum
          have HNO : Hid (((E == E) && (List.range nc).all (vlEq ⟨p, q, g⟩ bs ims d E)) = false) := by
            unfold Hid
            rw [range_all_false hlt (by rw [HVE.out, beq_eq_false_iff_ne]; exact hum), Bool.and_false]
          clear hum
          go_wp2_with fail
          go_region_held3 (fun w' => Below wr.heap.size wr w' ∧ w'.cell? ⟨w.heap.size, 0, none⟩ = some (.int .i64 p) ∧ w'.cell? ⟨w.heap.size, 1, none⟩ = some (.int .i64 q) ∧ w'.cell? ⟨w.heap.size, 2, none⟩ = some (.int .i64 g) ∧ w'.cell? ⟨w.heap.size + 1, 0, none⟩ = some (.slice (some ⟨bc, oc, none⟩) nc cc) ∧ w'.cell? ⟨w.heap.size + 1, 2, none⟩ = some (.slice ar nr cr) ∧ w'.cell? ⟨bc, oc + k, none⟩ = some (.int .i64 c) ∧ w'.cell? ⟨bi, oi + k, none⟩ = some (.int .i64 y)) (first | (have hbq : Below wr.heap.size wr _ := (Below.refl _ _).drew; exact ⟨hbq, box_at d0 hbq, box_at d1 hbq, box_at d2 hbq, box_at f0 hbq, box_at f2 hbq, box_at yc hbq, box_at yi hbq⟩) | (refine (fun (hbq : Below wr.heap.size wr _) => ⟨hbq, box_at d0 hbq, box_at d1 hbq, box_at d2 hbq, box_at f0 hbq, box_at f2 hbq, box_at yc hbq, box_at yi hbq⟩) ?_; exact keep_b (by with_reducible assumption) (And.left (by assumption))) | (refine (fun (hbq : Below wr.heap.size wr _) => ⟨hbq, box_at d0 hbq, box_at d1 hbq, box_at d2 hbq, box_at f0 hbq, box_at f2 hbq, box_at yc hbq, box_at yi hbq⟩) ?_; exact keep_al (And.left (by assumption)) _) | assumption | fail) ((first
            | (go_at_call 273; refine (spec_gProd ⟨p, q, g⟩ _ _ row d.r _ HG.out (HRK.out.below (And.left (by assumption))) (Ints.below (Ints.below KR.out HBR.out) (And.left (by assumption))) HRL2.out HRL1.out).mono ?_; rintro e w7 ⟨rfl, hb7⟩; rw [HU.out])
            | (go_at_call 156; refine (spec_gExp ⟨p, q, g⟩ y E _ HG.out HSI.out HEI.out).mono ?_; rintro e w5 ⟨rfl, hb5⟩; rw [HZ.out])
            | (go_at_call 211; ((with_reducible refine (spec_gMul ⟨p, q, g⟩ _ [c, z] _ HG.out (Ints.lit2 _ HCI6.out HZI6.out) HSM.out).mono ?_); rintro e w6 ⟨rfl, hb6⟩); rw [HM.out])
            | fail))
          all_goals have HBZ := (‹Below wr.heap.size wr _ ∧ _›).1
          all_goals go_wp2_with fail
          all_goals go_ret
          all_goals exact ⟨ret_bool (by first | (rw [HNO.out]; done) | (rw [HNO.out]; rfl) | exact HNO.out.symm), Below.next HBR.out HBZ⟩
      · obtain rfl : nc = k := by omega
        have HA : Hid (((E == E) && (List.range nc).all (vlEq ⟨p, q, g⟩ bs ims d E)) = true) := by
          unfold Hid
          rw [HX.out, range_all_true (fun j hj => HF.out j hj)]; rfl
        clear hbw
        go_wp2_with fail
        go_ret
        exact ⟨ret_bool (by first | (rw [HA.out]; done) | (rw [HA.out]; rfl) | exact HA.out.symm), HBR.out⟩
theorem spec_sVerify (gr : GroupD) (s : ByteArray) (vb : Value) (bs : List (List Int)) (vi : Value) (ims : List Int) (vp : Value) (d : ProofD) (w : World) (hg : OkG gr) (hb : RdL kInts w vb bs) (hi : Ints w vi ims) (hp : (kS rProof).rd w vp d) (hok : StmtOk gr s bs ims) :
    Calls Try.prog 324 #[.agg #[.int .i64 gr.p, .int .i64 gr.q, .int .i64 gr.g], .string s, vb, vi, vp] w fun e w' => e = .returned (.bool (vlB gr s bs ims d)) ∧ Below w.heap.size w w' := by
  cases hh : vlHead gr bs d with
  | true => exact spec_sVerify_yes gr s vb bs vi ims vp d w hg hb hi hp hok hh
  | false => rw [vlB_no hh]; exact spec_sVerify_no gr s vb bs vi vp d w hg hb hp hok.b1 hh
end Go.Proofs.Ytboahnklilmdpaa
namespace Go.Proofs.Ytboahnklilmdpaa
open Go.RowKit
set_option linter.unusedSimpArgs false
set_option linter.unusedVariables false

/-- the label of a signature -/
def sgLabel (s : ByteArray) (d : Int) : ByteArray := s ++ dText d
theorem sgLabel_size (s : ByteArray) (d : Int) : (sgLabel s d).size = s.size + 16 := by
  unfold sgLabel; rw [ByteArray.size_append, dText_size]
theorem impl_signLabel (s : ByteArray) (d : Int) (w : World) (hd : digestB d = true) (hs : s.size ≤ 1000) :
    Calls Try.prog 329 #[.string s, .int .i64 d] w fun e w' => e = .returned (.string (sgLabel s d)) ∧ Below w.heap.size w w' := by
  have HD := Lib.hid hd; clear hd
  have HS : Hid (s ++ dText d = sgLabel s d) := rfl
  go_enter Try.func329, Try.ntmps329
  go_wp2_with fail
  refine (impl_DigestText d _ HD.out).mono ?_
  rintro e w1 ⟨rfl, hb⟩
  have hsz : s.size + (dText d).size ≤ 9223372036854775807 := by rw [dText_size]; omega
  go_wp2_with fail
  go_ret
  exact ⟨by rw [← HS.out]; rfl, hb⟩
theorem spec_oText (d : Int) (w : World) (hd : digestB d = true) :
    Calls Try.prog 325 #[.int .i64 d] w fun e w' => e = .returned (.string (dText d)) ∧ Below w.heap.size w w' := by
  have HD := Lib.hid hd; clear hd
  go_enter Try.func325, Try.ntmps325
  go_wp2_with fail
  refine (spec_DigestText d _ HD.out).mono ?_
  rintro e w1 ⟨rfl, hb⟩
  go_wp2_with fail
  go_ret
  exact ⟨rfl, hb⟩
attribute [irreducible] sgLabel
def sHead : ByteArray := ⟨#[104, 101, 97, 100]⟩
def sHeadSp : ByteArray := ⟨#[104, 101, 97, 100, 32]⟩
def hdD (a s r : Int) : Int := hashOf (lab sHead ++ [a, s, r])
def hdLabel (a s r : Int) : ByteArray := sgLabel sHeadSp (hdD a s r)
attribute [irreducible] hdLabel
theorem Ints.lit1' (w : World) {g : Nat} (hg : g = w.heap.size) {x : Int} (h : I64 x) : Ints (w.alloc (.cells #[.int .i64 x] 3)) (.slice (some ⟨g, 0, none⟩) 1 1) [x] := hg ▸ Ints.lit1 w h
theorem rd1 (W : World) {g : Nat} (hg : g = W.heap.size) {v1 : Value} {l1 : List Int} (h1 : Ints (W.alloc (.cells #[v1] 24)) v1 l1) : RdL kInts (W.alloc (.cells #[v1] 24)) (.slice (some ⟨g, 0, none⟩) 1 1) [l1] := by
  subst hg
  refine ⟨some ⟨W.heap.size, 0, none⟩, 1, 1, rfl, rfl, Nat.le_refl _, by unfold maxLen; omega, .inr (.inr ⟨W.heap.size, 0, rfl, fun i => v1, fun i hi => ?_⟩)⟩
  simp only [List.length_cons, List.length_nil] at hi
  obtain rfl : i = 0 := by omega
  exact ⟨by simp [go_sem], h1⟩
theorem stmt1 {gr : GroupD} (hg : OkG gr) {s : ByteArray} {key : Int} (hs : s.size ≤ 40) (hk : elB gr key = true) : StmtOk gr s [[gr.g]] [key] := by
  refine ⟨hs, by simp, by simp, by simp [headLen], fun r hr => ?_, by simp, fun x hx => ?_⟩
  · simp at hr; subst hr
    refine ⟨rfl, fun x hx => ?_⟩
    simp at hx; subst hx
    have := hg.g1; have := hg.g2; have := hg.p2
    exact ⟨by omega, by omega⟩
  · simp at hx; subst hx; exact elB_small hg hk
set_option maxRecDepth 100000 in
set_option maxHeartbeats 2000000 in
theorem impl_isSigned (gr : GroupD) (s : ByteArray) (key : Int) (v : Value) (d : ProofD) (w : World) (hg : OkG gr) (hs : s.size ≤ 40) (hk : elB gr key = true) (h : (kS rProof).rd w v d) :
    Calls Try.prog 328 #[.agg #[.int .i64 gr.p, .int .i64 gr.q, .int .i64 gr.g], .string s, .int .i64 key, v] w fun e w' => e = .returned (.bool (vlB gr s [[gr.g]] [key] d)) ∧ Below w.heap.size w w' := by
  have HG := Lib.hid hg
  have HST := Lib.hid (stmt1 hg hs hk)
  obtain ⟨k0, k1⟩ := elB_small hg hk
  have g1 := hg.g1; have g2 := hg.g2; have p2 := hg.p2
  clear hg hk
  obtain ⟨ad_0, nd_0, cd_0, ad_1, nd_1, cd_1, ad_2, nd_2, cd_2, rfl, kd_0, kd_1, kd_2⟩ := rdProof.1 h
  obtain ⟨W, hW⟩ : ∃ W, W = ((w.alloc (.cells #[.int .i64 gr.p, .int .i64 gr.q, .int .i64 gr.g] 39)).alloc (.cells #[.slice ad_0 nd_0 cd_0, .slice ad_1 nd_1 cd_1, .slice ad_2 nd_2 cd_2] 42)) := ⟨_, rfl⟩
  have HWB : Hid (Below w.heap.size w W) := by unfold Hid; rw [hW]; (repeat (first | exact Below.refl _ _ | assumption | refine Below.drew ?_ | refine Below.alloc ?_ (by first | (simp; done) | (simp; omega)) _ | refine Below.setCell ?_ (by first | (simp; done) | (simp; omega)) _))
  have FX : Hid (∀ W', Below W.heap.size W W' → W'.cell? ⟨w.heap.size, 0, none⟩ = some (.int .i64 gr.p) ∧ W'.cell? ⟨w.heap.size, 1, none⟩ = some (.int .i64 gr.q) ∧ W'.cell? ⟨w.heap.size, 2, none⟩ = some (.int .i64 gr.g) ∧ W'.cell? ⟨w.heap.size + 1, 0, none⟩ = some (.slice ad_0 nd_0 cd_0) ∧ W'.cell? ⟨w.heap.size + 1, 1, none⟩ = some (.slice ad_1 nd_1 cd_1) ∧ W'.cell? ⟨w.heap.size + 1, 2, none⟩ = some (.slice ad_2 nd_2 cd_2)) := fun W' hb => by
    exact ⟨box_at (by rw [hW]; simp [go_sem]) hb, box_at (by rw [hW]; simp [go_sem]) hb, box_at (by rw [hW]; simp [go_sem]) hb, box_at (by rw [hW]; simp [go_sem]) hb, box_at (by rw [hW]; simp [go_sem]) hb, box_at (by rw [hW]; simp [go_sem]) hb⟩
  have hsW : W.heap.size = w.heap.size + 2 := by rw [hW]; simp
  have Hd := Lib.hid ((kS rProof).rd_below h HWB.out); clear h
  have F_d_c := Lib.hid (sInts.rd_below kd_0 HWB.out)
  have F_d_h := Lib.hid (sInts.rd_below kd_1 HWB.out)
  have F_d_r := Lib.hid (sInts.rd_below kd_2 HWB.out)
  clear kd_0 kd_1 kd_2
  have HW := Lib.hid hW; clear hW
  obtain ⟨p, q, g⟩ := gr
  simp only [] at g1 g2 p2
  go_enter Try.func328, Try.ntmps328
  go_wp2_with fail
  rw [← HW.out]
  have hcum : Below W.heap.size W W := Below.refl _ _
  obtain ⟨p0_0, p0_1, p0_2, p1_0, p1_1, p1_2⟩ := FX.out _ hcum
  refine (impl_verifyLinear ⟨p, q, g⟩ s _ [[g]] _ [key] _ d _ HG.out ?_ ?_ ?_ HST.out).mono ?_
  · refine kRows.rd_below (rd1 (W.alloc (.cells #[.int .i64 g] 3)) (by simp; omega) ?_) ((Below.refl _ _).alloc (Nat.le_refl _) _)
    exact (Ints.lit1' W (by omega) ⟨by omega, by omega⟩).alloc _
  · exact Ints.lit1' _ (by simp; omega) ⟨by omega, by omega⟩
  · exact (kS rProof).rd_below Hd.out (by (repeat (first | exact Below.refl _ _ | assumption | refine Below.drew ?_ | refine Below.alloc ?_ (by first | (simp; done) | (simp; omega)) _ | refine Below.setCell ?_ (by first | (simp; done) | (simp; omega)) _)))
  · rintro e w1 ⟨rfl, hb⟩
    have HB : Hid (Below W.heap.size W w1) := (by (repeat (first | exact Below.refl _ _ | assumption | refine Below.drew ?_ | refine Below.alloc ?_ (by first | (simp; done) | (simp; omega)) _ | refine Below.setCell ?_ (by first | (simp; done) | (simp; omega)) _)) : Below W.heap.size W (((W.alloc (.cells #[.int .i64 g] 3)).alloc _).alloc _)).trans (hb.mono (by simp; omega))
    go_wp2_with fail
    go_ret
    exact ⟨rfl, Below.next HWB.out HB.out⟩
set_option maxRecDepth 100000 in
set_option maxHeartbeats 2000000 in
theorem spec_oSigned (gr : GroupD) (s : ByteArray) (key : Int) (v : Value) (d : ProofD) (w : World) (hg : OkG gr) (hs : s.size ≤ 40) (hk : elB gr key = true) (h : (kS rProof).rd w v d) :
    Calls Try.prog 302 #[.agg #[.int .i64 gr.p, .int .i64 gr.q, .int .i64 gr.g], .string s, .int .i64 key, v] w fun e w' => e = .returned (.bool (vlB gr s [[gr.g]] [key] d)) ∧ Below w.heap.size w w' := by
  have HG := Lib.hid hg
  have HST := Lib.hid (stmt1 hg hs hk)
  obtain ⟨k0, k1⟩ := elB_small hg hk
  have g1 := hg.g1; have g2 := hg.g2; have p2 := hg.p2
  clear hg hk
  obtain ⟨ad_0, nd_0, cd_0, ad_1, nd_1, cd_1, ad_2, nd_2, cd_2, rfl, kd_0, kd_1, kd_2⟩ := rdProof.1 h
  obtain ⟨W, hW⟩ : ∃ W, W = ((w.alloc (.cells #[.int .i64 gr.p, .int .i64 gr.q, .int .i64 gr.g] 39)).alloc (.cells #[.slice ad_0 nd_0 cd_0, .slice ad_1 nd_1 cd_1, .slice ad_2 nd_2 cd_2] 42)) := ⟨_, rfl⟩
  have HWB : Hid (Below w.heap.size w W) := by unfold Hid; rw [hW]; (repeat (first | exact Below.refl _ _ | assumption | refine Below.drew ?_ | refine Below.alloc ?_ (by first | (simp; done) | (simp; omega)) _ | refine Below.setCell ?_ (by first | (simp; done) | (simp; omega)) _))
  have FX : Hid (∀ W', Below W.heap.size W W' → W'.cell? ⟨w.heap.size, 0, none⟩ = some (.int .i64 gr.p) ∧ W'.cell? ⟨w.heap.size, 1, none⟩ = some (.int .i64 gr.q) ∧ W'.cell? ⟨w.heap.size, 2, none⟩ = some (.int .i64 gr.g) ∧ W'.cell? ⟨w.heap.size + 1, 0, none⟩ = some (.slice ad_0 nd_0 cd_0) ∧ W'.cell? ⟨w.heap.size + 1, 1, none⟩ = some (.slice ad_1 nd_1 cd_1) ∧ W'.cell? ⟨w.heap.size + 1, 2, none⟩ = some (.slice ad_2 nd_2 cd_2)) := fun W' hb => by
    exact ⟨box_at (by rw [hW]; simp [go_sem]) hb, box_at (by rw [hW]; simp [go_sem]) hb, box_at (by rw [hW]; simp [go_sem]) hb, box_at (by rw [hW]; simp [go_sem]) hb, box_at (by rw [hW]; simp [go_sem]) hb, box_at (by rw [hW]; simp [go_sem]) hb⟩
  have hsW : W.heap.size = w.heap.size + 2 := by rw [hW]; simp
  have Hd := Lib.hid ((kS rProof).rd_below h HWB.out); clear h
  have F_d_c := Lib.hid (sInts.rd_below kd_0 HWB.out)
  have F_d_h := Lib.hid (sInts.rd_below kd_1 HWB.out)
  have F_d_r := Lib.hid (sInts.rd_below kd_2 HWB.out)
  clear kd_0 kd_1 kd_2
  have HW := Lib.hid hW; clear hW
  obtain ⟨p, q, g⟩ := gr
  simp only [] at g1 g2 p2
  go_enter Try.func302, Try.ntmps302
  go_wp2_with fail
  rw [← HW.out]
  have hcum : Below W.heap.size W W := Below.refl _ _
  obtain ⟨p0_0, p0_1, p0_2, p1_0, p1_1, p1_2⟩ := FX.out _ hcum
  refine (spec_sVerify ⟨p, q, g⟩ s _ [[g]] _ [key] _ d _ HG.out ?_ ?_ ?_ HST.out).mono ?_
  · refine kRows.rd_below (rd1 (W.alloc (.cells #[.int .i64 g] 3)) (by simp; omega) ?_) ((Below.refl _ _).alloc (Nat.le_refl _) _)
    exact (Ints.lit1' W (by omega) ⟨by omega, by omega⟩).alloc _
  · exact Ints.lit1' _ (by simp; omega) ⟨by omega, by omega⟩
  · exact (kS rProof).rd_below Hd.out (by (repeat (first | exact Below.refl _ _ | assumption | refine Below.drew ?_ | refine Below.alloc ?_ (by first | (simp; done) | (simp; omega)) _ | refine Below.setCell ?_ (by first | (simp; done) | (simp; omega)) _)))
  · rintro e w1 ⟨rfl, hb⟩
    have HB : Hid (Below W.heap.size W w1) := (by (repeat (first | exact Below.refl _ _ | assumption | refine Below.drew ?_ | refine Below.alloc ?_ (by first | (simp; done) | (simp; omega)) _ | refine Below.setCell ?_ (by first | (simp; done) | (simp; omega)) _)) : Below W.heap.size W (((W.alloc (.cells #[.int .i64 g] 3)).alloc _).alloc _)).trans (hb.mono (by simp; omega))
    go_wp2_with fail
    go_ret
    exact ⟨rfl, Below.next HWB.out HB.out⟩
end Go.Proofs.Ytboahnklilmdpaa
