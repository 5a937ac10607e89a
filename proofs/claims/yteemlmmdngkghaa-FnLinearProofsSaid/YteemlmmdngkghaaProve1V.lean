/- Walks: spec.sVerify, where the head is right. -/
import Derived.Test.YteemlmmdngkghaaGrp7V
import Derived.Deep.RegionLaw
import Derived.Test.YteemlmmdngkghaaDrG0V
namespace Go.Proofs.Yteemlmmdngkghaa
open Go.RowKit
set_option linter.unusedSimpArgs false
set_option linter.unusedVariables false

set_option maxRecDepth 100000 in
set_option maxHeartbeats 4000000 in
theorem spec_sVerify_yes (gr : GroupD) (s : ByteArray) (vb : Value) (bs : List (List Int)) (vi : Value) (ims : List Int) (vp : Value) (d : ProofD) (w : World) (hg : OkG gr) (hb : RdL kInts w vb bs) (hi : Ints w vi ims) (hp : (kS rProof).rd w vp d) (hok : StmtOk gr s bs ims) (hyes : vlHead gr bs d = true) :
    Calls Try.prog 141 #[.agg #[.int .i64 gr.p, .int .i64 gr.q, .int .i64 gr.g], .string s, vb, vi, vp] w fun e w' => e = .returned (.bool (vlB gr s bs ims d)) ∧ Below w.heap.size w w' := by
  have HG := Lib.hid hg; clear hg
  have HOK := Lib.hid hok; clear hok
  have HYES := Lib.hid hyes; clear hyes
  have hb1 := HOK.out.b1
  obtain ⟨ai, ni, ci, rfl⟩ := hi.shape
  have ei := hi.len
  obtain ⟨i1, i2⟩ := hi.capMax
  unfold maxLen at i2
  have HIM := Lib.hid hi; clear hi
  obtain ⟨p, q, g⟩ := gr
  obtain ⟨ac, nc, cc, ah, nh, ch, ar, nr, cr, rfl, kc, kh, kr⟩ := rdProof.1 hp
  obtain ⟨ab, nb, cb, rfl⟩ := hb.shape
  have ec := kc.len; have eh := kh.len; have er := kr.len; have eb := hb.len
  obtain ⟨b1, b2⟩ := kc.capMax
  obtain ⟨b3, b4⟩ := kh.capMax
  obtain ⟨b5, b6⟩ := kr.capMax
  obtain ⟨b7, b8⟩ := hb.capMax
  unfold maxLen at b2 b4 b6 b8
  have KC := Lib.hid kc; have KH := Lib.hid kh; have KR := Lib.hid kr; have HBS := Lib.hid hb
  clear kc kh kr hb hp
  have h0 : 0 < bs.length := by omega
  have hnb : 0 < nb := by omega
  obtain ⟨bb, oo, rfl, cs, hcx⟩ := HBS.out.at_ hnb
  obtain ⟨hy, hr0⟩ := hcx 0 h0
  rw [Nat.add_zero] at hy
  obtain ⟨a0, n0, c0', hs0⟩ := Ints.shape hr0
  rw [hs0] at hy hr0
  have e0 := Ints.len hr0
  obtain ⟨k5, k6⟩ := Ints.capMax hr0
  unfold maxLen at k6
  have e00 : headLen bs = n0 := by rw [headLen_eq h0]; exact e0
  have HHL := Lib.hid e00
  clear hcx hr0 hs0 e0
  (obtain ⟨q4, h_q⟩ : ∃ b_q, d.c.all (elB ⟨p, q, g⟩) = b_q := ⟨_, rfl⟩); have H4 := Lib.hid h_q; clear h_q
  (obtain ⟨q5, h_q⟩ : ∃ b_q, d.r.all (expB ⟨p, q, g⟩) = b_q := ⟨_, rfl⟩); have H5 := Lib.hid h_q; clear h_q
  obtain ⟨W, hW⟩ : ∃ W, W = (w.alloc (.cells #[.int .i64 p, .int .i64 q, .int .i64 g] 25)).alloc (.cells #[.slice ac nc cc, .slice ah nh ch, .slice ar nr cr] 63) := ⟨_, rfl⟩
  have HB : Hid (Below w.heap.size w W) := by unfold Hid; rw [hW]; (repeat (first | exact Below.refl _ _ | assumption | refine Below.drew ?_ | refine Below.alloc ?_ (by first | (simp; done) | (simp; omega)) _ | refine Below.setCell ?_ (by first | (simp; done) | (simp; omega)) _))
  have C0 : Hid (W.cell? ⟨w.heap.size, 0, none⟩ = some (.int .i64 p)) := by unfold Hid; rw [hW]; simp [go_sem]
  have C1 : Hid (W.cell? ⟨w.heap.size, 1, none⟩ = some (.int .i64 q)) := by unfold Hid; rw [hW]; simp [go_sem]
  have C2 : Hid (W.cell? ⟨w.heap.size, 2, none⟩ = some (.int .i64 g)) := by unfold Hid; rw [hW]; simp [go_sem]
  have D0 : Hid (W.cell? ⟨w.heap.size + 1, 0, none⟩ = some (.slice ac nc cc)) := by unfold Hid; rw [hW]; simp [go_sem]
  have D1 : Hid (W.cell? ⟨w.heap.size + 1, 1, none⟩ = some (.slice ah nh ch)) := by unfold Hid; rw [hW]; simp [go_sem]
  have D2 : Hid (W.cell? ⟨w.heap.size + 1, 2, none⟩ = some (.slice ar nr cr)) := by unfold Hid; rw [hW]; simp [go_sem]
  have HY := Lib.hid (box_at hy HB.out)
  clear hy
  have HWW := Lib.hid hW; clear hW
  obtain ⟨x1, x2, x3, x4, x5⟩ := vlHead_parts HYES.out
  obtain ⟨sd, sl⟩ := stmt_digests HG.out HOK.out HYES.out
  have HSL := Lib.hid sl
  have HCH : Hid (chB ⟨p, q, g⟩ s (bs.flatten ++ ims ++ d.c) = true) := chB_yes HG.out sd HOK.out.s40 (by omega)
  have HCI := Lib.hid (chI_yes HCH.out)
  have hebnd := chV_bd HG.out s (bs.flatten ++ ims ++ d.c)
  obtain ⟨E, hE⟩ : ∃ E, chV ⟨p, q, g⟩ s (bs.flatten ++ ims ++ d.c) = E := ⟨_, rfl⟩
  have HE := Lib.hid hE
  rw [hE] at HCI hebnd
  obtain ⟨E0, E1⟩ := hebnd
  simp only [] at E1
  have hq2 := HG.out.q2; have hp2 := HG.out.p2
  simp only [] at hq2 hp2
  have HRES : Hid (vlB ⟨p, q, g⟩ s bs ims d = ((nth d.h 0 == E) && (List.range nb).all (vlEq ⟨p, q, g⟩ bs ims d E))) := by
    unfold Hid vlB vlE; rw [HYES.out, hE, eb]; rfl
  rw [HRES.out]
  obtain rfl : q4 = true := by rw [← H4.out]; exact x4
  obtain rfl : q5 = true := by rw [← H5.out]; exact x5
  obtain rfl : nc = nb := by omega
  obtain rfl : nh = 1 := by omega
  obtain rfl : nr = n0 := by omega
  have HIL : Hid (ims.length = nc) := by unfold Hid; rw [HOK.out.len]; exact eb
  obtain rfl : nc = ni := by have := HIL.out; omega
  have HCL := Lib.hid ec; have HRL := Lib.hid er; have HBL := Lib.hid eb
  have HHLn := Lib.hid eh
  have hn8 : nc ≤ 8 := by have := HOK.out.b8; omega
  clear x1 x2 x3 x4 x5 sd sl hE ec eh er eb e00 ei
  obtain ⟨hk, oh, hah, hcx⟩ := KH.out.at_ (by omega)
  subst hah
  have hyh := hcx 0 (by omega)
  rw [Nat.add_zero] at hyh
  have HYH := Lib.hid (box_at hyh HB.out)
  clear hcx hyh
  obtain ⟨x, hx⟩ : ∃ x, nth d.h 0 = x := ⟨_, rfl⟩
  rw [hx] at HYH ⊢
  clear hx HRES
  have z1 : ((nc : Int) != (nc : Int)) = false := by simp
  have z3 : ((nr : Int) != (nr : Int)) = false := by simp
  go_enter Try.func141, Try.ntmps141
  go_wp2_with fail
  rw [← HWW.out]
  clear HWW
  have g0 := fun u => grow_cell C0.out u
  have g1 := fun u => grow_cell C1.out u
  have g2 := fun u => grow_cell C2.out u
  have g3 := fun u => grow_cell D0.out u
  have g4 := fun u => grow_cell D1.out u
  have g5 := fun u => grow_cell D2.out u
  have g6 := fun u => grow_cell HY.out u
  (refine wp_region_grow (by kernel_rfl) (by kernel_rfl) ?_; (repeat (go_big_quiet_step ((first | (go_at_call 115; refine calls_grow (spec_gIs ⟨p, q, g⟩ _ d.c _ HG.out ((KC.out.below HB.out).below (grow_below _ _))) (fun e w' h => ⟨by rw [h.1, H4.out], h.2⟩)) | (go_at_call 95; refine calls_grow (spec_gExps ⟨p, q, g⟩ _ d.r _ HG.out ((KR.out.below HB.out).below (grow_below _ _))) (fun e w' h => ⟨by rw [h.1, H5.out], h.2⟩)) | fail)))); refine wpQuiet_nil ?_; intro _ hw'; obtain ⟨uq, hw''⟩ := hw'; subst hw''; have hbq := grow_below W uq; generalize grow W uq = wq at hbq ⊢)
  have HBQ := Lib.hid hbq
  have HBW := Lib.hid (Below.next HB.out hbq)
  have d0 := box_at C0.out hbq
  have d1 := box_at C1.out hbq
  have d2 := box_at C2.out hbq
  have f0 := box_at D0.out hbq
  have f1 := box_at D1.out hbq
  have f2 := box_at D2.out hbq
  have yh := box_at HYH.out hbq
  clear hbq g0 g1 g2 g3 g4 g5 g6 z1 z3
  go_wp2_with fail
  have hsQ := HBW.out.size
  have HYF := Lib.hid (box_at HY.out HBQ.out)
  have HRB : Hid (RdL kInts wq (.slice (some ⟨bb, oo, none⟩) nc cb) bs) := kRows.rd_below HBS.out HBW.out
  have HRI : Hid (Ints wq (.slice ai nc ci) ims) := HIM.out.below HBW.out
  have HRC : Hid (Ints wq (.slice ac nc cc) d.c) := Ints.below KC.out HBW.out
  have HRR : Hid (Ints wq (.slice ar nr cr) d.r) := Ints.below KR.out HBW.out
  have HTB : Hid (total bs ≤ 64) := HOK.out.total
  obtain ⟨sd, _⟩ := stmt_digests HG.out HOK.out HYES.out
  have HSD := Lib.hid sd; clear sd
  clear h0 hb1 C0 C1 C2 D0 D1 D2 HY HYH
  have hx1 : (0 : Int) < 1 := by omega
  have HIL8 : Hid (ims.length ≤ 8) := by have := HIL.out; unfold Hid; omega
  have HCL8 : Hid (d.c.length ≤ 8) := by have := HCL.out; unfold Hid; omega
  go_wp2_with fail
  go_region_held3 (fun w' => Below wq.heap.size wq w' ∧ w'.cell? ⟨w.heap.size, 0, none⟩ = some (.int .i64 p) ∧ w'.cell? ⟨w.heap.size, 1, none⟩ = some (.int .i64 q) ∧ w'.cell? ⟨w.heap.size, 2, none⟩ = some (.int .i64 g) ∧ w'.cell? ⟨w.heap.size + 1, 0, none⟩ = some (.slice ac nc cc)) (first | (have hbq : Below wq.heap.size wq _ := (Below.refl _ _).drew; exact ⟨hbq, box_at d0 hbq, box_at d1 hbq, box_at d2 hbq, box_at f0 hbq⟩) | (refine (fun (hbq : Below wq.heap.size wq _) => ⟨hbq, box_at d0 hbq, box_at d1 hbq, box_at d2 hbq, box_at f0 hbq⟩) ?_; exact keep_b (by with_reducible assumption) (And.left (by assumption))) | assumption | fail) ((first
    | (go_at_call 243; refine (spec_sStatement _ bs _ _ ims d.c _ (kRows.rd_below HRB.out (And.left (by assumption))) (HRI.out.below (And.left (by assumption))) (HRC.out.below (And.left (by assumption))) (by have := HTB.out; omega) (by have := HIL8.out; omega) (by have := HCL8.out; omega)).mono ?_; rintro e w1 ⟨v1, rfl, ho1, hb1⟩; (have HO1 := Lib.hid ho1); clear ho1)
    | (go_at_call 242; refine (spec_hChallenge ⟨p, q, g⟩ s _ (bs.flatten ++ ims ++ d.c) _ HG.out HO1.out.ints (by have := HOK.out.s40; omega) (by have := HSL.out; omega) HSD.out).mono ?_; rintro e w3 ⟨rfl, hb3⟩; rw [HE.out])
    | fail))
  have HBX := Lib.hid (‹Below wq.heap.size wq _ ∧ _›).1
  replace d0 := box_at d0 HBX.out
  replace d1 := box_at d1 HBX.out
  replace d2 := box_at d2 HBX.out
  replace f0 := box_at f0 HBX.out
  replace f1 := box_at f1 HBX.out
  replace f2 := box_at f2 HBX.out
  replace yh := box_at yh HBX.out
  have HBY := Lib.hid (Below.next HBW.out HBX.out)
  clear hsQ HO1
  by_cases hxe : x = E
  rotate_left
  · have hxb : (x != E) = true := by rw [bne_iff_ne]; exact hxe
    have HX : Hid ((x == E) = false) := by unfold Hid; rw [beq_eq_false_iff_ne]; exact hxe
    clear hxe
    go_wp2_with fail
    go_ret
    exact ⟨ret_bool (by rw [HX.out]; rfl), HBY.out⟩
  · obtain rfl : E = x := hxe.symm
    have hxb : (E != E) = false := by simp
    have HX : Hid ((E == E) = true) := by unfold Hid; simp
    have HRW : Hid (∀ r ∈ bs, r.length ≤ d.r.length ∧ AllSmall r) := fun r hr => by
      have h1 := HOK.out.rows r hr
      have h2 := HRL.out; have h3 := HHL.out
      exact ⟨by omega, h1.2⟩
    go_wp2_with fail
    go_loopg [66] nc (fun gh iv wr => ∃ k : Nat, k + gh = nc ∧ iv = .int .i64 k ∧ Hid (∀ j, j < k → vlEq ⟨p, q, g⟩ bs ims d E j = true) ∧ Below w3.heap.size w3 wr)
    case atStart => exact ⟨0, by omega, rfl, fun j hj => by omega, Below.refl _ _⟩
    case round =>
      obtain ⟨k, hk', rfl, HF, hbw⟩ := hrel
      have HBR := Lib.hid (Below.next HBY.out hbw)
      by_cases hlt : k < nc
      · have HKB : Hid (k < bs.length) := by have := HBL.out; unfold Hid; omega
        obtain ⟨bb', oo', e', cs', hcx⟩ := (kRows.rd_below HBS.out HBR.out).at_ (by omega)
        cases e'
        obtain ⟨yk, hry⟩ := hcx k HKB.out
        have hry' : Ints wr (cs' k) (bs[k]'HKB.out) := hry
        obtain ⟨ark, nrk, crk, hcs⟩ := hry'.shape
        rw [hcs] at yk hry'
        have HRK := Lib.hid hry'
        have hrw := HRW.out _ (List.getElem_mem HKB.out)
        have HRL1 := Lib.hid hrw.1; have HRL2 := Lib.hid hrw.2
        have HGD : Hid (bs.getD k [] = bs[k]'HKB.out) := by unfold Hid; rw [List.getD_eq_getElem?_getD, List.getElem?_eq_getElem HKB.out]; rfl
        clear hcs hry hry' hrw
        obtain ⟨bc, oc, rfl, hcc⟩ := (KC.out.below HBR.out).at_ (by omega)
        have yc := hcc k hlt
        obtain ⟨bi, oi, rfl, hci⟩ := (HIM.out.below HBR.out).at_ (by omega)
        have yi := hci k hlt
        have HSI := Lib.hid (HOK.out.small.at_ k)
        have HSC := Lib.hid ((all_small HG.out H4.out).at_ k)
        have HVE : Hid (vlEq ⟨p, q, g⟩ bs ims d E k = (prodL ⟨p, q, g⟩ (bs.getD k []) d.r == mulL ⟨p, q, g⟩ [nth d.c k, powE ⟨p, q, g⟩ (nth ims k) E])) := rfl
        have hpb := prodL_bd HG.out (bs.getD k []) d.r
        have hwb := powE_bd HG.out (nth ims k) E
        simp only [] at hpb hwb
        rw [HGD.out] at HVE hpb
        clear hcx hcc hci
        generalize bs[k]'HKB.out = row at HVE hpb HRK HRL1 HRL2 HGD
        obtain ⟨u, hu⟩ : ∃ u, prodL ⟨p, q, g⟩ row d.r = u := ⟨_, rfl⟩
        rw [hu] at HVE hpb
        have HU := Lib.hid hu; clear hu
        generalize nth ims k = y at yi HSI HVE hwb
        generalize nth d.c k = c at yc HSC HVE
        obtain ⟨z, hz⟩ : ∃ z, powE ⟨p, q, g⟩ y E = z := ⟨_, rfl⟩
        rw [hz] at HVE hwb
        have HZ := Lib.hid hz; clear hz
        obtain ⟨m, hm⟩ : ∃ m, mulL ⟨p, q, g⟩ [c, z] = m := ⟨_, rfl⟩
        rw [hm] at HVE
        have HM := Lib.hid hm; clear hm
        have HSM : Hid (AllSmall [c, z]) := fun t ht => by
          simp at ht
          rcases ht with rfl | rfl
          · exact HSC.out
          · exact ⟨by omega, by omega⟩
        obtain ⟨c1, c2⟩ := HSC.out
        have HEI : Hid (I64 E) := ⟨by omega, by omega⟩
        have HCI6 : Hid (I64 c) := ⟨by omega, by omega⟩
        have HZI6 : Hid (I64 z) := ⟨by omega, by omega⟩
        replace d0 := box_at d0 hbw
        replace d1 := box_at d1 hbw
        replace d2 := box_at d2 hbw
        replace f0 := box_at f0 hbw
        replace f2 := box_at f2 hbw
        have HBW2 := Lib.hid hbw
        clear hbw
        have k0 : (0 : Int) ≤ (k : Int) := by omega
        have k1' : (k : Int) < (nc : Int) := by omega
        by_cases hum : u = m
        · have hub : (u != m) = false := by rw [hum]; simp
          have HUM : Hid ((u == m) = true) := by unfold Hid; rw [hum]; simp
          clear hum
          go_wp2_with fail
          go_region_held3 (fun w' => Below wr.heap.size wr w' ∧ w'.cell? ⟨w.heap.size, 0, none⟩ = some (.int .i64 p) ∧ w'.cell? ⟨w.heap.size, 1, none⟩ = some (.int .i64 q) ∧ w'.cell? ⟨w.heap.size, 2, none⟩ = some (.int .i64 g) ∧ w'.cell? ⟨w.heap.size + 1, 0, none⟩ = some (.slice (some ⟨bc, oc, none⟩) nc cc) ∧ w'.cell? ⟨w.heap.size + 1, 2, none⟩ = some (.slice ar nr cr) ∧ w'.cell? ⟨bc, oc + k, none⟩ = some (.int .i64 c) ∧ w'.cell? ⟨bi, oi + k, none⟩ = some (.int .i64 y)) (first | (have hbq : Below wr.heap.size wr _ := (Below.refl _ _).drew; exact ⟨hbq, box_at d0 hbq, box_at d1 hbq, box_at d2 hbq, box_at f0 hbq, box_at f2 hbq, box_at yc hbq, box_at yi hbq⟩) | (refine (fun (hbq : Below wr.heap.size wr _) => ⟨hbq, box_at d0 hbq, box_at d1 hbq, box_at d2 hbq, box_at f0 hbq, box_at f2 hbq, box_at yc hbq, box_at yi hbq⟩) ?_; exact keep_b (by with_reducible assumption) (And.left (by assumption))) | (refine (fun (hbq : Below wr.heap.size wr _) => ⟨hbq, box_at d0 hbq, box_at d1 hbq, box_at d2 hbq, box_at f0 hbq, box_at f2 hbq, box_at yc hbq, box_at yi hbq⟩) ?_; exact keep_al (And.left (by assumption)) _) | assumption | fail) ((first
            | (go_at_call 244; refine (spec_gProd ⟨p, q, g⟩ _ _ row d.r _ HG.out (HRK.out.below (And.left (by assumption))) (Ints.below (Ints.below KR.out HBR.out) (And.left (by assumption))) HRL2.out HRL1.out).mono ?_; rintro e w7 ⟨rfl, hb7⟩; rw [HU.out])
            | (go_at_call 117; refine (spec_gExp ⟨p, q, g⟩ y E _ HG.out HSI.out HEI.out).mono ?_; rintro e w5 ⟨rfl, hb5⟩; rw [HZ.out])
            | (go_at_call 125; ((with_reducible refine (spec_gMul ⟨p, q, g⟩ _ [c, z] _ HG.out (Ints.lit2 _ HCI6.out HZI6.out) HSM.out).mono ?_); rintro e w6 ⟨rfl, hb6⟩); rw [HM.out])
            | fail))
          all_goals have HBZ := (‹Below wr.heap.size wr _ ∧ _›).1
          all_goals go_wp2_with fail
          all_goals go_roundg (nc - (k + 1))
          case' measure => omega
          all_goals first
            | omega
            | skip
          all_goals
            refine ⟨k + 1, by omega, by go_num, fun j hj => ?_, Below.next HBW2.out HBZ⟩
            rcases Nat.lt_succ_iff_lt_or_eq.1 hj with h | rfl
            · exact HF.out j h
            · rw [HVE.out, HUM.out]
        · have hub : (u != m) = true := by rw [bne_iff_ne]; exact hum
          have HNO : Hid (((E == E) && (List.range nc).all (vlEq ⟨p, q, g⟩ bs ims d E)) = false) := by
            unfold Hid
            rw [range_all_false hlt (by rw [HVE.out, beq_eq_false_iff_ne]; exact hum), Bool.and_false]
          clear hum
          go_wp2_with fail
          go_region_held3 (fun w' => Below wr.heap.size wr w' ∧ w'.cell? ⟨w.heap.size, 0, none⟩ = some (.int .i64 p) ∧ w'.cell? ⟨w.heap.size, 1, none⟩ = some (.int .i64 q) ∧ w'.cell? ⟨w.heap.size, 2, none⟩ = some (.int .i64 g) ∧ w'.cell? ⟨w.heap.size + 1, 0, none⟩ = some (.slice (some ⟨bc, oc, none⟩) nc cc) ∧ w'.cell? ⟨w.heap.size + 1, 2, none⟩ = some (.slice ar nr cr) ∧ w'.cell? ⟨bc, oc + k, none⟩ = some (.int .i64 c) ∧ w'.cell? ⟨bi, oi + k, none⟩ = some (.int .i64 y)) (first | (have hbq : Below wr.heap.size wr _ := (Below.refl _ _).drew; exact ⟨hbq, box_at d0 hbq, box_at d1 hbq, box_at d2 hbq, box_at f0 hbq, box_at f2 hbq, box_at yc hbq, box_at yi hbq⟩) | (refine (fun (hbq : Below wr.heap.size wr _) => ⟨hbq, box_at d0 hbq, box_at d1 hbq, box_at d2 hbq, box_at f0 hbq, box_at f2 hbq, box_at yc hbq, box_at yi hbq⟩) ?_; exact keep_b (by with_reducible assumption) (And.left (by assumption))) | (refine (fun (hbq : Below wr.heap.size wr _) => ⟨hbq, box_at d0 hbq, box_at d1 hbq, box_at d2 hbq, box_at f0 hbq, box_at f2 hbq, box_at yc hbq, box_at yi hbq⟩) ?_; exact keep_al (And.left (by assumption)) _) | assumption | fail) ((first
            | (go_at_call 244; refine (spec_gProd ⟨p, q, g⟩ _ _ row d.r _ HG.out (HRK.out.below (And.left (by assumption))) (Ints.below (Ints.below KR.out HBR.out) (And.left (by assumption))) HRL2.out HRL1.out).mono ?_; rintro e w7 ⟨rfl, hb7⟩; rw [HU.out])
            | (go_at_call 117; refine (spec_gExp ⟨p, q, g⟩ y E _ HG.out HSI.out HEI.out).mono ?_; rintro e w5 ⟨rfl, hb5⟩; rw [HZ.out])
            | (go_at_call 125; ((with_reducible refine (spec_gMul ⟨p, q, g⟩ _ [c, z] _ HG.out (Ints.lit2 _ HCI6.out HZI6.out) HSM.out).mono ?_); rintro e w6 ⟨rfl, hb6⟩); rw [HM.out])
            | fail))
          all_goals have HBZ := (‹Below wr.heap.size wr _ ∧ _›).1
          all_goals go_wp2_with fail
          all_goals go_ret
          all_goals exact ⟨ret_bool (by first | (rw [HNO.out]; done) | (rw [HNO.out]; rfl) | exact HNO.out.symm), Below.next HBR.out HBZ⟩
      · obtain rfl : nc = k := by omega
        have HA : Hid (((E == E) && (List.range nc).all (vlEq ⟨p, q, g⟩ bs ims d E)) = true) := by
          unfold Hid
          rw [HX.out, range_all_true (fun j hj => HF.out j hj)]; rfl
        clear hbw
        go_wp2_with fail
        go_ret
        exact ⟨ret_bool (by first | (rw [HA.out]; done) | (rw [HA.out]; rfl) | exact HA.out.symm), HBR.out⟩
theorem spec_sVerify (gr : GroupD) (s : ByteArray) (vb : Value) (bs : List (List Int)) (vi : Value) (ims : List Int) (vp : Value) (d : ProofD) (w : World) (hg : OkG gr) (hb : RdL kInts w vb bs) (hi : Ints w vi ims) (hp : (kS rProof).rd w vp d) (hok : StmtOk gr s bs ims) :
    Calls Try.prog 141 #[.agg #[.int .i64 gr.p, .int .i64 gr.q, .int .i64 gr.g], .string s, vb, vi, vp] w fun e w' => e = .returned (.bool (vlB gr s bs ims d)) ∧ Below w.heap.size w w' := by
  cases hh : vlHead gr bs d with
  | true => exact spec_sVerify_yes gr s vb bs vi ims vp d w hg hb hi hp hok hh
  | false => rw [vlB_no hh]; exact spec_sVerify_no gr s vb bs vi vp d w hg hb hp hok.b1 hh
end Go.Proofs.Yteemlmmdngkghaa
namespace Go.Proofs.Yteemlmmdngkghaa
open Go.RowKit
set_option linter.unusedSimpArgs false
set_option linter.unusedVariables false
theorem Within.belowStep1 {lo hi : Nat} {w w1 w2 : World} (h : Within lo hi w w1) (hb : Below w.heap.size w1 w2) : Within lo hi w w2 :=
  ⟨hb.os.trans h.os, hb.tape.trans h.tape, hb.output.trans h.output, Nat.le_trans h.size hb.size, fun k hk hr => (hb.block k hk).trans (h.block k hk hr)⟩
theorem BoxN.grownO {w w' : World} {b B : Nat} {t : TypeId} {cs : List Value} {v : Value} {l : List Int} (h : BoxN w b t cs) (hg : w.grownBy w' v.ownBlock) (ho : OwnI w B v l) (hb : b < B) : BoxN w' b t cs :=
  (hg.block b h.lt (fun e => by have := (ho.lt b e.symm).1; omega)).trans h
def respN (gr : GroupD) (e : Int) (ws xs : List Int) (n : Nat) : List Int := (List.range n).map fun k => (nth ws k + e * nth xs k) % gr.q
theorem respN_succ (gr : GroupD) (e : Int) (ws xs : List Int) (n : Nat) : respN gr e ws xs (n + 1) = respN gr e ws xs n ++ [(nth ws n + e * nth xs n) % gr.q] := by unfold respN; rw [List.range_succ, List.map_append]; rfl
theorem respN_length (gr : GroupD) (e : Int) (ws xs : List Int) (n : Nat) : (respN gr e ws xs n).length = n := by simp [respN]
def pvE (gr : GroupD) (s : ByteArray) (bs : List (List Int)) (xs ws : List Int) : Int := chV gr s (bs.flatten ++ imagesL gr bs xs ++ imagesL gr bs ws)
/-- the proof of a linear statement -/
def pvD (gr : GroupD) (s : ByteArray) (bs : List (List Int)) (xs ws : List Int) : ProofD := ⟨imagesL gr bs ws, [pvE gr s bs xs ws], respN gr (pvE gr s bs xs ws) ws xs ws.length⟩
structure PrvOk (gr : GroupD) (s : ByteArray) (bs : List (List Int)) (xs ws : List Int) : Prop where
  s40 : s.size ≤ 40
  b1 : 1 ≤ bs.length
  b8 : bs.length ≤ 8
  h8 : headLen bs ≤ 8
  rows : ∀ r ∈ bs, r.length = headLen bs ∧ AllSmall r
  lx : xs.length = headLen bs
  lw : ws.length = headLen bs
  ex : xs.all (expB gr) = true
  ew : ws.all (expB gr) = true
theorem imagesL_small {gr : GroupD} (hg : OkG gr) (bs : List (List Int)) (es : List Int) : AllSmall (imagesL gr bs es) := fun x hx => by
  unfold imagesL at hx
  obtain ⟨r, hr, rfl⟩ := List.mem_map.1 hx
  have := prodL_bd hg r es; have := hg.p2
  exact ⟨by omega, by omega⟩
theorem PrvOk.stmt {gr : GroupD} (hg : OkG gr) {s : ByteArray} {bs : List (List Int)} {xs ws : List Int} (h : PrvOk gr s bs xs ws) : StmtOk gr s bs (imagesL gr bs xs) :=
  ⟨h.s40, h.b1, h.b8, h.h8, h.rows, imagesL_length, imagesL_small hg bs xs⟩
theorem PrvOk.digests {gr : GroupD} (hg : OkG gr) {s : ByteArray} {bs : List (List Int)} {xs ws : List Int} (h : PrvOk gr s bs xs ws) : (bs.flatten ++ imagesL gr bs xs ++ imagesL gr bs ws).all digestB = true ∧ (bs.flatten ++ imagesL gr bs xs ++ imagesL gr bs ws).length ≤ 80 := by
  refine ⟨digests_small (((h.stmt hg).flat.append (imagesL_small hg bs xs)).append (imagesL_small hg bs ws)), ?_⟩
  have := (h.stmt hg).total; have := h.b8
  rw [List.length_append, List.length_append, total_flatten, imagesL_length, imagesL_length]; omega
theorem exp_at {gr : GroupD} {l : List Int} (h : l.all (expB gr) = true) {k : Nat} (hk : k < l.length) : 0 ≤ nth l k ∧ nth l k ≤ gr.q - 1 := by
  rw [nth_eq hk]
  have := List.all_eq_true.1 h _ (List.getElem_mem hk)
  unfold expB at this; exact of_decide_eq_true this
set_option maxRecDepth 100000 in
set_option maxHeartbeats 4000000 in
theorem impl_proveLinear (gr : GroupD) (s : ByteArray) (vb : Value) (bs : List (List Int)) (vx : Value) (xs : List Int) (vw : Value) (ws : List Int) (w : World) (hg : OkG gr) (hb : RdL kInts w vb bs) (hx : Ints w vx xs) (hw : Ints w vw ws) (hok : PrvOk gr s bs xs ws) :
    Calls Try.prog 134 #[.agg #[.int .i64 gr.p, .int .i64 gr.q, .int .i64 gr.g], .string s, vb, vx, vw] w fun e w' => ∃ v, e = .returned (.tuple #[v, .bool true]) ∧ (kS rProof).own w' w.heap.size w'.heap.size v (pvD gr s bs xs ws) ∧ Below w.heap.size w w' := by
  have HG := Lib.hid hg; clear hg
  have HOK := Lib.hid hok; clear hok
  obtain ⟨ax, nx, cx, rfl⟩ := hx.shape
  have ex := hx.len
  obtain ⟨aw, nw, cw, rfl⟩ := hw.shape
  have ew := hw.len
  obtain ⟨i1, i2⟩ := hx.capMax
  obtain ⟨i3, i4⟩ := hw.capMax
  obtain ⟨ab, nb, cb, rfl⟩ := hb.shape
  have eb := hb.len
  obtain ⟨i5, i6⟩ := hb.capMax
  unfold maxLen at i2 i4 i6
  have HX := Lib.hid hx; have HWS := Lib.hid hw; have HBS := Lib.hid hb
  clear hx hw hb
  obtain ⟨p, q, g⟩ := gr
  obtain ⟨sd, sl⟩ := HOK.out.digests HG.out
  have HSL := Lib.hid sl
  have HCH : Hid (chB ⟨p, q, g⟩ s (bs.flatten ++ imagesL ⟨p, q, g⟩ bs xs ++ imagesL ⟨p, q, g⟩ bs ws) = true) := chB_yes HG.out sd HOK.out.s40 (by omega)
  have HCI := Lib.hid (chI_yes HCH.out)
  have hebnd := chV_bd HG.out s (bs.flatten ++ imagesL ⟨p, q, g⟩ bs xs ++ imagesL ⟨p, q, g⟩ bs ws)
  obtain ⟨E, hE⟩ : ∃ E, chV ⟨p, q, g⟩ s (bs.flatten ++ imagesL ⟨p, q, g⟩ bs xs ++ imagesL ⟨p, q, g⟩ bs ws) = E := ⟨_, rfl⟩
  rw [hE] at HCI hebnd
  obtain ⟨E0, E1⟩ := hebnd
  simp only [] at E1
  have hq2 := HG.out.q2; have hp2 := HG.out.p2
  simp only [] at hq2 hp2
  have HRES : Hid (pvD ⟨p, q, g⟩ s bs xs ws = ⟨imagesL ⟨p, q, g⟩ bs ws, [E], respN ⟨p, q, g⟩ E ws xs ws.length⟩) := by
    unfold Hid pvD pvE; rw [hE]
  rw [HRES.out]
  clear HRES sd sl hE
  have hlx := HOK.out.lx; have hlw := HOK.out.lw; have hl8 := HOK.out.h8
  have hb8 := HOK.out.b8; have hb1 := HOK.out.b1
  obtain rfl : nx = nw := by omega
  have HLW := Lib.hid ew; have HLX := Lib.hid ex; have HLB := Lib.hid eb
  have hn8 : nx ≤ 8 := by omega
  have hnb8 : nb ≤ 8 := by omega
  clear ex ew eb hlx hlw hl8 hb8 hb1
  have HRX : Hid (∀ r ∈ bs, r.length ≤ xs.length ∧ AllSmall r) := fun r hr => ⟨by rw [(HOK.out.rows r hr).1, HOK.out.lx]; exact Nat.le_refl _, (HOK.out.rows r hr).2⟩
  have HRW : Hid (∀ r ∈ bs, r.length ≤ ws.length ∧ AllSmall r) := fun r hr => ⟨by rw [(HOK.out.rows r hr).1, HOK.out.lw]; exact Nat.le_refl _, (HOK.out.rows r hr).2⟩
  have HMW : Hid ((imagesL ⟨p, q, g⟩ bs ws).length = nb) := by unfold Hid; rw [imagesL_length]; exact HLB.out
  have HMX : Hid ((imagesL ⟨p, q, g⟩ bs xs).length = nb) := by unfold Hid; rw [imagesL_length]; exact HLB.out
  obtain ⟨W, hW⟩ : ∃ W, W = (w.alloc (.cells #[.int .i64 p, .int .i64 q, .int .i64 g] 25)).alloc (.cells #[.slice none 0 0, .slice none 0 0, .slice none 0 0] 63) := ⟨_, rfl⟩
  have HWB : Hid (Below w.heap.size w W) := by unfold Hid; rw [hW]; (repeat (first | exact Below.refl _ _ | assumption | refine Below.drew ?_ | refine Below.alloc ?_ (by first | (simp; done) | (simp; omega)) _ | refine Below.setCell ?_ (by first | (simp; done) | (simp; omega)) _))
  have hs0 : W.heap.size = w.heap.size + 2 := by rw [hW]; simp
  have p0 : W.cell? ⟨w.heap.size, 0, none⟩ = some (.int .i64 p) := by rw [hW]; simp [go_sem]
  have p1 : W.cell? ⟨w.heap.size, 1, none⟩ = some (.int .i64 q) := by rw [hW]; simp [go_sem]
  have p2 : W.cell? ⟨w.heap.size, 2, none⟩ = some (.int .i64 g) := by rw [hW]; simp [go_sem]
  have hs1 : (w.alloc (.cells #[.int .i64 p, .int .i64 q, .int .i64 g] 25)).heap.size = w.heap.size + 1 := by simp
  have BR : Hid (BoxN W (w.heap.size + 1) 63 [.slice none 0 0, .slice none 0 0, .slice none 0 0]) := by unfold Hid; rw [hW, ← hs1]; exact BoxN.new _ [.slice none 0 0, .slice none 0 0, .slice none 0 0] _
  have BG : Hid (BoxN W w.heap.size 25 [.int .i64 p, .int .i64 q, .int .i64 g]) := by unfold Hid; rw [hW]; exact (BoxN.new w [.int .i64 p, .int .i64 q, .int .i64 g] _).alloc _
  have HS0 := Lib.hid hs0
  clear hs1 hs0
  go_enter Try.func134, Try.ntmps134
  go_wp2_with fail
  rw [← hW]
  clear hW
  refine (impl_images ⟨p, q, g⟩ _ bs _ ws _ HG.out (kRows.rd_below HBS.out HWB.out) (HWS.out.below HWB.out) HRW.out (by have := HLB.out; omega)).mono ?_
  rintro e w1 ⟨v1, rfl, ho1, hb1⟩
  obtain ⟨a1, c1, hv1⟩ := ho1.shape
  rw [HMW.out] at hv1
  subst hv1
  have P1 := Lib.hid (InI.of_own ho1)
  have d0 := box_at p0 hb1
  have d1 := box_at p1 hb1
  have d2 := box_at p2 hb1
  have BR1 := Lib.hid (BR.out.below hb1)
  have BG1 := Lib.hid (BG.out.below hb1)
  have HB1 := Lib.hid (Below.next HWB.out hb1)
  have HBA := Lib.hid hb1
  have HS1 := Lib.hid hb1.size
  clear ho1 hb1 p0 p1 p2
  go_wp2_with fail
  obtain ⟨wq, hwq⟩ : ∃ u, u = w1.alloc (.cells #[.slice a1 nb c1, .slice none 0 0, .slice none 0 0] 63) := ⟨_, rfl⟩
  rw [← hwq]
  have hsq : wq.heap.size = w1.heap.size + 1 := by rw [hwq]; simp
  have HBQ : Hid (Below w1.heap.size w1 wq) := by unfold Hid; rw [hwq]; (repeat (first | exact Below.refl _ _ | assumption | refine Below.drew ?_ | refine Below.alloc ?_ (by first | (simp; done) | (simp; omega)) _ | refine Below.setCell ?_ (by first | (simp; done) | (simp; omega)) _))
  have BP : Hid (BoxN wq w1.heap.size 63 [.slice a1 nb c1, .slice none 0 0, .slice none 0 0]) := by unfold Hid; rw [hwq]; exact BoxN.new _ [.slice a1 nb c1, .slice none 0 0, .slice none 0 0] _
  clear hwq
  replace d0 := box_at d0 HBQ.out
  replace d1 := box_at d1 HBQ.out
  replace d2 := box_at d2 HBQ.out
  have f0 := BP.out.cell (i := 0) rfl
  have HSQ := Lib.hid hsq
  have P1q := Lib.hid (P1.out.next HBQ.out)
  have HBW := Lib.hid (Below.next HB1.out HBQ.out)
  have HTB : Hid (total bs ≤ 64) := (HOK.out.stmt HG.out).total
  have HF3 : Hid ([bs.flatten, imagesL ⟨p, q, g⟩ bs xs, imagesL ⟨p, q, g⟩ bs ws].flatten = bs.flatten ++ imagesL ⟨p, q, g⟩ bs xs ++ imagesL ⟨p, q, g⟩ bs ws) := by unfold Hid; simp
  have HT3 : Hid (total [bs.flatten, imagesL ⟨p, q, g⟩ bs xs, imagesL ⟨p, q, g⟩ bs ws] ≤ 80) := by
    have := HSL.out
    rw [List.length_append, List.length_append] at this
    unfold Hid; rw [total3]; omega
  have HRB : Hid (RdL kInts wq (.slice ab nb cb) bs) := kRows.rd_below HBS.out HBW.out
  have HRX2 : Hid (Ints wq (.slice ax nx cx) xs) := HX.out.below HBW.out
  have HRC : Hid (Ints wq (.slice a1 nb c1) (imagesL ⟨p, q, g⟩ bs ws)) := P1q.out.reads
  obtain ⟨F, hF⟩ : ∃ F, bs.flatten = F := ⟨_, rfl⟩
  obtain ⟨IX, hIX⟩ : ∃ F, imagesL ⟨p, q, g⟩ bs xs = F := ⟨_, rfl⟩
  obtain ⟨IW, hIW⟩ : ∃ F, imagesL ⟨p, q, g⟩ bs ws = F := ⟨_, rfl⟩
  have HFF := Lib.hid hF; have HIX := Lib.hid hIX
  rw [hF, hIX, hIW] at HF3 HT3 HCH HCI HSL
  rw [hIW] at HRC P1q
  have HIW := Lib.hid hIW
  clear hF hIX hIW hsq P1 HMW HMX BR HBA
  go_region_held3 (fun w' => Below wq.heap.size wq w' ∧ w'.cell? ⟨w.heap.size, 0, none⟩ = some (.int .i64 p) ∧ w'.cell? ⟨w.heap.size, 1, none⟩ = some (.int .i64 q) ∧ w'.cell? ⟨w.heap.size, 2, none⟩ = some (.int .i64 g) ∧ w'.cell? ⟨w1.heap.size, 0, none⟩ = some (.slice a1 nb c1)) (first | (have hbq : Below wq.heap.size wq _ := (Below.refl _ _).drew; exact ⟨hbq, box_at d0 hbq, box_at d1 hbq, box_at d2 hbq, box_at f0 hbq⟩) | (refine (fun (hbq : Below wq.heap.size wq _) => ⟨hbq, box_at d0 hbq, box_at d1 hbq, box_at d2 hbq, box_at f0 hbq⟩) ?_; exact keep_b (by with_reducible assumption) (And.left (by assumption))) | (refine (fun (hbq : Below wq.heap.size wq _) => ⟨hbq, box_at d0 hbq, box_at d1 hbq, box_at d2 hbq, box_at f0 hbq⟩) ?_; exact keep_al (And.left (by assumption)) _) | assumption | fail) ((first
    | (go_at_call_of 240 (Value.slice ab nb cb); refine (slices_Concat _ bs _ (kRows.rd_below HRB.out (And.left (by assumption))) (by have := HTB.out; omega)).mono ?_; rintro e w2 ⟨v2, rfl, ho2, hb2⟩; rw [HFF.out] at ho2; (obtain ⟨a2, c2, rfl⟩ := ho2.shape); (have HO2 := Lib.hid ho2.ints); clear ho2)
    | (go_at_call 142; refine (impl_images ⟨p, q, g⟩ _ bs _ xs _ HG.out (kRows.rd_below HRB.out (And.left (by assumption))) (HRX2.out.below (And.left (by assumption))) HRX.out (by have := HLB.out; omega)).mono ?_; rintro e w3 ⟨v3, rfl, ho3, hb3⟩; rw [HIX.out] at ho3; (obtain ⟨a3, c3, rfl⟩ := ho3.shape); (have HO3 := Lib.hid ho3.ints); (have HO2b : Hid (Ints w3 _ _) := Lib.hid (HO2.out.below hb3)); clear ho3)
    | (go_at_call 240; refine (slices_Concat _ [F, IX, IW] _ (rd3a (HO2b.out.alloc _) (HO3.out.alloc _) (HRC.out.below (And.left (by assumption)))) (by have := HT3.out; omega)).mono ?_; rintro e w4 ⟨v4, rfl, ho4, hb4⟩; (have HO4 := Lib.hid ho4); clear ho4; rw [HF3.out] at HO4)
    | (go_at_call 189; refine (impl_challenge ⟨p, q, g⟩ s _ (F ++ IX ++ IW) _ HG.out HO4.out.ints (by have := HOK.out.s40; omega) (by have := HSL.out; omega)).mono ?_; rintro e w5 ⟨rfl, hb5⟩; rw [HCI.out, HCH.out])
    | fail))
  have HBX := Lib.hid (‹Below wq.heap.size wq _ ∧ _›).1
  have HB5 := Lib.hid (Below.next HBW.out HBX.out)
  have BP5 := Lib.hid (BP.out.below HBX.out)
  have P15 := Lib.hid (P1q.out.next HBX.out)
  have BR5 := Lib.hid ((BR1.out.below HBQ.out).below HBX.out)
  have hs5 := HBX.out.size
  have hsq := HSQ.out; have hs0 := HS0.out; have hs1 := HS1.out
  have BG5 := Lib.hid ((BG1.out.below HBQ.out).below HBX.out)
  clear d0 d1 d2 f0 HO2 HO3 HO2b HO4 hb2 hb3 hb4 hb5
  have fr := (BP5.out.alloc (.cells #[.int .i64 E] 3)).frozen 1
  have y1 := (BP5.out.alloc (.cells #[.int .i64 E] 3)).cell (i := 1) rfl
  have hI : I64 E := ⟨by omega, by omega⟩
  have HIE := Lib.hid hI
  clear hI
  go_wp2_with fail
  obtain ⟨V, hV⟩ : ∃ V, V = (w5.alloc (.cells #[.int .i64 E] 3)).setCell ⟨w1.heap.size, 1, none⟩ (.slice (some ⟨w5.heap.size, 0, none⟩) 1 1) := ⟨_, rfl⟩
  rw [← hV]
  have hVs : V.heap.size = w5.heap.size + 1 := by rw [hV]; simp
  have hwi : Within w1.heap.size (w1.heap.size + 1) w5 V := by rw [hV]; exact ((Within.refl _ _ _).allocR _).setCell (by omega) (by omega) _ _
  have BV : Hid (BoxN V w1.heap.size 63 [.slice a1 nb c1, .slice (some ⟨w5.heap.size, 0, none⟩) 1 1, .slice none 0 0]) := by unfold Hid; rw [hV]; exact (BP5.out.alloc _).set 1 _
  have BRV : Hid (BoxN V (w.heap.size + 1) 63 [.slice none 0 0, .slice none 0 0, .slice none 0 0]) := Lib.hid (BR5.out.kept hwi (.inl (by omega)))
  have P1V : Hid (InI V W.heap.size w1.heap.size (.slice a1 nb c1) IW) := P15.out.kept hwi (.inl (by omega))
  have hE1 : InI (w5.alloc (.cells #[.int .i64 E] 3)) w5.heap.size (w5.heap.size + 1) (.slice (some ⟨w5.heap.size, 0, none⟩) 1 1) [E] := by
    have := InI.of_own (OwnI.lit1 (B := w5.heap.size) w5 (Nat.le_refl _) HIE.out)
    simpa using this
  have P2V : Hid (InI V w5.heap.size (w5.heap.size + 1) (.slice (some ⟨w5.heap.size, 0, none⟩) 1 1) [E]) := by
    unfold Hid; rw [hV]; exact hE1.kept (((Within.refl w1.heap.size (w1.heap.size + 1) _)).setCell (by omega) (by omega) _ _) (.inr (by omega))
  have HBV := Lib.hid (HB5.out.trans (hwi.below (B := w.heap.size) (by have := HB5.out.size; omega) (by omega)))
  have BGV := Lib.hid (BG5.out.kept hwi (.inl (by omega)))
  have HVS := Lib.hid hVs
  have HLEV : Hid (w.heap.size + 1 < w1.heap.size ∧ w1.heap.size + 1 ≤ w5.heap.size ∧ V.heap.size = w5.heap.size + 1) := ⟨by omega, by omega, hVs⟩
  clear hV hE1 fr y1 hwi
  go_loopg [46] nx (fun gh iv wr => ∃ k : Nat, k + gh = nx ∧ iv = .int .i64 k ∧ (∃ ov, BoxN wr w1.heap.size 63 [.slice a1 nb c1, .slice (some ⟨w5.heap.size, 0, none⟩) 1 1, ov] ∧ OwnI wr V.heap.size ov (respN ⟨p, q, g⟩ E ws xs k)) ∧ Within w1.heap.size (w1.heap.size + 1) V wr)
  case atStart => exact ⟨0, by omega, rfl, ⟨_, BV.out, OwnI.nil _ _⟩, Within.refl _ _ _⟩
  case round =>
    obtain ⟨k, hk, rfl, ⟨ov, hbp, hown⟩, hwr⟩ := hrel
    obtain ⟨ao, co, hv⟩ := hown.shape
    rw [respN_length] at hv
    subst hv
    have HBPR := Lib.hid hbp
    have HOWN := Lib.hid hown
    have HWR := Lib.hid hwr
    have hszr := hwr.size
    have HBR : Hid (Below w.heap.size w wr) := HBV.out.trans (hwr.below (B := w.heap.size) (by omega) (by omega))
    clear hbp hown hwr
    by_cases hlt : k < nx
    · have HKX : Hid (k < xs.length) := by unfold Hid; rw [HLX.out]; exact hlt
      have HKW : Hid (k < ws.length) := by unfold Hid; rw [HLW.out]; exact hlt
      obtain ⟨bx, ox, rfl, hcx⟩ := (HX.out.below HBR.out).at_ (by omega)
      have yx := hcx k hlt
      obtain ⟨bw, ow, rfl, hcw⟩ := (HWS.out.below HBR.out).at_ (by omega)
      have yw := hcw k hlt
      have hxb := exp_at HOK.out.ex HKX.out
      have hwb := exp_at HOK.out.ew HKW.out
      simp only [] at hxb hwb
      have HSUC := Lib.hid (respN_succ ⟨p, q, g⟩ E ws xs k)
      have HLN : Hid ((respN ⟨p, q, g⟩ E ws xs k).length = k) := respN_length _ _ _ _ _
      clear hcx hcw
      generalize nth xs k = x at yx hxb HSUC
      generalize nth ws k = c at yw hwb HSUC
      generalize respN ⟨p, q, g⟩ E ws xs k = RK at HSUC HLN HOWN
      have hm := mul_bd E0 (show E ≤ 2000000000 by omega) hxb.1 (show x ≤ 2000000000 by omega)
      have ew1 : IntKind.i64.wrap (E * x) = E * x := IntWalk.i64_in _ (by omega)
      have ew2 : IntKind.i64.wrap (c + E * x) = c + E * x := IntWalk.i64_in _ (by omega)
      have HIN : Hid (I64 (c + E * x)) := ⟨by omega, by omega⟩
      obtain ⟨z, hz⟩ : ∃ z, (c + E * x) % q = z := ⟨_, rfl⟩
      have hz0 : 0 ≤ z ∧ z < q := by rw [← hz]; exact ⟨Int.emod_nonneg _ (by omega), Int.emod_lt_of_pos _ (by omega)⟩
      simp only [] at HSUC
      rw [hz] at HSUC
      have HZ : Hid ((c + E * x) % (GroupD.mk p q g).q = z) := hz
      have HIZ : Hid (I64 z) := ⟨by omega, by omega⟩
      have BGR := Lib.hid (BGV.out.kept HWR.out (.inl (by omega)))
      have d0 := BGR.out.cell (i := 0) rfl
      have d1 := BGR.out.cell (i := 1) rfl
      have d2 := BGR.out.cell (i := 2) rfl
      have y2 := HBPR.out.cell (i := 2) rfl
      clear hz hm
      go_wp2_with fail
      have k0 : (0 : Int) ≤ (k : Int) := by omega
      have k1 : (k : Int) < (nx : Int) := by omega
      have HVL : Hid (V.heap.size ≤ wr.heap.size ∧ w1.heap.size < V.heap.size) := ⟨hszr, by omega⟩
      clear hVs hs5 hsq hs0 hs1
      have hbz := Below.refl wr.heap.size wr
      have HHK := Lib.hid hk
      have HLTK := Lib.hid hlt
      have HK8 : Hid (k ≤ 8) := by unfold Hid; omega
      have HE01 : Hid (0 ≤ E ∧ E < q ∧ q ≤ p - 1 ∧ p ≤ 2000000000) := ⟨E0, E1, hq2, hp2⟩
      clear HX HBS HOK HLW HLX HLB HRX HRW HWB BG HS0 BR1 BG1 HB1 HS1 HBQ BP HSQ HBW HTB HRB HRX2 P1q HRC HSL HCI HCH HT3 HF3 HFF HIX HIW HBX HB5 BP5 P15 BR5 BG5 HIE BV BRV P1V P2V HBV BGV HVS HBR BGR HKX HKW HWS hxb hwb i1 i2 i3 i4 i5 i6 hn8 hnb8 hk hszr hz0 hlt hq2 hp2 E0 E1
      refine wp_region_noPanic ?_
      refine wp_region_take (fun w' => Below wr.heap.size wr w' ∧ w'.cell? ⟨w.heap.size, 0, none⟩ = some (.int .i64 p) ∧ w'.cell? ⟨w.heap.size, 1, none⟩ = some (.int .i64 q) ∧ w'.cell? ⟨w.heap.size, 2, none⟩ = some (.int .i64 g) ∧ w'.cell? ⟨w1.heap.size, 2, none⟩ = some (.slice ao k co) ∧ w'.cell? ⟨bx, ox + k, none⟩ = some (.int .i64 x)) 12 [(true, 0), (true, 1), (true, 2), (true, 3), (true, 4), (true, 5), (true, 6), (true, 7), (true, 8), (true, 9), (true, 10), (false, 11), (false, 12)] [13, 14, 15] (by kernel_rfl) (by kernel_rfl) rfl (fun _ _ _ _ _ h => h) ⟨(Below.refl _ _).drew, d0, d1, d2, y2, yx⟩ ?_
      simp only [pickL, pickN, List.getElem?_cons_zero, List.getElem?_cons_succ]
      repeat (refine' wpTake_read _ (by rfl) (fun w' hS' => ?_) ?_; rotate_left; · ((try dsimp only at hS'); go_simp; (try with_reducible rfl)); (try simp only [Act.put, List.setIfInBounds_toArray, List.set_cons_zero, List.set_cons_succ]))
      refine wpTake_do (by rfl) (fun K hK => ?_)
      go_simp
      go_at_call 103
      refine (impl_exp ⟨p, q, g⟩ _ _ HG.out HIN.out).mono ?_
      rintro e w6 ⟨rfl, hb6⟩
      rw [HZ.out]
      have hbz : Below wr.heap.size wr w6 := keep_b hb6 (Below.refl _ _).drew
      refine hK.out _ _ ⟨hbz, box_at d0 hbz, box_at d1 hbz, box_at d2 hbz, box_at y2 hbz, box_at yx hbz⟩ (fun _ => ?_)
      clear hK K
      try simp only [Act.put, List.setIfInBounds_toArray, List.set_cons_zero, List.set_cons_succ]
      refine wpTake_do (by rfl) (fun K hK => ?_)
      go_simp
      have hba : Below wr.heap.size wr (w6.alloc (.cells #[.int .i64 z] 3)) := hbz.alloc hbz.size _
      refine hK.out _ _ ⟨hba, box_at d0 hba, box_at d1 hba, box_at d2 hba, box_at y2 hba, box_at yx hba⟩ (fun _ => ?_)
      clear hK K
      try simp only [Act.put, List.setIfInBounds_toArray, List.set_cons_zero, List.set_cons_succ]
      refine wpTake_nil ?_
      have HO6 : Hid (OwnI (w6.alloc (.cells #[.int .i64 z] 3)) V.heap.size (.slice ao k co) RK) := HOWN.out.below hba
      have BP6 : Hid (BoxN (w6.alloc (.cells #[.int .i64 z] 3)) w1.heap.size 63 _) := HBPR.out.below hba
      have HVL2 : Hid (V.heap.size ≤ (w6.alloc (.cells #[.int .i64 z] 3)).heap.size) := Nat.le_trans HVL.out.1 hba.size
      have HBA := Lib.hid hba
      clear hba hbz hb6 d0 d1 d2 y2 yx yw
      refine wpList_append_ints rfl _ _ rfl V.heap.size (.slice ao k co) (.slice (some ⟨w6.heap.size, 0, none⟩) 1 1) RK [z] rfl HO6.out rfl (Ints.lit1 _ HIZ.out) (by have := HLN.out; have := HK8.out; simp only [List.length_cons, List.length_nil]; omega) HVL2.out ?_
      intro v7 w7 ho7 hg7
      obtain ⟨a7, c7, rfl⟩ := ho7.shape
      have BP7 := Lib.hid (BoxN.grownO BP6.out hg7 HO6.out HVL.out.2)
      have y7 := BP7.out.cell (i := 2) rfl
      have fr7 := BP7.out.frozen 2
      have HWZ : Hid (Within w1.heap.size (w1.heap.size + 1) V w7) := HWR.out.belowStep1 ((HBA.out.mono HVL.out.1).trans (HO6.out.grown hg7 HVL2.out))
      have HO7 := Lib.hid ho7
      clear ho7 hg7
      go_wp2_with fail
      refine NoPanic.normal ?_
      have HOT := Lib.hid ((InI.of_own HO7.out).kept (lo' := w1.heap.size) (hi' := w1.heap.size + 1) (((Within.refl _ _ w7).setCell (Nat.le_refl _) (Nat.lt_succ_self _) 2 (.slice a7 (RK ++ [z]).length c7))) (.inr (by have := HVL.out; omega))).1
      have HBT := Lib.hid (BP7.out.set 2 (.slice a7 (RK ++ [z]).length c7))
      have HWT := Lib.hid (HWZ.out.setCell (Nat.le_refl _) (Nat.lt_succ_self _) 2 (.slice a7 (RK ++ [z]).length c7))
      have HLA : Hid ((RK ++ [z]).length = RK.length + 1) := by unfold Hid; simp
      rw [HLA.out] at HOT HBT HWT
      clear y7 fr7 k0 k1
      have hk := HHK.out
      have hltk := HLTK.out
      have hk8 := HK8.out
      go_wp2_with fail
      go_roundg (nx - (k + 1))
      case measure => omega
      case rel => exact ⟨k + 1, by omega, by go_num, ⟨_, HBT.out, by rw [HSUC.out]; exact HOT.out⟩, HWT.out⟩
    · obtain rfl : nx = k := by omega
      have BRR := Lib.hid (BRV.out.kept HWR.out (.inl (by omega)))
      have P1R := Lib.hid (P1V.out.kept HWR.out (.inl (by omega)))
      have P2R := Lib.hid (P2V.out.kept HWR.out (.inr (by omega)))
      have P3R := Lib.hid (InI.of_own HOWN.out)
      have y0 := HBPR.out.cell (i := 0) rfl
      have y1 := HBPR.out.cell (i := 1) rfl
      have y2 := HBPR.out.cell (i := 2) rfl
      have r0 := BRR.out.cell (i := 0) rfl
      have r1 := BRR.out.cell (i := 1) rfl
      have r2 := BRR.out.cell (i := 2) rfl
      have fr := BRR.out.frozen
      have hne : w.heap.size + 1 ≠ w1.heap.size := by omega
      go_wp2_with fail
      obtain ⟨Z, hZ⟩ : ∃ Z, Z = ((wr.setCell ⟨w.heap.size + 1, 0, none⟩ (.slice a1 nb c1)).setCell ⟨w.heap.size + 1, 1, none⟩ (.slice (some ⟨w5.heap.size, 0, none⟩) 1 1)).setCell ⟨w.heap.size + 1, 2, none⟩ (.slice ao nx co) := ⟨_, rfl⟩
      rw [← hZ]
      have hwz : Within (w.heap.size + 1) (w.heap.size + 2) wr Z := by rw [hZ]; exact ((Within.refl _ _ _ |>.setCell (by omega) (by omega) _ _) |>.setCell (by omega) (by omega) _ _) |>.setCell (by omega) (by omega) _ _
      have hZs : Z.heap.size = wr.heap.size := by rw [hZ]; simp only [size_setC]
      have BZ : BoxN Z (w.heap.size + 1) 63 [.slice a1 nb c1, .slice (some ⟨w5.heap.size, 0, none⟩) 1 1, .slice ao nx co] := by rw [hZ]; exact ((BRR.out.set 0 _).set 1 _).set 2 _
      have hs0' := HS0.out
      have P1Z := Lib.hid (P1R.out.kept hwz (.inr (by omega)))
      have P2Z := Lib.hid (P2R.out.kept hwz (.inr (by omega)))
      have P3Z := Lib.hid (P3R.out.kept hwz (.inr (by omega)))
      have HBZ := Lib.hid (HBR.out.trans (hwz.below (B := w.heap.size) (by have := HBR.out.size; omega) (by omega)))
      have HRS : Hid (respN ⟨p, q, g⟩ E ws xs ws.length = respN ⟨p, q, g⟩ E ws xs nx) := by unfold Hid; rw [HLW.out]
      clear hZ r0 r1 r2 y0 y1 y2 fr
      have r0 := BZ.cell (i := 0) rfl
      have r1 := BZ.cell (i := 1) rfl
      have r2 := BZ.cell (i := 2) rfl
      refine bodyPost_ret (v := .tuple #[.agg #[.slice a1 nb c1, .slice (some ⟨w5.heap.size, 0, none⟩) 1 1, .slice ao nx co], .bool true]) (by simp [results, Try.results134, go_sem, r0, r1, r2]) rfl ⟨_, rfl, ⟨_, rfl, ⟨_, _, W.heap.size, w1.heap.size, w5.heap.size, Z.heap.size, rfl, (by rw [HIW.out]; exact P1Z.out), ⟨_, _, w5.heap.size, w5.heap.size + 1, w5.heap.size + 1, Z.heap.size, rfl, P2Z.out, ⟨_, _, V.heap.size, wr.heap.size, Z.heap.size, Z.heap.size, rfl, (by rw [HRS.out]; exact P3Z.out), rfl, ⟨by omega, by omega⟩, ⟨by omega, by omega⟩, by omega⟩, ⟨by omega, by omega⟩, ⟨by omega, by omega⟩, by omega⟩, ⟨by omega, by omega⟩, ⟨by omega, by omega⟩, by omega⟩⟩, HBZ.out⟩
end Go.Proofs.Yteemlmmdngkghaa
