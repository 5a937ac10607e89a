/- Proofs of bits checked at once: walks (printed by gen_bat2.py). -/
import Derived.Test.YtacpnphfopmofaaBat1P
import Derived.Test.YtacpnphfopmofaaDrI2P
import Derived.Test.YtacpnphfopmofaaInvP
import Derived.Test.YtacpnphfopmofaaOpLP
import Derived.Test.YtacpnphfopmofaaBaP
import Derived.Deep.Cut
namespace Go.Proofs.Ytacpnphfopmofaa
open Go.RowKit
set_option linter.unusedSimpArgs false
set_option linter.unusedVariables false

theorem atP_eq {ps : List ProofD} {k : Nat} (h : k < ps.length) : ps[k] = atP ps k := by simp [atP, List.getD, h]
theorem bfN_succ {gr : GroupD} {s : ByteArray} {bh : Int} {cs : List Int} {ps : List ProofD} {k : Nat} {q : Bool} (h : bfN gr s bh cs ps k = true) (h2 : bfB gr s bh (nth cs k) (atP ps k) = q) : bfN gr s bh cs ps (k + 1) = q := by
  unfold bfN; rw [h, h2, Bool.true_and]
theorem bbR_no {gr : GroupD} {s t : ByteArray} {bh : Int} {bl cs : List Int} {ps : List ProofD} (h : bfN gr s bh cs ps ps.length = false) : bbR gr s t bh bl cs ps = false := by
  unfold bbR bbV; rw [h, Bool.false_and, Bool.and_false]
theorem exp_dig {gr : GroupD} (hg : OkG gr) {l : List Int} (h : l.all (expB gr) = true) : l.all digestB = true := digests_small fun x hx => by
  have := expB_bd (List.all_eq_true.1 h x hx); have := hg.q2; have := hg.p2; exact ⟨by omega, by omega⟩
theorem nthMem {l : List Int} {k : Nat} (h : k < l.length) : nth l k ∈ l := by
  rw [show nth l k = l[k] by simp [nth, h]]; exact List.getElem_mem h
theorem bfP_small {gr : GroupD} (hg : OkG gr) (cs : List Int) (ps : List ProofD) (ds : List Int) (j : Nat) (bh : Int) : Small (bfP gr bh cs ps ds j) := by
  cases j with
  | zero => exact (⟨by decide, by decide⟩ : Small (1 : Int))
  | succ j => exact mulL_small hg _
theorem lt_two {m gk : Nat} (h : m + gk = 2) (hm : m < 2) : 2 - (m + 1) < gk := by omega
theorem bfB_len {gr : GroupD} {s : ByteArray} {bh c : Int} {d : ProofD} (h : ¬ (d.c.length = 2 ∧ d.h.length = 2 ∧ d.r.length = 2)) : bfB gr s bh c d = false := by
  unfold bfB
  cases h1 : fmB gr d 2 2 2 with
  | false => rfl
  | true => exact absurd ⟨(fmB_parts h1).1, (fmB_parts h1).2.1, (fmB_parts h1).2.2.1⟩ h
set_option maxRecDepth 100000 in
set_option maxHeartbeats 4000000 in
theorem impl_BatchBits (gr : GroupD) (bh : Int) (bv : Value) (bl : List Int) (cv : Value) (cs : List Int) (pv : Value) (ps : List ProofD) (w : World) (hb : Ints w bv bl) (ibh : I64 bh) (hcs : Ints w cv cs) (hps : RdR rProof w pv ps) :
    Calls Try.prog 22 #[.agg #[.int .i64 gr.p, .int .i64 gr.q, .int .i64 gr.g], .agg #[.int .i64 bh, bv], cv, pv] w fun e w' => e = .returned (.tuple #[.bool (bbR gr sBit sSmall bh bl cs ps), .bool (bbB gr bh bl cs ps)]) ∧ Below w.heap.size w w' := by
  obtain ⟨bva, bvn, bvc, rfl⟩ := hb.shape
  have Ebv := Lib.hid hb.len
  have Kbv := Lib.hid hb.capMax
  have Hbv := Lib.hid hb
  clear hb
  obtain ⟨cva, cvn, cvc, rfl⟩ := hcs.shape
  have Ecv := Lib.hid hcs.len
  have Kcv := Lib.hid hcs.capMax
  have Hcv := Lib.hid hcs
  clear hcs
  obtain ⟨pva, pvn, pvc, rfl⟩ := hps.shape
  have Epv := Lib.hid hps.len
  have Hpv := Lib.hid hps
  clear hps
  obtain ⟨W, hW⟩ : ∃ W, W = (w.alloc (.cells #[.int .i64 gr.p, .int .i64 gr.q, .int .i64 gr.g] 24)).alloc (.cells #[.int .i64 bh, (.slice bva bvn bvc)] 49) := ⟨_, rfl⟩
  have HB : Hid (Below w.heap.size w W) := by unfold Hid; rw [hW]; (repeat (first | exact Below.refl _ _ | assumption | refine Below.drew ?_ | refine Below.alloc ?_ (by first | (simp; done) | (simp; omega)) _ | refine Below.setCell ?_ (by first | (simp; done) | (simp; omega)) _))
  have c0_0 : W.cell? ⟨w.heap.size, 0, none⟩ = some (.int .i64 gr.p) := by rw [hW]; simp [go_sem]
  have c0_1 : W.cell? ⟨w.heap.size, 1, none⟩ = some (.int .i64 gr.q) := by rw [hW]; simp [go_sem]
  have c0_2 : W.cell? ⟨w.heap.size, 2, none⟩ = some (.int .i64 gr.g) := by rw [hW]; simp [go_sem]
  have c1_0 : W.cell? ⟨w.heap.size + 1, 0, none⟩ = some (.int .i64 bh) := by rw [hW]; simp [go_sem]
  have c1_1 : W.cell? ⟨w.heap.size + 1, 1, none⟩ = some ((.slice bva bvn bvc)) := by rw [hW]; simp [go_sem]
  have HSW : Hid (W.heap.size = w.heap.size + 2) := by unfold Hid; rw [hW]; simp
  go_enter Try.func22, Try.ntmps22
  go_wp2_with fail
  rw [← hW]
  have hse : w.heap.size + 1 + 1 = W.heap.size := by have := HSW.out; omega
  (try rw [hse])
  clear hse
  clear hW
  have hc : Below W.heap.size W W := Below.refl _ _
  have HCC : Hid (∀ u, Below W.heap.size W u → u.cell? ⟨w.heap.size, 0, none⟩ = some (.int .i64 gr.p) ∧ u.cell? ⟨w.heap.size, 1, none⟩ = some (.int .i64 gr.q) ∧ u.cell? ⟨w.heap.size, 2, none⟩ = some (.int .i64 gr.g) ∧ u.cell? ⟨w.heap.size + 1, 0, none⟩ = some (.int .i64 bh) ∧ u.cell? ⟨w.heap.size + 1, 1, none⟩ = some ((.slice bva bvn bvc))) := fun u h => ⟨box_at c0_0 h, box_at c0_1 h, box_at c0_2 h, box_at c1_0 h, box_at c1_1 h⟩
  go_wp2_with fail
  refine (impl_IsValidBases gr bh _ bl _ (Hbv.out.below (HB.out.trans (hc.mono HB.out.size))) ibh).mono ?_
  rintro e u1 ⟨rfl, hq1⟩
  replace hc := Below.next hc hq1
  clear hq1 c0_0 c0_1 c0_2 c1_0 c1_1
  obtain ⟨c0_0, c0_1, c0_2, c1_0, c1_1⟩ := HCC.out _ hc
  cases hc1 : baB gr bh bl with
  | false =>
    have Hhc1 := Lib.hid hc1
    clear hc1
    go_wp2_with fail
    have HV : Hid ((.tuple #[.bool (bbR gr sBit sSmall bh bl cs ps), .bool (bbB gr bh bl cs ps)] : Value) = .tuple #[.bool false, .bool false]) := by unfold Hid; simp [bbR, bbB, Hhc1.out]
    go_ret2
    exact ⟨congrArg Ending.returned HV.out.symm, HB.out.trans (hc.mono HB.out.size)⟩
  | true =>
    have HBA := Lib.hid (baB_parts hc1)
    have HG := Lib.hid (goodG_ok HBA.out.1)
    have sbh : Small bh := elB_small HG.out HBA.out.2.1
    have zq1 := HG.out.q1
    have zq2 := HG.out.q2
    have zp2 := HG.out.p2
    have zq3 : gr.q ≤ 2000000000 := by omega
    have zq0 : 0 < gr.q := by omega
    have zq4 : gr.q ≤ 4000000000 := by omega
    have HBA0 := Lib.hid hc1
    have Hhc1 := Lib.hid hc1
    clear hc1
    cases hc2 : decide (12 < (cvn : Int)) with
    | false =>
      have HT1 : Hid (decide (cs.length ≤ 12) = true) := by unfold Hid; have q := of_decide_eq_false hc2; exact decide_eq_true (by have := Ecv.out; have := Epv.out; omega)
      cases hc3 : ((pvn : Int) != (cvn : Int)) with
      | false =>
        have HT2 : Hid (decide (ps.length = cs.length) = true) := by unfold Hid; have q := hc3; rw [bne_eq_false_iff_eq] at q; exact decide_eq_true (by have := Ecv.out; have := Epv.out; omega)
        go_wp2_with fail
        refine (impl_hasAll gr _ cs _ HG.out (Hcv.out.below (HB.out.trans (hc.mono HB.out.size)))).mono ?_
        rintro e u2 ⟨rfl, hq2⟩
        replace hc := Below.next hc hq2
        clear hq2 c0_0 c0_1 c0_2 c1_0 c1_1
        obtain ⟨c0_0, c0_1, c0_2, c1_0, c1_1⟩ := HCC.out _ hc
        cases hc4 : cs.all (elB gr) with
        | false =>
          have Hhc4 := Lib.hid hc4
          clear hc4
          go_wp2_with fail
          have HV : Hid ((.tuple #[.bool (bbR gr sBit sSmall bh bl cs ps), .bool (bbB gr bh bl cs ps)] : Value) = .tuple #[.bool false, .bool false]) := by unfold Hid; simp [bbR, bbB, Hhc1.out, Hhc4.out, HT1.out, HT2.out]
          go_ret2
          exact ⟨congrArg Ending.returned HV.out.symm, HB.out.trans (hc.mono HB.out.size)⟩
        | true =>
          have HCA : Hid (cs.all (elB gr) = true) := hc4
          have hcv12 : cvn ≤ 12 := by have h := HT1.out; have h2 := of_decide_eq_true h; have := Ecv.out; omega
          have HPC : Hid (pvn = cvn) := by unfold Hid; have h := of_decide_eq_true HT2.out; have := Ecv.out; have := Epv.out; omega
          have HBB : Hid (bbB gr bh bl cs ps = true) := by unfold Hid bbB; rw [HBA0.out, HT1.out, HT2.out, hc4]; rfl
          have Hhc4 := Lib.hid hc4
          clear hc4
          have HBS := Lib.hid (HB.out.trans (hc.mono HB.out.size))
          have HWS := Lib.hid hc
          obtain ⟨V0, hV0⟩ : ∃ V, V = u2.alloc (.cells #[] 3) := ⟨_, rfl⟩
          have HO0 : Hid (OwnI V0 u2.heap.size (.slice (some ⟨u2.heap.size, 0, none⟩) 0 0) []) := by unfold Hid; rw [hV0]; exact OwnI.lit (B := u2.heap.size) u2 (Nat.le_refl _) AllI64.nil rfl (by simp) 0 rfl
          have HB0 : Hid (Below u2.heap.size u2 V0) := by unfold Hid; rw [hV0]; (repeat (first | exact Below.refl _ _ | assumption | refine Below.drew ?_ | refine Below.alloc ?_ (by first | (simp; done) | (simp; omega)) _ | refine Below.setCell ?_ (by first | (simp; done) | (simp; omega)) _))
          go_wp2_with fail
          rw [← hV0]
          clear hV0 hc c0_0 c0_1 c0_2 c1_0 c1_1
          go_loopg [10, 48] pvn (fun gk ov iv wr => ∃ k : Nat, k + gk = pvn ∧ iv = .int .i64 (k : Int) ∧ Hid (bfN gr sBit bh cs ps k = true) ∧ Hid (OwnI wr u2.heap.size ov (bfZ ps k)) ∧ Hid (Below u2.heap.size u2 wr))
          case atStart => exact ⟨0, by omega, rfl, rfl, HO0, HB0⟩
          case round =>
            clear HO0 HB0
            obtain ⟨k, hkg, rfl, HN, HO, HBr⟩ := hrel
            have HBW := Lib.hid (HBS.out.trans (HBr.out.mono HBS.out.size))
            have hsr := HBr.out.size
            have HLZ : Hid ((bfZ ps k).length = 2 * k) := bfZ_len k HN.out
            obtain ⟨oa, oc, rfl⟩ := HO.out.shapeN (n := 2 * k) HLZ.out
            have cc := HCC.out wr (Below.next HWS.out HBr.out)
            by_cases hlt : k < pvn
            · have hgk : pvn - (k + 1) < gk := by omega
              have hb : decide ((k : Int) < (pvn : Int)) = true := decide_eq_true (by omega)
              have hb2 : decide (k < pvn) = true := decide_eq_true hlt
              have HK : Hid (k < cs.length) := by unfold Hid; have := Ecv.out; have := HPC.out; omega
              have HK2 : Hid (k < ps.length) := by unfold Hid; have := Epv.out; omega
              have HSX : Hid (Small (nth cs k)) := elB_small HG.out (List.all_eq_true.1 HCA.out _ (by rw [show nth cs k = cs[k]'HK.out by have := HK.out; simp [nth, this]]; exact List.getElem_mem HK.out))
              obtain ⟨b1, o1, hba, hcx⟩ := Hcv.out.at_ (by have := Ecv.out; have := HK.out; omega)
              have K1 := Lib.hid (hcx k (by have := Ecv.out; have := HK.out; omega))
              have hba' := hba
              subst hba'
              clear hba hcx
              obtain ⟨bz, oz, hpa, hcx2⟩ := Hpv.out.at_ (by have := HK2.out; have := Epv.out; omega)
              have hpa' := hpa
              subst hpa'
              clear hpa
              obtain ⟨us, hcell, hrd⟩ := hcx2 k HK2.out
              clear hcx2
              obtain ⟨zca, zcn, zcc, zha, zhn, zhc, zra, zrn, zrc, ers, r1, r2, r3⟩ := rdProof.1 ⟨us, rfl, hrd⟩
              obtain rfl : us = [.slice zca zcn zcc, .slice zha zhn zhc, .slice zra zrn zrc] := by have h := Value.agg.inj ers; simpa using congrArg Array.toList h
              clear ers hrd
              have Z0 : Hid (w.cell? ⟨bz, oz + k * 3, none⟩ = some (.slice zca zcn zcc)) := by unfold Hid; have h := hcell 0 (by decide); rw [show rProof.width = 3 from rfl, Nat.add_zero] at h; exact h
              have Z1 : Hid (w.cell? ⟨bz, oz + k * 3 + 1, none⟩ = some (.slice zha zhn zhc)) := by unfold Hid; have h := hcell 1 (by decide); rw [show rProof.width = 3 from rfl, ← Nat.add_assoc] at h; exact h
              have Z2 : Hid (w.cell? ⟨bz, oz + k * 3 + 2, none⟩ = some (.slice zra zrn zrc)) := by unfold Hid; have h := hcell 2 (by decide); rw [show rProof.width = 3 from rfl, ← Nat.add_assoc] at h; exact h
              clear hcell
              rw [atP_eq HK2.out] at r1 r2 r3
              have HNS : Hid (∀ q, bfB gr sBit bh (nth cs k) (atP ps k) = q → bfN gr sBit bh cs ps (k + 1) = q) := fun q h => bfN_succ HN.out h
              have HNO : Hid (bfB gr sBit bh (nth cs k) (atP ps k) = false → bbR gr sBit sSmall bh bl cs ps = false) := fun h => bbR_no (bfN_no h _ HK2.out)
              have HZS : Hid (bfZ ps (k + 1) = bfZ ps k ++ (atP ps k).r) := rfl
              obtain ⟨X, hX⟩ : ∃ z, nth cs k = z := ⟨_, rfl⟩
              obtain ⟨Z, hZ⟩ : ∃ z, atP ps k = z := ⟨_, rfl⟩
              rw [hX] at K1 HSX HNS HNO
              rw [hZ] at r1 r2 r3 HNS HNO HZS
              clear hX hZ
              have Ezc := Lib.hid r1.len
              have Ezh := Lib.hid r2.len
              have Ezr := Lib.hid r3.len
              have Hzc := Lib.hid r1
              have Hzh := Lib.hid r2
              have Hzr := Lib.hid r3
              clear r1 r2 r3
              have b0 : (0 : Int) ≤ (k : Int) := by omega
              have bk1 : (k : Int) < (cvn : Int) := by have := HPC.out; omega
              have bk2 : (k : Int) < (pvn : Int) := by omega
              have hwk : IntKind.i64.wrap ((k : Int) + 1) = (k : Int) + 1 := IntWalk.i64_in _ (by omega)
              obtain ⟨R1, hR1⟩ : ∃ r, r = wr.heap.size := ⟨_, rfl⟩
              obtain ⟨V, hV⟩ : ∃ V, V = wr.alloc (.cells #[.slice zca zcn zcc, .slice zha zhn zhc, .slice zra zrn zrc] 115) := ⟨_, rfl⟩
              have hbV : Below wr.heap.size wr V := by rw [hV]; exact (Below.refl _ _).alloc (Nat.le_refl _) _
              have HP1 : Hid (BoxN V R1 115 [.slice zca zcn zcc, .slice zha zhn zhc, .slice zra zrn zrc]) := by unfold Hid; rw [hV, hR1]; exact BoxN.new wr [.slice zca zcn zcc, .slice zha zhn zhc, .slice zra zrn zrc] 115
              have z0 := box_at Z0.out HBW.out
              have z1 := box_at Z1.out HBW.out
              have z2 := box_at Z2.out HBW.out
              obtain ⟨c0_0, c0_1, c0_2, c1_0, c1_1⟩ := cc
              go_upto_region 7 with fail
              rw [← hV, ← hR1]
              replace c0_0 := box_at c0_0 hbV
              replace c0_1 := box_at c0_1 hbV
              replace c0_2 := box_at c0_2 hbV
              replace c1_0 := box_at c1_0 hbV
              replace c1_1 := box_at c1_1 hbV
              have HBV : Hid (Below w.heap.size w V) := HBW.out.trans (hbV.mono HBW.out.size)
              have HBrV := Lib.hid (HBr.out.trans (hbV.mono HBr.out.size))
              have HOV := Lib.hid (HO.out.below hbV)
              clear hV hbV z0 z1 z2 hR1 Z0 Z1 Z2
              have p0 := HP1.out.cell (i := 0) rfl
              have p1 := HP1.out.cell (i := 1) rfl
              have p2 := HP1.out.cell (i := 2) rfl
              clear HP1
              have y1 := box_at K1.out HBV.out
              clear K1
              have HBN : Hid (Below w.heap.size w V) := HBV
              clear HB HCC
              (try clear hc)
              obtain ⟨W, rfl⟩ : ∃ z, z = V := ⟨_, rfl⟩
              have HB := HBN
              clear HBN
              have hc : Below W.heap.size W W := Below.refl _ _
              have HCC : Hid (∀ u, Below W.heap.size W u → u.cell? ⟨w.heap.size, 0, none⟩ = some (.int .i64 gr.p) ∧ u.cell? ⟨w.heap.size, 1, none⟩ = some (.int .i64 gr.q) ∧ u.cell? ⟨w.heap.size, 2, none⟩ = some (.int .i64 gr.g) ∧ u.cell? ⟨w.heap.size + 1, 0, none⟩ = some (.int .i64 bh) ∧ u.cell? ⟨w.heap.size + 1, 1, none⟩ = some ((.slice bva bvn bvc)) ∧ u.cell? ⟨R1, 0, none⟩ = some ((.slice zca zcn zcc)) ∧ u.cell? ⟨R1, 1, none⟩ = some ((.slice zha zhn zhc)) ∧ u.cell? ⟨R1, 2, none⟩ = some ((.slice zra zrn zrc)) ∧ u.cell? ⟨b1, o1 + k, none⟩ = some (.int .i64 X)) := fun u h => ⟨box_at c0_0 h, box_at c0_1 h, box_at c0_2 h, box_at c1_0 h, box_at c1_1 h, box_at p0 h, box_at p1 h, box_at p2 h, box_at y1 h⟩
              clear HBV HBW
              cases hc5 : ((zcn : Int) != 2) with
              | false =>
                have HL1 : Hid (Z.c.length = 2) := by have q := hc5; rw [bne_eq_false_iff_eq] at q; have := Ezc.out; unfold Hid; omega
                obtain rfl : zcn = 2 := by have q := hc5; rw [bne_eq_false_iff_eq] at q; omega
                obtain ⟨zcb, zco, rfl, hx⟩ := Hzc.out.at_ (by omega)
                have Kzc0 : Hid (w.cell? ⟨zcb, zco, none⟩ = some (.int .i64 (nth Z.c 0))) := by unfold Hid; have h := hx 0 (by omega); simpa using h
                have Kzc1 : Hid (w.cell? ⟨zcb, zco + 1, none⟩ = some (.int .i64 (nth Z.c 1))) := by unfold Hid; have h := hx 1 (by omega); simpa using h
                clear hx
                have yzc0 := box_at Kzc0.out (HB.out.trans (hc.mono HB.out.size))
                have yzc1 := box_at Kzc1.out (HB.out.trans (hc.mono HB.out.size))
                replace HCC : Hid (∀ u, Below W.heap.size W u → u.cell? ⟨w.heap.size, 0, none⟩ = some (.int .i64 gr.p) ∧ u.cell? ⟨w.heap.size, 1, none⟩ = some (.int .i64 gr.q) ∧ u.cell? ⟨w.heap.size, 2, none⟩ = some (.int .i64 gr.g) ∧ u.cell? ⟨w.heap.size + 1, 0, none⟩ = some (.int .i64 bh) ∧ u.cell? ⟨w.heap.size + 1, 1, none⟩ = some ((.slice bva bvn bvc)) ∧ u.cell? ⟨R1, 0, none⟩ = some ((.slice (some ⟨zcb, zco, none⟩) 2 zcc)) ∧ u.cell? ⟨R1, 1, none⟩ = some ((.slice zha zhn zhc)) ∧ u.cell? ⟨R1, 2, none⟩ = some ((.slice zra zrn zrc)) ∧ u.cell? ⟨b1, o1 + k, none⟩ = some (.int .i64 X) ∧ u.cell? ⟨zcb, zco, none⟩ = some (.int .i64 (nth Z.c 0)) ∧ u.cell? ⟨zcb, zco + 1, none⟩ = some (.int .i64 (nth Z.c 1))) := fun u h => by obtain ⟨c0_0, c0_1, c0_2, c1_0, c1_1, p0, p1, p2, y1⟩ := HCC.out u h; exact ⟨c0_0, c0_1, c0_2, c1_0, c1_1, p0, p1, p2, y1, box_at Kzc0.out (HB.out.trans (h.mono HB.out.size)), box_at Kzc1.out (HB.out.trans (h.mono HB.out.size))⟩
                cases hc6 : ((zhn : Int) != 2) with
                | false =>
                  have HL2 : Hid (Z.h.length = 2) := by have q := hc6; rw [bne_eq_false_iff_eq] at q; have := Ezh.out; unfold Hid; omega
                  obtain rfl : zhn = 2 := by have q := hc6; rw [bne_eq_false_iff_eq] at q; omega
                  obtain ⟨zhb, zho, rfl, hx⟩ := Hzh.out.at_ (by omega)
                  have Kzh0 : Hid (w.cell? ⟨zhb, zho, none⟩ = some (.int .i64 (nth Z.h 0))) := by unfold Hid; have h := hx 0 (by omega); simpa using h
                  have Kzh1 : Hid (w.cell? ⟨zhb, zho + 1, none⟩ = some (.int .i64 (nth Z.h 1))) := by unfold Hid; have h := hx 1 (by omega); simpa using h
                  clear hx
                  have yzh0 := box_at Kzh0.out (HB.out.trans (hc.mono HB.out.size))
                  have yzh1 := box_at Kzh1.out (HB.out.trans (hc.mono HB.out.size))
                  replace HCC : Hid (∀ u, Below W.heap.size W u → u.cell? ⟨w.heap.size, 0, none⟩ = some (.int .i64 gr.p) ∧ u.cell? ⟨w.heap.size, 1, none⟩ = some (.int .i64 gr.q) ∧ u.cell? ⟨w.heap.size, 2, none⟩ = some (.int .i64 gr.g) ∧ u.cell? ⟨w.heap.size + 1, 0, none⟩ = some (.int .i64 bh) ∧ u.cell? ⟨w.heap.size + 1, 1, none⟩ = some ((.slice bva bvn bvc)) ∧ u.cell? ⟨R1, 0, none⟩ = some ((.slice (some ⟨zcb, zco, none⟩) 2 zcc)) ∧ u.cell? ⟨R1, 1, none⟩ = some ((.slice (some ⟨zhb, zho, none⟩) 2 zhc)) ∧ u.cell? ⟨R1, 2, none⟩ = some ((.slice zra zrn zrc)) ∧ u.cell? ⟨b1, o1 + k, none⟩ = some (.int .i64 X) ∧ u.cell? ⟨zcb, zco, none⟩ = some (.int .i64 (nth Z.c 0)) ∧ u.cell? ⟨zcb, zco + 1, none⟩ = some (.int .i64 (nth Z.c 1)) ∧ u.cell? ⟨zhb, zho, none⟩ = some (.int .i64 (nth Z.h 0)) ∧ u.cell? ⟨zhb, zho + 1, none⟩ = some (.int .i64 (nth Z.h 1))) := fun u h => by obtain ⟨c0_0, c0_1, c0_2, c1_0, c1_1, p0, p1, p2, y1, yzc0, yzc1⟩ := HCC.out u h; exact ⟨c0_0, c0_1, c0_2, c1_0, c1_1, p0, p1, p2, y1, yzc0, yzc1, box_at Kzh0.out (HB.out.trans (h.mono HB.out.size)), box_at Kzh1.out (HB.out.trans (h.mono HB.out.size))⟩
                  cases hc7 : ((zrn : Int) != 2) with
                  | false =>
                    have HL3 : Hid (Z.r.length = 2) := by have q := hc7; rw [bne_eq_false_iff_eq] at q; have := Ezr.out; unfold Hid; omega
                    obtain rfl : zrn = 2 := by have q := hc7; rw [bne_eq_false_iff_eq] at q; omega
                    obtain ⟨zrb, zro, rfl, hx⟩ := Hzr.out.at_ (by omega)
                    have Kzr0 : Hid (w.cell? ⟨zrb, zro, none⟩ = some (.int .i64 (nth Z.r 0))) := by unfold Hid; have h := hx 0 (by omega); simpa using h
                    have Kzr1 : Hid (w.cell? ⟨zrb, zro + 1, none⟩ = some (.int .i64 (nth Z.r 1))) := by unfold Hid; have h := hx 1 (by omega); simpa using h
                    clear hx
                    have yzr0 := box_at Kzr0.out (HB.out.trans (hc.mono HB.out.size))
                    have yzr1 := box_at Kzr1.out (HB.out.trans (hc.mono HB.out.size))
                    replace HCC : Hid (∀ u, Below W.heap.size W u → u.cell? ⟨w.heap.size, 0, none⟩ = some (.int .i64 gr.p) ∧ u.cell? ⟨w.heap.size, 1, none⟩ = some (.int .i64 gr.q) ∧ u.cell? ⟨w.heap.size, 2, none⟩ = some (.int .i64 gr.g) ∧ u.cell? ⟨w.heap.size + 1, 0, none⟩ = some (.int .i64 bh) ∧ u.cell? ⟨w.heap.size + 1, 1, none⟩ = some ((.slice bva bvn bvc)) ∧ u.cell? ⟨R1, 0, none⟩ = some ((.slice (some ⟨zcb, zco, none⟩) 2 zcc)) ∧ u.cell? ⟨R1, 1, none⟩ = some ((.slice (some ⟨zhb, zho, none⟩) 2 zhc)) ∧ u.cell? ⟨R1, 2, none⟩ = some ((.slice (some ⟨zrb, zro, none⟩) 2 zrc)) ∧ u.cell? ⟨b1, o1 + k, none⟩ = some (.int .i64 X) ∧ u.cell? ⟨zcb, zco, none⟩ = some (.int .i64 (nth Z.c 0)) ∧ u.cell? ⟨zcb, zco + 1, none⟩ = some (.int .i64 (nth Z.c 1)) ∧ u.cell? ⟨zhb, zho, none⟩ = some (.int .i64 (nth Z.h 0)) ∧ u.cell? ⟨zhb, zho + 1, none⟩ = some (.int .i64 (nth Z.h 1)) ∧ u.cell? ⟨zrb, zro, none⟩ = some (.int .i64 (nth Z.r 0)) ∧ u.cell? ⟨zrb, zro + 1, none⟩ = some (.int .i64 (nth Z.r 1))) := fun u h => by obtain ⟨c0_0, c0_1, c0_2, c1_0, c1_1, p0, p1, p2, y1, yzc0, yzc1, yzh0, yzh1⟩ := HCC.out u h; exact ⟨c0_0, c0_1, c0_2, c1_0, c1_1, p0, p1, p2, y1, yzc0, yzc1, yzh0, yzh1, box_at Kzr0.out (HB.out.trans (h.mono HB.out.size)), box_at Kzr1.out (HB.out.trans (h.mono HB.out.size))⟩
                    go_wp2_with fail
                    refine (impl_hasAll gr _ Z.c _ HG.out (Hzc.out.below (HB.out.trans (hc.mono HB.out.size)))).mono ?_
                    rintro e u3 ⟨rfl, hq3⟩
                    replace hc := Below.next hc hq3
                    clear hq3 c0_0 c0_1 c0_2 c1_0 c1_1 p0 p1 p2 y1 yzc0 yzc1 yzh0 yzh1 yzr0 yzr1
                    obtain ⟨c0_0, c0_1, c0_2, c1_0, c1_1, p0, p1, p2, y1, yzc0, yzc1, yzh0, yzh1, yzr0, yzr1⟩ := HCC.out _ hc
                    cases hc8 : Z.c.all (elB gr) with
                    | false =>
                      have HRF : Hid (bbR gr sBit sSmall bh bl cs ps = false) := HNO.out (by unfold bfB fmB; rw [hc8]; simp)
                      have Hhc8 := Lib.hid hc8
                      clear hc8
                      go_wp2_with fail
                      have HV : Hid ((.tuple #[.bool (bbR gr sBit sSmall bh bl cs ps), .bool (bbB gr bh bl cs ps)] : Value) = .tuple #[.bool false, .bool true]) := by unfold Hid; rw [HRF.out, HBB.out]
                      go_ret2
                      exact ⟨congrArg Ending.returned HV.out.symm, HB.out.trans (hc.mono HB.out.size)⟩
                    | true =>
                      have HAc := Lib.hid hc8
                      have Hhc8 := Lib.hid hc8
                      clear hc8
                      go_wp2_with fail
                      refine (impl_areExps gr _ Z.h _ HG.out (Hzh.out.below (HB.out.trans (hc.mono HB.out.size)))).mono ?_
                      rintro e u4 ⟨rfl, hq4⟩
                      replace hc := Below.next hc hq4
                      clear hq4 c0_0 c0_1 c0_2 c1_0 c1_1 p0 p1 p2 y1 yzc0 yzc1 yzh0 yzh1 yzr0 yzr1
                      obtain ⟨c0_0, c0_1, c0_2, c1_0, c1_1, p0, p1, p2, y1, yzc0, yzc1, yzh0, yzh1, yzr0, yzr1⟩ := HCC.out _ hc
                      cases hc9 : Z.h.all (expB gr) with
                      | false =>
                        have HRF : Hid (bbR gr sBit sSmall bh bl cs ps = false) := HNO.out (by unfold bfB fmB; rw [hc9]; simp)
                        have Hhc9 := Lib.hid hc9
                        clear hc9
                        go_wp2_with fail
                        have HV : Hid ((.tuple #[.bool (bbR gr sBit sSmall bh bl cs ps), .bool (bbB gr bh bl cs ps)] : Value) = .tuple #[.bool false, .bool true]) := by unfold Hid; rw [HRF.out, HBB.out]
                        go_ret2
                        exact ⟨congrArg Ending.returned HV.out.symm, HB.out.trans (hc.mono HB.out.size)⟩
                      | true =>
                        have HAh := Lib.hid hc9
                        have Hhc9 := Lib.hid hc9
                        clear hc9
                        go_wp2_with fail
                        refine (impl_areExps gr _ Z.r _ HG.out (Hzr.out.below (HB.out.trans (hc.mono HB.out.size)))).mono ?_
                        rintro e u5 ⟨rfl, hq5⟩
                        replace hc := Below.next hc hq5
                        clear hq5 c0_0 c0_1 c0_2 c1_0 c1_1 p0 p1 p2 y1 yzc0 yzc1 yzh0 yzh1 yzr0 yzr1
                        obtain ⟨c0_0, c0_1, c0_2, c1_0, c1_1, p0, p1, p2, y1, yzc0, yzc1, yzh0, yzh1, yzr0, yzr1⟩ := HCC.out _ hc
                        cases hc10 : Z.r.all (expB gr) with
                        | false =>
                          have HRF : Hid (bbR gr sBit sSmall bh bl cs ps = false) := HNO.out (by unfold bfB fmB; rw [hc10]; simp)
                          have Hhc10 := Lib.hid hc10
                          clear hc10
                          go_wp2_with fail
                          have HV : Hid ((.tuple #[.bool (bbR gr sBit sSmall bh bl cs ps), .bool (bbB gr bh bl cs ps)] : Value) = .tuple #[.bool false, .bool true]) := by unfold Hid; rw [HRF.out, HBB.out]
                          go_ret2
                          exact ⟨congrArg Ending.returned HV.out.symm, HB.out.trans (hc.mono HB.out.size)⟩
                        | true =>
                          have HAr := Lib.hid hc10
                          have HTC := Lib.hid (all_two HL1.out HAc.out)
                          have HTH := Lib.hid (all_two HL2.out HAh.out)
                          have HSB := Lib.hid (exps_bdB HAh.out)
                          have HFM : Hid (fmB gr Z 2 2 2 = true) := by unfold Hid fmB; rw [HL1.out, HL2.out, HL3.out, HAc.out, HAh.out, HAr.out]; rfl
                          have sx0 : Small (nth Z.c 0) := elB_small HG.out HTC.out.1
                          have sx1 : Small (nth Z.c 1) := elB_small HG.out HTC.out.2
                          obtain ⟨q0, q0x⟩ := expB_bd HTH.out.1
                          obtain ⟨q1, q1x⟩ := expB_bd HTH.out.2
                          have ih0 : I64 (nth Z.h 0) := ⟨by omega, by omega⟩
                          have ih1 : I64 (nth Z.h 1) := ⟨by omega, by omega⟩
                          have ews : IntKind.i64.wrap (nth Z.h 0 + nth Z.h 1) = nth Z.h 0 + nth Z.h 1 := IntWalk.i64_in _ (by omega)
                          have HNS2 : Hid (I64 (nth Z.h 0 + nth Z.h 1)) := ⟨by omega, by omega⟩
                          obtain ⟨SM, hSM⟩ : ∃ x, (nth Z.h 0 + nth Z.h 1) % gr.q = x := ⟨_, rfl⟩
                          have HSM := Lib.hid hSM
                          obtain ⟨E, hE⟩ : ∃ x, btE gr sBit bh X (nth Z.c 0) (nth Z.c 1) = x := ⟨_, rfl⟩
                          have HE := Lib.hid hE
                          have HSE : Hid (bfB gr sBit bh X Z = (SM == E)) := by unfold Hid bfB; rw [HFM.out, hSM, hE]; rfl
                          have HAS : Hid (AllSmall [bh, X, nth Z.c 0, nth Z.c 1]) := AllSmall.cons sbh (AllSmall.cons HSX.out (AllSmall.cons sx0 (AllSmall.cons sx1 AllSmall.nil)))
                          have HCB : Hid (chB gr sBit [bh, X, nth Z.c 0, nth Z.c 1] = true) := chB_yes HG.out (digests_small HAS.out) (by decide) (by simp)
                          have HCI : Hid (chI gr sBit [bh, X, nth Z.c 0, nth Z.c 1] = E) := (chI_yes HCB.out).trans HE.out
                          clear hSM hE
                          have Hhc10 := Lib.hid hc10
                          clear hc10
                          try (go_wp2_with fail)
                          refine wp_region_noPanic ?_
                          refine wp_region_P (fun w' => w'.cell? ⟨w.heap.size, 0, none⟩ = some (.int .i64 gr.p) ∧ w'.cell? ⟨w.heap.size, 1, none⟩ = some (.int .i64 gr.q) ∧ w'.cell? ⟨w.heap.size, 2, none⟩ = some (.int .i64 gr.g) ∧ w'.cell? ⟨w.heap.size + 1, 0, none⟩ = some (.int .i64 bh) ∧ w'.cell? ⟨w.heap.size + 1, 1, none⟩ = some ((.slice bva bvn bvc)) ∧ w'.cell? ⟨R1, 0, none⟩ = some ((.slice (some ⟨zcb, zco, none⟩) 2 zcc)) ∧ w'.cell? ⟨R1, 1, none⟩ = some ((.slice (some ⟨zhb, zho, none⟩) 2 zhc)) ∧ w'.cell? ⟨R1, 2, none⟩ = some ((.slice (some ⟨zrb, zro, none⟩) 2 zrc)) ∧ w'.cell? ⟨b1, o1 + k, none⟩ = some (.int .i64 X) ∧ w'.cell? ⟨zcb, zco, none⟩ = some (.int .i64 (nth Z.c 0)) ∧ w'.cell? ⟨zcb, zco + 1, none⟩ = some (.int .i64 (nth Z.c 1)) ∧ w'.cell? ⟨zhb, zho, none⟩ = some (.int .i64 (nth Z.h 0)) ∧ w'.cell? ⟨zhb, zho + 1, none⟩ = some (.int .i64 (nth Z.h 1)) ∧ w'.cell? ⟨zrb, zro, none⟩ = some (.int .i64 (nth Z.r 0)) ∧ w'.cell? ⟨zrb, zro + 1, none⟩ = some (.int .i64 (nth Z.r 1))) 24 [(0, []), (1, []), (2, [0]), (3, []), (4, []), (5, [1, 0]), (6, [0]), (7, []), (8, [0]), (9, [0]), (10, [0]), (11, []), (12, [0]), (13, [0]), (14, [0]), (15, [12, 8, 4, 0]), (16, [15, 0]), (17, [0]), (18, [0]), (19, [1]), (20, [1]), (21, [1])] [] (by kernel_rfl) (by kernel_rfl) (by kernel_rfl) rfl (fun _ _ _ _ h => h) (fun w' h => ⟨box_at c0_0 h, box_at c0_1 h, box_at c0_2 h, box_at c1_0 h, box_at c1_1 h, box_at p0 h, box_at p1 h, box_at p2 h, box_at y1 h, box_at yzc0 h, box_at yzc1 h, box_at yzh0 h, box_at yzh1 h, box_at yzr0 h, box_at yzr1 h⟩) ?_
                          simp only [pickP, pickN, List.getElem?_cons_zero, List.getElem?_cons_succ]
                          iterate 15 (refine' chainP_read _ rfl rfl (fun w' hS' => ?_) ?_; rotate_left; · (simp only [lookP, allP, Act.put, List.getElem?_cons_zero, List.getElem?_cons_succ, List.setIfInBounds_toArray, List.set_cons_zero, List.set_cons_succ]; (try dsimp only at hS'); go_simp; (try with_reducible rfl)))
                          -- 15: buildSlice 42 4 #[(0, t93), (1, t97), (2, t101), (3, t105)]
                          refine chainP_do (d := (some 106)) (fun v w => Ints w v [bh, X, (nth Z.c 0), (nth Z.c 1)]) (fun v w w' hb h => Ints.below h hb) rfl rfl (fun w' hS' => ?_) ?_
                          · simp only [lookP, allP, Act.put, List.getElem?_cons_zero, List.getElem?_cons_succ, List.setIfInBounds_toArray, List.set_cons_zero, List.set_cons_succ]
                            intro K hK
                            go_simp
                            refine hK.out _ _ ((Below.refl _ _).alloc (Nat.le_refl _) _) ?_
                            exact (OwnI.lit (B := w'.heap.size) w' (Nat.le_refl _) (l := [bh, X, (nth Z.c 0), (nth Z.c 1)]) (AllI64.cons ibh (AllI64.cons (small_64 HSX.out) (AllI64.cons (small_64 sx0) (AllI64.cons (small_64 sx1) AllI64.nil)))) rfl (by simp [maxLen]) 4 rfl).ints
                          -- 16: call { callee := value (func 86), args := #[t91, const (string { data := #[98, 105, 116] }), t106], argTypes := #[24, 9, 42] }
                          refine chainP_call (d := (some 107)) (.tuple #[.int .i64 E, .bool true]) rfl rfl (fun w' hS' => ?_) ?_
                          · simp only [lookP, allP, Act.put, List.getElem?_cons_zero, List.getElem?_cons_succ, List.setIfInBounds_toArray, List.set_cons_zero, List.set_cons_succ]
                            intro x15 hx15
                            intro K hK
                            go_simp
                            go_at_call 86
                            refine (impl_challenge gr sBit _ [bh, X, (nth Z.c 0), (nth Z.c 1)] _ HG.out hx15 (by decide) (by simp)).mono ?_
                            rintro e u ⟨rfl, hq⟩
                            rw [HCB.out, HCI.out]
                            exact hK.out _ hq
                          iterate 5 (refine' chainP_read _ rfl rfl (fun w' hS' => ?_) ?_; rotate_left; · (simp only [lookP, allP, Act.put, List.getElem?_cons_zero, List.getElem?_cons_succ, List.setIfInBounds_toArray, List.set_cons_zero, List.set_cons_succ]; (try dsimp only at hS'); go_simp; (try with_reducible rfl)))
                          refine chainP_nil (fun u6 hS' => ?_)
                          simp only [allP, Act.put, List.setIfInBounds_toArray, List.set_cons_zero, List.set_cons_succ]
                          intro x15 hx15
                          have hq6 := hS'.1
                          clear hS'
                          replace hc := Below.next hc hq6
                          clear hq6 c0_0 c0_1 c0_2 c1_0 c1_1 p0 p1 p2 y1 yzc0 yzc1 yzh0 yzh1 yzr0 yzr1
                          obtain ⟨c0_0, c0_1, c0_2, c1_0, c1_1, p0, p1, p2, y1, yzc0, yzc1, yzh0, yzh1, yzr0, yzr1⟩ := HCC.out _ hc
                          go_wp2_with fail
                          refine NoPanic.normal ?_
                          go_wp2_with fail
                          refine (impl_sumB _ Z.h gr.q _ (Hzh.out.below (HB.out.trans (hc.mono HB.out.size))) zq0 zq3 HSB.out).mono ?_
                          rintro e u7 ⟨rfl, rfl⟩
                          rw [sumM_two HL2.out, HSM.out]
                          cases hc11 : (SM != E) with
                          | false =>
                            have HN1 := Lib.hid (HNS.out true (by rw [HSE.out]; have q := hc11; rw [bne_eq_false_iff_eq] at q; exact beq_iff_eq.2 q))
                            have HOZ := Lib.hid (HOV.out.below hc)
                            have HBZ := Lib.hid (HBrV.out.trans (hc.mono HBrV.out.size))
                            have HZR := Lib.hid (Hzr.out.below (HB.out.trans (hc.mono HB.out.size)))
                            have hszz : u2.heap.size ≤ u6.heap.size := HBZ.out.size
                            go_wp2_with (at_builtin; refine wpList_append_intsN rfl _ _ rfl u2.heap.size _ _ (bfZ ps k) Z.r rfl HOZ.out rfl HZR.out (by rw [HLZ.out, HL3.out]; omega) hszz (2 * k + 2) (by rw [HLZ.out, HL3.out]) ?_; intro a9 c9 w9 hown9 hgr9; have hb9 := HOZ.out.grown hgr9 hszz; have HO9 := Lib.hid hown9; have HB9 := Lib.hid hb9; clear hown9 hgr9 hb9 c0_0 c0_1 c0_2 c1_0 c1_1 p0 p1 p2 y1 yzc0 yzc1 yzh0 yzh1 yzr0 yzr1)
                            go_roundg (pvn - (k + 1))
                            case measure => exact hgk
                            case rel => exact ⟨k + 1, by omega, by go_num, HN1, by rw [HZS.out]; exact HO9, Lib.hid (HBZ.out.trans HB9.out)⟩
                          | true =>
                            have HRF : Hid (bbR gr sBit sSmall bh bl cs ps = false) := HNO.out (by rw [HSE.out]; have q := hc11; rw [bne_iff_ne] at q; exact beq_eq_false_iff_ne.2 q)
                            go_wp2_with fail
                            have HV : Hid ((.tuple #[.bool (bbR gr sBit sSmall bh bl cs ps), .bool (bbB gr bh bl cs ps)] : Value) = .tuple #[.bool false, .bool true]) := by unfold Hid; rw [HRF.out, HBB.out]
                            go_ret2
                            exact ⟨congrArg Ending.returned HV.out.symm, HB.out.trans (hc.mono HB.out.size)⟩
                  | true =>
                    have HRF : Hid (bbR gr sBit sSmall bh bl cs ps = false) := HNO.out (bfB_len (by have q := hc7; rw [bne_iff_ne] at q; have := Ezr.out; omega))
                    go_wp2_with fail
                    have HV : Hid ((.tuple #[.bool (bbR gr sBit sSmall bh bl cs ps), .bool (bbB gr bh bl cs ps)] : Value) = .tuple #[.bool false, .bool true]) := by unfold Hid; rw [HRF.out, HBB.out]
                    go_ret2
                    exact ⟨congrArg Ending.returned HV.out.symm, HB.out.trans (hc.mono HB.out.size)⟩
                | true =>
                  have HRF : Hid (bbR gr sBit sSmall bh bl cs ps = false) := HNO.out (bfB_len (by have q := hc6; rw [bne_iff_ne] at q; have := Ezh.out; omega))
                  go_wp2_with fail
                  have HV : Hid ((.tuple #[.bool (bbR gr sBit sSmall bh bl cs ps), .bool (bbB gr bh bl cs ps)] : Value) = .tuple #[.bool false, .bool true]) := by unfold Hid; rw [HRF.out, HBB.out]
                  go_ret2
                  exact ⟨congrArg Ending.returned HV.out.symm, HB.out.trans (hc.mono HB.out.size)⟩
              | true =>
                have HRF : Hid (bbR gr sBit sSmall bh bl cs ps = false) := HNO.out (bfB_len (by have q := hc5; rw [bne_iff_ne] at q; have := Ezc.out; omega))
                go_wp2_with fail
                have HV : Hid ((.tuple #[.bool (bbR gr sBit sSmall bh bl cs ps), .bool (bbB gr bh bl cs ps)] : Value) = .tuple #[.bool false, .bool true]) := by unfold Hid; rw [HRF.out, HBB.out]
                go_ret2
                exact ⟨congrArg Ending.returned HV.out.symm, HB.out.trans (hc.mono HB.out.size)⟩
            · obtain rfl : pvn = k := by omega
              have hb : decide ((pvn : Int) < (pvn : Int)) = false := decide_eq_false (by omega)
              have hb2 : decide (pvn < pvn) = false := decide_eq_false (by omega)
              obtain ⟨c0_0, c0_1, c0_2, c1_0, c1_1⟩ := cc
              have HZD : Hid ((bfZ ps pvn).all digestB = true) := exp_dig HG.out (bfZ_exp pvn HN.out)
              have HZZ := Lib.hid HO.out.ints
              have hp12 : pvn ≤ 12 := by have := HPC.out; omega
              have ew2 : IntKind.i64.wrap (2 * (pvn : Int)) = ((2 * pvn : Nat) : Int) := by rw [show ((2 * pvn : Nat) : Int) = 2 * (pvn : Int) by push_cast; rfl]; exact IntWalk.i64_in _ (by omega)
              clear HO HBr hlt
              have HBN : Hid (Below w.heap.size w wr) := HBW
              clear HB HCC
              (try clear hc)
              obtain ⟨W, rfl⟩ : ∃ z, z = wr := ⟨_, rfl⟩
              have HB := HBN
              clear HBN
              have hc : Below W.heap.size W W := Below.refl _ _
              have HCC : Hid (∀ u, Below W.heap.size W u → u.cell? ⟨w.heap.size, 0, none⟩ = some (.int .i64 gr.p) ∧ u.cell? ⟨w.heap.size, 1, none⟩ = some (.int .i64 gr.q) ∧ u.cell? ⟨w.heap.size, 2, none⟩ = some (.int .i64 gr.g) ∧ u.cell? ⟨w.heap.size + 1, 0, none⟩ = some (.int .i64 bh) ∧ u.cell? ⟨w.heap.size + 1, 1, none⟩ = some ((.slice bva bvn bvc))) := fun u h => ⟨box_at c0_0 h, box_at c0_1 h, box_at c0_2 h, box_at c1_0 h, box_at c1_1 h⟩
              clear HBW
              go_wp2_with fail
              refine (impl_smallExponents gr _ (bfZ ps pvn) (2 * pvn) _ HG.out (HZZ.out.below hc) HZD.out (by have := bfZ_len pvn HN.out; omega) (by omega)).mono ?_
              rintro e u3 ⟨⟨vd, rfl, hds⟩, hq3⟩
              obtain ⟨da, dn, dc, rfl⟩ := hds.shape
              have HDN : Hid (dn = 2 * pvn) := by have h := hds.len; rw [sxE_len] at h; exact h.symm
              obtain ⟨DS, hDS⟩ : ∃ z, sxE gr sSmall (bfZ ps pvn) (2 * pvn) = z := ⟨_, rfl⟩
              have HDD : Hid (DS.length = 2 * pvn) := by unfold Hid; rw [← hDS]; exact sxE_len ..
              have HDI : Hid (∀ j, j < 2 * pvn → 1 ≤ nth DS j ∧ nth DS j ≤ 65535) := by
                intro j hj
                rw [← hDS, sxE_nth _ _ _ hj]
                exact sxI_bd HG.out.q1 _ _ _
              rw [hDS] at hds
              have HDS := Lib.hid hDS
              have HDT := Lib.hid hds
              clear hds hDS HZZ HZD
              replace hc := Below.next hc hq3
              clear hq3 c0_0 c0_1 c0_2 c1_0 c1_1
              obtain ⟨c0_0, c0_1, c0_2, c1_0, c1_1⟩ := HCC.out _ hc
              go_wp2_with fail
              have HBS := Lib.hid (HB.out.trans (hc.mono HB.out.size))
              have HWS := Lib.hid hc
              have HB0 := Lib.hid (Below.refl u3.heap.size u3)
              clear hc c0_0 c0_1 c0_2 c1_0 c1_1
              go_loopg [17, 135] pvn (fun gk pv iv wr => ∃ k : Nat, k + gk = pvn ∧ iv = .int .i64 (k : Int) ∧ pv = .int .i64 (bfP gr bh cs ps DS (2 * k)) ∧ Hid (Below u3.heap.size u3 wr))
              case atStart => exact ⟨0, by omega, rfl, rfl, HB0⟩
              case round =>
                clear HB0
                obtain ⟨k, hkg, rfl, rfl, HBr⟩ := hrel
                have HBW := Lib.hid (HBS.out.trans (HBr.out.mono HBS.out.size))
                have hsr := HBr.out.size
                have cc := HCC.out wr (Below.next HWS.out HBr.out)
                by_cases hlt : k < pvn
                · have hgk : pvn - (k + 1) < gk := by omega
                  have hb : decide ((k : Int) < (pvn : Int)) = true := decide_eq_true (by omega)
                  have hb2 : decide (k < pvn) = true := decide_eq_true hlt
                  have HO : Hid (OwnI wr 0 (.slice none 0 0) []) := OwnI.nil _ _
                  have HK : Hid (k < cs.length) := by unfold Hid; have := Ecv.out; have := HPC.out; omega
                  have HK2 : Hid (k < ps.length) := by unfold Hid; have := Epv.out; omega
                  have HSX : Hid (Small (nth cs k)) := elB_small HG.out (List.all_eq_true.1 HCA.out _ (by rw [show nth cs k = cs[k]'HK.out by have := HK.out; simp [nth, this]]; exact List.getElem_mem HK.out))
                  obtain ⟨b1, o1, hba, hcx⟩ := Hcv.out.at_ (by have := Ecv.out; have := HK.out; omega)
                  have K1 := Lib.hid (hcx k (by have := Ecv.out; have := HK.out; omega))
                  have hba' := hba
                  subst hba'
                  clear hba hcx
                  obtain ⟨bz, oz, hpa, hcx2⟩ := Hpv.out.at_ (by have := HK2.out; have := Epv.out; omega)
                  have hpa' := hpa
                  subst hpa'
                  clear hpa
                  obtain ⟨us, hcell, hrd⟩ := hcx2 k HK2.out
                  clear hcx2
                  obtain ⟨zca, zcn, zcc, zha, zhn, zhc, zra, zrn, zrc, ers, r1, r2, r3⟩ := rdProof.1 ⟨us, rfl, hrd⟩
                  obtain rfl : us = [.slice zca zcn zcc, .slice zha zhn zhc, .slice zra zrn zrc] := by have h := Value.agg.inj ers; simpa using congrArg Array.toList h
                  clear ers hrd
                  have Z0 : Hid (w.cell? ⟨bz, oz + k * 3, none⟩ = some (.slice zca zcn zcc)) := by unfold Hid; have h := hcell 0 (by decide); rw [show rProof.width = 3 from rfl, Nat.add_zero] at h; exact h
                  have Z1 : Hid (w.cell? ⟨bz, oz + k * 3 + 1, none⟩ = some (.slice zha zhn zhc)) := by unfold Hid; have h := hcell 1 (by decide); rw [show rProof.width = 3 from rfl, ← Nat.add_assoc] at h; exact h
                  have Z2 : Hid (w.cell? ⟨bz, oz + k * 3 + 2, none⟩ = some (.slice zra zrn zrc)) := by unfold Hid; have h := hcell 2 (by decide); rw [show rProof.width = 3 from rfl, ← Nat.add_assoc] at h; exact h
                  clear hcell
                  rw [atP_eq HK2.out] at r1 r2 r3
                  have HBF : Hid (bfB gr sBit bh (nth cs k) (atP ps k) = true) := bfN_at pvn HN.out k (by omega)
                  have HPS : Hid (∀ m, m < 2 → bfP gr bh cs ps DS (2 * k + m + 1) = mulL gr [bfP gr bh cs ps DS (2 * k + m), powE gr (bfT gr bh (nth cs k) (atP ps k) m) (nth DS (2 * k + m))]) := fun m hm => bfP_succ gr bh cs ps DS k m hm
                  obtain ⟨X, hX⟩ : ∃ z, nth cs k = z := ⟨_, rfl⟩
                  obtain ⟨Z, hZ⟩ : ∃ z, atP ps k = z := ⟨_, rfl⟩
                  rw [hX] at K1 HSX HBF HPS
                  rw [hZ] at r1 r2 r3 HBF HPS
                  clear hX hZ
                  have Ezc := Lib.hid r1.len
                  have Ezh := Lib.hid r2.len
                  have Ezr := Lib.hid r3.len
                  have Hzc := Lib.hid r1
                  have Hzh := Lib.hid r2
                  have Hzr := Lib.hid r3
                  clear r1 r2 r3
                  have b0 : (0 : Int) ≤ (k : Int) := by omega
                  have bk1 : (k : Int) < (cvn : Int) := by have := HPC.out; omega
                  have bk2 : (k : Int) < (pvn : Int) := by omega
                  have hwk : IntKind.i64.wrap ((k : Int) + 1) = (k : Int) + 1 := IntWalk.i64_in _ (by omega)
                  obtain ⟨R1, hR1⟩ : ∃ r, r = wr.heap.size := ⟨_, rfl⟩
                  obtain ⟨V, hV⟩ : ∃ V, V = wr.alloc (.cells #[.slice zca zcn zcc, .slice zha zhn zhc, .slice zra zrn zrc] 115) := ⟨_, rfl⟩
                  have hbV : Below wr.heap.size wr V := by rw [hV]; exact (Below.refl _ _).alloc (Nat.le_refl _) _
                  have HP1 : Hid (BoxN V R1 115 [.slice zca zcn zcc, .slice zha zhn zhc, .slice zra zrn zrc]) := by unfold Hid; rw [hV, hR1]; exact BoxN.new wr [.slice zca zcn zcc, .slice zha zhn zhc, .slice zra zrn zrc] 115
                  have z0 := box_at Z0.out HBW.out
                  have z1 := box_at Z1.out HBW.out
                  have z2 := box_at Z2.out HBW.out
                  obtain ⟨c0_0, c0_1, c0_2, c1_0, c1_1⟩ := cc
                  go_upto_region 21 with fail
                  rw [← hV, ← hR1]
                  replace c0_0 := box_at c0_0 hbV
                  replace c0_1 := box_at c0_1 hbV
                  replace c0_2 := box_at c0_2 hbV
                  replace c1_0 := box_at c1_0 hbV
                  replace c1_1 := box_at c1_1 hbV
                  have HBV : Hid (Below w.heap.size w V) := HBW.out.trans (hbV.mono HBW.out.size)
                  have HBrV := Lib.hid (HBr.out.trans (hbV.mono HBr.out.size))
                  have HOV := Lib.hid (HO.out.below hbV)
                  clear hV hbV z0 z1 z2 hR1 Z0 Z1 Z2
                  have p0 := HP1.out.cell (i := 0) rfl
                  have p1 := HP1.out.cell (i := 1) rfl
                  have p2 := HP1.out.cell (i := 2) rfl
                  clear HP1
                  have y1 := box_at K1.out HBV.out
                  clear K1
                  clear HOV HO
                  have HFB : Hid (fmB gr Z 2 2 2 = true) := by have h := HBF.out; unfold bfB at h; rw [Bool.and_eq_true] at h; exact h.1
                  have HFP := Lib.hid (fmB_parts HFB.out)
                  clear HFB HBF
                  obtain rfl : zcn = 2 := by have := HFP.out.1; have := Ezc.out; omega
                  obtain rfl : zhn = 2 := by have := HFP.out.2.1; have := Ezh.out; omega
                  obtain rfl : zrn = 2 := by have := HFP.out.2.2.1; have := Ezr.out; omega
                  obtain ⟨zcb, zco, hq, hxzc⟩ := Hzc.out.at_ (by omega)
                  have hq' := hq
                  subst hq'
                  clear hq
                  have HXzc : Hid (∀ i, i < 2 → w.cell? ⟨zcb, zco + i, none⟩ = some (.int .i64 (nth Z.c i))) := fun i hi => hxzc i hi
                  clear hxzc
                  obtain ⟨zhb, zho, hq, hxzh⟩ := Hzh.out.at_ (by omega)
                  have hq' := hq
                  subst hq'
                  clear hq
                  have HXzh : Hid (∀ i, i < 2 → w.cell? ⟨zhb, zho + i, none⟩ = some (.int .i64 (nth Z.h i))) := fun i hi => hxzh i hi
                  clear hxzh
                  obtain ⟨zrb, zro, hq, hxzr⟩ := Hzr.out.at_ (by omega)
                  have hq' := hq
                  subst hq'
                  clear hq
                  have HXzr : Hid (∀ i, i < 2 → w.cell? ⟨zrb, zro + i, none⟩ = some (.int .i64 (nth Z.r i))) := fun i hi => hxzr i hi
                  clear hxzr
                  have HBN : Hid (Below w.heap.size w V) := HBV
                  clear HB HCC
                  (try clear hc)
                  obtain ⟨W, rfl⟩ : ∃ z, z = V := ⟨_, rfl⟩
                  have HB := HBN
                  clear HBN
                  have hc : Below W.heap.size W W := Below.refl _ _
                  have HCC : Hid (∀ u, Below W.heap.size W u → u.cell? ⟨w.heap.size, 0, none⟩ = some (.int .i64 gr.p) ∧ u.cell? ⟨w.heap.size, 1, none⟩ = some (.int .i64 gr.q) ∧ u.cell? ⟨w.heap.size, 2, none⟩ = some (.int .i64 gr.g) ∧ u.cell? ⟨w.heap.size + 1, 0, none⟩ = some (.int .i64 bh) ∧ u.cell? ⟨w.heap.size + 1, 1, none⟩ = some ((.slice bva bvn bvc)) ∧ u.cell? ⟨R1, 0, none⟩ = some ((.slice (some ⟨zcb, zco, none⟩) 2 zcc)) ∧ u.cell? ⟨R1, 1, none⟩ = some ((.slice (some ⟨zhb, zho, none⟩) 2 zhc)) ∧ u.cell? ⟨R1, 2, none⟩ = some ((.slice (some ⟨zrb, zro, none⟩) 2 zrc)) ∧ u.cell? ⟨b1, o1 + k, none⟩ = some (.int .i64 X)) := fun u h => ⟨box_at c0_0 h, box_at c0_1 h, box_at c0_2 h, box_at c1_0 h, box_at c1_1 h, box_at p0 h, box_at p1 h, box_at p2 h, box_at y1 h⟩
                  clear HBV HBW
                  go_wp2_with fail
                  clear hc c0_0 c0_1 c0_2 c1_0 c1_1 p0 p1 p2 y1
                  go_loopg [17, 143] 2 (fun gm pv iv wr => ∃ m : Nat, m + gm = 2 ∧ iv = .int .i64 (m : Int) ∧ pv = .int .i64 (bfP gr bh cs ps DS (2 * k + m)) ∧ Hid (Below W.heap.size W wr))
                  case atStart => exact ⟨0, by omega, rfl, rfl, Below.refl _ _⟩
                  case round =>
                    obtain ⟨m, hmg, rfl, rfl, HBi⟩ := hrel
                    have HBU := Lib.hid (HBrV.out.trans (HBi.out.mono HBrV.out.size))
                    have hsi := HBU.out.size
                    have cc := HCC.out wr HBi.out
                    by_cases hm : m < 2
                    · obtain ⟨c0_0, c0_1, c0_2, c1_0, c1_1, p0, p1, p2, y1⟩ := cc
                      have hgm : 2 - (m + 1) < gk := lt_two hmg hm
                      have hb : decide ((m : Int) < 2) = true := decide_eq_true (by omega)
                      have hb2 : decide (m < 2) = true := decide_eq_true hm
                      have hb3 : decide ((m : Int) < ((2 : Nat) : Int)) = true := decide_eq_true (by omega)
                      have HBD := Lib.hid (HB.out.trans (HBi.out.mono HB.out.size))
                      have x0 := box_at (HXzc.out m hm) HBD.out
                      have x1 := box_at (HXzh.out m hm) HBD.out
                      have x2 := box_at (HXzr.out m hm) HBD.out
                      obtain ⟨dbk, dof, hdq, hxd⟩ := HDT.out.at_ (by have := HDN.out; omega)
                      have hdq' := hdq
                      subst hdq'
                      clear hdq
                      obtain ⟨J, hJ⟩ : ∃ z : Nat, 2 * k + m = z := ⟨_, rfl⟩
                      have hJ2 : J < 2 * pvn := by omega
                      have x3 := box_at (hxd J (by have := HDN.out; omega)) HBU.out
                      clear hxd
                      have sxc : Small (nth Z.c m) := elB_small HG.out (List.all_eq_true.1 HFP.out.2.2.2.1 _ (nthMem (by have := HFP.out.1; omega)))
                      obtain ⟨xh1, xh2⟩ := expB_bd (List.all_eq_true.1 HFP.out.2.2.2.2.1 _ (nthMem (l := Z.h) (k := m) (by have := HFP.out.2.1; omega)))
                      obtain ⟨xr1, xr2⟩ := expB_bd (List.all_eq_true.1 HFP.out.2.2.2.2.2 _ (nthMem (l := Z.r) (k := m) (by have := HFP.out.2.2.1; omega)))
                      have xd12 := HDI.out J hJ2
                      have HRS : Hid (bfP gr bh cs ps DS (2 * k + m + 1) = mulL gr [bfP gr bh cs ps DS (2 * k + m), powE gr (bfT gr bh X Z m) (nth DS (2 * k + m))]) := HPS.out m hm
                      have HJ1 : Hid (bfP gr bh cs ps DS (2 * k + (m + 1)) = bfP gr bh cs ps DS (2 * k + m + 1)) := rfl
                      have HRT : Hid (bfT gr bh X Z m = mulL gr [powE gr bh (nth Z.r m), powE gr (mulL gr [nth Z.c m, powE gr (bcI gr X (m : Int)) (nth Z.h m)]) (-1)]) := rfl
                      have ewA : IntKind.i64.wrap (2 * (k : Int)) = 2 * (k : Int) := IntWalk.i64_in _ (by omega)
                      have ewB : IntKind.i64.wrap (2 * (k : Int) + (m : Int)) = (J : Int) := by rw [show (J : Int) = 2 * (k : Int) + (m : Int) by omega]; exact IntWalk.i64_in _ (by omega)
                      rw [hJ] at HRS HJ1
                      rw [hJ]
                      clear hJ
                      obtain ⟨XC, hXC⟩ : ∃ z, nth Z.c m = z := ⟨_, rfl⟩
                      obtain ⟨XH, hXH⟩ : ∃ z, nth Z.h m = z := ⟨_, rfl⟩
                      obtain ⟨XR, hXR⟩ : ∃ z, nth Z.r m = z := ⟨_, rfl⟩
                      obtain ⟨XD, hXD⟩ : ∃ z, nth DS J = z := ⟨_, rfl⟩
                      rw [hXC] at x0 sxc HRT
                      rw [hXH] at x1 xh1 xh2 HRT
                      rw [hXR] at x2 xr1 xr2 HRT
                      rw [hXD] at x3 xd12 HRS
                      clear hXC hXH hXR hXD
                      have ixh : I64 XH := ⟨by omega, by omega⟩
                      have ixr : I64 XR := ⟨by omega, by omega⟩
                      have ixd : I64 XD := ⟨by omega, by omega⟩
                      obtain ⟨BC, hBC⟩ : ∃ z, bcI gr X (m : Int) = z := ⟨_, rfl⟩
                      have sBC : Small BC := hBC ▸ bcI_small HG.out HSX.out (m : Int)
                      have HBC := Lib.hid hBC
                      rw [hBC] at HRT
                      obtain ⟨TT, hTT⟩ : ∃ z, bfT gr bh X Z m = z := ⟨_, rfl⟩
                      have sTT : Small TT := hTT ▸ mulL_small HG.out _
                      rw [hTT] at HRS HRT
                      clear hBC hTT
                      obtain ⟨PV, hPV⟩ : ∃ z, bfP gr bh cs ps DS J = z := ⟨_, rfl⟩
                      have sPV : Small PV := hPV ▸ bfP_small HG.out cs ps DS J bh
                      rw [hPV] at HRS ⊢
                      clear hPV
                      have bm0 : (0 : Int) ≤ (m : Int) := by omega
                      have bm1 : (m : Int) < 2 := by omega
                      have bj0 : (0 : Int) ≤ (J : Int) := by omega
                      have bj1 : (J : Int) < (dn : Int) := by have := HDN.out; omega
                      have hwm : IntKind.i64.wrap ((m : Int) + 1) = (m : Int) + 1 := IntWalk.i64_in _ (by omega)
                      have HBN : Hid (Below w.heap.size w wr) := HBD
                      clear HB HCC
                      (try clear hc)
                      obtain ⟨W, rfl⟩ : ∃ z, z = wr := ⟨_, rfl⟩
                      have HB := HBN
                      clear HBN
                      have hc : Below W.heap.size W W := Below.refl _ _
                      have HCC : Hid (∀ u, Below W.heap.size W u → u.cell? ⟨w.heap.size, 0, none⟩ = some (.int .i64 gr.p) ∧ u.cell? ⟨w.heap.size, 1, none⟩ = some (.int .i64 gr.q) ∧ u.cell? ⟨w.heap.size, 2, none⟩ = some (.int .i64 gr.g) ∧ u.cell? ⟨w.heap.size + 1, 0, none⟩ = some (.int .i64 bh) ∧ u.cell? ⟨w.heap.size + 1, 1, none⟩ = some ((.slice bva bvn bvc)) ∧ u.cell? ⟨R1, 0, none⟩ = some ((.slice (some ⟨zcb, zco, none⟩) 2 zcc)) ∧ u.cell? ⟨R1, 1, none⟩ = some ((.slice (some ⟨zhb, zho, none⟩) 2 zhc)) ∧ u.cell? ⟨R1, 2, none⟩ = some ((.slice (some ⟨zrb, zro, none⟩) 2 zrc)) ∧ u.cell? ⟨b1, o1 + k, none⟩ = some (.int .i64 X) ∧ u.cell? ⟨zcb, zco + m, none⟩ = some (.int .i64 XC) ∧ u.cell? ⟨zhb, zho + m, none⟩ = some (.int .i64 XH) ∧ u.cell? ⟨zrb, zro + m, none⟩ = some (.int .i64 XR) ∧ u.cell? ⟨dbk, dof + J, none⟩ = some (.int .i64 XD)) := fun u h => ⟨box_at c0_0 h, box_at c0_1 h, box_at c0_2 h, box_at c1_0 h, box_at c1_1 h, box_at p0 h, box_at p1 h, box_at p2 h, box_at y1 h, box_at x0 h, box_at x1 h, box_at x2 h, box_at x3 h⟩
                      clear HBD
                      try (go_wp2_with fail)
                      refine wp_region_noPanic ?_
                      refine wp_region_P (fun w' => w'.cell? ⟨w.heap.size, 0, none⟩ = some (.int .i64 gr.p) ∧ w'.cell? ⟨w.heap.size, 1, none⟩ = some (.int .i64 gr.q) ∧ w'.cell? ⟨w.heap.size, 2, none⟩ = some (.int .i64 gr.g) ∧ w'.cell? ⟨w.heap.size + 1, 0, none⟩ = some (.int .i64 bh) ∧ w'.cell? ⟨w.heap.size + 1, 1, none⟩ = some ((.slice bva bvn bvc)) ∧ w'.cell? ⟨R1, 0, none⟩ = some ((.slice (some ⟨zcb, zco, none⟩) 2 zcc)) ∧ w'.cell? ⟨R1, 1, none⟩ = some ((.slice (some ⟨zhb, zho, none⟩) 2 zhc)) ∧ w'.cell? ⟨R1, 2, none⟩ = some ((.slice (some ⟨zrb, zro, none⟩) 2 zrc)) ∧ w'.cell? ⟨b1, o1 + k, none⟩ = some (.int .i64 X) ∧ w'.cell? ⟨zcb, zco + m, none⟩ = some (.int .i64 XC) ∧ w'.cell? ⟨zhb, zho + m, none⟩ = some (.int .i64 XH) ∧ w'.cell? ⟨zrb, zro + m, none⟩ = some (.int .i64 XR) ∧ w'.cell? ⟨dbk, dof + J, none⟩ = some (.int .i64 XD)) 32 [(0, []), (1, []), (2, []), (3, [0]), (4, []), (5, [0]), (6, []), (7, [1, 0]), (8, [0]), (9, [7, 5, 0]), (10, []), (11, []), (12, []), (13, []), (14, []), (15, []), (16, [1, 0]), (17, [0]), (18, []), (19, [5, 1, 0]), (20, []), (21, [0]), (22, []), (23, [1, 0]), (24, [0]), (25, [12, 5, 0]), (26, [14, 0]), (27, [16, 0]), (28, [27, 18, 0]), (29, [0])] [] (by kernel_rfl) (by kernel_rfl) (by kernel_rfl) rfl (fun _ _ _ _ h => h) (fun w' h => ⟨box_at c0_0 h, box_at c0_1 h, box_at c0_2 h, box_at c1_0 h, box_at c1_1 h, box_at p0 h, box_at p1 h, box_at p2 h, box_at y1 h, box_at x0 h, box_at x1 h, box_at x2 h, box_at x3 h⟩) ?_
                      simp only [pickP, pickN, List.getElem?_cons_zero, List.getElem?_cons_succ]
                      iterate 9 (refine' chainP_read _ rfl rfl (fun w' hS' => ?_) ?_; rotate_left; · (simp only [lookP, allP, Act.put, List.getElem?_cons_zero, List.getElem?_cons_succ, List.setIfInBounds_toArray, List.set_cons_zero, List.set_cons_succ]; (try dsimp only at hS'); go_simp; (try with_reducible rfl)))
                      -- 9: call { callee := value (func 51), args := #[t149, t151, t156], argTypes := #[24, 3, 3] }
                      refine chainP_call (d := (some 157)) (.int .i64 (powE gr bh XR)) rfl rfl (fun w' hS' => ?_) ?_
                      · simp only [lookP, allP, Act.put, List.getElem?_cons_zero, List.getElem?_cons_succ, List.setIfInBounds_toArray, List.set_cons_zero, List.set_cons_succ]
                        intro K hK
                        go_simp
                        go_at_call 51
                        refine (impl_pow gr bh XR _ HG.out sbh ixr).mono ?_
                        rintro e u ⟨rfl, hq⟩
                        exact hK.out _ hq
                      iterate 9 (refine' chainP_read _ rfl rfl (fun w' hS' => ?_) ?_; rotate_left; · (simp only [lookP, allP, Act.put, List.getElem?_cons_zero, List.getElem?_cons_succ, List.setIfInBounds_toArray, List.set_cons_zero, List.set_cons_succ]; (try dsimp only at hS'); go_simp; (try with_reducible rfl)))
                      -- 19: call { callee := value (func 91), args := #[t161, t165, t166], argTypes := #[24, 3, 3] }
                      refine chainP_call (d := (some 167)) (.int .i64 BC) rfl rfl (fun w' hS' => ?_) ?_
                      · simp only [lookP, allP, Act.put, List.getElem?_cons_zero, List.getElem?_cons_succ, List.setIfInBounds_toArray, List.set_cons_zero, List.set_cons_succ]
                        intro K hK
                        go_simp
                        go_at_call 91
                        refine (impl_bitCase gr X (m : Int) _ HG.out HSX.out).mono ?_
                        rintro e u ⟨rfl, hq⟩
                        rw [HBC.out]
                        exact hK.out _ hq
                      iterate 5 (refine' chainP_read _ rfl rfl (fun w' hS' => ?_) ?_; rotate_left; · (simp only [lookP, allP, Act.put, List.getElem?_cons_zero, List.getElem?_cons_succ, List.setIfInBounds_toArray, List.set_cons_zero, List.set_cons_succ]; (try dsimp only at hS'); go_simp; (try with_reducible rfl)))
                      -- 25: call { callee := value (func 51), args := #[t160, t167, t172], argTypes := #[24, 3, 3] }
                      refine chainP_call (d := (some 173)) (.int .i64 (powE gr BC XH)) rfl rfl (fun w' hS' => ?_) ?_
                      · simp only [lookP, allP, Act.put, List.getElem?_cons_zero, List.getElem?_cons_succ, List.setIfInBounds_toArray, List.set_cons_zero, List.set_cons_succ]
                        intro K hK
                        go_simp
                        go_at_call 51
                        refine (impl_pow gr BC XH _ HG.out sBC ixh).mono ?_
                        rintro e u ⟨rfl, hq⟩
                        exact hK.out _ hq
                      -- 26: buildSlice 42 2 #[(0, t159), (1, t173)]
                      refine chainP_do (d := (some 174)) (fun v w => Ints w v [XC, powE gr BC XH]) (fun v w w' hb h => Ints.below h hb) rfl rfl (fun w' hS' => ?_) ?_
                      · simp only [lookP, allP, Act.put, List.getElem?_cons_zero, List.getElem?_cons_succ, List.setIfInBounds_toArray, List.set_cons_zero, List.set_cons_succ]
                        intro K hK
                        go_simp
                        refine hK.out _ _ ((Below.refl _ _).alloc (Nat.le_refl _) _) ?_
                        exact (OwnI.lit (B := w'.heap.size) w' (Nat.le_refl _) (l := [XC, powE gr BC XH]) (AllI64.cons (small_64 sxc) (AllI64.cons (small_64 (powE_small HG.out _ _)) AllI64.nil)) rfl (by simp [maxLen]) 2 rfl).ints
                      -- 27: call { callee := value (func 90), args := #[t158, t174], argTypes := #[24, 42] }
                      refine chainP_call (d := (some 175)) (.int .i64 (mulL gr [XC, powE gr BC XH])) rfl rfl (fun w' hS' => ?_) ?_
                      · simp only [lookP, allP, Act.put, List.getElem?_cons_zero, List.getElem?_cons_succ, List.setIfInBounds_toArray, List.set_cons_zero, List.set_cons_succ]
                        intro x26 hx26
                        intro K hK
                        go_simp
                        go_at_call 90
                        refine (impl_mul gr _ [XC, powE gr BC XH] _ HG.out hx26 (AllSmall.cons sxc (AllSmall.cons (powE_small HG.out _ _) AllSmall.nil))).mono ?_
                        rintro e u ⟨rfl, hq⟩
                        exact hK.out _ hq
                      -- 28: call { callee := value (func 89), args := #[t148, t157, t175], argTypes := #[24, 3, 3] }
                      refine chainP_call (d := (some 176)) (.int .i64 TT) rfl rfl (fun w' hS' => ?_) ?_
                      · simp only [lookP, allP, Act.put, List.getElem?_cons_zero, List.getElem?_cons_succ, List.setIfInBounds_toArray, List.set_cons_zero, List.set_cons_succ]
                        intro K hK
                        go_simp
                        go_at_call 89
                        refine (impl_over gr (powE gr bh XR) (mulL gr [XC, powE gr BC XH]) _ HG.out (powE_small HG.out _ _) (mulL_small HG.out _)).mono ?_
                        rintro e u ⟨rfl, hq⟩
                        rw [← HRT.out]
                        exact hK.out _ hq
                      -- 29: assign t176
                      refine' chainP_read (d := (some 22)) _ rfl rfl (fun w' hS' => ?_) ?_; rotate_left
                      · simp only [lookP, allP, Act.put, List.getElem?_cons_zero, List.getElem?_cons_succ, List.setIfInBounds_toArray, List.set_cons_zero, List.set_cons_succ]
                        (try dsimp only at hS')
                        go_simp
                        (try with_reducible rfl)
                      refine chainP_nil (fun u4 hS' => ?_)
                      simp only [allP, Act.put, List.setIfInBounds_toArray, List.set_cons_zero, List.set_cons_succ]
                      intro x26 hx26
                      have hq4 := hS'.1
                      clear hS'
                      replace hc := Below.next hc hq4
                      clear hq4 c0_0 c0_1 c0_2 c1_0 c1_1 p0 p1 p2 y1 x0 x1 x2 x3
                      obtain ⟨c0_0, c0_1, c0_2, c1_0, c1_1, p0, p1, p2, y1, x0, x1, x2, x3⟩ := HCC.out _ hc
                      go_wp2_with fail
                      refine NoPanic.normal ?_
                      try (go_wp2_with fail)
                      refine wp_region_noPanic ?_
                      refine wp_region_P (fun w' => w'.cell? ⟨w.heap.size, 0, none⟩ = some (.int .i64 gr.p) ∧ w'.cell? ⟨w.heap.size, 1, none⟩ = some (.int .i64 gr.q) ∧ w'.cell? ⟨w.heap.size, 2, none⟩ = some (.int .i64 gr.g) ∧ w'.cell? ⟨w.heap.size + 1, 0, none⟩ = some (.int .i64 bh) ∧ w'.cell? ⟨w.heap.size + 1, 1, none⟩ = some ((.slice bva bvn bvc)) ∧ w'.cell? ⟨R1, 0, none⟩ = some ((.slice (some ⟨zcb, zco, none⟩) 2 zcc)) ∧ w'.cell? ⟨R1, 1, none⟩ = some ((.slice (some ⟨zhb, zho, none⟩) 2 zhc)) ∧ w'.cell? ⟨R1, 2, none⟩ = some ((.slice (some ⟨zrb, zro, none⟩) 2 zrc)) ∧ w'.cell? ⟨b1, o1 + k, none⟩ = some (.int .i64 X) ∧ w'.cell? ⟨zcb, zco + m, none⟩ = some (.int .i64 XC) ∧ w'.cell? ⟨zhb, zho + m, none⟩ = some (.int .i64 XH) ∧ w'.cell? ⟨zrb, zro + m, none⟩ = some (.int .i64 XR) ∧ w'.cell? ⟨dbk, dof + J, none⟩ = some (.int .i64 XD)) 17 [(0, []), (1, []), (2, []), (3, []), (4, []), (5, []), (6, [0]), (7, []), (8, [1, 0]), (9, [4, 0]), (10, [0]), (11, [8, 7, 0]), (12, [10, 0]), (13, [12, 0]), (14, [0])] [] (by kernel_rfl) (by kernel_rfl) (by kernel_rfl) rfl (fun _ _ _ _ h => h) (fun w' h => ⟨box_at c0_0 h, box_at c0_1 h, box_at c0_2 h, box_at c1_0 h, box_at c1_1 h, box_at p0 h, box_at p1 h, box_at p2 h, box_at y1 h, box_at x0 h, box_at x1 h, box_at x2 h, box_at x3 h⟩) ?_
                      simp only [pickP, pickN, List.getElem?_cons_zero, List.getElem?_cons_succ]
                      iterate 11 (refine' chainP_read _ rfl rfl (fun w' hS' => ?_) ?_; rotate_left; · (simp only [lookP, allP, Act.put, List.getElem?_cons_zero, List.getElem?_cons_succ, List.setIfInBounds_toArray, List.set_cons_zero, List.set_cons_succ]; (try dsimp only at hS'); go_simp; (try with_reducible rfl)))
                      -- 11: call { callee := value (func 51), args := #[t179, t180, t187], argTypes := #[24, 3, 3] }
                      refine chainP_call (d := (some 188)) (.int .i64 (powE gr TT XD)) rfl rfl (fun w' hS' => ?_) ?_
                      · simp only [lookP, allP, Act.put, List.getElem?_cons_zero, List.getElem?_cons_succ, List.setIfInBounds_toArray, List.set_cons_zero, List.set_cons_succ]
                        intro K hK
                        go_simp
                        go_at_call 51
                        refine (impl_pow gr TT XD _ HG.out sTT ixd).mono ?_
                        rintro e u ⟨rfl, hq⟩
                        exact hK.out _ hq
                      -- 12: buildSlice 42 2 #[(0, t178), (1, t188)]
                      refine chainP_do (d := (some 189)) (fun v w => Ints w v [PV, powE gr TT XD]) (fun v w w' hb h => Ints.below h hb) rfl rfl (fun w' hS' => ?_) ?_
                      · simp only [lookP, allP, Act.put, List.getElem?_cons_zero, List.getElem?_cons_succ, List.setIfInBounds_toArray, List.set_cons_zero, List.set_cons_succ]
                        intro K hK
                        go_simp
                        refine hK.out _ _ ((Below.refl _ _).alloc (Nat.le_refl _) _) ?_
                        exact (OwnI.lit (B := w'.heap.size) w' (Nat.le_refl _) (l := [PV, powE gr TT XD]) (AllI64.cons (small_64 sPV) (AllI64.cons (small_64 (powE_small HG.out _ _)) AllI64.nil)) rfl (by simp [maxLen]) 2 rfl).ints
                      -- 13: call { callee := value (func 90), args := #[t177, t189], argTypes := #[24, 42] }
                      refine chainP_call (d := (some 190)) (.int .i64 (mulL gr [PV, powE gr TT XD])) rfl rfl (fun w' hS' => ?_) ?_
                      · simp only [lookP, allP, Act.put, List.getElem?_cons_zero, List.getElem?_cons_succ, List.setIfInBounds_toArray, List.set_cons_zero, List.set_cons_succ]
                        intro x12 hx12
                        intro K hK
                        go_simp
                        go_at_call 90
                        refine (impl_mul gr _ [PV, powE gr TT XD] _ HG.out hx12 (AllSmall.cons sPV (AllSmall.cons (powE_small HG.out _ _) AllSmall.nil))).mono ?_
                        rintro e u ⟨rfl, hq⟩
                        exact hK.out _ hq
                      -- 14: assign t190
                      refine' chainP_read (d := (some 17)) _ rfl rfl (fun w' hS' => ?_) ?_; rotate_left
                      · simp only [lookP, allP, Act.put, List.getElem?_cons_zero, List.getElem?_cons_succ, List.setIfInBounds_toArray, List.set_cons_zero, List.set_cons_succ]
                        (try dsimp only at hS')
                        go_simp
                        (try with_reducible rfl)
                      refine chainP_nil (fun u5 hS' => ?_)
                      simp only [allP, Act.put, List.setIfInBounds_toArray, List.set_cons_zero, List.set_cons_succ]
                      intro x12 hx12
                      have hq5 := hS'.1
                      clear hS'
                      replace hc := Below.next hc hq5
                      clear hq5 c0_0 c0_1 c0_2 c1_0 c1_1 p0 p1 p2 y1 x0 x1 x2 x3
                      obtain ⟨c0_0, c0_1, c0_2, c1_0, c1_1, p0, p1, p2, y1, x0, x1, x2, x3⟩ := HCC.out _ hc
                      go_wp2_with fail
                      refine NoPanic.normal ?_
                      (try clear c0_0 c0_1 c0_2 c1_0 c1_1 p0 p1 p2 y1 x0 x1 x2 x3)
                      (try (go_wp2_with fail))
                      go_roundg (2 - (m + 1))
                      case measure => exact hgm
                      case rel => exact ⟨m + 1, by omega, by go_num, by rw [HJ1.out, HRS.out], Lib.hid (HBi.out.trans (hc.mono HBi.out.size))⟩
                    · obtain rfl : m = 2 := by omega
                      have hb : decide ((2 : Int) < 2) = false := by decide
                      clear cc
                      (try (go_wp2_with fail))
                      go_roundg (pvn - (k + 1))
                      case measure => exact hgk
                      case rel => exact ⟨k + 1, by omega, by go_num, by rw [show 2 * (k + 1) = 2 * k + 2 by omega], HBU⟩
                · obtain rfl : pvn = k := by omega
                  have hb : decide ((pvn : Int) < (pvn : Int)) = false := decide_eq_false (by omega)
                  have hb2 : decide (pvn < pvn) = false := decide_eq_false (by omega)
                  obtain ⟨c0_0, c0_1, c0_2, c1_0, c1_1⟩ := cc
                  obtain ⟨PV, hPV⟩ : ∃ z, bfP gr bh cs ps DS (2 * pvn) = z := ⟨_, rfl⟩
                  have HFV : Hid (bbR gr sBit sSmall bh bl cs ps = (PV == 1)) := by unfold Hid bbR bbV; rw [HBB.out, Epv.out, HN.out, HDS.out, hPV]; rfl
                  rw [hPV]
                  clear hPV
                  have HBN : Hid (Below w.heap.size w wr) := HBW
                  clear HB HCC
                  (try clear hc)
                  obtain ⟨W, rfl⟩ : ∃ z, z = wr := ⟨_, rfl⟩
                  have HB := HBN
                  clear HBN
                  have hc : Below W.heap.size W W := Below.refl _ _
                  have HCC : Hid (∀ u, Below W.heap.size W u → u.cell? ⟨w.heap.size, 0, none⟩ = some (.int .i64 gr.p) ∧ u.cell? ⟨w.heap.size, 1, none⟩ = some (.int .i64 gr.q) ∧ u.cell? ⟨w.heap.size, 2, none⟩ = some (.int .i64 gr.g) ∧ u.cell? ⟨w.heap.size + 1, 0, none⟩ = some (.int .i64 bh) ∧ u.cell? ⟨w.heap.size + 1, 1, none⟩ = some ((.slice bva bvn bvc))) := fun u h => ⟨box_at c0_0 h, box_at c0_1 h, box_at c0_2 h, box_at c1_0 h, box_at c1_1 h⟩
                  go_wp2_with fail
                  have HV : Hid ((.tuple #[.bool (bbR gr sBit sSmall bh bl cs ps), .bool (bbB gr bh bl cs ps)] : Value) = .tuple #[.bool (PV == 1), .bool true]) := by unfold Hid; rw [HFV.out, HBB.out]
                  go_ret2
                  exact ⟨congrArg Ending.returned HV.out.symm, HB.out.trans (hc.mono HB.out.size)⟩
      | true =>
        have HT2 : Hid (decide (ps.length = cs.length) = false) := by unfold Hid; have q := hc3; rw [bne_iff_ne] at q; exact decide_eq_false (by have := Ecv.out; have := Epv.out; omega)
        go_wp2_with fail
        have HV : Hid ((.tuple #[.bool (bbR gr sBit sSmall bh bl cs ps), .bool (bbB gr bh bl cs ps)] : Value) = .tuple #[.bool false, .bool false]) := by unfold Hid; simp [bbR, bbB, Hhc1.out, HT1.out, HT2.out]
        go_ret2
        exact ⟨congrArg Ending.returned HV.out.symm, HB.out.trans (hc.mono HB.out.size)⟩
    | true =>
      have HT1 : Hid (decide (cs.length ≤ 12) = false) := by unfold Hid; have q := of_decide_eq_true hc2; exact decide_eq_false (by have := Ecv.out; have := Epv.out; omega)
      go_wp2_with fail
      have HV : Hid ((.tuple #[.bool (bbR gr sBit sSmall bh bl cs ps), .bool (bbB gr bh bl cs ps)] : Value) = .tuple #[.bool false, .bool false]) := by unfold Hid; simp [bbR, bbB, Hhc1.out, HT1.out]
      go_ret2
      exact ⟨congrArg Ending.returned HV.out.symm, HB.out.trans (hc.mono HB.out.size)⟩
set_option maxRecDepth 100000 in
set_option maxHeartbeats 4000000 in
theorem spec_BatchBits (gr : GroupD) (bh : Int) (bv : Value) (bl : List Int) (cv : Value) (cs : List Int) (pv : Value) (ps : List ProofD) (w : World) (hb : Ints w bv bl) (ibh : I64 bh) (hcs : Ints w cv cs) (hps : RdR rProof w pv ps) :
    Calls Try.prog 23 #[.agg #[.int .i64 gr.p, .int .i64 gr.q, .int .i64 gr.g], .agg #[.int .i64 bh, bv], cv, pv] w fun e w' => e = .returned (.tuple #[.bool (bbR gr sBit sSmall bh bl cs ps), .bool (bbB gr bh bl cs ps)]) ∧ Below w.heap.size w w' := by
  obtain ⟨bva, bvn, bvc, rfl⟩ := hb.shape
  have Ebv := Lib.hid hb.len
  have Kbv := Lib.hid hb.capMax
  have Hbv := Lib.hid hb
  clear hb
  obtain ⟨cva, cvn, cvc, rfl⟩ := hcs.shape
  have Ecv := Lib.hid hcs.len
  have Kcv := Lib.hid hcs.capMax
  have Hcv := Lib.hid hcs
  clear hcs
  obtain ⟨pva, pvn, pvc, rfl⟩ := hps.shape
  have Epv := Lib.hid hps.len
  have Hpv := Lib.hid hps
  clear hps
  obtain ⟨W, hW⟩ : ∃ W, W = (w.alloc (.cells #[.int .i64 gr.p, .int .i64 gr.q, .int .i64 gr.g] 24)).alloc (.cells #[.int .i64 bh, (.slice bva bvn bvc)] 49) := ⟨_, rfl⟩
  have HB : Hid (Below w.heap.size w W) := by unfold Hid; rw [hW]; (repeat (first | exact Below.refl _ _ | assumption | refine Below.drew ?_ | refine Below.alloc ?_ (by first | (simp; done) | (simp; omega)) _ | refine Below.setCell ?_ (by first | (simp; done) | (simp; omega)) _))
  have c0_0 : W.cell? ⟨w.heap.size, 0, none⟩ = some (.int .i64 gr.p) := by rw [hW]; simp [go_sem]
  have c0_1 : W.cell? ⟨w.heap.size, 1, none⟩ = some (.int .i64 gr.q) := by rw [hW]; simp [go_sem]
  have c0_2 : W.cell? ⟨w.heap.size, 2, none⟩ = some (.int .i64 gr.g) := by rw [hW]; simp [go_sem]
  have c1_0 : W.cell? ⟨w.heap.size + 1, 0, none⟩ = some (.int .i64 bh) := by rw [hW]; simp [go_sem]
  have c1_1 : W.cell? ⟨w.heap.size + 1, 1, none⟩ = some ((.slice bva bvn bvc)) := by rw [hW]; simp [go_sem]
  have HSW : Hid (W.heap.size = w.heap.size + 2) := by unfold Hid; rw [hW]; simp
  go_enter Try.func23, Try.ntmps23
  go_wp2_with fail
  rw [← hW]
  have hse : w.heap.size + 1 + 1 = W.heap.size := by have := HSW.out; omega
  (try rw [hse])
  clear hse
  clear hW
  have hc : Below W.heap.size W W := Below.refl _ _
  have HCC : Hid (∀ u, Below W.heap.size W u → u.cell? ⟨w.heap.size, 0, none⟩ = some (.int .i64 gr.p) ∧ u.cell? ⟨w.heap.size, 1, none⟩ = some (.int .i64 gr.q) ∧ u.cell? ⟨w.heap.size, 2, none⟩ = some (.int .i64 gr.g) ∧ u.cell? ⟨w.heap.size + 1, 0, none⟩ = some (.int .i64 bh) ∧ u.cell? ⟨w.heap.size + 1, 1, none⟩ = some ((.slice bva bvn bvc))) := fun u h => ⟨box_at c0_0 h, box_at c0_1 h, box_at c0_2 h, box_at c1_0 h, box_at c1_1 h⟩
  go_wp2_with fail
  refine (spec_l9Good gr bh _ bl _ (Hbv.out.below (HB.out.trans (hc.mono HB.out.size))) ibh).mono ?_
  rintro e u1 ⟨rfl, hq1⟩
  replace hc := Below.next hc hq1
  clear hq1 c0_0 c0_1 c0_2 c1_0 c1_1
  obtain ⟨c0_0, c0_1, c0_2, c1_0, c1_1⟩ := HCC.out _ hc
  cases hc1 : baB gr bh bl with
  | false =>
    have Hhc1 := Lib.hid hc1
    clear hc1
    go_wp2_with fail
    have HV : Hid ((.tuple #[.bool (bbR gr sBit sSmall bh bl cs ps), .bool (bbB gr bh bl cs ps)] : Value) = .tuple #[.bool false, .bool false]) := by unfold Hid; simp [bbR, bbB, Hhc1.out]
    go_ret2
    exact ⟨congrArg Ending.returned HV.out.symm, HB.out.trans (hc.mono HB.out.size)⟩
  | true =>
    have HBA := Lib.hid (baB_parts hc1)
    have HG := Lib.hid (goodG_ok HBA.out.1)
    have sbh : Small bh := elB_small HG.out HBA.out.2.1
    have zq1 := HG.out.q1
    have zq2 := HG.out.q2
    have zp2 := HG.out.p2
    have zq3 : gr.q ≤ 2000000000 := by omega
    have zq0 : 0 < gr.q := by omega
    have zq4 : gr.q ≤ 4000000000 := by omega
    have HBA0 := Lib.hid hc1
    have Hhc1 := Lib.hid hc1
    clear hc1
    cases hc2 : decide (12 < (cvn : Int)) with
    | false =>
      have HT1 : Hid (decide (cs.length ≤ 12) = true) := by unfold Hid; have q := of_decide_eq_false hc2; exact decide_eq_true (by have := Ecv.out; have := Epv.out; omega)
      go_wp2_with fail
      refine (spec_gIs gr _ cs _ HG.out (Hcv.out.below (HB.out.trans (hc.mono HB.out.size)))).mono ?_
      rintro e u2 ⟨rfl, hq2⟩
      replace hc := Below.next hc hq2
      clear hq2 c0_0 c0_1 c0_2 c1_0 c1_1
      obtain ⟨c0_0, c0_1, c0_2, c1_0, c1_1⟩ := HCC.out _ hc
      cases hc3 : cs.all (elB gr) with
      | false =>
        have Hhc3 := Lib.hid hc3
        clear hc3
        go_wp2_with fail
        have HV : Hid ((.tuple #[.bool (bbR gr sBit sSmall bh bl cs ps), .bool (bbB gr bh bl cs ps)] : Value) = .tuple #[.bool false, .bool false]) := by unfold Hid; simp [bbR, bbB, Hhc1.out, Hhc3.out, HT1.out]
        go_ret2
        exact ⟨congrArg Ending.returned HV.out.symm, HB.out.trans (hc.mono HB.out.size)⟩
      | true =>
        have HCA : Hid (cs.all (elB gr) = true) := hc3
        have hcv12 : cvn ≤ 12 := by have h := HT1.out; have h2 := of_decide_eq_true h; have := Ecv.out; omega
        have Hhc3 := Lib.hid hc3
        clear hc3
        cases hc4 : ((pvn : Int) != (cvn : Int)) with
        | false =>
          have HT2 : Hid (decide (ps.length = cs.length) = true) := by unfold Hid; have q := hc4; rw [bne_eq_false_iff_eq] at q; exact decide_eq_true (by have := Ecv.out; have := Epv.out; omega)
          have HPC : Hid (pvn = cvn) := by unfold Hid; have h := of_decide_eq_true HT2.out; have := Ecv.out; have := Epv.out; omega
          have HBB : Hid (bbB gr bh bl cs ps = true) := by unfold Hid bbB; rw [HBA0.out, HT1.out, HT2.out, HCA.out]; rfl
          have HBS := Lib.hid (HB.out.trans (hc.mono HB.out.size))
          have HWS := Lib.hid hc
          go_wp2_with fail
          have HO0 := Lib.hid (OwnI.nil u2 u2.heap.size)
          have HB0 := Lib.hid (Below.refl u2.heap.size u2)
          clear hc c0_0 c0_1 c0_2 c1_0 c1_1
          go_loopg [10, 43] pvn (fun gk ov iv wr => ∃ k : Nat, k + gk = pvn ∧ iv = .int .i64 (k : Int) ∧ Hid (bfN gr sBit bh cs ps k = true) ∧ Hid (OwnI wr u2.heap.size ov (bfZ ps k)) ∧ Hid (Below u2.heap.size u2 wr))
          case atStart => exact ⟨0, by omega, rfl, rfl, HO0, HB0⟩
          case round =>
            clear HO0 HB0
            obtain ⟨k, hkg, rfl, HN, HO, HBr⟩ := hrel
            have HBW := Lib.hid (HBS.out.trans (HBr.out.mono HBS.out.size))
            have hsr := HBr.out.size
            have HLZ : Hid ((bfZ ps k).length = 2 * k) := bfZ_len k HN.out
            obtain ⟨oa, oc, rfl⟩ := HO.out.shapeN (n := 2 * k) HLZ.out
            have cc := HCC.out wr (Below.next HWS.out HBr.out)
            by_cases hlt : k < pvn
            · have hgk : pvn - (k + 1) < gk := by omega
              have hb : decide ((k : Int) < (pvn : Int)) = true := decide_eq_true (by omega)
              have hb2 : decide (k < pvn) = true := decide_eq_true hlt
              have HK : Hid (k < cs.length) := by unfold Hid; have := Ecv.out; have := HPC.out; omega
              have HK2 : Hid (k < ps.length) := by unfold Hid; have := Epv.out; omega
              have HSX : Hid (Small (nth cs k)) := elB_small HG.out (List.all_eq_true.1 HCA.out _ (by rw [show nth cs k = cs[k]'HK.out by have := HK.out; simp [nth, this]]; exact List.getElem_mem HK.out))
              obtain ⟨b1, o1, hba, hcx⟩ := Hcv.out.at_ (by have := Ecv.out; have := HK.out; omega)
              have K1 := Lib.hid (hcx k (by have := Ecv.out; have := HK.out; omega))
              have hba' := hba
              subst hba'
              clear hba hcx
              obtain ⟨bz, oz, hpa, hcx2⟩ := Hpv.out.at_ (by have := HK2.out; have := Epv.out; omega)
              have hpa' := hpa
              subst hpa'
              clear hpa
              obtain ⟨us, hcell, hrd⟩ := hcx2 k HK2.out
              clear hcx2
              obtain ⟨zca, zcn, zcc, zha, zhn, zhc, zra, zrn, zrc, ers, r1, r2, r3⟩ := rdProof.1 ⟨us, rfl, hrd⟩
              obtain rfl : us = [.slice zca zcn zcc, .slice zha zhn zhc, .slice zra zrn zrc] := by have h := Value.agg.inj ers; simpa using congrArg Array.toList h
              clear ers hrd
              have Z0 : Hid (w.cell? ⟨bz, oz + k * 3, none⟩ = some (.slice zca zcn zcc)) := by unfold Hid; have h := hcell 0 (by decide); rw [show rProof.width = 3 from rfl, Nat.add_zero] at h; exact h
              have Z1 : Hid (w.cell? ⟨bz, oz + k * 3 + 1, none⟩ = some (.slice zha zhn zhc)) := by unfold Hid; have h := hcell 1 (by decide); rw [show rProof.width = 3 from rfl, ← Nat.add_assoc] at h; exact h
              have Z2 : Hid (w.cell? ⟨bz, oz + k * 3 + 2, none⟩ = some (.slice zra zrn zrc)) := by unfold Hid; have h := hcell 2 (by decide); rw [show rProof.width = 3 from rfl, ← Nat.add_assoc] at h; exact h
              clear hcell
              rw [atP_eq HK2.out] at r1 r2 r3
              have HNS : Hid (∀ q, bfB gr sBit bh (nth cs k) (atP ps k) = q → bfN gr sBit bh cs ps (k + 1) = q) := fun q h => bfN_succ HN.out h
              have HNO : Hid (bfB gr sBit bh (nth cs k) (atP ps k) = false → bbR gr sBit sSmall bh bl cs ps = false) := fun h => bbR_no (bfN_no h _ HK2.out)
              have HZS : Hid (bfZ ps (k + 1) = bfZ ps k ++ (atP ps k).r) := rfl
              obtain ⟨X, hX⟩ : ∃ z, nth cs k = z := ⟨_, rfl⟩
              obtain ⟨Z, hZ⟩ : ∃ z, atP ps k = z := ⟨_, rfl⟩
              rw [hX] at K1 HSX HNS HNO
              rw [hZ] at r1 r2 r3 HNS HNO HZS
              clear hX hZ
              have Ezc := Lib.hid r1.len
              have Ezh := Lib.hid r2.len
              have Ezr := Lib.hid r3.len
              have Hzc := Lib.hid r1
              have Hzh := Lib.hid r2
              have Hzr := Lib.hid r3
              clear r1 r2 r3
              have b0 : (0 : Int) ≤ (k : Int) := by omega
              have bk1 : (k : Int) < (cvn : Int) := by have := HPC.out; omega
              have bk2 : (k : Int) < (pvn : Int) := by omega
              have hwk : IntKind.i64.wrap ((k : Int) + 1) = (k : Int) + 1 := IntWalk.i64_in _ (by omega)
              obtain ⟨R1, hR1⟩ : ∃ r, r = wr.heap.size := ⟨_, rfl⟩
              obtain ⟨V, hV⟩ : ∃ V, V = wr.alloc (.cells #[.slice zca zcn zcc, .slice zha zhn zhc, .slice zra zrn zrc] 115) := ⟨_, rfl⟩
              have hbV : Below wr.heap.size wr V := by rw [hV]; exact (Below.refl _ _).alloc (Nat.le_refl _) _
              have HP1 : Hid (BoxN V R1 115 [.slice zca zcn zcc, .slice zha zhn zhc, .slice zra zrn zrc]) := by unfold Hid; rw [hV, hR1]; exact BoxN.new wr [.slice zca zcn zcc, .slice zha zhn zhc, .slice zra zrn zrc] 115
              have z0 := box_at Z0.out HBW.out
              have z1 := box_at Z1.out HBW.out
              have z2 := box_at Z2.out HBW.out
              obtain ⟨c0_0, c0_1, c0_2, c1_0, c1_1⟩ := cc
              go_upto_region 7 with fail
              rw [← hV, ← hR1]
              replace c0_0 := box_at c0_0 hbV
              replace c0_1 := box_at c0_1 hbV
              replace c0_2 := box_at c0_2 hbV
              replace c1_0 := box_at c1_0 hbV
              replace c1_1 := box_at c1_1 hbV
              have HBV : Hid (Below w.heap.size w V) := HBW.out.trans (hbV.mono HBW.out.size)
              have HBrV := Lib.hid (HBr.out.trans (hbV.mono HBr.out.size))
              have HOV := Lib.hid (HO.out.below hbV)
              clear hV hbV z0 z1 z2 hR1 Z0 Z1 Z2
              have p0 := HP1.out.cell (i := 0) rfl
              have p1 := HP1.out.cell (i := 1) rfl
              have p2 := HP1.out.cell (i := 2) rfl
              clear HP1
              have y1 := box_at K1.out HBV.out
              clear K1
              have HBN : Hid (Below w.heap.size w V) := HBV
              clear HB HCC
              (try clear hc)
              obtain ⟨W, rfl⟩ : ∃ z, z = V := ⟨_, rfl⟩
              have HB := HBN
              clear HBN
              have hc : Below W.heap.size W W := Below.refl _ _
              have HCC : Hid (∀ u, Below W.heap.size W u → u.cell? ⟨w.heap.size, 0, none⟩ = some (.int .i64 gr.p) ∧ u.cell? ⟨w.heap.size, 1, none⟩ = some (.int .i64 gr.q) ∧ u.cell? ⟨w.heap.size, 2, none⟩ = some (.int .i64 gr.g) ∧ u.cell? ⟨w.heap.size + 1, 0, none⟩ = some (.int .i64 bh) ∧ u.cell? ⟨w.heap.size + 1, 1, none⟩ = some ((.slice bva bvn bvc)) ∧ u.cell? ⟨R1, 0, none⟩ = some ((.slice zca zcn zcc)) ∧ u.cell? ⟨R1, 1, none⟩ = some ((.slice zha zhn zhc)) ∧ u.cell? ⟨R1, 2, none⟩ = some ((.slice zra zrn zrc)) ∧ u.cell? ⟨b1, o1 + k, none⟩ = some (.int .i64 X)) := fun u h => ⟨box_at c0_0 h, box_at c0_1 h, box_at c0_2 h, box_at c1_0 h, box_at c1_1 h, box_at p0 h, box_at p1 h, box_at p2 h, box_at y1 h⟩
              clear HBV HBW
              cases hc5 : fmB gr Z 2 2 2 with
              | false =>
                have HRF : Hid (bbR gr sBit sSmall bh bl cs ps = false) := HNO.out (by unfold bfB; rw [hc5]; rfl)
                have Hhc5 := Lib.hid hc5
                clear hc5
                try (go_wp2_with fail)
                refine wp_region_noPanic ?_
                refine wp_region_P (fun w' => w'.cell? ⟨w.heap.size, 0, none⟩ = some (.int .i64 gr.p) ∧ w'.cell? ⟨w.heap.size, 1, none⟩ = some (.int .i64 gr.q) ∧ w'.cell? ⟨w.heap.size, 2, none⟩ = some (.int .i64 gr.g) ∧ w'.cell? ⟨w.heap.size + 1, 0, none⟩ = some (.int .i64 bh) ∧ w'.cell? ⟨w.heap.size + 1, 1, none⟩ = some ((.slice bva bvn bvc)) ∧ w'.cell? ⟨R1, 0, none⟩ = some ((.slice zca zcn zcc)) ∧ w'.cell? ⟨R1, 1, none⟩ = some ((.slice zha zhn zhc)) ∧ w'.cell? ⟨R1, 2, none⟩ = some ((.slice zra zrn zrc)) ∧ w'.cell? ⟨b1, o1 + k, none⟩ = some (.int .i64 X)) 30 [(0, []), (1, []), (2, [1, 0]), (3, [0]), (4, [0]), (5, [0]), (6, [0, 1]), (7, [0, 2]), (8, [0, 3]), (9, [4]), (10, [0, 5]), (11, [0, 6]), (12, [0, 7]), (13, [4, 0, 8]), (14, [9]), (15, [0, 10]), (16, [2, 0, 11]), (17, [12]), (18, [13]), (19, [14]), (20, [15]), (21, [1, 0, 16]), (22, [0, 17]), (23, [18]), (24, [0, 19]), (25, [7, 6, 2, 0, 20]), (26, [9, 0, 21]), (27, [22, 0])] [] (by kernel_rfl) (by kernel_rfl) (by kernel_rfl) rfl (fun _ _ _ _ h => h) (fun w' h => ⟨box_at c0_0 h, box_at c0_1 h, box_at c0_2 h, box_at c1_0 h, box_at c1_1 h, box_at p0 h, box_at p1 h, box_at p2 h, box_at y1 h⟩) ?_
                simp only [pickP, pickN, List.getElem?_cons_zero, List.getElem?_cons_succ]
                iterate 2 (refine' chainP_read _ rfl rfl (fun w' hS' => ?_) ?_; rotate_left; · (simp only [lookP, allP, Act.put, List.getElem?_cons_zero, List.getElem?_cons_succ, List.setIfInBounds_toArray, List.set_cons_zero, List.set_cons_succ]; (try dsimp only at hS'); go_simp; (try with_reducible rfl)))
                -- 2: call { callee := value (func 93), args := #[t48, t49, const (int i64 2), const (int i64 2), const (int i64 2)], argTypes := #[24, 115, 3, 3, 3] }
                refine chainP_call (d := (some 50)) (.bool false) rfl rfl (fun w' hS' => ?_) ?_
                · simp only [lookP, allP, Act.put, List.getElem?_cons_zero, List.getElem?_cons_succ, List.setIfInBounds_toArray, List.set_cons_zero, List.set_cons_succ]
                  intro K hK
                  go_simp
                  go_at_call 93
                  refine (spec_l9Form gr _ Z 2 2 2 _ HG.out (PfR.mk ((Hzc.out.below (HB.out.trans (hc.mono HB.out.size))).below hS'.1) ((Hzh.out.below (HB.out.trans (hc.mono HB.out.size))).below hS'.1) ((Hzr.out.below (HB.out.trans (hc.mono HB.out.size))).below hS'.1))).mono ?_
                  rintro e u ⟨rfl, hq⟩
                  rw [Hhc5.out]
                  exact hK.out _ hq
                iterate 2 (refine' chainP_read _ rfl rfl (fun w' hS' => ?_) ?_; rotate_left; · (simp only [lookP, allP, Act.put, List.getElem?_cons_zero, List.getElem?_cons_succ, List.setIfInBounds_toArray, List.set_cons_zero, List.set_cons_succ]; (try dsimp only at hS'); go_simp; (try with_reducible rfl)))
                -- 5: fieldAddr 115 t12 1
                refine chainP_skip (d := (some 53)) rfl (fun w' hS' => ?_) ?_
                · simp only [lookP, allP, Act.put, List.getElem?_cons_zero, List.getElem?_cons_succ, List.setIfInBounds_toArray, List.set_cons_zero, List.set_cons_succ]
                  kernel_rfl
                -- 6: load 42 t53
                refine chainP_skip (d := (some 54)) rfl (fun w' hS' => ?_) ?_
                · simp only [lookP, allP, Act.put, List.getElem?_cons_zero, List.getElem?_cons_succ, List.setIfInBounds_toArray, List.set_cons_zero, List.set_cons_succ]
                  kernel_rfl
                -- 7: indexAddr 42 t54 (const (int i64 0))
                refine chainP_skip (d := (some 55)) rfl (fun w' hS' => ?_) ?_
                · simp only [lookP, allP, Act.put, List.getElem?_cons_zero, List.getElem?_cons_succ, List.setIfInBounds_toArray, List.set_cons_zero, List.set_cons_succ]
                  kernel_rfl
                -- 8: load 3 t55
                refine chainP_skip (d := (some 56)) rfl (fun w' hS' => ?_) ?_
                · simp only [lookP, allP, Act.put, List.getElem?_cons_zero, List.getElem?_cons_succ, List.setIfInBounds_toArray, List.set_cons_zero, List.set_cons_succ]
                  kernel_rfl
                -- 9: fieldAddr 115 t12 1
                refine chainP_skip (d := (some 57)) rfl (fun w' hS' => ?_) ?_
                · simp only [lookP, allP, Act.put, List.getElem?_cons_zero, List.getElem?_cons_succ, List.setIfInBounds_toArray, List.set_cons_zero, List.set_cons_succ]
                  kernel_rfl
                -- 10: load 42 t57
                refine chainP_skip (d := (some 58)) rfl (fun w' hS' => ?_) ?_
                · simp only [lookP, allP, Act.put, List.getElem?_cons_zero, List.getElem?_cons_succ, List.setIfInBounds_toArray, List.set_cons_zero, List.set_cons_succ]
                  kernel_rfl
                -- 11: indexAddr 42 t58 (const (int i64 1))
                refine chainP_skip (d := (some 59)) rfl (fun w' hS' => ?_) ?_
                · simp only [lookP, allP, Act.put, List.getElem?_cons_zero, List.getElem?_cons_succ, List.setIfInBounds_toArray, List.set_cons_zero, List.set_cons_succ]
                  kernel_rfl
                -- 12: load 3 t59
                refine chainP_skip (d := (some 60)) rfl (fun w' hS' => ?_) ?_
                · simp only [lookP, allP, Act.put, List.getElem?_cons_zero, List.getElem?_cons_succ, List.setIfInBounds_toArray, List.set_cons_zero, List.set_cons_succ]
                  kernel_rfl
                -- 13: binOp Binadd 3 t56 t60 3
                refine chainP_skip (d := (some 61)) rfl (fun w' hS' => ?_) ?_
                · simp only [lookP, allP, Act.put, List.getElem?_cons_zero, List.getElem?_cons_succ, List.setIfInBounds_toArray, List.set_cons_zero, List.set_cons_succ]
                  kernel_rfl
                -- 14: fieldAddr 24 t4 1
                refine chainP_skip (d := (some 62)) rfl (fun w' hS' => ?_) ?_
                · simp only [lookP, allP, Act.put, List.getElem?_cons_zero, List.getElem?_cons_succ, List.setIfInBounds_toArray, List.set_cons_zero, List.set_cons_succ]
                  kernel_rfl
                -- 15: load 3 t62
                refine chainP_skip (d := (some 63)) rfl (fun w' hS' => ?_) ?_
                · simp only [lookP, allP, Act.put, List.getElem?_cons_zero, List.getElem?_cons_succ, List.setIfInBounds_toArray, List.set_cons_zero, List.set_cons_succ]
                  kernel_rfl
                -- 16: call { callee := value (func 94), args := #[t61, t63], argTypes := #[3, 3] }
                refine chainP_skip (d := (some 64)) rfl (fun w' hS' => ?_) ?_
                · simp only [lookP, allP, Act.put, List.getElem?_cons_zero, List.getElem?_cons_succ, List.setIfInBounds_toArray, List.set_cons_zero, List.set_cons_succ]
                  kernel_rfl
                -- 17: load 24 t4
                refine chainP_skip (d := (some 65)) rfl (fun w' hS' => ?_) ?_
                · simp only [lookP, allP, Act.put, List.getElem?_cons_zero, List.getElem?_cons_succ, List.setIfInBounds_toArray, List.set_cons_zero, List.set_cons_succ]
                  kernel_rfl
                -- 18: load 49 t5
                refine chainP_skip (d := (some 66)) rfl (fun w' hS' => ?_) ?_
                · simp only [lookP, allP, Act.put, List.getElem?_cons_zero, List.getElem?_cons_succ, List.setIfInBounds_toArray, List.set_cons_zero, List.set_cons_succ]
                  kernel_rfl
                -- 19: move t2
                refine chainP_skip (d := (some 67)) rfl (fun w' hS' => ?_) ?_
                · simp only [lookP, allP, Act.put, List.getElem?_cons_zero, List.getElem?_cons_succ, List.setIfInBounds_toArray, List.set_cons_zero, List.set_cons_succ]
                  kernel_rfl
                -- 20: move t11
                refine chainP_skip (d := (some 68)) rfl (fun w' hS' => ?_) ?_
                · simp only [lookP, allP, Act.put, List.getElem?_cons_zero, List.getElem?_cons_succ, List.setIfInBounds_toArray, List.set_cons_zero, List.set_cons_succ]
                  kernel_rfl
                -- 21: indexAddr 42 t67 t68
                refine chainP_skip (d := (some 69)) rfl (fun w' hS' => ?_) ?_
                · simp only [lookP, allP, Act.put, List.getElem?_cons_zero, List.getElem?_cons_succ, List.setIfInBounds_toArray, List.set_cons_zero, List.set_cons_succ]
                  kernel_rfl
                -- 22: load 3 t69
                refine chainP_skip (d := (some 70)) rfl (fun w' hS' => ?_) ?_
                · simp only [lookP, allP, Act.put, List.getElem?_cons_zero, List.getElem?_cons_succ, List.setIfInBounds_toArray, List.set_cons_zero, List.set_cons_succ]
                  kernel_rfl
                -- 23: fieldAddr 115 t12 0
                refine chainP_skip (d := (some 71)) rfl (fun w' hS' => ?_) ?_
                · simp only [lookP, allP, Act.put, List.getElem?_cons_zero, List.getElem?_cons_succ, List.setIfInBounds_toArray, List.set_cons_zero, List.set_cons_succ]
                  kernel_rfl
                -- 24: load 42 t71
                refine chainP_skip (d := (some 72)) rfl (fun w' hS' => ?_) ?_
                · simp only [lookP, allP, Act.put, List.getElem?_cons_zero, List.getElem?_cons_succ, List.setIfInBounds_toArray, List.set_cons_zero, List.set_cons_succ]
                  kernel_rfl
                -- 25: call { callee := value (func 95), args := #[t65, t66, t70, t72], argTypes := #[24, 49, 3, 42] }
                refine chainP_skip (d := (some 73)) rfl (fun w' hS' => ?_) ?_
                · simp only [lookP, allP, Act.put, List.getElem?_cons_zero, List.getElem?_cons_succ, List.setIfInBounds_toArray, List.set_cons_zero, List.set_cons_succ]
                  kernel_rfl
                -- 26: binOp Binneq 3 t64 t73 3
                refine chainP_skip (d := (some 74)) rfl (fun w' hS' => ?_) ?_
                · simp only [lookP, allP, Act.put, List.getElem?_cons_zero, List.getElem?_cons_succ, List.setIfInBounds_toArray, List.set_cons_zero, List.set_cons_succ]
                  kernel_rfl
                -- 27: pick t52 (const (bool true)) t74
                refine' chainP_read (d := (some 75)) _ rfl rfl (fun w' hS' => ?_) ?_; rotate_left
                · simp only [lookP, allP, Act.put, List.getElem?_cons_zero, List.getElem?_cons_succ, List.setIfInBounds_toArray, List.set_cons_zero, List.set_cons_succ]
                  (try dsimp only at hS')
                  go_simp
                  (try with_reducible rfl)
                refine chainP_nil (fun u3 hS' => ?_)
                simp only [allP, Act.put, List.setIfInBounds_toArray, List.set_cons_zero, List.set_cons_succ]
                have hq3 := hS'.1
                clear hS'
                replace hc := Below.next hc hq3
                clear hq3 c0_0 c0_1 c0_2 c1_0 c1_1 p0 p1 p2 y1
                obtain ⟨c0_0, c0_1, c0_2, c1_0, c1_1, p0, p1, p2, y1⟩ := HCC.out _ hc
                go_wp2_with fail
                refine NoPanic.normal ?_
                go_wp2_with fail
                have HV : Hid ((.tuple #[.bool (bbR gr sBit sSmall bh bl cs ps), .bool (bbB gr bh bl cs ps)] : Value) = .tuple #[.bool false, .bool true]) := by unfold Hid; rw [HRF.out, HBB.out]
                go_ret2
                exact ⟨congrArg Ending.returned HV.out.symm, HB.out.trans (hc.mono HB.out.size)⟩
              | true =>
                have HFP := Lib.hid (fmB_parts hc5)
                have HL1 : Hid (Z.c.length = 2) := HFP.out.1
                have HL2 : Hid (Z.h.length = 2) := HFP.out.2.1
                have HL3 : Hid (Z.r.length = 2) := HFP.out.2.2.1
                have HAc := Lib.hid HFP.out.2.2.2.1
                have HAh := Lib.hid HFP.out.2.2.2.2.1
                have HAr := Lib.hid HFP.out.2.2.2.2.2
                have HTC := Lib.hid (all_two HL1.out HAc.out)
                have HTH := Lib.hid (all_two HL2.out HAh.out)
                have HSB := Lib.hid (exps_bdB HAh.out)
                have HFM : Hid (fmB gr Z 2 2 2 = true) := by unfold Hid fmB; rw [HL1.out, HL2.out, HL3.out, HAc.out, HAh.out, HAr.out]; rfl
                have sx0 : Small (nth Z.c 0) := elB_small HG.out HTC.out.1
                have sx1 : Small (nth Z.c 1) := elB_small HG.out HTC.out.2
                obtain ⟨q0, q0x⟩ := expB_bd HTH.out.1
                obtain ⟨q1, q1x⟩ := expB_bd HTH.out.2
                have ih0 : I64 (nth Z.h 0) := ⟨by omega, by omega⟩
                have ih1 : I64 (nth Z.h 1) := ⟨by omega, by omega⟩
                have ews : IntKind.i64.wrap (nth Z.h 0 + nth Z.h 1) = nth Z.h 0 + nth Z.h 1 := IntWalk.i64_in _ (by omega)
                have HNS2 : Hid (I64 (nth Z.h 0 + nth Z.h 1)) := ⟨by omega, by omega⟩
                obtain ⟨SM, hSM⟩ : ∃ x, (nth Z.h 0 + nth Z.h 1) % gr.q = x := ⟨_, rfl⟩
                have HSM := Lib.hid hSM
                obtain ⟨E, hE⟩ : ∃ x, btE gr sBit bh X (nth Z.c 0) (nth Z.c 1) = x := ⟨_, rfl⟩
                have HE := Lib.hid hE
                have HSE : Hid (bfB gr sBit bh X Z = (SM == E)) := by unfold Hid bfB; rw [HFM.out, hSM, hE]; rfl
                have HAS : Hid (AllSmall [bh, X, nth Z.c 0, nth Z.c 1]) := AllSmall.cons sbh (AllSmall.cons HSX.out (AllSmall.cons sx0 (AllSmall.cons sx1 AllSmall.nil)))
                have HCB : Hid (chB gr sBit [bh, X, nth Z.c 0, nth Z.c 1] = true) := chB_yes HG.out (digests_small HAS.out) (by decide) (by simp)
                have HCI : Hid (chI gr sBit [bh, X, nth Z.c 0, nth Z.c 1] = E) := (chI_yes HCB.out).trans HE.out
                clear hSM hE
                obtain rfl : zcn = 2 := by have q := Ezc.out; have q2 := HFP.out; omega
                obtain ⟨zcb, zco, rfl, hx⟩ := Hzc.out.at_ (by omega)
                have Kzc0 : Hid (w.cell? ⟨zcb, zco, none⟩ = some (.int .i64 (nth Z.c 0))) := by unfold Hid; have h := hx 0 (by omega); simpa using h
                have Kzc1 : Hid (w.cell? ⟨zcb, zco + 1, none⟩ = some (.int .i64 (nth Z.c 1))) := by unfold Hid; have h := hx 1 (by omega); simpa using h
                clear hx
                have yzc0 := box_at Kzc0.out (HB.out.trans (hc.mono HB.out.size))
                have yzc1 := box_at Kzc1.out (HB.out.trans (hc.mono HB.out.size))
                obtain rfl : zhn = 2 := by have q := Ezh.out; have q2 := HFP.out; omega
                obtain ⟨zhb, zho, rfl, hx⟩ := Hzh.out.at_ (by omega)
                have Kzh0 : Hid (w.cell? ⟨zhb, zho, none⟩ = some (.int .i64 (nth Z.h 0))) := by unfold Hid; have h := hx 0 (by omega); simpa using h
                have Kzh1 : Hid (w.cell? ⟨zhb, zho + 1, none⟩ = some (.int .i64 (nth Z.h 1))) := by unfold Hid; have h := hx 1 (by omega); simpa using h
                clear hx
                have yzh0 := box_at Kzh0.out (HB.out.trans (hc.mono HB.out.size))
                have yzh1 := box_at Kzh1.out (HB.out.trans (hc.mono HB.out.size))
                obtain rfl : zrn = 2 := by have q := Ezr.out; have q2 := HFP.out; omega
                obtain ⟨zrb, zro, rfl, hx⟩ := Hzr.out.at_ (by omega)
                have Kzr0 : Hid (w.cell? ⟨zrb, zro, none⟩ = some (.int .i64 (nth Z.r 0))) := by unfold Hid; have h := hx 0 (by omega); simpa using h
                have Kzr1 : Hid (w.cell? ⟨zrb, zro + 1, none⟩ = some (.int .i64 (nth Z.r 1))) := by unfold Hid; have h := hx 1 (by omega); simpa using h
                clear hx
                have yzr0 := box_at Kzr0.out (HB.out.trans (hc.mono HB.out.size))
                have yzr1 := box_at Kzr1.out (HB.out.trans (hc.mono HB.out.size))
                replace HCC : Hid (∀ u, Below W.heap.size W u → u.cell? ⟨w.heap.size, 0, none⟩ = some (.int .i64 gr.p) ∧ u.cell? ⟨w.heap.size, 1, none⟩ = some (.int .i64 gr.q) ∧ u.cell? ⟨w.heap.size, 2, none⟩ = some (.int .i64 gr.g) ∧ u.cell? ⟨w.heap.size + 1, 0, none⟩ = some (.int .i64 bh) ∧ u.cell? ⟨w.heap.size + 1, 1, none⟩ = some ((.slice bva bvn bvc)) ∧ u.cell? ⟨R1, 0, none⟩ = some ((.slice (some ⟨zcb, zco, none⟩) 2 zcc)) ∧ u.cell? ⟨R1, 1, none⟩ = some ((.slice (some ⟨zhb, zho, none⟩) 2 zhc)) ∧ u.cell? ⟨R1, 2, none⟩ = some ((.slice (some ⟨zrb, zro, none⟩) 2 zrc)) ∧ u.cell? ⟨b1, o1 + k, none⟩ = some (.int .i64 X) ∧ u.cell? ⟨zcb, zco, none⟩ = some (.int .i64 (nth Z.c 0)) ∧ u.cell? ⟨zcb, zco + 1, none⟩ = some (.int .i64 (nth Z.c 1)) ∧ u.cell? ⟨zhb, zho, none⟩ = some (.int .i64 (nth Z.h 0)) ∧ u.cell? ⟨zhb, zho + 1, none⟩ = some (.int .i64 (nth Z.h 1)) ∧ u.cell? ⟨zrb, zro, none⟩ = some (.int .i64 (nth Z.r 0)) ∧ u.cell? ⟨zrb, zro + 1, none⟩ = some (.int .i64 (nth Z.r 1))) := fun u h => by obtain ⟨c0_0, c0_1, c0_2, c1_0, c1_1, p0, p1, p2, y1⟩ := HCC.out u h; exact ⟨c0_0, c0_1, c0_2, c1_0, c1_1, p0, p1, p2, y1, box_at Kzc0.out (HB.out.trans (h.mono HB.out.size)), box_at Kzc1.out (HB.out.trans (h.mono HB.out.size)), box_at Kzh0.out (HB.out.trans (h.mono HB.out.size)), box_at Kzh1.out (HB.out.trans (h.mono HB.out.size)), box_at Kzr0.out (HB.out.trans (h.mono HB.out.size)), box_at Kzr1.out (HB.out.trans (h.mono HB.out.size))⟩
                have Hhc5 := Lib.hid hc5
                clear hc5
                try (go_wp2_with fail)
                refine wp_region_noPanic ?_
                refine wp_region_P (fun w' => w'.cell? ⟨w.heap.size, 0, none⟩ = some (.int .i64 gr.p) ∧ w'.cell? ⟨w.heap.size, 1, none⟩ = some (.int .i64 gr.q) ∧ w'.cell? ⟨w.heap.size, 2, none⟩ = some (.int .i64 gr.g) ∧ w'.cell? ⟨w.heap.size + 1, 0, none⟩ = some (.int .i64 bh) ∧ w'.cell? ⟨w.heap.size + 1, 1, none⟩ = some ((.slice bva bvn bvc)) ∧ w'.cell? ⟨R1, 0, none⟩ = some ((.slice (some ⟨zcb, zco, none⟩) 2 zcc)) ∧ w'.cell? ⟨R1, 1, none⟩ = some ((.slice (some ⟨zhb, zho, none⟩) 2 zhc)) ∧ w'.cell? ⟨R1, 2, none⟩ = some ((.slice (some ⟨zrb, zro, none⟩) 2 zrc)) ∧ w'.cell? ⟨b1, o1 + k, none⟩ = some (.int .i64 X) ∧ w'.cell? ⟨zcb, zco, none⟩ = some (.int .i64 (nth Z.c 0)) ∧ w'.cell? ⟨zcb, zco + 1, none⟩ = some (.int .i64 (nth Z.c 1)) ∧ w'.cell? ⟨zhb, zho, none⟩ = some (.int .i64 (nth Z.h 0)) ∧ w'.cell? ⟨zhb, zho + 1, none⟩ = some (.int .i64 (nth Z.h 1)) ∧ w'.cell? ⟨zrb, zro, none⟩ = some (.int .i64 (nth Z.r 0)) ∧ w'.cell? ⟨zrb, zro + 1, none⟩ = some (.int .i64 (nth Z.r 1))) 30 [(0, []), (1, []), (2, [1, 0]), (3, [0]), (4, [0]), (5, [0]), (6, [0, 1]), (7, [0, 2]), (8, [0, 3]), (9, [4]), (10, [0, 5]), (11, [0, 6]), (12, [0, 7]), (13, [4, 0, 8]), (14, [9]), (15, [0, 10]), (16, [2, 0, 11]), (17, [12]), (18, [13]), (19, [14]), (20, [15]), (21, [1, 0, 16]), (22, [0, 17]), (23, [18]), (24, [0, 19]), (25, [7, 6, 2, 0, 20]), (26, [9, 0, 21]), (27, [22, 0])] [] (by kernel_rfl) (by kernel_rfl) (by kernel_rfl) rfl (fun _ _ _ _ h => h) (fun w' h => ⟨box_at c0_0 h, box_at c0_1 h, box_at c0_2 h, box_at c1_0 h, box_at c1_1 h, box_at p0 h, box_at p1 h, box_at p2 h, box_at y1 h, box_at yzc0 h, box_at yzc1 h, box_at yzh0 h, box_at yzh1 h, box_at yzr0 h, box_at yzr1 h⟩) ?_
                simp only [pickP, pickN, List.getElem?_cons_zero, List.getElem?_cons_succ]
                iterate 2 (refine' chainP_read _ rfl rfl (fun w' hS' => ?_) ?_; rotate_left; · (simp only [lookP, allP, Act.put, List.getElem?_cons_zero, List.getElem?_cons_succ, List.setIfInBounds_toArray, List.set_cons_zero, List.set_cons_succ]; (try dsimp only at hS'); go_simp; (try with_reducible rfl)))
                -- 2: call { callee := value (func 93), args := #[t48, t49, const (int i64 2), const (int i64 2), const (int i64 2)], argTypes := #[24, 115, 3, 3, 3] }
                refine chainP_call (d := (some 50)) (.bool true) rfl rfl (fun w' hS' => ?_) ?_
                · simp only [lookP, allP, Act.put, List.getElem?_cons_zero, List.getElem?_cons_succ, List.setIfInBounds_toArray, List.set_cons_zero, List.set_cons_succ]
                  intro K hK
                  go_simp
                  go_at_call 93
                  refine (spec_l9Form gr _ Z 2 2 2 _ HG.out (PfR.mk ((Hzc.out.below (HB.out.trans (hc.mono HB.out.size))).below hS'.1) ((Hzh.out.below (HB.out.trans (hc.mono HB.out.size))).below hS'.1) ((Hzr.out.below (HB.out.trans (hc.mono HB.out.size))).below hS'.1))).mono ?_
                  rintro e u ⟨rfl, hq⟩
                  rw [Hhc5.out]
                  exact hK.out _ hq
                iterate 2 (refine' chainP_read _ rfl rfl (fun w' hS' => ?_) ?_; rotate_left; · (simp only [lookP, allP, Act.put, List.getElem?_cons_zero, List.getElem?_cons_succ, List.setIfInBounds_toArray, List.set_cons_zero, List.set_cons_succ]; (try dsimp only at hS'); go_simp; (try with_reducible rfl)))
                -- 5: fieldAddr 115 t12 1
                refine' chainP_readG (d := (some 53)) _ rfl (fun w' hS' => ?_) ?_; rotate_left
                · simp only [lookP, allP, Act.put, List.getElem?_cons_zero, List.getElem?_cons_succ, List.setIfInBounds_toArray, List.set_cons_zero, List.set_cons_succ]
                  refine ⟨by kernel_rfl, ?_⟩
                  (try dsimp only at hS')
                  go_simp
                  (try with_reducible rfl)
                -- 6: load 42 t53
                refine' chainP_readG (d := (some 54)) _ rfl (fun w' hS' => ?_) ?_; rotate_left
                · simp only [lookP, allP, Act.put, List.getElem?_cons_zero, List.getElem?_cons_succ, List.setIfInBounds_toArray, List.set_cons_zero, List.set_cons_succ]
                  refine ⟨by kernel_rfl, ?_⟩
                  (try dsimp only at hS')
                  go_simp
                  (try with_reducible rfl)
                -- 7: indexAddr 42 t54 (const (int i64 0))
                refine' chainP_readG (d := (some 55)) _ rfl (fun w' hS' => ?_) ?_; rotate_left
                · simp only [lookP, allP, Act.put, List.getElem?_cons_zero, List.getElem?_cons_succ, List.setIfInBounds_toArray, List.set_cons_zero, List.set_cons_succ]
                  refine ⟨by kernel_rfl, ?_⟩
                  (try dsimp only at hS')
                  go_simp
                  (try with_reducible rfl)
                -- 8: load 3 t55
                refine' chainP_readG (d := (some 56)) _ rfl (fun w' hS' => ?_) ?_; rotate_left
                · simp only [lookP, allP, Act.put, List.getElem?_cons_zero, List.getElem?_cons_succ, List.setIfInBounds_toArray, List.set_cons_zero, List.set_cons_succ]
                  refine ⟨by kernel_rfl, ?_⟩
                  (try dsimp only at hS')
                  go_simp
                  (try with_reducible rfl)
                -- 9: fieldAddr 115 t12 1
                refine' chainP_readG (d := (some 57)) _ rfl (fun w' hS' => ?_) ?_; rotate_left
                · simp only [lookP, allP, Act.put, List.getElem?_cons_zero, List.getElem?_cons_succ, List.setIfInBounds_toArray, List.set_cons_zero, List.set_cons_succ]
                  refine ⟨by kernel_rfl, ?_⟩
                  (try dsimp only at hS')
                  go_simp
                  (try with_reducible rfl)
                -- 10: load 42 t57
                refine' chainP_readG (d := (some 58)) _ rfl (fun w' hS' => ?_) ?_; rotate_left
                · simp only [lookP, allP, Act.put, List.getElem?_cons_zero, List.getElem?_cons_succ, List.setIfInBounds_toArray, List.set_cons_zero, List.set_cons_succ]
                  refine ⟨by kernel_rfl, ?_⟩
                  (try dsimp only at hS')
                  go_simp
                  (try with_reducible rfl)
                -- 11: indexAddr 42 t58 (const (int i64 1))
                refine' chainP_readG (d := (some 59)) _ rfl (fun w' hS' => ?_) ?_; rotate_left
                · simp only [lookP, allP, Act.put, List.getElem?_cons_zero, List.getElem?_cons_succ, List.setIfInBounds_toArray, List.set_cons_zero, List.set_cons_succ]
                  refine ⟨by kernel_rfl, ?_⟩
                  (try dsimp only at hS')
                  go_simp
                  (try with_reducible rfl)
                -- 12: load 3 t59
                refine' chainP_readG (d := (some 60)) _ rfl (fun w' hS' => ?_) ?_; rotate_left
                · simp only [lookP, allP, Act.put, List.getElem?_cons_zero, List.getElem?_cons_succ, List.setIfInBounds_toArray, List.set_cons_zero, List.set_cons_succ]
                  refine ⟨by kernel_rfl, ?_⟩
                  (try dsimp only at hS')
                  go_simp
                  (try with_reducible rfl)
                -- 13: binOp Binadd 3 t56 t60 3
                refine' chainP_readG (d := (some 61)) _ rfl (fun w' hS' => ?_) ?_; rotate_left
                · simp only [lookP, allP, Act.put, List.getElem?_cons_zero, List.getElem?_cons_succ, List.setIfInBounds_toArray, List.set_cons_zero, List.set_cons_succ]
                  refine ⟨by kernel_rfl, ?_⟩
                  (try dsimp only at hS')
                  go_simp
                  (try with_reducible rfl)
                -- 14: fieldAddr 24 t4 1
                refine' chainP_readG (d := (some 62)) _ rfl (fun w' hS' => ?_) ?_; rotate_left
                · simp only [lookP, allP, Act.put, List.getElem?_cons_zero, List.getElem?_cons_succ, List.setIfInBounds_toArray, List.set_cons_zero, List.set_cons_succ]
                  refine ⟨by kernel_rfl, ?_⟩
                  (try dsimp only at hS')
                  go_simp
                  (try with_reducible rfl)
                -- 15: load 3 t62
                refine' chainP_readG (d := (some 63)) _ rfl (fun w' hS' => ?_) ?_; rotate_left
                · simp only [lookP, allP, Act.put, List.getElem?_cons_zero, List.getElem?_cons_succ, List.setIfInBounds_toArray, List.set_cons_zero, List.set_cons_succ]
                  refine ⟨by kernel_rfl, ?_⟩
                  (try dsimp only at hS')
                  go_simp
                  (try with_reducible rfl)
                -- 16: call { callee := value (func 94), args := #[t61, t63], argTypes := #[3, 3] }
                refine chainP_callG (d := (some 64)) (.int .i64 SM) rfl (fun w' hS' => ?_) ?_
                · simp only [lookP, allP, Act.put, List.getElem?_cons_zero, List.getElem?_cons_succ, List.setIfInBounds_toArray, List.set_cons_zero, List.set_cons_succ]
                  refine ⟨by kernel_rfl, ?_⟩
                  intro K hK
                  go_simp
                  go_at_call 94
                  refine (spec_nMod (nth Z.h 0 + nth Z.h 1) gr.q _ HNS2.out zq0 zq4).mono ?_
                  rintro e u ⟨rfl, rfl⟩
                  rw [HSM.out]
                  exact hK.out _ (Below.refl _ _)
                -- 17: load 24 t4
                refine' chainP_readG (d := (some 65)) _ rfl (fun w' hS' => ?_) ?_; rotate_left
                · simp only [lookP, allP, Act.put, List.getElem?_cons_zero, List.getElem?_cons_succ, List.setIfInBounds_toArray, List.set_cons_zero, List.set_cons_succ]
                  refine ⟨by kernel_rfl, ?_⟩
                  (try dsimp only at hS')
                  go_simp
                  (try with_reducible rfl)
                -- 18: load 49 t5
                refine' chainP_readG (d := (some 66)) _ rfl (fun w' hS' => ?_) ?_; rotate_left
                · simp only [lookP, allP, Act.put, List.getElem?_cons_zero, List.getElem?_cons_succ, List.setIfInBounds_toArray, List.set_cons_zero, List.set_cons_succ]
                  refine ⟨by kernel_rfl, ?_⟩
                  (try dsimp only at hS')
                  go_simp
                  (try with_reducible rfl)
                -- 19: move t2
                refine' chainP_readG (d := (some 67)) _ rfl (fun w' hS' => ?_) ?_; rotate_left
                · simp only [lookP, allP, Act.put, List.getElem?_cons_zero, List.getElem?_cons_succ, List.setIfInBounds_toArray, List.set_cons_zero, List.set_cons_succ]
                  refine ⟨by kernel_rfl, ?_⟩
                  (try dsimp only at hS')
                  go_simp
                  (try with_reducible rfl)
                -- 20: move t11
                refine' chainP_readG (d := (some 68)) _ rfl (fun w' hS' => ?_) ?_; rotate_left
                · simp only [lookP, allP, Act.put, List.getElem?_cons_zero, List.getElem?_cons_succ, List.setIfInBounds_toArray, List.set_cons_zero, List.set_cons_succ]
                  refine ⟨by kernel_rfl, ?_⟩
                  (try dsimp only at hS')
                  go_simp
                  (try with_reducible rfl)
                -- 21: indexAddr 42 t67 t68
                refine' chainP_readG (d := (some 69)) _ rfl (fun w' hS' => ?_) ?_; rotate_left
                · simp only [lookP, allP, Act.put, List.getElem?_cons_zero, List.getElem?_cons_succ, List.setIfInBounds_toArray, List.set_cons_zero, List.set_cons_succ]
                  refine ⟨by kernel_rfl, ?_⟩
                  (try dsimp only at hS')
                  go_simp
                  (try with_reducible rfl)
                -- 22: load 3 t69
                refine' chainP_readG (d := (some 70)) _ rfl (fun w' hS' => ?_) ?_; rotate_left
                · simp only [lookP, allP, Act.put, List.getElem?_cons_zero, List.getElem?_cons_succ, List.setIfInBounds_toArray, List.set_cons_zero, List.set_cons_succ]
                  refine ⟨by kernel_rfl, ?_⟩
                  (try dsimp only at hS')
                  go_simp
                  (try with_reducible rfl)
                -- 23: fieldAddr 115 t12 0
                refine' chainP_readG (d := (some 71)) _ rfl (fun w' hS' => ?_) ?_; rotate_left
                · simp only [lookP, allP, Act.put, List.getElem?_cons_zero, List.getElem?_cons_succ, List.setIfInBounds_toArray, List.set_cons_zero, List.set_cons_succ]
                  refine ⟨by kernel_rfl, ?_⟩
                  (try dsimp only at hS')
                  go_simp
                  (try with_reducible rfl)
                -- 24: load 42 t71
                refine' chainP_readG (d := (some 72)) _ rfl (fun w' hS' => ?_) ?_; rotate_left
                · simp only [lookP, allP, Act.put, List.getElem?_cons_zero, List.getElem?_cons_succ, List.setIfInBounds_toArray, List.set_cons_zero, List.set_cons_succ]
                  refine ⟨by kernel_rfl, ?_⟩
                  (try dsimp only at hS')
                  go_simp
                  (try with_reducible rfl)
                -- 25: call { callee := value (func 95), args := #[t65, t66, t70, t72], argTypes := #[24, 49, 3, 42] }
                refine chainP_callG (d := (some 73)) (.int .i64 E) rfl (fun w' hS' => ?_) ?_
                · simp only [lookP, allP, Act.put, List.getElem?_cons_zero, List.getElem?_cons_succ, List.setIfInBounds_toArray, List.set_cons_zero, List.set_cons_succ]
                  refine ⟨by kernel_rfl, ?_⟩
                  intro K hK
                  go_simp
                  go_at_call 95
                  refine (spec_rBitChallenge gr bh _ bl X _ Z.c _ HG.out ((Hbv.out.below (HB.out.trans (hc.mono HB.out.size))).below hS'.1) ((Hzc.out.below (HB.out.trans (hc.mono HB.out.size))).below hS'.1) HL1.out sbh HSX.out sx0 sx1).mono ?_
                  rintro e u ⟨rfl, hq⟩
                  rw [HE.out]
                  exact hK.out _ hq
                -- 26: binOp Binneq 3 t64 t73 3
                refine' chainP_readG (d := (some 74)) _ rfl (fun w' hS' => ?_) ?_; rotate_left
                · simp only [lookP, allP, Act.put, List.getElem?_cons_zero, List.getElem?_cons_succ, List.setIfInBounds_toArray, List.set_cons_zero, List.set_cons_succ]
                  refine ⟨by kernel_rfl, ?_⟩
                  (try dsimp only at hS')
                  go_simp
                  (try with_reducible rfl)
                -- 27: pick t52 (const (bool true)) t74
                refine' chainP_read (d := (some 75)) _ rfl rfl (fun w' hS' => ?_) ?_; rotate_left
                · simp only [lookP, allP, Act.put, List.getElem?_cons_zero, List.getElem?_cons_succ, List.setIfInBounds_toArray, List.set_cons_zero, List.set_cons_succ]
                  (try dsimp only at hS')
                  go_simp
                  (try with_reducible rfl)
                refine chainP_nil (fun u3 hS' => ?_)
                simp only [allP, Act.put, List.setIfInBounds_toArray, List.set_cons_zero, List.set_cons_succ]
                have hq3 := hS'.1
                clear hS'
                replace hc := Below.next hc hq3
                clear hq3 c0_0 c0_1 c0_2 c1_0 c1_1 p0 p1 p2 y1 yzc0 yzc1 yzh0 yzh1 yzr0 yzr1
                obtain ⟨c0_0, c0_1, c0_2, c1_0, c1_1, p0, p1, p2, y1, yzc0, yzc1, yzh0, yzh1, yzr0, yzr1⟩ := HCC.out _ hc
                go_wp2_with fail
                refine NoPanic.normal ?_
                cases hc6 : (SM != E) with
                | false =>
                  have HN1 := Lib.hid (HNS.out true (by rw [HSE.out]; have q := hc6; rw [bne_eq_false_iff_eq] at q; exact beq_iff_eq.2 q))
                  have HOZ := Lib.hid (HOV.out.below hc)
                  have HBZ := Lib.hid (HBrV.out.trans (hc.mono HBrV.out.size))
                  have HZR := Lib.hid (Hzr.out.below (HB.out.trans (hc.mono HB.out.size)))
                  have hszz : u2.heap.size ≤ u3.heap.size := HBZ.out.size
                  go_wp2_with (at_builtin; refine wpList_append_intsN rfl _ _ rfl u2.heap.size _ _ (bfZ ps k) Z.r rfl HOZ.out rfl HZR.out (by rw [HLZ.out, HL3.out]; omega) hszz (2 * k + 2) (by rw [HLZ.out, HL3.out]) ?_; intro a9 c9 w9 hown9 hgr9; have hb9 := HOZ.out.grown hgr9 hszz; have HO9 := Lib.hid hown9; have HB9 := Lib.hid hb9; clear hown9 hgr9 hb9 c0_0 c0_1 c0_2 c1_0 c1_1 p0 p1 p2 y1 yzc0 yzc1 yzh0 yzh1 yzr0 yzr1)
                  go_roundg (pvn - (k + 1))
                  case measure => exact hgk
                  case rel => exact ⟨k + 1, by omega, by go_num, HN1, by rw [HZS.out]; exact HO9, Lib.hid (HBZ.out.trans HB9.out)⟩
                | true =>
                  have HRF : Hid (bbR gr sBit sSmall bh bl cs ps = false) := HNO.out (by rw [HSE.out]; have q := hc6; rw [bne_iff_ne] at q; exact beq_eq_false_iff_ne.2 q)
                  go_wp2_with fail
                  have HV : Hid ((.tuple #[.bool (bbR gr sBit sSmall bh bl cs ps), .bool (bbB gr bh bl cs ps)] : Value) = .tuple #[.bool false, .bool true]) := by unfold Hid; rw [HRF.out, HBB.out]
                  go_ret2
                  exact ⟨congrArg Ending.returned HV.out.symm, HB.out.trans (hc.mono HB.out.size)⟩
            · obtain rfl : pvn = k := by omega
              have hb : decide ((pvn : Int) < (pvn : Int)) = false := decide_eq_false (by omega)
              have hb2 : decide (pvn < pvn) = false := decide_eq_false (by omega)
              obtain ⟨c0_0, c0_1, c0_2, c1_0, c1_1⟩ := cc
              have HZD : Hid ((bfZ ps pvn).all digestB = true) := exp_dig HG.out (bfZ_exp pvn HN.out)
              have HZZ := Lib.hid HO.out.ints
              have hp12 : pvn ≤ 12 := by have := HPC.out; omega
              have ew2 : IntKind.i64.wrap (2 * (pvn : Int)) = ((2 * pvn : Nat) : Int) := by rw [show ((2 * pvn : Nat) : Int) = 2 * (pvn : Int) by push_cast; rfl]; exact IntWalk.i64_in _ (by omega)
              clear HO HBr hlt
              have HBN : Hid (Below w.heap.size w wr) := HBW
              clear HB HCC
              (try clear hc)
              obtain ⟨W, rfl⟩ : ∃ z, z = wr := ⟨_, rfl⟩
              have HB := HBN
              clear HBN
              have hc : Below W.heap.size W W := Below.refl _ _
              have HCC : Hid (∀ u, Below W.heap.size W u → u.cell? ⟨w.heap.size, 0, none⟩ = some (.int .i64 gr.p) ∧ u.cell? ⟨w.heap.size, 1, none⟩ = some (.int .i64 gr.q) ∧ u.cell? ⟨w.heap.size, 2, none⟩ = some (.int .i64 gr.g) ∧ u.cell? ⟨w.heap.size + 1, 0, none⟩ = some (.int .i64 bh) ∧ u.cell? ⟨w.heap.size + 1, 1, none⟩ = some ((.slice bva bvn bvc))) := fun u h => ⟨box_at c0_0 h, box_at c0_1 h, box_at c0_2 h, box_at c1_0 h, box_at c1_1 h⟩
              clear HBW
              go_wp2_with fail
              refine (spec_wSmall gr _ (bfZ ps pvn) (2 * pvn) _ HG.out (HZZ.out.below hc) HZD.out (by have := bfZ_len pvn HN.out; omega) (by omega)).mono ?_
              rintro e u3 ⟨⟨vd, rfl, hds⟩, hq3⟩
              obtain ⟨da, dn, dc, rfl⟩ := hds.shape
              have HDN : Hid (dn = 2 * pvn) := by have h := hds.len; rw [sxE_len] at h; exact h.symm
              obtain ⟨DS, hDS⟩ : ∃ z, sxE gr sSmall (bfZ ps pvn) (2 * pvn) = z := ⟨_, rfl⟩
              have HDD : Hid (DS.length = 2 * pvn) := by unfold Hid; rw [← hDS]; exact sxE_len ..
              have HDI : Hid (∀ j, j < 2 * pvn → 1 ≤ nth DS j ∧ nth DS j ≤ 65535) := by
                intro j hj
                rw [← hDS, sxE_nth _ _ _ hj]
                exact sxI_bd HG.out.q1 _ _ _
              rw [hDS] at hds
              have HDS := Lib.hid hDS
              have HDT := Lib.hid hds
              clear hds hDS HZZ HZD
              replace hc := Below.next hc hq3
              clear hq3 c0_0 c0_1 c0_2 c1_0 c1_1
              obtain ⟨c0_0, c0_1, c0_2, c1_0, c1_1⟩ := HCC.out _ hc
              go_wp2_with fail
              have HBS := Lib.hid (HB.out.trans (hc.mono HB.out.size))
              have HWS := Lib.hid hc
              have HB0 := Lib.hid (Below.refl u3.heap.size u3)
              clear hc c0_0 c0_1 c0_2 c1_0 c1_1
              go_loopg [14, 89] pvn (fun gk pv iv wr => ∃ k : Nat, k + gk = pvn ∧ iv = .int .i64 (k : Int) ∧ pv = .int .i64 (bfP gr bh cs ps DS (2 * k)) ∧ Hid (Below u3.heap.size u3 wr))
              case atStart => exact ⟨0, by omega, rfl, rfl, HB0⟩
              case round =>
                clear HB0
                obtain ⟨k, hkg, rfl, rfl, HBr⟩ := hrel
                have HBW := Lib.hid (HBS.out.trans (HBr.out.mono HBS.out.size))
                have hsr := HBr.out.size
                have cc := HCC.out wr (Below.next HWS.out HBr.out)
                by_cases hlt : k < pvn
                · have hgk : pvn - (k + 1) < gk := by omega
                  have hb : decide ((k : Int) < (pvn : Int)) = true := decide_eq_true (by omega)
                  have hb2 : decide (k < pvn) = true := decide_eq_true hlt
                  have HO : Hid (OwnI wr 0 (.slice none 0 0) []) := OwnI.nil _ _
                  have HK : Hid (k < cs.length) := by unfold Hid; have := Ecv.out; have := HPC.out; omega
                  have HK2 : Hid (k < ps.length) := by unfold Hid; have := Epv.out; omega
                  have HSX : Hid (Small (nth cs k)) := elB_small HG.out (List.all_eq_true.1 HCA.out _ (by rw [show nth cs k = cs[k]'HK.out by have := HK.out; simp [nth, this]]; exact List.getElem_mem HK.out))
                  obtain ⟨b1, o1, hba, hcx⟩ := Hcv.out.at_ (by have := Ecv.out; have := HK.out; omega)
                  have K1 := Lib.hid (hcx k (by have := Ecv.out; have := HK.out; omega))
                  have hba' := hba
                  subst hba'
                  clear hba hcx
                  obtain ⟨bz, oz, hpa, hcx2⟩ := Hpv.out.at_ (by have := HK2.out; have := Epv.out; omega)
                  have hpa' := hpa
                  subst hpa'
                  clear hpa
                  obtain ⟨us, hcell, hrd⟩ := hcx2 k HK2.out
                  clear hcx2
                  obtain ⟨zca, zcn, zcc, zha, zhn, zhc, zra, zrn, zrc, ers, r1, r2, r3⟩ := rdProof.1 ⟨us, rfl, hrd⟩
                  obtain rfl : us = [.slice zca zcn zcc, .slice zha zhn zhc, .slice zra zrn zrc] := by have h := Value.agg.inj ers; simpa using congrArg Array.toList h
                  clear ers hrd
                  have Z0 : Hid (w.cell? ⟨bz, oz + k * 3, none⟩ = some (.slice zca zcn zcc)) := by unfold Hid; have h := hcell 0 (by decide); rw [show rProof.width = 3 from rfl, Nat.add_zero] at h; exact h
                  have Z1 : Hid (w.cell? ⟨bz, oz + k * 3 + 1, none⟩ = some (.slice zha zhn zhc)) := by unfold Hid; have h := hcell 1 (by decide); rw [show rProof.width = 3 from rfl, ← Nat.add_assoc] at h; exact h
                  have Z2 : Hid (w.cell? ⟨bz, oz + k * 3 + 2, none⟩ = some (.slice zra zrn zrc)) := by unfold Hid; have h := hcell 2 (by decide); rw [show rProof.width = 3 from rfl, ← Nat.add_assoc] at h; exact h
                  clear hcell
                  rw [atP_eq HK2.out] at r1 r2 r3
                  have HBF : Hid (bfB gr sBit bh (nth cs k) (atP ps k) = true) := bfN_at pvn HN.out k (by omega)
                  have HPS : Hid (∀ m, m < 2 → bfP gr bh cs ps DS (2 * k + m + 1) = mulL gr [bfP gr bh cs ps DS (2 * k + m), powE gr (bfT gr bh (nth cs k) (atP ps k) m) (nth DS (2 * k + m))]) := fun m hm => bfP_succ gr bh cs ps DS k m hm
                  obtain ⟨X, hX⟩ : ∃ z, nth cs k = z := ⟨_, rfl⟩
                  obtain ⟨Z, hZ⟩ : ∃ z, atP ps k = z := ⟨_, rfl⟩
                  rw [hX] at K1 HSX HBF HPS
                  rw [hZ] at r1 r2 r3 HBF HPS
                  clear hX hZ
                  have Ezc := Lib.hid r1.len
                  have Ezh := Lib.hid r2.len
                  have Ezr := Lib.hid r3.len
                  have Hzc := Lib.hid r1
                  have Hzh := Lib.hid r2
                  have Hzr := Lib.hid r3
                  clear r1 r2 r3
                  have b0 : (0 : Int) ≤ (k : Int) := by omega
                  have bk1 : (k : Int) < (cvn : Int) := by have := HPC.out; omega
                  have bk2 : (k : Int) < (pvn : Int) := by omega
                  have hwk : IntKind.i64.wrap ((k : Int) + 1) = (k : Int) + 1 := IntWalk.i64_in _ (by omega)
                  obtain ⟨R1, hR1⟩ : ∃ r, r = wr.heap.size := ⟨_, rfl⟩
                  obtain ⟨V, hV⟩ : ∃ V, V = wr.alloc (.cells #[.slice zca zcn zcc, .slice zha zhn zhc, .slice zra zrn zrc] 115) := ⟨_, rfl⟩
                  have hbV : Below wr.heap.size wr V := by rw [hV]; exact (Below.refl _ _).alloc (Nat.le_refl _) _
                  have HP1 : Hid (BoxN V R1 115 [.slice zca zcn zcc, .slice zha zhn zhc, .slice zra zrn zrc]) := by unfold Hid; rw [hV, hR1]; exact BoxN.new wr [.slice zca zcn zcc, .slice zha zhn zhc, .slice zra zrn zrc] 115
                  have z0 := box_at Z0.out HBW.out
                  have z1 := box_at Z1.out HBW.out
                  have z2 := box_at Z2.out HBW.out
                  obtain ⟨c0_0, c0_1, c0_2, c1_0, c1_1⟩ := cc
                  go_upto_region 16 with fail
                  rw [← hV, ← hR1]
                  replace c0_0 := box_at c0_0 hbV
                  replace c0_1 := box_at c0_1 hbV
                  replace c0_2 := box_at c0_2 hbV
                  replace c1_0 := box_at c1_0 hbV
                  replace c1_1 := box_at c1_1 hbV
                  have HBV : Hid (Below w.heap.size w V) := HBW.out.trans (hbV.mono HBW.out.size)
                  have HBrV := Lib.hid (HBr.out.trans (hbV.mono HBr.out.size))
                  have HOV := Lib.hid (HO.out.below hbV)
                  clear hV hbV z0 z1 z2 hR1 Z0 Z1 Z2
                  have p0 := HP1.out.cell (i := 0) rfl
                  have p1 := HP1.out.cell (i := 1) rfl
                  have p2 := HP1.out.cell (i := 2) rfl
                  clear HP1
                  have y1 := box_at K1.out HBV.out
                  clear K1
                  clear HOV HO
                  have HFB : Hid (fmB gr Z 2 2 2 = true) := by have h := HBF.out; unfold bfB at h; rw [Bool.and_eq_true] at h; exact h.1
                  have HFP := Lib.hid (fmB_parts HFB.out)
                  clear HFB HBF
                  obtain rfl : zcn = 2 := by have := HFP.out.1; have := Ezc.out; omega
                  obtain rfl : zhn = 2 := by have := HFP.out.2.1; have := Ezh.out; omega
                  obtain rfl : zrn = 2 := by have := HFP.out.2.2.1; have := Ezr.out; omega
                  obtain ⟨zcb, zco, hq, hxzc⟩ := Hzc.out.at_ (by omega)
                  have hq' := hq
                  subst hq'
                  clear hq
                  have HXzc : Hid (∀ i, i < 2 → w.cell? ⟨zcb, zco + i, none⟩ = some (.int .i64 (nth Z.c i))) := fun i hi => hxzc i hi
                  clear hxzc
                  obtain ⟨zhb, zho, hq, hxzh⟩ := Hzh.out.at_ (by omega)
                  have hq' := hq
                  subst hq'
                  clear hq
                  have HXzh : Hid (∀ i, i < 2 → w.cell? ⟨zhb, zho + i, none⟩ = some (.int .i64 (nth Z.h i))) := fun i hi => hxzh i hi
                  clear hxzh
                  obtain ⟨zrb, zro, hq, hxzr⟩ := Hzr.out.at_ (by omega)
                  have hq' := hq
                  subst hq'
                  clear hq
                  have HXzr : Hid (∀ i, i < 2 → w.cell? ⟨zrb, zro + i, none⟩ = some (.int .i64 (nth Z.r i))) := fun i hi => hxzr i hi
                  clear hxzr
                  have HBN : Hid (Below w.heap.size w V) := HBV
                  clear HB HCC
                  (try clear hc)
                  obtain ⟨W, rfl⟩ : ∃ z, z = V := ⟨_, rfl⟩
                  have HB := HBN
                  clear HBN
                  have hc : Below W.heap.size W W := Below.refl _ _
                  have HCC : Hid (∀ u, Below W.heap.size W u → u.cell? ⟨w.heap.size, 0, none⟩ = some (.int .i64 gr.p) ∧ u.cell? ⟨w.heap.size, 1, none⟩ = some (.int .i64 gr.q) ∧ u.cell? ⟨w.heap.size, 2, none⟩ = some (.int .i64 gr.g) ∧ u.cell? ⟨w.heap.size + 1, 0, none⟩ = some (.int .i64 bh) ∧ u.cell? ⟨w.heap.size + 1, 1, none⟩ = some ((.slice bva bvn bvc)) ∧ u.cell? ⟨R1, 0, none⟩ = some ((.slice (some ⟨zcb, zco, none⟩) 2 zcc)) ∧ u.cell? ⟨R1, 1, none⟩ = some ((.slice (some ⟨zhb, zho, none⟩) 2 zhc)) ∧ u.cell? ⟨R1, 2, none⟩ = some ((.slice (some ⟨zrb, zro, none⟩) 2 zrc)) ∧ u.cell? ⟨b1, o1 + k, none⟩ = some (.int .i64 X)) := fun u h => ⟨box_at c0_0 h, box_at c0_1 h, box_at c0_2 h, box_at c1_0 h, box_at c1_1 h, box_at p0 h, box_at p1 h, box_at p2 h, box_at y1 h⟩
                  clear HBV HBW
                  go_wp2_with fail
                  clear hc c0_0 c0_1 c0_2 c1_0 c1_1 p0 p1 p2 y1
                  go_loopg [14, 17] 2 (fun gm pv iv wr => ∃ m : Nat, m + gm = 2 ∧ iv = .int .i64 (m : Int) ∧ pv = .int .i64 (bfP gr bh cs ps DS (2 * k + m)) ∧ Hid (Below W.heap.size W wr))
                  case atStart => exact ⟨0, by omega, rfl, rfl, Below.refl _ _⟩
                  case round =>
                    obtain ⟨m, hmg, rfl, rfl, HBi⟩ := hrel
                    have HBU := Lib.hid (HBrV.out.trans (HBi.out.mono HBrV.out.size))
                    have hsi := HBU.out.size
                    have cc := HCC.out wr HBi.out
                    by_cases hm : m < 2
                    · obtain ⟨c0_0, c0_1, c0_2, c1_0, c1_1, p0, p1, p2, y1⟩ := cc
                      have hgm : 2 - (m + 1) < gk := lt_two hmg hm
                      have hb : decide ((m : Int) < 2) = true := decide_eq_true (by omega)
                      have hb2 : decide (m < 2) = true := decide_eq_true hm
                      have hb3 : decide ((m : Int) < ((2 : Nat) : Int)) = true := decide_eq_true (by omega)
                      have HBD := Lib.hid (HB.out.trans (HBi.out.mono HB.out.size))
                      have x0 := box_at (HXzc.out m hm) HBD.out
                      have x1 := box_at (HXzh.out m hm) HBD.out
                      have x2 := box_at (HXzr.out m hm) HBD.out
                      obtain ⟨dbk, dof, hdq, hxd⟩ := HDT.out.at_ (by have := HDN.out; omega)
                      have hdq' := hdq
                      subst hdq'
                      clear hdq
                      obtain ⟨J, hJ⟩ : ∃ z : Nat, 2 * k + m = z := ⟨_, rfl⟩
                      have hJ2 : J < 2 * pvn := by omega
                      have x3 := box_at (hxd J (by have := HDN.out; omega)) HBU.out
                      clear hxd
                      have sxc : Small (nth Z.c m) := elB_small HG.out (List.all_eq_true.1 HFP.out.2.2.2.1 _ (nthMem (by have := HFP.out.1; omega)))
                      obtain ⟨xh1, xh2⟩ := expB_bd (List.all_eq_true.1 HFP.out.2.2.2.2.1 _ (nthMem (l := Z.h) (k := m) (by have := HFP.out.2.1; omega)))
                      obtain ⟨xr1, xr2⟩ := expB_bd (List.all_eq_true.1 HFP.out.2.2.2.2.2 _ (nthMem (l := Z.r) (k := m) (by have := HFP.out.2.2.1; omega)))
                      have xd12 := HDI.out J hJ2
                      have HRS : Hid (bfP gr bh cs ps DS (2 * k + m + 1) = mulL gr [bfP gr bh cs ps DS (2 * k + m), powE gr (bfT gr bh X Z m) (nth DS (2 * k + m))]) := HPS.out m hm
                      have HJ1 : Hid (bfP gr bh cs ps DS (2 * k + (m + 1)) = bfP gr bh cs ps DS (2 * k + m + 1)) := rfl
                      have HRT : Hid (bfT gr bh X Z m = mulL gr [powE gr bh (nth Z.r m), powE gr (mulL gr [nth Z.c m, powE gr (bcI gr X (m : Int)) (nth Z.h m)]) (-1)]) := rfl
                      have ewA : IntKind.i64.wrap (2 * (k : Int)) = 2 * (k : Int) := IntWalk.i64_in _ (by omega)
                      have ewB : IntKind.i64.wrap (2 * (k : Int) + (m : Int)) = (J : Int) := by rw [show (J : Int) = 2 * (k : Int) + (m : Int) by omega]; exact IntWalk.i64_in _ (by omega)
                      rw [hJ] at HRS HJ1
                      rw [hJ]
                      clear hJ
                      obtain ⟨XC, hXC⟩ : ∃ z, nth Z.c m = z := ⟨_, rfl⟩
                      obtain ⟨XH, hXH⟩ : ∃ z, nth Z.h m = z := ⟨_, rfl⟩
                      obtain ⟨XR, hXR⟩ : ∃ z, nth Z.r m = z := ⟨_, rfl⟩
                      obtain ⟨XD, hXD⟩ : ∃ z, nth DS J = z := ⟨_, rfl⟩
                      rw [hXC] at x0 sxc HRT
                      rw [hXH] at x1 xh1 xh2 HRT
                      rw [hXR] at x2 xr1 xr2 HRT
                      rw [hXD] at x3 xd12 HRS
                      clear hXC hXH hXR hXD
                      have ixh : I64 XH := ⟨by omega, by omega⟩
                      have ixr : I64 XR := ⟨by omega, by omega⟩
                      have ixd : I64 XD := ⟨by omega, by omega⟩
                      obtain ⟨BC, hBC⟩ : ∃ z, bcI gr X (m : Int) = z := ⟨_, rfl⟩
                      have sBC : Small BC := hBC ▸ bcI_small HG.out HSX.out (m : Int)
                      have HBC := Lib.hid hBC
                      rw [hBC] at HRT
                      obtain ⟨TT, hTT⟩ : ∃ z, bfT gr bh X Z m = z := ⟨_, rfl⟩
                      have sTT : Small TT := hTT ▸ mulL_small HG.out _
                      rw [hTT] at HRS HRT
                      clear hBC hTT
                      obtain ⟨PV, hPV⟩ : ∃ z, bfP gr bh cs ps DS J = z := ⟨_, rfl⟩
                      have sPV : Small PV := hPV ▸ bfP_small HG.out cs ps DS J bh
                      rw [hPV] at HRS ⊢
                      clear hPV
                      have bm0 : (0 : Int) ≤ (m : Int) := by omega
                      have bm1 : (m : Int) < 2 := by omega
                      have bj0 : (0 : Int) ≤ (J : Int) := by omega
                      have bj1 : (J : Int) < (dn : Int) := by have := HDN.out; omega
                      have hwm : IntKind.i64.wrap ((m : Int) + 1) = (m : Int) + 1 := IntWalk.i64_in _ (by omega)
                      have HBN : Hid (Below w.heap.size w wr) := HBD
                      clear HB HCC
                      (try clear hc)
                      obtain ⟨W, rfl⟩ : ∃ z, z = wr := ⟨_, rfl⟩
                      have HB := HBN
                      clear HBN
                      have hc : Below W.heap.size W W := Below.refl _ _
                      have HCC : Hid (∀ u, Below W.heap.size W u → u.cell? ⟨w.heap.size, 0, none⟩ = some (.int .i64 gr.p) ∧ u.cell? ⟨w.heap.size, 1, none⟩ = some (.int .i64 gr.q) ∧ u.cell? ⟨w.heap.size, 2, none⟩ = some (.int .i64 gr.g) ∧ u.cell? ⟨w.heap.size + 1, 0, none⟩ = some (.int .i64 bh) ∧ u.cell? ⟨w.heap.size + 1, 1, none⟩ = some ((.slice bva bvn bvc)) ∧ u.cell? ⟨R1, 0, none⟩ = some ((.slice (some ⟨zcb, zco, none⟩) 2 zcc)) ∧ u.cell? ⟨R1, 1, none⟩ = some ((.slice (some ⟨zhb, zho, none⟩) 2 zhc)) ∧ u.cell? ⟨R1, 2, none⟩ = some ((.slice (some ⟨zrb, zro, none⟩) 2 zrc)) ∧ u.cell? ⟨b1, o1 + k, none⟩ = some (.int .i64 X) ∧ u.cell? ⟨zcb, zco + m, none⟩ = some (.int .i64 XC) ∧ u.cell? ⟨zhb, zho + m, none⟩ = some (.int .i64 XH) ∧ u.cell? ⟨zrb, zro + m, none⟩ = some (.int .i64 XR) ∧ u.cell? ⟨dbk, dof + J, none⟩ = some (.int .i64 XD)) := fun u h => ⟨box_at c0_0 h, box_at c0_1 h, box_at c0_2 h, box_at c1_0 h, box_at c1_1 h, box_at p0 h, box_at p1 h, box_at p2 h, box_at y1 h, box_at x0 h, box_at x1 h, box_at x2 h, box_at x3 h⟩
                      clear HBD
                      try (go_wp2_with fail)
                      refine wp_region_noPanic ?_
                      refine wp_region_P (fun w' => w'.cell? ⟨w.heap.size, 0, none⟩ = some (.int .i64 gr.p) ∧ w'.cell? ⟨w.heap.size, 1, none⟩ = some (.int .i64 gr.q) ∧ w'.cell? ⟨w.heap.size, 2, none⟩ = some (.int .i64 gr.g) ∧ w'.cell? ⟨w.heap.size + 1, 0, none⟩ = some (.int .i64 bh) ∧ w'.cell? ⟨w.heap.size + 1, 1, none⟩ = some ((.slice bva bvn bvc)) ∧ w'.cell? ⟨R1, 0, none⟩ = some ((.slice (some ⟨zcb, zco, none⟩) 2 zcc)) ∧ w'.cell? ⟨R1, 1, none⟩ = some ((.slice (some ⟨zhb, zho, none⟩) 2 zhc)) ∧ w'.cell? ⟨R1, 2, none⟩ = some ((.slice (some ⟨zrb, zro, none⟩) 2 zrc)) ∧ w'.cell? ⟨b1, o1 + k, none⟩ = some (.int .i64 X) ∧ w'.cell? ⟨zcb, zco + m, none⟩ = some (.int .i64 XC) ∧ w'.cell? ⟨zhb, zho + m, none⟩ = some (.int .i64 XH) ∧ w'.cell? ⟨zrb, zro + m, none⟩ = some (.int .i64 XR) ∧ w'.cell? ⟨dbk, dof + J, none⟩ = some (.int .i64 XD)) 29 [(0, []), (1, []), (2, [0]), (3, []), (4, [0]), (5, []), (6, [1, 0]), (7, [0]), (8, []), (9, [0]), (10, []), (11, [1, 0]), (12, [0]), (13, []), (14, []), (15, []), (16, [1, 0]), (17, [0]), (18, []), (19, [5, 1, 0]), (20, []), (21, [0]), (22, []), (23, [1, 0]), (24, [0]), (25, [24, 22, 17, 12, 5, 0]), (26, [0])] [] (by kernel_rfl) (by kernel_rfl) (by kernel_rfl) rfl (fun _ _ _ _ h => h) (fun w' h => ⟨box_at c0_0 h, box_at c0_1 h, box_at c0_2 h, box_at c1_0 h, box_at c1_1 h, box_at p0 h, box_at p1 h, box_at p2 h, box_at y1 h, box_at x0 h, box_at x1 h, box_at x2 h, box_at x3 h⟩) ?_
                      simp only [pickP, pickN, List.getElem?_cons_zero, List.getElem?_cons_succ]
                      iterate 19 (refine' chainP_read _ rfl rfl (fun w' hS' => ?_) ?_; rotate_left; · (simp only [lookP, allP, Act.put, List.getElem?_cons_zero, List.getElem?_cons_succ, List.setIfInBounds_toArray, List.set_cons_zero, List.set_cons_succ]; (try dsimp only at hS'); go_simp; (try with_reducible rfl)))
                      -- 19: call { callee := value (func 98), args := #[t111, t115, t116], argTypes := #[24, 3, 3] }
                      refine chainP_call (d := (some 117)) (.int .i64 BC) rfl rfl (fun w' hS' => ?_) ?_
                      · simp only [lookP, allP, Act.put, List.getElem?_cons_zero, List.getElem?_cons_succ, List.setIfInBounds_toArray, List.set_cons_zero, List.set_cons_succ]
                        intro K hK
                        go_simp
                        go_at_call 98
                        refine (spec_rCase gr X (m : Int) _ HG.out HSX.out).mono ?_
                        rintro e u ⟨rfl, hq⟩
                        rw [HBC.out]
                        exact hK.out _ hq
                      iterate 5 (refine' chainP_read _ rfl rfl (fun w' hS' => ?_) ?_; rotate_left; · (simp only [lookP, allP, Act.put, List.getElem?_cons_zero, List.getElem?_cons_succ, List.setIfInBounds_toArray, List.set_cons_zero, List.set_cons_succ]; (try dsimp only at hS'); go_simp; (try with_reducible rfl)))
                      -- 25: call { callee := value (func 97), args := #[t98, t100, t105, t110, t117, t122], argTypes := #[24, 3, 3, 3, 3, 3] }
                      refine chainP_call (d := (some 123)) (.int .i64 TT) rfl rfl (fun w' hS' => ?_) ?_
                      · simp only [lookP, allP, Act.put, List.getElem?_cons_zero, List.getElem?_cons_succ, List.setIfInBounds_toArray, List.set_cons_zero, List.set_cons_succ]
                        intro K hK
                        go_simp
                        go_at_call 97
                        refine (spec_wRatio gr bh XR XC BC XH _ HG.out sbh ixr sxc sBC ixh).mono ?_
                        rintro e u ⟨rfl, hq⟩
                        rw [← HRT.out]
                        exact hK.out _ hq
                      -- 26: assign t123
                      refine' chainP_read (d := (some 18)) _ rfl rfl (fun w' hS' => ?_) ?_; rotate_left
                      · simp only [lookP, allP, Act.put, List.getElem?_cons_zero, List.getElem?_cons_succ, List.setIfInBounds_toArray, List.set_cons_zero, List.set_cons_succ]
                        (try dsimp only at hS')
                        go_simp
                        (try with_reducible rfl)
                      refine chainP_nil (fun u4 hS' => ?_)
                      simp only [allP, Act.put, List.setIfInBounds_toArray, List.set_cons_zero, List.set_cons_succ]
                      have hq4 := hS'.1
                      clear hS'
                      replace hc := Below.next hc hq4
                      clear hq4 c0_0 c0_1 c0_2 c1_0 c1_1 p0 p1 p2 y1 x0 x1 x2 x3
                      obtain ⟨c0_0, c0_1, c0_2, c1_0, c1_1, p0, p1, p2, y1, x0, x1, x2, x3⟩ := HCC.out _ hc
                      go_wp2_with fail
                      refine NoPanic.normal ?_
                      try (go_wp2_with fail)
                      refine wp_region_noPanic ?_
                      refine wp_region_P (fun w' => w'.cell? ⟨w.heap.size, 0, none⟩ = some (.int .i64 gr.p) ∧ w'.cell? ⟨w.heap.size, 1, none⟩ = some (.int .i64 gr.q) ∧ w'.cell? ⟨w.heap.size, 2, none⟩ = some (.int .i64 gr.g) ∧ w'.cell? ⟨w.heap.size + 1, 0, none⟩ = some (.int .i64 bh) ∧ w'.cell? ⟨w.heap.size + 1, 1, none⟩ = some ((.slice bva bvn bvc)) ∧ w'.cell? ⟨R1, 0, none⟩ = some ((.slice (some ⟨zcb, zco, none⟩) 2 zcc)) ∧ w'.cell? ⟨R1, 1, none⟩ = some ((.slice (some ⟨zhb, zho, none⟩) 2 zhc)) ∧ w'.cell? ⟨R1, 2, none⟩ = some ((.slice (some ⟨zrb, zro, none⟩) 2 zrc)) ∧ w'.cell? ⟨b1, o1 + k, none⟩ = some (.int .i64 X) ∧ w'.cell? ⟨zcb, zco + m, none⟩ = some (.int .i64 XC) ∧ w'.cell? ⟨zhb, zho + m, none⟩ = some (.int .i64 XH) ∧ w'.cell? ⟨zrb, zro + m, none⟩ = some (.int .i64 XR) ∧ w'.cell? ⟨dbk, dof + J, none⟩ = some (.int .i64 XD)) 17 [(0, []), (1, []), (2, []), (3, []), (4, []), (5, []), (6, [0]), (7, []), (8, [1, 0]), (9, [4, 0]), (10, [0]), (11, [8, 7, 0]), (12, [10, 0]), (13, [12, 0]), (14, [0])] [] (by kernel_rfl) (by kernel_rfl) (by kernel_rfl) rfl (fun _ _ _ _ h => h) (fun w' h => ⟨box_at c0_0 h, box_at c0_1 h, box_at c0_2 h, box_at c1_0 h, box_at c1_1 h, box_at p0 h, box_at p1 h, box_at p2 h, box_at y1 h, box_at x0 h, box_at x1 h, box_at x2 h, box_at x3 h⟩) ?_
                      simp only [pickP, pickN, List.getElem?_cons_zero, List.getElem?_cons_succ]
                      iterate 11 (refine' chainP_read _ rfl rfl (fun w' hS' => ?_) ?_; rotate_left; · (simp only [lookP, allP, Act.put, List.getElem?_cons_zero, List.getElem?_cons_succ, List.setIfInBounds_toArray, List.set_cons_zero, List.set_cons_succ]; (try dsimp only at hS'); go_simp; (try with_reducible rfl)))
                      -- 11: call { callee := value (func 57), args := #[t126, t127, t134], argTypes := #[24, 3, 3] }
                      refine chainP_call (d := (some 135)) (.int .i64 (powE gr TT XD)) rfl rfl (fun w' hS' => ?_) ?_
                      · simp only [lookP, allP, Act.put, List.getElem?_cons_zero, List.getElem?_cons_succ, List.setIfInBounds_toArray, List.set_cons_zero, List.set_cons_succ]
                        intro K hK
                        go_simp
                        go_at_call 57
                        refine (spec_gExp gr TT XD _ HG.out sTT ixd).mono ?_
                        rintro e u ⟨rfl, hq⟩
                        exact hK.out _ hq
                      -- 12: buildSlice 42 2 #[(0, t125), (1, t135)]
                      refine chainP_do (d := (some 136)) (fun v w => Ints w v [PV, powE gr TT XD]) (fun v w w' hb h => Ints.below h hb) rfl rfl (fun w' hS' => ?_) ?_
                      · simp only [lookP, allP, Act.put, List.getElem?_cons_zero, List.getElem?_cons_succ, List.setIfInBounds_toArray, List.set_cons_zero, List.set_cons_succ]
                        intro K hK
                        go_simp
                        refine hK.out _ _ ((Below.refl _ _).alloc (Nat.le_refl _) _) ?_
                        exact (OwnI.lit (B := w'.heap.size) w' (Nat.le_refl _) (l := [PV, powE gr TT XD]) (AllI64.cons (small_64 sPV) (AllI64.cons (small_64 (powE_small HG.out _ _)) AllI64.nil)) rfl (by simp [maxLen]) 2 rfl).ints
                      -- 13: call { callee := value (func 66), args := #[t124, t136], argTypes := #[24, 42] }
                      refine chainP_call (d := (some 137)) (.int .i64 (mulL gr [PV, powE gr TT XD])) rfl rfl (fun w' hS' => ?_) ?_
                      · simp only [lookP, allP, Act.put, List.getElem?_cons_zero, List.getElem?_cons_succ, List.setIfInBounds_toArray, List.set_cons_zero, List.set_cons_succ]
                        intro x12 hx12
                        intro K hK
                        go_simp
                        go_at_call 66
                        refine (spec_gMul gr _ [PV, powE gr TT XD] _ HG.out hx12 (AllSmall.cons sPV (AllSmall.cons (powE_small HG.out _ _) AllSmall.nil))).mono ?_
                        rintro e u ⟨rfl, hq⟩
                        exact hK.out _ hq
                      -- 14: assign t137
                      refine' chainP_read (d := (some 14)) _ rfl rfl (fun w' hS' => ?_) ?_; rotate_left
                      · simp only [lookP, allP, Act.put, List.getElem?_cons_zero, List.getElem?_cons_succ, List.setIfInBounds_toArray, List.set_cons_zero, List.set_cons_succ]
                        (try dsimp only at hS')
                        go_simp
                        (try with_reducible rfl)
                      refine chainP_nil (fun u5 hS' => ?_)
                      simp only [allP, Act.put, List.setIfInBounds_toArray, List.set_cons_zero, List.set_cons_succ]
                      intro x12 hx12
                      have hq5 := hS'.1
                      clear hS'
                      replace hc := Below.next hc hq5
                      clear hq5 c0_0 c0_1 c0_2 c1_0 c1_1 p0 p1 p2 y1 x0 x1 x2 x3
                      obtain ⟨c0_0, c0_1, c0_2, c1_0, c1_1, p0, p1, p2, y1, x0, x1, x2, x3⟩ := HCC.out _ hc
                      go_wp2_with fail
                      refine NoPanic.normal ?_
                      (try clear c0_0 c0_1 c0_2 c1_0 c1_1 p0 p1 p2 y1 x0 x1 x2 x3)
                      (try (go_wp2_with fail))
                      go_roundg (2 - (m + 1))
                      case measure => exact hgm
                      case rel => exact ⟨m + 1, by omega, by go_num, by rw [HJ1.out, HRS.out], Lib.hid (HBi.out.trans (hc.mono HBi.out.size))⟩
                    · obtain rfl : m = 2 := by omega
                      have hb : decide ((2 : Int) < 2) = false := by decide
                      clear cc
                      (try (go_wp2_with fail))
                      go_roundg (pvn - (k + 1))
                      case measure => exact hgk
                      case rel => exact ⟨k + 1, by omega, by go_num, by rw [show 2 * (k + 1) = 2 * k + 2 by omega], HBU⟩
                · obtain rfl : pvn = k := by omega
                  have hb : decide ((pvn : Int) < (pvn : Int)) = false := decide_eq_false (by omega)
                  have hb2 : decide (pvn < pvn) = false := decide_eq_false (by omega)
                  obtain ⟨c0_0, c0_1, c0_2, c1_0, c1_1⟩ := cc
                  obtain ⟨PV, hPV⟩ : ∃ z, bfP gr bh cs ps DS (2 * pvn) = z := ⟨_, rfl⟩
                  have HFV : Hid (bbR gr sBit sSmall bh bl cs ps = (PV == 1)) := by unfold Hid bbR bbV; rw [HBB.out, Epv.out, HN.out, HDS.out, hPV]; rfl
                  rw [hPV]
                  clear hPV
                  have HBN : Hid (Below w.heap.size w wr) := HBW
                  clear HB HCC
                  (try clear hc)
                  obtain ⟨W, rfl⟩ : ∃ z, z = wr := ⟨_, rfl⟩
                  have HB := HBN
                  clear HBN
                  have hc : Below W.heap.size W W := Below.refl _ _
                  have HCC : Hid (∀ u, Below W.heap.size W u → u.cell? ⟨w.heap.size, 0, none⟩ = some (.int .i64 gr.p) ∧ u.cell? ⟨w.heap.size, 1, none⟩ = some (.int .i64 gr.q) ∧ u.cell? ⟨w.heap.size, 2, none⟩ = some (.int .i64 gr.g) ∧ u.cell? ⟨w.heap.size + 1, 0, none⟩ = some (.int .i64 bh) ∧ u.cell? ⟨w.heap.size + 1, 1, none⟩ = some ((.slice bva bvn bvc))) := fun u h => ⟨box_at c0_0 h, box_at c0_1 h, box_at c0_2 h, box_at c1_0 h, box_at c1_1 h⟩
                  go_wp2_with fail
                  have HV : Hid ((.tuple #[.bool (bbR gr sBit sSmall bh bl cs ps), .bool (bbB gr bh bl cs ps)] : Value) = .tuple #[.bool (PV == 1), .bool true]) := by unfold Hid; rw [HFV.out, HBB.out]
                  go_ret2
                  exact ⟨congrArg Ending.returned HV.out.symm, HB.out.trans (hc.mono HB.out.size)⟩
        | true =>
          have HT2 : Hid (decide (ps.length = cs.length) = false) := by unfold Hid; have q := hc4; rw [bne_iff_ne] at q; exact decide_eq_false (by have := Ecv.out; have := Epv.out; omega)
          go_wp2_with fail
          have HV : Hid ((.tuple #[.bool (bbR gr sBit sSmall bh bl cs ps), .bool (bbB gr bh bl cs ps)] : Value) = .tuple #[.bool false, .bool false]) := by unfold Hid; simp [bbR, bbB, Hhc1.out, Hhc3.out, HT1.out, HT2.out]
          go_ret2
          exact ⟨congrArg Ending.returned HV.out.symm, HB.out.trans (hc.mono HB.out.size)⟩
    | true =>
      have HT1 : Hid (decide (cs.length ≤ 12) = false) := by unfold Hid; have q := of_decide_eq_true hc2; exact decide_eq_false (by have := Ecv.out; have := Epv.out; omega)
      go_wp2_with fail
      have HV : Hid ((.tuple #[.bool (bbR gr sBit sSmall bh bl cs ps), .bool (bbB gr bh bl cs ps)] : Value) = .tuple #[.bool false, .bool false]) := by unfold Hid; simp [bbR, bbB, Hhc1.out, HT1.out]
      go_ret2
      exact ⟨congrArg Ending.returned HV.out.symm, HB.out.trans (hc.mono HB.out.size)⟩
end Go.Proofs.Ytacpnphfopmofaa
