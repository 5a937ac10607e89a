/- Ranges: numbers of bits, checks: walks (printed by gen_ran1.py). -/
import Derived.Test.YteemlmmdngkghaaBit1U
import Derived.Test.YteemlmmdngkghaaBit3U
import Derived.Test.YteemlmmdngkghaaRegVU
import Derived.Test.YteemlmmdngkghaaBaU
import Derived.Deep.Cut
import Derived.Test.YteemlmmdngkghaaBgU
import Derived.Test.YteemlmmdngkghaaDer5U
import Derived.Test.YteemlmmdngkghaaGrpAU
import Derived.Test.YteemlmmdngkghaaRegPU
import Derived.Test.YteemlmmdngkghaaDrG0U
import Derived.Test.YteemlmmdngkghaaBmU
import Derived.Test.YteemlmmdngkghaaDrBU
namespace Go.Proofs.Yteemlmmdngkghaa
open Go.RowKit
set_option linter.unusedSimpArgs false
set_option linter.unusedVariables false

theorem powR : ∀ k, k < 17 → wrap64 (2 ^ k) = (2 : Int) ^ k := by decide +kernel
theorem powS : ∀ k : Nat, k < 17 → IntKind.i64.wrap (2 ^ min (IntKind.u64.wrap (k : Int)).toNat 64) = (2 : Int) ^ k := by decide +kernel
theorem powR_bd : ∀ k, k < 17 → 1 ≤ (2 : Int) ^ k ∧ (2 : Int) ^ k ≤ 65536 := by decide +kernel
theorem rnB_parts {gr : GroupD} {n : Int} (h : rnB gr n = true) : (1 ≤ n ∧ n ≤ 16) ∧ (2 : Int) ^ n.toNat < gr.q := by
  unfold rnB at h
  rw [Bool.and_eq_true, decide_eq_true_iff, decide_eq_true_iff] at h
  exact h
set_option maxHeartbeats 1000000 in
theorem impl_isRange (gr : GroupD) (n : Int) (w : World) :
    Calls Try.prog 87 #[.agg #[.int .i64 gr.p, .int .i64 gr.q, .int .i64 gr.g], .int .i64 n] w fun e w' => e = .returned (.bool (rnB gr n)) ∧ Below w.heap.size w w' := by
  by_cases h : 1 ≤ n ∧ n ≤ 16
  · obtain ⟨k, rfl⟩ : ∃ k : Nat, n = (k : Int) := ⟨n.toNat, by omega⟩
    have H1 : Hid (decide (1 ≤ (k : Int) ∧ (k : Int) ≤ 16) = true) := decide_eq_true h
    have hpow := powR k (by omega)
    have q1 : (k : Int) < 64 := by omega
    have q2 : k < 64 := by omega
    obtain ⟨b, hb⟩ : ∃ b, decide ((2 : Int) ^ k < gr.q) = b := ⟨_, rfl⟩
    have HB : Hid (rnB gr (k : Int) = b) := by unfold Hid rnB; rw [H1.out, Int.toNat_natCast, hb]; rfl
    rw [HB.out]
    clear h
    go_enter Try.func87, Try.ntmps87
    go_wp2_with (first
      | (go_at_call 88; refine (impl_within _ _ _ _).mono ?_; rintro e w1 ⟨rfl, rfl⟩; rw [H1.out])
      | fail)
    (try rw [Int.toNat_natCast])
    (try (go_wp2_with fail))
    go_ret
    exact ⟨rfl, by (repeat (first | exact Below.refl _ _ | assumption | refine Below.drew ?_ | refine Below.alloc ?_ (by first | (simp; done) | (simp; omega)) _ | refine Below.setCell ?_ (by first | (simp; done) | (simp; omega)) _))⟩
  · have H1 : Hid (decide (1 ≤ n ∧ n ≤ 16) = false) := decide_eq_false h
    have HB : Hid (rnB gr n = false) := by unfold Hid rnB; rw [H1.out]; rfl
    rw [HB.out]
    clear h
    go_enter Try.func87, Try.ntmps87
    go_wp2_with (first
      | (go_at_call 88; refine (impl_within _ _ _ _).mono ?_; rintro e w1 ⟨rfl, rfl⟩; rw [H1.out])
      | fail)
    go_ret
    exact ⟨rfl, by (repeat (first | exact Below.refl _ _ | assumption | refine Below.drew ?_ | refine Below.alloc ?_ (by first | (simp; done) | (simp; omega)) _ | refine Below.setCell ?_ (by first | (simp; done) | (simp; omega)) _))⟩
set_option maxHeartbeats 1000000 in
theorem spec_rBits (gr : GroupD) (n : Int) (w : World) :
    Calls Try.prog 93 #[.agg #[.int .i64 gr.p, .int .i64 gr.q, .int .i64 gr.g], .int .i64 n] w fun e w' => e = .returned (.bool (rnB gr n)) ∧ Below w.heap.size w w' := by
  by_cases h : 1 ≤ n ∧ n ≤ 16
  · obtain ⟨k, rfl⟩ : ∃ k : Nat, n = (k : Int) := ⟨n.toNat, by omega⟩
    have H1 : Hid (decide (1 ≤ (k : Int) ∧ (k : Int) ≤ 16) = true) := decide_eq_true h
    have hpow := powR k (by omega)
    have q1 : (k : Int) < 64 := by omega
    have q2 : k < 64 := by omega
    obtain ⟨b, hb⟩ : ∃ b, decide ((2 : Int) ^ k < gr.q) = b := ⟨_, rfl⟩
    have HB : Hid (rnB gr (k : Int) = b) := by unfold Hid rnB; rw [H1.out, Int.toNat_natCast, hb]; rfl
    rw [HB.out]
    clear h
    go_enter Try.func93, Try.ntmps93
    go_wp2_with (first
      | (go_at_call 94; refine (spec_l1In _ _ _ _).mono ?_; rintro e w1 ⟨rfl, rfl⟩; rw [H1.out])
      | fail)
    (try rw [Int.toNat_natCast])
    (try (go_wp2_with fail))
    go_ret
    exact ⟨rfl, by (repeat (first | exact Below.refl _ _ | assumption | refine Below.drew ?_ | refine Below.alloc ?_ (by first | (simp; done) | (simp; omega)) _ | refine Below.setCell ?_ (by first | (simp; done) | (simp; omega)) _))⟩
  · have H1 : Hid (decide (1 ≤ n ∧ n ≤ 16) = false) := decide_eq_false h
    have HB : Hid (rnB gr n = false) := by unfold Hid rnB; rw [H1.out]; rfl
    rw [HB.out]
    clear h
    go_enter Try.func93, Try.ntmps93
    go_wp2_with (first
      | (go_at_call 94; refine (spec_l1In _ _ _ _).mono ?_; rintro e w1 ⟨rfl, rfl⟩; rw [H1.out])
      | fail)
    go_ret
    exact ⟨rfl, by (repeat (first | exact Below.refl _ _ | assumption | refine Below.drew ?_ | refine Below.alloc ?_ (by first | (simp; done) | (simp; omega)) _ | refine Below.setCell ?_ (by first | (simp; done) | (simp; omega)) _))⟩
theorem rgV_small {gr : GroupD} (hg : OkG gr) (l : List Int) (k : Nat) : Small (rgV gr l k) := by
  cases k with
  | zero => exact (⟨by decide, by decide⟩ : Small (1 : Int))
  | succ k => exact mulL_small hg _
theorem bits_succ {f : Int → ProofD → Bool} {b : List Int} {p : List ProofD} {k : Nat} (hb : k < b.length) (hp : k < p.length) (h : ((b.zip p).take k).all (fun z => f z.1 z.2) = true) (h2 : f (nth b k) p[k] = true) : ((b.zip p).take (k + 1)).all (fun z => f z.1 z.2) = true := by
  have hz : k < (b.zip p).length := by rw [List.length_zip]; omega
  rw [List.take_succ_eq_append_getElem hz, List.all_append, h, List.getElem_zip]
  rw [show nth b k = b[k] by simp [nth, hb]] at h2
  simp [h2]
theorem bits_not {f : Int → ProofD → Bool} {b : List Int} {p : List ProofD} {k : Nat} (hb : k < b.length) (hp : k < p.length) (h2 : f (nth b k) p[k] = false) : (b.zip p).all (fun z => f z.1 z.2) = false := by
  have hz : k < (b.zip p).length := by rw [List.length_zip]; omega
  rw [show nth b k = b[k] by simp [nth, hb]] at h2
  cases h : (b.zip p).all (fun z => f z.1 z.2) with
  | false => rfl
  | true =>
    have q := List.all_eq_true.1 h _ (List.getElem_mem hz)
    rw [List.getElem_zip] at q
    simp only at q
    rw [h2] at q
    cases q
set_option maxRecDepth 100000 in
set_option maxHeartbeats 2000000 in
theorem impl_verifyRange (gr : GroupD) (bh : Int) (bv : Value) (bl : List Int) (c0 : Int) (N : Nat) (vb vp : Value) (x : RangeD) (w : World) (hg : OkG gr) (hb : Ints w bv bl) (sbh : Small bh) (hN : N ≤ 16) (hxb : Ints w vb x.b) (hxp : RdR rProof w vp x.p) :
    Calls Try.prog 99 #[.agg #[.int .i64 gr.p, .int .i64 gr.q, .int .i64 gr.g], .agg #[.int .i64 bh, bv], .int .i64 c0, .int .i64 (N : Int), .agg #[vb, vp]] w fun e w' => e = .returned (.bool (vrV gr sBit bh c0 N x)) ∧ Below w.heap.size w w' := by
  have HG := Lib.hid hg
  clear hg
  obtain ⟨bva, bvn, bvc, rfl⟩ := hb.shape
  have Ebv := Lib.hid hb.len
  have Kbv := Lib.hid hb.capMax
  have Hbv := Lib.hid hb
  clear hb
  obtain ⟨xba, xbn, xbc, rfl⟩ := hxb.shape
  have Exb := Lib.hid hxb.len
  have Kxb := Lib.hid hxb.capMax
  have Hxb := Lib.hid hxb
  clear hxb
  obtain ⟨xpa, xpn, xpc, rfl⟩ := hxp.shape
  have Exp := Lib.hid hxp.len
  have Kxp := Lib.hid hxp.capMax
  have Hxp := Lib.hid hxp
  clear hxp
  obtain ⟨W, hW⟩ : ∃ W, W = ((w.alloc (.cells #[.int .i64 gr.p, .int .i64 gr.q, .int .i64 gr.g] 25)).alloc (.cells #[.int .i64 bh, (.slice bva bvn bvc)] 28)).alloc (.cells #[(.slice xba xbn xbc), (.slice xpa xpn xpc)] 33) := ⟨_, rfl⟩
  have HB : Hid (Below w.heap.size w W) := by unfold Hid; rw [hW]; (repeat (first | exact Below.refl _ _ | assumption | refine Below.drew ?_ | refine Below.alloc ?_ (by first | (simp; done) | (simp; omega)) _ | refine Below.setCell ?_ (by first | (simp; done) | (simp; omega)) _))
  have c0_0 : W.cell? ⟨w.heap.size, 0, none⟩ = some (.int .i64 gr.p) := by rw [hW]; simp [go_sem]
  have c0_1 : W.cell? ⟨w.heap.size, 1, none⟩ = some (.int .i64 gr.q) := by rw [hW]; simp [go_sem]
  have c0_2 : W.cell? ⟨w.heap.size, 2, none⟩ = some (.int .i64 gr.g) := by rw [hW]; simp [go_sem]
  have c1_0 : W.cell? ⟨w.heap.size + 1, 0, none⟩ = some (.int .i64 bh) := by rw [hW]; simp [go_sem]
  have c1_1 : W.cell? ⟨w.heap.size + 1, 1, none⟩ = some ((.slice bva bvn bvc)) := by rw [hW]; simp [go_sem]
  have c2_0 : W.cell? ⟨w.heap.size + 1 + 1, 0, none⟩ = some ((.slice xba xbn xbc)) := by rw [hW]; simp [go_sem]
  have c2_1 : W.cell? ⟨w.heap.size + 1 + 1, 1, none⟩ = some ((.slice xpa xpn xpc)) := by rw [hW]; simp [go_sem]
  have HSW : Hid (W.heap.size = w.heap.size + 3) := by unfold Hid; rw [hW]; simp
  go_enter Try.func99, Try.ntmps99
  go_upto_region 1 with fail
  rw [← hW]
  have hse : w.heap.size + 1 + 1 + 1 = W.heap.size := by have := HSW.out; omega
  (try rw [hse])
  clear hse
  clear hW
  have hc : Below W.heap.size W W := Below.refl _ _
  have HCC : Hid (∀ u, Below W.heap.size W u → u.cell? ⟨w.heap.size, 0, none⟩ = some (.int .i64 gr.p) ∧ u.cell? ⟨w.heap.size, 1, none⟩ = some (.int .i64 gr.q) ∧ u.cell? ⟨w.heap.size, 2, none⟩ = some (.int .i64 gr.g) ∧ u.cell? ⟨w.heap.size + 1, 0, none⟩ = some (.int .i64 bh) ∧ u.cell? ⟨w.heap.size + 1, 1, none⟩ = some ((.slice bva bvn bvc)) ∧ u.cell? ⟨w.heap.size + 1 + 1, 0, none⟩ = some ((.slice xba xbn xbc)) ∧ u.cell? ⟨w.heap.size + 1 + 1, 1, none⟩ = some ((.slice xpa xpn xpc))) := fun u h => ⟨box_at c0_0 h, box_at c0_1 h, box_at c0_2 h, box_at c1_0 h, box_at c1_1 h, box_at c2_0 h, box_at c2_1 h⟩
  cases hc1 : ((xbn : Int) != (N : Int)) with
  | false =>
    have HLB : Hid (x.b.length = N) := by have q := hc1; rw [bne_eq_false_iff_eq] at q; unfold Hid; have := Exb.out; omega
    have HLBd : Hid (decide (x.b.length = N) = true) := decide_eq_true HLB.out
    cases hc2 : ((xpn : Int) != (N : Int)) with
    | false =>
      have HLP : Hid (x.p.length = N) := by have q := hc2; rw [bne_eq_false_iff_eq] at q; unfold Hid; have := Exp.out; omega
      have HLPd : Hid (decide (x.p.length = N) = true) := decide_eq_true HLP.out
      go_wp2_with fail
      refine (impl_hasAll gr _ x.b _ HG.out (Hxb.out.below (HB.out.trans (hc.mono HB.out.size)))).mono ?_
      rintro e u1 ⟨rfl, hq1⟩
      replace hc := Below.next hc hq1
      clear hq1 c0_0 c0_1 c0_2 c1_0 c1_1 c2_0 c2_1
      obtain ⟨c0_0, c0_1, c0_2, c1_0, c1_1, c2_0, c2_1⟩ := HCC.out _ hc
      cases hc3 : x.b.all (elB gr) with
      | false =>
        have Hhc3 := Lib.hid hc3
        clear hc3
        go_wp2_with fail
        have HV : Hid ((.bool (vrV gr sBit bh c0 N x) : Value) = .bool false) := by unfold Hid; simp [vrV, hc1, hc2, Hhc3.out, HLBd.out, HLPd.out]
        go_ret
        exact ⟨congrArg Ending.returned HV.out.symm, HB.out.trans (hc.mono HB.out.size)⟩
      | true =>
        have HAB : Hid (x.b.all (elB gr) = true) := hc3
        have Hhc3 := Lib.hid hc3
        clear hc3
        go_wp2_with fail
        have HC := Lib.hid hc
        have C0 := Lib.hid c0_0
        have C1 := Lib.hid c0_1
        have C2 := Lib.hid c0_2
        have C3 := Lib.hid c1_0
        have C4 := Lib.hid c1_1
        have C5 := Lib.hid c2_0
        have C6 := Lib.hid c2_1
        clear hc c0_0 c0_1 c0_2 c1_0 c1_1 c2_0 c2_1
        go_loopg [11, 36] xbn (fun gh pv iv wr => ∃ k : Nat, k + gh = xbn ∧ iv = .int .i64 k ∧ pv = .int .i64 (rgV gr x.b k) ∧ ((x.b.zip x.p).take k).all (fun z => btV gr sBit bh z.1 z.2) = true ∧ Below u1.heap.size u1 wr)
        case atStart => exact ⟨0, by omega, rfl, rfl, rfl, Below.refl _ _⟩
        case round =>
          obtain ⟨k, hkg, rfl, rfl, hall, hbu⟩ := hrel
          have HALL := Lib.hid hall
          clear hall
          have HBU := Lib.hid hbu
          clear hbu
          have HBW := Lib.hid (HB.out.trans ((Below.next HC.out HBU.out).mono HB.out.size))
          have HBL := Lib.hid (Hbv.out.below HBW.out)
          by_cases hlt : k < xbn
          · have HK : Hid (k < x.b.length) := by unfold Hid; have := Exb.out; omega
            have HK2 : Hid (k < x.p.length) := by unfold Hid; have := HLP.out; have := HLB.out; have := HK.out; omega
            have HSX : Hid (Small (nth x.b k)) := by
              have q := List.all_eq_true.1 HAB.out _ (List.getElem_mem HK.out)
              unfold Hid
              rw [show nth x.b k = x.b[k]'HK.out by have := HK.out; simp [nth, this]]
              exact elB_small HG.out q
            obtain ⟨bk1, oo1, rfl, hcx1⟩ := (Hxb.out.below HBW.out).at_ (by have := Exb.out; have := HK.out; omega)
            have y1 := hcx1 k (by have := Exb.out; have := HK.out; omega)
            clear hcx1
            obtain ⟨bz, oz, rfl, hcx2⟩ := (RdR.below Hxp.out HBW.out).at_ (by have := HK2.out; have := Exp.out; omega)
            obtain ⟨us, hcell, hrd⟩ := hcx2 k HK2.out
            clear hcx2
            obtain ⟨za0, zn0, zc0, za1, zn1, zc1, za2, zn2, zc2, ers, r1, r2, r3⟩ := rdProof.1 ⟨us, rfl, hrd⟩
            obtain rfl : us = [.slice za0 zn0 zc0, .slice za1 zn1 zc1, .slice za2 zn2 zc2] := by have h := Value.agg.inj ers; simpa using congrArg Array.toList h
            clear ers hrd
            have HPZ : Hid (PfR wr (.agg #[.slice za0 zn0 zc0, .slice za1 zn1 zc1, .slice za2 zn2 zc2]) (x.p[k]'HK2.out)) := PfR.mk r1 r2 r3
            clear r1 r2 r3
            have z_0 : wr.cell? ⟨bz, oz + k * 3, none⟩ = some (.slice za0 zn0 zc0) := by have h := hcell 0 (by decide); rw [show rProof.width = 3 from rfl, Nat.add_zero] at h; exact h
            have z_1 : wr.cell? ⟨bz, oz + k * 3 + 1, none⟩ = some (.slice za1 zn1 zc1) := by have h := hcell 1 (by decide); rw [show rProof.width = 3 from rfl, ← Nat.add_assoc] at h; exact h
            have z_2 : wr.cell? ⟨bz, oz + k * 3 + 2, none⟩ = some (.slice za2 zn2 zc2) := by have h := hcell 2 (by decide); rw [show rProof.width = 3 from rfl, ← Nat.add_assoc] at h; exact h
            clear hcell
            have hk16 : k < 17 := by have := HLB.out; have := HK.out; omega
            have hpow := powR k hk16
            have hpb := powR_bd k hk16
            have HRS : Hid (rgV gr x.b (k + 1) = mulL gr [rgV gr x.b k, powE gr (nth x.b k) (2 ^ k)]) := rfl
            have HSP := Lib.hid (rgV_small HG.out x.b k)
            have HBS : btV gr sBit bh (nth x.b k) (x.p[k]'HK2.out) = true → ((x.b.zip x.p).take (k + 1)).all (fun z => btV gr sBit bh z.1 z.2) = true := fun q => bits_succ HK.out HK2.out HALL.out q
            have HBN : btV gr sBit bh (nth x.b k) (x.p[k]'HK2.out) = false → (x.b.zip x.p).all (fun z => btV gr sBit bh z.1 z.2) = false := fun q => bits_not HK.out HK2.out q
            replace HBS := Lib.hid HBS
            replace HBN := Lib.hid HBN
            obtain ⟨PW, hPW⟩ : ∃ z, (2 : Int) ^ k = z := ⟨_, rfl⟩
            rw [hPW] at hpb HRS
            replace hpow : IntKind.i64.wrap (2 ^ min (IntKind.u64.wrap (k : Int)).toNat 64) = PW := by rw [powS k hk16, hPW]
            clear hPW
            have HPI : Hid (I64 PW) := ⟨by omega, by omega⟩
            generalize rgV gr x.b k = PV at HRS HSP ⊢
            generalize nth x.b k = X at y1 HSX HRS HBS HBN
            generalize x.p[k]'HK2.out = Z at HPZ HBS HBN
            have b0 : (0 : Int) ≤ (k : Int) := by omega
            have b1 : (k : Int) < (xbn : Int) := by omega
            have b2 : (k : Int) < (xpn : Int) := by have := Exp.out; have := HK2.out; omega
            have q1 : (k : Int) < 64 := by omega
            have q2 : k < 64 := by omega
            have hwk : IntKind.i64.wrap ((k : Int) + 1) = (k : Int) + 1 := IntWalk.i64_in _ (by omega)
            have c0_0 := box_at C0.out HBU.out
            have c0_1 := box_at C1.out HBU.out
            have c0_2 := box_at C2.out HBU.out
            have c1_0 := box_at C3.out HBU.out
            have c1_1 := box_at C4.out HBU.out
            have c2_0 := box_at C5.out HBU.out
            have c2_1 := box_at C6.out HBU.out
            have hc : Below wr.heap.size wr wr := Below.refl _ _
            cases hbt : btV gr sBit bh X Z with
            | false =>
              have HBT := Lib.hid hbt
              have HVB : Hid (vrV gr sBit bh c0 N x = false) := by
                have q := HBN.out hbt
                unfold Hid vrV bitsV; rw [q]; simp
              clear hbt
              go_wp2_with fail
              try (go_wp2_with fail)
              refine wp_region_noPanic ?_
              refine wp_region_P (fun w' => w'.cell? ⟨w.heap.size, 0, none⟩ = some (.int .i64 gr.p) ∧ w'.cell? ⟨w.heap.size, 1, none⟩ = some (.int .i64 gr.q) ∧ w'.cell? ⟨w.heap.size, 2, none⟩ = some (.int .i64 gr.g) ∧ w'.cell? ⟨(w.heap.size + 1), 0, none⟩ = some (.int .i64 bh) ∧ w'.cell? ⟨(w.heap.size + 1), 1, none⟩ = some (.slice bva bvn bvc) ∧ w'.cell? ⟨(w.heap.size + 1 + 1), 0, none⟩ = some (.slice (some ⟨bk1, oo1, none⟩) xbn xbc) ∧ w'.cell? ⟨(w.heap.size + 1 + 1), 1, none⟩ = some (.slice (some ⟨bz, oz, none⟩) xpn xpc) ∧ w'.cell? ⟨bz, oz + k * 3, none⟩ = some (.slice za0 zn0 zc0) ∧ w'.cell? ⟨bz, oz + k * 3 + 1, none⟩ = some (.slice za1 zn1 zc1) ∧ w'.cell? ⟨bz, oz + k * 3 + 2, none⟩ = some (.slice za2 zn2 zc2)) 12 [(0, []), (1, []), (2, []), (3, []), (4, [0]), (5, []), (6, [1, 0]), (7, [0]), (8, [7, 6, 5, 0]), (9, [0])] [] (by kernel_rfl) (by kernel_rfl) (by kernel_rfl) rfl (fun _ _ _ _ h => h) (fun w' h => ⟨box_at c0_0 h, box_at c0_1 h, box_at c0_2 h, box_at c1_0 h, box_at c1_1 h, box_at c2_0 h, box_at c2_1 h, box_at z_0 h, box_at z_1 h, box_at z_2 h⟩) ?_
              simp only [pickP, pickN, List.getElem?_cons_zero, List.getElem?_cons_succ]
              iterate 8 (refine' chainP_read _ rfl rfl (fun w' hS' => ?_) ?_; rotate_left; · (simp only [lookP, allP, Act.put, List.getElem?_cons_zero, List.getElem?_cons_succ, List.setIfInBounds_toArray, List.set_cons_zero, List.set_cons_succ]; (try dsimp only at hS'); go_simp; (try with_reducible rfl)))
              -- 8: call { callee := value (func 214), args := #[t41, t42, t43, t48], argTypes := #[39, 79, 3, 42] }
              refine chainP_call (d := (some 49)) (.bool false) rfl rfl (fun w' hS' => ?_) ?_
              · simp only [lookP, allP, Act.put, List.getElem?_cons_zero, List.getElem?_cons_succ, List.setIfInBounds_toArray, List.set_cons_zero, List.set_cons_succ]
                intro K hK
                go_simp
                go_at_call 224
                refine (impl_verifyBit gr bh _ bl X _ Z _ HG.out (HBL.out.below hS'.1) (HPZ.out.below hS'.1) sbh HSX.out).mono ?_
                rintro e u ⟨rfl, hq⟩
                rw [HBT.out]
                exact hK.out _ hq
              -- 9: unOp Unnot 4 t49
              refine' chainP_read (d := (some 50)) _ rfl rfl (fun w' hS' => ?_) ?_; rotate_left
              · simp only [lookP, allP, Act.put, List.getElem?_cons_zero, List.getElem?_cons_succ, List.setIfInBounds_toArray, List.set_cons_zero, List.set_cons_succ]
                (try dsimp only at hS')
                go_simp
                (try with_reducible rfl)
              refine chainP_nil (fun ua hS' => ?_)
              simp only [allP, Act.put, List.setIfInBounds_toArray, List.set_cons_zero, List.set_cons_succ]
              have hq1 := hS'.1
              clear hS'
              replace hc := Below.next hc hq1
              replace c0_0 := box_at c0_0 hq1
              replace c0_1 := box_at c0_1 hq1
              replace c0_2 := box_at c0_2 hq1
              replace c1_0 := box_at c1_0 hq1
              replace c1_1 := box_at c1_1 hq1
              replace c2_0 := box_at c2_0 hq1
              replace c2_1 := box_at c2_1 hq1
              replace z_0 := box_at z_0 hq1
              replace z_1 := box_at z_1 hq1
              replace z_2 := box_at z_2 hq1
              clear hq1
              go_wp2_with fail
              refine NoPanic.normal ?_
              go_wp2_with fail
              have HVV : Hid ((.bool (vrV gr sBit bh c0 N x) : Value) = .bool false) := by unfold Hid; rw [HVB.out]
              go_ret
              exact ⟨congrArg Ending.returned HVV.out.symm, HBW.out.trans (hc.mono HBW.out.size)⟩
            | true =>
              have HBT := Lib.hid hbt
              have HAN := Lib.hid (HBS.out hbt)
              clear hbt
              go_wp2_with fail
              try (go_wp2_with fail)
              refine wp_region_noPanic ?_
              refine wp_region_P (fun w' => w'.cell? ⟨w.heap.size, 0, none⟩ = some (.int .i64 gr.p) ∧ w'.cell? ⟨w.heap.size, 1, none⟩ = some (.int .i64 gr.q) ∧ w'.cell? ⟨w.heap.size, 2, none⟩ = some (.int .i64 gr.g) ∧ w'.cell? ⟨(w.heap.size + 1), 0, none⟩ = some (.int .i64 bh) ∧ w'.cell? ⟨(w.heap.size + 1), 1, none⟩ = some (.slice bva bvn bvc) ∧ w'.cell? ⟨(w.heap.size + 1 + 1), 0, none⟩ = some (.slice (some ⟨bk1, oo1, none⟩) xbn xbc) ∧ w'.cell? ⟨(w.heap.size + 1 + 1), 1, none⟩ = some (.slice (some ⟨bz, oz, none⟩) xpn xpc) ∧ w'.cell? ⟨bz, oz + k * 3, none⟩ = some (.slice za0 zn0 zc0) ∧ w'.cell? ⟨bz, oz + k * 3 + 1, none⟩ = some (.slice za1 zn1 zc1) ∧ w'.cell? ⟨bz, oz + k * 3 + 2, none⟩ = some (.slice za2 zn2 zc2)) 12 [(0, []), (1, []), (2, []), (3, []), (4, [0]), (5, []), (6, [1, 0]), (7, [0]), (8, [7, 6, 5, 0]), (9, [0])] [] (by kernel_rfl) (by kernel_rfl) (by kernel_rfl) rfl (fun _ _ _ _ h => h) (fun w' h => ⟨box_at c0_0 h, box_at c0_1 h, box_at c0_2 h, box_at c1_0 h, box_at c1_1 h, box_at c2_0 h, box_at c2_1 h, box_at z_0 h, box_at z_1 h, box_at z_2 h⟩) ?_
              simp only [pickP, pickN, List.getElem?_cons_zero, List.getElem?_cons_succ]
              iterate 8 (refine' chainP_read _ rfl rfl (fun w' hS' => ?_) ?_; rotate_left; · (simp only [lookP, allP, Act.put, List.getElem?_cons_zero, List.getElem?_cons_succ, List.setIfInBounds_toArray, List.set_cons_zero, List.set_cons_succ]; (try dsimp only at hS'); go_simp; (try with_reducible rfl)))
              -- 8: call { callee := value (func 214), args := #[t41, t42, t43, t48], argTypes := #[39, 79, 3, 42] }
              refine chainP_call (d := (some 49)) (.bool true) rfl rfl (fun w' hS' => ?_) ?_
              · simp only [lookP, allP, Act.put, List.getElem?_cons_zero, List.getElem?_cons_succ, List.setIfInBounds_toArray, List.set_cons_zero, List.set_cons_succ]
                intro K hK
                go_simp
                go_at_call 224
                refine (impl_verifyBit gr bh _ bl X _ Z _ HG.out (HBL.out.below hS'.1) (HPZ.out.below hS'.1) sbh HSX.out).mono ?_
                rintro e u ⟨rfl, hq⟩
                rw [HBT.out]
                exact hK.out _ hq
              -- 9: unOp Unnot 4 t49
              refine' chainP_read (d := (some 50)) _ rfl rfl (fun w' hS' => ?_) ?_; rotate_left
              · simp only [lookP, allP, Act.put, List.getElem?_cons_zero, List.getElem?_cons_succ, List.setIfInBounds_toArray, List.set_cons_zero, List.set_cons_succ]
                (try dsimp only at hS')
                go_simp
                (try with_reducible rfl)
              refine chainP_nil (fun ua hS' => ?_)
              simp only [allP, Act.put, List.setIfInBounds_toArray, List.set_cons_zero, List.set_cons_succ]
              have hq1 := hS'.1
              clear hS'
              replace hc := Below.next hc hq1
              replace c0_0 := box_at c0_0 hq1
              replace c0_1 := box_at c0_1 hq1
              replace c0_2 := box_at c0_2 hq1
              replace c1_0 := box_at c1_0 hq1
              replace c1_1 := box_at c1_1 hq1
              replace c2_0 := box_at c2_0 hq1
              replace c2_1 := box_at c2_1 hq1
              replace z_0 := box_at z_0 hq1
              replace z_1 := box_at z_1 hq1
              replace z_2 := box_at z_2 hq1
              clear hq1
              go_wp2_with fail
              refine NoPanic.normal ?_
              clear z_0 z_1 z_2
              go_wp2_with fail
              try (go_wp2_with fail)
              refine wp_region_noPanic ?_
              refine wp_region_P (fun w' => w'.cell? ⟨w.heap.size, 0, none⟩ = some (.int .i64 gr.p) ∧ w'.cell? ⟨w.heap.size, 1, none⟩ = some (.int .i64 gr.q) ∧ w'.cell? ⟨w.heap.size, 2, none⟩ = some (.int .i64 gr.g) ∧ w'.cell? ⟨(w.heap.size + 1), 0, none⟩ = some (.int .i64 bh) ∧ w'.cell? ⟨(w.heap.size + 1), 1, none⟩ = some (.slice bva bvn bvc) ∧ w'.cell? ⟨(w.heap.size + 1 + 1), 0, none⟩ = some (.slice (some ⟨bk1, oo1, none⟩) xbn xbc) ∧ w'.cell? ⟨(w.heap.size + 1 + 1), 1, none⟩ = some (.slice (some ⟨bz, oz, none⟩) xpn xpc)) 13 [(0, []), (1, []), (2, []), (3, []), (4, []), (5, [0]), (6, [0]), (7, [4, 3, 0]), (8, [6, 0]), (9, [8, 0]), (10, [0])] [] (by kernel_rfl) (by kernel_rfl) (by kernel_rfl) rfl (fun _ _ _ _ h => h) (fun w' h => ⟨box_at c0_0 h, box_at c0_1 h, box_at c0_2 h, box_at c1_0 h, box_at c1_1 h, box_at c2_0 h, box_at c2_1 h⟩) ?_
              simp only [pickP, pickN, List.getElem?_cons_zero, List.getElem?_cons_succ]
              iterate 5 (refine' chainP_read _ rfl rfl (fun w' hS' => ?_) ?_; rotate_left; · (simp only [lookP, allP, Act.put, List.getElem?_cons_zero, List.getElem?_cons_succ, List.setIfInBounds_toArray, List.set_cons_zero, List.set_cons_succ]; (try dsimp only at hS'); go_simp; (try with_reducible rfl)))
              -- 5: convert 3 229 t55
              refine' chainP_read (d := (some 56)) _ rfl rfl (fun w' hS' => ?_) ?_; rotate_left
              · simp only [lookP, allP, Act.put, List.getElem?_cons_zero, List.getElem?_cons_succ, List.setIfInBounds_toArray, List.set_cons_zero, List.set_cons_succ]
                (try dsimp only at hS')
                go_simp
                (try with_reducible rfl)
              -- 6: binOp Binshl 3 (const (int i64 1)) t56 229
              refine' chainP_read (d := (some 57)) _ rfl rfl (fun w' hS' => ?_) ?_; rotate_left
              · simp only [lookP, allP, Act.put, List.getElem?_cons_zero, List.getElem?_cons_succ, List.setIfInBounds_toArray, List.set_cons_zero, List.set_cons_succ]
                (try dsimp only at hS')
                go_simp
                (try with_reducible rfl)
              -- 7: call { callee := value (func 165), args := #[t53, t54, t57], argTypes := #[39, 3, 3] }
              refine chainP_call (d := (some 58)) (.int .i64 (powE gr X PW)) rfl rfl (fun w' hS' => ?_) ?_
              · simp only [lookP, allP, Act.put, List.getElem?_cons_zero, List.getElem?_cons_succ, List.setIfInBounds_toArray, List.set_cons_zero, List.set_cons_succ]
                intro K hK
                go_simp
                go_at_call 106
                refine (impl_pow gr X PW _ HG.out HSX.out HPI.out).mono ?_
                rintro e u ⟨rfl, hq⟩
                exact hK.out _ hq
              -- 8: buildSlice 24 2 #[(0, t52), (1, t58)]
              refine chainP_do (d := (some 59)) (fun v w => Ints w v [PV, powE gr X PW]) (fun v w w' hb h => Ints.below h hb) rfl rfl (fun w' hS' => ?_) ?_
              · simp only [lookP, allP, Act.put, List.getElem?_cons_zero, List.getElem?_cons_succ, List.setIfInBounds_toArray, List.set_cons_zero, List.set_cons_succ]
                intro K hK
                go_simp
                refine hK.out _ _ ((Below.refl _ _).alloc (Nat.le_refl _) _) ?_
                exact (OwnI.lit (B := w'.heap.size) w' (Nat.le_refl _) (l := [PV, powE gr X PW]) (AllI64.cons (small_64 HSP.out) (AllI64.cons (small_64 (powE_small HG.out _ _)) AllI64.nil)) rfl (by simp [maxLen]) 2 rfl).ints
              -- 9: call { callee := value (func 197), args := #[t51, t59], argTypes := #[39, 24] }
              refine chainP_call (d := (some 60)) (.int .i64 (mulL gr [PV, powE gr X PW])) rfl rfl (fun w' hS' => ?_) ?_
              · simp only [lookP, allP, Act.put, List.getElem?_cons_zero, List.getElem?_cons_succ, List.setIfInBounds_toArray, List.set_cons_zero, List.set_cons_succ]
                intro x8 hx8
                intro K hK
                go_simp
                go_at_call 105
                refine (impl_mul gr _ [PV, powE gr X PW] _ HG.out hx8 (AllSmall.cons HSP.out (AllSmall.cons (powE_small HG.out _ _) AllSmall.nil))).mono ?_
                rintro e u ⟨rfl, hq⟩
                exact hK.out _ hq
              -- 10: assign t60
              refine' chainP_read (d := (some 11)) _ rfl rfl (fun w' hS' => ?_) ?_; rotate_left
              · simp only [lookP, allP, Act.put, List.getElem?_cons_zero, List.getElem?_cons_succ, List.setIfInBounds_toArray, List.set_cons_zero, List.set_cons_succ]
                (try dsimp only at hS')
                go_simp
                (try with_reducible rfl)
              refine chainP_nil (fun ub hS' => ?_)
              simp only [allP, Act.put, List.setIfInBounds_toArray, List.set_cons_zero, List.set_cons_succ]
              intro x8 hx8
              have hq2 := hS'.1
              clear hS'
              replace hc := Below.next hc hq2
              replace c0_0 := box_at c0_0 hq2
              replace c0_1 := box_at c0_1 hq2
              replace c0_2 := box_at c0_2 hq2
              replace c1_0 := box_at c1_0 hq2
              replace c1_1 := box_at c1_1 hq2
              replace c2_0 := box_at c2_0 hq2
              replace c2_1 := box_at c2_1 hq2
              clear hq2
              clear c0_0 c0_1 c0_2 c1_0 c1_1 c2_0 c2_1
              have HC2 := Lib.hid hc
              clear hc
              go_wp2_with fail
              refine NoPanic.normal ?_
              go_wp2_with fail
              go_roundg (xbn - (k + 1))
              case measure => omega
              case rel => exact ⟨k + 1, by omega, by go_num, by rw [HRS.out], HAN.out, HBU.out.trans (HC2.out.mono HBU.out.size)⟩
          · obtain rfl : xbn = k := by omega
            have HFV : Hid (vrV gr sBit bh c0 N x = (rgV gr x.b N == c0)) := by
              have q := HALL.out
              rw [List.take_of_length_le (by rw [List.length_zip]; have := Exb.out; have := HLB.out; have := HLP.out; omega)] at q
              unfold Hid vrV bitsV
              rw [decide_eq_true HLB.out, decide_eq_true HLP.out, HAB.out, q]; rfl
            have HNE : Hid (rgV gr x.b xbn = rgV gr x.b N) := by have := Exb.out; have := HLB.out; unfold Hid; congr 1; omega
            rw [HNE.out]
            generalize rgV gr x.b N = PV at HFV ⊢
            clear HNE
            go_wp2_with fail
            have HVV : Hid ((.bool (vrV gr sBit bh c0 N x) : Value) = .bool (PV == c0)) := by unfold Hid; rw [HFV.out]
            go_ret
            exact ⟨congrArg Ending.returned HVV.out.symm, HBW.out⟩
    | true =>
      have HLPd : Hid (decide (x.p.length = N) = false) := by have q := hc2; rw [bne_iff_ne] at q; exact decide_eq_false (by have := Exp.out; omega)
      go_wp2_with fail
      have HV : Hid ((.bool (vrV gr sBit bh c0 N x) : Value) = .bool false) := by unfold Hid; simp [vrV, hc1, hc2, HLBd.out, HLPd.out]
      go_ret
      exact ⟨congrArg Ending.returned HV.out.symm, HB.out.trans (hc.mono HB.out.size)⟩
  | true =>
    have HLBd : Hid (decide (x.b.length = N) = false) := by have q := hc1; rw [bne_iff_ne] at q; exact decide_eq_false (by have := Exb.out; omega)
    go_wp2_with fail
    have HV : Hid ((.bool (vrV gr sBit bh c0 N x) : Value) = .bool false) := by unfold Hid; simp [vrV, hc1, HLBd.out]
    go_ret
    exact ⟨congrArg Ending.returned HV.out.symm, HB.out.trans (hc.mono HB.out.size)⟩
end Go.Proofs.Yteemlmmdngkghaa
namespace Go.Proofs.Yteemlmmdngkghaa
open Go.RowKit
set_option linter.unusedSimpArgs false
set_option linter.unusedVariables false

def c2 (gr : GroupD) (a b : CipherD) : CipherD := ⟨mulL gr [a.a, b.a], mulL gr [a.b, b.b]⟩
def SmallC (c : CipherD) : Prop := Small c.a ∧ Small c.b
end Go.Proofs.Yteemlmmdngkghaa
namespace Go.Proofs.Yteemlmmdngkghaa
open Go.RowKit
set_option linter.unusedSimpArgs false
set_option linter.unusedVariables false

def AllSmallC (l : List CipherD) : Prop := ∀ c ∈ l, SmallC c
end Go.Proofs.Yteemlmmdngkghaa
namespace Go.Proofs.Yteemlmmdngkghaa
open Go.RowKit

/-- a function value that decides p on structs of a row, in every world that has grown from w -/
structure DecidesS {δ : Type} (R : RowK δ) (w : World) (g : FuncId) (caps : Array Value) (p : δ → Bool) : Prop where
  enters : ∀ args wr, (callFunc g args).run Try.prog wr = .ok (.enter g args) wr
  runs : ∀ v d wr, (kS R).rd wr v d → Below w.heap.size w wr → Calls Try.prog g (#[v] ++ caps) wr fun e w' => e = .returned (.bool (p d)) ∧ Below wr.heap.size wr w'
theorem DecidesS.below {δ : Type} {R : RowK δ} {w w' : World} {g : FuncId} {caps : Array Value} {p : δ → Bool} (h : DecidesS R w g caps p) (hb : Below w.heap.size w w') : DecidesS R w' g caps p :=
  ⟨h.enters, fun v d wr hx hr => h.runs v d wr hx (hb.trans (hr.mono hb.size))⟩
end Go.Proofs.Yteemlmmdngkghaa
namespace Go.Proofs.Yteemlmmdngkghaa
open Go.RowKit
set_option linter.unusedSimpArgs false
set_option linter.unusedVariables false

def FrR {δ : Type} (e : TypeId) (R : RowK δ) (w0 w : World) (B : Nat) (v : Value) (ds : List δ) : Prop :=
  ∃ css : List (List Value), css.length = ds.length ∧ w.ownsRow B e R.width v ds.length css.flatten ∧ ∀ i (h1 : i < css.length) (h2 : i < ds.length), R.rd w0 css[i] ds[i]
section
variable {δ : Type} {e : TypeId} {R : RowK δ} {w0 w w' : World} {B : Nat} {v : Value} {ds es : List δ}
theorem FrR.lens {css : List (List Value)} (hl : css.length = ds.length) (hel : ∀ i (h1 : i < css.length) (h2 : i < ds.length), R.rd w0 css[i] ds[i]) : ∀ c ∈ css, c.length = R.width := by
  intro c hc
  obtain ⟨i, hi, rfl⟩ := List.getElem_of_mem hc
  exact R.rd_len (hel i hi (by omega))
theorem FrR.ones {css : List (List Value)} (hl : css.length = ds.length) (hel : ∀ i (h1 : i < css.length) (h2 : i < ds.length), R.rd w0 css[i] ds[i]) : ∀ u ∈ css.flatten, u.oneCell' = true := by
  intro u hu
  obtain ⟨c, hc, hu⟩ := List.mem_flatten.1 hu
  obtain ⟨i, hi, rfl⟩ := List.getElem_of_mem hc
  exact R.rd_one (hel i hi (by omega)) u hu
theorem FrR.rd (h : FrR e R w0 w B v ds) (hb : Below w0.heap.size w0 w) : RdR R w v ds := by
  obtain ⟨css, hl, hO, hel⟩ := h
  have hlen := FrR.lens hl hel
  have hO' := hO
  obtain ⟨hl1, ⟨rfl, h0⟩ | ⟨g, c, cur, rfl, hbb, hgc, hnc, hcm, hcs, htake⟩⟩ := hO
  · have : ds = [] := List.eq_nil_of_length_eq_zero h0
    subst this; exact RdR.nil R w
  · refine ⟨some ⟨g, 0, none⟩, ds.length, c, rfl, rfl, hnc, hcm, .inr (.inr ⟨g, 0, rfl, fun i hi => ?_⟩)⟩
    refine ⟨css[i]'(by omega), fun k hk => ?_, R.rd_below (hel i (by omega) hi) hb⟩
    have h1 := World.ownsRow.cellAt hO' (i * R.width + k) (by
      have : (i + 1) * R.width ≤ ds.length * R.width := Nat.mul_le_mul_right _ hi
      rw [Nat.succ_mul] at this; omega)
    rw [Nat.zero_add, h1, flat_get hlen hk, List.getElem?_eq_getElem (by omega)]
    rfl
theorem FrR.nil (e : TypeId) (R : RowK δ) (w0 w : World) (B : Nat) : FrR e R w0 w B (.slice none 0 0) [] :=
  ⟨[], rfl, by simpa using World.ownsRow_nil w B e R.width, fun i h1 _ => by simp at h1⟩
theorem FrR.below (h : FrR e R w0 w B v ds) (hb : Below w.heap.size w w') : FrR e R w0 w' B v ds := by
  obtain ⟨css, hl, hO, hel⟩ := h
  exact ⟨css, hl, ownsRow_frame hO fun g hg => hb.block g (hO.lt g hg).2, hel⟩
theorem FrR.frame (h : FrR e R w0 w B v ds) (hf : ∀ g, v.ownBlock = some g → w'.heap[g]? = w.heap[g]?) : FrR e R w0 w' B v ds := by
  obtain ⟨css, hl, hO, hel⟩ := h
  exact ⟨css, hl, ownsRow_frame hO hf, hel⟩
theorem FrR.lt (h : FrR e R w0 w B v ds) : ∀ g, v.ownBlock = some g → B ≤ g ∧ g < w.heap.size := by
  obtain ⟨css, hl, hO, hel⟩ := h
  exact fun g hg => hO.lt g hg
theorem FrR.mono {B' : Nat} (h : FrR e R w0 w B v ds) (hB : B' ≤ B) : FrR e R w0 w B' v ds := by
  obtain ⟨css, hl, hO, hel⟩ := h
  exact ⟨css, hl, ownsRow_mono hO hB, hel⟩
end
end Go.Proofs.Yteemlmmdngkghaa
namespace Go.Proofs.Yteemlmmdngkghaa
open Go.RowKit
set_option linter.unusedSimpArgs false
set_option linter.unusedVariables false

theorem FrR.lit {δ : Type} {e : TypeId} {R : RowK δ} (w : World) (css : List (List Value)) {ds : List δ} {cs : Array Value} {n : Nat} (hcs : cs = css.flatten.toArray) (hl : css.length = ds.length) (hn : n = ds.length) (hm : n ≤ maxLen) (hsz : cs.size = n * R.width)
    (hel : ∀ i (h1 : i < css.length) (h2 : i < ds.length), R.rd w css[i] ds[i]) : FrR e R w (w.alloc (.cells cs e)) w.heap.size (.slice (some ⟨w.heap.size, 0, none⟩) n n) ds := by
  have hO := World.ownsRow_lit (e := e) (size := R.width) w cs n (Nat.le_refl _) hm hsz
  subst hcs
  rw [hn] at hO ⊢
  exact ⟨css, hl, by simpa using hO, hel⟩
def SmallCI (c : CipherD) : Prop := I64 c.a ∧ I64 c.b
def AllCI (l : List CipherD) : Prop := ∀ c ∈ l, SmallCI c
theorem AllSmallC.nil : AllSmallC [] := fun x hx => by cases hx
theorem AllSmallC.cons {x : CipherD} {l : List CipherD} (h : SmallC x) (h' : AllSmallC l) : AllSmallC (x :: l) := fun y hy => by
  rcases List.mem_cons.1 hy with rfl | hy
  · exact h
  · exact h' y hy
theorem AllCI.nil : AllCI [] := fun x hx => by cases hx
theorem AllCI.cons {x : CipherD} {l : List CipherD} (h : SmallCI x) (h' : AllCI l) : AllCI (x :: l) := fun y hy => by
  rcases List.mem_cons.1 hy with rfl | hy
  · exact h
  · exact h' y hy
end Go.Proofs.Yteemlmmdngkghaa
namespace Go.Proofs.Yteemlmmdngkghaa
open Go.RowKit
set_option linter.unusedSimpArgs false
set_option linter.unusedVariables false

structure CastD where
  c : CipherD
  v : CipherD
  p : ProofD
end Go.Proofs.Yteemlmmdngkghaa
namespace Go.Proofs.Yteemlmmdngkghaa
open Go.RowKit
set_option linter.unusedSimpArgs false
set_option linter.unusedVariables false

/-- a cast in memory -/
def CaR (w : World) (v : Value) (x : CastD) : Prop := ∃ a b c, v = .agg #[.int .i64 x.c.a, .int .i64 x.c.b, .int .i64 x.v.a, .int .i64 x.v.b, a, b, c] ∧ ((I64 x.c.a ∧ I64 x.c.b) ∧ (I64 x.v.a ∧ I64 x.v.b)) ∧ Ints w a x.p.c ∧ Ints w b x.p.h ∧ Ints w c x.p.r
theorem CaR.below {w w' : World} {v : Value} {x : CastD} (h : CaR w v x) (hb : Below w.heap.size w w') : CaR w' v x := by
  obtain ⟨a, b, c, e, h0, h1, h2, h3⟩ := h; exact ⟨a, b, c, e, h0, h1.below hb, h2.below hb, h3.below hb⟩
end Go.Proofs.Yteemlmmdngkghaa
namespace Go.Proofs.Yteemlmmdngkghaa
open Go.RowKit
set_option linter.unusedSimpArgs false
set_option linter.unusedVariables false

/-- two rows in different blocks -/
def Parted (v1 v2 : Value) : Prop := v1.ownBlock = none ∨ v1.ownBlock ≠ v2.ownBlock
theorem Parted.new {w : World} {B : Nat} {v1 v2 v2' : Value} {l : List Int} (h : Parted v1 v2) (h1 : OwnI w B v1 l) (h2 : v2'.ownBlock = v2.ownBlock ∨ v2'.ownBlock = some w.heap.size) : Parted v1 v2' := by
  rcases h with h | h
  · exact .inl h
  · rcases h2 with h2 | h2
    · exact .inr (by rw [h2]; exact h)
    · refine .inr ?_
      rw [h2]
      intro e
      have := (h1.lt _ e).2
      omega
theorem Parted.symm {v1 v2 : Value} (h : Parted v1 v2) : Parted v2 v1 := by
  rcases h with h | h
  · cases e : v2.ownBlock with
    | none => exact .inl e
    | some k => exact .inr (by rw [h, e]; simp)
  · exact .inr (fun e => h e.symm)
end Go.Proofs.Yteemlmmdngkghaa
namespace Go.Proofs.Yteemlmmdngkghaa
open Go.RowKit
set_option linter.unusedSimpArgs false
set_option linter.unusedVariables false

/-- one integer appended: the row stays in its block, or lies in a new one -/
theorem run_append_oneX {w : World} {B : Nat} {v y : Value} {l : List Int} {x : Int} (hown : OwnI w B v l) (hy : Ints w y [x]) (hlen : l.length ≤ 100000000) (hB : B ≤ w.heap.size) (ty : TypeId) :
    ∃ v' w', (Builtin.append_ #[26, 26] ty #[v, y]).run Try.prog w = .ok v' w' ∧ OwnI w' B v' (l ++ [x]) ∧ w.grownBy w' v.ownBlock ∧ (v'.ownBlock = v.ownBlock ∨ v'.ownBlock = some w.heap.size) := by
  have hx : I64 x := hy.all.at_ 0
  obtain ⟨a, n, c, rfl⟩ := hy.shape
  have hn := hy.len
  simp only [List.length_cons, List.length_nil] at hn
  subst hn
  obtain ⟨b, o, rfl, hcx⟩ := hy.at_ (by omega)
  have hc0 := hcx 0 (by omega)
  rw [Nat.add_zero] at hc0
  have hc : w.cell? ⟨b, o, none⟩ = some (.int .i64 x) := hc0
  obtain ⟨v', w', hr, h1, h2⟩ := run_append_ints (t := 26) rfl hown hy (by simp; omega) hB ty
  refine ⟨v', w', hr, h1, h2, ?_⟩
  obtain ⟨i, hi, hz, hsz, hby⟩ := info_parts info_int
  have hnews : ∀ j u, [Value.int IntKind.i64 x][j]? = some u → w.cell? ((⟨b, o, none⟩ : Addr).add j) = some u := by
    intro j u hu
    cases j with
    | zero => rw [Addr.add_lit]; simp at hu; subst hu; exact hc
    | succ j => simp at hu
  rcases hown.2.2 with ⟨rfl, hl0⟩ | ⟨g, cap, cur, rfl, hbg, hg, hnc, hcm, hcs, htake⟩
  · have q := run_append_nil (P := Try.prog) w 26 ty 3 i (.int .i64 0) Try.underlying26 hi hz ⟨b, o, none⟩ 1 c [.int .i64 x] (by simp [hsz]) hnews (by omega) (by omega) (by omega)
    rw [q] at hr
    injection hr with e1 e2
    subst e1
    exact .inr rfl
  · by_cases hroom : l.length + 1 ≤ cap
    · have q := run_append_room (P := Try.prog) w 26 ty 3 i Try.underlying26 hi g l.length cap cur hg ⟨b, o, none⟩ 1 c [.int .i64 x] (by simp [hsz]) hnews (by intro u hu; simp at hu; subst hu; rfl) hroom (by simp [hsz]; omega)
      rw [q] at hr
      injection hr with e1 e2
      subst e1
      exact .inl rfl
    · have holds : ∀ j u, (l.map (Value.int .i64))[j]? = some u → w.cell? ((⟨g, 0, none⟩ : Addr).add j) = some u := hown.2.cells (g := g) rfl
      have q := run_append_grow (P := Try.prog) w 26 ty 3 i (.int .i64 0) Try.underlying26 hi hz ⟨g, 0, none⟩ l.length cap (l.map (Value.int .i64)) (by simp [hsz]) holds ⟨b, o, none⟩ 1 c [.int .i64 x] (by simp [hsz]) hnews (by omega) (by omega) (growslice_fits (by omega) (by rw [hby]; omega))
      rw [q] at hr
      injection hr with e1 e2
      subst e1
      exact .inr rfl
theorem wpList_append_oneX {ops : Array Oper} {rest : List Oper} {o : Oper} {a : Act} {w : World} {Q : Exit → Act → World → Prop} (hg : o.guard = none) (s x : Operand)
    (ho : o.op = .call { callee := .builtin .append, args := #[s, x], argTypes := #[26, 26] })
    (B : Nat) (v y : Value) (l : List Int) (z : Int) (N : Nat) (hs : a.eval s = v) (hown : OwnI w B v l) (hx : a.eval x = y) (hy : Ints w y [z]) (hlen : l.length ≤ 100000000) (hB : B ≤ w.heap.size) (hN : l.length + 1 = N)
    (hK : ∀ a' c' w', OwnI w' B (.slice a' N c') (l ++ [z]) → w.grownBy w' v.ownBlock → ((Value.slice a' N c').ownBlock = v.ownBlock ∨ (Value.slice a' N c').ownBlock = some w.heap.size) → wpList Try.prog ops Q rest (a.put o.dst (.slice a' N c')) w') : wpList Try.prog ops Q (o :: rest) a w := by
  obtain ⟨v', w', hr, h1, h2, h3⟩ := run_append_oneX hown hy hlen hB o.type
  obtain ⟨a', c', e⟩ := h1.shape
  rw [show (l ++ [z]).length = N by simp; exact hN] at e
  subst e
  refine wpList_plain hg fun K hK' => ?_
  unfold Oper.wp execOp
  simp only [ho, resolve, invoke, builtin, Sem.run_bind, Sem.run_pure, Result.andThen_ok, List.map_toArray, List.map_cons, List.map_nil, hs, hx, hr]
  exact hK' _ _ (hK a' c' w' h1 h2 h3)
theorem infoP : ∃ i, Try.prog.info? 63 = some i ∧ i.zero = some (.agg #[.slice none 0 0, .slice none 0 0, .slice none 0 0]) ∧ i.size = 3 ∧ i.bytes ≤ 1000 := by
  have h : (Try.prog.info? 63).map (fun i => (i.zero, i.size, decide (i.bytes ≤ 1000))) = some (some (.agg #[.slice none 0 0, .slice none 0 0, .slice none 0 0]), 3, true) := by kernel_rfl
  obtain ⟨i, hi, hz⟩ := Option.map_eq_some_iff.1 h
  simp only [Prod.mk.injEq] at hz
  exact ⟨i, hi, hz.1, hz.2.1, of_decide_eq_true hz.2.2⟩
/-- a row of proofs: each in rows of its own, apart from the row z of integers -/
def OwnQ (w : World) (B : Nat) (z v : Value) (ds : List ProofD) : Prop :=
  ∃ css : List (List Value), css.length = ds.length ∧ w.ownsRow B 63 3 v ds.length css.flatten ∧
    ∀ i (h1 : i < css.length) (h2 : i < ds.length), ∃ x y u, css[i] = [x, y, u] ∧ (OwnI w B x ds[i].c ∧ Parted x z) ∧ (OwnI w B y ds[i].h ∧ Parted y z) ∧ (OwnI w B u ds[i].r ∧ Parted u z)
section
variable {w w' : World} {B : Nat} {z z' v : Value} {l : List Int} {ds : List ProofD} {d : ProofD}
theorem OwnQ.nil (w : World) (B : Nat) (z : Value) : OwnQ w B z (.slice none 0 0) [] :=
  ⟨[], rfl, by simpa using World.ownsRow_nil w B 63 3, fun i h1 _ => by simp at h1⟩
theorem OwnQ.lens {css : List (List Value)} (hl : css.length = ds.length)
    (hel : ∀ i (h1 : i < css.length) (h2 : i < ds.length), ∃ x y u, css[i] = [x, y, u] ∧ (OwnI w B x ds[i].c ∧ Parted x z) ∧ (OwnI w B y ds[i].h ∧ Parted y z) ∧ (OwnI w B u ds[i].r ∧ Parted u z)) : ∀ c ∈ css, c.length = 3 := by
  intro c hc
  obtain ⟨i, hi, rfl⟩ := List.getElem_of_mem hc
  obtain ⟨x, y, u, e, _⟩ := hel i hi (by omega)
  rw [e]; rfl
theorem rowP3 {x y u : Value} (h1 : Ints w x d.c) (h2 : Ints w y d.h) (h3 : Ints w u d.r) : rProof.rd w [x, y, u] d := by
  obtain ⟨a1, n1, c1, rfl⟩ := h1.shape
  obtain ⟨a2, n2, c2, rfl⟩ := h2.shape
  obtain ⟨a3, n3, c3, rfl⟩ := h3.shape
  obtain ⟨vs, e, h⟩ := rdProof.2 ⟨_, _, _, _, _, _, _, _, _, rfl, h1, h2, h3⟩
  obtain rfl : vs = [.slice a1 n1 c1, .slice a2 n2 c2, .slice a3 n3 c3] := by have h := Value.agg.inj e; simpa using (congrArg Array.toList h).symm
  exact h
theorem OwnQ.rd (h : OwnQ w B z v ds) : RdR rProof w v ds := by
  obtain ⟨css, hl, hO, hel⟩ := h
  refine FrR.rd (e := 63) (w0 := w) (B := B) ⟨css, hl, hO, fun i h1 h2 => ?_⟩ (Below.refl _ _)
  obtain ⟨x, y, u, e, ⟨q1, _⟩, ⟨q2, _⟩, ⟨q3, _⟩⟩ := hel i h1 h2
  rw [e]
  exact rowP3 q1.ints q2.ints q3.ints
theorem OwnQ.len64 (h : OwnQ w B z v ds) : ∃ a c, v = .slice a ds.length c := by
  obtain ⟨a, n, c, rfl⟩ := h.rd.shape
  have := h.rd.len
  subst this
  exact ⟨a, c, rfl⟩
theorem OwnQ.below (h : OwnQ w B z v ds) (hb : Below w.heap.size w w') : OwnQ w' B z v ds := by
  obtain ⟨css, hl, hO, hel⟩ := h
  refine ⟨css, hl, ownsRow_frame hO fun g hg => hb.block g (hO.lt g hg).2, fun i h1 h2 => ?_⟩
  obtain ⟨x, y, u, e, ⟨q1, p1⟩, ⟨q2, p2⟩, ⟨q3, p3⟩⟩ := hel i h1 h2
  exact ⟨x, y, u, e, ⟨q1.below hb, p1⟩, ⟨q2.below hb, p2⟩, ⟨q3.below hb, p3⟩⟩
theorem OwnQ.other {b : Nat} (h : OwnQ w B z v ds) (hb : b < B) (j : Nat) (x : Value) : OwnQ (w.setCell ⟨b, j, none⟩ x) B z v ds := by
  obtain ⟨css, hl, hO, hel⟩ := h
  refine ⟨css, hl, ownsRow_setCell_below hO hb x, fun i h1 h2 => ?_⟩
  obtain ⟨x', y, u, e, ⟨q1, p1⟩, ⟨q2, p2⟩, ⟨q3, p3⟩⟩ := hel i h1 h2
  exact ⟨x', y, u, e, ⟨q1.other hb _ _, p1⟩, ⟨q2.other hb _ _, p2⟩, ⟨q3.other hb _ _, p3⟩⟩
/-- a row of integers and a row of proofs lie in different blocks -/
theorem OwnI.apartQ {n : Nat} {xs : List Value} {q : Value} (h : OwnI w B q l) (hO : w.ownsRow B 63 3 v n xs) : q.ownBlock = none ∨ q.ownBlock ≠ v.ownBlock := by
  cases e : q.ownBlock with
  | none => exact .inl rfl
  | some k =>
    refine .inr fun e2 => ?_
    rcases hO.2 with ⟨rfl, _⟩ | ⟨g, c, cur, rfl, hb, hg, _⟩
    · cases e2
    · have hk : some k = some g := e2
      cases hk
      rcases h.2.2 with h2 | ⟨g', c', cur', rfl, hb', hg', _⟩
      · rw [h2.1] at e; cases e
      · cases e
        rw [hg] at hg'
        injection hg' with hg'
        injection hg' with h1 h2 h3
        exact absurd h2 (by decide)
theorem OwnI.apartQ' {n : Nat} {xs : List Value} {q : Value} (h : OwnI w B q l) (hO : w.ownsRow B 63 3 v n xs) : v.ownBlock = none ∨ v.ownBlock ≠ q.ownBlock := by
  rcases h.apartQ hO with h1 | h1
  · rw [h1]
    cases e : v.ownBlock with
    | none => exact .inl rfl
    | some k => exact .inr (by simp)
  · exact .inr fun e => h1 e.symm
/-- the row of integers has grown -/
theorem OwnQ.ints (h : OwnQ w B z v ds) (hz : OwnI w B z l) (hg : w.grownBy w' z.ownBlock) (hn : z'.ownBlock = z.ownBlock ∨ z'.ownBlock = some w.heap.size) : OwnQ w' B z' v ds := by
  obtain ⟨css, hl, hO, hel⟩ := h
  refine ⟨css, hl, hO.kept hg (hz.apartQ' hO), fun i h1 h2 => ?_⟩
  obtain ⟨x, y, u, e, ⟨q1, p1⟩, ⟨q2, p2⟩, ⟨q3, p3⟩⟩ := hel i h1 h2
  exact ⟨x, y, u, e, ⟨q1.kept hg p1, p1.new q1 hn⟩, ⟨q2.kept hg p2, p2.new q2 hn⟩, ⟨q3.kept hg p3, p3.new q3 hn⟩⟩
theorem run_append_Q {b : Nat} {x y u : Value} (h : OwnQ w B z v ds) (hz : OwnI w B z l) (hx : OwnI w B x d.c) (hy : OwnI w B y d.h) (hu : OwnI w B u d.r) (px : Parted x z) (py : Parted y z) (pu : Parted u z)
    (hc0 : w.cell? ⟨b, 0, none⟩ = some x) (hc1 : w.cell? ⟨b, 1, none⟩ = some y) (hc2 : w.cell? ⟨b, 2, none⟩ = some u) (hB : B ≤ w.heap.size) (hlen : ds.length ≤ 100000000) (ty : TypeId) :
    ∃ v' w', (Builtin.append_ #[31, 31] ty #[v, .slice (some ⟨b, 0, none⟩) 1 1]).run Try.prog w = .ok v' w' ∧ OwnQ w' B z v' (ds ++ [d]) ∧ OwnI w' B z l ∧ w.grownBy w' v.ownBlock := by
  obtain ⟨css, hl, hO, hel⟩ := h
  obtain ⟨i, hi, hzr, hsz, hby⟩ := infoP
  have hfl := flat_len (OwnQ.lens hl hel)
  obtain ⟨a1, c1, e1⟩ := hx.shape
  obtain ⟨a2, c2, e2⟩ := hy.shape
  obtain ⟨a3, c3, e3⟩ := hu.shape
  have hnews : ∀ j t, [x, y, u][j]? = some t → w.cell? ((⟨b, 0, none⟩ : Addr).add j) = some t := by
    intro j t ht
    rw [Addr.add_lit, Nat.zero_add]
    rcases j with _ | _ | _ | j
    · simp at ht; subst ht; exact hc0
    · simp at ht; subst ht; exact hc1
    · simp at ht; subst ht; exact hc2
    · simp at ht
  have hones : ∀ t ∈ [x, y, u], t.oneCell' = true := by
    intro t ht
    simp only [List.mem_cons, List.not_mem_nil, or_false] at ht
    rcases ht with rfl | rfl | rfl
    · rw [e1]; rfl
    · rw [e2]; rfl
    · rw [e3]; rfl
  obtain ⟨v', w', hr, h1, h2, _⟩ := run_append_own (P := Try.prog) w B 31 ty 63 i _ 3 i.bytes Try.underlying31 hi hzr hsz rfl rfl (by decide) v ds.length css.flatten hO ⟨b, 0, none⟩ 1 1 [x, y, u] (by simp) hnews hones (by unfold maxLen; omega) (by
    have : (ds.length + 1) * i.bytes ≤ 1000000000 * 1000 := Nat.mul_le_mul (by omega) hby
    omega) hB
  refine ⟨v', w', hr, ⟨css ++ [[x, y, u]], by simp [hl], by simpa [List.flatten_append] using h1, fun k k1 k2 => ?_⟩, hz.kept h2 (hz.apartQ hO), h2⟩
  by_cases hk : k < ds.length
  · rw [List.getElem_append_left (by omega), List.getElem_append_left hk]
    obtain ⟨x', y', u', e, ⟨q1, p1⟩, ⟨q2, p2⟩, ⟨q3, p3⟩⟩ := hel k (by omega) hk
    exact ⟨x', y', u', e, ⟨q1.kept h2 (q1.apartQ hO), p1⟩, ⟨q2.kept h2 (q2.apartQ hO), p2⟩, ⟨q3.kept h2 (q3.apartQ hO), p3⟩⟩
  · have hk' : k = ds.length := by simp at k2; omega
    subst hk'
    refine ⟨x, y, u, ?_, ?_, ?_, ?_⟩
    · rw [List.getElem_append_right (by omega)]; simp [hl]
    · rw [List.getElem_append_right (by omega)]; simp only [Nat.sub_self, List.getElem_cons_zero]; exact ⟨hx.kept h2 (hx.apartQ hO), px⟩
    · rw [List.getElem_append_right (by omega)]; simp only [Nat.sub_self, List.getElem_cons_zero]; exact ⟨hy.kept h2 (hy.apartQ hO), py⟩
    · rw [List.getElem_append_right (by omega)]; simp only [Nat.sub_self, List.getElem_cons_zero]; exact ⟨hu.kept h2 (hu.apartQ hO), pu⟩
theorem OwnQ.lt (h : OwnQ w B z v ds) : ∀ k, v.ownBlock = some k → B ≤ k ∧ k < w.heap.size := by
  obtain ⟨css, hl, hO, hel⟩ := h
  exact fun k hk => hO.lt k hk
theorem wpList_append_Q {ops : Array Oper} {rest : List Oper} {o : Oper} {a : Act} {Q : Exit → Act → World → Prop} (hg : o.guard = none) (s y0 : Operand)
    (ho : o.op = .call { callee := .builtin .append, args := #[s, y0], argTypes := #[31, 31] })
    (b N : Nat) (x y u : Value) (hs : a.eval s = v) (h : OwnQ w B z v ds) (hz : OwnI w B z l) (hx : OwnI w B x d.c) (hy : OwnI w B y d.h) (hu : OwnI w B u d.r) (px : Parted x z) (py : Parted y z) (pu : Parted u z) (he : a.eval y0 = .slice (some ⟨b, 0, none⟩) 1 1)
    (hc0 : w.cell? ⟨b, 0, none⟩ = some x) (hc1 : w.cell? ⟨b, 1, none⟩ = some y) (hc2 : w.cell? ⟨b, 2, none⟩ = some u) (hB : B ≤ w.heap.size) (hlen : ds.length ≤ 100000000) (hN : ds.length + 1 = N)
    (hK : ∀ a' c' w', OwnQ w' B z (.slice a' N c') (ds ++ [d]) → OwnI w' B z l → w.grownBy w' v.ownBlock → wpList Try.prog ops Q rest (a.put o.dst (.slice a' N c')) w') : wpList Try.prog ops Q (o :: rest) a w := by
  obtain ⟨v', w', hr, h1, h2, h3⟩ := run_append_Q h hz hx hy hu px py pu hc0 hc1 hc2 hB hlen o.type
  obtain ⟨a', c', e⟩ := h1.len64
  rw [show (ds ++ [d]).length = N by simp; exact hN] at e
  subst e
  refine wpList_plain hg fun K hK' => ?_
  unfold Oper.wp execOp
  simp only [ho, resolve, invoke, builtin, Sem.run_bind, Sem.run_pure, Result.andThen_ok, List.map_toArray, List.map_cons, List.map_nil, hs, he, hr]
  exact hK' _ _ (hK a' c' w' h1 h2 h3)
end
end Go.Proofs.Yteemlmmdngkghaa
