/- Proofs of sums: walks (printed by gen_sum1.py). -/
import Derived.Test.YtboahnklilmdpaaSumL
import Derived.Test.YtboahnklilmdpaaL9F
namespace Go.Proofs.Ytboahnklilmdpaa
open Go.RowKit
set_option linter.unusedSimpArgs false
set_option linter.unusedVariables false

def sSum : ByteArray := { data := #[115, 117, 109] }
set_option maxHeartbeats 1000000 in
theorem impl_sum (v : Value) (l : List Int) (q : Int) (w : World) (h : Ints w v l) (hq : 0 < q) (hq2 : q ≤ 2000000000) (hl : ∀ x ∈ l, 0 ≤ x ∧ x < q) :
    Calls Try.prog 206 #[v, .int .i64 q] w fun e w' => e = .returned (.int .i64 (sumM q l)) ∧ w = w' := by
  obtain ⟨a, n, c, rfl⟩ := h.shape
  have HE := Lib.hid h.len
  have HH := Lib.hid h
  have HL := Lib.hid hl
  obtain ⟨k1, k2⟩ := h.capMax
  unfold maxLen at k2
  clear h hl
  have hqz : ¬ q = 0 := by omega
  have hqz2 : (q == 0) = false := beq_eq_false_iff_ne.2 hqz
  go_enter Try.func206, Try.ntmps206
  go_wp2_with fail
  go_loopg [5, 10] n (fun gk ov iv wr => ∃ k : Nat, k + gk = n ∧ iv = .int .i64 k ∧ ov = .int .i64 (sumM q (l.take k)) ∧ w = wr)
  case atStart => exact ⟨0, by omega, rfl, rfl, rfl⟩
  case round =>
    obtain ⟨k, hkg, rfl, rfl, rfl⟩ := hrel
    have hb := sumM_bd hq (l.take k)
    by_cases hlt : k < n
    · obtain ⟨b, o, rfl, hc⟩ := HH.out.at_ (by omega)
      have y0 := hc k hlt
      have HS := Lib.hid (sumM_succ (q := q) (l := l) (k := k) (by have := HE.out; omega))
      have hx : 0 ≤ nth l k ∧ nth l k < q := by
        have e : nth l k = l[k]'(by have := HE.out; omega) := by simp [nth, List.getD, show k < l.length by have := HE.out; omega]
        rw [e]; exact HL.out _ (List.getElem_mem _)
      obtain ⟨hx0, hx1⟩ := hx
      obtain ⟨hb0, hb1⟩ := hb
      clear hc
      generalize nth l k = x at y0 HS hx0 hx1
      generalize sumM q (l.take k) = z at HS hb0 hb1 ⊢
      have b0 : (0 : Int) ≤ (k : Int) := by omega
      have bk1 : (k : Int) < (n : Int) := by omega
      have ew1 : IntKind.i64.wrap (z + x) = z + x := IntWalk.i64_in _ (by omega)
      have et : Int.tmod (z + x) q = (z + x) % q := Int.tmod_eq_emod_of_nonneg (by omega)
      have em0 : 0 ≤ (z + x) % q := Int.emod_nonneg _ hqz
      have em1 : (z + x) % q < q := Int.emod_lt_of_pos _ hq
      have ew2 : IntKind.i64.wrap ((z + x) % q) = (z + x) % q := IntWalk.i64_in _ (by omega)
      have hwk : IntKind.i64.wrap ((k : Int) + 1) = (k : Int) + 1 := IntWalk.i64_in _ (by omega)
      clear em0 em1
      go_wp2_with fail
      go_roundg (n - (k + 1))
      case measure => omega
      case rel => exact ⟨k + 1, by omega, by go_num, by rw [HS.out], rfl⟩
    · obtain rfl : n = k := by omega
      have HT : Hid (sumM q (l.take n) = sumM q l) := by unfold Hid; rw [List.take_of_length_le (by have := HE.out; omega)]
      rw [HT.out]
      clear hb
      go_wp2_with fail
      go_ret
      exact ⟨rfl, rfl⟩
set_option maxHeartbeats 1000000 in
theorem spec_nSum (v : Value) (l : List Int) (q : Int) (w : World) (h : Ints w v l) (hq : 0 < q) (hq2 : q ≤ 2000000000) (hl : ∀ x ∈ l, 0 ≤ x ∧ x < q) :
    Calls Try.prog 208 #[v, .int .i64 q] w fun e w' => e = .returned (.int .i64 (sumM q l)) ∧ w = w' := by
  obtain ⟨a, n, c, rfl⟩ := h.shape
  have HE := Lib.hid h.len
  have HH := Lib.hid h
  have HL := Lib.hid hl
  obtain ⟨k1, k2⟩ := h.capMax
  unfold maxLen at k2
  clear h hl
  have hqz : ¬ q = 0 := by omega
  have hqz2 : (q == 0) = false := beq_eq_false_iff_ne.2 hqz
  go_enter Try.func208, Try.ntmps208
  go_wp2_with fail
  go_loopg [5, 10] n (fun gk ov iv wr => ∃ k : Nat, k + gk = n ∧ iv = .int .i64 k ∧ ov = .int .i64 (sumM q (l.take k)) ∧ w = wr)
  case atStart => exact ⟨0, by omega, rfl, rfl, rfl⟩
  case round =>
    obtain ⟨k, hkg, rfl, rfl, rfl⟩ := hrel
    have hb := sumM_bd hq (l.take k)
    by_cases hlt : k < n
    · obtain ⟨b, o, rfl, hc⟩ := HH.out.at_ (by omega)
      have y0 := hc k hlt
      have HS := Lib.hid (sumM_succ (q := q) (l := l) (k := k) (by have := HE.out; omega))
      have hx : 0 ≤ nth l k ∧ nth l k < q := by
        have e : nth l k = l[k]'(by have := HE.out; omega) := by simp [nth, List.getD, show k < l.length by have := HE.out; omega]
        rw [e]; exact HL.out _ (List.getElem_mem _)
      obtain ⟨hx0, hx1⟩ := hx
      obtain ⟨hb0, hb1⟩ := hb
      clear hc
      generalize nth l k = x at y0 HS hx0 hx1
      generalize sumM q (l.take k) = z at HS hb0 hb1 ⊢
      have b0 : (0 : Int) ≤ (k : Int) := by omega
      have bk1 : (k : Int) < (n : Int) := by omega
      have ew1 : IntKind.i64.wrap (z + x) = z + x := IntWalk.i64_in _ (by omega)
      have et : Int.tmod (z + x) q = (z + x) % q := Int.tmod_eq_emod_of_nonneg (by omega)
      have em0 : 0 ≤ (z + x) % q := Int.emod_nonneg _ hqz
      have em1 : (z + x) % q < q := Int.emod_lt_of_pos _ hq
      have ew2 : IntKind.i64.wrap ((z + x) % q) = (z + x) % q := IntWalk.i64_in _ (by omega)
      have hwk : IntKind.i64.wrap ((k : Int) + 1) = (k : Int) + 1 := IntWalk.i64_in _ (by omega)
      clear em0 em1
      go_wp2_with fail
      go_roundg (n - (k + 1))
      case measure => omega
      case rel => exact ⟨k + 1, by omega, by go_num, by rw [HS.out], rfl⟩
    · obtain rfl : n = k := by omega
      have HT : Hid (sumM q (l.take n) = sumM q l) := by unfold Hid; rw [List.take_of_length_le (by have := HE.out; omega)]
      rw [HT.out]
      clear hb
      go_wp2_with fail
      go_ret
      exact ⟨rfl, rfl⟩
set_option maxRecDepth 100000 in
set_option maxHeartbeats 2000000 in
theorem spec_rSumChallenge (gr : GroupD) (bh : Int) (bv : Value) (bl : List Int) (c0 t0 x0 : Int) (w : World) (hg : OkG gr) (hb : Ints w bv bl) (sbh : Small bh) (sc0 : Small c0) (st0 : Small t0) (sx0 : Small x0) :
    Calls Try.prog 209 #[.agg #[.int .i64 gr.p, .int .i64 gr.q, .int .i64 gr.g], .agg #[.int .i64 bh, bv], .int .i64 c0, .int .i64 t0, .int .i64 x0] w fun e w' => e = .returned (.int .i64 (smE gr sSum bh c0 t0 x0)) ∧ Below w.heap.size w w' := by
  have HG := Lib.hid hg
  clear hg
  obtain ⟨bva, bvn, bvc, rfl⟩ := hb.shape
  have Ebv := Lib.hid hb.len
  have Kbv := Lib.hid hb.capMax
  have Hbv := Lib.hid hb
  clear hb
  have HAS : Hid (AllSmall [bh, c0, t0, x0]) := AllSmall.cons sbh (AllSmall.cons sc0 (AllSmall.cons st0 (AllSmall.cons sx0 AllSmall.nil)))
  have HDG := Lib.hid (digests_small HAS.out)
  obtain ⟨E0, hE0⟩ : ∃ e, smE gr sSum bh c0 t0 x0 = e := ⟨_, rfl⟩
  have HEE : Hid (chV gr sSum [bh, c0, t0, x0] = E0) := hE0
  rw [hE0]
  clear hE0
  obtain ⟨W, hW⟩ : ∃ W, W = (w.alloc (.cells #[.int .i64 gr.p, .int .i64 gr.q, .int .i64 gr.g] 39)).alloc (.cells #[.int .i64 bh, (.slice bva bvn bvc)] 79) := ⟨_, rfl⟩
  have HB : Hid (Below w.heap.size w W) := by unfold Hid; rw [hW]; (repeat (first | exact Below.refl _ _ | assumption | refine Below.drew ?_ | refine Below.alloc ?_ (by first | (simp; done) | (simp; omega)) _ | refine Below.setCell ?_ (by first | (simp; done) | (simp; omega)) _))
  have c0_0 : W.cell? ⟨w.heap.size, 0, none⟩ = some (.int .i64 gr.p) := by rw [hW]; simp [go_sem]
  have c0_1 : W.cell? ⟨w.heap.size, 1, none⟩ = some (.int .i64 gr.q) := by rw [hW]; simp [go_sem]
  have c0_2 : W.cell? ⟨w.heap.size, 2, none⟩ = some (.int .i64 gr.g) := by rw [hW]; simp [go_sem]
  have c1_0 : W.cell? ⟨w.heap.size + 1, 0, none⟩ = some (.int .i64 bh) := by rw [hW]; simp [go_sem]
  have c1_1 : W.cell? ⟨w.heap.size + 1, 1, none⟩ = some ((.slice bva bvn bvc)) := by rw [hW]; simp [go_sem]
  have HSW : Hid (W.heap.size = w.heap.size + 2) := by unfold Hid; rw [hW]; simp
  go_enter Try.func209, Try.ntmps209
  go_wp2_with fail
  rw [← hW]
  have hse : w.heap.size + 1 + 1 = W.heap.size := by have := HSW.out; omega
  (try rw [hse])
  clear hse
  clear hW
  have hc : Below W.heap.size W W := Below.refl _ _
  have HCC : Hid (∀ u, Below W.heap.size W u → u.cell? ⟨w.heap.size, 0, none⟩ = some (.int .i64 gr.p) ∧ u.cell? ⟨w.heap.size, 1, none⟩ = some (.int .i64 gr.q) ∧ u.cell? ⟨w.heap.size, 2, none⟩ = some (.int .i64 gr.g) ∧ u.cell? ⟨w.heap.size + 1, 0, none⟩ = some (.int .i64 bh) ∧ u.cell? ⟨w.heap.size + 1, 1, none⟩ = some ((.slice bva bvn bvc))) := fun u h => ⟨box_at c0_0 h, box_at c0_1 h, box_at c0_2 h, box_at c1_0 h, box_at c1_1 h⟩
  go_wp2_with fail
  refine (spec_hChallenge gr sSum _ [bh, c0, t0, x0] _ HG.out (OwnI.lit (B := 0) _ (Nat.zero_le _) (l := [bh, c0, t0, x0]) (AllI64.cons (small_64 sbh) (AllI64.cons (small_64 sc0) (AllI64.cons (small_64 st0) (AllI64.cons (small_64 sx0) AllI64.nil)))) rfl (by simp [maxLen]) 4 rfl).ints (by decide) (by simp) HDG.out).mono ?_
  rintro e u1 ⟨rfl, hq1⟩
  rw [HEE.out]
  replace hq1 := Below.next (keep_al (Below.refl _ _) _) hq1
  replace hc := Below.next hc hq1
  clear hq1 c0_0 c0_1 c0_2 c1_0 c1_1
  obtain ⟨c0_0, c0_1, c0_2, c1_0, c1_1⟩ := HCC.out _ hc
  go_wp2_with fail
  go_ret
  exact ⟨rfl, HB.out.trans (hc.mono HB.out.size)⟩
theorem vsR_P (gr : GroupD) (s : ByteArray) (bh : Int) (bl cs : List Int) (t : Int) (d : ProofD) : vsR gr s bh bl cs t d = (vsA gr bh bl cs t && vsP gr s bh cs t d) := by
  unfold vsR
  cases h : vsA gr bh bl cs t with
  | false => rfl
  | true =>
    have h2 := h
    unfold vsA at h2
    rw [Bool.and_eq_true] at h2
    rw [vsP_eq (goodG_ok (baB_parts h2.1).1)]
set_option maxRecDepth 100000 in
set_option maxHeartbeats 2000000 in
theorem spec_VerifySum (gr : GroupD) (bh : Int) (bv : Value) (bl : List Int) (cv : Value) (cs : List Int) (t0 : Int) (pv : Value) (d : ProofD) (w : World) (hb : Ints w bv bl) (hcs : Ints w cv cs) (ibh : I64 bh) (it0 : I64 t0) (hp : PfR w pv d) :
    Calls Try.prog 89 #[.agg #[.int .i64 gr.p, .int .i64 gr.q, .int .i64 gr.g], .agg #[.int .i64 bh, bv], cv, .int .i64 t0, pv] w fun e w' => e = .returned (.tuple #[.bool (vsR gr sSum bh bl cs t0 d), .bool (vsA gr bh bl cs t0)]) ∧ Below w.heap.size w w' := by
  obtain ⟨bva, bvn, bvc, rfl⟩ := hb.shape
  have Ebv := Lib.hid hb.len
  have Kbv := Lib.hid hb.capMax
  have Hbv := Lib.hid hb
  clear hb
  obtain ⟨cva, cvn, cvc, rfl⟩ := hcs.shape
  have Ecv := Lib.hid hcs.len
  have Kcv := Lib.hid hcs.capMax
  have Hcv := Lib.hid hcs
  clear hcs
  obtain ⟨xcv, xhv, xrv, rfl, hxc, hxh, hxr⟩ := hp
  obtain ⟨xca, xcn, xcc, rfl⟩ := hxc.shape
  have Exc := Lib.hid hxc.len
  have Kxc := Lib.hid hxc.capMax
  have Hxc := Lib.hid hxc
  clear hxc
  obtain ⟨xha, xhn, xhc, rfl⟩ := hxh.shape
  have Exh := Lib.hid hxh.len
  have Kxh := Lib.hid hxh.capMax
  have Hxh := Lib.hid hxh
  clear hxh
  obtain ⟨xra, xrn, xrc, rfl⟩ := hxr.shape
  have Exr := Lib.hid hxr.len
  have Kxr := Lib.hid hxr.capMax
  have Hxr := Lib.hid hxr
  clear hxr
  obtain ⟨W, hW⟩ : ∃ W, W = ((w.alloc (.cells #[.int .i64 gr.p, .int .i64 gr.q, .int .i64 gr.g] 39)).alloc (.cells #[.int .i64 bh, (.slice bva bvn bvc)] 79)).alloc (.cells #[(.slice xca xcn xcc), (.slice xha xhn xhc), (.slice xra xrn xrc)] 42) := ⟨_, rfl⟩
  have HB : Hid (Below w.heap.size w W) := by unfold Hid; rw [hW]; (repeat (first | exact Below.refl _ _ | assumption | refine Below.drew ?_ | refine Below.alloc ?_ (by first | (simp; done) | (simp; omega)) _ | refine Below.setCell ?_ (by first | (simp; done) | (simp; omega)) _))
  have c0_0 : W.cell? ⟨w.heap.size, 0, none⟩ = some (.int .i64 gr.p) := by rw [hW]; simp [go_sem]
  have c0_1 : W.cell? ⟨w.heap.size, 1, none⟩ = some (.int .i64 gr.q) := by rw [hW]; simp [go_sem]
  have c0_2 : W.cell? ⟨w.heap.size, 2, none⟩ = some (.int .i64 gr.g) := by rw [hW]; simp [go_sem]
  have c1_0 : W.cell? ⟨w.heap.size + 1, 0, none⟩ = some (.int .i64 bh) := by rw [hW]; simp [go_sem]
  have c1_1 : W.cell? ⟨w.heap.size + 1, 1, none⟩ = some ((.slice bva bvn bvc)) := by rw [hW]; simp [go_sem]
  have c2_0 : W.cell? ⟨w.heap.size + 1 + 1, 0, none⟩ = some ((.slice xca xcn xcc)) := by rw [hW]; simp [go_sem]
  have c2_1 : W.cell? ⟨w.heap.size + 1 + 1, 1, none⟩ = some ((.slice xha xhn xhc)) := by rw [hW]; simp [go_sem]
  have c2_2 : W.cell? ⟨w.heap.size + 1 + 1, 2, none⟩ = some ((.slice xra xrn xrc)) := by rw [hW]; simp [go_sem]
  have HSW : Hid (W.heap.size = w.heap.size + 3) := by unfold Hid; rw [hW]; simp
  go_enter Try.func89, Try.ntmps89
  go_wp2_with fail
  rw [← hW]
  have hse : w.heap.size + 1 + 1 + 1 = W.heap.size := by have := HSW.out; omega
  (try rw [hse])
  clear hse
  clear hW
  have hc : Below W.heap.size W W := Below.refl _ _
  have HCC : Hid (∀ u, Below W.heap.size W u → u.cell? ⟨w.heap.size, 0, none⟩ = some (.int .i64 gr.p) ∧ u.cell? ⟨w.heap.size, 1, none⟩ = some (.int .i64 gr.q) ∧ u.cell? ⟨w.heap.size, 2, none⟩ = some (.int .i64 gr.g) ∧ u.cell? ⟨w.heap.size + 1, 0, none⟩ = some (.int .i64 bh) ∧ u.cell? ⟨w.heap.size + 1, 1, none⟩ = some ((.slice bva bvn bvc)) ∧ u.cell? ⟨w.heap.size + 1 + 1, 0, none⟩ = some ((.slice xca xcn xcc)) ∧ u.cell? ⟨w.heap.size + 1 + 1, 1, none⟩ = some ((.slice xha xhn xhc)) ∧ u.cell? ⟨w.heap.size + 1 + 1, 2, none⟩ = some ((.slice xra xrn xrc))) := fun u h => ⟨box_at c0_0 h, box_at c0_1 h, box_at c0_2 h, box_at c1_0 h, box_at c1_1 h, box_at c2_0 h, box_at c2_1 h, box_at c2_2 h⟩
  go_wp2_with fail
  refine (spec_l9Good gr bh _ bl _ (Hbv.out.below (HB.out.trans (hc.mono HB.out.size))) ibh).mono ?_
  rintro e u1 ⟨rfl, hq1⟩
  replace hc := Below.next hc hq1
  clear hq1 c0_0 c0_1 c0_2 c1_0 c1_1 c2_0 c2_1 c2_2
  obtain ⟨c0_0, c0_1, c0_2, c1_0, c1_1, c2_0, c2_1, c2_2⟩ := HCC.out _ hc
  cases hc1 : baB gr bh bl with
  | false =>
    have Hhc1 := Lib.hid hc1
    clear hc1
    go_wp2_with fail
    have HV : Hid ((.tuple #[.bool (vsR gr sSum bh bl cs t0 d), .bool (vsA gr bh bl cs t0)] : Value) = .tuple #[.bool false, .bool false]) := by unfold Hid; simp [vsR, vsA, vsV, vsQ, Hhc1.out]
    go_ret2
    exact ⟨congrArg Ending.returned HV.out.symm, HB.out.trans (hc.mono HB.out.size)⟩
  | true =>
    have HBA := Lib.hid (baB_parts hc1)
    have HG := Lib.hid (goodG_ok HBA.out.1)
    have sbh : Small bh := elB_small HG.out HBA.out.2.1
    have Hhc1 := Lib.hid hc1
    clear hc1
    go_wp2_with fail
    refine (spec_l1In (cvn : Int) 1 24 _).mono ?_
    rintro e u2 ⟨rfl, rfl⟩
    cases hc2 : decide (1 ≤ (cvn : Int) ∧ (cvn : Int) ≤ 24) with
    | false =>
      have HLC : Hid (decide (1 ≤ cs.length ∧ cs.length ≤ 24) = false) := by have q : ¬ (1 ≤ (cvn : Int) ∧ (cvn : Int) ≤ 24) := of_decide_eq_false hc2; exact decide_eq_false (by have := Ecv.out; omega)
      go_wp2_with fail
      have HV : Hid ((.tuple #[.bool (vsR gr sSum bh bl cs t0 d), .bool (vsA gr bh bl cs t0)] : Value) = .tuple #[.bool false, .bool false]) := by unfold Hid; simp [vsR, vsA, vsV, vsQ, Hhc1.out, hc2, HLC.out]
      go_ret2
      exact ⟨congrArg Ending.returned HV.out.symm, HB.out.trans (hc.mono HB.out.size)⟩
    | true =>
      have HLC : Hid (decide (1 ≤ cs.length ∧ cs.length ≤ 24) = true) := by have q : 1 ≤ (cvn : Int) ∧ (cvn : Int) ≤ 24 := of_decide_eq_true hc2; exact decide_eq_true (by have := Ecv.out; omega)
      go_wp2_with fail
      refine (spec_gIs gr _ cs _ HG.out (Hcv.out.below (HB.out.trans (hc.mono HB.out.size)))).mono ?_
      rintro e u3 ⟨rfl, hq3⟩
      replace hc := Below.next hc hq3
      clear hq3 c0_0 c0_1 c0_2 c1_0 c1_1 c2_0 c2_1 c2_2
      obtain ⟨c0_0, c0_1, c0_2, c1_0, c1_1, c2_0, c2_1, c2_2⟩ := HCC.out _ hc
      cases hc3 : cs.all (elB gr) with
      | false =>
        have Hhc3 := Lib.hid hc3
        clear hc3
        go_wp2_with fail
        have HV : Hid ((.tuple #[.bool (vsR gr sSum bh bl cs t0 d), .bool (vsA gr bh bl cs t0)] : Value) = .tuple #[.bool false, .bool false]) := by unfold Hid; simp [vsR, vsA, vsV, vsQ, Hhc1.out, hc2, Hhc3.out, HLC.out]
        go_ret2
        exact ⟨congrArg Ending.returned HV.out.symm, HB.out.trans (hc.mono HB.out.size)⟩
      | true =>
        have HCS : Hid (AllSmall cs) := all_small HG.out hc3
        have Hhc3 := Lib.hid hc3
        clear hc3
        go_wp2_with fail
        refine (spec_gExps gr _ [t0] _ HG.out (OwnI.lit (B := 0) _ (Nat.zero_le _) (l := [t0]) (AllI64.cons it0 AllI64.nil) rfl (by simp [maxLen]) 1 rfl).ints).mono ?_
        rintro e u4 ⟨rfl, hq4⟩
        replace hq4 := Below.next (keep_al (Below.refl _ _) _) hq4
        replace hc := Below.next hc hq4
        clear hq4 c0_0 c0_1 c0_2 c1_0 c1_1 c2_0 c2_1 c2_2
        obtain ⟨c0_0, c0_1, c0_2, c1_0, c1_1, c2_0, c2_1, c2_2⟩ := HCC.out _ hc
        cases hc4 : [t0].all (expB gr) with
        | false =>
          have Hhc4 := Lib.hid hc4
          clear hc4
          go_wp2_with fail
          have HV : Hid ((.tuple #[.bool (vsR gr sSum bh bl cs t0 d), .bool (vsA gr bh bl cs t0)] : Value) = .tuple #[.bool false, .bool false]) := by unfold Hid; have qhc4 := Hhc4.out; simp only [List.all_cons, List.all_nil, Bool.and_true] at qhc4; simp [vsR, vsA, vsV, vsQ, Hhc1.out, hc2, Hhc3.out, qhc4, HLC.out]
          go_ret2
          exact ⟨congrArg Ending.returned HV.out.symm, HB.out.trans (hc.mono HB.out.size)⟩
        | true =>
          have HTE : Hid (expB gr t0 = true) := by unfold Hid; simpa using hc4
          have Hhc4 := Lib.hid hc4
          clear hc4
          go_wp2_with fail
          refine (spec_l9Form gr _ d 1 1 1 _ HG.out (PfR.mk (Hxc.out.below (HB.out.trans (hc.mono HB.out.size))) (Hxh.out.below (HB.out.trans (hc.mono HB.out.size))) (Hxr.out.below (HB.out.trans (hc.mono HB.out.size))))).mono ?_
          rintro e u5 ⟨rfl, hq5⟩
          replace hc := Below.next hc hq5
          clear hq5 c0_0 c0_1 c0_2 c1_0 c1_1 c2_0 c2_1 c2_2
          obtain ⟨c0_0, c0_1, c0_2, c1_0, c1_1, c2_0, c2_1, c2_2⟩ := HCC.out _ hc
          cases hc5 : fmB gr d 1 1 1 with
          | false =>
            have HEX : Hid True := trivial
            have HCX : Hid True := trivial
            have Hhc5 := Lib.hid hc5
            clear hc5
            go_wp2_with fail
            have HV : Hid ((.tuple #[.bool (vsR gr sSum bh bl cs t0 d), .bool (vsA gr bh bl cs t0)] : Value) = .tuple #[.bool false, .bool true]) := by unfold Hid; have qhc4 := Hhc4.out; simp only [List.all_cons, List.all_nil, Bool.and_true] at qhc4; simp [vsR, vsA, vsV, vsQ, Hhc1.out, hc2, Hhc3.out, qhc4, Hhc5.out, HLC.out, HCX.out, HEX.out]
            go_ret2
            exact ⟨congrArg Ending.returned HV.out.symm, HB.out.trans (hc.mono HB.out.size)⟩
          | true =>
            have HFP := Lib.hid (fmB_parts hc5)
            have sx0 : Small (nth d.c 0) := elB_small HG.out (all_one HFP.out.1 HFP.out.2.2.2.1)
            have zq1 := HG.out.q1
            have zq2 := HG.out.q2
            have zp2 := HG.out.p2
            have zq3 : gr.q ≤ 2000000000 := by omega
            have zq0 : 0 < gr.q := by omega
            have zq4 : gr.q ≤ 4000000000 := by omega
            have hgg := elT_gen HBA.out.1
            have sgg : Small gr.g := elB_small HG.out hgg
            obtain ⟨T0, T1⟩ := expB_bd HTE.out
            have ewt : IntKind.i64.wrap (-t0) = -t0 := IntWalk.i64_in _ (by omega)
            have int : I64 (-t0) := ⟨by omega, by omega⟩
            have st0 : Small t0 := ⟨by omega, by omega⟩
            obtain ⟨C, hC⟩ : ∃ x, mulL gr cs = x := ⟨_, rfl⟩
            have HC := Lib.hid hC
            have sC : Small C := by rw [← hC]; exact mulL_small HG.out cs
            obtain ⟨E, hE⟩ : ∃ x, smE gr sSum bh C t0 (nth d.c 0) = x := ⟨_, rfl⟩
            have HE := Lib.hid hE
            have he := chV_bd HG.out sSum [bh, C, t0, nth d.c 0]
            obtain ⟨e1, e2⟩ : 0 ≤ E ∧ E < gr.q := hE ▸ he
            have iE : I64 E := ⟨by omega, by omega⟩
            have iz0 : I64 (nth d.r 0) := nth_64 Hxr.out 0
            have ih0 : I64 (nth d.h 0) := nth_64 Hxh.out 0
            clear hE he e1 e2 hC hgg
            have HEX := HE
            have HCX := HC
            obtain rfl : xcn = 1 := by have q := Hxc.out.len; have q2 := HFP.out; omega
            obtain ⟨xcb, xco, rfl, hx⟩ := Hxc.out.at_ (by omega)
            have Kxc0 : Hid (w.cell? ⟨xcb, xco, none⟩ = some (.int .i64 (nth d.c 0))) := by unfold Hid; have h := hx 0 (by omega); simpa using h
            clear hx
            have yxc0 := box_at Kxc0.out (HB.out.trans (hc.mono HB.out.size))
            obtain rfl : xhn = 1 := by have q := Hxh.out.len; have q2 := HFP.out; omega
            obtain ⟨xhb, xho, rfl, hx⟩ := Hxh.out.at_ (by omega)
            have Kxh0 : Hid (w.cell? ⟨xhb, xho, none⟩ = some (.int .i64 (nth d.h 0))) := by unfold Hid; have h := hx 0 (by omega); simpa using h
            clear hx
            have yxh0 := box_at Kxh0.out (HB.out.trans (hc.mono HB.out.size))
            obtain rfl : xrn = 1 := by have q := Hxr.out.len; have q2 := HFP.out; omega
            obtain ⟨xrb, xro, rfl, hx⟩ := Hxr.out.at_ (by omega)
            have Kxr0 : Hid (w.cell? ⟨xrb, xro, none⟩ = some (.int .i64 (nth d.r 0))) := by unfold Hid; have h := hx 0 (by omega); simpa using h
            clear hx
            have yxr0 := box_at Kxr0.out (HB.out.trans (hc.mono HB.out.size))
            replace HCC : Hid (∀ u, Below W.heap.size W u → u.cell? ⟨w.heap.size, 0, none⟩ = some (.int .i64 gr.p) ∧ u.cell? ⟨w.heap.size, 1, none⟩ = some (.int .i64 gr.q) ∧ u.cell? ⟨w.heap.size, 2, none⟩ = some (.int .i64 gr.g) ∧ u.cell? ⟨w.heap.size + 1, 0, none⟩ = some (.int .i64 bh) ∧ u.cell? ⟨w.heap.size + 1, 1, none⟩ = some ((.slice bva bvn bvc)) ∧ u.cell? ⟨w.heap.size + 1 + 1, 0, none⟩ = some ((.slice (some ⟨xcb, xco, none⟩) 1 xcc)) ∧ u.cell? ⟨w.heap.size + 1 + 1, 1, none⟩ = some ((.slice (some ⟨xhb, xho, none⟩) 1 xhc)) ∧ u.cell? ⟨w.heap.size + 1 + 1, 2, none⟩ = some ((.slice (some ⟨xrb, xro, none⟩) 1 xrc)) ∧ u.cell? ⟨xcb, xco, none⟩ = some (.int .i64 (nth d.c 0)) ∧ u.cell? ⟨xhb, xho, none⟩ = some (.int .i64 (nth d.h 0)) ∧ u.cell? ⟨xrb, xro, none⟩ = some (.int .i64 (nth d.r 0))) := fun u h => by obtain ⟨c0_0, c0_1, c0_2, c1_0, c1_1, c2_0, c2_1, c2_2⟩ := HCC.out u h; exact ⟨c0_0, c0_1, c0_2, c1_0, c1_1, c2_0, c2_1, c2_2, box_at Kxc0.out (HB.out.trans (h.mono HB.out.size)), box_at Kxh0.out (HB.out.trans (h.mono HB.out.size)), box_at Kxr0.out (HB.out.trans (h.mono HB.out.size))⟩
            have Hhc5 := Lib.hid hc5
            clear hc5
            go_wp2_with fail
            refine (spec_gMul gr _ cs _ HG.out (Hcv.out.below (HB.out.trans (hc.mono HB.out.size))) HCS.out).mono ?_
            rintro e u6 ⟨rfl, hq6⟩
            rw [HC.out]
            replace hc := Below.next hc hq6
            clear hq6 c0_0 c0_1 c0_2 c1_0 c1_1 c2_0 c2_1 c2_2 yxc0 yxh0 yxr0
            obtain ⟨c0_0, c0_1, c0_2, c1_0, c1_1, c2_0, c2_1, c2_2, yxc0, yxh0, yxr0⟩ := HCC.out _ hc
            try (go_wp2_with fail)
            refine wp_region_noPanic ?_
            refine wp_region_P (fun w' => w'.cell? ⟨w.heap.size, 0, none⟩ = some (.int .i64 gr.p) ∧ w'.cell? ⟨w.heap.size, 1, none⟩ = some (.int .i64 gr.q) ∧ w'.cell? ⟨w.heap.size, 2, none⟩ = some (.int .i64 gr.g) ∧ w'.cell? ⟨w.heap.size + 1, 0, none⟩ = some (.int .i64 bh) ∧ w'.cell? ⟨w.heap.size + 1, 1, none⟩ = some ((.slice bva bvn bvc)) ∧ w'.cell? ⟨w.heap.size + 1 + 1, 0, none⟩ = some ((.slice (some ⟨xcb, xco, none⟩) 1 xcc)) ∧ w'.cell? ⟨w.heap.size + 1 + 1, 1, none⟩ = some ((.slice (some ⟨xhb, xho, none⟩) 1 xhc)) ∧ w'.cell? ⟨w.heap.size + 1 + 1, 2, none⟩ = some ((.slice (some ⟨xrb, xro, none⟩) 1 xrc)) ∧ w'.cell? ⟨xcb, xco, none⟩ = some (.int .i64 (nth d.c 0)) ∧ w'.cell? ⟨xhb, xho, none⟩ = some (.int .i64 (nth d.h 0)) ∧ w'.cell? ⟨xrb, xro, none⟩ = some (.int .i64 (nth d.r 0))) 12 [(0, []), (1, [0]), (2, [0]), (3, [0]), (4, []), (5, [0]), (6, [0]), (7, [0]), (8, [4]), (9, [1])] [] (by kernel_rfl) (by kernel_rfl) (by kernel_rfl) rfl (fun _ _ _ _ h => h) (fun w' h => ⟨box_at c0_0 h, box_at c0_1 h, box_at c0_2 h, box_at c1_0 h, box_at c1_1 h, box_at c2_0 h, box_at c2_1 h, box_at c2_2 h, box_at yxc0 h, box_at yxh0 h, box_at yxr0 h⟩) ?_
            simp only [pickP, pickN, List.getElem?_cons_zero, List.getElem?_cons_succ]
            iterate 10 (refine' chainP_read _ rfl rfl (fun w' hS' => ?_) ?_; rotate_left; · (simp only [lookP, allP, Act.put, List.getElem?_cons_zero, List.getElem?_cons_succ, List.setIfInBounds_toArray, List.set_cons_zero, List.set_cons_succ]; (try dsimp only at hS'); go_simp; (try with_reducible rfl)))
            refine chainP_nil (fun u7 hS' => ?_)
            simp only [allP, Act.put, List.setIfInBounds_toArray, List.set_cons_zero, List.set_cons_succ]
            have hq7 := hS'.1
            clear hS'
            replace hc := Below.next hc hq7
            clear hq7 c0_0 c0_1 c0_2 c1_0 c1_1 c2_0 c2_1 c2_2 yxc0 yxh0 yxr0
            obtain ⟨c0_0, c0_1, c0_2, c1_0, c1_1, c2_0, c2_1, c2_2, yxc0, yxh0, yxr0⟩ := HCC.out _ hc
            go_wp2_with fail
            refine NoPanic.normal ?_
            go_wp2_with fail
            refine (spec_rSumChallenge gr bh _ bl C t0 (nth d.c 0) _ HG.out (Hbv.out.below (HB.out.trans (hc.mono HB.out.size))) sbh sC st0 sx0).mono ?_
            rintro e u8 ⟨rfl, hq8⟩
            rw [HE.out]
            replace hc := Below.next hc hq8
            clear hq8 c0_0 c0_1 c0_2 c1_0 c1_1 c2_0 c2_1 c2_2 yxc0 yxh0 yxr0
            obtain ⟨c0_0, c0_1, c0_2, c1_0, c1_1, c2_0, c2_1, c2_2, yxc0, yxh0, yxr0⟩ := HCC.out _ hc
            cases hc6 : ((nth d.h 0) != E) with
            | false =>
              have HQE : Hid (E = nth d.h 0) := by unfold Hid; have q := hc6; rw [bne_eq_false_iff_eq] at q; exact q.symm
              try (go_wp2_with fail)
              refine wp_region_noPanic ?_
              refine wp_region_P (fun w' => w'.cell? ⟨w.heap.size, 0, none⟩ = some (.int .i64 gr.p) ∧ w'.cell? ⟨w.heap.size, 1, none⟩ = some (.int .i64 gr.q) ∧ w'.cell? ⟨w.heap.size, 2, none⟩ = some (.int .i64 gr.g) ∧ w'.cell? ⟨w.heap.size + 1, 0, none⟩ = some (.int .i64 bh) ∧ w'.cell? ⟨w.heap.size + 1, 1, none⟩ = some ((.slice bva bvn bvc)) ∧ w'.cell? ⟨w.heap.size + 1 + 1, 0, none⟩ = some ((.slice (some ⟨xcb, xco, none⟩) 1 xcc)) ∧ w'.cell? ⟨w.heap.size + 1 + 1, 1, none⟩ = some ((.slice (some ⟨xhb, xho, none⟩) 1 xhc)) ∧ w'.cell? ⟨w.heap.size + 1 + 1, 2, none⟩ = some ((.slice (some ⟨xrb, xro, none⟩) 1 xrc)) ∧ w'.cell? ⟨xcb, xco, none⟩ = some (.int .i64 (nth d.c 0)) ∧ w'.cell? ⟨xhb, xho, none⟩ = some (.int .i64 (nth d.h 0)) ∧ w'.cell? ⟨xrb, xro, none⟩ = some (.int .i64 (nth d.r 0))) 30 [(0, []), (1, []), (2, [0]), (3, []), (4, [0]), (5, [0]), (6, [0]), (7, [6, 4, 0]), (8, []), (9, []), (10, []), (11, []), (12, []), (13, []), (14, []), (15, [0]), (16, []), (17, [0]), (18, [4, 2, 0]), (19, [6, 0]), (20, [8, 0]), (21, []), (22, [11, 1, 0]), (23, [13, 0]), (24, [15, 0]), (25, [17, 0]), (26, [0]), (27, [])] [] (by kernel_rfl) (by kernel_rfl) (by kernel_rfl) rfl (fun _ _ _ _ h => h) (fun w' h => ⟨box_at c0_0 h, box_at c0_1 h, box_at c0_2 h, box_at c1_0 h, box_at c1_1 h, box_at c2_0 h, box_at c2_1 h, box_at c2_2 h, box_at yxc0 h, box_at yxh0 h, box_at yxr0 h⟩) ?_
              simp only [pickP, pickN, List.getElem?_cons_zero, List.getElem?_cons_succ]
              iterate 7 (refine' chainP_read _ rfl rfl (fun w' hS' => ?_) ?_; rotate_left; · (simp only [lookP, allP, Act.put, List.getElem?_cons_zero, List.getElem?_cons_succ, List.setIfInBounds_toArray, List.set_cons_zero, List.set_cons_succ]; (try dsimp only at hS'); go_simp; (try with_reducible rfl)))
              -- 7: call { callee := value (func 156), args := #[t61, t63, t67], argTypes := #[39, 3, 3] }
              refine chainP_call (d := (some 68)) (.int .i64 (powE gr bh (nth d.r 0))) rfl rfl (fun w' hS' => ?_) ?_
              · simp only [lookP, allP, Act.put, List.getElem?_cons_zero, List.getElem?_cons_succ, List.setIfInBounds_toArray, List.set_cons_zero, List.set_cons_succ]
                intro K hK
                go_simp
                go_at_call 156
                refine (spec_gExp gr bh (nth d.r 0) _ HG.out sbh iz0).mono ?_
                rintro e u ⟨rfl, hq⟩
                exact hK.out _ hq
              iterate 10 (refine' chainP_read _ rfl rfl (fun w' hS' => ?_) ?_; rotate_left; · (simp only [lookP, allP, Act.put, List.getElem?_cons_zero, List.getElem?_cons_succ, List.setIfInBounds_toArray, List.set_cons_zero, List.set_cons_succ]; (try dsimp only at hS'); go_simp; (try with_reducible rfl)))
              -- 18: call { callee := value (func 156), args := #[t74, t76, t78], argTypes := #[39, 3, 3] }
              refine chainP_call (d := (some 79)) (.int .i64 (powE gr gr.g (-t0))) rfl rfl (fun w' hS' => ?_) ?_
              · simp only [lookP, allP, Act.put, List.getElem?_cons_zero, List.getElem?_cons_succ, List.setIfInBounds_toArray, List.set_cons_zero, List.set_cons_succ]
                intro K hK
                go_simp
                go_at_call 156
                refine (spec_gExp gr gr.g (-t0) _ HG.out sgg int).mono ?_
                rintro e u ⟨rfl, hq⟩
                exact hK.out _ hq
              -- 19: buildSlice 24 2 #[(0, t73), (1, t79)]
              refine chainP_do (d := (some 80)) (fun v w => Ints w v [C, powE gr gr.g (-t0)]) (fun v w w' hb h => Ints.below h hb) rfl rfl (fun w' hS' => ?_) ?_
              · simp only [lookP, allP, Act.put, List.getElem?_cons_zero, List.getElem?_cons_succ, List.setIfInBounds_toArray, List.set_cons_zero, List.set_cons_succ]
                intro K hK
                go_simp
                refine hK.out _ _ ((Below.refl _ _).alloc (Nat.le_refl _) _) ?_
                exact (OwnI.lit (B := w'.heap.size) w' (Nat.le_refl _) (l := [C, powE gr gr.g (-t0)]) (AllI64.cons (small_64 sC) (AllI64.cons (small_64 (powE_small HG.out _ _)) AllI64.nil)) rfl (by simp [maxLen]) 2 rfl).ints
              -- 20: call { callee := value (func 211), args := #[t72, t80], argTypes := #[39, 24] }
              refine chainP_call (d := (some 81)) (.int .i64 (mulL gr [C, powE gr gr.g (-t0)])) rfl rfl (fun w' hS' => ?_) ?_
              · simp only [lookP, allP, Act.put, List.getElem?_cons_zero, List.getElem?_cons_succ, List.setIfInBounds_toArray, List.set_cons_zero, List.set_cons_succ]
                intro x19 hx19
                intro K hK
                go_simp
                go_at_call 211
                refine (spec_gMul gr _ [C, powE gr gr.g (-t0)] _ HG.out hx19 (AllSmall.cons sC (AllSmall.cons (powE_small HG.out _ _) AllSmall.nil))).mono ?_
                rintro e u ⟨rfl, hq⟩
                exact hK.out _ hq
              -- 21: move t14
              refine' chainP_read (d := (some 82)) _ rfl rfl (fun w' hS' => ?_) ?_; rotate_left
              · simp only [lookP, allP, Act.put, List.getElem?_cons_zero, List.getElem?_cons_succ, List.setIfInBounds_toArray, List.set_cons_zero, List.set_cons_succ]
                (try dsimp only at hS')
                go_simp
                (try with_reducible rfl)
              -- 22: call { callee := value (func 156), args := #[t71, t81, t82], argTypes := #[39, 3, 3] }
              refine chainP_call (d := (some 83)) (.int .i64 (powE gr (mulL gr [C, powE gr gr.g (-t0)]) (nth d.h 0))) rfl rfl (fun w' hS' => ?_) ?_
              · simp only [lookP, allP, Act.put, List.getElem?_cons_zero, List.getElem?_cons_succ, List.setIfInBounds_toArray, List.set_cons_zero, List.set_cons_succ]
                intro K hK
                go_simp
                go_at_call 156
                refine (spec_gExp gr (mulL gr [C, powE gr gr.g (-t0)]) (nth d.h 0) _ HG.out (mulL_small HG.out _) ih0).mono ?_
                rintro e u ⟨rfl, hq⟩
                exact hK.out _ hq
              -- 23: buildSlice 24 2 #[(0, t70), (1, t83)]
              refine chainP_do (d := (some 84)) (fun v w => Ints w v [(nth d.c 0), powE gr (mulL gr [C, powE gr gr.g (-t0)]) (nth d.h 0)]) (fun v w w' hb h => Ints.below h hb) rfl rfl (fun w' hS' => ?_) ?_
              · simp only [lookP, allP, Act.put, List.getElem?_cons_zero, List.getElem?_cons_succ, List.setIfInBounds_toArray, List.set_cons_zero, List.set_cons_succ]
                intro K hK
                go_simp
                refine hK.out _ _ ((Below.refl _ _).alloc (Nat.le_refl _) _) ?_
                exact (OwnI.lit (B := w'.heap.size) w' (Nat.le_refl _) (l := [(nth d.c 0), powE gr (mulL gr [C, powE gr gr.g (-t0)]) (nth d.h 0)]) (AllI64.cons (small_64 sx0) (AllI64.cons (small_64 (powE_small HG.out _ _)) AllI64.nil)) rfl (by simp [maxLen]) 2 rfl).ints
              -- 24: call { callee := value (func 211), args := #[t69, t84], argTypes := #[39, 24] }
              refine chainP_call (d := (some 85)) (.int .i64 (mulL gr [(nth d.c 0), powE gr (mulL gr [C, powE gr gr.g (-t0)]) (nth d.h 0)])) rfl rfl (fun w' hS' => ?_) ?_
              · simp only [lookP, allP, Act.put, List.getElem?_cons_zero, List.getElem?_cons_succ, List.setIfInBounds_toArray, List.set_cons_zero, List.set_cons_succ]
                intro x23 hx23
                intro K hK
                go_simp
                go_at_call 211
                refine (spec_gMul gr _ [(nth d.c 0), powE gr (mulL gr [C, powE gr gr.g (-t0)]) (nth d.h 0)] _ HG.out hx23 (AllSmall.cons sx0 (AllSmall.cons (powE_small HG.out _ _) AllSmall.nil))).mono ?_
                rintro e u ⟨rfl, hq⟩
                exact hK.out _ hq
              iterate 3 (refine' chainP_read _ rfl rfl (fun w' hS' => ?_) ?_; rotate_left; · (simp only [lookP, allP, Act.put, List.getElem?_cons_zero, List.getElem?_cons_succ, List.setIfInBounds_toArray, List.set_cons_zero, List.set_cons_succ]; (try dsimp only at hS'); go_simp; (try with_reducible rfl)))
              refine chainP_nil (fun u9 hS' => ?_)
              simp only [allP, Act.put, List.setIfInBounds_toArray, List.set_cons_zero, List.set_cons_succ]
              intro x23 hx23
              intro x19 hx19
              have hq9 := hS'.1
              clear hS'
              replace hc := Below.next hc hq9
              clear hq9 c0_0 c0_1 c0_2 c1_0 c1_1 c2_0 c2_1 c2_2 yxc0 yxh0 yxr0
              obtain ⟨c0_0, c0_1, c0_2, c1_0, c1_1, c2_0, c2_1, c2_2, yxc0, yxh0, yxr0⟩ := HCC.out _ hc
              go_wp2_with fail
              refine NoPanic.normal ?_
              cases hc7 : (powE gr bh (nth d.r 0) == mulL gr [(nth d.c 0), powE gr (mulL gr [C, powE gr gr.g (-t0)]) (nth d.h 0)]) with
              | false =>
                go_wp2_with fail
                have HV : Hid ((.tuple #[.bool (vsR gr sSum bh bl cs t0 d), .bool (vsA gr bh bl cs t0)] : Value) = .tuple #[.bool false, .bool true]) := by unfold Hid; have qhc4 := Hhc4.out; simp only [List.all_cons, List.all_nil, Bool.and_true] at qhc4; simp [vsR, vsA, vsV, vsQ, Hhc1.out, hc2, Hhc3.out, qhc4, Hhc5.out, hc6, hc7, HLC.out, HCX.out, HEX.out, HQE.out]
                go_ret2
                exact ⟨congrArg Ending.returned HV.out.symm, HB.out.trans (hc.mono HB.out.size)⟩
              | true =>
                go_wp2_with fail
                have HV : Hid ((.tuple #[.bool (vsR gr sSum bh bl cs t0 d), .bool (vsA gr bh bl cs t0)] : Value) = .tuple #[.bool true, .bool true]) := by unfold Hid; have qhc4 := Hhc4.out; simp only [List.all_cons, List.all_nil, Bool.and_true] at qhc4; simp [vsR, vsA, vsV, vsQ, Hhc1.out, hc2, Hhc3.out, qhc4, Hhc5.out, hc6, hc7, HLC.out, HCX.out, HEX.out, HQE.out]
                go_ret2
                exact ⟨congrArg Ending.returned HV.out.symm, HB.out.trans (hc.mono HB.out.size)⟩
            | true =>
              have HQE : Hid ((nth d.h 0 == E) = false) := by unfold Hid; have q := hc6; rw [bne_iff_ne] at q; exact beq_eq_false_iff_ne.2 q
              go_wp2_with fail
              have HV : Hid ((.tuple #[.bool (vsR gr sSum bh bl cs t0 d), .bool (vsA gr bh bl cs t0)] : Value) = .tuple #[.bool false, .bool true]) := by unfold Hid; have qhc4 := Hhc4.out; simp only [List.all_cons, List.all_nil, Bool.and_true] at qhc4; simp [vsR, vsA, vsV, vsQ, Hhc1.out, hc2, Hhc3.out, qhc4, Hhc5.out, hc6, HLC.out, HCX.out, HEX.out, HQE.out]
              go_ret2
              exact ⟨congrArg Ending.returned HV.out.symm, HB.out.trans (hc.mono HB.out.size)⟩
set_option maxRecDepth 100000 in
set_option maxHeartbeats 2000000 in
theorem impl_VerifySum (gr : GroupD) (bh : Int) (bv : Value) (bl : List Int) (cv : Value) (cs : List Int) (t0 : Int) (pv : Value) (d : ProofD) (w : World) (hb : Ints w bv bl) (hcs : Ints w cv cs) (ibh : I64 bh) (it0 : I64 t0) (hp : PfR w pv d) :
    Calls Try.prog 87 #[.agg #[.int .i64 gr.p, .int .i64 gr.q, .int .i64 gr.g], .agg #[.int .i64 bh, bv], cv, .int .i64 t0, pv] w fun e w' => e = .returned (.tuple #[.bool (vsR gr sSum bh bl cs t0 d), .bool (vsA gr bh bl cs t0)]) ∧ Below w.heap.size w w' := by
  rw [vsR_P]
  obtain ⟨bva, bvn, bvc, rfl⟩ := hb.shape
  have Ebv := Lib.hid hb.len
  have Kbv := Lib.hid hb.capMax
  have Hbv := Lib.hid hb
  clear hb
  obtain ⟨cva, cvn, cvc, rfl⟩ := hcs.shape
  have Ecv := Lib.hid hcs.len
  have Kcv := Lib.hid hcs.capMax
  have Hcv := Lib.hid hcs
  clear hcs
  obtain ⟨xcv, xhv, xrv, rfl, hxc, hxh, hxr⟩ := hp
  obtain ⟨xca, xcn, xcc, rfl⟩ := hxc.shape
  have Exc := Lib.hid hxc.len
  have Kxc := Lib.hid hxc.capMax
  have Hxc := Lib.hid hxc
  clear hxc
  obtain ⟨xha, xhn, xhc, rfl⟩ := hxh.shape
  have Exh := Lib.hid hxh.len
  have Kxh := Lib.hid hxh.capMax
  have Hxh := Lib.hid hxh
  clear hxh
  obtain ⟨xra, xrn, xrc, rfl⟩ := hxr.shape
  have Exr := Lib.hid hxr.len
  have Kxr := Lib.hid hxr.capMax
  have Hxr := Lib.hid hxr
  clear hxr
  obtain ⟨W, hW⟩ : ∃ W, W = ((w.alloc (.cells #[.int .i64 gr.p, .int .i64 gr.q, .int .i64 gr.g] 39)).alloc (.cells #[.int .i64 bh, (.slice bva bvn bvc)] 79)).alloc (.cells #[(.slice xca xcn xcc), (.slice xha xhn xhc), (.slice xra xrn xrc)] 42) := ⟨_, rfl⟩
  have HB : Hid (Below w.heap.size w W) := by unfold Hid; rw [hW]; (repeat (first | exact Below.refl _ _ | assumption | refine Below.drew ?_ | refine Below.alloc ?_ (by first | (simp; done) | (simp; omega)) _ | refine Below.setCell ?_ (by first | (simp; done) | (simp; omega)) _))
  have c0_0 : W.cell? ⟨w.heap.size, 0, none⟩ = some (.int .i64 gr.p) := by rw [hW]; simp [go_sem]
  have c0_1 : W.cell? ⟨w.heap.size, 1, none⟩ = some (.int .i64 gr.q) := by rw [hW]; simp [go_sem]
  have c0_2 : W.cell? ⟨w.heap.size, 2, none⟩ = some (.int .i64 gr.g) := by rw [hW]; simp [go_sem]
  have c1_0 : W.cell? ⟨w.heap.size + 1, 0, none⟩ = some (.int .i64 bh) := by rw [hW]; simp [go_sem]
  have c1_1 : W.cell? ⟨w.heap.size + 1, 1, none⟩ = some ((.slice bva bvn bvc)) := by rw [hW]; simp [go_sem]
  have c2_0 : W.cell? ⟨w.heap.size + 1 + 1, 0, none⟩ = some ((.slice xca xcn xcc)) := by rw [hW]; simp [go_sem]
  have c2_1 : W.cell? ⟨w.heap.size + 1 + 1, 1, none⟩ = some ((.slice xha xhn xhc)) := by rw [hW]; simp [go_sem]
  have c2_2 : W.cell? ⟨w.heap.size + 1 + 1, 2, none⟩ = some ((.slice xra xrn xrc)) := by rw [hW]; simp [go_sem]
  have HSW : Hid (W.heap.size = w.heap.size + 3) := by unfold Hid; rw [hW]; simp
  go_enter Try.func87, Try.ntmps87
  go_wp2_with fail
  rw [← hW]
  have hse : w.heap.size + 1 + 1 + 1 = W.heap.size := by have := HSW.out; omega
  (try rw [hse])
  clear hse
  clear hW
  have hc : Below W.heap.size W W := Below.refl _ _
  have HCC : Hid (∀ u, Below W.heap.size W u → u.cell? ⟨w.heap.size, 0, none⟩ = some (.int .i64 gr.p) ∧ u.cell? ⟨w.heap.size, 1, none⟩ = some (.int .i64 gr.q) ∧ u.cell? ⟨w.heap.size, 2, none⟩ = some (.int .i64 gr.g) ∧ u.cell? ⟨w.heap.size + 1, 0, none⟩ = some (.int .i64 bh) ∧ u.cell? ⟨w.heap.size + 1, 1, none⟩ = some ((.slice bva bvn bvc)) ∧ u.cell? ⟨w.heap.size + 1 + 1, 0, none⟩ = some ((.slice xca xcn xcc)) ∧ u.cell? ⟨w.heap.size + 1 + 1, 1, none⟩ = some ((.slice xha xhn xhc)) ∧ u.cell? ⟨w.heap.size + 1 + 1, 2, none⟩ = some ((.slice xra xrn xrc))) := fun u h => ⟨box_at c0_0 h, box_at c0_1 h, box_at c0_2 h, box_at c1_0 h, box_at c1_1 h, box_at c2_0 h, box_at c2_1 h, box_at c2_2 h⟩
  go_wp2_with fail
  refine (impl_IsValidBases gr bh _ bl _ (Hbv.out.below (HB.out.trans (hc.mono HB.out.size))) ibh).mono ?_
  rintro e u1 ⟨rfl, hq1⟩
  replace hc := Below.next hc hq1
  clear hq1 c0_0 c0_1 c0_2 c1_0 c1_1 c2_0 c2_1 c2_2
  obtain ⟨c0_0, c0_1, c0_2, c1_0, c1_1, c2_0, c2_1, c2_2⟩ := HCC.out _ hc
  cases hc1 : baB gr bh bl with
  | false =>
    have Hhc1 := Lib.hid hc1
    clear hc1
    go_wp2_with fail
    have HV : Hid ((.tuple #[.bool (vsA gr bh bl cs t0 && vsP gr sSum bh cs t0 d), .bool (vsA gr bh bl cs t0)] : Value) = .tuple #[.bool false, .bool false]) := by unfold Hid; simp [vsA, vsP, vsQ, Hhc1.out]
    go_ret2
    exact ⟨congrArg Ending.returned HV.out.symm, HB.out.trans (hc.mono HB.out.size)⟩
  | true =>
    have HBA := Lib.hid (baB_parts hc1)
    have HG := Lib.hid (goodG_ok HBA.out.1)
    have sbh : Small bh := elB_small HG.out HBA.out.2.1
    have Hhc1 := Lib.hid hc1
    clear hc1
    go_wp2_with fail
    refine (impl_within (cvn : Int) 1 24 _).mono ?_
    rintro e u2 ⟨rfl, rfl⟩
    cases hc2 : decide (1 ≤ (cvn : Int) ∧ (cvn : Int) ≤ 24) with
    | false =>
      have HLC : Hid (decide (1 ≤ cs.length ∧ cs.length ≤ 24) = false) := by have q : ¬ (1 ≤ (cvn : Int) ∧ (cvn : Int) ≤ 24) := of_decide_eq_false hc2; exact decide_eq_false (by have := Ecv.out; omega)
      go_wp2_with fail
      have HV : Hid ((.tuple #[.bool (vsA gr bh bl cs t0 && vsP gr sSum bh cs t0 d), .bool (vsA gr bh bl cs t0)] : Value) = .tuple #[.bool false, .bool false]) := by unfold Hid; simp [vsA, vsP, vsQ, Hhc1.out, hc2, HLC.out]
      go_ret2
      exact ⟨congrArg Ending.returned HV.out.symm, HB.out.trans (hc.mono HB.out.size)⟩
    | true =>
      have HLC : Hid (decide (1 ≤ cs.length ∧ cs.length ≤ 24) = true) := by have q : 1 ≤ (cvn : Int) ∧ (cvn : Int) ≤ 24 := of_decide_eq_true hc2; exact decide_eq_true (by have := Ecv.out; omega)
      go_wp2_with fail
      refine (impl_hasAll gr _ cs _ HG.out (Hcv.out.below (HB.out.trans (hc.mono HB.out.size)))).mono ?_
      rintro e u3 ⟨rfl, hq3⟩
      replace hc := Below.next hc hq3
      clear hq3 c0_0 c0_1 c0_2 c1_0 c1_1 c2_0 c2_1 c2_2
      obtain ⟨c0_0, c0_1, c0_2, c1_0, c1_1, c2_0, c2_1, c2_2⟩ := HCC.out _ hc
      cases hc3 : cs.all (elB gr) with
      | false =>
        have Hhc3 := Lib.hid hc3
        clear hc3
        go_wp2_with fail
        have HV : Hid ((.tuple #[.bool (vsA gr bh bl cs t0 && vsP gr sSum bh cs t0 d), .bool (vsA gr bh bl cs t0)] : Value) = .tuple #[.bool false, .bool false]) := by unfold Hid; simp [vsA, vsP, vsQ, Hhc1.out, hc2, Hhc3.out, HLC.out]
        go_ret2
        exact ⟨congrArg Ending.returned HV.out.symm, HB.out.trans (hc.mono HB.out.size)⟩
      | true =>
        have HCS : Hid (AllSmall cs) := all_small HG.out hc3
        have Hhc3 := Lib.hid hc3
        clear hc3
        go_wp2_with fail
        refine (impl_isExp gr t0 _ HG.out).mono ?_
        rintro e u4 ⟨rfl, hq4⟩
        replace hc := Below.next hc hq4
        clear hq4 c0_0 c0_1 c0_2 c1_0 c1_1 c2_0 c2_1 c2_2
        obtain ⟨c0_0, c0_1, c0_2, c1_0, c1_1, c2_0, c2_1, c2_2⟩ := HCC.out _ hc
        cases hc4 : expB gr t0 with
        | false =>
          have Hhc4 := Lib.hid hc4
          clear hc4
          go_wp2_with fail
          have HV : Hid ((.tuple #[.bool (vsA gr bh bl cs t0 && vsP gr sSum bh cs t0 d), .bool (vsA gr bh bl cs t0)] : Value) = .tuple #[.bool false, .bool false]) := by unfold Hid; simp [vsA, vsP, vsQ, Hhc1.out, hc2, Hhc3.out, Hhc4.out, HLC.out]
          go_ret2
          exact ⟨congrArg Ending.returned HV.out.symm, HB.out.trans (hc.mono HB.out.size)⟩
        | true =>
          have HTE : Hid (expB gr t0 = true) := hc4
          have Hhc4 := Lib.hid hc4
          clear hc4
          cases hc5 : ((xcn : Int) != 1) with
          | false =>
            have HLxc : Hid (decide (d.c.length = 1) = true) := by have q := hc5; rw [bne_eq_false_iff_eq] at q; exact decide_eq_true (by have := Exc.out; omega)
            obtain rfl : xcn = 1 := by have q := hc5; rw [bne_eq_false_iff_eq] at q; omega
            obtain ⟨xcb, xco, rfl, hx⟩ := Hxc.out.at_ (by omega)
            have Kxc0 : Hid (w.cell? ⟨xcb, xco, none⟩ = some (.int .i64 (nth d.c 0))) := by unfold Hid; have h := hx 0 (by omega); simpa using h
            clear hx
            have yxc0 := box_at Kxc0.out (HB.out.trans (hc.mono HB.out.size))
            replace HCC : Hid (∀ u, Below W.heap.size W u → u.cell? ⟨w.heap.size, 0, none⟩ = some (.int .i64 gr.p) ∧ u.cell? ⟨w.heap.size, 1, none⟩ = some (.int .i64 gr.q) ∧ u.cell? ⟨w.heap.size, 2, none⟩ = some (.int .i64 gr.g) ∧ u.cell? ⟨w.heap.size + 1, 0, none⟩ = some (.int .i64 bh) ∧ u.cell? ⟨w.heap.size + 1, 1, none⟩ = some ((.slice bva bvn bvc)) ∧ u.cell? ⟨w.heap.size + 1 + 1, 0, none⟩ = some ((.slice (some ⟨xcb, xco, none⟩) 1 xcc)) ∧ u.cell? ⟨w.heap.size + 1 + 1, 1, none⟩ = some ((.slice xha xhn xhc)) ∧ u.cell? ⟨w.heap.size + 1 + 1, 2, none⟩ = some ((.slice xra xrn xrc)) ∧ u.cell? ⟨xcb, xco, none⟩ = some (.int .i64 (nth d.c 0))) := fun u h => by obtain ⟨c0_0, c0_1, c0_2, c1_0, c1_1, c2_0, c2_1, c2_2⟩ := HCC.out u h; exact ⟨c0_0, c0_1, c0_2, c1_0, c1_1, c2_0, c2_1, c2_2, box_at Kxc0.out (HB.out.trans (h.mono HB.out.size))⟩
            cases hc6 : ((xhn : Int) != 1) with
            | false =>
              have HLxh : Hid (decide (d.h.length = 1) = true) := by have q := hc6; rw [bne_eq_false_iff_eq] at q; exact decide_eq_true (by have := Exh.out; omega)
              obtain rfl : xhn = 1 := by have q := hc6; rw [bne_eq_false_iff_eq] at q; omega
              obtain ⟨xhb, xho, rfl, hx⟩ := Hxh.out.at_ (by omega)
              have Kxh0 : Hid (w.cell? ⟨xhb, xho, none⟩ = some (.int .i64 (nth d.h 0))) := by unfold Hid; have h := hx 0 (by omega); simpa using h
              clear hx
              have yxh0 := box_at Kxh0.out (HB.out.trans (hc.mono HB.out.size))
              replace HCC : Hid (∀ u, Below W.heap.size W u → u.cell? ⟨w.heap.size, 0, none⟩ = some (.int .i64 gr.p) ∧ u.cell? ⟨w.heap.size, 1, none⟩ = some (.int .i64 gr.q) ∧ u.cell? ⟨w.heap.size, 2, none⟩ = some (.int .i64 gr.g) ∧ u.cell? ⟨w.heap.size + 1, 0, none⟩ = some (.int .i64 bh) ∧ u.cell? ⟨w.heap.size + 1, 1, none⟩ = some ((.slice bva bvn bvc)) ∧ u.cell? ⟨w.heap.size + 1 + 1, 0, none⟩ = some ((.slice (some ⟨xcb, xco, none⟩) 1 xcc)) ∧ u.cell? ⟨w.heap.size + 1 + 1, 1, none⟩ = some ((.slice (some ⟨xhb, xho, none⟩) 1 xhc)) ∧ u.cell? ⟨w.heap.size + 1 + 1, 2, none⟩ = some ((.slice xra xrn xrc)) ∧ u.cell? ⟨xcb, xco, none⟩ = some (.int .i64 (nth d.c 0)) ∧ u.cell? ⟨xhb, xho, none⟩ = some (.int .i64 (nth d.h 0))) := fun u h => by obtain ⟨c0_0, c0_1, c0_2, c1_0, c1_1, c2_0, c2_1, c2_2, yxc0⟩ := HCC.out u h; exact ⟨c0_0, c0_1, c0_2, c1_0, c1_1, c2_0, c2_1, c2_2, yxc0, box_at Kxh0.out (HB.out.trans (h.mono HB.out.size))⟩
              cases hc7 : ((xrn : Int) != 1) with
              | false =>
                have HLxr : Hid (decide (d.r.length = 1) = true) := by have q := hc7; rw [bne_eq_false_iff_eq] at q; exact decide_eq_true (by have := Exr.out; omega)
                obtain rfl : xrn = 1 := by have q := hc7; rw [bne_eq_false_iff_eq] at q; omega
                obtain ⟨xrb, xro, rfl, hx⟩ := Hxr.out.at_ (by omega)
                have Kxr0 : Hid (w.cell? ⟨xrb, xro, none⟩ = some (.int .i64 (nth d.r 0))) := by unfold Hid; have h := hx 0 (by omega); simpa using h
                clear hx
                have yxr0 := box_at Kxr0.out (HB.out.trans (hc.mono HB.out.size))
                replace HCC : Hid (∀ u, Below W.heap.size W u → u.cell? ⟨w.heap.size, 0, none⟩ = some (.int .i64 gr.p) ∧ u.cell? ⟨w.heap.size, 1, none⟩ = some (.int .i64 gr.q) ∧ u.cell? ⟨w.heap.size, 2, none⟩ = some (.int .i64 gr.g) ∧ u.cell? ⟨w.heap.size + 1, 0, none⟩ = some (.int .i64 bh) ∧ u.cell? ⟨w.heap.size + 1, 1, none⟩ = some ((.slice bva bvn bvc)) ∧ u.cell? ⟨w.heap.size + 1 + 1, 0, none⟩ = some ((.slice (some ⟨xcb, xco, none⟩) 1 xcc)) ∧ u.cell? ⟨w.heap.size + 1 + 1, 1, none⟩ = some ((.slice (some ⟨xhb, xho, none⟩) 1 xhc)) ∧ u.cell? ⟨w.heap.size + 1 + 1, 2, none⟩ = some ((.slice (some ⟨xrb, xro, none⟩) 1 xrc)) ∧ u.cell? ⟨xcb, xco, none⟩ = some (.int .i64 (nth d.c 0)) ∧ u.cell? ⟨xhb, xho, none⟩ = some (.int .i64 (nth d.h 0)) ∧ u.cell? ⟨xrb, xro, none⟩ = some (.int .i64 (nth d.r 0))) := fun u h => by obtain ⟨c0_0, c0_1, c0_2, c1_0, c1_1, c2_0, c2_1, c2_2, yxc0, yxh0⟩ := HCC.out u h; exact ⟨c0_0, c0_1, c0_2, c1_0, c1_1, c2_0, c2_1, c2_2, yxc0, yxh0, box_at Kxr0.out (HB.out.trans (h.mono HB.out.size))⟩
                cases hc8 : elB gr (nth d.c 0) with
                | false =>
                  have Hhc8 := Lib.hid hc8
                  clear hc8
                  try (go_wp2_with fail)
                  refine wp_region_noPanic ?_
                  refine wp_region_P (fun w' => w'.cell? ⟨w.heap.size, 0, none⟩ = some (.int .i64 gr.p) ∧ w'.cell? ⟨w.heap.size, 1, none⟩ = some (.int .i64 gr.q) ∧ w'.cell? ⟨w.heap.size, 2, none⟩ = some (.int .i64 gr.g) ∧ w'.cell? ⟨w.heap.size + 1, 0, none⟩ = some (.int .i64 bh) ∧ w'.cell? ⟨w.heap.size + 1, 1, none⟩ = some ((.slice bva bvn bvc)) ∧ w'.cell? ⟨w.heap.size + 1 + 1, 0, none⟩ = some ((.slice (some ⟨xcb, xco, none⟩) 1 xcc)) ∧ w'.cell? ⟨w.heap.size + 1 + 1, 1, none⟩ = some ((.slice (some ⟨xhb, xho, none⟩) 1 xhc)) ∧ w'.cell? ⟨w.heap.size + 1 + 1, 2, none⟩ = some ((.slice (some ⟨xrb, xro, none⟩) 1 xrc)) ∧ w'.cell? ⟨xcb, xco, none⟩ = some (.int .i64 (nth d.c 0)) ∧ w'.cell? ⟨xhb, xho, none⟩ = some (.int .i64 (nth d.h 0)) ∧ w'.cell? ⟨xrb, xro, none⟩ = some (.int .i64 (nth d.r 0))) 36 [(0, []), (1, [0]), (2, [0]), (3, [0]), (4, [0]), (5, [0]), (6, [0, 1]), (7, [0, 2]), (8, [0, 3]), (9, [4, 0]), (10, [0]), (11, [0]), (12, [0, 1]), (13, [0, 2]), (14, [0, 3]), (15, [4, 0]), (16, [0]), (17, [0]), (18, [1]), (19, [0, 2]), (20, [0, 3]), (21, [0, 4]), (22, [4, 0, 5]), (23, [0, 6]), (24, [7, 0]), (25, [0]), (26, [0]), (27, [1]), (28, [0, 2]), (29, [0, 3]), (30, [0, 4]), (31, [4, 0, 5]), (32, [0, 6]), (33, [7, 0])] [] (by kernel_rfl) (by kernel_rfl) (by kernel_rfl) rfl (fun _ _ _ _ h => h) (fun w' h => ⟨box_at c0_0 h, box_at c0_1 h, box_at c0_2 h, box_at c1_0 h, box_at c1_1 h, box_at c2_0 h, box_at c2_1 h, box_at c2_2 h, box_at yxc0 h, box_at yxh0 h, box_at yxr0 h⟩) ?_
                  simp only [pickP, pickN, List.getElem?_cons_zero, List.getElem?_cons_succ]
                  iterate 5 (refine' chainP_read _ rfl rfl (fun w' hS' => ?_) ?_; rotate_left; · (simp only [lookP, allP, Act.put, List.getElem?_cons_zero, List.getElem?_cons_succ, List.setIfInBounds_toArray, List.set_cons_zero, List.set_cons_succ]; (try dsimp only at hS'); go_simp; (try with_reducible rfl)))
                  -- 5: fieldAddr 42 t9 1
                  refine' chainP_readG (d := (some 43)) _ rfl (fun w' hS' => ?_) ?_; rotate_left
                  · simp only [lookP, allP, Act.put, List.getElem?_cons_zero, List.getElem?_cons_succ, List.setIfInBounds_toArray, List.set_cons_zero, List.set_cons_succ]
                    refine ⟨by kernel_rfl, ?_⟩
                    (try dsimp only at hS')
                    go_simp
                    (try with_reducible rfl)
                  -- 6: load 24 t43
                  refine' chainP_readG (d := (some 44)) _ rfl (fun w' hS' => ?_) ?_; rotate_left
                  · simp only [lookP, allP, Act.put, List.getElem?_cons_zero, List.getElem?_cons_succ, List.setIfInBounds_toArray, List.set_cons_zero, List.set_cons_succ]
                    refine ⟨by kernel_rfl, ?_⟩
                    (try dsimp only at hS')
                    go_simp
                    (try with_reducible rfl)
                  -- 7: call { callee := builtin Builtin.len, args := #[t44], argTypes := #[24] }
                  refine' chainP_readG (d := (some 45)) _ rfl (fun w' hS' => ?_) ?_; rotate_left
                  · simp only [lookP, allP, Act.put, List.getElem?_cons_zero, List.getElem?_cons_succ, List.setIfInBounds_toArray, List.set_cons_zero, List.set_cons_succ]
                    refine ⟨by kernel_rfl, ?_⟩
                    (try dsimp only at hS')
                    go_simp
                    (try with_reducible rfl)
                  -- 8: binOp Binneq 3 t45 (const (int i64 1)) 3
                  refine' chainP_readG (d := (some 46)) _ rfl (fun w' hS' => ?_) ?_; rotate_left
                  · simp only [lookP, allP, Act.put, List.getElem?_cons_zero, List.getElem?_cons_succ, List.setIfInBounds_toArray, List.set_cons_zero, List.set_cons_succ]
                    refine ⟨by kernel_rfl, ?_⟩
                    (try dsimp only at hS')
                    go_simp
                    (try with_reducible rfl)
                  iterate 2 (refine' chainP_read _ rfl rfl (fun w' hS' => ?_) ?_; rotate_left; · (simp only [lookP, allP, Act.put, List.getElem?_cons_zero, List.getElem?_cons_succ, List.setIfInBounds_toArray, List.set_cons_zero, List.set_cons_succ]; (try dsimp only at hS'); go_simp; (try with_reducible rfl)))
                  -- 11: fieldAddr 42 t9 2
                  refine' chainP_readG (d := (some 49)) _ rfl (fun w' hS' => ?_) ?_; rotate_left
                  · simp only [lookP, allP, Act.put, List.getElem?_cons_zero, List.getElem?_cons_succ, List.setIfInBounds_toArray, List.set_cons_zero, List.set_cons_succ]
                    refine ⟨by kernel_rfl, ?_⟩
                    (try dsimp only at hS')
                    go_simp
                    (try with_reducible rfl)
                  -- 12: load 24 t49
                  refine' chainP_readG (d := (some 50)) _ rfl (fun w' hS' => ?_) ?_; rotate_left
                  · simp only [lookP, allP, Act.put, List.getElem?_cons_zero, List.getElem?_cons_succ, List.setIfInBounds_toArray, List.set_cons_zero, List.set_cons_succ]
                    refine ⟨by kernel_rfl, ?_⟩
                    (try dsimp only at hS')
                    go_simp
                    (try with_reducible rfl)
                  -- 13: call { callee := builtin Builtin.len, args := #[t50], argTypes := #[24] }
                  refine' chainP_readG (d := (some 51)) _ rfl (fun w' hS' => ?_) ?_; rotate_left
                  · simp only [lookP, allP, Act.put, List.getElem?_cons_zero, List.getElem?_cons_succ, List.setIfInBounds_toArray, List.set_cons_zero, List.set_cons_succ]
                    refine ⟨by kernel_rfl, ?_⟩
                    (try dsimp only at hS')
                    go_simp
                    (try with_reducible rfl)
                  -- 14: binOp Binneq 3 t51 (const (int i64 1)) 3
                  refine' chainP_readG (d := (some 52)) _ rfl (fun w' hS' => ?_) ?_; rotate_left
                  · simp only [lookP, allP, Act.put, List.getElem?_cons_zero, List.getElem?_cons_succ, List.setIfInBounds_toArray, List.set_cons_zero, List.set_cons_succ]
                    refine ⟨by kernel_rfl, ?_⟩
                    (try dsimp only at hS')
                    go_simp
                    (try with_reducible rfl)
                  iterate 2 (refine' chainP_read _ rfl rfl (fun w' hS' => ?_) ?_; rotate_left; · (simp only [lookP, allP, Act.put, List.getElem?_cons_zero, List.getElem?_cons_succ, List.setIfInBounds_toArray, List.set_cons_zero, List.set_cons_succ]; (try dsimp only at hS'); go_simp; (try with_reducible rfl)))
                  -- 17: load 39 t5
                  refine' chainP_readG (d := (some 55)) _ rfl (fun w' hS' => ?_) ?_; rotate_left
                  · simp only [lookP, allP, Act.put, List.getElem?_cons_zero, List.getElem?_cons_succ, List.setIfInBounds_toArray, List.set_cons_zero, List.set_cons_succ]
                    refine ⟨by kernel_rfl, ?_⟩
                    (try dsimp only at hS')
                    go_simp
                    (try with_reducible rfl)
                  -- 18: fieldAddr 42 t9 0
                  refine' chainP_readG (d := (some 56)) _ rfl (fun w' hS' => ?_) ?_; rotate_left
                  · simp only [lookP, allP, Act.put, List.getElem?_cons_zero, List.getElem?_cons_succ, List.setIfInBounds_toArray, List.set_cons_zero, List.set_cons_succ]
                    refine ⟨by kernel_rfl, ?_⟩
                    (try dsimp only at hS')
                    go_simp
                    (try with_reducible rfl)
                  -- 19: load 24 t56
                  refine' chainP_readG (d := (some 57)) _ rfl (fun w' hS' => ?_) ?_; rotate_left
                  · simp only [lookP, allP, Act.put, List.getElem?_cons_zero, List.getElem?_cons_succ, List.setIfInBounds_toArray, List.set_cons_zero, List.set_cons_succ]
                    refine ⟨by kernel_rfl, ?_⟩
                    (try dsimp only at hS')
                    go_simp
                    (try with_reducible rfl)
                  -- 20: indexAddr 24 t57 (const (int i64 0))
                  refine' chainP_readG (d := (some 58)) _ rfl (fun w' hS' => ?_) ?_; rotate_left
                  · simp only [lookP, allP, Act.put, List.getElem?_cons_zero, List.getElem?_cons_succ, List.setIfInBounds_toArray, List.set_cons_zero, List.set_cons_succ]
                    refine ⟨by kernel_rfl, ?_⟩
                    (try dsimp only at hS')
                    go_simp
                    (try with_reducible rfl)
                  -- 21: load 3 t58
                  refine' chainP_readG (d := (some 59)) _ rfl (fun w' hS' => ?_) ?_; rotate_left
                  · simp only [lookP, allP, Act.put, List.getElem?_cons_zero, List.getElem?_cons_succ, List.setIfInBounds_toArray, List.set_cons_zero, List.set_cons_succ]
                    refine ⟨by kernel_rfl, ?_⟩
                    (try dsimp only at hS')
                    go_simp
                    (try with_reducible rfl)
                  -- 22: call { callee := value (func 138), args := #[t55, t59], argTypes := #[39, 3] }
                  refine chainP_callG (d := (some 60)) (.bool false) rfl (fun w' hS' => ?_) ?_
                  · simp only [lookP, allP, Act.put, List.getElem?_cons_zero, List.getElem?_cons_succ, List.setIfInBounds_toArray, List.set_cons_zero, List.set_cons_succ]
                    refine ⟨by kernel_rfl, ?_⟩
                    intro K hK
                    go_simp
                    go_at_call 138
                    refine (impl_has gr (nth d.c 0) _ HG.out).mono ?_
                    rintro e u ⟨rfl, hq⟩
                    rw [Hhc8.out]
                    exact hK.out _ hq
                  -- 23: unOp Unnot 4 t60
                  refine' chainP_readG (d := (some 61)) _ rfl (fun w' hS' => ?_) ?_; rotate_left
                  · simp only [lookP, allP, Act.put, List.getElem?_cons_zero, List.getElem?_cons_succ, List.setIfInBounds_toArray, List.set_cons_zero, List.set_cons_succ]
                    refine ⟨by kernel_rfl, ?_⟩
                    (try dsimp only at hS')
                    go_simp
                    (try with_reducible rfl)
                  iterate 2 (refine' chainP_read _ rfl rfl (fun w' hS' => ?_) ?_; rotate_left; · (simp only [lookP, allP, Act.put, List.getElem?_cons_zero, List.getElem?_cons_succ, List.setIfInBounds_toArray, List.set_cons_zero, List.set_cons_succ]; (try dsimp only at hS'); go_simp; (try with_reducible rfl)))
                  -- 26: load 39 t5
                  refine chainP_skip (d := (some 64)) rfl (fun w' hS' => ?_) ?_
                  · simp only [lookP, allP, Act.put, List.getElem?_cons_zero, List.getElem?_cons_succ, List.setIfInBounds_toArray, List.set_cons_zero, List.set_cons_succ]
                    kernel_rfl
                  -- 27: fieldAddr 42 t9 2
                  refine chainP_skip (d := (some 65)) rfl (fun w' hS' => ?_) ?_
                  · simp only [lookP, allP, Act.put, List.getElem?_cons_zero, List.getElem?_cons_succ, List.setIfInBounds_toArray, List.set_cons_zero, List.set_cons_succ]
                    kernel_rfl
                  -- 28: load 24 t65
                  refine chainP_skip (d := (some 66)) rfl (fun w' hS' => ?_) ?_
                  · simp only [lookP, allP, Act.put, List.getElem?_cons_zero, List.getElem?_cons_succ, List.setIfInBounds_toArray, List.set_cons_zero, List.set_cons_succ]
                    kernel_rfl
                  -- 29: indexAddr 24 t66 (const (int i64 0))
                  refine chainP_skip (d := (some 67)) rfl (fun w' hS' => ?_) ?_
                  · simp only [lookP, allP, Act.put, List.getElem?_cons_zero, List.getElem?_cons_succ, List.setIfInBounds_toArray, List.set_cons_zero, List.set_cons_succ]
                    kernel_rfl
                  -- 30: load 3 t67
                  refine chainP_skip (d := (some 68)) rfl (fun w' hS' => ?_) ?_
                  · simp only [lookP, allP, Act.put, List.getElem?_cons_zero, List.getElem?_cons_succ, List.setIfInBounds_toArray, List.set_cons_zero, List.set_cons_succ]
                    kernel_rfl
                  -- 31: call { callee := value (func 149), args := #[t64, t68], argTypes := #[39, 3] }
                  refine chainP_skip (d := (some 69)) rfl (fun w' hS' => ?_) ?_
                  · simp only [lookP, allP, Act.put, List.getElem?_cons_zero, List.getElem?_cons_succ, List.setIfInBounds_toArray, List.set_cons_zero, List.set_cons_succ]
                    kernel_rfl
                  -- 32: unOp Unnot 4 t69
                  refine chainP_skip (d := (some 70)) rfl (fun w' hS' => ?_) ?_
                  · simp only [lookP, allP, Act.put, List.getElem?_cons_zero, List.getElem?_cons_succ, List.setIfInBounds_toArray, List.set_cons_zero, List.set_cons_succ]
                    kernel_rfl
                  -- 33: pick t63 (const (bool true)) t70
                  refine' chainP_read (d := (some 71)) _ rfl rfl (fun w' hS' => ?_) ?_; rotate_left
                  · simp only [lookP, allP, Act.put, List.getElem?_cons_zero, List.getElem?_cons_succ, List.setIfInBounds_toArray, List.set_cons_zero, List.set_cons_succ]
                    (try dsimp only at hS')
                    go_simp
                    (try with_reducible rfl)
                  refine chainP_nil (fun u5 hS' => ?_)
                  simp only [allP, Act.put, List.setIfInBounds_toArray, List.set_cons_zero, List.set_cons_succ]
                  have hq5 := hS'.1
                  clear hS'
                  replace hc := Below.next hc hq5
                  clear hq5 c0_0 c0_1 c0_2 c1_0 c1_1 c2_0 c2_1 c2_2 yxc0 yxh0 yxr0
                  obtain ⟨c0_0, c0_1, c0_2, c1_0, c1_1, c2_0, c2_1, c2_2, yxc0, yxh0, yxr0⟩ := HCC.out _ hc
                  go_wp2_with fail
                  refine NoPanic.normal ?_
                  go_wp2_with fail
                  have HV : Hid ((.tuple #[.bool (vsA gr bh bl cs t0 && vsP gr sSum bh cs t0 d), .bool (vsA gr bh bl cs t0)] : Value) = .tuple #[.bool false, .bool true]) := by unfold Hid; simp [vsA, vsP, vsQ, Hhc1.out, hc2, Hhc3.out, Hhc4.out, hc5, hc6, hc7, Hhc8.out, HLC.out, HLxc.out, HLxh.out, HLxr.out]
                  go_ret2
                  exact ⟨congrArg Ending.returned HV.out.symm, HB.out.trans (hc.mono HB.out.size)⟩
                | true =>
                  have sx0 : Small (nth d.c 0) := elB_small HG.out hc8
                  have Hhc8 := Lib.hid hc8
                  clear hc8
                  cases hc9 : expB gr (nth d.r 0) with
                  | false =>
                    have HEX : Hid True := trivial
                    have HCX : Hid True := trivial
                    have Hhc9 := Lib.hid hc9
                    clear hc9
                    try (go_wp2_with fail)
                    refine wp_region_noPanic ?_
                    refine wp_region_P (fun w' => w'.cell? ⟨w.heap.size, 0, none⟩ = some (.int .i64 gr.p) ∧ w'.cell? ⟨w.heap.size, 1, none⟩ = some (.int .i64 gr.q) ∧ w'.cell? ⟨w.heap.size, 2, none⟩ = some (.int .i64 gr.g) ∧ w'.cell? ⟨w.heap.size + 1, 0, none⟩ = some (.int .i64 bh) ∧ w'.cell? ⟨w.heap.size + 1, 1, none⟩ = some ((.slice bva bvn bvc)) ∧ w'.cell? ⟨w.heap.size + 1 + 1, 0, none⟩ = some ((.slice (some ⟨xcb, xco, none⟩) 1 xcc)) ∧ w'.cell? ⟨w.heap.size + 1 + 1, 1, none⟩ = some ((.slice (some ⟨xhb, xho, none⟩) 1 xhc)) ∧ w'.cell? ⟨w.heap.size + 1 + 1, 2, none⟩ = some ((.slice (some ⟨xrb, xro, none⟩) 1 xrc)) ∧ w'.cell? ⟨xcb, xco, none⟩ = some (.int .i64 (nth d.c 0)) ∧ w'.cell? ⟨xhb, xho, none⟩ = some (.int .i64 (nth d.h 0)) ∧ w'.cell? ⟨xrb, xro, none⟩ = some (.int .i64 (nth d.r 0))) 36 [(0, []), (1, [0]), (2, [0]), (3, [0]), (4, [0]), (5, [0]), (6, [0, 1]), (7, [0, 2]), (8, [0, 3]), (9, [4, 0]), (10, [0]), (11, [0]), (12, [0, 1]), (13, [0, 2]), (14, [0, 3]), (15, [4, 0]), (16, [0]), (17, [0]), (18, [1]), (19, [0, 2]), (20, [0, 3]), (21, [0, 4]), (22, [4, 0, 5]), (23, [0, 6]), (24, [7, 0]), (25, [0]), (26, [0]), (27, [1]), (28, [0, 2]), (29, [0, 3]), (30, [0, 4]), (31, [4, 0, 5]), (32, [0, 6]), (33, [7, 0])] [] (by kernel_rfl) (by kernel_rfl) (by kernel_rfl) rfl (fun _ _ _ _ h => h) (fun w' h => ⟨box_at c0_0 h, box_at c0_1 h, box_at c0_2 h, box_at c1_0 h, box_at c1_1 h, box_at c2_0 h, box_at c2_1 h, box_at c2_2 h, box_at yxc0 h, box_at yxh0 h, box_at yxr0 h⟩) ?_
                    simp only [pickP, pickN, List.getElem?_cons_zero, List.getElem?_cons_succ]
                    iterate 5 (refine' chainP_read _ rfl rfl (fun w' hS' => ?_) ?_; rotate_left; · (simp only [lookP, allP, Act.put, List.getElem?_cons_zero, List.getElem?_cons_succ, List.setIfInBounds_toArray, List.set_cons_zero, List.set_cons_succ]; (try dsimp only at hS'); go_simp; (try with_reducible rfl)))
                    -- 5: fieldAddr 42 t9 1
                    refine' chainP_readG (d := (some 43)) _ rfl (fun w' hS' => ?_) ?_; rotate_left
                    · simp only [lookP, allP, Act.put, List.getElem?_cons_zero, List.getElem?_cons_succ, List.setIfInBounds_toArray, List.set_cons_zero, List.set_cons_succ]
                      refine ⟨by kernel_rfl, ?_⟩
                      (try dsimp only at hS')
                      go_simp
                      (try with_reducible rfl)
                    -- 6: load 24 t43
                    refine' chainP_readG (d := (some 44)) _ rfl (fun w' hS' => ?_) ?_; rotate_left
                    · simp only [lookP, allP, Act.put, List.getElem?_cons_zero, List.getElem?_cons_succ, List.setIfInBounds_toArray, List.set_cons_zero, List.set_cons_succ]
                      refine ⟨by kernel_rfl, ?_⟩
                      (try dsimp only at hS')
                      go_simp
                      (try with_reducible rfl)
                    -- 7: call { callee := builtin Builtin.len, args := #[t44], argTypes := #[24] }
                    refine' chainP_readG (d := (some 45)) _ rfl (fun w' hS' => ?_) ?_; rotate_left
                    · simp only [lookP, allP, Act.put, List.getElem?_cons_zero, List.getElem?_cons_succ, List.setIfInBounds_toArray, List.set_cons_zero, List.set_cons_succ]
                      refine ⟨by kernel_rfl, ?_⟩
                      (try dsimp only at hS')
                      go_simp
                      (try with_reducible rfl)
                    -- 8: binOp Binneq 3 t45 (const (int i64 1)) 3
                    refine' chainP_readG (d := (some 46)) _ rfl (fun w' hS' => ?_) ?_; rotate_left
                    · simp only [lookP, allP, Act.put, List.getElem?_cons_zero, List.getElem?_cons_succ, List.setIfInBounds_toArray, List.set_cons_zero, List.set_cons_succ]
                      refine ⟨by kernel_rfl, ?_⟩
                      (try dsimp only at hS')
                      go_simp
                      (try with_reducible rfl)
                    iterate 2 (refine' chainP_read _ rfl rfl (fun w' hS' => ?_) ?_; rotate_left; · (simp only [lookP, allP, Act.put, List.getElem?_cons_zero, List.getElem?_cons_succ, List.setIfInBounds_toArray, List.set_cons_zero, List.set_cons_succ]; (try dsimp only at hS'); go_simp; (try with_reducible rfl)))
                    -- 11: fieldAddr 42 t9 2
                    refine' chainP_readG (d := (some 49)) _ rfl (fun w' hS' => ?_) ?_; rotate_left
                    · simp only [lookP, allP, Act.put, List.getElem?_cons_zero, List.getElem?_cons_succ, List.setIfInBounds_toArray, List.set_cons_zero, List.set_cons_succ]
                      refine ⟨by kernel_rfl, ?_⟩
                      (try dsimp only at hS')
                      go_simp
                      (try with_reducible rfl)
                    -- 12: load 24 t49
                    refine' chainP_readG (d := (some 50)) _ rfl (fun w' hS' => ?_) ?_; rotate_left
                    · simp only [lookP, allP, Act.put, List.getElem?_cons_zero, List.getElem?_cons_succ, List.setIfInBounds_toArray, List.set_cons_zero, List.set_cons_succ]
                      refine ⟨by kernel_rfl, ?_⟩
                      (try dsimp only at hS')
                      go_simp
                      (try with_reducible rfl)
                    -- 13: call { callee := builtin Builtin.len, args := #[t50], argTypes := #[24] }
                    refine' chainP_readG (d := (some 51)) _ rfl (fun w' hS' => ?_) ?_; rotate_left
                    · simp only [lookP, allP, Act.put, List.getElem?_cons_zero, List.getElem?_cons_succ, List.setIfInBounds_toArray, List.set_cons_zero, List.set_cons_succ]
                      refine ⟨by kernel_rfl, ?_⟩
                      (try dsimp only at hS')
                      go_simp
                      (try with_reducible rfl)
                    -- 14: binOp Binneq 3 t51 (const (int i64 1)) 3
                    refine' chainP_readG (d := (some 52)) _ rfl (fun w' hS' => ?_) ?_; rotate_left
                    · simp only [lookP, allP, Act.put, List.getElem?_cons_zero, List.getElem?_cons_succ, List.setIfInBounds_toArray, List.set_cons_zero, List.set_cons_succ]
                      refine ⟨by kernel_rfl, ?_⟩
                      (try dsimp only at hS')
                      go_simp
                      (try with_reducible rfl)
                    iterate 2 (refine' chainP_read _ rfl rfl (fun w' hS' => ?_) ?_; rotate_left; · (simp only [lookP, allP, Act.put, List.getElem?_cons_zero, List.getElem?_cons_succ, List.setIfInBounds_toArray, List.set_cons_zero, List.set_cons_succ]; (try dsimp only at hS'); go_simp; (try with_reducible rfl)))
                    -- 17: load 39 t5
                    refine' chainP_readG (d := (some 55)) _ rfl (fun w' hS' => ?_) ?_; rotate_left
                    · simp only [lookP, allP, Act.put, List.getElem?_cons_zero, List.getElem?_cons_succ, List.setIfInBounds_toArray, List.set_cons_zero, List.set_cons_succ]
                      refine ⟨by kernel_rfl, ?_⟩
                      (try dsimp only at hS')
                      go_simp
                      (try with_reducible rfl)
                    -- 18: fieldAddr 42 t9 0
                    refine' chainP_readG (d := (some 56)) _ rfl (fun w' hS' => ?_) ?_; rotate_left
                    · simp only [lookP, allP, Act.put, List.getElem?_cons_zero, List.getElem?_cons_succ, List.setIfInBounds_toArray, List.set_cons_zero, List.set_cons_succ]
                      refine ⟨by kernel_rfl, ?_⟩
                      (try dsimp only at hS')
                      go_simp
                      (try with_reducible rfl)
                    -- 19: load 24 t56
                    refine' chainP_readG (d := (some 57)) _ rfl (fun w' hS' => ?_) ?_; rotate_left
                    · simp only [lookP, allP, Act.put, List.getElem?_cons_zero, List.getElem?_cons_succ, List.setIfInBounds_toArray, List.set_cons_zero, List.set_cons_succ]
                      refine ⟨by kernel_rfl, ?_⟩
                      (try dsimp only at hS')
                      go_simp
                      (try with_reducible rfl)
                    -- 20: indexAddr 24 t57 (const (int i64 0))
                    refine' chainP_readG (d := (some 58)) _ rfl (fun w' hS' => ?_) ?_; rotate_left
                    · simp only [lookP, allP, Act.put, List.getElem?_cons_zero, List.getElem?_cons_succ, List.setIfInBounds_toArray, List.set_cons_zero, List.set_cons_succ]
                      refine ⟨by kernel_rfl, ?_⟩
                      (try dsimp only at hS')
                      go_simp
                      (try with_reducible rfl)
                    -- 21: load 3 t58
                    refine' chainP_readG (d := (some 59)) _ rfl (fun w' hS' => ?_) ?_; rotate_left
                    · simp only [lookP, allP, Act.put, List.getElem?_cons_zero, List.getElem?_cons_succ, List.setIfInBounds_toArray, List.set_cons_zero, List.set_cons_succ]
                      refine ⟨by kernel_rfl, ?_⟩
                      (try dsimp only at hS')
                      go_simp
                      (try with_reducible rfl)
                    -- 22: call { callee := value (func 138), args := #[t55, t59], argTypes := #[39, 3] }
                    refine chainP_callG (d := (some 60)) (.bool true) rfl (fun w' hS' => ?_) ?_
                    · simp only [lookP, allP, Act.put, List.getElem?_cons_zero, List.getElem?_cons_succ, List.setIfInBounds_toArray, List.set_cons_zero, List.set_cons_succ]
                      refine ⟨by kernel_rfl, ?_⟩
                      intro K hK
                      go_simp
                      go_at_call 138
                      refine (impl_has gr (nth d.c 0) _ HG.out).mono ?_
                      rintro e u ⟨rfl, hq⟩
                      rw [Hhc8.out]
                      exact hK.out _ hq
                    -- 23: unOp Unnot 4 t60
                    refine' chainP_readG (d := (some 61)) _ rfl (fun w' hS' => ?_) ?_; rotate_left
                    · simp only [lookP, allP, Act.put, List.getElem?_cons_zero, List.getElem?_cons_succ, List.setIfInBounds_toArray, List.set_cons_zero, List.set_cons_succ]
                      refine ⟨by kernel_rfl, ?_⟩
                      (try dsimp only at hS')
                      go_simp
                      (try with_reducible rfl)
                    iterate 2 (refine' chainP_read _ rfl rfl (fun w' hS' => ?_) ?_; rotate_left; · (simp only [lookP, allP, Act.put, List.getElem?_cons_zero, List.getElem?_cons_succ, List.setIfInBounds_toArray, List.set_cons_zero, List.set_cons_succ]; (try dsimp only at hS'); go_simp; (try with_reducible rfl)))
                    -- 26: load 39 t5
                    refine' chainP_readG (d := (some 64)) _ rfl (fun w' hS' => ?_) ?_; rotate_left
                    · simp only [lookP, allP, Act.put, List.getElem?_cons_zero, List.getElem?_cons_succ, List.setIfInBounds_toArray, List.set_cons_zero, List.set_cons_succ]
                      refine ⟨by kernel_rfl, ?_⟩
                      (try dsimp only at hS')
                      go_simp
                      (try with_reducible rfl)
                    -- 27: fieldAddr 42 t9 2
                    refine' chainP_readG (d := (some 65)) _ rfl (fun w' hS' => ?_) ?_; rotate_left
                    · simp only [lookP, allP, Act.put, List.getElem?_cons_zero, List.getElem?_cons_succ, List.setIfInBounds_toArray, List.set_cons_zero, List.set_cons_succ]
                      refine ⟨by kernel_rfl, ?_⟩
                      (try dsimp only at hS')
                      go_simp
                      (try with_reducible rfl)
                    -- 28: load 24 t65
                    refine' chainP_readG (d := (some 66)) _ rfl (fun w' hS' => ?_) ?_; rotate_left
                    · simp only [lookP, allP, Act.put, List.getElem?_cons_zero, List.getElem?_cons_succ, List.setIfInBounds_toArray, List.set_cons_zero, List.set_cons_succ]
                      refine ⟨by kernel_rfl, ?_⟩
                      (try dsimp only at hS')
                      go_simp
                      (try with_reducible rfl)
                    -- 29: indexAddr 24 t66 (const (int i64 0))
                    refine' chainP_readG (d := (some 67)) _ rfl (fun w' hS' => ?_) ?_; rotate_left
                    · simp only [lookP, allP, Act.put, List.getElem?_cons_zero, List.getElem?_cons_succ, List.setIfInBounds_toArray, List.set_cons_zero, List.set_cons_succ]
                      refine ⟨by kernel_rfl, ?_⟩
                      (try dsimp only at hS')
                      go_simp
                      (try with_reducible rfl)
                    -- 30: load 3 t67
                    refine' chainP_readG (d := (some 68)) _ rfl (fun w' hS' => ?_) ?_; rotate_left
                    · simp only [lookP, allP, Act.put, List.getElem?_cons_zero, List.getElem?_cons_succ, List.setIfInBounds_toArray, List.set_cons_zero, List.set_cons_succ]
                      refine ⟨by kernel_rfl, ?_⟩
                      (try dsimp only at hS')
                      go_simp
                      (try with_reducible rfl)
                    -- 31: call { callee := value (func 149), args := #[t64, t68], argTypes := #[39, 3] }
                    refine chainP_callG (d := (some 69)) (.bool false) rfl (fun w' hS' => ?_) ?_
                    · simp only [lookP, allP, Act.put, List.getElem?_cons_zero, List.getElem?_cons_succ, List.setIfInBounds_toArray, List.set_cons_zero, List.set_cons_succ]
                      refine ⟨by kernel_rfl, ?_⟩
                      intro K hK
                      go_simp
                      go_at_call 149
                      refine (impl_isExp gr (nth d.r 0) _ HG.out).mono ?_
                      rintro e u ⟨rfl, hq⟩
                      rw [Hhc9.out]
                      exact hK.out _ hq
                    -- 32: unOp Unnot 4 t69
                    refine' chainP_readG (d := (some 70)) _ rfl (fun w' hS' => ?_) ?_; rotate_left
                    · simp only [lookP, allP, Act.put, List.getElem?_cons_zero, List.getElem?_cons_succ, List.setIfInBounds_toArray, List.set_cons_zero, List.set_cons_succ]
                      refine ⟨by kernel_rfl, ?_⟩
                      (try dsimp only at hS')
                      go_simp
                      (try with_reducible rfl)
                    -- 33: pick t63 (const (bool true)) t70
                    refine' chainP_read (d := (some 71)) _ rfl rfl (fun w' hS' => ?_) ?_; rotate_left
                    · simp only [lookP, allP, Act.put, List.getElem?_cons_zero, List.getElem?_cons_succ, List.setIfInBounds_toArray, List.set_cons_zero, List.set_cons_succ]
                      (try dsimp only at hS')
                      go_simp
                      (try with_reducible rfl)
                    refine chainP_nil (fun u5 hS' => ?_)
                    simp only [allP, Act.put, List.setIfInBounds_toArray, List.set_cons_zero, List.set_cons_succ]
                    have hq5 := hS'.1
                    clear hS'
                    replace hc := Below.next hc hq5
                    clear hq5 c0_0 c0_1 c0_2 c1_0 c1_1 c2_0 c2_1 c2_2 yxc0 yxh0 yxr0
                    obtain ⟨c0_0, c0_1, c0_2, c1_0, c1_1, c2_0, c2_1, c2_2, yxc0, yxh0, yxr0⟩ := HCC.out _ hc
                    go_wp2_with fail
                    refine NoPanic.normal ?_
                    go_wp2_with fail
                    have HV : Hid ((.tuple #[.bool (vsA gr bh bl cs t0 && vsP gr sSum bh cs t0 d), .bool (vsA gr bh bl cs t0)] : Value) = .tuple #[.bool false, .bool true]) := by unfold Hid; simp [vsA, vsP, vsQ, Hhc1.out, hc2, Hhc3.out, Hhc4.out, hc5, hc6, hc7, Hhc8.out, Hhc9.out, HLC.out, HLxc.out, HLxh.out, HLxr.out, HCX.out, HEX.out]
                    go_ret2
                    exact ⟨congrArg Ending.returned HV.out.symm, HB.out.trans (hc.mono HB.out.size)⟩
                  | true =>
                    have zq1 := HG.out.q1
                    have zq2 := HG.out.q2
                    have zp2 := HG.out.p2
                    have zq3 : gr.q ≤ 2000000000 := by omega
                    have zq0 : 0 < gr.q := by omega
                    have zq4 : gr.q ≤ 4000000000 := by omega
                    have hgg := elT_gen HBA.out.1
                    have sgg : Small gr.g := elB_small HG.out hgg
                    obtain ⟨T0, T1⟩ := expB_bd HTE.out
                    have ewt : IntKind.i64.wrap (-t0) = -t0 := IntWalk.i64_in _ (by omega)
                    have int : I64 (-t0) := ⟨by omega, by omega⟩
                    have st0 : Small t0 := ⟨by omega, by omega⟩
                    obtain ⟨C, hC⟩ : ∃ x, mulL gr cs = x := ⟨_, rfl⟩
                    have HC := Lib.hid hC
                    have sC : Small C := by rw [← hC]; exact mulL_small HG.out cs
                    obtain ⟨E, hE⟩ : ∃ x, smE gr sSum bh C t0 (nth d.c 0) = x := ⟨_, rfl⟩
                    have HE := Lib.hid hE
                    have he := chV_bd HG.out sSum [bh, C, t0, nth d.c 0]
                    obtain ⟨e1, e2⟩ : 0 ≤ E ∧ E < gr.q := hE ▸ he
                    have iE : I64 E := ⟨by omega, by omega⟩
                    have iz0 : I64 (nth d.r 0) := nth_64 Hxr.out 0
                    have ih0 : I64 (nth d.h 0) := nth_64 Hxh.out 0
                    clear hE he e1 e2 hC hgg
                    have HAS : Hid (AllSmall [bh, C, t0, nth d.c 0]) := AllSmall.cons sbh (AllSmall.cons sC (AllSmall.cons st0 (AllSmall.cons sx0 AllSmall.nil)))
                    have HCB : Hid (chB gr sSum [bh, C, t0, nth d.c 0] = true) := chB_yes HG.out (digests_small HAS.out) (by decide) (by simp)
                    have HCI : Hid (chI gr sSum [bh, C, t0, nth d.c 0] = E) := (chI_yes HCB.out).trans HE.out
                    have HEX := HE
                    have HCX := HC
                    have Hhc9 := Lib.hid hc9
                    clear hc9
                    try (go_wp2_with fail)
                    refine wp_region_noPanic ?_
                    refine wp_region_P (fun w' => w'.cell? ⟨w.heap.size, 0, none⟩ = some (.int .i64 gr.p) ∧ w'.cell? ⟨w.heap.size, 1, none⟩ = some (.int .i64 gr.q) ∧ w'.cell? ⟨w.heap.size, 2, none⟩ = some (.int .i64 gr.g) ∧ w'.cell? ⟨w.heap.size + 1, 0, none⟩ = some (.int .i64 bh) ∧ w'.cell? ⟨w.heap.size + 1, 1, none⟩ = some ((.slice bva bvn bvc)) ∧ w'.cell? ⟨w.heap.size + 1 + 1, 0, none⟩ = some ((.slice (some ⟨xcb, xco, none⟩) 1 xcc)) ∧ w'.cell? ⟨w.heap.size + 1 + 1, 1, none⟩ = some ((.slice (some ⟨xhb, xho, none⟩) 1 xhc)) ∧ w'.cell? ⟨w.heap.size + 1 + 1, 2, none⟩ = some ((.slice (some ⟨xrb, xro, none⟩) 1 xrc)) ∧ w'.cell? ⟨xcb, xco, none⟩ = some (.int .i64 (nth d.c 0)) ∧ w'.cell? ⟨xhb, xho, none⟩ = some (.int .i64 (nth d.h 0)) ∧ w'.cell? ⟨xrb, xro, none⟩ = some (.int .i64 (nth d.r 0))) 36 [(0, []), (1, [0]), (2, [0]), (3, [0]), (4, [0]), (5, [0]), (6, [0, 1]), (7, [0, 2]), (8, [0, 3]), (9, [4, 0]), (10, [0]), (11, [0]), (12, [0, 1]), (13, [0, 2]), (14, [0, 3]), (15, [4, 0]), (16, [0]), (17, [0]), (18, [1]), (19, [0, 2]), (20, [0, 3]), (21, [0, 4]), (22, [4, 0, 5]), (23, [0, 6]), (24, [7, 0]), (25, [0]), (26, [0]), (27, [1]), (28, [0, 2]), (29, [0, 3]), (30, [0, 4]), (31, [4, 0, 5]), (32, [0, 6]), (33, [7, 0])] [] (by kernel_rfl) (by kernel_rfl) (by kernel_rfl) rfl (fun _ _ _ _ h => h) (fun w' h => ⟨box_at c0_0 h, box_at c0_1 h, box_at c0_2 h, box_at c1_0 h, box_at c1_1 h, box_at c2_0 h, box_at c2_1 h, box_at c2_2 h, box_at yxc0 h, box_at yxh0 h, box_at yxr0 h⟩) ?_
                    simp only [pickP, pickN, List.getElem?_cons_zero, List.getElem?_cons_succ]
                    iterate 5 (refine' chainP_read _ rfl rfl (fun w' hS' => ?_) ?_; rotate_left; · (simp only [lookP, allP, Act.put, List.getElem?_cons_zero, List.getElem?_cons_succ, List.setIfInBounds_toArray, List.set_cons_zero, List.set_cons_succ]; (try dsimp only at hS'); go_simp; (try with_reducible rfl)))
                    -- 5: fieldAddr 42 t9 1
                    refine' chainP_readG (d := (some 43)) _ rfl (fun w' hS' => ?_) ?_; rotate_left
                    · simp only [lookP, allP, Act.put, List.getElem?_cons_zero, List.getElem?_cons_succ, List.setIfInBounds_toArray, List.set_cons_zero, List.set_cons_succ]
                      refine ⟨by kernel_rfl, ?_⟩
                      (try dsimp only at hS')
                      go_simp
                      (try with_reducible rfl)
                    -- 6: load 24 t43
                    refine' chainP_readG (d := (some 44)) _ rfl (fun w' hS' => ?_) ?_; rotate_left
                    · simp only [lookP, allP, Act.put, List.getElem?_cons_zero, List.getElem?_cons_succ, List.setIfInBounds_toArray, List.set_cons_zero, List.set_cons_succ]
                      refine ⟨by kernel_rfl, ?_⟩
                      (try dsimp only at hS')
                      go_simp
                      (try with_reducible rfl)
                    -- 7: call { callee := builtin Builtin.len, args := #[t44], argTypes := #[24] }
                    refine' chainP_readG (d := (some 45)) _ rfl (fun w' hS' => ?_) ?_; rotate_left
                    · simp only [lookP, allP, Act.put, List.getElem?_cons_zero, List.getElem?_cons_succ, List.setIfInBounds_toArray, List.set_cons_zero, List.set_cons_succ]
                      refine ⟨by kernel_rfl, ?_⟩
                      (try dsimp only at hS')
                      go_simp
                      (try with_reducible rfl)
                    -- 8: binOp Binneq 3 t45 (const (int i64 1)) 3
                    refine' chainP_readG (d := (some 46)) _ rfl (fun w' hS' => ?_) ?_; rotate_left
                    · simp only [lookP, allP, Act.put, List.getElem?_cons_zero, List.getElem?_cons_succ, List.setIfInBounds_toArray, List.set_cons_zero, List.set_cons_succ]
                      refine ⟨by kernel_rfl, ?_⟩
                      (try dsimp only at hS')
                      go_simp
                      (try with_reducible rfl)
                    iterate 2 (refine' chainP_read _ rfl rfl (fun w' hS' => ?_) ?_; rotate_left; · (simp only [lookP, allP, Act.put, List.getElem?_cons_zero, List.getElem?_cons_succ, List.setIfInBounds_toArray, List.set_cons_zero, List.set_cons_succ]; (try dsimp only at hS'); go_simp; (try with_reducible rfl)))
                    -- 11: fieldAddr 42 t9 2
                    refine' chainP_readG (d := (some 49)) _ rfl (fun w' hS' => ?_) ?_; rotate_left
                    · simp only [lookP, allP, Act.put, List.getElem?_cons_zero, List.getElem?_cons_succ, List.setIfInBounds_toArray, List.set_cons_zero, List.set_cons_succ]
                      refine ⟨by kernel_rfl, ?_⟩
                      (try dsimp only at hS')
                      go_simp
                      (try with_reducible rfl)
                    -- 12: load 24 t49
                    refine' chainP_readG (d := (some 50)) _ rfl (fun w' hS' => ?_) ?_; rotate_left
                    · simp only [lookP, allP, Act.put, List.getElem?_cons_zero, List.getElem?_cons_succ, List.setIfInBounds_toArray, List.set_cons_zero, List.set_cons_succ]
                      refine ⟨by kernel_rfl, ?_⟩
                      (try dsimp only at hS')
                      go_simp
                      (try with_reducible rfl)
                    -- 13: call { callee := builtin Builtin.len, args := #[t50], argTypes := #[24] }
                    refine' chainP_readG (d := (some 51)) _ rfl (fun w' hS' => ?_) ?_; rotate_left
                    · simp only [lookP, allP, Act.put, List.getElem?_cons_zero, List.getElem?_cons_succ, List.setIfInBounds_toArray, List.set_cons_zero, List.set_cons_succ]
                      refine ⟨by kernel_rfl, ?_⟩
                      (try dsimp only at hS')
                      go_simp
                      (try with_reducible rfl)
                    -- 14: binOp Binneq 3 t51 (const (int i64 1)) 3
                    refine' chainP_readG (d := (some 52)) _ rfl (fun w' hS' => ?_) ?_; rotate_left
                    · simp only [lookP, allP, Act.put, List.getElem?_cons_zero, List.getElem?_cons_succ, List.setIfInBounds_toArray, List.set_cons_zero, List.set_cons_succ]
                      refine ⟨by kernel_rfl, ?_⟩
                      (try dsimp only at hS')
                      go_simp
                      (try with_reducible rfl)
                    iterate 2 (refine' chainP_read _ rfl rfl (fun w' hS' => ?_) ?_; rotate_left; · (simp only [lookP, allP, Act.put, List.getElem?_cons_zero, List.getElem?_cons_succ, List.setIfInBounds_toArray, List.set_cons_zero, List.set_cons_succ]; (try dsimp only at hS'); go_simp; (try with_reducible rfl)))
                    -- 17: load 39 t5
                    refine' chainP_readG (d := (some 55)) _ rfl (fun w' hS' => ?_) ?_; rotate_left
                    · simp only [lookP, allP, Act.put, List.getElem?_cons_zero, List.getElem?_cons_succ, List.setIfInBounds_toArray, List.set_cons_zero, List.set_cons_succ]
                      refine ⟨by kernel_rfl, ?_⟩
                      (try dsimp only at hS')
                      go_simp
                      (try with_reducible rfl)
                    -- 18: fieldAddr 42 t9 0
                    refine' chainP_readG (d := (some 56)) _ rfl (fun w' hS' => ?_) ?_; rotate_left
                    · simp only [lookP, allP, Act.put, List.getElem?_cons_zero, List.getElem?_cons_succ, List.setIfInBounds_toArray, List.set_cons_zero, List.set_cons_succ]
                      refine ⟨by kernel_rfl, ?_⟩
                      (try dsimp only at hS')
                      go_simp
                      (try with_reducible rfl)
                    -- 19: load 24 t56
                    refine' chainP_readG (d := (some 57)) _ rfl (fun w' hS' => ?_) ?_; rotate_left
                    · simp only [lookP, allP, Act.put, List.getElem?_cons_zero, List.getElem?_cons_succ, List.setIfInBounds_toArray, List.set_cons_zero, List.set_cons_succ]
                      refine ⟨by kernel_rfl, ?_⟩
                      (try dsimp only at hS')
                      go_simp
                      (try with_reducible rfl)
                    -- 20: indexAddr 24 t57 (const (int i64 0))
                    refine' chainP_readG (d := (some 58)) _ rfl (fun w' hS' => ?_) ?_; rotate_left
                    · simp only [lookP, allP, Act.put, List.getElem?_cons_zero, List.getElem?_cons_succ, List.setIfInBounds_toArray, List.set_cons_zero, List.set_cons_succ]
                      refine ⟨by kernel_rfl, ?_⟩
                      (try dsimp only at hS')
                      go_simp
                      (try with_reducible rfl)
                    -- 21: load 3 t58
                    refine' chainP_readG (d := (some 59)) _ rfl (fun w' hS' => ?_) ?_; rotate_left
                    · simp only [lookP, allP, Act.put, List.getElem?_cons_zero, List.getElem?_cons_succ, List.setIfInBounds_toArray, List.set_cons_zero, List.set_cons_succ]
                      refine ⟨by kernel_rfl, ?_⟩
                      (try dsimp only at hS')
                      go_simp
                      (try with_reducible rfl)
                    -- 22: call { callee := value (func 138), args := #[t55, t59], argTypes := #[39, 3] }
                    refine chainP_callG (d := (some 60)) (.bool true) rfl (fun w' hS' => ?_) ?_
                    · simp only [lookP, allP, Act.put, List.getElem?_cons_zero, List.getElem?_cons_succ, List.setIfInBounds_toArray, List.set_cons_zero, List.set_cons_succ]
                      refine ⟨by kernel_rfl, ?_⟩
                      intro K hK
                      go_simp
                      go_at_call 138
                      refine (impl_has gr (nth d.c 0) _ HG.out).mono ?_
                      rintro e u ⟨rfl, hq⟩
                      rw [Hhc8.out]
                      exact hK.out _ hq
                    -- 23: unOp Unnot 4 t60
                    refine' chainP_readG (d := (some 61)) _ rfl (fun w' hS' => ?_) ?_; rotate_left
                    · simp only [lookP, allP, Act.put, List.getElem?_cons_zero, List.getElem?_cons_succ, List.setIfInBounds_toArray, List.set_cons_zero, List.set_cons_succ]
                      refine ⟨by kernel_rfl, ?_⟩
                      (try dsimp only at hS')
                      go_simp
                      (try with_reducible rfl)
                    iterate 2 (refine' chainP_read _ rfl rfl (fun w' hS' => ?_) ?_; rotate_left; · (simp only [lookP, allP, Act.put, List.getElem?_cons_zero, List.getElem?_cons_succ, List.setIfInBounds_toArray, List.set_cons_zero, List.set_cons_succ]; (try dsimp only at hS'); go_simp; (try with_reducible rfl)))
                    -- 26: load 39 t5
                    refine' chainP_readG (d := (some 64)) _ rfl (fun w' hS' => ?_) ?_; rotate_left
                    · simp only [lookP, allP, Act.put, List.getElem?_cons_zero, List.getElem?_cons_succ, List.setIfInBounds_toArray, List.set_cons_zero, List.set_cons_succ]
                      refine ⟨by kernel_rfl, ?_⟩
                      (try dsimp only at hS')
                      go_simp
                      (try with_reducible rfl)
                    -- 27: fieldAddr 42 t9 2
                    refine' chainP_readG (d := (some 65)) _ rfl (fun w' hS' => ?_) ?_; rotate_left
                    · simp only [lookP, allP, Act.put, List.getElem?_cons_zero, List.getElem?_cons_succ, List.setIfInBounds_toArray, List.set_cons_zero, List.set_cons_succ]
                      refine ⟨by kernel_rfl, ?_⟩
                      (try dsimp only at hS')
                      go_simp
                      (try with_reducible rfl)
                    -- 28: load 24 t65
                    refine' chainP_readG (d := (some 66)) _ rfl (fun w' hS' => ?_) ?_; rotate_left
                    · simp only [lookP, allP, Act.put, List.getElem?_cons_zero, List.getElem?_cons_succ, List.setIfInBounds_toArray, List.set_cons_zero, List.set_cons_succ]
                      refine ⟨by kernel_rfl, ?_⟩
                      (try dsimp only at hS')
                      go_simp
                      (try with_reducible rfl)
                    -- 29: indexAddr 24 t66 (const (int i64 0))
                    refine' chainP_readG (d := (some 67)) _ rfl (fun w' hS' => ?_) ?_; rotate_left
                    · simp only [lookP, allP, Act.put, List.getElem?_cons_zero, List.getElem?_cons_succ, List.setIfInBounds_toArray, List.set_cons_zero, List.set_cons_succ]
                      refine ⟨by kernel_rfl, ?_⟩
                      (try dsimp only at hS')
                      go_simp
                      (try with_reducible rfl)
                    -- 30: load 3 t67
                    refine' chainP_readG (d := (some 68)) _ rfl (fun w' hS' => ?_) ?_; rotate_left
                    · simp only [lookP, allP, Act.put, List.getElem?_cons_zero, List.getElem?_cons_succ, List.setIfInBounds_toArray, List.set_cons_zero, List.set_cons_succ]
                      refine ⟨by kernel_rfl, ?_⟩
                      (try dsimp only at hS')
                      go_simp
                      (try with_reducible rfl)
                    -- 31: call { callee := value (func 149), args := #[t64, t68], argTypes := #[39, 3] }
                    refine chainP_callG (d := (some 69)) (.bool true) rfl (fun w' hS' => ?_) ?_
                    · simp only [lookP, allP, Act.put, List.getElem?_cons_zero, List.getElem?_cons_succ, List.setIfInBounds_toArray, List.set_cons_zero, List.set_cons_succ]
                      refine ⟨by kernel_rfl, ?_⟩
                      intro K hK
                      go_simp
                      go_at_call 149
                      refine (impl_isExp gr (nth d.r 0) _ HG.out).mono ?_
                      rintro e u ⟨rfl, hq⟩
                      rw [Hhc9.out]
                      exact hK.out _ hq
                    -- 32: unOp Unnot 4 t69
                    refine' chainP_readG (d := (some 70)) _ rfl (fun w' hS' => ?_) ?_; rotate_left
                    · simp only [lookP, allP, Act.put, List.getElem?_cons_zero, List.getElem?_cons_succ, List.setIfInBounds_toArray, List.set_cons_zero, List.set_cons_succ]
                      refine ⟨by kernel_rfl, ?_⟩
                      (try dsimp only at hS')
                      go_simp
                      (try with_reducible rfl)
                    -- 33: pick t63 (const (bool true)) t70
                    refine' chainP_read (d := (some 71)) _ rfl rfl (fun w' hS' => ?_) ?_; rotate_left
                    · simp only [lookP, allP, Act.put, List.getElem?_cons_zero, List.getElem?_cons_succ, List.setIfInBounds_toArray, List.set_cons_zero, List.set_cons_succ]
                      (try dsimp only at hS')
                      go_simp
                      (try with_reducible rfl)
                    refine chainP_nil (fun u5 hS' => ?_)
                    simp only [allP, Act.put, List.setIfInBounds_toArray, List.set_cons_zero, List.set_cons_succ]
                    have hq5 := hS'.1
                    clear hS'
                    replace hc := Below.next hc hq5
                    clear hq5 c0_0 c0_1 c0_2 c1_0 c1_1 c2_0 c2_1 c2_2 yxc0 yxh0 yxr0
                    obtain ⟨c0_0, c0_1, c0_2, c1_0, c1_1, c2_0, c2_1, c2_2, yxc0, yxh0, yxr0⟩ := HCC.out _ hc
                    go_wp2_with fail
                    refine NoPanic.normal ?_
                    try (go_wp2_with fail)
                    refine wp_region_noPanic ?_
                    refine wp_region_P (fun w' => w'.cell? ⟨w.heap.size, 0, none⟩ = some (.int .i64 gr.p) ∧ w'.cell? ⟨w.heap.size, 1, none⟩ = some (.int .i64 gr.q) ∧ w'.cell? ⟨w.heap.size, 2, none⟩ = some (.int .i64 gr.g) ∧ w'.cell? ⟨w.heap.size + 1, 0, none⟩ = some (.int .i64 bh) ∧ w'.cell? ⟨w.heap.size + 1, 1, none⟩ = some ((.slice bva bvn bvc)) ∧ w'.cell? ⟨w.heap.size + 1 + 1, 0, none⟩ = some ((.slice (some ⟨xcb, xco, none⟩) 1 xcc)) ∧ w'.cell? ⟨w.heap.size + 1 + 1, 1, none⟩ = some ((.slice (some ⟨xhb, xho, none⟩) 1 xhc)) ∧ w'.cell? ⟨w.heap.size + 1 + 1, 2, none⟩ = some ((.slice (some ⟨xrb, xro, none⟩) 1 xrc)) ∧ w'.cell? ⟨xcb, xco, none⟩ = some (.int .i64 (nth d.c 0)) ∧ w'.cell? ⟨xhb, xho, none⟩ = some (.int .i64 (nth d.h 0)) ∧ w'.cell? ⟨xrb, xro, none⟩ = some (.int .i64 (nth d.r 0))) 11 [(0, []), (1, []), (2, [1, 0]), (3, []), (4, [0]), (5, [0]), (6, [0]), (7, [4]), (8, [1])] [] (by kernel_rfl) (by kernel_rfl) (by kernel_rfl) rfl (fun _ _ _ _ h => h) (fun w' h => ⟨box_at c0_0 h, box_at c0_1 h, box_at c0_2 h, box_at c1_0 h, box_at c1_1 h, box_at c2_0 h, box_at c2_1 h, box_at c2_2 h, box_at yxc0 h, box_at yxh0 h, box_at yxr0 h⟩) ?_
                    simp only [pickP, pickN, List.getElem?_cons_zero, List.getElem?_cons_succ]
                    iterate 2 (refine' chainP_read _ rfl rfl (fun w' hS' => ?_) ?_; rotate_left; · (simp only [lookP, allP, Act.put, List.getElem?_cons_zero, List.getElem?_cons_succ, List.setIfInBounds_toArray, List.set_cons_zero, List.set_cons_succ]; (try dsimp only at hS'); go_simp; (try with_reducible rfl)))
                    -- 2: call { callee := value (func 197), args := #[t72, t73], argTypes := #[39, 24] }
                    refine chainP_call (d := (some 74)) (.int .i64 C) rfl rfl (fun w' hS' => ?_) ?_
                    · simp only [lookP, allP, Act.put, List.getElem?_cons_zero, List.getElem?_cons_succ, List.setIfInBounds_toArray, List.set_cons_zero, List.set_cons_succ]
                      intro K hK
                      go_simp
                      go_at_call 197
                      refine (impl_mul gr _ cs _ HG.out ((Hcv.out.below (HB.out.trans (hc.mono HB.out.size))).below hS'.1) HCS.out).mono ?_
                      rintro e u ⟨rfl, hq⟩
                      rw [HC.out]
                      exact hK.out _ hq
                    iterate 6 (refine' chainP_read _ rfl rfl (fun w' hS' => ?_) ?_; rotate_left; · (simp only [lookP, allP, Act.put, List.getElem?_cons_zero, List.getElem?_cons_succ, List.setIfInBounds_toArray, List.set_cons_zero, List.set_cons_succ]; (try dsimp only at hS'); go_simp; (try with_reducible rfl)))
                    refine chainP_nil (fun u6 hS' => ?_)
                    simp only [allP, Act.put, List.setIfInBounds_toArray, List.set_cons_zero, List.set_cons_succ]
                    have hq6 := hS'.1
                    clear hS'
                    replace hc := Below.next hc hq6
                    clear hq6 c0_0 c0_1 c0_2 c1_0 c1_1 c2_0 c2_1 c2_2 yxc0 yxh0 yxr0
                    obtain ⟨c0_0, c0_1, c0_2, c1_0, c1_1, c2_0, c2_1, c2_2, yxc0, yxh0, yxr0⟩ := HCC.out _ hc
                    go_wp2_with fail
                    refine NoPanic.normal ?_
                    go_wp2_with fail
                    refine (impl_challenge gr sSum _ [bh, C, t0, (nth d.c 0)] _ HG.out (OwnI.lit (B := 0) _ (Nat.zero_le _) (l := [bh, C, t0, (nth d.c 0)]) (AllI64.cons ibh (AllI64.cons (small_64 sC) (AllI64.cons it0 (AllI64.cons (small_64 sx0) AllI64.nil)))) rfl (by simp [maxLen]) 4 rfl).ints (by decide) (by simp)).mono ?_
                    rintro e u7 ⟨rfl, hq7⟩
                    rw [HCB.out, HCI.out]
                    replace hq7 := Below.next (keep_al (Below.refl _ _) _) hq7
                    replace hc := Below.next hc hq7
                    clear hq7 c0_0 c0_1 c0_2 c1_0 c1_1 c2_0 c2_1 c2_2 yxc0 yxh0 yxr0
                    obtain ⟨c0_0, c0_1, c0_2, c1_0, c1_1, c2_0, c2_1, c2_2, yxc0, yxh0, yxr0⟩ := HCC.out _ hc
                    cases hc10 : ((nth d.h 0) == E) with
                    | false =>
                      try (go_wp2_with fail)
                      refine wp_region_noPanic ?_
                      refine wp_region_P (fun w' => w'.cell? ⟨w.heap.size, 0, none⟩ = some (.int .i64 gr.p) ∧ w'.cell? ⟨w.heap.size, 1, none⟩ = some (.int .i64 gr.q) ∧ w'.cell? ⟨w.heap.size, 2, none⟩ = some (.int .i64 gr.g) ∧ w'.cell? ⟨w.heap.size + 1, 0, none⟩ = some (.int .i64 bh) ∧ w'.cell? ⟨w.heap.size + 1, 1, none⟩ = some ((.slice bva bvn bvc)) ∧ w'.cell? ⟨w.heap.size + 1 + 1, 0, none⟩ = some ((.slice (some ⟨xcb, xco, none⟩) 1 xcc)) ∧ w'.cell? ⟨w.heap.size + 1 + 1, 1, none⟩ = some ((.slice (some ⟨xhb, xho, none⟩) 1 xhc)) ∧ w'.cell? ⟨w.heap.size + 1 + 1, 2, none⟩ = some ((.slice (some ⟨xrb, xro, none⟩) 1 xrc)) ∧ w'.cell? ⟨xcb, xco, none⟩ = some (.int .i64 (nth d.c 0)) ∧ w'.cell? ⟨xhb, xho, none⟩ = some (.int .i64 (nth d.h 0)) ∧ w'.cell? ⟨xrb, xro, none⟩ = some (.int .i64 (nth d.r 0))) 38 [(0, []), (1, [0]), (2, [0]), (3, [0]), (4, []), (5, [1, 0]), (6, [0]), (7, [0]), (8, [1]), (9, [0, 2]), (10, [3]), (11, [0, 4]), (12, [0, 5]), (13, [0, 6]), (14, [6, 4, 0, 7]), (15, [8]), (16, [9]), (17, [10]), (18, [11]), (19, [12]), (20, [13]), (21, [14]), (22, [0, 15]), (23, [16]), (24, [0, 17]), (25, [4, 2, 0, 18]), (26, [6, 0, 19]), (27, [8, 0, 20]), (28, [21]), (29, [11, 1, 0, 22]), (30, [13, 0, 23]), (31, [15, 0, 24]), (32, [17, 0, 25]), (33, [26, 0]), (34, [0]), (35, [])] [] (by kernel_rfl) (by kernel_rfl) (by kernel_rfl) rfl (fun _ _ _ _ h => h) (fun w' h => ⟨box_at c0_0 h, box_at c0_1 h, box_at c0_2 h, box_at c1_0 h, box_at c1_1 h, box_at c2_0 h, box_at c2_1 h, box_at c2_2 h, box_at yxc0 h, box_at yxh0 h, box_at yxr0 h⟩) ?_
                      simp only [pickP, pickN, List.getElem?_cons_zero, List.getElem?_cons_succ]
                      iterate 7 (refine' chainP_read _ rfl rfl (fun w' hS' => ?_) ?_; rotate_left; · (simp only [lookP, allP, Act.put, List.getElem?_cons_zero, List.getElem?_cons_succ, List.setIfInBounds_toArray, List.set_cons_zero, List.set_cons_succ]; (try dsimp only at hS'); go_simp; (try with_reducible rfl)))
                      -- 7: load 39 t5
                      refine chainP_skip (d := (some 97)) rfl (fun w' hS' => ?_) ?_
                      · simp only [lookP, allP, Act.put, List.getElem?_cons_zero, List.getElem?_cons_succ, List.setIfInBounds_toArray, List.set_cons_zero, List.set_cons_succ]
                        kernel_rfl
                      -- 8: fieldAddr 79 t6 0
                      refine chainP_skip (d := (some 98)) rfl (fun w' hS' => ?_) ?_
                      · simp only [lookP, allP, Act.put, List.getElem?_cons_zero, List.getElem?_cons_succ, List.setIfInBounds_toArray, List.set_cons_zero, List.set_cons_succ]
                        kernel_rfl
                      -- 9: load 3 t98
                      refine chainP_skip (d := (some 99)) rfl (fun w' hS' => ?_) ?_
                      · simp only [lookP, allP, Act.put, List.getElem?_cons_zero, List.getElem?_cons_succ, List.setIfInBounds_toArray, List.set_cons_zero, List.set_cons_succ]
                        kernel_rfl
                      -- 10: fieldAddr 42 t9 2
                      refine chainP_skip (d := (some 100)) rfl (fun w' hS' => ?_) ?_
                      · simp only [lookP, allP, Act.put, List.getElem?_cons_zero, List.getElem?_cons_succ, List.setIfInBounds_toArray, List.set_cons_zero, List.set_cons_succ]
                        kernel_rfl
                      -- 11: load 24 t100
                      refine chainP_skip (d := (some 101)) rfl (fun w' hS' => ?_) ?_
                      · simp only [lookP, allP, Act.put, List.getElem?_cons_zero, List.getElem?_cons_succ, List.setIfInBounds_toArray, List.set_cons_zero, List.set_cons_succ]
                        kernel_rfl
                      -- 12: indexAddr 24 t101 (const (int i64 0))
                      refine chainP_skip (d := (some 102)) rfl (fun w' hS' => ?_) ?_
                      · simp only [lookP, allP, Act.put, List.getElem?_cons_zero, List.getElem?_cons_succ, List.setIfInBounds_toArray, List.set_cons_zero, List.set_cons_succ]
                        kernel_rfl
                      -- 13: load 3 t102
                      refine chainP_skip (d := (some 103)) rfl (fun w' hS' => ?_) ?_
                      · simp only [lookP, allP, Act.put, List.getElem?_cons_zero, List.getElem?_cons_succ, List.setIfInBounds_toArray, List.set_cons_zero, List.set_cons_succ]
                        kernel_rfl
                      -- 14: call { callee := value (func 165), args := #[t97, t99, t103], argTypes := #[39, 3, 3] }
                      refine chainP_skip (d := (some 104)) rfl (fun w' hS' => ?_) ?_
                      · simp only [lookP, allP, Act.put, List.getElem?_cons_zero, List.getElem?_cons_succ, List.setIfInBounds_toArray, List.set_cons_zero, List.set_cons_succ]
                        kernel_rfl
                      -- 15: load 39 t5
                      refine chainP_skip (d := (some 105)) rfl (fun w' hS' => ?_) ?_
                      · simp only [lookP, allP, Act.put, List.getElem?_cons_zero, List.getElem?_cons_succ, List.setIfInBounds_toArray, List.set_cons_zero, List.set_cons_succ]
                        kernel_rfl
                      -- 16: move t13
                      refine chainP_skip (d := (some 106)) rfl (fun w' hS' => ?_) ?_
                      · simp only [lookP, allP, Act.put, List.getElem?_cons_zero, List.getElem?_cons_succ, List.setIfInBounds_toArray, List.set_cons_zero, List.set_cons_succ]
                        kernel_rfl
                      -- 17: load 39 t5
                      refine chainP_skip (d := (some 107)) rfl (fun w' hS' => ?_) ?_
                      · simp only [lookP, allP, Act.put, List.getElem?_cons_zero, List.getElem?_cons_succ, List.setIfInBounds_toArray, List.set_cons_zero, List.set_cons_succ]
                        kernel_rfl
                      -- 18: load 39 t5
                      refine chainP_skip (d := (some 108)) rfl (fun w' hS' => ?_) ?_
                      · simp only [lookP, allP, Act.put, List.getElem?_cons_zero, List.getElem?_cons_succ, List.setIfInBounds_toArray, List.set_cons_zero, List.set_cons_succ]
                        kernel_rfl
                      -- 19: move t12
                      refine chainP_skip (d := (some 109)) rfl (fun w' hS' => ?_) ?_
                      · simp only [lookP, allP, Act.put, List.getElem?_cons_zero, List.getElem?_cons_succ, List.setIfInBounds_toArray, List.set_cons_zero, List.set_cons_succ]
                        kernel_rfl
                      -- 20: load 39 t5
                      refine chainP_skip (d := (some 110)) rfl (fun w' hS' => ?_) ?_
                      · simp only [lookP, allP, Act.put, List.getElem?_cons_zero, List.getElem?_cons_succ, List.setIfInBounds_toArray, List.set_cons_zero, List.set_cons_succ]
                        kernel_rfl
                      -- 21: fieldAddr 39 t5 2
                      refine chainP_skip (d := (some 111)) rfl (fun w' hS' => ?_) ?_
                      · simp only [lookP, allP, Act.put, List.getElem?_cons_zero, List.getElem?_cons_succ, List.setIfInBounds_toArray, List.set_cons_zero, List.set_cons_succ]
                        kernel_rfl
                      -- 22: load 3 t111
                      refine chainP_skip (d := (some 112)) rfl (fun w' hS' => ?_) ?_
                      · simp only [lookP, allP, Act.put, List.getElem?_cons_zero, List.getElem?_cons_succ, List.setIfInBounds_toArray, List.set_cons_zero, List.set_cons_succ]
                        kernel_rfl
                      -- 23: move t3
                      refine chainP_skip (d := (some 113)) rfl (fun w' hS' => ?_) ?_
                      · simp only [lookP, allP, Act.put, List.getElem?_cons_zero, List.getElem?_cons_succ, List.setIfInBounds_toArray, List.set_cons_zero, List.set_cons_succ]
                        kernel_rfl
                      -- 24: unOp Unneg 3 t113
                      refine chainP_skip (d := (some 114)) rfl (fun w' hS' => ?_) ?_
                      · simp only [lookP, allP, Act.put, List.getElem?_cons_zero, List.getElem?_cons_succ, List.setIfInBounds_toArray, List.set_cons_zero, List.set_cons_succ]
                        kernel_rfl
                      -- 25: call { callee := value (func 165), args := #[t110, t112, t114], argTypes := #[39, 3, 3] }
                      refine chainP_skip (d := (some 115)) rfl (fun w' hS' => ?_) ?_
                      · simp only [lookP, allP, Act.put, List.getElem?_cons_zero, List.getElem?_cons_succ, List.setIfInBounds_toArray, List.set_cons_zero, List.set_cons_succ]
                        kernel_rfl
                      -- 26: buildSlice 24 2 #[(0, t109), (1, t115)]
                      refine chainP_skip (d := (some 116)) rfl (fun w' hS' => ?_) ?_
                      · simp only [lookP, allP, Act.put, List.getElem?_cons_zero, List.getElem?_cons_succ, List.setIfInBounds_toArray, List.set_cons_zero, List.set_cons_succ]
                        kernel_rfl
                      -- 27: call { callee := value (func 197), args := #[t108, t116], argTypes := #[39, 24] }
                      refine chainP_skip (d := (some 117)) rfl (fun w' hS' => ?_) ?_
                      · simp only [lookP, allP, Act.put, List.getElem?_cons_zero, List.getElem?_cons_succ, List.setIfInBounds_toArray, List.set_cons_zero, List.set_cons_succ]
                        kernel_rfl
                      -- 28: move t14
                      refine chainP_skip (d := (some 118)) rfl (fun w' hS' => ?_) ?_
                      · simp only [lookP, allP, Act.put, List.getElem?_cons_zero, List.getElem?_cons_succ, List.setIfInBounds_toArray, List.set_cons_zero, List.set_cons_succ]
                        kernel_rfl
                      -- 29: call { callee := value (func 165), args := #[t107, t117, t118], argTypes := #[39, 3, 3] }
                      refine chainP_skip (d := (some 119)) rfl (fun w' hS' => ?_) ?_
                      · simp only [lookP, allP, Act.put, List.getElem?_cons_zero, List.getElem?_cons_succ, List.setIfInBounds_toArray, List.set_cons_zero, List.set_cons_succ]
                        kernel_rfl
                      -- 30: buildSlice 24 2 #[(0, t106), (1, t119)]
                      refine chainP_skip (d := (some 120)) rfl (fun w' hS' => ?_) ?_
                      · simp only [lookP, allP, Act.put, List.getElem?_cons_zero, List.getElem?_cons_succ, List.setIfInBounds_toArray, List.set_cons_zero, List.set_cons_succ]
                        kernel_rfl
                      -- 31: call { callee := value (func 197), args := #[t105, t120], argTypes := #[39, 24] }
                      refine chainP_skip (d := (some 121)) rfl (fun w' hS' => ?_) ?_
                      · simp only [lookP, allP, Act.put, List.getElem?_cons_zero, List.getElem?_cons_succ, List.setIfInBounds_toArray, List.set_cons_zero, List.set_cons_succ]
                        kernel_rfl
                      -- 32: binOp Bineql 3 t104 t121 3
                      refine chainP_skip (d := (some 122)) rfl (fun w' hS' => ?_) ?_
                      · simp only [lookP, allP, Act.put, List.getElem?_cons_zero, List.getElem?_cons_succ, List.setIfInBounds_toArray, List.set_cons_zero, List.set_cons_succ]
                        kernel_rfl
                      iterate 3 (refine' chainP_read _ rfl rfl (fun w' hS' => ?_) ?_; rotate_left; · (simp only [lookP, allP, Act.put, List.getElem?_cons_zero, List.getElem?_cons_succ, List.setIfInBounds_toArray, List.set_cons_zero, List.set_cons_succ]; (try dsimp only at hS'); go_simp; (try with_reducible rfl)))
                      refine chainP_nil (fun u8 hS' => ?_)
                      simp only [allP, Act.put, List.setIfInBounds_toArray, List.set_cons_zero, List.set_cons_succ]
                      have hq8 := hS'.1
                      clear hS'
                      replace hc := Below.next hc hq8
                      clear hq8 c0_0 c0_1 c0_2 c1_0 c1_1 c2_0 c2_1 c2_2 yxc0 yxh0 yxr0
                      obtain ⟨c0_0, c0_1, c0_2, c1_0, c1_1, c2_0, c2_1, c2_2, yxc0, yxh0, yxr0⟩ := HCC.out _ hc
                      go_wp2_with fail
                      refine NoPanic.normal ?_
                      go_wp2_with fail
                      have HV : Hid ((.tuple #[.bool (vsA gr bh bl cs t0 && vsP gr sSum bh cs t0 d), .bool (vsA gr bh bl cs t0)] : Value) = .tuple #[.bool false, .bool true]) := by unfold Hid; simp [vsA, vsP, vsQ, Hhc1.out, hc2, Hhc3.out, Hhc4.out, hc5, hc6, hc7, Hhc8.out, Hhc9.out, hc10, HLC.out, HLxc.out, HLxh.out, HLxr.out, HCX.out, HEX.out]
                      go_ret2
                      exact ⟨congrArg Ending.returned HV.out.symm, HB.out.trans (hc.mono HB.out.size)⟩
                    | true =>
                      try (go_wp2_with fail)
                      refine wp_region_noPanic ?_
                      refine wp_region_P (fun w' => w'.cell? ⟨w.heap.size, 0, none⟩ = some (.int .i64 gr.p) ∧ w'.cell? ⟨w.heap.size, 1, none⟩ = some (.int .i64 gr.q) ∧ w'.cell? ⟨w.heap.size, 2, none⟩ = some (.int .i64 gr.g) ∧ w'.cell? ⟨w.heap.size + 1, 0, none⟩ = some (.int .i64 bh) ∧ w'.cell? ⟨w.heap.size + 1, 1, none⟩ = some ((.slice bva bvn bvc)) ∧ w'.cell? ⟨w.heap.size + 1 + 1, 0, none⟩ = some ((.slice (some ⟨xcb, xco, none⟩) 1 xcc)) ∧ w'.cell? ⟨w.heap.size + 1 + 1, 1, none⟩ = some ((.slice (some ⟨xhb, xho, none⟩) 1 xhc)) ∧ w'.cell? ⟨w.heap.size + 1 + 1, 2, none⟩ = some ((.slice (some ⟨xrb, xro, none⟩) 1 xrc)) ∧ w'.cell? ⟨xcb, xco, none⟩ = some (.int .i64 (nth d.c 0)) ∧ w'.cell? ⟨xhb, xho, none⟩ = some (.int .i64 (nth d.h 0)) ∧ w'.cell? ⟨xrb, xro, none⟩ = some (.int .i64 (nth d.r 0))) 38 [(0, []), (1, [0]), (2, [0]), (3, [0]), (4, []), (5, [1, 0]), (6, [0]), (7, [0]), (8, [1]), (9, [0, 2]), (10, [3]), (11, [0, 4]), (12, [0, 5]), (13, [0, 6]), (14, [6, 4, 0, 7]), (15, [8]), (16, [9]), (17, [10]), (18, [11]), (19, [12]), (20, [13]), (21, [14]), (22, [0, 15]), (23, [16]), (24, [0, 17]), (25, [4, 2, 0, 18]), (26, [6, 0, 19]), (27, [8, 0, 20]), (28, [21]), (29, [11, 1, 0, 22]), (30, [13, 0, 23]), (31, [15, 0, 24]), (32, [17, 0, 25]), (33, [26, 0]), (34, [0]), (35, [])] [] (by kernel_rfl) (by kernel_rfl) (by kernel_rfl) rfl (fun _ _ _ _ h => h) (fun w' h => ⟨box_at c0_0 h, box_at c0_1 h, box_at c0_2 h, box_at c1_0 h, box_at c1_1 h, box_at c2_0 h, box_at c2_1 h, box_at c2_2 h, box_at yxc0 h, box_at yxh0 h, box_at yxr0 h⟩) ?_
                      simp only [pickP, pickN, List.getElem?_cons_zero, List.getElem?_cons_succ]
                      iterate 7 (refine' chainP_read _ rfl rfl (fun w' hS' => ?_) ?_; rotate_left; · (simp only [lookP, allP, Act.put, List.getElem?_cons_zero, List.getElem?_cons_succ, List.setIfInBounds_toArray, List.set_cons_zero, List.set_cons_succ]; (try dsimp only at hS'); go_simp; (try with_reducible rfl)))
                      -- 7: load 39 t5
                      refine' chainP_readG (d := (some 97)) _ rfl (fun w' hS' => ?_) ?_; rotate_left
                      · simp only [lookP, allP, Act.put, List.getElem?_cons_zero, List.getElem?_cons_succ, List.setIfInBounds_toArray, List.set_cons_zero, List.set_cons_succ]
                        refine ⟨by kernel_rfl, ?_⟩
                        (try dsimp only at hS')
                        go_simp
                        (try with_reducible rfl)
                      -- 8: fieldAddr 79 t6 0
                      refine' chainP_readG (d := (some 98)) _ rfl (fun w' hS' => ?_) ?_; rotate_left
                      · simp only [lookP, allP, Act.put, List.getElem?_cons_zero, List.getElem?_cons_succ, List.setIfInBounds_toArray, List.set_cons_zero, List.set_cons_succ]
                        refine ⟨by kernel_rfl, ?_⟩
                        (try dsimp only at hS')
                        go_simp
                        (try with_reducible rfl)
                      -- 9: load 3 t98
                      refine' chainP_readG (d := (some 99)) _ rfl (fun w' hS' => ?_) ?_; rotate_left
                      · simp only [lookP, allP, Act.put, List.getElem?_cons_zero, List.getElem?_cons_succ, List.setIfInBounds_toArray, List.set_cons_zero, List.set_cons_succ]
                        refine ⟨by kernel_rfl, ?_⟩
                        (try dsimp only at hS')
                        go_simp
                        (try with_reducible rfl)
                      -- 10: fieldAddr 42 t9 2
                      refine' chainP_readG (d := (some 100)) _ rfl (fun w' hS' => ?_) ?_; rotate_left
                      · simp only [lookP, allP, Act.put, List.getElem?_cons_zero, List.getElem?_cons_succ, List.setIfInBounds_toArray, List.set_cons_zero, List.set_cons_succ]
                        refine ⟨by kernel_rfl, ?_⟩
                        (try dsimp only at hS')
                        go_simp
                        (try with_reducible rfl)
                      -- 11: load 24 t100
                      refine' chainP_readG (d := (some 101)) _ rfl (fun w' hS' => ?_) ?_; rotate_left
                      · simp only [lookP, allP, Act.put, List.getElem?_cons_zero, List.getElem?_cons_succ, List.setIfInBounds_toArray, List.set_cons_zero, List.set_cons_succ]
                        refine ⟨by kernel_rfl, ?_⟩
                        (try dsimp only at hS')
                        go_simp
                        (try with_reducible rfl)
                      -- 12: indexAddr 24 t101 (const (int i64 0))
                      refine' chainP_readG (d := (some 102)) _ rfl (fun w' hS' => ?_) ?_; rotate_left
                      · simp only [lookP, allP, Act.put, List.getElem?_cons_zero, List.getElem?_cons_succ, List.setIfInBounds_toArray, List.set_cons_zero, List.set_cons_succ]
                        refine ⟨by kernel_rfl, ?_⟩
                        (try dsimp only at hS')
                        go_simp
                        (try with_reducible rfl)
                      -- 13: load 3 t102
                      refine' chainP_readG (d := (some 103)) _ rfl (fun w' hS' => ?_) ?_; rotate_left
                      · simp only [lookP, allP, Act.put, List.getElem?_cons_zero, List.getElem?_cons_succ, List.setIfInBounds_toArray, List.set_cons_zero, List.set_cons_succ]
                        refine ⟨by kernel_rfl, ?_⟩
                        (try dsimp only at hS')
                        go_simp
                        (try with_reducible rfl)
                      -- 14: call { callee := value (func 165), args := #[t97, t99, t103], argTypes := #[39, 3, 3] }
                      refine chainP_callG (d := (some 104)) (.int .i64 (powE gr bh (nth d.r 0))) rfl (fun w' hS' => ?_) ?_
                      · simp only [lookP, allP, Act.put, List.getElem?_cons_zero, List.getElem?_cons_succ, List.setIfInBounds_toArray, List.set_cons_zero, List.set_cons_succ]
                        refine ⟨by kernel_rfl, ?_⟩
                        intro K hK
                        go_simp
                        go_at_call 165
                        refine (impl_pow gr bh (nth d.r 0) _ HG.out sbh iz0).mono ?_
                        rintro e u ⟨rfl, hq⟩
                        exact hK.out _ hq
                      -- 15: load 39 t5
                      refine' chainP_readG (d := (some 105)) _ rfl (fun w' hS' => ?_) ?_; rotate_left
                      · simp only [lookP, allP, Act.put, List.getElem?_cons_zero, List.getElem?_cons_succ, List.setIfInBounds_toArray, List.set_cons_zero, List.set_cons_succ]
                        refine ⟨by kernel_rfl, ?_⟩
                        (try dsimp only at hS')
                        go_simp
                        (try with_reducible rfl)
                      -- 16: move t13
                      refine' chainP_readG (d := (some 106)) _ rfl (fun w' hS' => ?_) ?_; rotate_left
                      · simp only [lookP, allP, Act.put, List.getElem?_cons_zero, List.getElem?_cons_succ, List.setIfInBounds_toArray, List.set_cons_zero, List.set_cons_succ]
                        refine ⟨by kernel_rfl, ?_⟩
                        (try dsimp only at hS')
                        go_simp
                        (try with_reducible rfl)
                      -- 17: load 39 t5
                      refine' chainP_readG (d := (some 107)) _ rfl (fun w' hS' => ?_) ?_; rotate_left
                      · simp only [lookP, allP, Act.put, List.getElem?_cons_zero, List.getElem?_cons_succ, List.setIfInBounds_toArray, List.set_cons_zero, List.set_cons_succ]
                        refine ⟨by kernel_rfl, ?_⟩
                        (try dsimp only at hS')
                        go_simp
                        (try with_reducible rfl)
                      -- 18: load 39 t5
                      refine' chainP_readG (d := (some 108)) _ rfl (fun w' hS' => ?_) ?_; rotate_left
                      · simp only [lookP, allP, Act.put, List.getElem?_cons_zero, List.getElem?_cons_succ, List.setIfInBounds_toArray, List.set_cons_zero, List.set_cons_succ]
                        refine ⟨by kernel_rfl, ?_⟩
                        (try dsimp only at hS')
                        go_simp
                        (try with_reducible rfl)
                      -- 19: move t12
                      refine' chainP_readG (d := (some 109)) _ rfl (fun w' hS' => ?_) ?_; rotate_left
                      · simp only [lookP, allP, Act.put, List.getElem?_cons_zero, List.getElem?_cons_succ, List.setIfInBounds_toArray, List.set_cons_zero, List.set_cons_succ]
                        refine ⟨by kernel_rfl, ?_⟩
                        (try dsimp only at hS')
                        go_simp
                        (try with_reducible rfl)
                      -- 20: load 39 t5
                      refine' chainP_readG (d := (some 110)) _ rfl (fun w' hS' => ?_) ?_; rotate_left
                      · simp only [lookP, allP, Act.put, List.getElem?_cons_zero, List.getElem?_cons_succ, List.setIfInBounds_toArray, List.set_cons_zero, List.set_cons_succ]
                        refine ⟨by kernel_rfl, ?_⟩
                        (try dsimp only at hS')
                        go_simp
                        (try with_reducible rfl)
                      -- 21: fieldAddr 39 t5 2
                      refine' chainP_readG (d := (some 111)) _ rfl (fun w' hS' => ?_) ?_; rotate_left
                      · simp only [lookP, allP, Act.put, List.getElem?_cons_zero, List.getElem?_cons_succ, List.setIfInBounds_toArray, List.set_cons_zero, List.set_cons_succ]
                        refine ⟨by kernel_rfl, ?_⟩
                        (try dsimp only at hS')
                        go_simp
                        (try with_reducible rfl)
                      -- 22: load 3 t111
                      refine' chainP_readG (d := (some 112)) _ rfl (fun w' hS' => ?_) ?_; rotate_left
                      · simp only [lookP, allP, Act.put, List.getElem?_cons_zero, List.getElem?_cons_succ, List.setIfInBounds_toArray, List.set_cons_zero, List.set_cons_succ]
                        refine ⟨by kernel_rfl, ?_⟩
                        (try dsimp only at hS')
                        go_simp
                        (try with_reducible rfl)
                      -- 23: move t3
                      refine' chainP_readG (d := (some 113)) _ rfl (fun w' hS' => ?_) ?_; rotate_left
                      · simp only [lookP, allP, Act.put, List.getElem?_cons_zero, List.getElem?_cons_succ, List.setIfInBounds_toArray, List.set_cons_zero, List.set_cons_succ]
                        refine ⟨by kernel_rfl, ?_⟩
                        (try dsimp only at hS')
                        go_simp
                        (try with_reducible rfl)
                      -- 24: unOp Unneg 3 t113
                      refine' chainP_readG (d := (some 114)) _ rfl (fun w' hS' => ?_) ?_; rotate_left
                      · simp only [lookP, allP, Act.put, List.getElem?_cons_zero, List.getElem?_cons_succ, List.setIfInBounds_toArray, List.set_cons_zero, List.set_cons_succ]
                        refine ⟨by kernel_rfl, ?_⟩
                        (try dsimp only at hS')
                        go_simp
                        (try with_reducible rfl)
                      -- 25: call { callee := value (func 165), args := #[t110, t112, t114], argTypes := #[39, 3, 3] }
                      refine chainP_callG (d := (some 115)) (.int .i64 (powE gr gr.g (-t0))) rfl (fun w' hS' => ?_) ?_
                      · simp only [lookP, allP, Act.put, List.getElem?_cons_zero, List.getElem?_cons_succ, List.setIfInBounds_toArray, List.set_cons_zero, List.set_cons_succ]
                        refine ⟨by kernel_rfl, ?_⟩
                        intro K hK
                        go_simp
                        go_at_call 165
                        refine (impl_pow gr gr.g (-t0) _ HG.out sgg int).mono ?_
                        rintro e u ⟨rfl, hq⟩
                        exact hK.out _ hq
                      -- 26: buildSlice 24 2 #[(0, t109), (1, t115)]
                      refine chainP_doG (d := (some 116)) (fun v w => Ints w v [C, powE gr gr.g (-t0)]) (fun v w w' hb h => Ints.below h hb) rfl (fun w' hS' => ?_) ?_
                      · simp only [lookP, allP, Act.put, List.getElem?_cons_zero, List.getElem?_cons_succ, List.setIfInBounds_toArray, List.set_cons_zero, List.set_cons_succ]
                        refine ⟨by kernel_rfl, ?_⟩
                        intro K hK
                        go_simp
                        refine hK.out _ _ ((Below.refl _ _).alloc (Nat.le_refl _) _) ?_
                        exact (OwnI.lit (B := w'.heap.size) w' (Nat.le_refl _) (l := [C, powE gr gr.g (-t0)]) (AllI64.cons (small_64 sC) (AllI64.cons (small_64 (powE_small HG.out _ _)) AllI64.nil)) rfl (by simp [maxLen]) 2 rfl).ints
                      -- 27: call { callee := value (func 197), args := #[t108, t116], argTypes := #[39, 24] }
                      refine chainP_callG (d := (some 117)) (.int .i64 (mulL gr [C, powE gr gr.g (-t0)])) rfl (fun w' hS' => ?_) ?_
                      · simp only [lookP, allP, Act.put, List.getElem?_cons_zero, List.getElem?_cons_succ, List.setIfInBounds_toArray, List.set_cons_zero, List.set_cons_succ]
                        intro x26 hx26
                        refine ⟨by kernel_rfl, ?_⟩
                        intro K hK
                        go_simp
                        go_at_call 197
                        refine (impl_mul gr _ [C, powE gr gr.g (-t0)] _ HG.out hx26 (AllSmall.cons sC (AllSmall.cons (powE_small HG.out _ _) AllSmall.nil))).mono ?_
                        rintro e u ⟨rfl, hq⟩
                        exact hK.out _ hq
                      -- 28: move t14
                      refine' chainP_readG (d := (some 118)) _ rfl (fun w' hS' => ?_) ?_; rotate_left
                      · simp only [lookP, allP, Act.put, List.getElem?_cons_zero, List.getElem?_cons_succ, List.setIfInBounds_toArray, List.set_cons_zero, List.set_cons_succ]
                        refine ⟨by kernel_rfl, ?_⟩
                        (try dsimp only at hS')
                        go_simp
                        (try with_reducible rfl)
                      -- 29: call { callee := value (func 165), args := #[t107, t117, t118], argTypes := #[39, 3, 3] }
                      refine chainP_callG (d := (some 119)) (.int .i64 (powE gr (mulL gr [C, powE gr gr.g (-t0)]) E)) rfl (fun w' hS' => ?_) ?_
                      · simp only [lookP, allP, Act.put, List.getElem?_cons_zero, List.getElem?_cons_succ, List.setIfInBounds_toArray, List.set_cons_zero, List.set_cons_succ]
                        refine ⟨by kernel_rfl, ?_⟩
                        intro K hK
                        go_simp
                        go_at_call 165
                        refine (impl_pow gr (mulL gr [C, powE gr gr.g (-t0)]) E _ HG.out (mulL_small HG.out _) iE).mono ?_
                        rintro e u ⟨rfl, hq⟩
                        exact hK.out _ hq
                      -- 30: buildSlice 24 2 #[(0, t106), (1, t119)]
                      refine chainP_doG (d := (some 120)) (fun v w => Ints w v [(nth d.c 0), powE gr (mulL gr [C, powE gr gr.g (-t0)]) E]) (fun v w w' hb h => Ints.below h hb) rfl (fun w' hS' => ?_) ?_
                      · simp only [lookP, allP, Act.put, List.getElem?_cons_zero, List.getElem?_cons_succ, List.setIfInBounds_toArray, List.set_cons_zero, List.set_cons_succ]
                        refine ⟨by kernel_rfl, ?_⟩
                        intro K hK
                        go_simp
                        refine hK.out _ _ ((Below.refl _ _).alloc (Nat.le_refl _) _) ?_
                        exact (OwnI.lit (B := w'.heap.size) w' (Nat.le_refl _) (l := [(nth d.c 0), powE gr (mulL gr [C, powE gr gr.g (-t0)]) E]) (AllI64.cons (small_64 sx0) (AllI64.cons (small_64 (powE_small HG.out _ _)) AllI64.nil)) rfl (by simp [maxLen]) 2 rfl).ints
                      -- 31: call { callee := value (func 197), args := #[t105, t120], argTypes := #[39, 24] }
                      refine chainP_callG (d := (some 121)) (.int .i64 (mulL gr [(nth d.c 0), powE gr (mulL gr [C, powE gr gr.g (-t0)]) E])) rfl (fun w' hS' => ?_) ?_
                      · simp only [lookP, allP, Act.put, List.getElem?_cons_zero, List.getElem?_cons_succ, List.setIfInBounds_toArray, List.set_cons_zero, List.set_cons_succ]
                        intro x30 hx30
                        refine ⟨by kernel_rfl, ?_⟩
                        intro K hK
                        go_simp
                        go_at_call 197
                        refine (impl_mul gr _ [(nth d.c 0), powE gr (mulL gr [C, powE gr gr.g (-t0)]) E] _ HG.out hx30 (AllSmall.cons sx0 (AllSmall.cons (powE_small HG.out _ _) AllSmall.nil))).mono ?_
                        rintro e u ⟨rfl, hq⟩
                        exact hK.out _ hq
                      -- 32: binOp Bineql 3 t104 t121 3
                      refine' chainP_readG (d := (some 122)) _ rfl (fun w' hS' => ?_) ?_; rotate_left
                      · simp only [lookP, allP, Act.put, List.getElem?_cons_zero, List.getElem?_cons_succ, List.setIfInBounds_toArray, List.set_cons_zero, List.set_cons_succ]
                        refine ⟨by kernel_rfl, ?_⟩
                        (try dsimp only at hS')
                        go_simp
                        (try with_reducible rfl)
                      iterate 3 (refine' chainP_read _ rfl rfl (fun w' hS' => ?_) ?_; rotate_left; · (simp only [lookP, allP, Act.put, List.getElem?_cons_zero, List.getElem?_cons_succ, List.setIfInBounds_toArray, List.set_cons_zero, List.set_cons_succ]; (try dsimp only at hS'); go_simp; (try with_reducible rfl)))
                      refine chainP_nil (fun u8 hS' => ?_)
                      simp only [allP, Act.put, List.setIfInBounds_toArray, List.set_cons_zero, List.set_cons_succ]
                      intro x30 hx30
                      intro x26 hx26
                      have hq8 := hS'.1
                      clear hS'
                      replace hc := Below.next hc hq8
                      clear hq8 c0_0 c0_1 c0_2 c1_0 c1_1 c2_0 c2_1 c2_2 yxc0 yxh0 yxr0
                      obtain ⟨c0_0, c0_1, c0_2, c1_0, c1_1, c2_0, c2_1, c2_2, yxc0, yxh0, yxr0⟩ := HCC.out _ hc
                      go_wp2_with fail
                      refine NoPanic.normal ?_
                      cases hc11 : (powE gr bh (nth d.r 0) == mulL gr [(nth d.c 0), powE gr (mulL gr [C, powE gr gr.g (-t0)]) E]) with
                      | false =>
                        go_wp2_with fail
                        have HV : Hid ((.tuple #[.bool (vsA gr bh bl cs t0 && vsP gr sSum bh cs t0 d), .bool (vsA gr bh bl cs t0)] : Value) = .tuple #[.bool false, .bool true]) := by unfold Hid; simp [vsA, vsP, vsQ, Hhc1.out, hc2, Hhc3.out, Hhc4.out, hc5, hc6, hc7, Hhc8.out, Hhc9.out, hc10, hc11, HLC.out, HLxc.out, HLxh.out, HLxr.out, HCX.out, HEX.out]
                        go_ret2
                        exact ⟨congrArg Ending.returned HV.out.symm, HB.out.trans (hc.mono HB.out.size)⟩
                      | true =>
                        go_wp2_with fail
                        have HV : Hid ((.tuple #[.bool (vsA gr bh bl cs t0 && vsP gr sSum bh cs t0 d), .bool (vsA gr bh bl cs t0)] : Value) = .tuple #[.bool true, .bool true]) := by unfold Hid; simp [vsA, vsP, vsQ, Hhc1.out, hc2, Hhc3.out, Hhc4.out, hc5, hc6, hc7, Hhc8.out, Hhc9.out, hc10, hc11, HLC.out, HLxc.out, HLxh.out, HLxr.out, HCX.out, HEX.out]
                        go_ret2
                        exact ⟨congrArg Ending.returned HV.out.symm, HB.out.trans (hc.mono HB.out.size)⟩
              | true =>
                have HLxr : Hid (decide (d.r.length = 1) = false) := by have q := hc7; rw [bne_iff_ne] at q; exact decide_eq_false (by have := Exr.out; omega)
                try (go_wp2_with fail)
                refine wp_region_noPanic ?_
                refine wp_region_P (fun w' => w'.cell? ⟨w.heap.size, 0, none⟩ = some (.int .i64 gr.p) ∧ w'.cell? ⟨w.heap.size, 1, none⟩ = some (.int .i64 gr.q) ∧ w'.cell? ⟨w.heap.size, 2, none⟩ = some (.int .i64 gr.g) ∧ w'.cell? ⟨w.heap.size + 1, 0, none⟩ = some (.int .i64 bh) ∧ w'.cell? ⟨w.heap.size + 1, 1, none⟩ = some ((.slice bva bvn bvc)) ∧ w'.cell? ⟨w.heap.size + 1 + 1, 0, none⟩ = some ((.slice (some ⟨xcb, xco, none⟩) 1 xcc)) ∧ w'.cell? ⟨w.heap.size + 1 + 1, 1, none⟩ = some ((.slice (some ⟨xhb, xho, none⟩) 1 xhc)) ∧ w'.cell? ⟨w.heap.size + 1 + 1, 2, none⟩ = some ((.slice xra xrn xrc)) ∧ w'.cell? ⟨xcb, xco, none⟩ = some (.int .i64 (nth d.c 0)) ∧ w'.cell? ⟨xhb, xho, none⟩ = some (.int .i64 (nth d.h 0))) 36 [(0, []), (1, [0]), (2, [0]), (3, [0]), (4, [0]), (5, [0]), (6, [0, 1]), (7, [0, 2]), (8, [0, 3]), (9, [4, 0]), (10, [0]), (11, [0]), (12, [0, 1]), (13, [0, 2]), (14, [0, 3]), (15, [4, 0]), (16, [0]), (17, [0]), (18, [1]), (19, [0, 2]), (20, [0, 3]), (21, [0, 4]), (22, [4, 0, 5]), (23, [0, 6]), (24, [7, 0]), (25, [0]), (26, [0]), (27, [1]), (28, [0, 2]), (29, [0, 3]), (30, [0, 4]), (31, [4, 0, 5]), (32, [0, 6]), (33, [7, 0])] [] (by kernel_rfl) (by kernel_rfl) (by kernel_rfl) rfl (fun _ _ _ _ h => h) (fun w' h => ⟨box_at c0_0 h, box_at c0_1 h, box_at c0_2 h, box_at c1_0 h, box_at c1_1 h, box_at c2_0 h, box_at c2_1 h, box_at c2_2 h, box_at yxc0 h, box_at yxh0 h⟩) ?_
                simp only [pickP, pickN, List.getElem?_cons_zero, List.getElem?_cons_succ]
                iterate 5 (refine' chainP_read _ rfl rfl (fun w' hS' => ?_) ?_; rotate_left; · (simp only [lookP, allP, Act.put, List.getElem?_cons_zero, List.getElem?_cons_succ, List.setIfInBounds_toArray, List.set_cons_zero, List.set_cons_succ]; (try dsimp only at hS'); go_simp; (try with_reducible rfl)))
                -- 5: fieldAddr 42 t9 1
                refine' chainP_readG (d := (some 43)) _ rfl (fun w' hS' => ?_) ?_; rotate_left
                · simp only [lookP, allP, Act.put, List.getElem?_cons_zero, List.getElem?_cons_succ, List.setIfInBounds_toArray, List.set_cons_zero, List.set_cons_succ]
                  refine ⟨by kernel_rfl, ?_⟩
                  (try dsimp only at hS')
                  go_simp
                  (try with_reducible rfl)
                -- 6: load 24 t43
                refine' chainP_readG (d := (some 44)) _ rfl (fun w' hS' => ?_) ?_; rotate_left
                · simp only [lookP, allP, Act.put, List.getElem?_cons_zero, List.getElem?_cons_succ, List.setIfInBounds_toArray, List.set_cons_zero, List.set_cons_succ]
                  refine ⟨by kernel_rfl, ?_⟩
                  (try dsimp only at hS')
                  go_simp
                  (try with_reducible rfl)
                -- 7: call { callee := builtin Builtin.len, args := #[t44], argTypes := #[24] }
                refine' chainP_readG (d := (some 45)) _ rfl (fun w' hS' => ?_) ?_; rotate_left
                · simp only [lookP, allP, Act.put, List.getElem?_cons_zero, List.getElem?_cons_succ, List.setIfInBounds_toArray, List.set_cons_zero, List.set_cons_succ]
                  refine ⟨by kernel_rfl, ?_⟩
                  (try dsimp only at hS')
                  go_simp
                  (try with_reducible rfl)
                -- 8: binOp Binneq 3 t45 (const (int i64 1)) 3
                refine' chainP_readG (d := (some 46)) _ rfl (fun w' hS' => ?_) ?_; rotate_left
                · simp only [lookP, allP, Act.put, List.getElem?_cons_zero, List.getElem?_cons_succ, List.setIfInBounds_toArray, List.set_cons_zero, List.set_cons_succ]
                  refine ⟨by kernel_rfl, ?_⟩
                  (try dsimp only at hS')
                  go_simp
                  (try with_reducible rfl)
                iterate 2 (refine' chainP_read _ rfl rfl (fun w' hS' => ?_) ?_; rotate_left; · (simp only [lookP, allP, Act.put, List.getElem?_cons_zero, List.getElem?_cons_succ, List.setIfInBounds_toArray, List.set_cons_zero, List.set_cons_succ]; (try dsimp only at hS'); go_simp; (try with_reducible rfl)))
                -- 11: fieldAddr 42 t9 2
                refine' chainP_readG (d := (some 49)) _ rfl (fun w' hS' => ?_) ?_; rotate_left
                · simp only [lookP, allP, Act.put, List.getElem?_cons_zero, List.getElem?_cons_succ, List.setIfInBounds_toArray, List.set_cons_zero, List.set_cons_succ]
                  refine ⟨by kernel_rfl, ?_⟩
                  (try dsimp only at hS')
                  go_simp
                  (try with_reducible rfl)
                -- 12: load 24 t49
                refine' chainP_readG (d := (some 50)) _ rfl (fun w' hS' => ?_) ?_; rotate_left
                · simp only [lookP, allP, Act.put, List.getElem?_cons_zero, List.getElem?_cons_succ, List.setIfInBounds_toArray, List.set_cons_zero, List.set_cons_succ]
                  refine ⟨by kernel_rfl, ?_⟩
                  (try dsimp only at hS')
                  go_simp
                  (try with_reducible rfl)
                -- 13: call { callee := builtin Builtin.len, args := #[t50], argTypes := #[24] }
                refine' chainP_readG (d := (some 51)) _ rfl (fun w' hS' => ?_) ?_; rotate_left
                · simp only [lookP, allP, Act.put, List.getElem?_cons_zero, List.getElem?_cons_succ, List.setIfInBounds_toArray, List.set_cons_zero, List.set_cons_succ]
                  refine ⟨by kernel_rfl, ?_⟩
                  (try dsimp only at hS')
                  go_simp
                  (try with_reducible rfl)
                -- 14: binOp Binneq 3 t51 (const (int i64 1)) 3
                refine' chainP_readG (d := (some 52)) _ rfl (fun w' hS' => ?_) ?_; rotate_left
                · simp only [lookP, allP, Act.put, List.getElem?_cons_zero, List.getElem?_cons_succ, List.setIfInBounds_toArray, List.set_cons_zero, List.set_cons_succ]
                  refine ⟨by kernel_rfl, ?_⟩
                  (try dsimp only at hS')
                  go_simp
                  (try with_reducible rfl)
                iterate 2 (refine' chainP_read _ rfl rfl (fun w' hS' => ?_) ?_; rotate_left; · (simp only [lookP, allP, Act.put, List.getElem?_cons_zero, List.getElem?_cons_succ, List.setIfInBounds_toArray, List.set_cons_zero, List.set_cons_succ]; (try dsimp only at hS'); go_simp; (try with_reducible rfl)))
                -- 17: load 39 t5
                refine chainP_skip (d := (some 55)) rfl (fun w' hS' => ?_) ?_
                · simp only [lookP, allP, Act.put, List.getElem?_cons_zero, List.getElem?_cons_succ, List.setIfInBounds_toArray, List.set_cons_zero, List.set_cons_succ]
                  kernel_rfl
                -- 18: fieldAddr 42 t9 0
                refine chainP_skip (d := (some 56)) rfl (fun w' hS' => ?_) ?_
                · simp only [lookP, allP, Act.put, List.getElem?_cons_zero, List.getElem?_cons_succ, List.setIfInBounds_toArray, List.set_cons_zero, List.set_cons_succ]
                  kernel_rfl
                -- 19: load 24 t56
                refine chainP_skip (d := (some 57)) rfl (fun w' hS' => ?_) ?_
                · simp only [lookP, allP, Act.put, List.getElem?_cons_zero, List.getElem?_cons_succ, List.setIfInBounds_toArray, List.set_cons_zero, List.set_cons_succ]
                  kernel_rfl
                -- 20: indexAddr 24 t57 (const (int i64 0))
                refine chainP_skip (d := (some 58)) rfl (fun w' hS' => ?_) ?_
                · simp only [lookP, allP, Act.put, List.getElem?_cons_zero, List.getElem?_cons_succ, List.setIfInBounds_toArray, List.set_cons_zero, List.set_cons_succ]
                  kernel_rfl
                -- 21: load 3 t58
                refine chainP_skip (d := (some 59)) rfl (fun w' hS' => ?_) ?_
                · simp only [lookP, allP, Act.put, List.getElem?_cons_zero, List.getElem?_cons_succ, List.setIfInBounds_toArray, List.set_cons_zero, List.set_cons_succ]
                  kernel_rfl
                -- 22: call { callee := value (func 138), args := #[t55, t59], argTypes := #[39, 3] }
                refine chainP_skip (d := (some 60)) rfl (fun w' hS' => ?_) ?_
                · simp only [lookP, allP, Act.put, List.getElem?_cons_zero, List.getElem?_cons_succ, List.setIfInBounds_toArray, List.set_cons_zero, List.set_cons_succ]
                  kernel_rfl
                -- 23: unOp Unnot 4 t60
                refine chainP_skip (d := (some 61)) rfl (fun w' hS' => ?_) ?_
                · simp only [lookP, allP, Act.put, List.getElem?_cons_zero, List.getElem?_cons_succ, List.setIfInBounds_toArray, List.set_cons_zero, List.set_cons_succ]
                  kernel_rfl
                iterate 2 (refine' chainP_read _ rfl rfl (fun w' hS' => ?_) ?_; rotate_left; · (simp only [lookP, allP, Act.put, List.getElem?_cons_zero, List.getElem?_cons_succ, List.setIfInBounds_toArray, List.set_cons_zero, List.set_cons_succ]; (try dsimp only at hS'); go_simp; (try with_reducible rfl)))
                -- 26: load 39 t5
                refine chainP_skip (d := (some 64)) rfl (fun w' hS' => ?_) ?_
                · simp only [lookP, allP, Act.put, List.getElem?_cons_zero, List.getElem?_cons_succ, List.setIfInBounds_toArray, List.set_cons_zero, List.set_cons_succ]
                  kernel_rfl
                -- 27: fieldAddr 42 t9 2
                refine chainP_skip (d := (some 65)) rfl (fun w' hS' => ?_) ?_
                · simp only [lookP, allP, Act.put, List.getElem?_cons_zero, List.getElem?_cons_succ, List.setIfInBounds_toArray, List.set_cons_zero, List.set_cons_succ]
                  kernel_rfl
                -- 28: load 24 t65
                refine chainP_skip (d := (some 66)) rfl (fun w' hS' => ?_) ?_
                · simp only [lookP, allP, Act.put, List.getElem?_cons_zero, List.getElem?_cons_succ, List.setIfInBounds_toArray, List.set_cons_zero, List.set_cons_succ]
                  kernel_rfl
                -- 29: indexAddr 24 t66 (const (int i64 0))
                refine chainP_skip (d := (some 67)) rfl (fun w' hS' => ?_) ?_
                · simp only [lookP, allP, Act.put, List.getElem?_cons_zero, List.getElem?_cons_succ, List.setIfInBounds_toArray, List.set_cons_zero, List.set_cons_succ]
                  kernel_rfl
                -- 30: load 3 t67
                refine chainP_skip (d := (some 68)) rfl (fun w' hS' => ?_) ?_
                · simp only [lookP, allP, Act.put, List.getElem?_cons_zero, List.getElem?_cons_succ, List.setIfInBounds_toArray, List.set_cons_zero, List.set_cons_succ]
                  kernel_rfl
                -- 31: call { callee := value (func 149), args := #[t64, t68], argTypes := #[39, 3] }
                refine chainP_skip (d := (some 69)) rfl (fun w' hS' => ?_) ?_
                · simp only [lookP, allP, Act.put, List.getElem?_cons_zero, List.getElem?_cons_succ, List.setIfInBounds_toArray, List.set_cons_zero, List.set_cons_succ]
                  kernel_rfl
                -- 32: unOp Unnot 4 t69
                refine chainP_skip (d := (some 70)) rfl (fun w' hS' => ?_) ?_
                · simp only [lookP, allP, Act.put, List.getElem?_cons_zero, List.getElem?_cons_succ, List.setIfInBounds_toArray, List.set_cons_zero, List.set_cons_succ]
                  kernel_rfl
                -- 33: pick t63 (const (bool true)) t70
                refine' chainP_read (d := (some 71)) _ rfl rfl (fun w' hS' => ?_) ?_; rotate_left
                · simp only [lookP, allP, Act.put, List.getElem?_cons_zero, List.getElem?_cons_succ, List.setIfInBounds_toArray, List.set_cons_zero, List.set_cons_succ]
                  (try dsimp only at hS')
                  go_simp
                  (try with_reducible rfl)
                refine chainP_nil (fun u5 hS' => ?_)
                simp only [allP, Act.put, List.setIfInBounds_toArray, List.set_cons_zero, List.set_cons_succ]
                have hq5 := hS'.1
                clear hS'
                replace hc := Below.next hc hq5
                clear hq5 c0_0 c0_1 c0_2 c1_0 c1_1 c2_0 c2_1 c2_2 yxc0 yxh0
                obtain ⟨c0_0, c0_1, c0_2, c1_0, c1_1, c2_0, c2_1, c2_2, yxc0, yxh0⟩ := HCC.out _ hc
                go_wp2_with fail
                refine NoPanic.normal ?_
                go_wp2_with fail
                have HV : Hid ((.tuple #[.bool (vsA gr bh bl cs t0 && vsP gr sSum bh cs t0 d), .bool (vsA gr bh bl cs t0)] : Value) = .tuple #[.bool false, .bool true]) := by unfold Hid; simp [vsA, vsP, vsQ, Hhc1.out, hc2, Hhc3.out, Hhc4.out, hc5, hc6, hc7, HLC.out, HLxc.out, HLxh.out, HLxr.out]
                go_ret2
                exact ⟨congrArg Ending.returned HV.out.symm, HB.out.trans (hc.mono HB.out.size)⟩
            | true =>
              have HLxh : Hid (decide (d.h.length = 1) = false) := by have q := hc6; rw [bne_iff_ne] at q; exact decide_eq_false (by have := Exh.out; omega)
              try (go_wp2_with fail)
              refine wp_region_noPanic ?_
              refine wp_region_P (fun w' => w'.cell? ⟨w.heap.size, 0, none⟩ = some (.int .i64 gr.p) ∧ w'.cell? ⟨w.heap.size, 1, none⟩ = some (.int .i64 gr.q) ∧ w'.cell? ⟨w.heap.size, 2, none⟩ = some (.int .i64 gr.g) ∧ w'.cell? ⟨w.heap.size + 1, 0, none⟩ = some (.int .i64 bh) ∧ w'.cell? ⟨w.heap.size + 1, 1, none⟩ = some ((.slice bva bvn bvc)) ∧ w'.cell? ⟨w.heap.size + 1 + 1, 0, none⟩ = some ((.slice (some ⟨xcb, xco, none⟩) 1 xcc)) ∧ w'.cell? ⟨w.heap.size + 1 + 1, 1, none⟩ = some ((.slice xha xhn xhc)) ∧ w'.cell? ⟨w.heap.size + 1 + 1, 2, none⟩ = some ((.slice xra xrn xrc)) ∧ w'.cell? ⟨xcb, xco, none⟩ = some (.int .i64 (nth d.c 0))) 36 [(0, []), (1, [0]), (2, [0]), (3, [0]), (4, [0]), (5, [0]), (6, [0, 1]), (7, [0, 2]), (8, [0, 3]), (9, [4, 0]), (10, [0]), (11, [0]), (12, [0, 1]), (13, [0, 2]), (14, [0, 3]), (15, [4, 0]), (16, [0]), (17, [0]), (18, [1]), (19, [0, 2]), (20, [0, 3]), (21, [0, 4]), (22, [4, 0, 5]), (23, [0, 6]), (24, [7, 0]), (25, [0]), (26, [0]), (27, [1]), (28, [0, 2]), (29, [0, 3]), (30, [0, 4]), (31, [4, 0, 5]), (32, [0, 6]), (33, [7, 0])] [] (by kernel_rfl) (by kernel_rfl) (by kernel_rfl) rfl (fun _ _ _ _ h => h) (fun w' h => ⟨box_at c0_0 h, box_at c0_1 h, box_at c0_2 h, box_at c1_0 h, box_at c1_1 h, box_at c2_0 h, box_at c2_1 h, box_at c2_2 h, box_at yxc0 h⟩) ?_
              simp only [pickP, pickN, List.getElem?_cons_zero, List.getElem?_cons_succ]
              iterate 5 (refine' chainP_read _ rfl rfl (fun w' hS' => ?_) ?_; rotate_left; · (simp only [lookP, allP, Act.put, List.getElem?_cons_zero, List.getElem?_cons_succ, List.setIfInBounds_toArray, List.set_cons_zero, List.set_cons_succ]; (try dsimp only at hS'); go_simp; (try with_reducible rfl)))
              -- 5: fieldAddr 42 t9 1
              refine' chainP_readG (d := (some 43)) _ rfl (fun w' hS' => ?_) ?_; rotate_left
              · simp only [lookP, allP, Act.put, List.getElem?_cons_zero, List.getElem?_cons_succ, List.setIfInBounds_toArray, List.set_cons_zero, List.set_cons_succ]
                refine ⟨by kernel_rfl, ?_⟩
                (try dsimp only at hS')
                go_simp
                (try with_reducible rfl)
              -- 6: load 24 t43
              refine' chainP_readG (d := (some 44)) _ rfl (fun w' hS' => ?_) ?_; rotate_left
              · simp only [lookP, allP, Act.put, List.getElem?_cons_zero, List.getElem?_cons_succ, List.setIfInBounds_toArray, List.set_cons_zero, List.set_cons_succ]
                refine ⟨by kernel_rfl, ?_⟩
                (try dsimp only at hS')
                go_simp
                (try with_reducible rfl)
              -- 7: call { callee := builtin Builtin.len, args := #[t44], argTypes := #[24] }
              refine' chainP_readG (d := (some 45)) _ rfl (fun w' hS' => ?_) ?_; rotate_left
              · simp only [lookP, allP, Act.put, List.getElem?_cons_zero, List.getElem?_cons_succ, List.setIfInBounds_toArray, List.set_cons_zero, List.set_cons_succ]
                refine ⟨by kernel_rfl, ?_⟩
                (try dsimp only at hS')
                go_simp
                (try with_reducible rfl)
              -- 8: binOp Binneq 3 t45 (const (int i64 1)) 3
              refine' chainP_readG (d := (some 46)) _ rfl (fun w' hS' => ?_) ?_; rotate_left
              · simp only [lookP, allP, Act.put, List.getElem?_cons_zero, List.getElem?_cons_succ, List.setIfInBounds_toArray, List.set_cons_zero, List.set_cons_succ]
                refine ⟨by kernel_rfl, ?_⟩
                (try dsimp only at hS')
                go_simp
                (try with_reducible rfl)
              iterate 2 (refine' chainP_read _ rfl rfl (fun w' hS' => ?_) ?_; rotate_left; · (simp only [lookP, allP, Act.put, List.getElem?_cons_zero, List.getElem?_cons_succ, List.setIfInBounds_toArray, List.set_cons_zero, List.set_cons_succ]; (try dsimp only at hS'); go_simp; (try with_reducible rfl)))
              -- 11: fieldAddr 42 t9 2
              refine chainP_skip (d := (some 49)) rfl (fun w' hS' => ?_) ?_
              · simp only [lookP, allP, Act.put, List.getElem?_cons_zero, List.getElem?_cons_succ, List.setIfInBounds_toArray, List.set_cons_zero, List.set_cons_succ]
                kernel_rfl
              -- 12: load 24 t49
              refine chainP_skip (d := (some 50)) rfl (fun w' hS' => ?_) ?_
              · simp only [lookP, allP, Act.put, List.getElem?_cons_zero, List.getElem?_cons_succ, List.setIfInBounds_toArray, List.set_cons_zero, List.set_cons_succ]
                kernel_rfl
              -- 13: call { callee := builtin Builtin.len, args := #[t50], argTypes := #[24] }
              refine chainP_skip (d := (some 51)) rfl (fun w' hS' => ?_) ?_
              · simp only [lookP, allP, Act.put, List.getElem?_cons_zero, List.getElem?_cons_succ, List.setIfInBounds_toArray, List.set_cons_zero, List.set_cons_succ]
                kernel_rfl
              -- 14: binOp Binneq 3 t51 (const (int i64 1)) 3
              refine chainP_skip (d := (some 52)) rfl (fun w' hS' => ?_) ?_
              · simp only [lookP, allP, Act.put, List.getElem?_cons_zero, List.getElem?_cons_succ, List.setIfInBounds_toArray, List.set_cons_zero, List.set_cons_succ]
                kernel_rfl
              iterate 2 (refine' chainP_read _ rfl rfl (fun w' hS' => ?_) ?_; rotate_left; · (simp only [lookP, allP, Act.put, List.getElem?_cons_zero, List.getElem?_cons_succ, List.setIfInBounds_toArray, List.set_cons_zero, List.set_cons_succ]; (try dsimp only at hS'); go_simp; (try with_reducible rfl)))
              -- 17: load 39 t5
              refine chainP_skip (d := (some 55)) rfl (fun w' hS' => ?_) ?_
              · simp only [lookP, allP, Act.put, List.getElem?_cons_zero, List.getElem?_cons_succ, List.setIfInBounds_toArray, List.set_cons_zero, List.set_cons_succ]
                kernel_rfl
              -- 18: fieldAddr 42 t9 0
              refine chainP_skip (d := (some 56)) rfl (fun w' hS' => ?_) ?_
              · simp only [lookP, allP, Act.put, List.getElem?_cons_zero, List.getElem?_cons_succ, List.setIfInBounds_toArray, List.set_cons_zero, List.set_cons_succ]
                kernel_rfl
              -- 19: load 24 t56
              refine chainP_skip (d := (some 57)) rfl (fun w' hS' => ?_) ?_
              · simp only [lookP, allP, Act.put, List.getElem?_cons_zero, List.getElem?_cons_succ, List.setIfInBounds_toArray, List.set_cons_zero, List.set_cons_succ]
                kernel_rfl
              -- 20: indexAddr 24 t57 (const (int i64 0))
              refine chainP_skip (d := (some 58)) rfl (fun w' hS' => ?_) ?_
              · simp only [lookP, allP, Act.put, List.getElem?_cons_zero, List.getElem?_cons_succ, List.setIfInBounds_toArray, List.set_cons_zero, List.set_cons_succ]
                kernel_rfl
              -- 21: load 3 t58
              refine chainP_skip (d := (some 59)) rfl (fun w' hS' => ?_) ?_
              · simp only [lookP, allP, Act.put, List.getElem?_cons_zero, List.getElem?_cons_succ, List.setIfInBounds_toArray, List.set_cons_zero, List.set_cons_succ]
                kernel_rfl
              -- 22: call { callee := value (func 138), args := #[t55, t59], argTypes := #[39, 3] }
              refine chainP_skip (d := (some 60)) rfl (fun w' hS' => ?_) ?_
              · simp only [lookP, allP, Act.put, List.getElem?_cons_zero, List.getElem?_cons_succ, List.setIfInBounds_toArray, List.set_cons_zero, List.set_cons_succ]
                kernel_rfl
              -- 23: unOp Unnot 4 t60
              refine chainP_skip (d := (some 61)) rfl (fun w' hS' => ?_) ?_
              · simp only [lookP, allP, Act.put, List.getElem?_cons_zero, List.getElem?_cons_succ, List.setIfInBounds_toArray, List.set_cons_zero, List.set_cons_succ]
                kernel_rfl
              iterate 2 (refine' chainP_read _ rfl rfl (fun w' hS' => ?_) ?_; rotate_left; · (simp only [lookP, allP, Act.put, List.getElem?_cons_zero, List.getElem?_cons_succ, List.setIfInBounds_toArray, List.set_cons_zero, List.set_cons_succ]; (try dsimp only at hS'); go_simp; (try with_reducible rfl)))
              -- 26: load 39 t5
              refine chainP_skip (d := (some 64)) rfl (fun w' hS' => ?_) ?_
              · simp only [lookP, allP, Act.put, List.getElem?_cons_zero, List.getElem?_cons_succ, List.setIfInBounds_toArray, List.set_cons_zero, List.set_cons_succ]
                kernel_rfl
              -- 27: fieldAddr 42 t9 2
              refine chainP_skip (d := (some 65)) rfl (fun w' hS' => ?_) ?_
              · simp only [lookP, allP, Act.put, List.getElem?_cons_zero, List.getElem?_cons_succ, List.setIfInBounds_toArray, List.set_cons_zero, List.set_cons_succ]
                kernel_rfl
              -- 28: load 24 t65
              refine chainP_skip (d := (some 66)) rfl (fun w' hS' => ?_) ?_
              · simp only [lookP, allP, Act.put, List.getElem?_cons_zero, List.getElem?_cons_succ, List.setIfInBounds_toArray, List.set_cons_zero, List.set_cons_succ]
                kernel_rfl
              -- 29: indexAddr 24 t66 (const (int i64 0))
              refine chainP_skip (d := (some 67)) rfl (fun w' hS' => ?_) ?_
              · simp only [lookP, allP, Act.put, List.getElem?_cons_zero, List.getElem?_cons_succ, List.setIfInBounds_toArray, List.set_cons_zero, List.set_cons_succ]
                kernel_rfl
              -- 30: load 3 t67
              refine chainP_skip (d := (some 68)) rfl (fun w' hS' => ?_) ?_
              · simp only [lookP, allP, Act.put, List.getElem?_cons_zero, List.getElem?_cons_succ, List.setIfInBounds_toArray, List.set_cons_zero, List.set_cons_succ]
                kernel_rfl
              -- 31: call { callee := value (func 149), args := #[t64, t68], argTypes := #[39, 3] }
              refine chainP_skip (d := (some 69)) rfl (fun w' hS' => ?_) ?_
              · simp only [lookP, allP, Act.put, List.getElem?_cons_zero, List.getElem?_cons_succ, List.setIfInBounds_toArray, List.set_cons_zero, List.set_cons_succ]
                kernel_rfl
              -- 32: unOp Unnot 4 t69
              refine chainP_skip (d := (some 70)) rfl (fun w' hS' => ?_) ?_
              · simp only [lookP, allP, Act.put, List.getElem?_cons_zero, List.getElem?_cons_succ, List.setIfInBounds_toArray, List.set_cons_zero, List.set_cons_succ]
                kernel_rfl
              -- 33: pick t63 (const (bool true)) t70
              refine' chainP_read (d := (some 71)) _ rfl rfl (fun w' hS' => ?_) ?_; rotate_left
              · simp only [lookP, allP, Act.put, List.getElem?_cons_zero, List.getElem?_cons_succ, List.setIfInBounds_toArray, List.set_cons_zero, List.set_cons_succ]
                (try dsimp only at hS')
                go_simp
                (try with_reducible rfl)
              refine chainP_nil (fun u5 hS' => ?_)
              simp only [allP, Act.put, List.setIfInBounds_toArray, List.set_cons_zero, List.set_cons_succ]
              have hq5 := hS'.1
              clear hS'
              replace hc := Below.next hc hq5
              clear hq5 c0_0 c0_1 c0_2 c1_0 c1_1 c2_0 c2_1 c2_2 yxc0
              obtain ⟨c0_0, c0_1, c0_2, c1_0, c1_1, c2_0, c2_1, c2_2, yxc0⟩ := HCC.out _ hc
              go_wp2_with fail
              refine NoPanic.normal ?_
              go_wp2_with fail
              have HV : Hid ((.tuple #[.bool (vsA gr bh bl cs t0 && vsP gr sSum bh cs t0 d), .bool (vsA gr bh bl cs t0)] : Value) = .tuple #[.bool false, .bool true]) := by unfold Hid; simp [vsA, vsP, vsQ, Hhc1.out, hc2, Hhc3.out, Hhc4.out, hc5, hc6, HLC.out, HLxc.out, HLxh.out]
              go_ret2
              exact ⟨congrArg Ending.returned HV.out.symm, HB.out.trans (hc.mono HB.out.size)⟩
          | true =>
            have HLxc : Hid (decide (d.c.length = 1) = false) := by have q := hc5; rw [bne_iff_ne] at q; exact decide_eq_false (by have := Exc.out; omega)
            try (go_wp2_with fail)
            refine wp_region_noPanic ?_
            refine wp_region_P (fun w' => w'.cell? ⟨w.heap.size, 0, none⟩ = some (.int .i64 gr.p) ∧ w'.cell? ⟨w.heap.size, 1, none⟩ = some (.int .i64 gr.q) ∧ w'.cell? ⟨w.heap.size, 2, none⟩ = some (.int .i64 gr.g) ∧ w'.cell? ⟨w.heap.size + 1, 0, none⟩ = some (.int .i64 bh) ∧ w'.cell? ⟨w.heap.size + 1, 1, none⟩ = some ((.slice bva bvn bvc)) ∧ w'.cell? ⟨w.heap.size + 1 + 1, 0, none⟩ = some ((.slice xca xcn xcc)) ∧ w'.cell? ⟨w.heap.size + 1 + 1, 1, none⟩ = some ((.slice xha xhn xhc)) ∧ w'.cell? ⟨w.heap.size + 1 + 1, 2, none⟩ = some ((.slice xra xrn xrc))) 36 [(0, []), (1, [0]), (2, [0]), (3, [0]), (4, [0]), (5, [0]), (6, [0, 1]), (7, [0, 2]), (8, [0, 3]), (9, [4, 0]), (10, [0]), (11, [0]), (12, [0, 1]), (13, [0, 2]), (14, [0, 3]), (15, [4, 0]), (16, [0]), (17, [0]), (18, [1]), (19, [0, 2]), (20, [0, 3]), (21, [0, 4]), (22, [4, 0, 5]), (23, [0, 6]), (24, [7, 0]), (25, [0]), (26, [0]), (27, [1]), (28, [0, 2]), (29, [0, 3]), (30, [0, 4]), (31, [4, 0, 5]), (32, [0, 6]), (33, [7, 0])] [] (by kernel_rfl) (by kernel_rfl) (by kernel_rfl) rfl (fun _ _ _ _ h => h) (fun w' h => ⟨box_at c0_0 h, box_at c0_1 h, box_at c0_2 h, box_at c1_0 h, box_at c1_1 h, box_at c2_0 h, box_at c2_1 h, box_at c2_2 h⟩) ?_
            simp only [pickP, pickN, List.getElem?_cons_zero, List.getElem?_cons_succ]
            iterate 5 (refine' chainP_read _ rfl rfl (fun w' hS' => ?_) ?_; rotate_left; · (simp only [lookP, allP, Act.put, List.getElem?_cons_zero, List.getElem?_cons_succ, List.setIfInBounds_toArray, List.set_cons_zero, List.set_cons_succ]; (try dsimp only at hS'); go_simp; (try with_reducible rfl)))
            -- 5: fieldAddr 42 t9 1
            refine chainP_skip (d := (some 43)) rfl (fun w' hS' => ?_) ?_
            · simp only [lookP, allP, Act.put, List.getElem?_cons_zero, List.getElem?_cons_succ, List.setIfInBounds_toArray, List.set_cons_zero, List.set_cons_succ]
              kernel_rfl
            -- 6: load 24 t43
            refine chainP_skip (d := (some 44)) rfl (fun w' hS' => ?_) ?_
            · simp only [lookP, allP, Act.put, List.getElem?_cons_zero, List.getElem?_cons_succ, List.setIfInBounds_toArray, List.set_cons_zero, List.set_cons_succ]
              kernel_rfl
            -- 7: call { callee := builtin Builtin.len, args := #[t44], argTypes := #[24] }
            refine chainP_skip (d := (some 45)) rfl (fun w' hS' => ?_) ?_
            · simp only [lookP, allP, Act.put, List.getElem?_cons_zero, List.getElem?_cons_succ, List.setIfInBounds_toArray, List.set_cons_zero, List.set_cons_succ]
              kernel_rfl
            -- 8: binOp Binneq 3 t45 (const (int i64 1)) 3
            refine chainP_skip (d := (some 46)) rfl (fun w' hS' => ?_) ?_
            · simp only [lookP, allP, Act.put, List.getElem?_cons_zero, List.getElem?_cons_succ, List.setIfInBounds_toArray, List.set_cons_zero, List.set_cons_succ]
              kernel_rfl
            iterate 2 (refine' chainP_read _ rfl rfl (fun w' hS' => ?_) ?_; rotate_left; · (simp only [lookP, allP, Act.put, List.getElem?_cons_zero, List.getElem?_cons_succ, List.setIfInBounds_toArray, List.set_cons_zero, List.set_cons_succ]; (try dsimp only at hS'); go_simp; (try with_reducible rfl)))
            -- 11: fieldAddr 42 t9 2
            refine chainP_skip (d := (some 49)) rfl (fun w' hS' => ?_) ?_
            · simp only [lookP, allP, Act.put, List.getElem?_cons_zero, List.getElem?_cons_succ, List.setIfInBounds_toArray, List.set_cons_zero, List.set_cons_succ]
              kernel_rfl
            -- 12: load 24 t49
            refine chainP_skip (d := (some 50)) rfl (fun w' hS' => ?_) ?_
            · simp only [lookP, allP, Act.put, List.getElem?_cons_zero, List.getElem?_cons_succ, List.setIfInBounds_toArray, List.set_cons_zero, List.set_cons_succ]
              kernel_rfl
            -- 13: call { callee := builtin Builtin.len, args := #[t50], argTypes := #[24] }
            refine chainP_skip (d := (some 51)) rfl (fun w' hS' => ?_) ?_
            · simp only [lookP, allP, Act.put, List.getElem?_cons_zero, List.getElem?_cons_succ, List.setIfInBounds_toArray, List.set_cons_zero, List.set_cons_succ]
              kernel_rfl
            -- 14: binOp Binneq 3 t51 (const (int i64 1)) 3
            refine chainP_skip (d := (some 52)) rfl (fun w' hS' => ?_) ?_
            · simp only [lookP, allP, Act.put, List.getElem?_cons_zero, List.getElem?_cons_succ, List.setIfInBounds_toArray, List.set_cons_zero, List.set_cons_succ]
              kernel_rfl
            iterate 2 (refine' chainP_read _ rfl rfl (fun w' hS' => ?_) ?_; rotate_left; · (simp only [lookP, allP, Act.put, List.getElem?_cons_zero, List.getElem?_cons_succ, List.setIfInBounds_toArray, List.set_cons_zero, List.set_cons_succ]; (try dsimp only at hS'); go_simp; (try with_reducible rfl)))
            -- 17: load 39 t5
            refine chainP_skip (d := (some 55)) rfl (fun w' hS' => ?_) ?_
            · simp only [lookP, allP, Act.put, List.getElem?_cons_zero, List.getElem?_cons_succ, List.setIfInBounds_toArray, List.set_cons_zero, List.set_cons_succ]
              kernel_rfl
            -- 18: fieldAddr 42 t9 0
            refine chainP_skip (d := (some 56)) rfl (fun w' hS' => ?_) ?_
            · simp only [lookP, allP, Act.put, List.getElem?_cons_zero, List.getElem?_cons_succ, List.setIfInBounds_toArray, List.set_cons_zero, List.set_cons_succ]
              kernel_rfl
            -- 19: load 24 t56
            refine chainP_skip (d := (some 57)) rfl (fun w' hS' => ?_) ?_
            · simp only [lookP, allP, Act.put, List.getElem?_cons_zero, List.getElem?_cons_succ, List.setIfInBounds_toArray, List.set_cons_zero, List.set_cons_succ]
              kernel_rfl
            -- 20: indexAddr 24 t57 (const (int i64 0))
            refine chainP_skip (d := (some 58)) rfl (fun w' hS' => ?_) ?_
            · simp only [lookP, allP, Act.put, List.getElem?_cons_zero, List.getElem?_cons_succ, List.setIfInBounds_toArray, List.set_cons_zero, List.set_cons_succ]
              kernel_rfl
            -- 21: load 3 t58
            refine chainP_skip (d := (some 59)) rfl (fun w' hS' => ?_) ?_
            · simp only [lookP, allP, Act.put, List.getElem?_cons_zero, List.getElem?_cons_succ, List.setIfInBounds_toArray, List.set_cons_zero, List.set_cons_succ]
              kernel_rfl
            -- 22: call { callee := value (func 138), args := #[t55, t59], argTypes := #[39, 3] }
            refine chainP_skip (d := (some 60)) rfl (fun w' hS' => ?_) ?_
            · simp only [lookP, allP, Act.put, List.getElem?_cons_zero, List.getElem?_cons_succ, List.setIfInBounds_toArray, List.set_cons_zero, List.set_cons_succ]
              kernel_rfl
            -- 23: unOp Unnot 4 t60
            refine chainP_skip (d := (some 61)) rfl (fun w' hS' => ?_) ?_
            · simp only [lookP, allP, Act.put, List.getElem?_cons_zero, List.getElem?_cons_succ, List.setIfInBounds_toArray, List.set_cons_zero, List.set_cons_succ]
              kernel_rfl
            iterate 2 (refine' chainP_read _ rfl rfl (fun w' hS' => ?_) ?_; rotate_left; · (simp only [lookP, allP, Act.put, List.getElem?_cons_zero, List.getElem?_cons_succ, List.setIfInBounds_toArray, List.set_cons_zero, List.set_cons_succ]; (try dsimp only at hS'); go_simp; (try with_reducible rfl)))
            -- 26: load 39 t5
            refine chainP_skip (d := (some 64)) rfl (fun w' hS' => ?_) ?_
            · simp only [lookP, allP, Act.put, List.getElem?_cons_zero, List.getElem?_cons_succ, List.setIfInBounds_toArray, List.set_cons_zero, List.set_cons_succ]
              kernel_rfl
            -- 27: fieldAddr 42 t9 2
            refine chainP_skip (d := (some 65)) rfl (fun w' hS' => ?_) ?_
            · simp only [lookP, allP, Act.put, List.getElem?_cons_zero, List.getElem?_cons_succ, List.setIfInBounds_toArray, List.set_cons_zero, List.set_cons_succ]
              kernel_rfl
            -- 28: load 24 t65
            refine chainP_skip (d := (some 66)) rfl (fun w' hS' => ?_) ?_
            · simp only [lookP, allP, Act.put, List.getElem?_cons_zero, List.getElem?_cons_succ, List.setIfInBounds_toArray, List.set_cons_zero, List.set_cons_succ]
              kernel_rfl
            -- 29: indexAddr 24 t66 (const (int i64 0))
            refine chainP_skip (d := (some 67)) rfl (fun w' hS' => ?_) ?_
            · simp only [lookP, allP, Act.put, List.getElem?_cons_zero, List.getElem?_cons_succ, List.setIfInBounds_toArray, List.set_cons_zero, List.set_cons_succ]
              kernel_rfl
            -- 30: load 3 t67
            refine chainP_skip (d := (some 68)) rfl (fun w' hS' => ?_) ?_
            · simp only [lookP, allP, Act.put, List.getElem?_cons_zero, List.getElem?_cons_succ, List.setIfInBounds_toArray, List.set_cons_zero, List.set_cons_succ]
              kernel_rfl
            -- 31: call { callee := value (func 149), args := #[t64, t68], argTypes := #[39, 3] }
            refine chainP_skip (d := (some 69)) rfl (fun w' hS' => ?_) ?_
            · simp only [lookP, allP, Act.put, List.getElem?_cons_zero, List.getElem?_cons_succ, List.setIfInBounds_toArray, List.set_cons_zero, List.set_cons_succ]
              kernel_rfl
            -- 32: unOp Unnot 4 t69
            refine chainP_skip (d := (some 70)) rfl (fun w' hS' => ?_) ?_
            · simp only [lookP, allP, Act.put, List.getElem?_cons_zero, List.getElem?_cons_succ, List.setIfInBounds_toArray, List.set_cons_zero, List.set_cons_succ]
              kernel_rfl
            -- 33: pick t63 (const (bool true)) t70
            refine' chainP_read (d := (some 71)) _ rfl rfl (fun w' hS' => ?_) ?_; rotate_left
            · simp only [lookP, allP, Act.put, List.getElem?_cons_zero, List.getElem?_cons_succ, List.setIfInBounds_toArray, List.set_cons_zero, List.set_cons_succ]
              (try dsimp only at hS')
              go_simp
              (try with_reducible rfl)
            refine chainP_nil (fun u5 hS' => ?_)
            simp only [allP, Act.put, List.setIfInBounds_toArray, List.set_cons_zero, List.set_cons_succ]
            have hq5 := hS'.1
            clear hS'
            replace hc := Below.next hc hq5
            clear hq5 c0_0 c0_1 c0_2 c1_0 c1_1 c2_0 c2_1 c2_2
            obtain ⟨c0_0, c0_1, c0_2, c1_0, c1_1, c2_0, c2_1, c2_2⟩ := HCC.out _ hc
            go_wp2_with fail
            refine NoPanic.normal ?_
            go_wp2_with fail
            have HV : Hid ((.tuple #[.bool (vsA gr bh bl cs t0 && vsP gr sSum bh cs t0 d), .bool (vsA gr bh bl cs t0)] : Value) = .tuple #[.bool false, .bool true]) := by unfold Hid; simp [vsA, vsP, vsQ, Hhc1.out, hc2, Hhc3.out, Hhc4.out, hc5, HLC.out, HLxc.out]
            go_ret2
            exact ⟨congrArg Ending.returned HV.out.symm, HB.out.trans (hc.mono HB.out.size)⟩
end Go.Proofs.Ytboahnklilmdpaa
