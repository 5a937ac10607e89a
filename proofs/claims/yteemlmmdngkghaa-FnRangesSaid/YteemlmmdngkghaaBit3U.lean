/- Bits: proofs checked: walks (printed by gen_bit3.py). -/
import Derived.Test.YteemlmmdngkghaaBit1U
namespace Go.Proofs.Yteemlmmdngkghaa
open Go.RowKit
set_option linter.unusedSimpArgs false
set_option linter.unusedVariables false

theorem sumM_two {q : Int} {l : List Int} (h : l.length = 2) : sumM q l = (nth l 0 + nth l 1) % q := by
  rw [list_two h]
  show ((0 + nth l 0) % q + nth l 1) % q = _
  rw [Int.zero_add, Int.emod_add_emod]
  rfl
theorem exps_bdB {gr : GroupD} {l : List Int} (h : l.all (expB gr) = true) : ∀ x ∈ l, 0 ≤ x ∧ x < gr.q := fun x hx => by
  have := expB_bd (List.all_eq_true.1 h x hx); omega
set_option maxHeartbeats 1000000 in
theorem impl_sumB (v : Value) (l : List Int) (q : Int) (w : World) (h : Ints w v l) (hq : 0 < q) (hq2 : q ≤ 2000000000) (hl : ∀ x ∈ l, 0 ≤ x ∧ x < q) :
    Calls Try.prog 147 #[v, .int .i64 q] w fun e w' => e = .returned (.int .i64 (sumM q l)) ∧ w = w' := by
  obtain ⟨a, n, c, rfl⟩ := h.shape
  have HE := Lib.hid h.len
  have HH := Lib.hid h
  have HL := Lib.hid hl
  obtain ⟨k1, k2⟩ := h.capMax
  unfold maxLen at k2
  clear h hl
  have hqz : ¬ q = 0 := by omega
  have hqz2 : (q == 0) = false := beq_eq_false_iff_ne.2 hqz
  go_enter Try.func147, Try.ntmps147
  go_wp2_with fail
  go_loopg [5, 10] n (fun gk ov iv wr => ∃ k : Nat, k + gk = n ∧ iv = .int .i64 k ∧ ov = .int .i64 (sumM q (l.take k)) ∧ w = wr)
  case atStart => exact ⟨0, by omega, rfl, rfl, rfl⟩
  case round =>
    obtain ⟨k, hkg, rfl, rfl, rfl⟩ := hrel
    have hb := sumM_bd hq (l.take k)
    by_cases hlt : k < n
    · obtain ⟨b, o, rfl, hc⟩ := HH.out.at_ (by omega)
      have y0 := hc k hlt
      have HS := Lib.hid (sumM_succ (q := q) (l := l) (k := k) (by have := HE.out; omega))
      have hx : 0 ≤ nth l k ∧ nth l k < q := by
        have e : nth l k = l[k]'(by have := HE.out; omega) := by simp [nth, List.getD, show k < l.length by have := HE.out; omega]
        rw [e]; exact HL.out _ (List.getElem_mem _)
      obtain ⟨hx0, hx1⟩ := hx
      obtain ⟨hb0, hb1⟩ := hb
      clear hc
      generalize nth l k = x at y0 HS hx0 hx1
      generalize sumM q (l.take k) = z at HS hb0 hb1 ⊢
      have b0 : (0 : Int) ≤ (k : Int) := by omega
      have bk1 : (k : Int) < (n : Int) := by omega
      have ew1 : IntKind.i64.wrap (z + x) = z + x := IntWalk.i64_in _ (by omega)
      have et : Int.tmod (z + x) q = (z + x) % q := Int.tmod_eq_emod_of_nonneg (by omega)
      have em0 : 0 ≤ (z + x) % q := Int.emod_nonneg _ hqz
      have em1 : (z + x) % q < q := Int.emod_lt_of_pos _ hq
      have ew2 : IntKind.i64.wrap ((z + x) % q) = (z + x) % q := IntWalk.i64_in _ (by omega)
      have hwk : IntKind.i64.wrap ((k : Int) + 1) = (k : Int) + 1 := IntWalk.i64_in _ (by omega)
      clear em0 em1
      go_wp2_with fail
      go_roundg (n - (k + 1))
      case measure => omega
      case rel => exact ⟨k + 1, by omega, by go_num, by rw [HS.out], rfl⟩
    · obtain rfl : n = k := by omega
      have HT : Hid (sumM q (l.take n) = sumM q l) := by unfold Hid; rw [List.take_of_length_le (by have := HE.out; omega)]
      rw [HT.out]
      clear hb
      go_wp2_with fail
      go_ret
      exact ⟨rfl, rfl⟩
set_option maxRecDepth 100000 in
set_option maxHeartbeats 2000000 in
theorem impl_verifyBitF (gr : GroupD) (bh : Int) (bv : Value) (bl : List Int) (c0 : Int) (pv : Value) (d : ProofD) (w : World) (hg : OkG gr) (hb : Ints w bv bl) (hp : PfR w pv d) (sbh : Small bh) (sc0 : Small c0) (hbad : ¬ (d.c.length = 2 ∧ d.h.length = 2 ∧ d.r.length = 2)) :
    Calls Try.prog 224 #[.agg #[.int .i64 gr.p, .int .i64 gr.q, .int .i64 gr.g], .agg #[.int .i64 bh, bv], .int .i64 c0, pv] w fun e w' => e = .returned (.bool false) ∧ Below w.heap.size w w' := by
  have HG := Lib.hid hg
  clear hg
  obtain ⟨bva, bvn, bvc, rfl⟩ := hb.shape
  have Ebv := Lib.hid hb.len
  have Kbv := Lib.hid hb.capMax
  have Hbv := Lib.hid hb
  clear hb
  obtain ⟨xcv, xhv, xrv, rfl, hxc, hxh, hxr⟩ := hp
  obtain ⟨xca, xcn, xcc, rfl⟩ := hxc.shape
  have Exc := Lib.hid hxc.len
  have Kxc := Lib.hid hxc.capMax
  have Hxc := Lib.hid hxc
  clear hxc
  obtain ⟨xha, xhn, xhc, rfl⟩ := hxh.shape
  have Exh := Lib.hid hxh.len
  have Kxh := Lib.hid hxh.capMax
  have Hxh := Lib.hid hxh
  clear hxh
  obtain ⟨xra, xrn, xrc, rfl⟩ := hxr.shape
  have Exr := Lib.hid hxr.len
  have Kxr := Lib.hid hxr.capMax
  have Hxr := Lib.hid hxr
  clear hxr
  cases h_xc : ((xcn : Int) != 2) with
  | true =>
    go_enter Try.func224, Try.ntmps224
    go_wp2_with fail
    go_ret
    exact ⟨rfl, by (repeat (first | exact Below.refl _ _ | assumption | refine Below.drew ?_ | refine Below.alloc ?_ (by first | (simp; done) | (simp; omega)) _ | refine Below.setCell ?_ (by first | (simp; done) | (simp; omega)) _))⟩
  | false =>
    cases h_xh : ((xhn : Int) != 2) with
    | true =>
      go_enter Try.func224, Try.ntmps224
      go_wp2_with fail
      go_ret
      exact ⟨rfl, by (repeat (first | exact Below.refl _ _ | assumption | refine Below.drew ?_ | refine Below.alloc ?_ (by first | (simp; done) | (simp; omega)) _ | refine Below.setCell ?_ (by first | (simp; done) | (simp; omega)) _))⟩
    | false =>
      cases h_xr : ((xrn : Int) != 2) with
      | true =>
        go_enter Try.func224, Try.ntmps224
        go_wp2_with fail
        go_ret
        exact ⟨rfl, by (repeat (first | exact Below.refl _ _ | assumption | refine Below.drew ?_ | refine Below.alloc ?_ (by first | (simp; done) | (simp; omega)) _ | refine Below.setCell ?_ (by first | (simp; done) | (simp; omega)) _))⟩
      | false =>
        rw [bne_eq_false_iff_eq] at h_xc h_xh h_xr
        exact absurd ⟨by have := Exc.out; omega, by have := Exh.out; omega, by have := Exr.out; omega⟩ hbad
set_option maxRecDepth 100000 in
set_option maxHeartbeats 4000000 in
theorem impl_verifyBitT (gr : GroupD) (bh : Int) (bv : Value) (bl : List Int) (c0 : Int) (pv : Value) (d : ProofD) (w : World) (hg : OkG gr) (hb : Ints w bv bl) (hp : PfR w pv d) (sbh : Small bh) (sc0 : Small c0) (hl1 : d.c.length = 2) (hl2 : d.h.length = 2) (hl3 : d.r.length = 2) :
    Calls Try.prog 224 #[.agg #[.int .i64 gr.p, .int .i64 gr.q, .int .i64 gr.g], .agg #[.int .i64 bh, bv], .int .i64 c0, pv] w fun e w' => e = .returned (.bool (btV gr sBit bh c0 d)) ∧ Below w.heap.size w w' := by
  have HG := Lib.hid hg
  clear hg
  obtain ⟨bva, bvn, bvc, rfl⟩ := hb.shape
  have Ebv := Lib.hid hb.len
  have Kbv := Lib.hid hb.capMax
  have Hbv := Lib.hid hb
  clear hb
  obtain ⟨xcv, xhv, xrv, rfl, hxc, hxh, hxr⟩ := hp
  obtain ⟨xca, xcn, xcc, rfl⟩ := hxc.shape
  have Exc := Lib.hid hxc.len
  have Kxc := Lib.hid hxc.capMax
  have Hxc := Lib.hid hxc
  clear hxc
  obtain ⟨xha, xhn, xhc, rfl⟩ := hxh.shape
  have Exh := Lib.hid hxh.len
  have Kxh := Lib.hid hxh.capMax
  have Hxh := Lib.hid hxh
  clear hxh
  obtain ⟨xra, xrn, xrc, rfl⟩ := hxr.shape
  have Exr := Lib.hid hxr.len
  have Kxr := Lib.hid hxr.capMax
  have Hxr := Lib.hid hxr
  clear hxr
  obtain rfl : xcn = 2 := by have := Exc.out; omega
  obtain ⟨xcb, xco, rfl, hx⟩ := Hxc.out.at_ (by omega)
  have Kxc0 : Hid (w.cell? ⟨xcb, xco, none⟩ = some (.int .i64 (nth d.c 0))) := by unfold Hid; have h := hx 0 (by omega); simpa using h
  have Kxc1 : Hid (w.cell? ⟨xcb, xco + 1, none⟩ = some (.int .i64 (nth d.c 1))) := by unfold Hid; have h := hx 1 (by omega); simpa using h
  clear hx
  obtain rfl : xhn = 2 := by have := Exh.out; omega
  obtain ⟨xhb, xho, rfl, hx⟩ := Hxh.out.at_ (by omega)
  have Kxh0 : Hid (w.cell? ⟨xhb, xho, none⟩ = some (.int .i64 (nth d.h 0))) := by unfold Hid; have h := hx 0 (by omega); simpa using h
  have Kxh1 : Hid (w.cell? ⟨xhb, xho + 1, none⟩ = some (.int .i64 (nth d.h 1))) := by unfold Hid; have h := hx 1 (by omega); simpa using h
  clear hx
  obtain rfl : xrn = 2 := by have := Exr.out; omega
  obtain ⟨xrb, xro, rfl, hx⟩ := Hxr.out.at_ (by omega)
  have Kxr0 : Hid (w.cell? ⟨xrb, xro, none⟩ = some (.int .i64 (nth d.r 0))) := by unfold Hid; have h := hx 0 (by omega); simpa using h
  have Kxr1 : Hid (w.cell? ⟨xrb, xro + 1, none⟩ = some (.int .i64 (nth d.r 1))) := by unfold Hid; have h := hx 1 (by omega); simpa using h
  clear hx
  obtain ⟨W, hW⟩ : ∃ W, W = ((w.alloc (.cells #[.int .i64 gr.p, .int .i64 gr.q, .int .i64 gr.g] 25)).alloc (.cells #[.int .i64 bh, (.slice bva bvn bvc)] 28)).alloc (.cells #[(.slice (some ⟨xcb, xco, none⟩) 2 xcc), (.slice (some ⟨xhb, xho, none⟩) 2 xhc), (.slice (some ⟨xrb, xro, none⟩) 2 xrc)] 63) := ⟨_, rfl⟩
  have HB : Hid (Below w.heap.size w W) := by unfold Hid; rw [hW]; (repeat (first | exact Below.refl _ _ | assumption | refine Below.drew ?_ | refine Below.alloc ?_ (by first | (simp; done) | (simp; omega)) _ | refine Below.setCell ?_ (by first | (simp; done) | (simp; omega)) _))
  have c0_0 : W.cell? ⟨w.heap.size, 0, none⟩ = some (.int .i64 gr.p) := by rw [hW]; simp [go_sem]
  have c0_1 : W.cell? ⟨w.heap.size, 1, none⟩ = some (.int .i64 gr.q) := by rw [hW]; simp [go_sem]
  have c0_2 : W.cell? ⟨w.heap.size, 2, none⟩ = some (.int .i64 gr.g) := by rw [hW]; simp [go_sem]
  have c1_0 : W.cell? ⟨w.heap.size + 1, 0, none⟩ = some (.int .i64 bh) := by rw [hW]; simp [go_sem]
  have c1_1 : W.cell? ⟨w.heap.size + 1, 1, none⟩ = some ((.slice bva bvn bvc)) := by rw [hW]; simp [go_sem]
  have c2_0 : W.cell? ⟨w.heap.size + 1 + 1, 0, none⟩ = some ((.slice (some ⟨xcb, xco, none⟩) 2 xcc)) := by rw [hW]; simp [go_sem]
  have c2_1 : W.cell? ⟨w.heap.size + 1 + 1, 1, none⟩ = some ((.slice (some ⟨xhb, xho, none⟩) 2 xhc)) := by rw [hW]; simp [go_sem]
  have c2_2 : W.cell? ⟨w.heap.size + 1 + 1, 2, none⟩ = some ((.slice (some ⟨xrb, xro, none⟩) 2 xrc)) := by rw [hW]; simp [go_sem]
  have HSW : Hid (W.heap.size = w.heap.size + 3) := by unfold Hid; rw [hW]; simp
  go_enter Try.func224, Try.ntmps224
  go_wp2_with fail
  rw [← hW]
  have hse : w.heap.size + 1 + 1 + 1 = W.heap.size := by have := HSW.out; omega
  (try rw [hse])
  clear hse
  clear hW
  have hc : Below W.heap.size W W := Below.refl _ _
  have yxc0 := box_at Kxc0.out HB.out
  have yxc1 := box_at Kxc1.out HB.out
  have yxh0 := box_at Kxh0.out HB.out
  have yxh1 := box_at Kxh1.out HB.out
  have yxr0 := box_at Kxr0.out HB.out
  have yxr1 := box_at Kxr1.out HB.out
  have HCC : Hid (∀ u, Below W.heap.size W u → u.cell? ⟨w.heap.size, 0, none⟩ = some (.int .i64 gr.p) ∧ u.cell? ⟨w.heap.size, 1, none⟩ = some (.int .i64 gr.q) ∧ u.cell? ⟨w.heap.size, 2, none⟩ = some (.int .i64 gr.g) ∧ u.cell? ⟨w.heap.size + 1, 0, none⟩ = some (.int .i64 bh) ∧ u.cell? ⟨w.heap.size + 1, 1, none⟩ = some ((.slice bva bvn bvc)) ∧ u.cell? ⟨w.heap.size + 1 + 1, 0, none⟩ = some ((.slice (some ⟨xcb, xco, none⟩) 2 xcc)) ∧ u.cell? ⟨w.heap.size + 1 + 1, 1, none⟩ = some ((.slice (some ⟨xhb, xho, none⟩) 2 xhc)) ∧ u.cell? ⟨w.heap.size + 1 + 1, 2, none⟩ = some ((.slice (some ⟨xrb, xro, none⟩) 2 xrc)) ∧ u.cell? ⟨xcb, xco, none⟩ = some (.int .i64 (nth d.c 0)) ∧ u.cell? ⟨xcb, xco + 1, none⟩ = some (.int .i64 (nth d.c 1)) ∧ u.cell? ⟨xhb, xho, none⟩ = some (.int .i64 (nth d.h 0)) ∧ u.cell? ⟨xhb, xho + 1, none⟩ = some (.int .i64 (nth d.h 1)) ∧ u.cell? ⟨xrb, xro, none⟩ = some (.int .i64 (nth d.r 0)) ∧ u.cell? ⟨xrb, xro + 1, none⟩ = some (.int .i64 (nth d.r 1))) := fun u h => ⟨box_at c0_0 h, box_at c0_1 h, box_at c0_2 h, box_at c1_0 h, box_at c1_1 h, box_at c2_0 h, box_at c2_1 h, box_at c2_2 h, box_at yxc0 h, box_at yxc1 h, box_at yxh0 h, box_at yxh1 h, box_at yxr0 h, box_at yxr1 h⟩
  go_wp2_with fail
  refine (impl_hasAll gr _ d.c _ HG.out (Hxc.out.below (HB.out.trans (hc.mono HB.out.size)))).mono ?_
  rintro e u1 ⟨rfl, hq1⟩
  replace hc := Below.next hc hq1
  clear hq1 c0_0 c0_1 c0_2 c1_0 c1_1 c2_0 c2_1 c2_2 yxc0 yxc1 yxh0 yxh1 yxr0 yxr1
  obtain ⟨c0_0, c0_1, c0_2, c1_0, c1_1, c2_0, c2_1, c2_2, yxc0, yxc1, yxh0, yxh1, yxr0, yxr1⟩ := HCC.out _ hc
  cases hc1 : d.c.all (elB gr) with
  | false =>
    have Hhc1 := Lib.hid hc1
    clear hc1
    go_wp2_with fail
    have HV : Hid ((.bool (btV gr sBit bh c0 d) : Value) = .bool false) := by unfold Hid; simp [btV, fmB, Hhc1.out, hl1, hl2, hl3]
    go_ret
    exact ⟨congrArg Ending.returned HV.out.symm, HB.out.trans (hc.mono HB.out.size)⟩
  | true =>
    have HECC : Hid (d.c.all (elB gr) = true) := hc1
    have Hhc1 := Lib.hid hc1
    clear hc1
    go_wp2_with fail
    refine (impl_areExps gr _ d.h _ HG.out (Hxh.out.below (HB.out.trans (hc.mono HB.out.size)))).mono ?_
    rintro e u2 ⟨rfl, hq2⟩
    replace hc := Below.next hc hq2
    clear hq2 c0_0 c0_1 c0_2 c1_0 c1_1 c2_0 c2_1 c2_2 yxc0 yxc1 yxh0 yxh1 yxr0 yxr1
    obtain ⟨c0_0, c0_1, c0_2, c1_0, c1_1, c2_0, c2_1, c2_2, yxc0, yxc1, yxh0, yxh1, yxr0, yxr1⟩ := HCC.out _ hc
    cases hc2 : d.h.all (expB gr) with
    | false =>
      have Hhc2 := Lib.hid hc2
      clear hc2
      go_wp2_with fail
      have HV : Hid ((.bool (btV gr sBit bh c0 d) : Value) = .bool false) := by unfold Hid; simp [btV, fmB, Hhc1.out, Hhc2.out, hl1, hl2, hl3]
      go_ret
      exact ⟨congrArg Ending.returned HV.out.symm, HB.out.trans (hc.mono HB.out.size)⟩
    | true =>
      have HEHH : Hid (d.h.all (expB gr) = true) := hc2
      have Hhc2 := Lib.hid hc2
      clear hc2
      go_wp2_with fail
      refine (impl_areExps gr _ d.r _ HG.out (Hxr.out.below (HB.out.trans (hc.mono HB.out.size)))).mono ?_
      rintro e u3 ⟨rfl, hq3⟩
      replace hc := Below.next hc hq3
      clear hq3 c0_0 c0_1 c0_2 c1_0 c1_1 c2_0 c2_1 c2_2 yxc0 yxc1 yxh0 yxh1 yxr0 yxr1
      obtain ⟨c0_0, c0_1, c0_2, c1_0, c1_1, c2_0, c2_1, c2_2, yxc0, yxc1, yxh0, yxh1, yxr0, yxr1⟩ := HCC.out _ hc
      cases hc3 : d.r.all (expB gr) with
      | false =>
        have HBK0 : Hid True := trivial
        have HBK1 : Hid True := trivial
        have HSE : Hid True := trivial
        have Hhc3 := Lib.hid hc3
        clear hc3
        go_wp2_with fail
        have HV : Hid ((.bool (btV gr sBit bh c0 d) : Value) = .bool false) := by unfold Hid; simp [btV, fmB, Hhc1.out, Hhc2.out, Hhc3.out, hl1, hl2, hl3, HBK0.out, HBK1.out, HSE.out]
        go_ret
        exact ⟨congrArg Ending.returned HV.out.symm, HB.out.trans (hc.mono HB.out.size)⟩
      | true =>
        have zq1 := HG.out.q1
        have zq2 := HG.out.q2
        have zp2 := HG.out.p2
        have zq3 : gr.q ≤ 2000000000 := by omega
        have zq0 : 0 < gr.q := by omega
        have zq4 : gr.q ≤ 4000000000 := by omega
        have wz1 : IntKind.i64.wrap 1 = 1 := IntWalk.i64_in _ (by omega)
        have wz2 : IntKind.i64.wrap 2 = 2 := IntWalk.i64_in _ (by omega)
        have HTC := Lib.hid (all_two Exc.out HECC.out)
        have HTH := Lib.hid (all_two Exh.out HEHH.out)
        have HTR := Lib.hid (all_two Exr.out hc3)
        have HSB := Lib.hid (exps_bdB HEHH.out)
        have sx0 : Small (nth d.c 0) := elB_small HG.out HTC.out.1
        have sx1 : Small (nth d.c 1) := elB_small HG.out HTC.out.2
        obtain ⟨a0, a0x⟩ := expB_bd HTR.out.1
        obtain ⟨b0, b0x⟩ := expB_bd HTH.out.1
        have iz0 : I64 (nth d.r 0) := ⟨by omega, by omega⟩
        have ih0 : I64 (nth d.h 0) := ⟨by omega, by omega⟩
        obtain ⟨P0, hP⟩ : ∃ x, powE gr bh (nth d.r 0) = x := ⟨_, rfl⟩
        have HP0 := Lib.hid hP
        have sP0 : Small P0 := hP ▸ powE_small HG.out bh (nth d.r 0)
        obtain ⟨C0, hC⟩ : ∃ x, bcI gr c0 0 = x := ⟨_, rfl⟩
        have HC0 := Lib.hid hC
        have sC0 : Small C0 := hC ▸ bcI_small HG.out sc0 0
        obtain ⟨B0, hB⟩ : ∃ x, powE gr C0 (nth d.h 0) = x := ⟨_, rfl⟩
        have HB0 := Lib.hid hB
        have sB0 : Small B0 := hB ▸ powE_small HG.out C0 (nth d.h 0)
        obtain ⟨M0, hM⟩ : ∃ x, mulL gr [nth d.c 0, B0] = x := ⟨_, rfl⟩
        have HM0 := Lib.hid hM
        have sM0 : Small M0 := hM ▸ mulL_small HG.out [nth d.c 0, B0]
        have HBK0 : Hid (btK gr bh c0 d 0 = (P0 == M0)) := by unfold Hid btK; rw [hP, show bcI gr c0 ((0 : Nat) : Int) = C0 from hC, hB, hM]
        clear hP hC hB hM
        obtain ⟨a1, a1x⟩ := expB_bd HTR.out.2
        obtain ⟨b1, b1x⟩ := expB_bd HTH.out.2
        have iz1 : I64 (nth d.r 1) := ⟨by omega, by omega⟩
        have ih1 : I64 (nth d.h 1) := ⟨by omega, by omega⟩
        obtain ⟨P1, hP⟩ : ∃ x, powE gr bh (nth d.r 1) = x := ⟨_, rfl⟩
        have HP1 := Lib.hid hP
        have sP1 : Small P1 := hP ▸ powE_small HG.out bh (nth d.r 1)
        obtain ⟨C1, hC⟩ : ∃ x, bcI gr c0 1 = x := ⟨_, rfl⟩
        have HC1 := Lib.hid hC
        have sC1 : Small C1 := hC ▸ bcI_small HG.out sc0 1
        obtain ⟨B1, hB⟩ : ∃ x, powE gr C1 (nth d.h 1) = x := ⟨_, rfl⟩
        have HB1 := Lib.hid hB
        have sB1 : Small B1 := hB ▸ powE_small HG.out C1 (nth d.h 1)
        obtain ⟨M1, hM⟩ : ∃ x, mulL gr [nth d.c 1, B1] = x := ⟨_, rfl⟩
        have HM1 := Lib.hid hM
        have sM1 : Small M1 := hM ▸ mulL_small HG.out [nth d.c 1, B1]
        have HBK1 : Hid (btK gr bh c0 d 1 = (P1 == M1)) := by unfold Hid btK; rw [hP, show bcI gr c0 ((1 : Nat) : Int) = C1 from hC, hB, hM]
        clear hP hC hB hM
        have ews : IntKind.i64.wrap (nth d.h 0 + nth d.h 1) = nth d.h 0 + nth d.h 1 := IntWalk.i64_in _ (by omega)
        have HNS : Hid (I64 (nth d.h 0 + nth d.h 1)) := ⟨by omega, by omega⟩
        obtain ⟨SM, hSM⟩ : ∃ x, (nth d.h 0 + nth d.h 1) % gr.q = x := ⟨_, rfl⟩
        have HSM := Lib.hid hSM
        obtain ⟨E, hE⟩ : ∃ x, btE gr sBit bh c0 (nth d.c 0) (nth d.c 1) = x := ⟨_, rfl⟩
        have HE := Lib.hid hE
        have HSE : Hid (((nth d.h 0 + nth d.h 1) % gr.q == btE gr sBit bh c0 (nth d.c 0) (nth d.c 1)) = (SM == E)) := by unfold Hid; rw [hSM, hE]
        have HAS : Hid (AllSmall [bh, c0, nth d.c 0, nth d.c 1]) := AllSmall.cons sbh (AllSmall.cons sc0 (AllSmall.cons sx0 (AllSmall.cons sx1 AllSmall.nil)))
        have HCB : Hid (chB gr sBit [bh, c0, nth d.c 0, nth d.c 1] = true) := chB_yes HG.out (digests_small HAS.out) (by decide) (by simp)
        have HCI : Hid (chI gr sBit [bh, c0, nth d.c 0, nth d.c 1] = E) := (chI_yes HCB.out).trans HE.out
        have iE : I64 E := by have he := chV_bd HG.out sBit [bh, c0, nth d.c 0, nth d.c 1]; obtain ⟨e1, e2⟩ : 0 ≤ E ∧ E < gr.q := hE ▸ he; exact ⟨by omega, by omega⟩
        clear hSM hE
        have Hhc3 := Lib.hid hc3
        clear hc3
        (try (go_wp2_with fail))
        refine wp_loop_rounds 3 ?_
        rw [rounds_succ]
        try (go_wp2_with fail)
        refine wp_region_noPanic ?_
        refine wp_region_P (fun w' => w'.cell? ⟨w.heap.size, 0, none⟩ = some (.int .i64 gr.p) ∧ w'.cell? ⟨w.heap.size, 1, none⟩ = some (.int .i64 gr.q) ∧ w'.cell? ⟨w.heap.size, 2, none⟩ = some (.int .i64 gr.g) ∧ w'.cell? ⟨w.heap.size + 1, 0, none⟩ = some (.int .i64 bh) ∧ w'.cell? ⟨w.heap.size + 1, 1, none⟩ = some ((.slice bva bvn bvc)) ∧ w'.cell? ⟨w.heap.size + 1 + 1, 0, none⟩ = some ((.slice (some ⟨xcb, xco, none⟩) 2 xcc)) ∧ w'.cell? ⟨w.heap.size + 1 + 1, 1, none⟩ = some ((.slice (some ⟨xhb, xho, none⟩) 2 xhc)) ∧ w'.cell? ⟨w.heap.size + 1 + 1, 2, none⟩ = some ((.slice (some ⟨xrb, xro, none⟩) 2 xrc)) ∧ w'.cell? ⟨xcb, xco, none⟩ = some (.int .i64 (nth d.c 0)) ∧ w'.cell? ⟨xcb, xco + 1, none⟩ = some (.int .i64 (nth d.c 1)) ∧ w'.cell? ⟨xhb, xho, none⟩ = some (.int .i64 (nth d.h 0)) ∧ w'.cell? ⟨xhb, xho + 1, none⟩ = some (.int .i64 (nth d.h 1)) ∧ w'.cell? ⟨xrb, xro, none⟩ = some (.int .i64 (nth d.r 0)) ∧ w'.cell? ⟨xrb, xro + 1, none⟩ = some (.int .i64 (nth d.r 1))) 27 [(0, []), (1, []), (2, [0]), (3, []), (4, [0]), (5, []), (6, [1, 0]), (7, [0]), (8, [7, 5, 0]), (9, []), (10, []), (11, []), (12, []), (13, []), (14, []), (15, [2, 1, 0]), (16, []), (17, [0]), (18, []), (19, [1, 0]), (20, [0]), (21, [9, 5, 0]), (22, [11, 0]), (23, [13, 0]), (24, [15, 0])] [] (by kernel_rfl) (by kernel_rfl) (by kernel_rfl) rfl (fun _ _ _ _ h => h) (fun w' h => ⟨box_at c0_0 h, box_at c0_1 h, box_at c0_2 h, box_at c1_0 h, box_at c1_1 h, box_at c2_0 h, box_at c2_1 h, box_at c2_2 h, box_at yxc0 h, box_at yxc1 h, box_at yxh0 h, box_at yxh1 h, box_at yxr0 h, box_at yxr1 h⟩) ?_
        simp only [pickP, pickN, List.getElem?_cons_zero, List.getElem?_cons_succ]
        iterate 8 (refine' chainP_read _ rfl rfl (fun w' hS' => ?_) ?_; rotate_left; · (simp only [lookP, allP, Act.put, List.getElem?_cons_zero, List.getElem?_cons_succ, List.setIfInBounds_toArray, List.set_cons_zero, List.set_cons_succ]; (try dsimp only at hS'); go_simp; (try with_reducible rfl)))
        -- 8: call { callee := value (func 165), args := #[t58, t60, t65], argTypes := #[39, 3, 3] }
        refine chainP_call (d := (some 66)) (.int .i64 P0) rfl rfl (fun w' hS' => ?_) ?_
        · simp only [lookP, allP, Act.put, List.getElem?_cons_zero, List.getElem?_cons_succ, List.setIfInBounds_toArray, List.set_cons_zero, List.set_cons_succ]
          intro K hK
          go_simp
          go_at_call 106
          refine (impl_pow gr bh (nth d.r 0) _ HG.out sbh iz0).mono ?_
          rintro e u ⟨rfl, hq⟩
          rw [HP0.out]
          exact hK.out _ hq
        iterate 6 (refine' chainP_read _ rfl rfl (fun w' hS' => ?_) ?_; rotate_left; · (simp only [lookP, allP, Act.put, List.getElem?_cons_zero, List.getElem?_cons_succ, List.setIfInBounds_toArray, List.set_cons_zero, List.set_cons_succ]; (try dsimp only at hS'); go_simp; (try with_reducible rfl)))
        -- 15: call { callee := value (func 280), args := #[t70, t71, t72], argTypes := #[39, 3, 3] }
        refine chainP_call (d := (some 73)) (.int .i64 C0) rfl rfl (fun w' hS' => ?_) ?_
        · simp only [lookP, allP, Act.put, List.getElem?_cons_zero, List.getElem?_cons_succ, List.setIfInBounds_toArray, List.set_cons_zero, List.set_cons_succ]
          intro K hK
          go_simp
          go_at_call 192
          refine (impl_bitCase gr c0 0 _ HG.out sc0).mono ?_
          rintro e u ⟨rfl, hq⟩
          rw [HC0.out]
          exact hK.out _ hq
        iterate 5 (refine' chainP_read _ rfl rfl (fun w' hS' => ?_) ?_; rotate_left; · (simp only [lookP, allP, Act.put, List.getElem?_cons_zero, List.getElem?_cons_succ, List.setIfInBounds_toArray, List.set_cons_zero, List.set_cons_succ]; (try dsimp only at hS'); go_simp; (try with_reducible rfl)))
        -- 21: call { callee := value (func 165), args := #[t69, t73, t78], argTypes := #[39, 3, 3] }
        refine chainP_call (d := (some 79)) (.int .i64 B0) rfl rfl (fun w' hS' => ?_) ?_
        · simp only [lookP, allP, Act.put, List.getElem?_cons_zero, List.getElem?_cons_succ, List.setIfInBounds_toArray, List.set_cons_zero, List.set_cons_succ]
          intro K hK
          go_simp
          go_at_call 106
          refine (impl_pow gr C0 (nth d.h 0) _ HG.out sC0 ih0).mono ?_
          rintro e u ⟨rfl, hq⟩
          rw [HB0.out]
          exact hK.out _ hq
        -- 22: buildSlice 24 2 #[(0, t68), (1, t79)]
        refine chainP_do (d := (some 80)) (fun v w => Ints w v [(nth d.c 0), B0]) (fun v w w' hb h => Ints.below h hb) rfl rfl (fun w' hS' => ?_) ?_
        · simp only [lookP, allP, Act.put, List.getElem?_cons_zero, List.getElem?_cons_succ, List.setIfInBounds_toArray, List.set_cons_zero, List.set_cons_succ]
          intro K hK
          go_simp
          refine hK.out _ _ ((Below.refl _ _).alloc (Nat.le_refl _) _) ?_
          exact (OwnI.lit (B := w'.heap.size) w' (Nat.le_refl _) (l := [(nth d.c 0), B0]) (AllI64.cons (small_64 sx0) (AllI64.cons (small_64 sB0) AllI64.nil)) rfl (by simp [maxLen]) 2 rfl).ints
        -- 23: call { callee := value (func 197), args := #[t67, t80], argTypes := #[39, 24] }
        refine chainP_call (d := (some 81)) (.int .i64 M0) rfl rfl (fun w' hS' => ?_) ?_
        · simp only [lookP, allP, Act.put, List.getElem?_cons_zero, List.getElem?_cons_succ, List.setIfInBounds_toArray, List.set_cons_zero, List.set_cons_succ]
          intro x22 hx22
          intro K hK
          go_simp
          go_at_call 105
          refine (impl_mul gr _ [nth d.c 0, B0] _ HG.out hx22 (AllSmall.cons sx0 (AllSmall.cons sB0 AllSmall.nil))).mono ?_
          rintro e u ⟨rfl, hq⟩
          rw [HM0.out]
          exact hK.out _ hq
        -- 24: binOp Binneq 3 t66 t81 3
        refine' chainP_read (d := (some 82)) _ rfl rfl (fun w' hS' => ?_) ?_; rotate_left
        · simp only [lookP, allP, Act.put, List.getElem?_cons_zero, List.getElem?_cons_succ, List.setIfInBounds_toArray, List.set_cons_zero, List.set_cons_succ]
          (try dsimp only at hS')
          go_simp
          (try with_reducible rfl)
        refine chainP_nil (fun u4 hS' => ?_)
        simp only [allP, Act.put, List.setIfInBounds_toArray, List.set_cons_zero, List.set_cons_succ]
        intro x22 hx22
        have hq4 := hS'.1
        clear hS'
        replace hc := Below.next hc hq4
        clear hq4 c0_0 c0_1 c0_2 c1_0 c1_1 c2_0 c2_1 c2_2 yxc0 yxc1 yxh0 yxh1 yxr0 yxr1
        obtain ⟨c0_0, c0_1, c0_2, c1_0, c1_1, c2_0, c2_1, c2_2, yxc0, yxc1, yxh0, yxh1, yxr0, yxr1⟩ := HCC.out _ hc
        go_wp2_with fail
        refine NoPanic.normal ?_
        cases hc4 : (P0 != M0) with
        | false =>
          have HQ0 : Hid ((P0 == M0) = true) := by unfold Hid; have q := hc4; rw [bne_eq_false_iff_eq] at q; exact beq_iff_eq.2 q
          (try (go_wp2_with fail))
          rw [rounds_succ]
          try (go_wp2_with fail)
          refine wp_region_noPanic ?_
          refine wp_region_P (fun w' => w'.cell? ⟨w.heap.size, 0, none⟩ = some (.int .i64 gr.p) ∧ w'.cell? ⟨w.heap.size, 1, none⟩ = some (.int .i64 gr.q) ∧ w'.cell? ⟨w.heap.size, 2, none⟩ = some (.int .i64 gr.g) ∧ w'.cell? ⟨w.heap.size + 1, 0, none⟩ = some (.int .i64 bh) ∧ w'.cell? ⟨w.heap.size + 1, 1, none⟩ = some ((.slice bva bvn bvc)) ∧ w'.cell? ⟨w.heap.size + 1 + 1, 0, none⟩ = some ((.slice (some ⟨xcb, xco, none⟩) 2 xcc)) ∧ w'.cell? ⟨w.heap.size + 1 + 1, 1, none⟩ = some ((.slice (some ⟨xhb, xho, none⟩) 2 xhc)) ∧ w'.cell? ⟨w.heap.size + 1 + 1, 2, none⟩ = some ((.slice (some ⟨xrb, xro, none⟩) 2 xrc)) ∧ w'.cell? ⟨xcb, xco, none⟩ = some (.int .i64 (nth d.c 0)) ∧ w'.cell? ⟨xcb, xco + 1, none⟩ = some (.int .i64 (nth d.c 1)) ∧ w'.cell? ⟨xhb, xho, none⟩ = some (.int .i64 (nth d.h 0)) ∧ w'.cell? ⟨xhb, xho + 1, none⟩ = some (.int .i64 (nth d.h 1)) ∧ w'.cell? ⟨xrb, xro, none⟩ = some (.int .i64 (nth d.r 0)) ∧ w'.cell? ⟨xrb, xro + 1, none⟩ = some (.int .i64 (nth d.r 1))) 27 [(0, []), (1, []), (2, [0]), (3, []), (4, [0]), (5, []), (6, [1, 0]), (7, [0]), (8, [7, 5, 0]), (9, []), (10, []), (11, []), (12, []), (13, []), (14, []), (15, [2, 1, 0]), (16, []), (17, [0]), (18, []), (19, [1, 0]), (20, [0]), (21, [9, 5, 0]), (22, [11, 0]), (23, [13, 0]), (24, [15, 0])] [] (by kernel_rfl) (by kernel_rfl) (by kernel_rfl) rfl (fun _ _ _ _ h => h) (fun w' h => ⟨box_at c0_0 h, box_at c0_1 h, box_at c0_2 h, box_at c1_0 h, box_at c1_1 h, box_at c2_0 h, box_at c2_1 h, box_at c2_2 h, box_at yxc0 h, box_at yxc1 h, box_at yxh0 h, box_at yxh1 h, box_at yxr0 h, box_at yxr1 h⟩) ?_
          simp only [pickP, pickN, List.getElem?_cons_zero, List.getElem?_cons_succ]
          iterate 8 (refine' chainP_read _ rfl rfl (fun w' hS' => ?_) ?_; rotate_left; · (simp only [lookP, allP, Act.put, List.getElem?_cons_zero, List.getElem?_cons_succ, List.setIfInBounds_toArray, List.set_cons_zero, List.set_cons_succ]; (try dsimp only at hS'); go_simp; (try with_reducible rfl)))
          -- 8: call { callee := value (func 165), args := #[t58, t60, t65], argTypes := #[39, 3, 3] }
          refine chainP_call (d := (some 66)) (.int .i64 P1) rfl rfl (fun w' hS' => ?_) ?_
          · simp only [lookP, allP, Act.put, List.getElem?_cons_zero, List.getElem?_cons_succ, List.setIfInBounds_toArray, List.set_cons_zero, List.set_cons_succ]
            intro K hK
            go_simp
            go_at_call 106
            refine (impl_pow gr bh (nth d.r 1) _ HG.out sbh iz1).mono ?_
            rintro e u ⟨rfl, hq⟩
            rw [HP1.out]
            exact hK.out _ hq
          iterate 6 (refine' chainP_read _ rfl rfl (fun w' hS' => ?_) ?_; rotate_left; · (simp only [lookP, allP, Act.put, List.getElem?_cons_zero, List.getElem?_cons_succ, List.setIfInBounds_toArray, List.set_cons_zero, List.set_cons_succ]; (try dsimp only at hS'); go_simp; (try with_reducible rfl)))
          -- 15: call { callee := value (func 280), args := #[t70, t71, t72], argTypes := #[39, 3, 3] }
          refine chainP_call (d := (some 73)) (.int .i64 C1) rfl rfl (fun w' hS' => ?_) ?_
          · simp only [lookP, allP, Act.put, List.getElem?_cons_zero, List.getElem?_cons_succ, List.setIfInBounds_toArray, List.set_cons_zero, List.set_cons_succ]
            intro K hK
            go_simp
            go_at_call 192
            refine (impl_bitCase gr c0 1 _ HG.out sc0).mono ?_
            rintro e u ⟨rfl, hq⟩
            rw [HC1.out]
            exact hK.out _ hq
          iterate 5 (refine' chainP_read _ rfl rfl (fun w' hS' => ?_) ?_; rotate_left; · (simp only [lookP, allP, Act.put, List.getElem?_cons_zero, List.getElem?_cons_succ, List.setIfInBounds_toArray, List.set_cons_zero, List.set_cons_succ]; (try dsimp only at hS'); go_simp; (try with_reducible rfl)))
          -- 21: call { callee := value (func 165), args := #[t69, t73, t78], argTypes := #[39, 3, 3] }
          refine chainP_call (d := (some 79)) (.int .i64 B1) rfl rfl (fun w' hS' => ?_) ?_
          · simp only [lookP, allP, Act.put, List.getElem?_cons_zero, List.getElem?_cons_succ, List.setIfInBounds_toArray, List.set_cons_zero, List.set_cons_succ]
            intro K hK
            go_simp
            go_at_call 106
            refine (impl_pow gr C1 (nth d.h 1) _ HG.out sC1 ih1).mono ?_
            rintro e u ⟨rfl, hq⟩
            rw [HB1.out]
            exact hK.out _ hq
          -- 22: buildSlice 24 2 #[(0, t68), (1, t79)]
          refine chainP_do (d := (some 80)) (fun v w => Ints w v [(nth d.c 1), B1]) (fun v w w' hb h => Ints.below h hb) rfl rfl (fun w' hS' => ?_) ?_
          · simp only [lookP, allP, Act.put, List.getElem?_cons_zero, List.getElem?_cons_succ, List.setIfInBounds_toArray, List.set_cons_zero, List.set_cons_succ]
            intro K hK
            go_simp
            refine hK.out _ _ ((Below.refl _ _).alloc (Nat.le_refl _) _) ?_
            exact (OwnI.lit (B := w'.heap.size) w' (Nat.le_refl _) (l := [(nth d.c 1), B1]) (AllI64.cons (small_64 sx1) (AllI64.cons (small_64 sB1) AllI64.nil)) rfl (by simp [maxLen]) 2 rfl).ints
          -- 23: call { callee := value (func 197), args := #[t67, t80], argTypes := #[39, 24] }
          refine chainP_call (d := (some 81)) (.int .i64 M1) rfl rfl (fun w' hS' => ?_) ?_
          · simp only [lookP, allP, Act.put, List.getElem?_cons_zero, List.getElem?_cons_succ, List.setIfInBounds_toArray, List.set_cons_zero, List.set_cons_succ]
            intro x22 hx22
            intro K hK
            go_simp
            go_at_call 105
            refine (impl_mul gr _ [nth d.c 1, B1] _ HG.out hx22 (AllSmall.cons sx1 (AllSmall.cons sB1 AllSmall.nil))).mono ?_
            rintro e u ⟨rfl, hq⟩
            rw [HM1.out]
            exact hK.out _ hq
          -- 24: binOp Binneq 3 t66 t81 3
          refine' chainP_read (d := (some 82)) _ rfl rfl (fun w' hS' => ?_) ?_; rotate_left
          · simp only [lookP, allP, Act.put, List.getElem?_cons_zero, List.getElem?_cons_succ, List.setIfInBounds_toArray, List.set_cons_zero, List.set_cons_succ]
            (try dsimp only at hS')
            go_simp
            (try with_reducible rfl)
          refine chainP_nil (fun u5 hS' => ?_)
          simp only [allP, Act.put, List.setIfInBounds_toArray, List.set_cons_zero, List.set_cons_succ]
          intro x22 hx22
          have hq5 := hS'.1
          clear hS'
          replace hc := Below.next hc hq5
          clear hq5 c0_0 c0_1 c0_2 c1_0 c1_1 c2_0 c2_1 c2_2 yxc0 yxc1 yxh0 yxh1 yxr0 yxr1
          obtain ⟨c0_0, c0_1, c0_2, c1_0, c1_1, c2_0, c2_1, c2_2, yxc0, yxc1, yxh0, yxh1, yxr0, yxr1⟩ := HCC.out _ hc
          go_wp2_with fail
          refine NoPanic.normal ?_
          cases hc5 : (P1 != M1) with
          | false =>
            have HQ1 : Hid ((P1 == M1) = true) := by unfold Hid; have q := hc5; rw [bne_eq_false_iff_eq] at q; exact beq_iff_eq.2 q
            (try (go_wp2_with fail))
            rw [rounds_succ]
            try (go_wp2_with fail)
            refine wp_region_noPanic ?_
            refine wp_region_P (fun w' => w'.cell? ⟨w.heap.size, 0, none⟩ = some (.int .i64 gr.p) ∧ w'.cell? ⟨w.heap.size, 1, none⟩ = some (.int .i64 gr.q) ∧ w'.cell? ⟨w.heap.size, 2, none⟩ = some (.int .i64 gr.g) ∧ w'.cell? ⟨w.heap.size + 1, 0, none⟩ = some (.int .i64 bh) ∧ w'.cell? ⟨w.heap.size + 1, 1, none⟩ = some ((.slice bva bvn bvc)) ∧ w'.cell? ⟨w.heap.size + 1 + 1, 0, none⟩ = some ((.slice (some ⟨xcb, xco, none⟩) 2 xcc)) ∧ w'.cell? ⟨w.heap.size + 1 + 1, 1, none⟩ = some ((.slice (some ⟨xhb, xho, none⟩) 2 xhc)) ∧ w'.cell? ⟨w.heap.size + 1 + 1, 2, none⟩ = some ((.slice (some ⟨xrb, xro, none⟩) 2 xrc)) ∧ w'.cell? ⟨xcb, xco, none⟩ = some (.int .i64 (nth d.c 0)) ∧ w'.cell? ⟨xcb, xco + 1, none⟩ = some (.int .i64 (nth d.c 1)) ∧ w'.cell? ⟨xhb, xho, none⟩ = some (.int .i64 (nth d.h 0)) ∧ w'.cell? ⟨xhb, xho + 1, none⟩ = some (.int .i64 (nth d.h 1)) ∧ w'.cell? ⟨xrb, xro, none⟩ = some (.int .i64 (nth d.r 0)) ∧ w'.cell? ⟨xrb, xro + 1, none⟩ = some (.int .i64 (nth d.r 1))) 21 [(0, []), (1, []), (2, [0]), (3, []), (4, []), (5, [0]), (6, [0]), (7, [0]), (8, []), (9, [0]), (10, [0]), (11, [0]), (12, [9, 8, 4, 0]), (13, [12, 0]), (14, [0]), (15, [0]), (16, [1]), (17, [1]), (18, [1])] [] (by kernel_rfl) (by kernel_rfl) (by kernel_rfl) rfl (fun _ _ _ _ h => h) (fun w' h => ⟨box_at c0_0 h, box_at c0_1 h, box_at c0_2 h, box_at c1_0 h, box_at c1_1 h, box_at c2_0 h, box_at c2_1 h, box_at c2_2 h, box_at yxc0 h, box_at yxc1 h, box_at yxh0 h, box_at yxh1 h, box_at yxr0 h, box_at yxr1 h⟩) ?_
            simp only [pickP, pickN, List.getElem?_cons_zero, List.getElem?_cons_succ]
            iterate 12 (refine' chainP_read _ rfl rfl (fun w' hS' => ?_) ?_; rotate_left; · (simp only [lookP, allP, Act.put, List.getElem?_cons_zero, List.getElem?_cons_succ, List.setIfInBounds_toArray, List.set_cons_zero, List.set_cons_succ]; (try dsimp only at hS'); go_simp; (try with_reducible rfl)))
            -- 12: buildSlice 24 4 #[(0, t87), (1, t88), (2, t92), (3, t96)]
            refine chainP_do (d := (some 97)) (fun v w => Ints w v [bh, c0, (nth d.c 0), (nth d.c 1)]) (fun v w w' hb h => Ints.below h hb) rfl rfl (fun w' hS' => ?_) ?_
            · simp only [lookP, allP, Act.put, List.getElem?_cons_zero, List.getElem?_cons_succ, List.setIfInBounds_toArray, List.set_cons_zero, List.set_cons_succ]
              intro K hK
              go_simp
              refine hK.out _ _ ((Below.refl _ _).alloc (Nat.le_refl _) _) ?_
              exact (OwnI.lit (B := w'.heap.size) w' (Nat.le_refl _) (l := [bh, c0, (nth d.c 0), (nth d.c 1)]) (AllI64.cons (small_64 sbh) (AllI64.cons (small_64 sc0) (AllI64.cons (small_64 sx0) (AllI64.cons (small_64 sx1) AllI64.nil)))) rfl (by simp [maxLen]) 4 rfl).ints
            -- 13: call { callee := value (func 207), args := #[t85, const (string { data := #[98, 105, 116] }), t97], argTypes := #[39, 9, 24] }
            refine chainP_call (d := (some 98)) (.tuple #[.int .i64 E, .bool true]) rfl rfl (fun w' hS' => ?_) ?_
            · simp only [lookP, allP, Act.put, List.getElem?_cons_zero, List.getElem?_cons_succ, List.setIfInBounds_toArray, List.set_cons_zero, List.set_cons_succ]
              intro x12 hx12
              intro K hK
              go_simp
              go_at_call 189
              refine (impl_challenge gr sBit _ [bh, c0, (nth d.c 0), (nth d.c 1)] _ HG.out hx12 (by decide) (by simp)).mono ?_
              rintro e u ⟨rfl, hq⟩
              rw [HCB.out, HCI.out]
              exact hK.out _ hq
            iterate 5 (refine' chainP_read _ rfl rfl (fun w' hS' => ?_) ?_; rotate_left; · (simp only [lookP, allP, Act.put, List.getElem?_cons_zero, List.getElem?_cons_succ, List.setIfInBounds_toArray, List.set_cons_zero, List.set_cons_succ]; (try dsimp only at hS'); go_simp; (try with_reducible rfl)))
            refine chainP_nil (fun u6 hS' => ?_)
            simp only [allP, Act.put, List.setIfInBounds_toArray, List.set_cons_zero, List.set_cons_succ]
            intro x12 hx12
            have hq6 := hS'.1
            clear hS'
            replace hc := Below.next hc hq6
            clear hq6 c0_0 c0_1 c0_2 c1_0 c1_1 c2_0 c2_1 c2_2 yxc0 yxc1 yxh0 yxh1 yxr0 yxr1
            obtain ⟨c0_0, c0_1, c0_2, c1_0, c1_1, c2_0, c2_1, c2_2, yxc0, yxc1, yxh0, yxh1, yxr0, yxr1⟩ := HCC.out _ hc
            go_wp2_with fail
            refine NoPanic.normal ?_
            go_wp2_with fail
            refine (impl_sumB _ d.h gr.q _ (Hxh.out.below (HB.out.trans (hc.mono HB.out.size))) zq0 zq3 HSB.out).mono ?_
            rintro e u7 ⟨rfl, rfl⟩
            rw [sumM_two Exh.out, HSM.out]
            cases hc6 : (SM == E) with
            | false =>
              go_wp2_with fail
              have HV : Hid ((.bool (btV gr sBit bh c0 d) : Value) = .bool false) := by unfold Hid; simp [btV, fmB, Hhc1.out, Hhc2.out, Hhc3.out, hc4, hc5, hc6, hl1, hl2, hl3, HBK0.out, HBK1.out, HSE.out, HQ0.out, HQ1.out]
              go_ret
              exact ⟨congrArg Ending.returned HV.out.symm, HB.out.trans (hc.mono HB.out.size)⟩
            | true =>
              go_wp2_with fail
              have HV : Hid ((.bool (btV gr sBit bh c0 d) : Value) = .bool true) := by unfold Hid; simp [btV, fmB, Hhc1.out, Hhc2.out, Hhc3.out, hc4, hc5, hc6, hl1, hl2, hl3, HBK0.out, HBK1.out, HSE.out, HQ0.out, HQ1.out]
              go_ret
              exact ⟨congrArg Ending.returned HV.out.symm, HB.out.trans (hc.mono HB.out.size)⟩
          | true =>
            have HQ1 : Hid ((P1 == M1) = false) := by unfold Hid; have q := hc5; rw [bne_iff_ne] at q; exact beq_eq_false_iff_ne.2 q
            go_wp2_with fail
            have HV : Hid ((.bool (btV gr sBit bh c0 d) : Value) = .bool false) := by unfold Hid; simp [btV, fmB, Hhc1.out, Hhc2.out, Hhc3.out, hc4, hc5, hl1, hl2, hl3, HBK0.out, HBK1.out, HSE.out, HQ0.out, HQ1.out]
            go_ret
            exact ⟨congrArg Ending.returned HV.out.symm, HB.out.trans (hc.mono HB.out.size)⟩
        | true =>
          have HQ0 : Hid ((P0 == M0) = false) := by unfold Hid; have q := hc4; rw [bne_iff_ne] at q; exact beq_eq_false_iff_ne.2 q
          go_wp2_with fail
          have HV : Hid ((.bool (btV gr sBit bh c0 d) : Value) = .bool false) := by unfold Hid; simp [btV, fmB, Hhc1.out, Hhc2.out, Hhc3.out, hc4, hl1, hl2, hl3, HBK0.out, HBK1.out, HSE.out, HQ0.out]
          go_ret
          exact ⟨congrArg Ending.returned HV.out.symm, HB.out.trans (hc.mono HB.out.size)⟩
theorem impl_verifyBit (gr : GroupD) (bh : Int) (bv : Value) (bl : List Int) (c0 : Int) (pv : Value) (d : ProofD) (w : World) (hg : OkG gr) (hb : Ints w bv bl) (hp : PfR w pv d) (sbh : Small bh) (sc0 : Small c0) :
    Calls Try.prog 224 #[.agg #[.int .i64 gr.p, .int .i64 gr.q, .int .i64 gr.g], .agg #[.int .i64 bh, bv], .int .i64 c0, pv] w fun e w' => e = .returned (.bool (btV gr sBit bh c0 d)) ∧ Below w.heap.size w w' := by
  by_cases h : d.c.length = 2 ∧ d.h.length = 2 ∧ d.r.length = 2
  · exact impl_verifyBitT gr bh bv bl c0 pv d w hg hb hp sbh sc0 h.1 h.2.1 h.2.2
  · refine (impl_verifyBitF gr bh bv bl c0 pv d w hg hb hp sbh sc0 h).mono ?_
    rintro e w' ⟨rfl, hw⟩
    have e1 : btV gr sBit bh c0 d = false := by
      unfold btV
      cases h1 : fmB gr d 2 2 2 with
      | false => rfl
      | true => exact absurd ⟨(fmB_parts h1).1, (fmB_parts h1).2.1, (fmB_parts h1).2.2.1⟩ h
    exact ⟨by rw [e1], hw⟩
end Go.Proofs.Yteemlmmdngkghaa
