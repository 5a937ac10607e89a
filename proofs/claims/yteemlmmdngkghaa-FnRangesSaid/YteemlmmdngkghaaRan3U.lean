/- Ranges and intervals: walks (printed by gen_ran3.py). -/
import Derived.Test.YteemlmmdngkghaaRan2U
namespace Go.Proofs.Yteemlmmdngkghaa
open Go.RowKit
set_option linter.unusedSimpArgs false
set_option linter.unusedVariables false

/-- a proof of a range in new memory and a Bool are returned -/
def RetGB (e : Ending) (w : World) (B : Nat) (b : Bool) (d : RangeD) : Prop := ∃ x y, e = .returned (.tuple #[.agg #[x, y], .bool b]) ∧ OwnI w B x d.b ∧ OwnQ w B x y d.p
theorem RetGB.mk {w : World} {B : Nat} {x y : Value} {b : Bool} {d : RangeD} (h1 : OwnI w B x d.b) (h2 : OwnQ w B x y d.p) : RetGB (.returned (.tuple #[.agg #[x, y], .bool b])) w B b d := ⟨x, y, rfl, h1, h2⟩
/-- two proofs of ranges and a Bool are returned -/
def RetG2 (e : Ending) (w : World) (B : Nat) (b : Bool) (d f : RangeD) : Prop := ∃ x y u v, e = .returned (.tuple #[.agg #[x, y], .agg #[u, v], .bool b]) ∧ (OwnI w B x d.b ∧ OwnQ w B x y d.p) ∧ (OwnI w B u f.b ∧ OwnQ w B u v f.p)
theorem RetG2.mk {w : World} {B : Nat} {x y u v : Value} {b : Bool} {d f : RangeD} (h1 : OwnI w B x d.b ∧ OwnQ w B x y d.p) (h2 : OwnI w B u f.b ∧ OwnQ w B u v f.p) : RetG2 (.returned (.tuple #[.agg #[x, y], .agg #[u, v], .bool b])) w B b d f := ⟨x, y, u, v, rfl, h1, h2⟩
/-- what an interval's proof wants -/
noncomputable def piB (gr : GroupD) (bh : Int) (bl : List Int) (m r lo hi n : Int) (cs : List Int) : Bool := baB gr bh bl && (rnB gr n && ([m, r, lo, hi].all (expB gr) && (decide (0 ≤ m - lo ∧ m - lo ≤ 2 ^ n.toNat - 1) && (decide (0 ≤ hi - m ∧ hi - m ≤ 2 ^ n.toNat - 1) && (decide ((cs.length : Int) = 8 * n - 2) && cs.all (expB gr))))))
noncomputable def piR (gr : GroupD) (s : ByteArray) (bh : Int) (bl : List Int) (m r lo hi n : Int) (cs : List Int) : RangeD := if piB gr bh bl m r lo hi n cs = true then rgD gr s bh (m - lo) r n.toNat (cs.take (4 * n - 1).toNat) else ⟨[], []⟩
noncomputable def piS (gr : GroupD) (s : ByteArray) (bh : Int) (bl : List Int) (m r lo hi n : Int) (cs : List Int) : RangeD := if piB gr bh bl m r lo hi n cs = true then rgD gr s bh (hi - m) (-r % gr.q) n.toNat (cs.drop (4 * n - 1).toNat) else ⟨[], []⟩
noncomputable def vrR (gr : GroupD) (s : ByteArray) (bh : Int) (bl : List Int) (c n : Int) (x : RangeD) : Bool := vrA gr bh bl c n && vrV gr s bh c n.toNat x
noncomputable def viA (gr : GroupD) (bh : Int) (bl : List Int) (c lo hi n : Int) : Bool := baB gr bh bl && (elB gr c && ([lo, hi].all (expB gr) && rnB gr n))
noncomputable def viR (gr : GroupD) (s : ByteArray) (bh : Int) (bl : List Int) (c lo hi n : Int) (x y : RangeD) : Bool := viA gr bh bl c lo hi n && (vrV gr s bh (mulL gr [c, powE gr gr.g (-lo)]) n.toNat x && vrV gr s bh (mulL gr [powE gr gr.g hi, powE gr c (-1)]) n.toNat y)
theorem w64 {x : Int} (h1 : -1000000000000000 ≤ x) (h2 : x ≤ 1000000000000000) : wrap64 x = x := by unfold wrap64; omega
theorem take_all {f : Int → Bool} {l : List Int} (k : Nat) (h : l.all f = true) : (l.take k).all f = true := by
  rw [List.all_eq_true] at h ⊢
  exact fun x hx => h x (List.mem_of_mem_take hx)
theorem drop_all {f : Int → Bool} {l : List Int} (k : Nat) (h : l.all f = true) : (l.drop k).all f = true := by
  rw [List.all_eq_true] at h ⊢
  exact fun x hx => h x (List.mem_of_mem_drop hx)
theorem impl_verifyRangeN (gr : GroupD) (bh : Int) (bv : Value) (bl : List Int) (c0 n : Int) (vb vp : Value) (x : RangeD) (w : World) (hg : OkG gr) (hb : Ints w bv bl) (sbh : Small bh) (hn : 1 ≤ n ∧ n ≤ 16) (hxb : Ints w vb x.b) (hxp : RdR rProof w vp x.p) :
    Calls Try.prog 99 #[.agg #[.int .i64 gr.p, .int .i64 gr.q, .int .i64 gr.g], .agg #[.int .i64 bh, bv], .int .i64 c0, .int .i64 n, .agg #[vb, vp]] w fun e w' => e = .returned (.bool (vrV gr sBit bh c0 n.toNat x)) ∧ Below w.heap.size w w' := by
  obtain ⟨N, rfl⟩ : ∃ N : Nat, n = (N : Int) := ⟨n.toNat, by omega⟩
  rw [Int.toNat_natCast]
  exact impl_verifyRange gr bh bv bl c0 N vb vp x w hg hb sbh (by omega) hxb hxp
set_option maxRecDepth 100000 in
set_option maxHeartbeats 2000000 in
theorem impl_ProveRange (gr : GroupD) (bh : Int) (bv : Value) (bl : List Int) (m r n : Int) (cv : Value) (cs : List Int) (w : World) (hb : Ints w bv bl) (ibh : I64 bh) (hm : I64 m) (hr : I64 r) (hn : I64 n) (hcs : Ints w cv cs) :
    Calls Try.prog 14 #[.agg #[.int .i64 gr.p, .int .i64 gr.q, .int .i64 gr.g], .agg #[.int .i64 bh, bv], .int .i64 m, .int .i64 r, .int .i64 n, cv] w fun e w' => RetGB e w' w.heap.size (prB gr bh bl m r n cs) (prR gr sBit bh bl m r n cs) ∧ Below w.heap.size w w' := by
  obtain ⟨bva, bvn, bvc, rfl⟩ := hb.shape
  have Ebv := Lib.hid hb.len
  have Kbv := Lib.hid hb.capMax
  have Hbv := Lib.hid hb
  clear hb
  obtain ⟨cva, cvn, cvc, rfl⟩ := hcs.shape
  have Ecv := Lib.hid hcs.len
  have Kcv := Lib.hid hcs.capMax
  have Hcv := Lib.hid hcs
  clear hcs
  obtain ⟨W, hW⟩ : ∃ W, W = ((w.alloc (.cells #[.int .i64 gr.p, .int .i64 gr.q, .int .i64 gr.g] 25)).alloc (.cells #[.int .i64 bh, (.slice bva bvn bvc)] 28)).alloc (.cells #[(.slice none 0 0), (.slice none 0 0)] 33) := ⟨_, rfl⟩
  have HB : Hid (Below w.heap.size w W) := by unfold Hid; rw [hW]; (repeat (first | exact Below.refl _ _ | assumption | refine Below.drew ?_ | refine Below.alloc ?_ (by first | (simp; done) | (simp; omega)) _ | refine Below.setCell ?_ (by first | (simp; done) | (simp; omega)) _))
  have c0_0 : W.cell? ⟨w.heap.size, 0, none⟩ = some (.int .i64 gr.p) := by rw [hW]; simp [go_sem]
  have c0_1 : W.cell? ⟨w.heap.size, 1, none⟩ = some (.int .i64 gr.q) := by rw [hW]; simp [go_sem]
  have c0_2 : W.cell? ⟨w.heap.size, 2, none⟩ = some (.int .i64 gr.g) := by rw [hW]; simp [go_sem]
  have c1_0 : W.cell? ⟨w.heap.size + 1, 0, none⟩ = some (.int .i64 bh) := by rw [hW]; simp [go_sem]
  have c1_1 : W.cell? ⟨w.heap.size + 1, 1, none⟩ = some ((.slice bva bvn bvc)) := by rw [hW]; simp [go_sem]
  have HR2 : Hid (BoxN W (w.heap.size + 1 + 1) 33 [(.slice none 0 0), (.slice none 0 0)]) := by unfold Hid; rw [hW]; have h := (BoxN.new ((w.alloc (.cells #[.int .i64 gr.p, .int .i64 gr.q, .int .i64 gr.g] 25)).alloc (.cells #[.int .i64 bh, (.slice bva bvn bvc)] 28)) [(.slice none 0 0), (.slice none 0 0)] 33); simpa using h
  have HSW : Hid (W.heap.size = w.heap.size + 3) := by unfold Hid; rw [hW]; simp
  have lr2 : w.heap.size + 1 + 1 < W.heap.size := by have := HSW.out; omega
  go_enter Try.func14, Try.ntmps14
  go_wp2_with fail
  rw [← hW]
  have hse : w.heap.size + 1 + 1 + 1 = W.heap.size := by have := HSW.out; omega
  (try rw [hse])
  clear hse
  clear hW
  have hc : Below W.heap.size W W := Below.refl _ _
  have HCC : Hid (∀ u, Below W.heap.size W u → u.cell? ⟨w.heap.size, 0, none⟩ = some (.int .i64 gr.p) ∧ u.cell? ⟨w.heap.size, 1, none⟩ = some (.int .i64 gr.q) ∧ u.cell? ⟨w.heap.size, 2, none⟩ = some (.int .i64 gr.g) ∧ u.cell? ⟨w.heap.size + 1, 0, none⟩ = some (.int .i64 bh) ∧ u.cell? ⟨w.heap.size + 1, 1, none⟩ = some ((.slice bva bvn bvc))) := fun u h => ⟨box_at c0_0 h, box_at c0_1 h, box_at c0_2 h, box_at c1_0 h, box_at c1_1 h⟩
  go_wp2_with fail
  refine (impl_IsValidBases gr bh _ bl _ (Hbv.out.below (HB.out.trans (hc.mono HB.out.size))) ibh).mono ?_
  rintro e u1 ⟨rfl, hq1⟩
  replace hc := Below.next hc hq1
  clear hq1 c0_0 c0_1 c0_2 c1_0 c1_1
  obtain ⟨c0_0, c0_1, c0_2, c1_0, c1_1⟩ := HCC.out _ hc
  cases hc1 : baB gr bh bl with
  | false =>
    have Hhc1 := Lib.hid hc1
    clear hc1
    have HRE2 := Lib.hid (HR2.out.below hc)
    clear HR2
    have HBE := Lib.hid (HB.out.trans (hc.mono HB.out.size))
    have r2_0 := HRE2.out.cell (i := 0) rfl
    have r2_1 := HRE2.out.cell (i := 1) rfl
    have fr2 := fun j => HRE2.out.frozen j
    go_wp2_with fail
    have HRF := Lib.hid ((HRE2.out.set 0 ((.slice none 0 0))).set 1 ((.slice none 0 0)))
    have HBF := Lib.hid ((HBE.out.setCell (p := ⟨w.heap.size + 1 + 1, 0, none⟩) (by show w.heap.size ≤ w.heap.size + 1 + 1; omega) ((.slice none 0 0))).setCell (p := ⟨w.heap.size + 1 + 1, 1, none⟩) (by show w.heap.size ≤ w.heap.size + 1 + 1; omega) ((.slice none 0 0)))
    clear r2_0 r2_1 fr2
    have r2_0 := HRF.out.cell (i := 0) rfl
    have r2_1 := HRF.out.cell (i := 1) rfl
    try (go_wp2_with fail)
    have HVB : Hid (prB gr bh bl m r n cs = false) := by unfold Hid; simp [prB, Hhc1.out]
    (try clear hpwA)
    (try clear ewpA)
    have HPR : Hid (prR gr sBit bh bl m r n cs = ⟨[], []⟩) := by unfold Hid prR; rw [if_neg (by rw [HVB.out]; simp)]
    refine bodyPost_ret (v := .tuple #[.agg #[(.slice none 0 0), (.slice none 0 0)], .bool false]) (by simp [results, Try.results14, go_sem, r2_0, r2_1]) rfl ⟨(by rw [HVB.out, HPR.out]; exact RetGB.mk (OwnI.nil _ _) (OwnQ.nil _ _ _)), HBF.out⟩
  | true =>
    have HBA := Lib.hid (baB_parts hc1)
    have HG := Lib.hid (goodG_ok HBA.out.1)
    have sbh : Small bh := elB_small HG.out HBA.out.2.1
    have Hhc1 := Lib.hid hc1
    clear hc1
    go_wp2_with fail
    refine (impl_isRange gr n _).mono ?_
    rintro e u2 ⟨rfl, hq2⟩
    replace hc := Below.next hc hq2
    clear hq2 c0_0 c0_1 c0_2 c1_0 c1_1
    obtain ⟨c0_0, c0_1, c0_2, c1_0, c1_1⟩ := HCC.out _ hc
    cases hc2 : rnB gr n with
    | false =>
      have Hhc2 := Lib.hid hc2
      clear hc2
      have HRE2 := Lib.hid (HR2.out.below hc)
      clear HR2
      have HBE := Lib.hid (HB.out.trans (hc.mono HB.out.size))
      have r2_0 := HRE2.out.cell (i := 0) rfl
      have r2_1 := HRE2.out.cell (i := 1) rfl
      have fr2 := fun j => HRE2.out.frozen j
      go_wp2_with fail
      have HRF := Lib.hid ((HRE2.out.set 0 ((.slice none 0 0))).set 1 ((.slice none 0 0)))
      have HBF := Lib.hid ((HBE.out.setCell (p := ⟨w.heap.size + 1 + 1, 0, none⟩) (by show w.heap.size ≤ w.heap.size + 1 + 1; omega) ((.slice none 0 0))).setCell (p := ⟨w.heap.size + 1 + 1, 1, none⟩) (by show w.heap.size ≤ w.heap.size + 1 + 1; omega) ((.slice none 0 0)))
      clear r2_0 r2_1 fr2
      have r2_0 := HRF.out.cell (i := 0) rfl
      have r2_1 := HRF.out.cell (i := 1) rfl
      try (go_wp2_with fail)
      have HVB : Hid (prB gr bh bl m r n cs = false) := by unfold Hid; simp [prB, Hhc1.out, Hhc2.out]
      (try clear hpwA)
      (try clear ewpA)
      have HPR : Hid (prR gr sBit bh bl m r n cs = ⟨[], []⟩) := by unfold Hid prR; rw [if_neg (by rw [HVB.out]; simp)]
      refine bodyPost_ret (v := .tuple #[.agg #[(.slice none 0 0), (.slice none 0 0)], .bool false]) (by simp [results, Try.results14, go_sem, r2_0, r2_1]) rfl ⟨(by rw [HVB.out, HPR.out]; exact RetGB.mk (OwnI.nil _ _) (OwnQ.nil _ _ _)), HBF.out⟩
    | true =>
      have zq1 := HG.out.q1
      have zq2 := HG.out.q2
      have zp2 := HG.out.p2
      have zq3 : gr.q ≤ 2000000000 := by omega
      have zq0 : 0 < gr.q := by omega
      have zq4 : gr.q ≤ 4000000000 := by omega
      have HRN := Lib.hid (rnB_parts hc2)
      obtain ⟨hn1, hn2⟩ := HRN.out.1
      obtain ⟨PW, hPW⟩ : ∃ z, (2 : Int) ^ n.toNat = z := ⟨_, rfl⟩
      have HPW := Lib.hid hPW
      obtain ⟨hpw1, hpw2⟩ : 1 ≤ PW ∧ PW ≤ 65536 := by rw [← hPW]; exact powR_bd n.toNat (by omega)
      have hpw : IntKind.i64.wrap (2 ^ min (IntKind.u64.wrap n).toNat 64) = PW := by
        have h := powS n.toNat (by omega)
        rw [Int.toNat_of_nonneg (by omega)] at h
        rw [h, hPW]
      have ewp : IntKind.i64.wrap (PW - 1) = PW - 1 := IntWalk.i64_in _ (by omega)
      have ew4 : IntKind.i64.wrap (4 * n) = 4 * n := IntWalk.i64_in _ (by omega)
      have ew5 : IntKind.i64.wrap (4 * n - 1) = 4 * n - 1 := IntWalk.i64_in _ (by omega)
      have ew6 : IntKind.i64.wrap (2 * (4 * n - 1)) = 2 * (4 * n - 1) := IntWalk.i64_in _ (by omega)
      have ew7 : IntKind.i64.wrap (8 * n) = 8 * n := IntWalk.i64_in _ (by omega)
      have ew8 : IntKind.i64.wrap (8 * n - 2) = 8 * n - 2 := IntWalk.i64_in _ (by omega)
      have ewpA : wrap64 (PW - 1) = PW - 1 := w64 (by omega) (by omega)
      have hpwA : wrap64 (2 ^ n.toNat) = PW := by rw [powR n.toNat (by omega), hPW]
      clear hPW
      have Hhc2 := Lib.hid hc2
      clear hc2
      go_wp2_with fail
      refine (impl_within m 0 (PW - 1) _).mono ?_
      rintro e u3 ⟨rfl, rfl⟩
      cases hc3 : decide (0 ≤ m ∧ m ≤ (PW - 1)) with
      | false =>
        have HMB : Hid (decide (0 ≤ m ∧ m ≤ 2 ^ n.toNat - 1) = false) := by unfold Hid; rw [HPW.out]; exact hc3
        have HRE2 := Lib.hid (HR2.out.below hc)
        clear HR2
        have HBE := Lib.hid (HB.out.trans (hc.mono HB.out.size))
        have r2_0 := HRE2.out.cell (i := 0) rfl
        have r2_1 := HRE2.out.cell (i := 1) rfl
        have fr2 := fun j => HRE2.out.frozen j
        go_wp2_with fail
        have HRF := Lib.hid ((HRE2.out.set 0 ((.slice none 0 0))).set 1 ((.slice none 0 0)))
        have HBF := Lib.hid ((HBE.out.setCell (p := ⟨w.heap.size + 1 + 1, 0, none⟩) (by show w.heap.size ≤ w.heap.size + 1 + 1; omega) ((.slice none 0 0))).setCell (p := ⟨w.heap.size + 1 + 1, 1, none⟩) (by show w.heap.size ≤ w.heap.size + 1 + 1; omega) ((.slice none 0 0)))
        clear r2_0 r2_1 fr2
        have r2_0 := HRF.out.cell (i := 0) rfl
        have r2_1 := HRF.out.cell (i := 1) rfl
        try (go_wp2_with fail)
        have HVB : Hid (prB gr bh bl m r n cs = false) := by unfold Hid; simp [prB, Hhc1.out, Hhc2.out, hc3, HMB.out]
        (try clear hpwA)
        (try clear ewpA)
        have HPR : Hid (prR gr sBit bh bl m r n cs = ⟨[], []⟩) := by unfold Hid prR; rw [if_neg (by rw [HVB.out]; simp)]
        refine bodyPost_ret (v := .tuple #[.agg #[(.slice none 0 0), (.slice none 0 0)], .bool false]) (by simp [results, Try.results14, go_sem, r2_0, r2_1]) rfl ⟨(by rw [HVB.out, HPR.out]; exact RetGB.mk (OwnI.nil _ _) (OwnQ.nil _ _ _)), HBF.out⟩
      | true =>
        have HMB : Hid (decide (0 ≤ m ∧ m ≤ 2 ^ n.toNat - 1) = true) := by unfold Hid; rw [HPW.out]; exact hc3
        have HM : Hid (0 ≤ m ∧ m ≤ 65535) := by have q := of_decide_eq_true hc3; unfold Hid; (try clear hpwA ewpA); omega
        go_wp2_with fail
        refine (impl_isExp gr r _ HG.out).mono ?_
        rintro e u4 ⟨rfl, hq4⟩
        replace hc := Below.next hc hq4
        clear hq4 c0_0 c0_1 c0_2 c1_0 c1_1
        obtain ⟨c0_0, c0_1, c0_2, c1_0, c1_1⟩ := HCC.out _ hc
        cases hc4 : expB gr r with
        | false =>
          have Hhc4 := Lib.hid hc4
          clear hc4
          have HRE2 := Lib.hid (HR2.out.below hc)
          clear HR2
          have HBE := Lib.hid (HB.out.trans (hc.mono HB.out.size))
          have r2_0 := HRE2.out.cell (i := 0) rfl
          have r2_1 := HRE2.out.cell (i := 1) rfl
          have fr2 := fun j => HRE2.out.frozen j
          go_wp2_with fail
          have HRF := Lib.hid ((HRE2.out.set 0 ((.slice none 0 0))).set 1 ((.slice none 0 0)))
          have HBF := Lib.hid ((HBE.out.setCell (p := ⟨w.heap.size + 1 + 1, 0, none⟩) (by show w.heap.size ≤ w.heap.size + 1 + 1; omega) ((.slice none 0 0))).setCell (p := ⟨w.heap.size + 1 + 1, 1, none⟩) (by show w.heap.size ≤ w.heap.size + 1 + 1; omega) ((.slice none 0 0)))
          clear r2_0 r2_1 fr2
          have r2_0 := HRF.out.cell (i := 0) rfl
          have r2_1 := HRF.out.cell (i := 1) rfl
          try (go_wp2_with fail)
          have HVB : Hid (prB gr bh bl m r n cs = false) := by unfold Hid; simp [prB, Hhc1.out, Hhc2.out, hc3, Hhc4.out, HMB.out]
          (try clear hpwA)
          (try clear ewpA)
          have HPR : Hid (prR gr sBit bh bl m r n cs = ⟨[], []⟩) := by unfold Hid prR; rw [if_neg (by rw [HVB.out]; simp)]
          refine bodyPost_ret (v := .tuple #[.agg #[(.slice none 0 0), (.slice none 0 0)], .bool false]) (by simp [results, Try.results14, go_sem, r2_0, r2_1]) rfl ⟨(by rw [HVB.out, HPR.out]; exact RetGB.mk (OwnI.nil _ _) (OwnQ.nil _ _ _)), HBF.out⟩
        | true =>
          have HR : Hid (expB gr r = true) := by unfold Hid; simpa using hc4
          have Hhc4 := Lib.hid hc4
          clear hc4
          cases hc5 : ((cvn : Int) != (4 * n - 1)) with
          | false =>
            have HL2 : Hid (decide ((cs.length : Int) = 4 * n - 1) = true) := by have q := hc5; rw [bne_eq_false_iff_eq] at q; exact decide_eq_true (by have := Ecv.out; (try clear hpwA ewpA); omega)
            go_wp2_with fail
            refine (impl_areExps gr _ cs _ HG.out (Hcv.out.below (HB.out.trans (hc.mono HB.out.size)))).mono ?_
            rintro e u5 ⟨rfl, hq5⟩
            replace hc := Below.next hc hq5
            clear hq5 c0_0 c0_1 c0_2 c1_0 c1_1
            obtain ⟨c0_0, c0_1, c0_2, c1_0, c1_1⟩ := HCC.out _ hc
            cases hc6 : cs.all (expB gr) with
            | false =>
              have Hhc6 := Lib.hid hc6
              clear hc6
              have HRE2 := Lib.hid (HR2.out.below hc)
              clear HR2
              have HBE := Lib.hid (HB.out.trans (hc.mono HB.out.size))
              have r2_0 := HRE2.out.cell (i := 0) rfl
              have r2_1 := HRE2.out.cell (i := 1) rfl
              have fr2 := fun j => HRE2.out.frozen j
              go_wp2_with fail
              have HRF := Lib.hid ((HRE2.out.set 0 ((.slice none 0 0))).set 1 ((.slice none 0 0)))
              have HBF := Lib.hid ((HBE.out.setCell (p := ⟨w.heap.size + 1 + 1, 0, none⟩) (by show w.heap.size ≤ w.heap.size + 1 + 1; omega) ((.slice none 0 0))).setCell (p := ⟨w.heap.size + 1 + 1, 1, none⟩) (by show w.heap.size ≤ w.heap.size + 1 + 1; omega) ((.slice none 0 0)))
              clear r2_0 r2_1 fr2
              have r2_0 := HRF.out.cell (i := 0) rfl
              have r2_1 := HRF.out.cell (i := 1) rfl
              try (go_wp2_with fail)
              have HVB : Hid (prB gr bh bl m r n cs = false) := by unfold Hid; simp [prB, Hhc1.out, Hhc2.out, hc3, Hhc4.out, hc5, Hhc6.out, HMB.out, HL2.out]
              (try clear hpwA)
              (try clear ewpA)
              have HPR : Hid (prR gr sBit bh bl m r n cs = ⟨[], []⟩) := by unfold Hid prR; rw [if_neg (by rw [HVB.out]; simp)]
              refine bodyPost_ret (v := .tuple #[.agg #[(.slice none 0 0), (.slice none 0 0)], .bool false]) (by simp [results, Try.results14, go_sem, r2_0, r2_1]) rfl ⟨(by rw [HVB.out, HPR.out]; exact RetGB.mk (OwnI.nil _ _) (OwnQ.nil _ _ _)), HBF.out⟩
            | true =>
              have HCA : Hid (cs.all (expB gr) = true) := hc6
              have Hhc6 := Lib.hid hc6
              clear hc6
              go_wp2_with fail
              refine (impl_proveRangeN gr bh _ bl m r n _ cs _ HG.out (Hbv.out.below (HB.out.trans (hc.mono HB.out.size))) sbh HM.out HR.out ⟨hn1, hn2⟩ (Hcv.out.below (HB.out.trans (hc.mono HB.out.size))) (of_decide_eq_true HL2.out) HCA.out).mono ?_
              rintro e u6 ⟨⟨x0, x1, rfl, ho0, hoq⟩, hq6⟩
              have hszv := hc.size
              obtain ⟨xa0, xc0, rfl⟩ := OwnI.shapeN (n := n.toNat) ho0 (rgB_len _ _ _ _ _)
              obtain ⟨xa1, xc1, rfl⟩ := OwnQ.shapeN (n := n.toNat) hoq (rgP_len _ _ _ _ _ _ _)
              replace hc := Below.next hc hq6
              clear hq6 c0_0 c0_1 c0_2 c1_0 c1_1
              obtain ⟨c0_0, c0_1, c0_2, c1_0, c1_1⟩ := HCC.out _ hc
              have HRE2 := Lib.hid (HR2.out.below hc)
              clear HR2
              have HBE := Lib.hid (HB.out.trans (hc.mono HB.out.size))
              have r2_0 := HRE2.out.cell (i := 0) rfl
              have r2_1 := HRE2.out.cell (i := 1) rfl
              have fr2 := fun j => HRE2.out.frozen j
              go_wp2_with fail
              have HRF := Lib.hid ((HRE2.out.set 0 ((.slice xa0 n.toNat xc0))).set 1 ((.slice xa1 n.toNat xc1)))
              have HBF := Lib.hid ((HBE.out.setCell (p := ⟨w.heap.size + 1 + 1, 0, none⟩) (by show w.heap.size ≤ w.heap.size + 1 + 1; omega) ((.slice xa0 n.toNat xc0))).setCell (p := ⟨w.heap.size + 1 + 1, 1, none⟩) (by show w.heap.size ≤ w.heap.size + 1 + 1; omega) ((.slice xa1 n.toNat xc1)))
              clear r2_0 r2_1 fr2
              have r2_0 := HRF.out.cell (i := 0) rfl
              have r2_1 := HRF.out.cell (i := 1) rfl
              try (go_wp2_with fail)
              have HVB : Hid (prB gr bh bl m r n cs = true) := by unfold Hid; simp [prB, Hhc1.out, Hhc2.out, hc3, Hhc4.out, hc5, Hhc6.out, HMB.out, HL2.out]
              (try clear hpwA)
              (try clear ewpA)
              have HPR : Hid (prR gr sBit bh bl m r n cs = rgD gr sBit bh m r n.toNat cs) := by unfold Hid prR; rw [if_pos HVB.out]
              refine bodyPost_ret (v := .tuple #[.agg #[(.slice xa0 n.toNat xc0), (.slice xa1 n.toNat xc1)], .bool true]) (by simp [results, Try.results14, go_sem, r2_0, r2_1]) rfl ⟨(by rw [HVB.out, HPR.out]; exact RetGB.mk (((ho0.other (b := w.heap.size + 1 + 1) (by omega) 0 ((.slice xa0 n.toNat xc0))).other (b := w.heap.size + 1 + 1) (by omega) 1 ((.slice xa1 n.toNat xc1))).mono (by omega)) (((hoq.other (b := w.heap.size + 1 + 1) (by omega) 0 ((.slice xa0 n.toNat xc0))).other (b := w.heap.size + 1 + 1) (by omega) 1 ((.slice xa1 n.toNat xc1))).mono (by omega))), HBF.out⟩
          | true =>
            have HL2 : Hid (decide ((cs.length : Int) = 4 * n - 1) = false) := by have q := hc5; rw [bne_iff_ne] at q; exact decide_eq_false (by have := Ecv.out; (try clear hpwA ewpA); omega)
            have HRE2 := Lib.hid (HR2.out.below hc)
            clear HR2
            have HBE := Lib.hid (HB.out.trans (hc.mono HB.out.size))
            have r2_0 := HRE2.out.cell (i := 0) rfl
            have r2_1 := HRE2.out.cell (i := 1) rfl
            have fr2 := fun j => HRE2.out.frozen j
            go_wp2_with fail
            have HRF := Lib.hid ((HRE2.out.set 0 ((.slice none 0 0))).set 1 ((.slice none 0 0)))
            have HBF := Lib.hid ((HBE.out.setCell (p := ⟨w.heap.size + 1 + 1, 0, none⟩) (by show w.heap.size ≤ w.heap.size + 1 + 1; omega) ((.slice none 0 0))).setCell (p := ⟨w.heap.size + 1 + 1, 1, none⟩) (by show w.heap.size ≤ w.heap.size + 1 + 1; omega) ((.slice none 0 0)))
            clear r2_0 r2_1 fr2
            have r2_0 := HRF.out.cell (i := 0) rfl
            have r2_1 := HRF.out.cell (i := 1) rfl
            try (go_wp2_with fail)
            have HVB : Hid (prB gr bh bl m r n cs = false) := by unfold Hid; simp [prB, Hhc1.out, Hhc2.out, hc3, Hhc4.out, hc5, HMB.out, HL2.out]
            (try clear hpwA)
            (try clear ewpA)
            have HPR : Hid (prR gr sBit bh bl m r n cs = ⟨[], []⟩) := by unfold Hid prR; rw [if_neg (by rw [HVB.out]; simp)]
            refine bodyPost_ret (v := .tuple #[.agg #[(.slice none 0 0), (.slice none 0 0)], .bool false]) (by simp [results, Try.results14, go_sem, r2_0, r2_1]) rfl ⟨(by rw [HVB.out, HPR.out]; exact RetGB.mk (OwnI.nil _ _) (OwnQ.nil _ _ _)), HBF.out⟩
set_option maxRecDepth 100000 in
set_option maxHeartbeats 2000000 in
theorem spec_ProveRange (gr : GroupD) (bh : Int) (bv : Value) (bl : List Int) (m r n : Int) (cv : Value) (cs : List Int) (w : World) (hb : Ints w bv bl) (ibh : I64 bh) (hm : I64 m) (hr : I64 r) (hn : I64 n) (hcs : Ints w cv cs) :
    Calls Try.prog 15 #[.agg #[.int .i64 gr.p, .int .i64 gr.q, .int .i64 gr.g], .agg #[.int .i64 bh, bv], .int .i64 m, .int .i64 r, .int .i64 n, cv] w fun e w' => RetGB e w' w.heap.size (prB gr bh bl m r n cs) (prR gr sBit bh bl m r n cs) ∧ Below w.heap.size w w' := by
  obtain ⟨bva, bvn, bvc, rfl⟩ := hb.shape
  have Ebv := Lib.hid hb.len
  have Kbv := Lib.hid hb.capMax
  have Hbv := Lib.hid hb
  clear hb
  obtain ⟨cva, cvn, cvc, rfl⟩ := hcs.shape
  have Ecv := Lib.hid hcs.len
  have Kcv := Lib.hid hcs.capMax
  have Hcv := Lib.hid hcs
  clear hcs
  obtain ⟨W, hW⟩ : ∃ W, W = ((w.alloc (.cells #[.int .i64 gr.p, .int .i64 gr.q, .int .i64 gr.g] 25)).alloc (.cells #[.int .i64 bh, (.slice bva bvn bvc)] 28)).alloc (.cells #[(.slice none 0 0), (.slice none 0 0)] 33) := ⟨_, rfl⟩
  have HB : Hid (Below w.heap.size w W) := by unfold Hid; rw [hW]; (repeat (first | exact Below.refl _ _ | assumption | refine Below.drew ?_ | refine Below.alloc ?_ (by first | (simp; done) | (simp; omega)) _ | refine Below.setCell ?_ (by first | (simp; done) | (simp; omega)) _))
  have c0_0 : W.cell? ⟨w.heap.size, 0, none⟩ = some (.int .i64 gr.p) := by rw [hW]; simp [go_sem]
  have c0_1 : W.cell? ⟨w.heap.size, 1, none⟩ = some (.int .i64 gr.q) := by rw [hW]; simp [go_sem]
  have c0_2 : W.cell? ⟨w.heap.size, 2, none⟩ = some (.int .i64 gr.g) := by rw [hW]; simp [go_sem]
  have c1_0 : W.cell? ⟨w.heap.size + 1, 0, none⟩ = some (.int .i64 bh) := by rw [hW]; simp [go_sem]
  have c1_1 : W.cell? ⟨w.heap.size + 1, 1, none⟩ = some ((.slice bva bvn bvc)) := by rw [hW]; simp [go_sem]
  have HR2 : Hid (BoxN W (w.heap.size + 1 + 1) 33 [(.slice none 0 0), (.slice none 0 0)]) := by unfold Hid; rw [hW]; have h := (BoxN.new ((w.alloc (.cells #[.int .i64 gr.p, .int .i64 gr.q, .int .i64 gr.g] 25)).alloc (.cells #[.int .i64 bh, (.slice bva bvn bvc)] 28)) [(.slice none 0 0), (.slice none 0 0)] 33); simpa using h
  have HSW : Hid (W.heap.size = w.heap.size + 3) := by unfold Hid; rw [hW]; simp
  have lr2 : w.heap.size + 1 + 1 < W.heap.size := by have := HSW.out; omega
  go_enter Try.func15, Try.ntmps15
  go_wp2_with fail
  rw [← hW]
  have hse : w.heap.size + 1 + 1 + 1 = W.heap.size := by have := HSW.out; omega
  (try rw [hse])
  clear hse
  clear hW
  have hc : Below W.heap.size W W := Below.refl _ _
  have HCC : Hid (∀ u, Below W.heap.size W u → u.cell? ⟨w.heap.size, 0, none⟩ = some (.int .i64 gr.p) ∧ u.cell? ⟨w.heap.size, 1, none⟩ = some (.int .i64 gr.q) ∧ u.cell? ⟨w.heap.size, 2, none⟩ = some (.int .i64 gr.g) ∧ u.cell? ⟨w.heap.size + 1, 0, none⟩ = some (.int .i64 bh) ∧ u.cell? ⟨w.heap.size + 1, 1, none⟩ = some ((.slice bva bvn bvc))) := fun u h => ⟨box_at c0_0 h, box_at c0_1 h, box_at c0_2 h, box_at c1_0 h, box_at c1_1 h⟩
  go_wp2_with fail
  refine (spec_l9Good gr bh _ bl _ (Hbv.out.below (HB.out.trans (hc.mono HB.out.size))) ibh).mono ?_
  rintro e u1 ⟨rfl, hq1⟩
  replace hc := Below.next hc hq1
  clear hq1 c0_0 c0_1 c0_2 c1_0 c1_1
  obtain ⟨c0_0, c0_1, c0_2, c1_0, c1_1⟩ := HCC.out _ hc
  cases hc1 : baB gr bh bl with
  | false =>
    have Hhc1 := Lib.hid hc1
    clear hc1
    have HRE2 := Lib.hid (HR2.out.below hc)
    clear HR2
    have HBE := Lib.hid (HB.out.trans (hc.mono HB.out.size))
    have r2_0 := HRE2.out.cell (i := 0) rfl
    have r2_1 := HRE2.out.cell (i := 1) rfl
    have fr2 := fun j => HRE2.out.frozen j
    go_wp2_with fail
    have HRF := Lib.hid ((HRE2.out.set 0 ((.slice none 0 0))).set 1 ((.slice none 0 0)))
    have HBF := Lib.hid ((HBE.out.setCell (p := ⟨w.heap.size + 1 + 1, 0, none⟩) (by show w.heap.size ≤ w.heap.size + 1 + 1; omega) ((.slice none 0 0))).setCell (p := ⟨w.heap.size + 1 + 1, 1, none⟩) (by show w.heap.size ≤ w.heap.size + 1 + 1; omega) ((.slice none 0 0)))
    clear r2_0 r2_1 fr2
    have r2_0 := HRF.out.cell (i := 0) rfl
    have r2_1 := HRF.out.cell (i := 1) rfl
    try (go_wp2_with fail)
    have HVB : Hid (prB gr bh bl m r n cs = false) := by unfold Hid; simp [prB, Hhc1.out]
    (try clear hpwA)
    (try clear ewpA)
    have HPR : Hid (prR gr sBit bh bl m r n cs = ⟨[], []⟩) := by unfold Hid prR; rw [if_neg (by rw [HVB.out]; simp)]
    refine bodyPost_ret (v := .tuple #[.agg #[(.slice none 0 0), (.slice none 0 0)], .bool false]) (by simp [results, Try.results15, go_sem, r2_0, r2_1]) rfl ⟨(by rw [HVB.out, HPR.out]; exact RetGB.mk (OwnI.nil _ _) (OwnQ.nil _ _ _)), HBF.out⟩
  | true =>
    have HBA := Lib.hid (baB_parts hc1)
    have HG := Lib.hid (goodG_ok HBA.out.1)
    have sbh : Small bh := elB_small HG.out HBA.out.2.1
    have Hhc1 := Lib.hid hc1
    clear hc1
    go_wp2_with fail
    refine (spec_rBits gr n _).mono ?_
    rintro e u2 ⟨rfl, hq2⟩
    replace hc := Below.next hc hq2
    clear hq2 c0_0 c0_1 c0_2 c1_0 c1_1
    obtain ⟨c0_0, c0_1, c0_2, c1_0, c1_1⟩ := HCC.out _ hc
    cases hc2 : rnB gr n with
    | false =>
      have Hhc2 := Lib.hid hc2
      clear hc2
      have HRE2 := Lib.hid (HR2.out.below hc)
      clear HR2
      have HBE := Lib.hid (HB.out.trans (hc.mono HB.out.size))
      have r2_0 := HRE2.out.cell (i := 0) rfl
      have r2_1 := HRE2.out.cell (i := 1) rfl
      have fr2 := fun j => HRE2.out.frozen j
      go_wp2_with fail
      have HRF := Lib.hid ((HRE2.out.set 0 ((.slice none 0 0))).set 1 ((.slice none 0 0)))
      have HBF := Lib.hid ((HBE.out.setCell (p := ⟨w.heap.size + 1 + 1, 0, none⟩) (by show w.heap.size ≤ w.heap.size + 1 + 1; omega) ((.slice none 0 0))).setCell (p := ⟨w.heap.size + 1 + 1, 1, none⟩) (by show w.heap.size ≤ w.heap.size + 1 + 1; omega) ((.slice none 0 0)))
      clear r2_0 r2_1 fr2
      have r2_0 := HRF.out.cell (i := 0) rfl
      have r2_1 := HRF.out.cell (i := 1) rfl
      try (go_wp2_with fail)
      have HVB : Hid (prB gr bh bl m r n cs = false) := by unfold Hid; simp [prB, Hhc1.out, Hhc2.out]
      (try clear hpwA)
      (try clear ewpA)
      have HPR : Hid (prR gr sBit bh bl m r n cs = ⟨[], []⟩) := by unfold Hid prR; rw [if_neg (by rw [HVB.out]; simp)]
      refine bodyPost_ret (v := .tuple #[.agg #[(.slice none 0 0), (.slice none 0 0)], .bool false]) (by simp [results, Try.results15, go_sem, r2_0, r2_1]) rfl ⟨(by rw [HVB.out, HPR.out]; exact RetGB.mk (OwnI.nil _ _) (OwnQ.nil _ _ _)), HBF.out⟩
    | true =>
      have zq1 := HG.out.q1
      have zq2 := HG.out.q2
      have zp2 := HG.out.p2
      have zq3 : gr.q ≤ 2000000000 := by omega
      have zq0 : 0 < gr.q := by omega
      have zq4 : gr.q ≤ 4000000000 := by omega
      have HRN := Lib.hid (rnB_parts hc2)
      obtain ⟨hn1, hn2⟩ := HRN.out.1
      obtain ⟨PW, hPW⟩ : ∃ z, (2 : Int) ^ n.toNat = z := ⟨_, rfl⟩
      have HPW := Lib.hid hPW
      obtain ⟨hpw1, hpw2⟩ : 1 ≤ PW ∧ PW ≤ 65536 := by rw [← hPW]; exact powR_bd n.toNat (by omega)
      have hpw : IntKind.i64.wrap (2 ^ min (IntKind.u64.wrap n).toNat 64) = PW := by
        have h := powS n.toNat (by omega)
        rw [Int.toNat_of_nonneg (by omega)] at h
        rw [h, hPW]
      have ewp : IntKind.i64.wrap (PW - 1) = PW - 1 := IntWalk.i64_in _ (by omega)
      have ew4 : IntKind.i64.wrap (4 * n) = 4 * n := IntWalk.i64_in _ (by omega)
      have ew5 : IntKind.i64.wrap (4 * n - 1) = 4 * n - 1 := IntWalk.i64_in _ (by omega)
      have ew6 : IntKind.i64.wrap (2 * (4 * n - 1)) = 2 * (4 * n - 1) := IntWalk.i64_in _ (by omega)
      have ew7 : IntKind.i64.wrap (8 * n) = 8 * n := IntWalk.i64_in _ (by omega)
      have ew8 : IntKind.i64.wrap (8 * n - 2) = 8 * n - 2 := IntWalk.i64_in _ (by omega)
      have ewpA : wrap64 (PW - 1) = PW - 1 := w64 (by omega) (by omega)
      have hpwA : wrap64 (2 ^ n.toNat) = PW := by rw [powR n.toNat (by omega), hPW]
      clear hPW
      have Hhc2 := Lib.hid hc2
      clear hc2
      go_wp2_with fail
      refine (spec_l1In m 0 (PW - 1) _).mono ?_
      rintro e u3 ⟨rfl, rfl⟩
      cases hc3 : decide (0 ≤ m ∧ m ≤ (PW - 1)) with
      | false =>
        have HMB : Hid (decide (0 ≤ m ∧ m ≤ 2 ^ n.toNat - 1) = false) := by unfold Hid; rw [HPW.out]; exact hc3
        have HRE2 := Lib.hid (HR2.out.below hc)
        clear HR2
        have HBE := Lib.hid (HB.out.trans (hc.mono HB.out.size))
        have r2_0 := HRE2.out.cell (i := 0) rfl
        have r2_1 := HRE2.out.cell (i := 1) rfl
        have fr2 := fun j => HRE2.out.frozen j
        go_wp2_with fail
        have HRF := Lib.hid ((HRE2.out.set 0 ((.slice none 0 0))).set 1 ((.slice none 0 0)))
        have HBF := Lib.hid ((HBE.out.setCell (p := ⟨w.heap.size + 1 + 1, 0, none⟩) (by show w.heap.size ≤ w.heap.size + 1 + 1; omega) ((.slice none 0 0))).setCell (p := ⟨w.heap.size + 1 + 1, 1, none⟩) (by show w.heap.size ≤ w.heap.size + 1 + 1; omega) ((.slice none 0 0)))
        clear r2_0 r2_1 fr2
        have r2_0 := HRF.out.cell (i := 0) rfl
        have r2_1 := HRF.out.cell (i := 1) rfl
        try (go_wp2_with fail)
        have HVB : Hid (prB gr bh bl m r n cs = false) := by unfold Hid; simp [prB, Hhc1.out, Hhc2.out, hc3, HMB.out]
        (try clear hpwA)
        (try clear ewpA)
        have HPR : Hid (prR gr sBit bh bl m r n cs = ⟨[], []⟩) := by unfold Hid prR; rw [if_neg (by rw [HVB.out]; simp)]
        refine bodyPost_ret (v := .tuple #[.agg #[(.slice none 0 0), (.slice none 0 0)], .bool false]) (by simp [results, Try.results15, go_sem, r2_0, r2_1]) rfl ⟨(by rw [HVB.out, HPR.out]; exact RetGB.mk (OwnI.nil _ _) (OwnQ.nil _ _ _)), HBF.out⟩
      | true =>
        have HMB : Hid (decide (0 ≤ m ∧ m ≤ 2 ^ n.toNat - 1) = true) := by unfold Hid; rw [HPW.out]; exact hc3
        have HM : Hid (0 ≤ m ∧ m ≤ 65535) := by have q := of_decide_eq_true hc3; unfold Hid; (try clear hpwA ewpA); omega
        go_wp2_with fail
        refine (spec_gExps gr _ [r] _ HG.out (OwnI.lit (B := 0) _ (Nat.zero_le _) (l := [r]) (AllI64.cons hr AllI64.nil) rfl (by simp [maxLen]) 1 rfl).ints).mono ?_
        rintro e u4 ⟨rfl, hq4⟩
        replace hq4 := Below.next (keep_al (Below.refl _ _) _) hq4
        replace hc := Below.next hc hq4
        clear hq4 c0_0 c0_1 c0_2 c1_0 c1_1
        obtain ⟨c0_0, c0_1, c0_2, c1_0, c1_1⟩ := HCC.out _ hc
        cases hc4 : [r].all (expB gr) with
        | false =>
          have Hhc4 := Lib.hid hc4
          clear hc4
          have HRE2 := Lib.hid (HR2.out.below hc)
          clear HR2
          have HBE := Lib.hid (HB.out.trans (hc.mono HB.out.size))
          have r2_0 := HRE2.out.cell (i := 0) rfl
          have r2_1 := HRE2.out.cell (i := 1) rfl
          have fr2 := fun j => HRE2.out.frozen j
          go_wp2_with fail
          have HRF := Lib.hid ((HRE2.out.set 0 ((.slice none 0 0))).set 1 ((.slice none 0 0)))
          have HBF := Lib.hid ((HBE.out.setCell (p := ⟨w.heap.size + 1 + 1, 0, none⟩) (by show w.heap.size ≤ w.heap.size + 1 + 1; omega) ((.slice none 0 0))).setCell (p := ⟨w.heap.size + 1 + 1, 1, none⟩) (by show w.heap.size ≤ w.heap.size + 1 + 1; omega) ((.slice none 0 0)))
          clear r2_0 r2_1 fr2
          have r2_0 := HRF.out.cell (i := 0) rfl
          have r2_1 := HRF.out.cell (i := 1) rfl
          try (go_wp2_with fail)
          have HVB : Hid (prB gr bh bl m r n cs = false) := by unfold Hid; have qhc4 := Hhc4.out; simp only [List.all_cons, List.all_nil, Bool.and_true] at qhc4; simp [prB, Hhc1.out, Hhc2.out, hc3, qhc4, HMB.out]
          (try clear hpwA)
          (try clear ewpA)
          have HPR : Hid (prR gr sBit bh bl m r n cs = ⟨[], []⟩) := by unfold Hid prR; rw [if_neg (by rw [HVB.out]; simp)]
          refine bodyPost_ret (v := .tuple #[.agg #[(.slice none 0 0), (.slice none 0 0)], .bool false]) (by simp [results, Try.results15, go_sem, r2_0, r2_1]) rfl ⟨(by rw [HVB.out, HPR.out]; exact RetGB.mk (OwnI.nil _ _) (OwnQ.nil _ _ _)), HBF.out⟩
        | true =>
          have HR : Hid (expB gr r = true) := by unfold Hid; simpa using hc4
          have Hhc4 := Lib.hid hc4
          clear hc4
          cases hc5 : ((cvn : Int) != (4 * n - 1)) with
          | false =>
            have HL2 : Hid (decide ((cs.length : Int) = 4 * n - 1) = true) := by have q := hc5; rw [bne_eq_false_iff_eq] at q; exact decide_eq_true (by have := Ecv.out; (try clear hpwA ewpA); omega)
            go_wp2_with fail
            refine (spec_gExps gr _ cs _ HG.out (Hcv.out.below (HB.out.trans (hc.mono HB.out.size)))).mono ?_
            rintro e u5 ⟨rfl, hq5⟩
            replace hc := Below.next hc hq5
            clear hq5 c0_0 c0_1 c0_2 c1_0 c1_1
            obtain ⟨c0_0, c0_1, c0_2, c1_0, c1_1⟩ := HCC.out _ hc
            cases hc6 : cs.all (expB gr) with
            | false =>
              have Hhc6 := Lib.hid hc6
              clear hc6
              have HRE2 := Lib.hid (HR2.out.below hc)
              clear HR2
              have HBE := Lib.hid (HB.out.trans (hc.mono HB.out.size))
              have r2_0 := HRE2.out.cell (i := 0) rfl
              have r2_1 := HRE2.out.cell (i := 1) rfl
              have fr2 := fun j => HRE2.out.frozen j
              go_wp2_with fail
              have HRF := Lib.hid ((HRE2.out.set 0 ((.slice none 0 0))).set 1 ((.slice none 0 0)))
              have HBF := Lib.hid ((HBE.out.setCell (p := ⟨w.heap.size + 1 + 1, 0, none⟩) (by show w.heap.size ≤ w.heap.size + 1 + 1; omega) ((.slice none 0 0))).setCell (p := ⟨w.heap.size + 1 + 1, 1, none⟩) (by show w.heap.size ≤ w.heap.size + 1 + 1; omega) ((.slice none 0 0)))
              clear r2_0 r2_1 fr2
              have r2_0 := HRF.out.cell (i := 0) rfl
              have r2_1 := HRF.out.cell (i := 1) rfl
              try (go_wp2_with fail)
              have HVB : Hid (prB gr bh bl m r n cs = false) := by unfold Hid; have qhc4 := Hhc4.out; simp only [List.all_cons, List.all_nil, Bool.and_true] at qhc4; simp [prB, Hhc1.out, Hhc2.out, hc3, qhc4, hc5, Hhc6.out, HMB.out, HL2.out]
              (try clear hpwA)
              (try clear ewpA)
              have HPR : Hid (prR gr sBit bh bl m r n cs = ⟨[], []⟩) := by unfold Hid prR; rw [if_neg (by rw [HVB.out]; simp)]
              refine bodyPost_ret (v := .tuple #[.agg #[(.slice none 0 0), (.slice none 0 0)], .bool false]) (by simp [results, Try.results15, go_sem, r2_0, r2_1]) rfl ⟨(by rw [HVB.out, HPR.out]; exact RetGB.mk (OwnI.nil _ _) (OwnQ.nil _ _ _)), HBF.out⟩
            | true =>
              have HCA : Hid (cs.all (expB gr) = true) := hc6
              have Hhc6 := Lib.hid hc6
              clear hc6
              go_wp2_with fail
              refine (spec_rRangeN gr bh _ bl m r n _ cs _ HG.out (Hbv.out.below (HB.out.trans (hc.mono HB.out.size))) sbh HM.out HR.out ⟨hn1, hn2⟩ (Hcv.out.below (HB.out.trans (hc.mono HB.out.size))) (of_decide_eq_true HL2.out) HCA.out).mono ?_
              rintro e u6 ⟨⟨x0, x1, rfl, ho0, hoq⟩, hq6⟩
              have hszv := hc.size
              obtain ⟨xa0, xc0, rfl⟩ := OwnI.shapeN (n := n.toNat) ho0 (rgB_len _ _ _ _ _)
              obtain ⟨xa1, xc1, rfl⟩ := OwnQ.shapeN (n := n.toNat) hoq (rgP_len _ _ _ _ _ _ _)
              replace hc := Below.next hc hq6
              clear hq6 c0_0 c0_1 c0_2 c1_0 c1_1
              obtain ⟨c0_0, c0_1, c0_2, c1_0, c1_1⟩ := HCC.out _ hc
              have HRE2 := Lib.hid (HR2.out.below hc)
              clear HR2
              have HBE := Lib.hid (HB.out.trans (hc.mono HB.out.size))
              have r2_0 := HRE2.out.cell (i := 0) rfl
              have r2_1 := HRE2.out.cell (i := 1) rfl
              have fr2 := fun j => HRE2.out.frozen j
              go_wp2_with fail
              have HRF := Lib.hid ((HRE2.out.set 0 ((.slice xa0 n.toNat xc0))).set 1 ((.slice xa1 n.toNat xc1)))
              have HBF := Lib.hid ((HBE.out.setCell (p := ⟨w.heap.size + 1 + 1, 0, none⟩) (by show w.heap.size ≤ w.heap.size + 1 + 1; omega) ((.slice xa0 n.toNat xc0))).setCell (p := ⟨w.heap.size + 1 + 1, 1, none⟩) (by show w.heap.size ≤ w.heap.size + 1 + 1; omega) ((.slice xa1 n.toNat xc1)))
              clear r2_0 r2_1 fr2
              have r2_0 := HRF.out.cell (i := 0) rfl
              have r2_1 := HRF.out.cell (i := 1) rfl
              try (go_wp2_with fail)
              have HVB : Hid (prB gr bh bl m r n cs = true) := by unfold Hid; have qhc4 := Hhc4.out; simp only [List.all_cons, List.all_nil, Bool.and_true] at qhc4; simp [prB, Hhc1.out, Hhc2.out, hc3, qhc4, hc5, Hhc6.out, HMB.out, HL2.out]
              (try clear hpwA)
              (try clear ewpA)
              have HPR : Hid (prR gr sBit bh bl m r n cs = rgD gr sBit bh m r n.toNat cs) := by unfold Hid prR; rw [if_pos HVB.out]
              refine bodyPost_ret (v := .tuple #[.agg #[(.slice xa0 n.toNat xc0), (.slice xa1 n.toNat xc1)], .bool true]) (by simp [results, Try.results15, go_sem, r2_0, r2_1]) rfl ⟨(by rw [HVB.out, HPR.out]; exact RetGB.mk (((ho0.other (b := w.heap.size + 1 + 1) (by omega) 0 ((.slice xa0 n.toNat xc0))).other (b := w.heap.size + 1 + 1) (by omega) 1 ((.slice xa1 n.toNat xc1))).mono (by omega)) (((hoq.other (b := w.heap.size + 1 + 1) (by omega) 0 ((.slice xa0 n.toNat xc0))).other (b := w.heap.size + 1 + 1) (by omega) 1 ((.slice xa1 n.toNat xc1))).mono (by omega))), HBF.out⟩
          | true =>
            have HL2 : Hid (decide ((cs.length : Int) = 4 * n - 1) = false) := by have q := hc5; rw [bne_iff_ne] at q; exact decide_eq_false (by have := Ecv.out; (try clear hpwA ewpA); omega)
            have HRE2 := Lib.hid (HR2.out.below hc)
            clear HR2
            have HBE := Lib.hid (HB.out.trans (hc.mono HB.out.size))
            have r2_0 := HRE2.out.cell (i := 0) rfl
            have r2_1 := HRE2.out.cell (i := 1) rfl
            have fr2 := fun j => HRE2.out.frozen j
            go_wp2_with fail
            have HRF := Lib.hid ((HRE2.out.set 0 ((.slice none 0 0))).set 1 ((.slice none 0 0)))
            have HBF := Lib.hid ((HBE.out.setCell (p := ⟨w.heap.size + 1 + 1, 0, none⟩) (by show w.heap.size ≤ w.heap.size + 1 + 1; omega) ((.slice none 0 0))).setCell (p := ⟨w.heap.size + 1 + 1, 1, none⟩) (by show w.heap.size ≤ w.heap.size + 1 + 1; omega) ((.slice none 0 0)))
            clear r2_0 r2_1 fr2
            have r2_0 := HRF.out.cell (i := 0) rfl
            have r2_1 := HRF.out.cell (i := 1) rfl
            try (go_wp2_with fail)
            have HVB : Hid (prB gr bh bl m r n cs = false) := by unfold Hid; have qhc4 := Hhc4.out; simp only [List.all_cons, List.all_nil, Bool.and_true] at qhc4; simp [prB, Hhc1.out, Hhc2.out, hc3, qhc4, hc5, HMB.out, HL2.out]
            (try clear hpwA)
            (try clear ewpA)
            have HPR : Hid (prR gr sBit bh bl m r n cs = ⟨[], []⟩) := by unfold Hid prR; rw [if_neg (by rw [HVB.out]; simp)]
            refine bodyPost_ret (v := .tuple #[.agg #[(.slice none 0 0), (.slice none 0 0)], .bool false]) (by simp [results, Try.results15, go_sem, r2_0, r2_1]) rfl ⟨(by rw [HVB.out, HPR.out]; exact RetGB.mk (OwnI.nil _ _) (OwnQ.nil _ _ _)), HBF.out⟩
set_option maxRecDepth 100000 in
set_option maxHeartbeats 2000000 in
theorem impl_VerifyRange (gr : GroupD) (bh : Int) (bv : Value) (bl : List Int) (c0 n : Int) (xb xp : Value) (x : RangeD) (w : World) (hb : Ints w bv bl) (ibh : I64 bh) (ic0 : I64 c0) (hn : I64 n) (hxb : Ints w xb x.b) (hxp : RdR rProof w xp x.p) :
    Calls Try.prog 17 #[.agg #[.int .i64 gr.p, .int .i64 gr.q, .int .i64 gr.g], .agg #[.int .i64 bh, bv], .int .i64 c0, .int .i64 n, .agg #[xb, xp]] w fun e w' => e = .returned (.tuple #[.bool (vrR gr sBit bh bl c0 n x), .bool (vrA gr bh bl c0 n)]) ∧ Below w.heap.size w w' := by
  obtain ⟨bva, bvn, bvc, rfl⟩ := hb.shape
  have Ebv := Lib.hid hb.len
  have Kbv := Lib.hid hb.capMax
  have Hbv := Lib.hid hb
  clear hb
  obtain ⟨xba, xbn, xbc, rfl⟩ := hxb.shape
  have Exb := Lib.hid hxb.len
  have Kxb := Lib.hid hxb.capMax
  have Hxb := Lib.hid hxb
  clear hxb
  obtain ⟨xpa, xpn, xpc, rfl⟩ := hxp.shape
  have Exp := Lib.hid hxp.len
  have Kxp := Lib.hid hxp.capMax
  have Hxp := Lib.hid hxp
  clear hxp
  obtain ⟨W, hW⟩ : ∃ W, W = ((w.alloc (.cells #[.int .i64 gr.p, .int .i64 gr.q, .int .i64 gr.g] 25)).alloc (.cells #[.int .i64 bh, (.slice bva bvn bvc)] 28)).alloc (.cells #[(.slice xba xbn xbc), (.slice xpa xpn xpc)] 33) := ⟨_, rfl⟩
  have HB : Hid (Below w.heap.size w W) := by unfold Hid; rw [hW]; (repeat (first | exact Below.refl _ _ | assumption | refine Below.drew ?_ | refine Below.alloc ?_ (by first | (simp; done) | (simp; omega)) _ | refine Below.setCell ?_ (by first | (simp; done) | (simp; omega)) _))
  have c0_0 : W.cell? ⟨w.heap.size, 0, none⟩ = some (.int .i64 gr.p) := by rw [hW]; simp [go_sem]
  have c0_1 : W.cell? ⟨w.heap.size, 1, none⟩ = some (.int .i64 gr.q) := by rw [hW]; simp [go_sem]
  have c0_2 : W.cell? ⟨w.heap.size, 2, none⟩ = some (.int .i64 gr.g) := by rw [hW]; simp [go_sem]
  have c1_0 : W.cell? ⟨w.heap.size + 1, 0, none⟩ = some (.int .i64 bh) := by rw [hW]; simp [go_sem]
  have c1_1 : W.cell? ⟨w.heap.size + 1, 1, none⟩ = some ((.slice bva bvn bvc)) := by rw [hW]; simp [go_sem]
  have c2_0 : W.cell? ⟨w.heap.size + 1 + 1, 0, none⟩ = some ((.slice xba xbn xbc)) := by rw [hW]; simp [go_sem]
  have c2_1 : W.cell? ⟨w.heap.size + 1 + 1, 1, none⟩ = some ((.slice xpa xpn xpc)) := by rw [hW]; simp [go_sem]
  have HSW : Hid (W.heap.size = w.heap.size + 3) := by unfold Hid; rw [hW]; simp
  go_enter Try.func17, Try.ntmps17
  go_wp2_with fail
  rw [← hW]
  have hse : w.heap.size + 1 + 1 + 1 = W.heap.size := by have := HSW.out; omega
  (try rw [hse])
  clear hse
  clear hW
  have hc : Below W.heap.size W W := Below.refl _ _
  have HCC : Hid (∀ u, Below W.heap.size W u → u.cell? ⟨w.heap.size, 0, none⟩ = some (.int .i64 gr.p) ∧ u.cell? ⟨w.heap.size, 1, none⟩ = some (.int .i64 gr.q) ∧ u.cell? ⟨w.heap.size, 2, none⟩ = some (.int .i64 gr.g) ∧ u.cell? ⟨w.heap.size + 1, 0, none⟩ = some (.int .i64 bh) ∧ u.cell? ⟨w.heap.size + 1, 1, none⟩ = some ((.slice bva bvn bvc)) ∧ u.cell? ⟨w.heap.size + 1 + 1, 0, none⟩ = some ((.slice xba xbn xbc)) ∧ u.cell? ⟨w.heap.size + 1 + 1, 1, none⟩ = some ((.slice xpa xpn xpc))) := fun u h => ⟨box_at c0_0 h, box_at c0_1 h, box_at c0_2 h, box_at c1_0 h, box_at c1_1 h, box_at c2_0 h, box_at c2_1 h⟩
  go_wp2_with fail
  refine (impl_IsValidBases gr bh _ bl _ (Hbv.out.below (HB.out.trans (hc.mono HB.out.size))) ibh).mono ?_
  rintro e u1 ⟨rfl, hq1⟩
  replace hc := Below.next hc hq1
  clear hq1 c0_0 c0_1 c0_2 c1_0 c1_1 c2_0 c2_1
  obtain ⟨c0_0, c0_1, c0_2, c1_0, c1_1, c2_0, c2_1⟩ := HCC.out _ hc
  cases hc1 : baB gr bh bl with
  | false =>
    have Hhc1 := Lib.hid hc1
    clear hc1
    go_wp2_with fail
    have HV : Hid ((.tuple #[.bool (vrR gr sBit bh bl c0 n x), .bool (vrA gr bh bl c0 n)] : Value) = .tuple #[.bool false, .bool false]) := by unfold Hid; simp [vrR, vrA, Hhc1.out]
    go_ret2
    exact ⟨congrArg Ending.returned HV.out.symm, HB.out.trans (hc.mono HB.out.size)⟩
  | true =>
    have HBA := Lib.hid (baB_parts hc1)
    have HG := Lib.hid (goodG_ok HBA.out.1)
    have sbh : Small bh := elB_small HG.out HBA.out.2.1
    have Hhc1 := Lib.hid hc1
    clear hc1
    go_wp2_with fail
    refine (impl_has gr c0 _ HG.out).mono ?_
    rintro e u2 ⟨rfl, hq2⟩
    replace hc := Below.next hc hq2
    clear hq2 c0_0 c0_1 c0_2 c1_0 c1_1 c2_0 c2_1
    obtain ⟨c0_0, c0_1, c0_2, c1_0, c1_1, c2_0, c2_1⟩ := HCC.out _ hc
    cases hc2 : elB gr c0 with
    | false =>
      have Hhc2 := Lib.hid hc2
      clear hc2
      go_wp2_with fail
      have HV : Hid ((.tuple #[.bool (vrR gr sBit bh bl c0 n x), .bool (vrA gr bh bl c0 n)] : Value) = .tuple #[.bool false, .bool false]) := by unfold Hid; simp [vrR, vrA, Hhc1.out, Hhc2.out]
      go_ret2
      exact ⟨congrArg Ending.returned HV.out.symm, HB.out.trans (hc.mono HB.out.size)⟩
    | true =>
      have sc0 : Small c0 := elB_small HG.out hc2
      have Hhc2 := Lib.hid hc2
      clear hc2
      go_wp2_with fail
      refine (impl_isRange gr n _).mono ?_
      rintro e u3 ⟨rfl, hq3⟩
      replace hc := Below.next hc hq3
      clear hq3 c0_0 c0_1 c0_2 c1_0 c1_1 c2_0 c2_1
      obtain ⟨c0_0, c0_1, c0_2, c1_0, c1_1, c2_0, c2_1⟩ := HCC.out _ hc
      cases hc3 : rnB gr n with
      | false =>
        have Hhc3 := Lib.hid hc3
        clear hc3
        go_wp2_with fail
        have HV : Hid ((.tuple #[.bool (vrR gr sBit bh bl c0 n x), .bool (vrA gr bh bl c0 n)] : Value) = .tuple #[.bool false, .bool false]) := by unfold Hid; simp [vrR, vrA, Hhc1.out, Hhc2.out, Hhc3.out]
        go_ret2
        exact ⟨congrArg Ending.returned HV.out.symm, HB.out.trans (hc.mono HB.out.size)⟩
      | true =>
        have zq1 := HG.out.q1
        have zq2 := HG.out.q2
        have zp2 := HG.out.p2
        have zq3 : gr.q ≤ 2000000000 := by omega
        have zq0 : 0 < gr.q := by omega
        have zq4 : gr.q ≤ 4000000000 := by omega
        have HRN := Lib.hid (rnB_parts hc3)
        obtain ⟨hn1, hn2⟩ := HRN.out.1
        obtain ⟨PW, hPW⟩ : ∃ z, (2 : Int) ^ n.toNat = z := ⟨_, rfl⟩
        have HPW := Lib.hid hPW
        obtain ⟨hpw1, hpw2⟩ : 1 ≤ PW ∧ PW ≤ 65536 := by rw [← hPW]; exact powR_bd n.toNat (by omega)
        have hpw : IntKind.i64.wrap (2 ^ min (IntKind.u64.wrap n).toNat 64) = PW := by
          have h := powS n.toNat (by omega)
          rw [Int.toNat_of_nonneg (by omega)] at h
          rw [h, hPW]
        have ewp : IntKind.i64.wrap (PW - 1) = PW - 1 := IntWalk.i64_in _ (by omega)
        have ew4 : IntKind.i64.wrap (4 * n) = 4 * n := IntWalk.i64_in _ (by omega)
        have ew5 : IntKind.i64.wrap (4 * n - 1) = 4 * n - 1 := IntWalk.i64_in _ (by omega)
        have ew6 : IntKind.i64.wrap (2 * (4 * n - 1)) = 2 * (4 * n - 1) := IntWalk.i64_in _ (by omega)
        have ew7 : IntKind.i64.wrap (8 * n) = 8 * n := IntWalk.i64_in _ (by omega)
        have ew8 : IntKind.i64.wrap (8 * n - 2) = 8 * n - 2 := IntWalk.i64_in _ (by omega)
        have ewpA : wrap64 (PW - 1) = PW - 1 := w64 (by omega) (by omega)
        have hpwA : wrap64 (2 ^ n.toNat) = PW := by rw [powR n.toNat (by omega), hPW]
        clear hPW
        clear ewpA hpwA
        have Hhc3 := Lib.hid hc3
        clear hc3
        go_wp2_with fail
        refine (impl_verifyRangeN gr bh _ bl c0 n _ _ x _ HG.out (Hbv.out.below (HB.out.trans (hc.mono HB.out.size))) sbh ⟨hn1, hn2⟩ (Hxb.out.below (HB.out.trans (hc.mono HB.out.size))) (Hxp.out.below (HB.out.trans (hc.mono HB.out.size)))).mono ?_
        rintro e u4 ⟨rfl, hq4⟩
        replace hc := Below.next hc hq4
        clear hq4 c0_0 c0_1 c0_2 c1_0 c1_1 c2_0 c2_1
        obtain ⟨c0_0, c0_1, c0_2, c1_0, c1_1, c2_0, c2_1⟩ := HCC.out _ hc
        cases hc4 : vrV gr sBit bh c0 n.toNat x with
        | false =>
          have Hhc4 := Lib.hid hc4
          clear hc4
          go_wp2_with fail
          have HV : Hid ((.tuple #[.bool (vrR gr sBit bh bl c0 n x), .bool (vrA gr bh bl c0 n)] : Value) = .tuple #[.bool false, .bool true]) := by unfold Hid; simp [vrR, vrA, Hhc1.out, Hhc2.out, Hhc3.out, Hhc4.out]
          go_ret2
          exact ⟨congrArg Ending.returned HV.out.symm, HB.out.trans (hc.mono HB.out.size)⟩
        | true =>
          have Hhc4 := Lib.hid hc4
          clear hc4
          go_wp2_with fail
          have HV : Hid ((.tuple #[.bool (vrR gr sBit bh bl c0 n x), .bool (vrA gr bh bl c0 n)] : Value) = .tuple #[.bool true, .bool true]) := by unfold Hid; simp [vrR, vrA, Hhc1.out, Hhc2.out, Hhc3.out, Hhc4.out]
          go_ret2
          exact ⟨congrArg Ending.returned HV.out.symm, HB.out.trans (hc.mono HB.out.size)⟩
set_option maxRecDepth 100000 in
set_option maxHeartbeats 2000000 in
theorem impl_VerifyInterval (gr : GroupD) (bh : Int) (bv : Value) (bl : List Int) (c0 lo hi n : Int) (xb xp : Value) (x : RangeD) (yb yp : Value) (y : RangeD) (w : World) (hb : Ints w bv bl) (ibh : I64 bh) (ic0 : I64 c0) (hlo : I64 lo) (hhi : I64 hi) (hn : I64 n) (hxb : Ints w xb x.b) (hxp : RdR rProof w xp x.p) (hyb : Ints w yb y.b) (hyp : RdR rProof w yp y.p) :
    Calls Try.prog 21 #[.agg #[.int .i64 gr.p, .int .i64 gr.q, .int .i64 gr.g], .agg #[.int .i64 bh, bv], .int .i64 c0, .int .i64 lo, .int .i64 hi, .int .i64 n, .agg #[xb, xp], .agg #[yb, yp]] w fun e w' => e = .returned (.tuple #[.bool (viR gr sBit bh bl c0 lo hi n x y), .bool (viA gr bh bl c0 lo hi n)]) ∧ Below w.heap.size w w' := by
  obtain ⟨bva, bvn, bvc, rfl⟩ := hb.shape
  have Ebv := Lib.hid hb.len
  have Kbv := Lib.hid hb.capMax
  have Hbv := Lib.hid hb
  clear hb
  obtain ⟨xba, xbn, xbc, rfl⟩ := hxb.shape
  have Exb := Lib.hid hxb.len
  have Kxb := Lib.hid hxb.capMax
  have Hxb := Lib.hid hxb
  clear hxb
  obtain ⟨xpa, xpn, xpc, rfl⟩ := hxp.shape
  have Exp := Lib.hid hxp.len
  have Kxp := Lib.hid hxp.capMax
  have Hxp := Lib.hid hxp
  clear hxp
  obtain ⟨yba, ybn, ybc, rfl⟩ := hyb.shape
  have Eyb := Lib.hid hyb.len
  have Kyb := Lib.hid hyb.capMax
  have Hyb := Lib.hid hyb
  clear hyb
  obtain ⟨ypa, ypn, ypc, rfl⟩ := hyp.shape
  have Eyp := Lib.hid hyp.len
  have Kyp := Lib.hid hyp.capMax
  have Hyp := Lib.hid hyp
  clear hyp
  obtain ⟨W, hW⟩ : ∃ W, W = (((w.alloc (.cells #[.int .i64 gr.p, .int .i64 gr.q, .int .i64 gr.g] 25)).alloc (.cells #[.int .i64 bh, (.slice bva bvn bvc)] 28)).alloc (.cells #[(.slice xba xbn xbc), (.slice xpa xpn xpc)] 33)).alloc (.cells #[(.slice yba ybn ybc), (.slice ypa ypn ypc)] 33) := ⟨_, rfl⟩
  have HB : Hid (Below w.heap.size w W) := by unfold Hid; rw [hW]; (repeat (first | exact Below.refl _ _ | assumption | refine Below.drew ?_ | refine Below.alloc ?_ (by first | (simp; done) | (simp; omega)) _ | refine Below.setCell ?_ (by first | (simp; done) | (simp; omega)) _))
  have c0_0 : W.cell? ⟨w.heap.size, 0, none⟩ = some (.int .i64 gr.p) := by rw [hW]; simp [go_sem]
  have c0_1 : W.cell? ⟨w.heap.size, 1, none⟩ = some (.int .i64 gr.q) := by rw [hW]; simp [go_sem]
  have c0_2 : W.cell? ⟨w.heap.size, 2, none⟩ = some (.int .i64 gr.g) := by rw [hW]; simp [go_sem]
  have c1_0 : W.cell? ⟨w.heap.size + 1, 0, none⟩ = some (.int .i64 bh) := by rw [hW]; simp [go_sem]
  have c1_1 : W.cell? ⟨w.heap.size + 1, 1, none⟩ = some ((.slice bva bvn bvc)) := by rw [hW]; simp [go_sem]
  have c2_0 : W.cell? ⟨w.heap.size + 1 + 1, 0, none⟩ = some ((.slice xba xbn xbc)) := by rw [hW]; simp [go_sem]
  have c2_1 : W.cell? ⟨w.heap.size + 1 + 1, 1, none⟩ = some ((.slice xpa xpn xpc)) := by rw [hW]; simp [go_sem]
  have c3_0 : W.cell? ⟨w.heap.size + 1 + 1 + 1, 0, none⟩ = some ((.slice yba ybn ybc)) := by rw [hW]; simp [go_sem]
  have c3_1 : W.cell? ⟨w.heap.size + 1 + 1 + 1, 1, none⟩ = some ((.slice ypa ypn ypc)) := by rw [hW]; simp [go_sem]
  have HSW : Hid (W.heap.size = w.heap.size + 4) := by unfold Hid; rw [hW]; simp
  go_enter Try.func21, Try.ntmps21
  go_wp2_with fail
  rw [← hW]
  have hse : w.heap.size + 1 + 1 + 1 + 1 = W.heap.size := by have := HSW.out; omega
  (try rw [hse])
  clear hse
  clear hW
  have hc : Below W.heap.size W W := Below.refl _ _
  have HCC : Hid (∀ u, Below W.heap.size W u → u.cell? ⟨w.heap.size, 0, none⟩ = some (.int .i64 gr.p) ∧ u.cell? ⟨w.heap.size, 1, none⟩ = some (.int .i64 gr.q) ∧ u.cell? ⟨w.heap.size, 2, none⟩ = some (.int .i64 gr.g) ∧ u.cell? ⟨w.heap.size + 1, 0, none⟩ = some (.int .i64 bh) ∧ u.cell? ⟨w.heap.size + 1, 1, none⟩ = some ((.slice bva bvn bvc)) ∧ u.cell? ⟨w.heap.size + 1 + 1, 0, none⟩ = some ((.slice xba xbn xbc)) ∧ u.cell? ⟨w.heap.size + 1 + 1, 1, none⟩ = some ((.slice xpa xpn xpc)) ∧ u.cell? ⟨w.heap.size + 1 + 1 + 1, 0, none⟩ = some ((.slice yba ybn ybc)) ∧ u.cell? ⟨w.heap.size + 1 + 1 + 1, 1, none⟩ = some ((.slice ypa ypn ypc))) := fun u h => ⟨box_at c0_0 h, box_at c0_1 h, box_at c0_2 h, box_at c1_0 h, box_at c1_1 h, box_at c2_0 h, box_at c2_1 h, box_at c3_0 h, box_at c3_1 h⟩
  go_wp2_with fail
  refine (impl_IsValidBases gr bh _ bl _ (Hbv.out.below (HB.out.trans (hc.mono HB.out.size))) ibh).mono ?_
  rintro e u1 ⟨rfl, hq1⟩
  replace hc := Below.next hc hq1
  clear hq1 c0_0 c0_1 c0_2 c1_0 c1_1 c2_0 c2_1 c3_0 c3_1
  obtain ⟨c0_0, c0_1, c0_2, c1_0, c1_1, c2_0, c2_1, c3_0, c3_1⟩ := HCC.out _ hc
  cases hc1 : baB gr bh bl with
  | false =>
    have Hhc1 := Lib.hid hc1
    clear hc1
    go_wp2_with fail
    have HV : Hid ((.tuple #[.bool (viR gr sBit bh bl c0 lo hi n x y), .bool (viA gr bh bl c0 lo hi n)] : Value) = .tuple #[.bool false, .bool false]) := by unfold Hid; simp [viR, viA, Hhc1.out]
    go_ret2
    exact ⟨congrArg Ending.returned HV.out.symm, HB.out.trans (hc.mono HB.out.size)⟩
  | true =>
    have HBA := Lib.hid (baB_parts hc1)
    have HG := Lib.hid (goodG_ok HBA.out.1)
    have sbh : Small bh := elB_small HG.out HBA.out.2.1
    have Hhc1 := Lib.hid hc1
    clear hc1
    go_wp2_with fail
    refine (impl_has gr c0 _ HG.out).mono ?_
    rintro e u2 ⟨rfl, hq2⟩
    replace hc := Below.next hc hq2
    clear hq2 c0_0 c0_1 c0_2 c1_0 c1_1 c2_0 c2_1 c3_0 c3_1
    obtain ⟨c0_0, c0_1, c0_2, c1_0, c1_1, c2_0, c2_1, c3_0, c3_1⟩ := HCC.out _ hc
    cases hc2 : elB gr c0 with
    | false =>
      have Hhc2 := Lib.hid hc2
      clear hc2
      go_wp2_with fail
      have HV : Hid ((.tuple #[.bool (viR gr sBit bh bl c0 lo hi n x y), .bool (viA gr bh bl c0 lo hi n)] : Value) = .tuple #[.bool false, .bool false]) := by unfold Hid; simp [viR, viA, Hhc1.out, Hhc2.out]
      go_ret2
      exact ⟨congrArg Ending.returned HV.out.symm, HB.out.trans (hc.mono HB.out.size)⟩
    | true =>
      have sc0 : Small c0 := elB_small HG.out hc2
      have Hhc2 := Lib.hid hc2
      clear hc2
      go_wp2_with fail
      refine (impl_areExps gr _ [lo, hi] _ HG.out (OwnI.lit (B := 0) _ (Nat.zero_le _) (l := [lo, hi]) (AllI64.cons hlo (AllI64.cons hhi AllI64.nil)) rfl (by simp [maxLen]) 2 rfl).ints).mono ?_
      rintro e u3 ⟨rfl, hq3⟩
      replace hq3 := Below.next (keep_al (Below.refl _ _) _) hq3
      replace hc := Below.next hc hq3
      clear hq3 c0_0 c0_1 c0_2 c1_0 c1_1 c2_0 c2_1 c3_0 c3_1
      obtain ⟨c0_0, c0_1, c0_2, c1_0, c1_1, c2_0, c2_1, c3_0, c3_1⟩ := HCC.out _ hc
      cases hc3 : [lo, hi].all (expB gr) with
      | false =>
        have Hhc3 := Lib.hid hc3
        clear hc3
        go_wp2_with fail
        have HV : Hid ((.tuple #[.bool (viR gr sBit bh bl c0 lo hi n x y), .bool (viA gr bh bl c0 lo hi n)] : Value) = .tuple #[.bool false, .bool false]) := by unfold Hid; have qhc3 := Hhc3.out; simp only [List.all_cons, List.all_nil, Bool.and_true] at qhc3; simp [viR, viA, Hhc1.out, Hhc2.out, qhc3]
        go_ret2
        exact ⟨congrArg Ending.returned HV.out.symm, HB.out.trans (hc.mono HB.out.size)⟩
      | true =>
        have HLO : Hid (expB gr lo = true ∧ expB gr hi = true) := by have q := hc3; unfold Hid; simpa using q
        obtain ⟨l1, l2⟩ := expB_bd HLO.out.1
        obtain ⟨i1, i2⟩ := expB_bd HLO.out.2
        have yq2 := HG.out.q2
        have yp2 := HG.out.p2
        have ewl : IntKind.i64.wrap (-lo) = -lo := IntWalk.i64_in _ (by omega)
        have HIL : Hid (I64 (-lo)) := ⟨by omega, by omega⟩
        have sgg : Small gr.g := elB_small HG.out (elT_gen HBA.out.1)
        have Hhc3 := Lib.hid hc3
        clear hc3
        go_wp2_with fail
        refine (impl_isRange gr n _).mono ?_
        rintro e u4 ⟨rfl, hq4⟩
        replace hc := Below.next hc hq4
        clear hq4 c0_0 c0_1 c0_2 c1_0 c1_1 c2_0 c2_1 c3_0 c3_1
        obtain ⟨c0_0, c0_1, c0_2, c1_0, c1_1, c2_0, c2_1, c3_0, c3_1⟩ := HCC.out _ hc
        cases hc4 : rnB gr n with
        | false =>
          have Hhc4 := Lib.hid hc4
          clear hc4
          go_wp2_with fail
          have HV : Hid ((.tuple #[.bool (viR gr sBit bh bl c0 lo hi n x y), .bool (viA gr bh bl c0 lo hi n)] : Value) = .tuple #[.bool false, .bool false]) := by unfold Hid; have qhc3 := Hhc3.out; simp only [List.all_cons, List.all_nil, Bool.and_true] at qhc3; simp [viR, viA, Hhc1.out, Hhc2.out, qhc3, Hhc4.out]
          go_ret2
          exact ⟨congrArg Ending.returned HV.out.symm, HB.out.trans (hc.mono HB.out.size)⟩
        | true =>
          have zq1 := HG.out.q1
          have zq2 := HG.out.q2
          have zp2 := HG.out.p2
          have zq3 : gr.q ≤ 2000000000 := by omega
          have zq0 : 0 < gr.q := by omega
          have zq4 : gr.q ≤ 4000000000 := by omega
          have HRN := Lib.hid (rnB_parts hc4)
          obtain ⟨hn1, hn2⟩ := HRN.out.1
          obtain ⟨PW, hPW⟩ : ∃ z, (2 : Int) ^ n.toNat = z := ⟨_, rfl⟩
          have HPW := Lib.hid hPW
          obtain ⟨hpw1, hpw2⟩ : 1 ≤ PW ∧ PW ≤ 65536 := by rw [← hPW]; exact powR_bd n.toNat (by omega)
          have hpw : IntKind.i64.wrap (2 ^ min (IntKind.u64.wrap n).toNat 64) = PW := by
            have h := powS n.toNat (by omega)
            rw [Int.toNat_of_nonneg (by omega)] at h
            rw [h, hPW]
          have ewp : IntKind.i64.wrap (PW - 1) = PW - 1 := IntWalk.i64_in _ (by omega)
          have ew4 : IntKind.i64.wrap (4 * n) = 4 * n := IntWalk.i64_in _ (by omega)
          have ew5 : IntKind.i64.wrap (4 * n - 1) = 4 * n - 1 := IntWalk.i64_in _ (by omega)
          have ew6 : IntKind.i64.wrap (2 * (4 * n - 1)) = 2 * (4 * n - 1) := IntWalk.i64_in _ (by omega)
          have ew7 : IntKind.i64.wrap (8 * n) = 8 * n := IntWalk.i64_in _ (by omega)
          have ew8 : IntKind.i64.wrap (8 * n - 2) = 8 * n - 2 := IntWalk.i64_in _ (by omega)
          have ewpA : wrap64 (PW - 1) = PW - 1 := w64 (by omega) (by omega)
          have hpwA : wrap64 (2 ^ n.toNat) = PW := by rw [powR n.toNat (by omega), hPW]
          clear hPW
          clear ewpA hpwA
          have Hhc4 := Lib.hid hc4
          clear hc4
          cases hc5 : vrV gr sBit bh (mulL gr [c0, powE gr gr.g (-lo)]) n.toNat x with
          | false =>
            have Hhc5 := Lib.hid hc5
            clear hc5
            try (go_wp2_with fail)
            refine wp_region_noPanic ?_
            refine wp_region_P (fun w' => w'.cell? ⟨w.heap.size, 0, none⟩ = some (.int .i64 gr.p) ∧ w'.cell? ⟨w.heap.size, 1, none⟩ = some (.int .i64 gr.q) ∧ w'.cell? ⟨w.heap.size, 2, none⟩ = some (.int .i64 gr.g) ∧ w'.cell? ⟨w.heap.size + 1, 0, none⟩ = some (.int .i64 bh) ∧ w'.cell? ⟨w.heap.size + 1, 1, none⟩ = some ((.slice bva bvn bvc)) ∧ w'.cell? ⟨w.heap.size + 1 + 1, 0, none⟩ = some ((.slice xba xbn xbc)) ∧ w'.cell? ⟨w.heap.size + 1 + 1, 1, none⟩ = some ((.slice xpa xpn xpc)) ∧ w'.cell? ⟨w.heap.size + 1 + 1 + 1, 0, none⟩ = some ((.slice yba ybn ybc)) ∧ w'.cell? ⟨w.heap.size + 1 + 1 + 1, 1, none⟩ = some ((.slice ypa ypn ypc))) 37 [(0, []), (1, []), (2, []), (3, []), (4, []), (5, []), (6, [0]), (7, []), (8, [0]), (9, [4, 2, 0]), (10, [6, 0]), (11, [8, 0]), (12, []), (13, []), (14, [13, 12, 2, 1, 0]), (15, [0]), (16, [0]), (17, [1]), (18, [2]), (19, [3]), (20, [4]), (21, [0, 5]), (22, [6]), (23, [3, 1, 0, 7]), (24, [8]), (25, [9]), (26, [1, 0, 10]), (27, [3, 0, 11]), (28, [9, 0, 12]), (29, [13]), (30, [14]), (31, [14, 13, 2, 1, 0, 15]), (32, [16, 0]), (33, [0]), (34, [])] [] (by kernel_rfl) (by kernel_rfl) (by kernel_rfl) rfl (fun _ _ _ _ h => h) (fun w' h => ⟨box_at c0_0 h, box_at c0_1 h, box_at c0_2 h, box_at c1_0 h, box_at c1_1 h, box_at c2_0 h, box_at c2_1 h, box_at c3_0 h, box_at c3_1 h⟩) ?_
            simp only [pickP, pickN, List.getElem?_cons_zero, List.getElem?_cons_succ]
            iterate 9 (refine' chainP_read _ rfl rfl (fun w' hS' => ?_) ?_; rotate_left; · (simp only [lookP, allP, Act.put, List.getElem?_cons_zero, List.getElem?_cons_succ, List.setIfInBounds_toArray, List.set_cons_zero, List.set_cons_succ]; (try dsimp only at hS'); go_simp; (try with_reducible rfl)))
            -- 9: call { callee := value (func 165), args := #[t46, t48, t50], argTypes := #[39, 3, 3] }
            refine chainP_call (d := (some 51)) (.int .i64 (powE gr gr.g (-lo))) rfl rfl (fun w' hS' => ?_) ?_
            · simp only [lookP, allP, Act.put, List.getElem?_cons_zero, List.getElem?_cons_succ, List.setIfInBounds_toArray, List.set_cons_zero, List.set_cons_succ]
              intro K hK
              go_simp
              go_at_call 106
              refine (impl_pow gr gr.g (-lo) _ HG.out sgg HIL.out).mono ?_
              rintro e u ⟨rfl, hq⟩
              exact hK.out _ hq
            -- 10: buildSlice 24 2 #[(0, t45), (1, t51)]
            refine chainP_do (d := (some 52)) (fun v w => Ints w v [c0, powE gr gr.g (-lo)]) (fun v w w' hb h => Ints.below h hb) rfl rfl (fun w' hS' => ?_) ?_
            · simp only [lookP, allP, Act.put, List.getElem?_cons_zero, List.getElem?_cons_succ, List.setIfInBounds_toArray, List.set_cons_zero, List.set_cons_succ]
              intro K hK
              go_simp
              refine hK.out _ _ ((Below.refl _ _).alloc (Nat.le_refl _) _) ?_
              exact (OwnI.lit (B := w'.heap.size) w' (Nat.le_refl _) (l := [c0, powE gr gr.g (-lo)]) (AllI64.cons ic0 (AllI64.cons (small_64 (powE_small HG.out _ _)) AllI64.nil)) rfl (by simp [maxLen]) 2 rfl).ints
            -- 11: call { callee := value (func 197), args := #[t44, t52], argTypes := #[39, 24] }
            refine chainP_call (d := (some 53)) (.int .i64 (mulL gr [c0, powE gr gr.g (-lo)])) rfl rfl (fun w' hS' => ?_) ?_
            · simp only [lookP, allP, Act.put, List.getElem?_cons_zero, List.getElem?_cons_succ, List.setIfInBounds_toArray, List.set_cons_zero, List.set_cons_succ]
              intro x10 hx10
              intro K hK
              go_simp
              go_at_call 105
              refine (impl_mul gr _ [c0, powE gr gr.g (-lo)] _ HG.out hx10 (AllSmall.cons sc0 (AllSmall.cons (powE_small HG.out _ _) AllSmall.nil))).mono ?_
              rintro e u ⟨rfl, hq⟩
              exact hK.out _ hq
            iterate 2 (refine' chainP_read _ rfl rfl (fun w' hS' => ?_) ?_; rotate_left; · (simp only [lookP, allP, Act.put, List.getElem?_cons_zero, List.getElem?_cons_succ, List.setIfInBounds_toArray, List.set_cons_zero, List.set_cons_succ]; (try dsimp only at hS'); go_simp; (try with_reducible rfl)))
            -- 14: call { callee := value (func 222), args := #[t42, t43, t53, t54, t55], argTypes := #[39, 79, 3, 3, 128] }
            refine chainP_call (d := (some 56)) (.bool false) rfl rfl (fun w' hS' => ?_) ?_
            · simp only [lookP, allP, Act.put, List.getElem?_cons_zero, List.getElem?_cons_succ, List.setIfInBounds_toArray, List.set_cons_zero, List.set_cons_succ]
              intro K hK
              go_simp
              go_at_call 99
              refine (impl_verifyRangeN gr bh _ bl (mulL gr [c0, powE gr gr.g (-lo)]) n _ _ x _ HG.out ((Hbv.out.below (HB.out.trans (hc.mono HB.out.size))).below hS'.1) sbh ⟨hn1, hn2⟩ ((Hxb.out.below (HB.out.trans (hc.mono HB.out.size))).below hS'.1) ((Hxp.out.below (HB.out.trans (hc.mono HB.out.size))).below hS'.1)).mono ?_
              rintro e u ⟨rfl, hq⟩
              rw [Hhc5.out]
              exact hK.out _ hq
            -- 15: move t56
            refine' chainP_read (d := (some 57)) _ rfl rfl (fun w' hS' => ?_) ?_; rotate_left
            · simp only [lookP, allP, Act.put, List.getElem?_cons_zero, List.getElem?_cons_succ, List.setIfInBounds_toArray, List.set_cons_zero, List.set_cons_succ]
              (try dsimp only at hS')
              go_simp
              (try with_reducible rfl)
            -- 16: load 39 t8
            refine chainP_skip (d := (some 58)) rfl (fun w' hS' => ?_) ?_
            · simp only [lookP, allP, Act.put, List.getElem?_cons_zero, List.getElem?_cons_succ, List.setIfInBounds_toArray, List.set_cons_zero, List.set_cons_succ]
              kernel_rfl
            -- 17: load 79 t9
            refine chainP_skip (d := (some 59)) rfl (fun w' hS' => ?_) ?_
            · simp only [lookP, allP, Act.put, List.getElem?_cons_zero, List.getElem?_cons_succ, List.setIfInBounds_toArray, List.set_cons_zero, List.set_cons_succ]
              kernel_rfl
            -- 18: load 39 t8
            refine chainP_skip (d := (some 60)) rfl (fun w' hS' => ?_) ?_
            · simp only [lookP, allP, Act.put, List.getElem?_cons_zero, List.getElem?_cons_succ, List.setIfInBounds_toArray, List.set_cons_zero, List.set_cons_succ]
              kernel_rfl
            -- 19: load 39 t8
            refine chainP_skip (d := (some 61)) rfl (fun w' hS' => ?_) ?_
            · simp only [lookP, allP, Act.put, List.getElem?_cons_zero, List.getElem?_cons_succ, List.setIfInBounds_toArray, List.set_cons_zero, List.set_cons_succ]
              kernel_rfl
            -- 20: fieldAddr 39 t8 2
            refine chainP_skip (d := (some 62)) rfl (fun w' hS' => ?_) ?_
            · simp only [lookP, allP, Act.put, List.getElem?_cons_zero, List.getElem?_cons_succ, List.setIfInBounds_toArray, List.set_cons_zero, List.set_cons_succ]
              kernel_rfl
            -- 21: load 3 t62
            refine chainP_skip (d := (some 63)) rfl (fun w' hS' => ?_) ?_
            · simp only [lookP, allP, Act.put, List.getElem?_cons_zero, List.getElem?_cons_succ, List.setIfInBounds_toArray, List.set_cons_zero, List.set_cons_succ]
              kernel_rfl
            -- 22: move t4
            refine chainP_skip (d := (some 64)) rfl (fun w' hS' => ?_) ?_
            · simp only [lookP, allP, Act.put, List.getElem?_cons_zero, List.getElem?_cons_succ, List.setIfInBounds_toArray, List.set_cons_zero, List.set_cons_succ]
              kernel_rfl
            -- 23: call { callee := value (func 165), args := #[t61, t63, t64], argTypes := #[39, 3, 3] }
            refine chainP_skip (d := (some 65)) rfl (fun w' hS' => ?_) ?_
            · simp only [lookP, allP, Act.put, List.getElem?_cons_zero, List.getElem?_cons_succ, List.setIfInBounds_toArray, List.set_cons_zero, List.set_cons_succ]
              kernel_rfl
            -- 24: load 39 t8
            refine chainP_skip (d := (some 66)) rfl (fun w' hS' => ?_) ?_
            · simp only [lookP, allP, Act.put, List.getElem?_cons_zero, List.getElem?_cons_succ, List.setIfInBounds_toArray, List.set_cons_zero, List.set_cons_succ]
              kernel_rfl
            -- 25: move t2
            refine chainP_skip (d := (some 67)) rfl (fun w' hS' => ?_) ?_
            · simp only [lookP, allP, Act.put, List.getElem?_cons_zero, List.getElem?_cons_succ, List.setIfInBounds_toArray, List.set_cons_zero, List.set_cons_succ]
              kernel_rfl
            -- 26: call { callee := value (func 224), args := #[t66, t67], argTypes := #[39, 3] }
            refine chainP_skip (d := (some 68)) rfl (fun w' hS' => ?_) ?_
            · simp only [lookP, allP, Act.put, List.getElem?_cons_zero, List.getElem?_cons_succ, List.setIfInBounds_toArray, List.set_cons_zero, List.set_cons_succ]
              kernel_rfl
            -- 27: buildSlice 24 2 #[(0, t65), (1, t68)]
            refine chainP_skip (d := (some 69)) rfl (fun w' hS' => ?_) ?_
            · simp only [lookP, allP, Act.put, List.getElem?_cons_zero, List.getElem?_cons_succ, List.setIfInBounds_toArray, List.set_cons_zero, List.set_cons_succ]
              kernel_rfl
            -- 28: call { callee := value (func 197), args := #[t60, t69], argTypes := #[39, 24] }
            refine chainP_skip (d := (some 70)) rfl (fun w' hS' => ?_) ?_
            · simp only [lookP, allP, Act.put, List.getElem?_cons_zero, List.getElem?_cons_succ, List.setIfInBounds_toArray, List.set_cons_zero, List.set_cons_succ]
              kernel_rfl
            -- 29: move t5
            refine chainP_skip (d := (some 71)) rfl (fun w' hS' => ?_) ?_
            · simp only [lookP, allP, Act.put, List.getElem?_cons_zero, List.getElem?_cons_succ, List.setIfInBounds_toArray, List.set_cons_zero, List.set_cons_succ]
              kernel_rfl
            -- 30: load 128 t15
            refine chainP_skip (d := (some 72)) rfl (fun w' hS' => ?_) ?_
            · simp only [lookP, allP, Act.put, List.getElem?_cons_zero, List.getElem?_cons_succ, List.setIfInBounds_toArray, List.set_cons_zero, List.set_cons_succ]
              kernel_rfl
            -- 31: call { callee := value (func 222), args := #[t58, t59, t70, t71, t72], argTypes := #[39, 79, 3, 3, 128] }
            refine chainP_skip (d := (some 73)) rfl (fun w' hS' => ?_) ?_
            · simp only [lookP, allP, Act.put, List.getElem?_cons_zero, List.getElem?_cons_succ, List.setIfInBounds_toArray, List.set_cons_zero, List.set_cons_succ]
              kernel_rfl
            iterate 3 (refine' chainP_read _ rfl rfl (fun w' hS' => ?_) ?_; rotate_left; · (simp only [lookP, allP, Act.put, List.getElem?_cons_zero, List.getElem?_cons_succ, List.setIfInBounds_toArray, List.set_cons_zero, List.set_cons_succ]; (try dsimp only at hS'); go_simp; (try with_reducible rfl)))
            refine chainP_nil (fun u5 hS' => ?_)
            simp only [allP, Act.put, List.setIfInBounds_toArray, List.set_cons_zero, List.set_cons_succ]
            intro x10 hx10
            have hq5 := hS'.1
            clear hS'
            replace hc := Below.next hc hq5
            clear hq5 c0_0 c0_1 c0_2 c1_0 c1_1 c2_0 c2_1 c3_0 c3_1
            obtain ⟨c0_0, c0_1, c0_2, c1_0, c1_1, c2_0, c2_1, c3_0, c3_1⟩ := HCC.out _ hc
            go_wp2_with fail
            refine NoPanic.normal ?_
            go_wp2_with fail
            have HV : Hid ((.tuple #[.bool (viR gr sBit bh bl c0 lo hi n x y), .bool (viA gr bh bl c0 lo hi n)] : Value) = .tuple #[.bool false, .bool true]) := by unfold Hid; have qhc3 := Hhc3.out; simp only [List.all_cons, List.all_nil, Bool.and_true] at qhc3; simp [viR, viA, Hhc1.out, Hhc2.out, qhc3, Hhc4.out, Hhc5.out]
            go_ret2
            exact ⟨congrArg Ending.returned HV.out.symm, HB.out.trans (hc.mono HB.out.size)⟩
          | true =>
            have Hhc5 := Lib.hid hc5
            clear hc5
            try (go_wp2_with fail)
            refine wp_region_noPanic ?_
            refine wp_region_P (fun w' => w'.cell? ⟨w.heap.size, 0, none⟩ = some (.int .i64 gr.p) ∧ w'.cell? ⟨w.heap.size, 1, none⟩ = some (.int .i64 gr.q) ∧ w'.cell? ⟨w.heap.size, 2, none⟩ = some (.int .i64 gr.g) ∧ w'.cell? ⟨w.heap.size + 1, 0, none⟩ = some (.int .i64 bh) ∧ w'.cell? ⟨w.heap.size + 1, 1, none⟩ = some ((.slice bva bvn bvc)) ∧ w'.cell? ⟨w.heap.size + 1 + 1, 0, none⟩ = some ((.slice xba xbn xbc)) ∧ w'.cell? ⟨w.heap.size + 1 + 1, 1, none⟩ = some ((.slice xpa xpn xpc)) ∧ w'.cell? ⟨w.heap.size + 1 + 1 + 1, 0, none⟩ = some ((.slice yba ybn ybc)) ∧ w'.cell? ⟨w.heap.size + 1 + 1 + 1, 1, none⟩ = some ((.slice ypa ypn ypc))) 37 [(0, []), (1, []), (2, []), (3, []), (4, []), (5, []), (6, [0]), (7, []), (8, [0]), (9, [4, 2, 0]), (10, [6, 0]), (11, [8, 0]), (12, []), (13, []), (14, [13, 12, 2, 1, 0]), (15, [0]), (16, [0]), (17, [1]), (18, [2]), (19, [3]), (20, [4]), (21, [0, 5]), (22, [6]), (23, [3, 1, 0, 7]), (24, [8]), (25, [9]), (26, [1, 0, 10]), (27, [3, 0, 11]), (28, [9, 0, 12]), (29, [13]), (30, [14]), (31, [14, 13, 2, 1, 0, 15]), (32, [16, 0]), (33, [0]), (34, [])] [] (by kernel_rfl) (by kernel_rfl) (by kernel_rfl) rfl (fun _ _ _ _ h => h) (fun w' h => ⟨box_at c0_0 h, box_at c0_1 h, box_at c0_2 h, box_at c1_0 h, box_at c1_1 h, box_at c2_0 h, box_at c2_1 h, box_at c3_0 h, box_at c3_1 h⟩) ?_
            simp only [pickP, pickN, List.getElem?_cons_zero, List.getElem?_cons_succ]
            iterate 9 (refine' chainP_read _ rfl rfl (fun w' hS' => ?_) ?_; rotate_left; · (simp only [lookP, allP, Act.put, List.getElem?_cons_zero, List.getElem?_cons_succ, List.setIfInBounds_toArray, List.set_cons_zero, List.set_cons_succ]; (try dsimp only at hS'); go_simp; (try with_reducible rfl)))
            -- 9: call { callee := value (func 165), args := #[t46, t48, t50], argTypes := #[39, 3, 3] }
            refine chainP_call (d := (some 51)) (.int .i64 (powE gr gr.g (-lo))) rfl rfl (fun w' hS' => ?_) ?_
            · simp only [lookP, allP, Act.put, List.getElem?_cons_zero, List.getElem?_cons_succ, List.setIfInBounds_toArray, List.set_cons_zero, List.set_cons_succ]
              intro K hK
              go_simp
              go_at_call 106
              refine (impl_pow gr gr.g (-lo) _ HG.out sgg HIL.out).mono ?_
              rintro e u ⟨rfl, hq⟩
              exact hK.out _ hq
            -- 10: buildSlice 24 2 #[(0, t45), (1, t51)]
            refine chainP_do (d := (some 52)) (fun v w => Ints w v [c0, powE gr gr.g (-lo)]) (fun v w w' hb h => Ints.below h hb) rfl rfl (fun w' hS' => ?_) ?_
            · simp only [lookP, allP, Act.put, List.getElem?_cons_zero, List.getElem?_cons_succ, List.setIfInBounds_toArray, List.set_cons_zero, List.set_cons_succ]
              intro K hK
              go_simp
              refine hK.out _ _ ((Below.refl _ _).alloc (Nat.le_refl _) _) ?_
              exact (OwnI.lit (B := w'.heap.size) w' (Nat.le_refl _) (l := [c0, powE gr gr.g (-lo)]) (AllI64.cons ic0 (AllI64.cons (small_64 (powE_small HG.out _ _)) AllI64.nil)) rfl (by simp [maxLen]) 2 rfl).ints
            -- 11: call { callee := value (func 197), args := #[t44, t52], argTypes := #[39, 24] }
            refine chainP_call (d := (some 53)) (.int .i64 (mulL gr [c0, powE gr gr.g (-lo)])) rfl rfl (fun w' hS' => ?_) ?_
            · simp only [lookP, allP, Act.put, List.getElem?_cons_zero, List.getElem?_cons_succ, List.setIfInBounds_toArray, List.set_cons_zero, List.set_cons_succ]
              intro x10 hx10
              intro K hK
              go_simp
              go_at_call 105
              refine (impl_mul gr _ [c0, powE gr gr.g (-lo)] _ HG.out hx10 (AllSmall.cons sc0 (AllSmall.cons (powE_small HG.out _ _) AllSmall.nil))).mono ?_
              rintro e u ⟨rfl, hq⟩
              exact hK.out _ hq
            iterate 2 (refine' chainP_read _ rfl rfl (fun w' hS' => ?_) ?_; rotate_left; · (simp only [lookP, allP, Act.put, List.getElem?_cons_zero, List.getElem?_cons_succ, List.setIfInBounds_toArray, List.set_cons_zero, List.set_cons_succ]; (try dsimp only at hS'); go_simp; (try with_reducible rfl)))
            -- 14: call { callee := value (func 222), args := #[t42, t43, t53, t54, t55], argTypes := #[39, 79, 3, 3, 128] }
            refine chainP_call (d := (some 56)) (.bool true) rfl rfl (fun w' hS' => ?_) ?_
            · simp only [lookP, allP, Act.put, List.getElem?_cons_zero, List.getElem?_cons_succ, List.setIfInBounds_toArray, List.set_cons_zero, List.set_cons_succ]
              intro K hK
              go_simp
              go_at_call 99
              refine (impl_verifyRangeN gr bh _ bl (mulL gr [c0, powE gr gr.g (-lo)]) n _ _ x _ HG.out ((Hbv.out.below (HB.out.trans (hc.mono HB.out.size))).below hS'.1) sbh ⟨hn1, hn2⟩ ((Hxb.out.below (HB.out.trans (hc.mono HB.out.size))).below hS'.1) ((Hxp.out.below (HB.out.trans (hc.mono HB.out.size))).below hS'.1)).mono ?_
              rintro e u ⟨rfl, hq⟩
              rw [Hhc5.out]
              exact hK.out _ hq
            -- 15: move t56
            refine' chainP_read (d := (some 57)) _ rfl rfl (fun w' hS' => ?_) ?_; rotate_left
            · simp only [lookP, allP, Act.put, List.getElem?_cons_zero, List.getElem?_cons_succ, List.setIfInBounds_toArray, List.set_cons_zero, List.set_cons_succ]
              (try dsimp only at hS')
              go_simp
              (try with_reducible rfl)
            -- 16: load 39 t8
            refine' chainP_readG (d := (some 58)) _ rfl (fun w' hS' => ?_) ?_; rotate_left
            · simp only [lookP, allP, Act.put, List.getElem?_cons_zero, List.getElem?_cons_succ, List.setIfInBounds_toArray, List.set_cons_zero, List.set_cons_succ]
              refine ⟨by kernel_rfl, ?_⟩
              (try dsimp only at hS')
              go_simp
              (try with_reducible rfl)
            -- 17: load 79 t9
            refine' chainP_readG (d := (some 59)) _ rfl (fun w' hS' => ?_) ?_; rotate_left
            · simp only [lookP, allP, Act.put, List.getElem?_cons_zero, List.getElem?_cons_succ, List.setIfInBounds_toArray, List.set_cons_zero, List.set_cons_succ]
              refine ⟨by kernel_rfl, ?_⟩
              (try dsimp only at hS')
              go_simp
              (try with_reducible rfl)
            -- 18: load 39 t8
            refine' chainP_readG (d := (some 60)) _ rfl (fun w' hS' => ?_) ?_; rotate_left
            · simp only [lookP, allP, Act.put, List.getElem?_cons_zero, List.getElem?_cons_succ, List.setIfInBounds_toArray, List.set_cons_zero, List.set_cons_succ]
              refine ⟨by kernel_rfl, ?_⟩
              (try dsimp only at hS')
              go_simp
              (try with_reducible rfl)
            -- 19: load 39 t8
            refine' chainP_readG (d := (some 61)) _ rfl (fun w' hS' => ?_) ?_; rotate_left
            · simp only [lookP, allP, Act.put, List.getElem?_cons_zero, List.getElem?_cons_succ, List.setIfInBounds_toArray, List.set_cons_zero, List.set_cons_succ]
              refine ⟨by kernel_rfl, ?_⟩
              (try dsimp only at hS')
              go_simp
              (try with_reducible rfl)
            -- 20: fieldAddr 39 t8 2
            refine' chainP_readG (d := (some 62)) _ rfl (fun w' hS' => ?_) ?_; rotate_left
            · simp only [lookP, allP, Act.put, List.getElem?_cons_zero, List.getElem?_cons_succ, List.setIfInBounds_toArray, List.set_cons_zero, List.set_cons_succ]
              refine ⟨by kernel_rfl, ?_⟩
              (try dsimp only at hS')
              go_simp
              (try with_reducible rfl)
            -- 21: load 3 t62
            refine' chainP_readG (d := (some 63)) _ rfl (fun w' hS' => ?_) ?_; rotate_left
            · simp only [lookP, allP, Act.put, List.getElem?_cons_zero, List.getElem?_cons_succ, List.setIfInBounds_toArray, List.set_cons_zero, List.set_cons_succ]
              refine ⟨by kernel_rfl, ?_⟩
              (try dsimp only at hS')
              go_simp
              (try with_reducible rfl)
            -- 22: move t4
            refine' chainP_readG (d := (some 64)) _ rfl (fun w' hS' => ?_) ?_; rotate_left
            · simp only [lookP, allP, Act.put, List.getElem?_cons_zero, List.getElem?_cons_succ, List.setIfInBounds_toArray, List.set_cons_zero, List.set_cons_succ]
              refine ⟨by kernel_rfl, ?_⟩
              (try dsimp only at hS')
              go_simp
              (try with_reducible rfl)
            -- 23: call { callee := value (func 165), args := #[t61, t63, t64], argTypes := #[39, 3, 3] }
            refine chainP_callG (d := (some 65)) (.int .i64 (powE gr gr.g hi)) rfl (fun w' hS' => ?_) ?_
            · simp only [lookP, allP, Act.put, List.getElem?_cons_zero, List.getElem?_cons_succ, List.setIfInBounds_toArray, List.set_cons_zero, List.set_cons_succ]
              refine ⟨by kernel_rfl, ?_⟩
              intro K hK
              go_simp
              go_at_call 106
              refine (impl_pow gr gr.g hi _ HG.out sgg hhi).mono ?_
              rintro e u ⟨rfl, hq⟩
              exact hK.out _ hq
            -- 24: load 39 t8
            refine' chainP_readG (d := (some 66)) _ rfl (fun w' hS' => ?_) ?_; rotate_left
            · simp only [lookP, allP, Act.put, List.getElem?_cons_zero, List.getElem?_cons_succ, List.setIfInBounds_toArray, List.set_cons_zero, List.set_cons_succ]
              refine ⟨by kernel_rfl, ?_⟩
              (try dsimp only at hS')
              go_simp
              (try with_reducible rfl)
            -- 25: move t2
            refine' chainP_readG (d := (some 67)) _ rfl (fun w' hS' => ?_) ?_; rotate_left
            · simp only [lookP, allP, Act.put, List.getElem?_cons_zero, List.getElem?_cons_succ, List.setIfInBounds_toArray, List.set_cons_zero, List.set_cons_succ]
              refine ⟨by kernel_rfl, ?_⟩
              (try dsimp only at hS')
              go_simp
              (try with_reducible rfl)
            -- 26: call { callee := value (func 224), args := #[t66, t67], argTypes := #[39, 3] }
            refine chainP_callG (d := (some 68)) (.int .i64 (powE gr c0 (-1))) rfl (fun w' hS' => ?_) ?_
            · simp only [lookP, allP, Act.put, List.getElem?_cons_zero, List.getElem?_cons_succ, List.setIfInBounds_toArray, List.set_cons_zero, List.set_cons_succ]
              refine ⟨by kernel_rfl, ?_⟩
              intro K hK
              go_simp
              go_at_call 107
              refine (impl_inv gr c0 _ HG.out sc0).mono ?_
              rintro e u ⟨rfl, hq⟩
              exact hK.out _ hq
            -- 27: buildSlice 24 2 #[(0, t65), (1, t68)]
            refine chainP_doG (d := (some 69)) (fun v w => Ints w v [powE gr gr.g hi, powE gr c0 (-1)]) (fun v w w' hb h => Ints.below h hb) rfl (fun w' hS' => ?_) ?_
            · simp only [lookP, allP, Act.put, List.getElem?_cons_zero, List.getElem?_cons_succ, List.setIfInBounds_toArray, List.set_cons_zero, List.set_cons_succ]
              refine ⟨by kernel_rfl, ?_⟩
              intro K hK
              go_simp
              refine hK.out _ _ ((Below.refl _ _).alloc (Nat.le_refl _) _) ?_
              exact (OwnI.lit (B := w'.heap.size) w' (Nat.le_refl _) (l := [powE gr gr.g hi, powE gr c0 (-1)]) (AllI64.cons (small_64 (powE_small HG.out _ _)) (AllI64.cons (small_64 (powE_small HG.out _ _)) AllI64.nil)) rfl (by simp [maxLen]) 2 rfl).ints
            -- 28: call { callee := value (func 197), args := #[t60, t69], argTypes := #[39, 24] }
            refine chainP_callG (d := (some 70)) (.int .i64 (mulL gr [powE gr gr.g hi, powE gr c0 (-1)])) rfl (fun w' hS' => ?_) ?_
            · simp only [lookP, allP, Act.put, List.getElem?_cons_zero, List.getElem?_cons_succ, List.setIfInBounds_toArray, List.set_cons_zero, List.set_cons_succ]
              intro x27 hx27
              refine ⟨by kernel_rfl, ?_⟩
              intro K hK
              go_simp
              go_at_call 105
              refine (impl_mul gr _ [powE gr gr.g hi, powE gr c0 (-1)] _ HG.out hx27 (AllSmall.cons (powE_small HG.out _ _) (AllSmall.cons (powE_small HG.out _ _) AllSmall.nil))).mono ?_
              rintro e u ⟨rfl, hq⟩
              exact hK.out _ hq
            -- 29: move t5
            refine' chainP_readG (d := (some 71)) _ rfl (fun w' hS' => ?_) ?_; rotate_left
            · simp only [lookP, allP, Act.put, List.getElem?_cons_zero, List.getElem?_cons_succ, List.setIfInBounds_toArray, List.set_cons_zero, List.set_cons_succ]
              refine ⟨by kernel_rfl, ?_⟩
              (try dsimp only at hS')
              go_simp
              (try with_reducible rfl)
            -- 30: load 128 t15
            refine' chainP_readG (d := (some 72)) _ rfl (fun w' hS' => ?_) ?_; rotate_left
            · simp only [lookP, allP, Act.put, List.getElem?_cons_zero, List.getElem?_cons_succ, List.setIfInBounds_toArray, List.set_cons_zero, List.set_cons_succ]
              refine ⟨by kernel_rfl, ?_⟩
              (try dsimp only at hS')
              go_simp
              (try with_reducible rfl)
            -- 31: call { callee := value (func 222), args := #[t58, t59, t70, t71, t72], argTypes := #[39, 79, 3, 3, 128] }
            refine chainP_callG (d := (some 73)) (.bool (vrV gr sBit bh (mulL gr [powE gr gr.g hi, powE gr c0 (-1)]) n.toNat y)) rfl (fun w' hS' => ?_) ?_
            · simp only [lookP, allP, Act.put, List.getElem?_cons_zero, List.getElem?_cons_succ, List.setIfInBounds_toArray, List.set_cons_zero, List.set_cons_succ]
              refine ⟨by kernel_rfl, ?_⟩
              intro K hK
              go_simp
              go_at_call 99
              refine (impl_verifyRangeN gr bh _ bl (mulL gr [powE gr gr.g hi, powE gr c0 (-1)]) n _ _ y _ HG.out ((Hbv.out.below (HB.out.trans (hc.mono HB.out.size))).below hS'.1) sbh ⟨hn1, hn2⟩ ((Hyb.out.below (HB.out.trans (hc.mono HB.out.size))).below hS'.1) ((Hyp.out.below (HB.out.trans (hc.mono HB.out.size))).below hS'.1)).mono ?_
              rintro e u ⟨rfl, hq⟩
              exact hK.out _ hq
            iterate 3 (refine' chainP_read _ rfl rfl (fun w' hS' => ?_) ?_; rotate_left; · (simp only [lookP, allP, Act.put, List.getElem?_cons_zero, List.getElem?_cons_succ, List.setIfInBounds_toArray, List.set_cons_zero, List.set_cons_succ]; (try dsimp only at hS'); go_simp; (try with_reducible rfl)))
            refine chainP_nil (fun u5 hS' => ?_)
            simp only [allP, Act.put, List.setIfInBounds_toArray, List.set_cons_zero, List.set_cons_succ]
            intro x27 hx27
            intro x10 hx10
            have hq5 := hS'.1
            clear hS'
            replace hc := Below.next hc hq5
            clear hq5 c0_0 c0_1 c0_2 c1_0 c1_1 c2_0 c2_1 c3_0 c3_1
            obtain ⟨c0_0, c0_1, c0_2, c1_0, c1_1, c2_0, c2_1, c3_0, c3_1⟩ := HCC.out _ hc
            go_wp2_with fail
            refine NoPanic.normal ?_
            cases hc6 : vrV gr sBit bh (mulL gr [powE gr gr.g hi, powE gr c0 (-1)]) n.toNat y with
            | false =>
              have Hhc6 := Lib.hid hc6
              clear hc6
              go_wp2_with fail
              have HV : Hid ((.tuple #[.bool (viR gr sBit bh bl c0 lo hi n x y), .bool (viA gr bh bl c0 lo hi n)] : Value) = .tuple #[.bool false, .bool true]) := by unfold Hid; have qhc3 := Hhc3.out; simp only [List.all_cons, List.all_nil, Bool.and_true] at qhc3; simp [viR, viA, Hhc1.out, Hhc2.out, qhc3, Hhc4.out, Hhc5.out, Hhc6.out]
              go_ret2
              exact ⟨congrArg Ending.returned HV.out.symm, HB.out.trans (hc.mono HB.out.size)⟩
            | true =>
              have Hhc6 := Lib.hid hc6
              clear hc6
              go_wp2_with fail
              have HV : Hid ((.tuple #[.bool (viR gr sBit bh bl c0 lo hi n x y), .bool (viA gr bh bl c0 lo hi n)] : Value) = .tuple #[.bool true, .bool true]) := by unfold Hid; have qhc3 := Hhc3.out; simp only [List.all_cons, List.all_nil, Bool.and_true] at qhc3; simp [viR, viA, Hhc1.out, Hhc2.out, qhc3, Hhc4.out, Hhc5.out, Hhc6.out]
              go_ret2
              exact ⟨congrArg Ending.returned HV.out.symm, HB.out.trans (hc.mono HB.out.size)⟩
set_option maxRecDepth 100000 in
set_option maxHeartbeats 2000000 in
theorem impl_ProveInterval (gr : GroupD) (bh : Int) (bv : Value) (bl : List Int) (m r lo hi n : Int) (cv : Value) (cs : List Int) (w : World) (hb : Ints w bv bl) (ibh : I64 bh) (hm : I64 m) (hr : I64 r) (hlo : I64 lo) (hhi : I64 hi) (hn : I64 n) (hcs : Ints w cv cs) :
    Calls Try.prog 19 #[.agg #[.int .i64 gr.p, .int .i64 gr.q, .int .i64 gr.g], .agg #[.int .i64 bh, bv], .int .i64 m, .int .i64 r, .int .i64 lo, .int .i64 hi, .int .i64 n, cv] w fun e w' => RetG2 e w' w.heap.size (piB gr bh bl m r lo hi n cs) (piR gr sBit bh bl m r lo hi n cs) (piS gr sBit bh bl m r lo hi n cs) ∧ Below w.heap.size w w' := by
  obtain ⟨bva, bvn, bvc, rfl⟩ := hb.shape
  have Ebv := Lib.hid hb.len
  have Kbv := Lib.hid hb.capMax
  have Hbv := Lib.hid hb
  clear hb
  obtain ⟨cva, cvn, cvc, rfl⟩ := hcs.shape
  have Ecv := Lib.hid hcs.len
  have Kcv := Lib.hid hcs.capMax
  have Hcv := Lib.hid hcs
  clear hcs
  obtain ⟨W, hW⟩ : ∃ W, W = (((w.alloc (.cells #[.int .i64 gr.p, .int .i64 gr.q, .int .i64 gr.g] 25)).alloc (.cells #[.int .i64 bh, (.slice bva bvn bvc)] 28)).alloc (.cells #[(.slice none 0 0), (.slice none 0 0)] 33)).alloc (.cells #[(.slice none 0 0), (.slice none 0 0)] 33) := ⟨_, rfl⟩
  have HB : Hid (Below w.heap.size w W) := by unfold Hid; rw [hW]; (repeat (first | exact Below.refl _ _ | assumption | refine Below.drew ?_ | refine Below.alloc ?_ (by first | (simp; done) | (simp; omega)) _ | refine Below.setCell ?_ (by first | (simp; done) | (simp; omega)) _))
  have c0_0 : W.cell? ⟨w.heap.size, 0, none⟩ = some (.int .i64 gr.p) := by rw [hW]; simp [go_sem]
  have c0_1 : W.cell? ⟨w.heap.size, 1, none⟩ = some (.int .i64 gr.q) := by rw [hW]; simp [go_sem]
  have c0_2 : W.cell? ⟨w.heap.size, 2, none⟩ = some (.int .i64 gr.g) := by rw [hW]; simp [go_sem]
  have c1_0 : W.cell? ⟨w.heap.size + 1, 0, none⟩ = some (.int .i64 bh) := by rw [hW]; simp [go_sem]
  have c1_1 : W.cell? ⟨w.heap.size + 1, 1, none⟩ = some ((.slice bva bvn bvc)) := by rw [hW]; simp [go_sem]
  have HR2 : Hid (BoxN W (w.heap.size + 1 + 1) 33 [(.slice none 0 0), (.slice none 0 0)]) := by unfold Hid; rw [hW]; have h := ((BoxN.new ((w.alloc (.cells #[.int .i64 gr.p, .int .i64 gr.q, .int .i64 gr.g] 25)).alloc (.cells #[.int .i64 bh, (.slice bva bvn bvc)] 28)) [(.slice none 0 0), (.slice none 0 0)] 33).alloc (.cells #[(.slice none 0 0), (.slice none 0 0)] 33)); simpa using h
  have HR3 : Hid (BoxN W (w.heap.size + 1 + 1 + 1) 33 [(.slice none 0 0), (.slice none 0 0)]) := by unfold Hid; rw [hW]; have h := (BoxN.new (((w.alloc (.cells #[.int .i64 gr.p, .int .i64 gr.q, .int .i64 gr.g] 25)).alloc (.cells #[.int .i64 bh, (.slice bva bvn bvc)] 28)).alloc (.cells #[(.slice none 0 0), (.slice none 0 0)] 33)) [(.slice none 0 0), (.slice none 0 0)] 33); simpa using h
  have HSW : Hid (W.heap.size = w.heap.size + 4) := by unfold Hid; rw [hW]; simp
  have lr2 : w.heap.size + 1 + 1 < W.heap.size := by have := HSW.out; omega
  have lr3 : w.heap.size + 1 + 1 + 1 < W.heap.size := by have := HSW.out; omega
  go_enter Try.func19, Try.ntmps19
  go_wp2_with fail
  rw [← hW]
  have hse : w.heap.size + 1 + 1 + 1 + 1 = W.heap.size := by have := HSW.out; omega
  (try rw [hse])
  clear hse
  clear hW
  have hc : Below W.heap.size W W := Below.refl _ _
  have HCC : Hid (∀ u, Below W.heap.size W u → u.cell? ⟨w.heap.size, 0, none⟩ = some (.int .i64 gr.p) ∧ u.cell? ⟨w.heap.size, 1, none⟩ = some (.int .i64 gr.q) ∧ u.cell? ⟨w.heap.size, 2, none⟩ = some (.int .i64 gr.g) ∧ u.cell? ⟨w.heap.size + 1, 0, none⟩ = some (.int .i64 bh) ∧ u.cell? ⟨w.heap.size + 1, 1, none⟩ = some ((.slice bva bvn bvc))) := fun u h => ⟨box_at c0_0 h, box_at c0_1 h, box_at c0_2 h, box_at c1_0 h, box_at c1_1 h⟩
  go_wp2_with fail
  refine (impl_IsValidBases gr bh _ bl _ (Hbv.out.below (HB.out.trans (hc.mono HB.out.size))) ibh).mono ?_
  rintro e u1 ⟨rfl, hq1⟩
  replace hc := Below.next hc hq1
  clear hq1 c0_0 c0_1 c0_2 c1_0 c1_1
  obtain ⟨c0_0, c0_1, c0_2, c1_0, c1_1⟩ := HCC.out _ hc
  cases hc1 : baB gr bh bl with
  | false =>
    have Hhc1 := Lib.hid hc1
    clear hc1
    have HRE2 := Lib.hid (HR2.out.below hc)
    have HRE3 := Lib.hid (HR3.out.below hc)
    have HBE := Lib.hid (HB.out.trans (hc.mono HB.out.size))
    have r2_0 := HRE2.out.cell (i := 0) rfl
    have r2_1 := HRE2.out.cell (i := 1) rfl
    have fr2 := fun j => HRE2.out.frozen j
    have r3_0 := HRE3.out.cell (i := 0) rfl
    have r3_1 := HRE3.out.cell (i := 1) rfl
    have fr3 := fun j => HRE3.out.frozen j
    go_wp2_with fail
    obtain ⟨Z, hZ⟩ : ∃ Z, Z = (((u1.setCell ⟨w.heap.size + 1 + 1, 0, none⟩ (.slice none 0 0)).setCell ⟨w.heap.size + 1 + 1, 1, none⟩ (.slice none 0 0)).setCell ⟨w.heap.size + 1 + 1 + 1, 0, none⟩ (.slice none 0 0)).setCell ⟨w.heap.size + 1 + 1 + 1, 1, none⟩ (.slice none 0 0) := ⟨_, rfl⟩
    have HZ2 : Hid (BoxN Z (w.heap.size + 1 + 1) 33 [.slice none 0 0, .slice none 0 0]) := by unfold Hid; rw [hZ]; exact ((((HRE2.out.set 0 (.slice none 0 0)).set 1 (.slice none 0 0)).other (b' := w.heap.size + 1 + 1 + 1) (by omega) 0 (.slice none 0 0)).other (b' := w.heap.size + 1 + 1 + 1) (by omega) 1 (.slice none 0 0))
    have HZ3 : Hid (BoxN Z (w.heap.size + 1 + 1 + 1) 33 [.slice none 0 0, .slice none 0 0]) := by unfold Hid; rw [hZ]; exact ((((HRE3.out.other (b' := w.heap.size + 1 + 1) (by omega) 0 (.slice none 0 0)).other (b' := w.heap.size + 1 + 1) (by omega) 1 (.slice none 0 0)).set 0 (.slice none 0 0)).set 1 (.slice none 0 0))
    have HZB : Hid (Below w.heap.size w Z) := by unfold Hid; rw [hZ]; exact ((((HBE.out.setCell (p := ⟨w.heap.size + 1 + 1, 0, none⟩) (by show w.heap.size ≤ w.heap.size + 1 + 1; omega) (.slice none 0 0)).setCell (p := ⟨w.heap.size + 1 + 1, 1, none⟩) (by show w.heap.size ≤ w.heap.size + 1 + 1; omega) (.slice none 0 0)).setCell (p := ⟨w.heap.size + 1 + 1 + 1, 0, none⟩) (by show w.heap.size ≤ w.heap.size + 1 + 1 + 1; omega) (.slice none 0 0)).setCell (p := ⟨w.heap.size + 1 + 1 + 1, 1, none⟩) (by show w.heap.size ≤ w.heap.size + 1 + 1 + 1; omega) (.slice none 0 0))
    have HV0 : Hid (OwnI Z w.heap.size (.slice none 0 0) (⟨[], []⟩ : RangeD).b) := by unfold Hid; exact OwnI.nil _ _
    have HV1 : Hid (OwnQ Z w.heap.size (.slice none 0 0) (.slice none 0 0) (⟨[], []⟩ : RangeD).p) := by unfold Hid; exact OwnQ.nil _ _ _
    have HV2 : Hid (OwnI Z w.heap.size (.slice none 0 0) (⟨[], []⟩ : RangeD).b) := by unfold Hid; exact OwnI.nil _ _
    have HV3 : Hid (OwnQ Z w.heap.size (.slice none 0 0) (.slice none 0 0) (⟨[], []⟩ : RangeD).p) := by unfold Hid; exact OwnQ.nil _ _ _
    rw [← hZ]
    clear hZ r2_0 r2_1 r3_0 r3_1 fr2 fr3
    have t2_0 := HZ2.out.cell (i := 0) rfl
    have t2_1 := HZ2.out.cell (i := 1) rfl
    have t3_0 := HZ3.out.cell (i := 0) rfl
    have t3_1 := HZ3.out.cell (i := 1) rfl
    try (go_wp2_with fail)
    (try clear hpwA)
    (try clear ewpA)
    have HVB : Hid (piB gr bh bl m r lo hi n cs = false) := by unfold Hid; simp only [piB, Hhc1.out, Bool.true_and, Bool.false_and, Bool.and_true, Bool.and_false]
    have HPR : Hid (piR gr sBit bh bl m r lo hi n cs = ⟨[], []⟩) := by unfold Hid piR; rw [if_neg (by rw [HVB.out]; simp)]
    have HPS : Hid (piS gr sBit bh bl m r lo hi n cs = ⟨[], []⟩) := by unfold Hid piS; rw [if_neg (by rw [HVB.out]; simp)]
    refine bodyPost_ret (v := .tuple #[.agg #[.slice none 0 0, .slice none 0 0], .agg #[.slice none 0 0, .slice none 0 0], .bool false]) (by simp [results, Try.results19, go_sem, t2_0, t2_1, t3_0, t3_1]) rfl ⟨(by rw [HVB.out, HPR.out, HPS.out]; exact RetG2.mk ⟨HV0.out, HV1.out⟩ ⟨HV2.out, HV3.out⟩), HZB.out⟩
  | true =>
    have HBA := Lib.hid (baB_parts hc1)
    have HG := Lib.hid (goodG_ok HBA.out.1)
    have sbh : Small bh := elB_small HG.out HBA.out.2.1
    have Hhc1 := Lib.hid hc1
    clear hc1
    go_wp2_with fail
    refine (impl_isRange gr n _).mono ?_
    rintro e u2 ⟨rfl, hq2⟩
    replace hc := Below.next hc hq2
    clear hq2 c0_0 c0_1 c0_2 c1_0 c1_1
    obtain ⟨c0_0, c0_1, c0_2, c1_0, c1_1⟩ := HCC.out _ hc
    cases hc2 : rnB gr n with
    | false =>
      have Hhc2 := Lib.hid hc2
      clear hc2
      have HRE2 := Lib.hid (HR2.out.below hc)
      have HRE3 := Lib.hid (HR3.out.below hc)
      have HBE := Lib.hid (HB.out.trans (hc.mono HB.out.size))
      have r2_0 := HRE2.out.cell (i := 0) rfl
      have r2_1 := HRE2.out.cell (i := 1) rfl
      have fr2 := fun j => HRE2.out.frozen j
      have r3_0 := HRE3.out.cell (i := 0) rfl
      have r3_1 := HRE3.out.cell (i := 1) rfl
      have fr3 := fun j => HRE3.out.frozen j
      go_wp2_with fail
      obtain ⟨Z, hZ⟩ : ∃ Z, Z = (((u2.setCell ⟨w.heap.size + 1 + 1, 0, none⟩ (.slice none 0 0)).setCell ⟨w.heap.size + 1 + 1, 1, none⟩ (.slice none 0 0)).setCell ⟨w.heap.size + 1 + 1 + 1, 0, none⟩ (.slice none 0 0)).setCell ⟨w.heap.size + 1 + 1 + 1, 1, none⟩ (.slice none 0 0) := ⟨_, rfl⟩
      have HZ2 : Hid (BoxN Z (w.heap.size + 1 + 1) 33 [.slice none 0 0, .slice none 0 0]) := by unfold Hid; rw [hZ]; exact ((((HRE2.out.set 0 (.slice none 0 0)).set 1 (.slice none 0 0)).other (b' := w.heap.size + 1 + 1 + 1) (by omega) 0 (.slice none 0 0)).other (b' := w.heap.size + 1 + 1 + 1) (by omega) 1 (.slice none 0 0))
      have HZ3 : Hid (BoxN Z (w.heap.size + 1 + 1 + 1) 33 [.slice none 0 0, .slice none 0 0]) := by unfold Hid; rw [hZ]; exact ((((HRE3.out.other (b' := w.heap.size + 1 + 1) (by omega) 0 (.slice none 0 0)).other (b' := w.heap.size + 1 + 1) (by omega) 1 (.slice none 0 0)).set 0 (.slice none 0 0)).set 1 (.slice none 0 0))
      have HZB : Hid (Below w.heap.size w Z) := by unfold Hid; rw [hZ]; exact ((((HBE.out.setCell (p := ⟨w.heap.size + 1 + 1, 0, none⟩) (by show w.heap.size ≤ w.heap.size + 1 + 1; omega) (.slice none 0 0)).setCell (p := ⟨w.heap.size + 1 + 1, 1, none⟩) (by show w.heap.size ≤ w.heap.size + 1 + 1; omega) (.slice none 0 0)).setCell (p := ⟨w.heap.size + 1 + 1 + 1, 0, none⟩) (by show w.heap.size ≤ w.heap.size + 1 + 1 + 1; omega) (.slice none 0 0)).setCell (p := ⟨w.heap.size + 1 + 1 + 1, 1, none⟩) (by show w.heap.size ≤ w.heap.size + 1 + 1 + 1; omega) (.slice none 0 0))
      have HV0 : Hid (OwnI Z w.heap.size (.slice none 0 0) (⟨[], []⟩ : RangeD).b) := by unfold Hid; exact OwnI.nil _ _
      have HV1 : Hid (OwnQ Z w.heap.size (.slice none 0 0) (.slice none 0 0) (⟨[], []⟩ : RangeD).p) := by unfold Hid; exact OwnQ.nil _ _ _
      have HV2 : Hid (OwnI Z w.heap.size (.slice none 0 0) (⟨[], []⟩ : RangeD).b) := by unfold Hid; exact OwnI.nil _ _
      have HV3 : Hid (OwnQ Z w.heap.size (.slice none 0 0) (.slice none 0 0) (⟨[], []⟩ : RangeD).p) := by unfold Hid; exact OwnQ.nil _ _ _
      rw [← hZ]
      clear hZ r2_0 r2_1 r3_0 r3_1 fr2 fr3
      have t2_0 := HZ2.out.cell (i := 0) rfl
      have t2_1 := HZ2.out.cell (i := 1) rfl
      have t3_0 := HZ3.out.cell (i := 0) rfl
      have t3_1 := HZ3.out.cell (i := 1) rfl
      try (go_wp2_with fail)
      (try clear hpwA)
      (try clear ewpA)
      have HVB : Hid (piB gr bh bl m r lo hi n cs = false) := by unfold Hid; simp only [piB, Hhc1.out, Hhc2.out, Bool.true_and, Bool.false_and, Bool.and_true, Bool.and_false]
      have HPR : Hid (piR gr sBit bh bl m r lo hi n cs = ⟨[], []⟩) := by unfold Hid piR; rw [if_neg (by rw [HVB.out]; simp)]
      have HPS : Hid (piS gr sBit bh bl m r lo hi n cs = ⟨[], []⟩) := by unfold Hid piS; rw [if_neg (by rw [HVB.out]; simp)]
      refine bodyPost_ret (v := .tuple #[.agg #[.slice none 0 0, .slice none 0 0], .agg #[.slice none 0 0, .slice none 0 0], .bool false]) (by simp [results, Try.results19, go_sem, t2_0, t2_1, t3_0, t3_1]) rfl ⟨(by rw [HVB.out, HPR.out, HPS.out]; exact RetG2.mk ⟨HV0.out, HV1.out⟩ ⟨HV2.out, HV3.out⟩), HZB.out⟩
    | true =>
      have zq1 := HG.out.q1
      have zq2 := HG.out.q2
      have zp2 := HG.out.p2
      have zq3 : gr.q ≤ 2000000000 := by omega
      have zq0 : 0 < gr.q := by omega
      have zq4 : gr.q ≤ 4000000000 := by omega
      have HRN := Lib.hid (rnB_parts hc2)
      obtain ⟨hn1, hn2⟩ := HRN.out.1
      obtain ⟨PW, hPW⟩ : ∃ z, (2 : Int) ^ n.toNat = z := ⟨_, rfl⟩
      have HPW := Lib.hid hPW
      obtain ⟨hpw1, hpw2⟩ : 1 ≤ PW ∧ PW ≤ 65536 := by rw [← hPW]; exact powR_bd n.toNat (by omega)
      have hpw : IntKind.i64.wrap (2 ^ min (IntKind.u64.wrap n).toNat 64) = PW := by
        have h := powS n.toNat (by omega)
        rw [Int.toNat_of_nonneg (by omega)] at h
        rw [h, hPW]
      have ewp : IntKind.i64.wrap (PW - 1) = PW - 1 := IntWalk.i64_in _ (by omega)
      have ew4 : IntKind.i64.wrap (4 * n) = 4 * n := IntWalk.i64_in _ (by omega)
      have ew5 : IntKind.i64.wrap (4 * n - 1) = 4 * n - 1 := IntWalk.i64_in _ (by omega)
      have ew6 : IntKind.i64.wrap (2 * (4 * n - 1)) = 2 * (4 * n - 1) := IntWalk.i64_in _ (by omega)
      have ew7 : IntKind.i64.wrap (8 * n) = 8 * n := IntWalk.i64_in _ (by omega)
      have ew8 : IntKind.i64.wrap (8 * n - 2) = 8 * n - 2 := IntWalk.i64_in _ (by omega)
      have ewpA : wrap64 (PW - 1) = PW - 1 := w64 (by omega) (by omega)
      have hpwA : wrap64 (2 ^ n.toNat) = PW := by rw [powR n.toNat (by omega), hPW]
      clear hPW
      have Hhc2 := Lib.hid hc2
      clear hc2
      go_wp2_with fail
      refine (impl_areExps gr _ [m, r, lo, hi] _ HG.out (OwnI.lit (B := 0) _ (Nat.zero_le _) (l := [m, r, lo, hi]) (AllI64.cons hm (AllI64.cons hr (AllI64.cons hlo (AllI64.cons hhi AllI64.nil)))) rfl (by simp [maxLen]) 4 rfl).ints).mono ?_
      rintro e u3 ⟨rfl, hq3⟩
      replace hq3 := Below.next (keep_al (Below.refl _ _) _) hq3
      replace hc := Below.next hc hq3
      clear hq3 c0_0 c0_1 c0_2 c1_0 c1_1
      obtain ⟨c0_0, c0_1, c0_2, c1_0, c1_1⟩ := HCC.out _ hc
      cases hc3 : [m, r, lo, hi].all (expB gr) with
      | false =>
        have Hhc3 := Lib.hid hc3
        clear hc3
        have HRE2 := Lib.hid (HR2.out.below hc)
        have HRE3 := Lib.hid (HR3.out.below hc)
        have HBE := Lib.hid (HB.out.trans (hc.mono HB.out.size))
        have r2_0 := HRE2.out.cell (i := 0) rfl
        have r2_1 := HRE2.out.cell (i := 1) rfl
        have fr2 := fun j => HRE2.out.frozen j
        have r3_0 := HRE3.out.cell (i := 0) rfl
        have r3_1 := HRE3.out.cell (i := 1) rfl
        have fr3 := fun j => HRE3.out.frozen j
        go_wp2_with fail
        obtain ⟨Z, hZ⟩ : ∃ Z, Z = (((u3.setCell ⟨w.heap.size + 1 + 1, 0, none⟩ (.slice none 0 0)).setCell ⟨w.heap.size + 1 + 1, 1, none⟩ (.slice none 0 0)).setCell ⟨w.heap.size + 1 + 1 + 1, 0, none⟩ (.slice none 0 0)).setCell ⟨w.heap.size + 1 + 1 + 1, 1, none⟩ (.slice none 0 0) := ⟨_, rfl⟩
        have HZ2 : Hid (BoxN Z (w.heap.size + 1 + 1) 33 [.slice none 0 0, .slice none 0 0]) := by unfold Hid; rw [hZ]; exact ((((HRE2.out.set 0 (.slice none 0 0)).set 1 (.slice none 0 0)).other (b' := w.heap.size + 1 + 1 + 1) (by omega) 0 (.slice none 0 0)).other (b' := w.heap.size + 1 + 1 + 1) (by omega) 1 (.slice none 0 0))
        have HZ3 : Hid (BoxN Z (w.heap.size + 1 + 1 + 1) 33 [.slice none 0 0, .slice none 0 0]) := by unfold Hid; rw [hZ]; exact ((((HRE3.out.other (b' := w.heap.size + 1 + 1) (by omega) 0 (.slice none 0 0)).other (b' := w.heap.size + 1 + 1) (by omega) 1 (.slice none 0 0)).set 0 (.slice none 0 0)).set 1 (.slice none 0 0))
        have HZB : Hid (Below w.heap.size w Z) := by unfold Hid; rw [hZ]; exact ((((HBE.out.setCell (p := ⟨w.heap.size + 1 + 1, 0, none⟩) (by show w.heap.size ≤ w.heap.size + 1 + 1; omega) (.slice none 0 0)).setCell (p := ⟨w.heap.size + 1 + 1, 1, none⟩) (by show w.heap.size ≤ w.heap.size + 1 + 1; omega) (.slice none 0 0)).setCell (p := ⟨w.heap.size + 1 + 1 + 1, 0, none⟩) (by show w.heap.size ≤ w.heap.size + 1 + 1 + 1; omega) (.slice none 0 0)).setCell (p := ⟨w.heap.size + 1 + 1 + 1, 1, none⟩) (by show w.heap.size ≤ w.heap.size + 1 + 1 + 1; omega) (.slice none 0 0))
        have HV0 : Hid (OwnI Z w.heap.size (.slice none 0 0) (⟨[], []⟩ : RangeD).b) := by unfold Hid; exact OwnI.nil _ _
        have HV1 : Hid (OwnQ Z w.heap.size (.slice none 0 0) (.slice none 0 0) (⟨[], []⟩ : RangeD).p) := by unfold Hid; exact OwnQ.nil _ _ _
        have HV2 : Hid (OwnI Z w.heap.size (.slice none 0 0) (⟨[], []⟩ : RangeD).b) := by unfold Hid; exact OwnI.nil _ _
        have HV3 : Hid (OwnQ Z w.heap.size (.slice none 0 0) (.slice none 0 0) (⟨[], []⟩ : RangeD).p) := by unfold Hid; exact OwnQ.nil _ _ _
        rw [← hZ]
        clear hZ r2_0 r2_1 r3_0 r3_1 fr2 fr3
        have t2_0 := HZ2.out.cell (i := 0) rfl
        have t2_1 := HZ2.out.cell (i := 1) rfl
        have t3_0 := HZ3.out.cell (i := 0) rfl
        have t3_1 := HZ3.out.cell (i := 1) rfl
        try (go_wp2_with fail)
        (try clear hpwA)
        (try clear ewpA)
        have HVB : Hid (piB gr bh bl m r lo hi n cs = false) := by unfold Hid; simp only [piB, Hhc1.out, Hhc2.out, Hhc3.out, Bool.true_and, Bool.false_and, Bool.and_true, Bool.and_false]
        have HPR : Hid (piR gr sBit bh bl m r lo hi n cs = ⟨[], []⟩) := by unfold Hid piR; rw [if_neg (by rw [HVB.out]; simp)]
        have HPS : Hid (piS gr sBit bh bl m r lo hi n cs = ⟨[], []⟩) := by unfold Hid piS; rw [if_neg (by rw [HVB.out]; simp)]
        refine bodyPost_ret (v := .tuple #[.agg #[.slice none 0 0, .slice none 0 0], .agg #[.slice none 0 0, .slice none 0 0], .bool false]) (by simp [results, Try.results19, go_sem, t2_0, t2_1, t3_0, t3_1]) rfl ⟨(by rw [HVB.out, HPR.out, HPS.out]; exact RetG2.mk ⟨HV0.out, HV1.out⟩ ⟨HV2.out, HV3.out⟩), HZB.out⟩
      | true =>
        have HEM : Hid (expB gr m = true ∧ expB gr r = true ∧ expB gr lo = true ∧ expB gr hi = true) := by have q := hc3; unfold Hid; simpa using q
        have HER := Lib.hid HEM.out.2.1
        obtain ⟨e1, e2⟩ := expB_bd HEM.out.1
        obtain ⟨e3, e4⟩ := expB_bd HEM.out.2.1
        obtain ⟨l1, l2⟩ := expB_bd HEM.out.2.2.1
        obtain ⟨i1, i2⟩ := expB_bd HEM.out.2.2.2
        have ewa : IntKind.i64.wrap (m - lo) = m - lo := IntWalk.i64_in _ (by clear ewpA hpwA; omega)
        have ewb : IntKind.i64.wrap (hi - m) = hi - m := IntWalk.i64_in _ (by clear ewpA hpwA; omega)
        have ewc : IntKind.i64.wrap (-r) = -r := IntWalk.i64_in _ (by clear ewpA hpwA; omega)
        have HIN : Hid (I64 (-r)) := by clear ewpA hpwA; exact ⟨by omega, by omega⟩
        have Hhc3 := Lib.hid hc3
        clear hc3
        go_wp2_with fail
        refine (impl_within (m - lo) 0 (PW - 1) _).mono ?_
        rintro e u4 ⟨rfl, rfl⟩
        cases hc4 : decide (0 ≤ (m - lo) ∧ (m - lo) ≤ (PW - 1)) with
        | false =>
          have HMAB : Hid (decide (0 ≤ m - lo ∧ m - lo ≤ 2 ^ n.toNat - 1) = false) := by unfold Hid; rw [HPW.out]; exact hc4
          have HRE2 := Lib.hid (HR2.out.below hc)
          have HRE3 := Lib.hid (HR3.out.below hc)
          have HBE := Lib.hid (HB.out.trans (hc.mono HB.out.size))
          have r2_0 := HRE2.out.cell (i := 0) rfl
          have r2_1 := HRE2.out.cell (i := 1) rfl
          have fr2 := fun j => HRE2.out.frozen j
          have r3_0 := HRE3.out.cell (i := 0) rfl
          have r3_1 := HRE3.out.cell (i := 1) rfl
          have fr3 := fun j => HRE3.out.frozen j
          go_wp2_with fail
          obtain ⟨Z, hZ⟩ : ∃ Z, Z = (((u3.setCell ⟨w.heap.size + 1 + 1, 0, none⟩ (.slice none 0 0)).setCell ⟨w.heap.size + 1 + 1, 1, none⟩ (.slice none 0 0)).setCell ⟨w.heap.size + 1 + 1 + 1, 0, none⟩ (.slice none 0 0)).setCell ⟨w.heap.size + 1 + 1 + 1, 1, none⟩ (.slice none 0 0) := ⟨_, rfl⟩
          have HZ2 : Hid (BoxN Z (w.heap.size + 1 + 1) 33 [.slice none 0 0, .slice none 0 0]) := by unfold Hid; rw [hZ]; exact ((((HRE2.out.set 0 (.slice none 0 0)).set 1 (.slice none 0 0)).other (b' := w.heap.size + 1 + 1 + 1) (by omega) 0 (.slice none 0 0)).other (b' := w.heap.size + 1 + 1 + 1) (by omega) 1 (.slice none 0 0))
          have HZ3 : Hid (BoxN Z (w.heap.size + 1 + 1 + 1) 33 [.slice none 0 0, .slice none 0 0]) := by unfold Hid; rw [hZ]; exact ((((HRE3.out.other (b' := w.heap.size + 1 + 1) (by omega) 0 (.slice none 0 0)).other (b' := w.heap.size + 1 + 1) (by omega) 1 (.slice none 0 0)).set 0 (.slice none 0 0)).set 1 (.slice none 0 0))
          have HZB : Hid (Below w.heap.size w Z) := by unfold Hid; rw [hZ]; exact ((((HBE.out.setCell (p := ⟨w.heap.size + 1 + 1, 0, none⟩) (by show w.heap.size ≤ w.heap.size + 1 + 1; omega) (.slice none 0 0)).setCell (p := ⟨w.heap.size + 1 + 1, 1, none⟩) (by show w.heap.size ≤ w.heap.size + 1 + 1; omega) (.slice none 0 0)).setCell (p := ⟨w.heap.size + 1 + 1 + 1, 0, none⟩) (by show w.heap.size ≤ w.heap.size + 1 + 1 + 1; omega) (.slice none 0 0)).setCell (p := ⟨w.heap.size + 1 + 1 + 1, 1, none⟩) (by show w.heap.size ≤ w.heap.size + 1 + 1 + 1; omega) (.slice none 0 0))
          have HV0 : Hid (OwnI Z w.heap.size (.slice none 0 0) (⟨[], []⟩ : RangeD).b) := by unfold Hid; exact OwnI.nil _ _
          have HV1 : Hid (OwnQ Z w.heap.size (.slice none 0 0) (.slice none 0 0) (⟨[], []⟩ : RangeD).p) := by unfold Hid; exact OwnQ.nil _ _ _
          have HV2 : Hid (OwnI Z w.heap.size (.slice none 0 0) (⟨[], []⟩ : RangeD).b) := by unfold Hid; exact OwnI.nil _ _
          have HV3 : Hid (OwnQ Z w.heap.size (.slice none 0 0) (.slice none 0 0) (⟨[], []⟩ : RangeD).p) := by unfold Hid; exact OwnQ.nil _ _ _
          rw [← hZ]
          clear hZ r2_0 r2_1 r3_0 r3_1 fr2 fr3
          have t2_0 := HZ2.out.cell (i := 0) rfl
          have t2_1 := HZ2.out.cell (i := 1) rfl
          have t3_0 := HZ3.out.cell (i := 0) rfl
          have t3_1 := HZ3.out.cell (i := 1) rfl
          try (go_wp2_with fail)
          (try clear hpwA)
          (try clear ewpA)
          have HVB : Hid (piB gr bh bl m r lo hi n cs = false) := by unfold Hid; simp only [piB, Hhc1.out, Hhc2.out, Hhc3.out, hc4, HMAB.out, Bool.true_and, Bool.false_and, Bool.and_true, Bool.and_false]
          have HPR : Hid (piR gr sBit bh bl m r lo hi n cs = ⟨[], []⟩) := by unfold Hid piR; rw [if_neg (by rw [HVB.out]; simp)]
          have HPS : Hid (piS gr sBit bh bl m r lo hi n cs = ⟨[], []⟩) := by unfold Hid piS; rw [if_neg (by rw [HVB.out]; simp)]
          refine bodyPost_ret (v := .tuple #[.agg #[.slice none 0 0, .slice none 0 0], .agg #[.slice none 0 0, .slice none 0 0], .bool false]) (by simp [results, Try.results19, go_sem, t2_0, t2_1, t3_0, t3_1]) rfl ⟨(by rw [HVB.out, HPR.out, HPS.out]; exact RetG2.mk ⟨HV0.out, HV1.out⟩ ⟨HV2.out, HV3.out⟩), HZB.out⟩
        | true =>
          have HMAB : Hid (decide (0 ≤ m - lo ∧ m - lo ≤ 2 ^ n.toNat - 1) = true) := by unfold Hid; rw [HPW.out]; exact hc4
          have HMA : Hid (0 ≤ m - lo ∧ m - lo ≤ 65535) := by have q := of_decide_eq_true hc4; unfold Hid; (try clear hpwA ewpA); omega
          go_wp2_with fail
          refine (impl_within (hi - m) 0 (PW - 1) _).mono ?_
          rintro e u5 ⟨rfl, rfl⟩
          cases hc5 : decide (0 ≤ (hi - m) ∧ (hi - m) ≤ (PW - 1)) with
          | false =>
            have HMCB : Hid (decide (0 ≤ hi - m ∧ hi - m ≤ 2 ^ n.toNat - 1) = false) := by unfold Hid; rw [HPW.out]; exact hc5
            have HRE2 := Lib.hid (HR2.out.below hc)
            have HRE3 := Lib.hid (HR3.out.below hc)
            have HBE := Lib.hid (HB.out.trans (hc.mono HB.out.size))
            have r2_0 := HRE2.out.cell (i := 0) rfl
            have r2_1 := HRE2.out.cell (i := 1) rfl
            have fr2 := fun j => HRE2.out.frozen j
            have r3_0 := HRE3.out.cell (i := 0) rfl
            have r3_1 := HRE3.out.cell (i := 1) rfl
            have fr3 := fun j => HRE3.out.frozen j
            go_wp2_with fail
            obtain ⟨Z, hZ⟩ : ∃ Z, Z = (((u3.setCell ⟨w.heap.size + 1 + 1, 0, none⟩ (.slice none 0 0)).setCell ⟨w.heap.size + 1 + 1, 1, none⟩ (.slice none 0 0)).setCell ⟨w.heap.size + 1 + 1 + 1, 0, none⟩ (.slice none 0 0)).setCell ⟨w.heap.size + 1 + 1 + 1, 1, none⟩ (.slice none 0 0) := ⟨_, rfl⟩
            have HZ2 : Hid (BoxN Z (w.heap.size + 1 + 1) 33 [.slice none 0 0, .slice none 0 0]) := by unfold Hid; rw [hZ]; exact ((((HRE2.out.set 0 (.slice none 0 0)).set 1 (.slice none 0 0)).other (b' := w.heap.size + 1 + 1 + 1) (by omega) 0 (.slice none 0 0)).other (b' := w.heap.size + 1 + 1 + 1) (by omega) 1 (.slice none 0 0))
            have HZ3 : Hid (BoxN Z (w.heap.size + 1 + 1 + 1) 33 [.slice none 0 0, .slice none 0 0]) := by unfold Hid; rw [hZ]; exact ((((HRE3.out.other (b' := w.heap.size + 1 + 1) (by omega) 0 (.slice none 0 0)).other (b' := w.heap.size + 1 + 1) (by omega) 1 (.slice none 0 0)).set 0 (.slice none 0 0)).set 1 (.slice none 0 0))
            have HZB : Hid (Below w.heap.size w Z) := by unfold Hid; rw [hZ]; exact ((((HBE.out.setCell (p := ⟨w.heap.size + 1 + 1, 0, none⟩) (by show w.heap.size ≤ w.heap.size + 1 + 1; omega) (.slice none 0 0)).setCell (p := ⟨w.heap.size + 1 + 1, 1, none⟩) (by show w.heap.size ≤ w.heap.size + 1 + 1; omega) (.slice none 0 0)).setCell (p := ⟨w.heap.size + 1 + 1 + 1, 0, none⟩) (by show w.heap.size ≤ w.heap.size + 1 + 1 + 1; omega) (.slice none 0 0)).setCell (p := ⟨w.heap.size + 1 + 1 + 1, 1, none⟩) (by show w.heap.size ≤ w.heap.size + 1 + 1 + 1; omega) (.slice none 0 0))
            have HV0 : Hid (OwnI Z w.heap.size (.slice none 0 0) (⟨[], []⟩ : RangeD).b) := by unfold Hid; exact OwnI.nil _ _
            have HV1 : Hid (OwnQ Z w.heap.size (.slice none 0 0) (.slice none 0 0) (⟨[], []⟩ : RangeD).p) := by unfold Hid; exact OwnQ.nil _ _ _
            have HV2 : Hid (OwnI Z w.heap.size (.slice none 0 0) (⟨[], []⟩ : RangeD).b) := by unfold Hid; exact OwnI.nil _ _
            have HV3 : Hid (OwnQ Z w.heap.size (.slice none 0 0) (.slice none 0 0) (⟨[], []⟩ : RangeD).p) := by unfold Hid; exact OwnQ.nil _ _ _
            rw [← hZ]
            clear hZ r2_0 r2_1 r3_0 r3_1 fr2 fr3
            have t2_0 := HZ2.out.cell (i := 0) rfl
            have t2_1 := HZ2.out.cell (i := 1) rfl
            have t3_0 := HZ3.out.cell (i := 0) rfl
            have t3_1 := HZ3.out.cell (i := 1) rfl
            try (go_wp2_with fail)
            (try clear hpwA)
            (try clear ewpA)
            have HVB : Hid (piB gr bh bl m r lo hi n cs = false) := by unfold Hid; simp only [piB, Hhc1.out, Hhc2.out, Hhc3.out, hc4, hc5, HMAB.out, HMCB.out, Bool.true_and, Bool.false_and, Bool.and_true, Bool.and_false]
            have HPR : Hid (piR gr sBit bh bl m r lo hi n cs = ⟨[], []⟩) := by unfold Hid piR; rw [if_neg (by rw [HVB.out]; simp)]
            have HPS : Hid (piS gr sBit bh bl m r lo hi n cs = ⟨[], []⟩) := by unfold Hid piS; rw [if_neg (by rw [HVB.out]; simp)]
            refine bodyPost_ret (v := .tuple #[.agg #[.slice none 0 0, .slice none 0 0], .agg #[.slice none 0 0, .slice none 0 0], .bool false]) (by simp [results, Try.results19, go_sem, t2_0, t2_1, t3_0, t3_1]) rfl ⟨(by rw [HVB.out, HPR.out, HPS.out]; exact RetG2.mk ⟨HV0.out, HV1.out⟩ ⟨HV2.out, HV3.out⟩), HZB.out⟩
          | true =>
            have HMCB : Hid (decide (0 ≤ hi - m ∧ hi - m ≤ 2 ^ n.toNat - 1) = true) := by unfold Hid; rw [HPW.out]; exact hc5
            have HMC : Hid (0 ≤ hi - m ∧ hi - m ≤ 65535) := by have q := of_decide_eq_true hc5; unfold Hid; (try clear hpwA ewpA); omega
            cases hc6 : ((cvn : Int) != (2 * (4 * n - 1))) with
            | false =>
              have HL2 : Hid (decide ((cs.length : Int) = 8 * n - 2) = true) := by have q := hc6; rw [bne_eq_false_iff_eq] at q; exact decide_eq_true (by have := Ecv.out; (try clear hpwA ewpA); omega)
              go_wp2_with fail
              refine (impl_areExps gr _ cs _ HG.out (Hcv.out.below (HB.out.trans (hc.mono HB.out.size)))).mono ?_
              rintro e u6 ⟨rfl, hq6⟩
              replace hc := Below.next hc hq6
              clear hq6 c0_0 c0_1 c0_2 c1_0 c1_1
              obtain ⟨c0_0, c0_1, c0_2, c1_0, c1_1⟩ := HCC.out _ hc
              cases hc7 : cs.all (expB gr) with
              | false =>
                have Hhc7 := Lib.hid hc7
                clear hc7
                have HRE2 := Lib.hid (HR2.out.below hc)
                have HRE3 := Lib.hid (HR3.out.below hc)
                have HBE := Lib.hid (HB.out.trans (hc.mono HB.out.size))
                have r2_0 := HRE2.out.cell (i := 0) rfl
                have r2_1 := HRE2.out.cell (i := 1) rfl
                have fr2 := fun j => HRE2.out.frozen j
                have r3_0 := HRE3.out.cell (i := 0) rfl
                have r3_1 := HRE3.out.cell (i := 1) rfl
                have fr3 := fun j => HRE3.out.frozen j
                go_wp2_with fail
                obtain ⟨Z, hZ⟩ : ∃ Z, Z = (((u6.setCell ⟨w.heap.size + 1 + 1, 0, none⟩ (.slice none 0 0)).setCell ⟨w.heap.size + 1 + 1, 1, none⟩ (.slice none 0 0)).setCell ⟨w.heap.size + 1 + 1 + 1, 0, none⟩ (.slice none 0 0)).setCell ⟨w.heap.size + 1 + 1 + 1, 1, none⟩ (.slice none 0 0) := ⟨_, rfl⟩
                have HZ2 : Hid (BoxN Z (w.heap.size + 1 + 1) 33 [.slice none 0 0, .slice none 0 0]) := by unfold Hid; rw [hZ]; exact ((((HRE2.out.set 0 (.slice none 0 0)).set 1 (.slice none 0 0)).other (b' := w.heap.size + 1 + 1 + 1) (by omega) 0 (.slice none 0 0)).other (b' := w.heap.size + 1 + 1 + 1) (by omega) 1 (.slice none 0 0))
                have HZ3 : Hid (BoxN Z (w.heap.size + 1 + 1 + 1) 33 [.slice none 0 0, .slice none 0 0]) := by unfold Hid; rw [hZ]; exact ((((HRE3.out.other (b' := w.heap.size + 1 + 1) (by omega) 0 (.slice none 0 0)).other (b' := w.heap.size + 1 + 1) (by omega) 1 (.slice none 0 0)).set 0 (.slice none 0 0)).set 1 (.slice none 0 0))
                have HZB : Hid (Below w.heap.size w Z) := by unfold Hid; rw [hZ]; exact ((((HBE.out.setCell (p := ⟨w.heap.size + 1 + 1, 0, none⟩) (by show w.heap.size ≤ w.heap.size + 1 + 1; omega) (.slice none 0 0)).setCell (p := ⟨w.heap.size + 1 + 1, 1, none⟩) (by show w.heap.size ≤ w.heap.size + 1 + 1; omega) (.slice none 0 0)).setCell (p := ⟨w.heap.size + 1 + 1 + 1, 0, none⟩) (by show w.heap.size ≤ w.heap.size + 1 + 1 + 1; omega) (.slice none 0 0)).setCell (p := ⟨w.heap.size + 1 + 1 + 1, 1, none⟩) (by show w.heap.size ≤ w.heap.size + 1 + 1 + 1; omega) (.slice none 0 0))
                have HV0 : Hid (OwnI Z w.heap.size (.slice none 0 0) (⟨[], []⟩ : RangeD).b) := by unfold Hid; exact OwnI.nil _ _
                have HV1 : Hid (OwnQ Z w.heap.size (.slice none 0 0) (.slice none 0 0) (⟨[], []⟩ : RangeD).p) := by unfold Hid; exact OwnQ.nil _ _ _
                have HV2 : Hid (OwnI Z w.heap.size (.slice none 0 0) (⟨[], []⟩ : RangeD).b) := by unfold Hid; exact OwnI.nil _ _
                have HV3 : Hid (OwnQ Z w.heap.size (.slice none 0 0) (.slice none 0 0) (⟨[], []⟩ : RangeD).p) := by unfold Hid; exact OwnQ.nil _ _ _
                rw [← hZ]
                clear hZ r2_0 r2_1 r3_0 r3_1 fr2 fr3
                have t2_0 := HZ2.out.cell (i := 0) rfl
                have t2_1 := HZ2.out.cell (i := 1) rfl
                have t3_0 := HZ3.out.cell (i := 0) rfl
                have t3_1 := HZ3.out.cell (i := 1) rfl
                try (go_wp2_with fail)
                (try clear hpwA)
                (try clear ewpA)
                have HVB : Hid (piB gr bh bl m r lo hi n cs = false) := by unfold Hid; simp only [piB, Hhc1.out, Hhc2.out, Hhc3.out, hc4, hc5, hc6, Hhc7.out, HMAB.out, HMCB.out, HL2.out, Bool.true_and, Bool.false_and, Bool.and_true, Bool.and_false]
                have HPR : Hid (piR gr sBit bh bl m r lo hi n cs = ⟨[], []⟩) := by unfold Hid piR; rw [if_neg (by rw [HVB.out]; simp)]
                have HPS : Hid (piS gr sBit bh bl m r lo hi n cs = ⟨[], []⟩) := by unfold Hid piS; rw [if_neg (by rw [HVB.out]; simp)]
                refine bodyPost_ret (v := .tuple #[.agg #[.slice none 0 0, .slice none 0 0], .agg #[.slice none 0 0, .slice none 0 0], .bool false]) (by simp [results, Try.results19, go_sem, t2_0, t2_1, t3_0, t3_1]) rfl ⟨(by rw [HVB.out, HPR.out, HPS.out]; exact RetG2.mk ⟨HV0.out, HV1.out⟩ ⟨HV2.out, HV3.out⟩), HZB.out⟩
              | true =>
                have HCA : Hid (cs.all (expB gr) = true) := hc7
                have Hhc7 := Lib.hid hc7
                clear hc7
                have HDC : Hid ((cs.length : Int) = 8 * n - 2) := by unfold Hid; exact of_decide_eq_true HL2.out
                obtain ⟨KJ, hKJ⟩ : ∃ k : Nat, (4 * n - 1).toNat = k := ⟨_, rfl⟩
                have HKN : Hid (4 * n - 1 = (KJ : Int)) := by unfold Hid; (try clear hpwA ewpA); omega
                have HKC : Hid (cs.length = 2 * KJ) := by have := HDC.out; have := HKN.out; unfold Hid; (try clear hpwA ewpA); omega
                have HKK := Lib.hid hKJ
                clear hKJ
                obtain ⟨hs1, HI1⟩ := sl_take Hcv.out (x := 4 * n - 1) (k := KJ) HKN.out (by have := HKC.out; have := Ecv.out; (try clear hpwA ewpA); omega)
                obtain ⟨xd, hs2, HI2⟩ := sl_drop Hcv.out (x := 4 * n - 1) (k := KJ) HKN.out (by have := HKC.out; have := Ecv.out; (try clear hpwA ewpA); omega)
                have HT1 := Lib.hid HI1
                have HT2 := Lib.hid HI2
                clear HI1 HI2
                obtain ⟨MO, hMO⟩ : ∃ x, -r % gr.q = x := ⟨_, rfl⟩
                have HMO := Lib.hid hMO
                have HEO : Hid (expB gr MO = true) := by unfold Hid; rw [← hMO]; exact expT HG.out _
                clear hMO
                obtain ⟨D1, hD1⟩ : ∃ d, rgD gr sBit bh (m - lo) r n.toNat (cs.take KJ) = d := ⟨_, rfl⟩
                obtain ⟨D2, hD2⟩ : ∃ d, rgD gr sBit bh (hi - m) MO n.toNat (cs.drop KJ) = d := ⟨_, rfl⟩
                have HD1 := Lib.hid hD1
                have HD2 := Lib.hid hD2
                have HN1 : Hid (D1.b.length = n.toNat ∧ D1.p.length = n.toNat) := by unfold Hid; rw [← hD1]; exact ⟨rgB_len _ _ _ _ _, rgP_len _ _ _ _ _ _ _⟩
                have HN2 : Hid (D2.b.length = n.toNat ∧ D2.p.length = n.toNat) := by unfold Hid; rw [← hD2]; exact ⟨rgB_len _ _ _ _ _, rgP_len _ _ _ _ _ _ _⟩
                clear hD1 hD2
                have HC1 : Hid (((cs.take KJ).length : Int) = 4 * n - 1) := by have := HKC.out; have := HKN.out; unfold Hid; rw [List.length_take]; (try clear hpwA ewpA); omega
                have HC2 : Hid (((cs.drop KJ).length : Int) = 4 * n - 1) := by have := HKC.out; have := HKN.out; unfold Hid; rw [List.length_drop]; (try clear hpwA ewpA); omega
                have hszq := hc.size
                try (go_wp2_with fail)
                refine wp_region_noPanic ?_
                refine wp_region_P (fun w' => w'.cell? ⟨w.heap.size, 0, none⟩ = some (.int .i64 gr.p) ∧ w'.cell? ⟨w.heap.size, 1, none⟩ = some (.int .i64 gr.q) ∧ w'.cell? ⟨w.heap.size, 2, none⟩ = some (.int .i64 gr.g) ∧ w'.cell? ⟨w.heap.size + 1, 0, none⟩ = some (.int .i64 bh) ∧ w'.cell? ⟨w.heap.size + 1, 1, none⟩ = some ((.slice bva bvn bvc))) 30 [(0, []), (1, []), (2, []), (3, []), (4, [1, 0]), (5, []), (6, []), (7, []), (8, []), (9, [1, 0]), (10, [9, 8, 5, 4, 3, 0]), (11, []), (12, []), (13, []), (14, []), (15, [1, 0]), (16, []), (17, []), (18, [0]), (19, [2, 0]), (20, []), (21, []), (22, []), (23, [1, 0]), (24, [12, 11, 8, 4, 3, 0])] [25, 26, 27] (by kernel_rfl) (by kernel_rfl) (by kernel_rfl) rfl (fun _ _ _ _ h => h) (fun w' h => ⟨box_at c0_0 h, box_at c0_1 h, box_at c0_2 h, box_at c1_0 h, box_at c1_1 h⟩) ?_
                simp only [pickP, pickN, List.getElem?_cons_zero, List.getElem?_cons_succ]
                iterate 9 (refine' chainP_read _ rfl rfl (fun w' hS' => ?_) ?_; rotate_left; · (simp only [lookP, allP, Act.put, List.getElem?_cons_zero, List.getElem?_cons_succ, List.setIfInBounds_toArray, List.set_cons_zero, List.set_cons_succ]; (try dsimp only at hS'); go_simp; (try with_reducible rfl)))
                -- 9: slice 24 t89 none (some t90) none
                refine' chainP_read (d := (some 91)) _ rfl rfl (fun w' hS' => ?_) ?_; rotate_left
                · simp only [lookP, allP, Act.put, List.getElem?_cons_zero, List.getElem?_cons_succ, List.setIfInBounds_toArray, List.set_cons_zero, List.set_cons_succ]
                  (try dsimp only at hS')
                  go_simp
                  (try with_reducible rfl)
                -- 10: call { callee := value (func 219), args := #[t82, t83, t86, t87, t88, t91], argTypes := #[39, 79, 3, 3, 3, 24] }
                refine chainP_do (d := (some 92)) (fun v u => ∃ x y, v = .agg #[x, y] ∧ OwnI u u6.heap.size x D1.b ∧ OwnQ u u6.heap.size x y D1.p) (fun v w1 w2 hb h => by obtain ⟨x, y, e, h1, h2⟩ := h; exact ⟨x, y, e, h1.below hb, h2.below hb⟩) rfl rfl (fun w' hS' => ?_) ?_
                · simp only [lookP, allP, Act.put, List.getElem?_cons_zero, List.getElem?_cons_succ, List.setIfInBounds_toArray, List.set_cons_zero, List.set_cons_succ]
                  intro K hK
                  go_simp
                  go_at_call 91
                  refine (impl_proveRangeN gr bh _ bl (m - lo) r n _ (cs.take KJ) w' HG.out ((Hbv.out.below (HB.out.trans (hc.mono HB.out.size))).below hS'.1) sbh HMA.out HER.out ⟨hn1, hn2⟩ ((HT1.out.below (HB.out.trans (hc.mono HB.out.size))).below hS'.1) HC1.out (take_all KJ HCA.out)).mono ?_
                  rintro e u ⟨⟨x, y, rfl, h1, h2⟩, hq⟩
                  rw [HD1.out] at h1 h2
                  exact hK.out _ _ hq ⟨x, y, rfl, h1.mono hS'.1.size, h2.mono hS'.1.size⟩
                iterate 8 (refine' chainP_read _ rfl rfl (fun w' hS' => ?_) ?_; rotate_left; · (simp only [lookP, allP, Act.put, List.getElem?_cons_zero, List.getElem?_cons_succ, List.setIfInBounds_toArray, List.set_cons_zero, List.set_cons_succ]; (try dsimp only at hS'); go_simp; (try with_reducible rfl)))
                -- 19: call { callee := value (func 177), args := #[t98, t100], argTypes := #[39, 3] }
                refine chainP_call (d := (some 101)) (.int .i64 MO) rfl rfl (fun w' hS' => ?_) ?_
                · simp only [lookP, allP, Act.put, List.getElem?_cons_zero, List.getElem?_cons_succ, List.setIfInBounds_toArray, List.set_cons_zero, List.set_cons_succ]
                  intro K hK
                  go_simp
                  go_at_call 103
                  refine (impl_exp gr (-r) w' HG.out HIN.out).mono ?_
                  rintro e u ⟨rfl, hq⟩
                  rw [HMO.out]
                  exact hK.out _ hq
                iterate 3 (refine' chainP_read _ rfl rfl (fun w' hS' => ?_) ?_; rotate_left; · (simp only [lookP, allP, Act.put, List.getElem?_cons_zero, List.getElem?_cons_succ, List.setIfInBounds_toArray, List.set_cons_zero, List.set_cons_succ]; (try dsimp only at hS'); go_simp; (try with_reducible rfl)))
                -- 23: slice 24 t103 (some t104) none none
                refine' chainP_read (d := (some 105)) _ rfl rfl (fun w' hS' => ?_) ?_; rotate_left
                · simp only [lookP, allP, Act.put, List.getElem?_cons_zero, List.getElem?_cons_succ, List.setIfInBounds_toArray, List.set_cons_zero, List.set_cons_succ]
                  (try dsimp only at hS')
                  go_simp
                  (try with_reducible rfl)
                -- 24: call { callee := value (func 219), args := #[t93, t94, t97, t101, t102, t105], argTypes := #[39, 79, 3, 3, 3, 24] }
                refine chainP_do (d := (some 106)) (fun v u => ∃ x y, v = .agg #[x, y] ∧ OwnI u u6.heap.size x D2.b ∧ OwnQ u u6.heap.size x y D2.p) (fun v w1 w2 hb h => by obtain ⟨x, y, e, h1, h2⟩ := h; exact ⟨x, y, e, h1.below hb, h2.below hb⟩) rfl rfl (fun w' hS' => ?_) ?_
                · simp only [lookP, allP, Act.put, List.getElem?_cons_zero, List.getElem?_cons_succ, List.setIfInBounds_toArray, List.set_cons_zero, List.set_cons_succ]
                  intro K hK
                  go_simp
                  go_at_call 91
                  refine (impl_proveRangeN gr bh _ bl (hi - m) MO n _ (cs.drop KJ) w' HG.out ((Hbv.out.below (HB.out.trans (hc.mono HB.out.size))).below hS'.1) sbh HMC.out HEO.out ⟨hn1, hn2⟩ ((HT2.out.below (HB.out.trans (hc.mono HB.out.size))).below hS'.1) HC2.out (drop_all KJ HCA.out)).mono ?_
                  rintro e u ⟨⟨x, y, rfl, h1, h2⟩, hq⟩
                  rw [HD2.out] at h1 h2
                  exact hK.out _ _ hq ⟨x, y, rfl, h1.mono hS'.1.size, h2.mono hS'.1.size⟩
                refine chainP_nil (fun u7 hS' => ?_)
                simp only [allP, Act.put, List.setIfInBounds_toArray, List.set_cons_zero, List.set_cons_succ]
                intro x24 hx24
                intro x10 hx10
                have hq7 := hS'.1
                clear hS'
                replace hc := Below.next hc hq7
                clear hq7 c0_0 c0_1 c0_2 c1_0 c1_1
                obtain ⟨c0_0, c0_1, c0_2, c1_0, c1_1⟩ := HCC.out _ hc
                have hszv := hc.size
                obtain ⟨x1, y1, hxe, ho1, hq1⟩ := hx10
                subst hxe
                obtain ⟨x2, y2, hxe, ho2, hq2⟩ := hx24
                subst hxe
                obtain ⟨xa1, xc1, hxe⟩ := ho1.shapeN HN1.out.1
                subst hxe
                obtain ⟨xa2, xc2, hxe⟩ := ho2.shapeN HN2.out.1
                subst hxe
                obtain ⟨ya1, yc1, hxe⟩ := hq1.shapeN HN1.out.2
                subst hxe
                obtain ⟨ya2, yc2, hxe⟩ := hq2.shapeN HN2.out.2
                subst hxe
                have HO1 := Lib.hid ho1
                have HO2 := Lib.hid ho2
                have HQ1 := Lib.hid hq1
                have HQ2 := Lib.hid hq2
                clear ho1 ho2 hq1 hq2
                have HRE2 := Lib.hid (HR2.out.below hc)
                have HRE3 := Lib.hid (HR3.out.below hc)
                have HBE := Lib.hid (HB.out.trans (hc.mono HB.out.size))
                have r2_0 := HRE2.out.cell (i := 0) rfl
                have r2_1 := HRE2.out.cell (i := 1) rfl
                have fr2 := fun j => HRE2.out.frozen j
                have r3_0 := HRE3.out.cell (i := 0) rfl
                have r3_1 := HRE3.out.cell (i := 1) rfl
                have fr3 := fun j => HRE3.out.frozen j
                go_wp2_with fail
                refine NoPanic.normal ?_
                (try (go_wp2_with fail))
                obtain ⟨Z, hZ⟩ : ∃ Z, Z = (((u7.setCell ⟨w.heap.size + 1 + 1, 0, none⟩ (.slice xa1 n.toNat xc1)).setCell ⟨w.heap.size + 1 + 1, 1, none⟩ (.slice ya1 n.toNat yc1)).setCell ⟨w.heap.size + 1 + 1 + 1, 0, none⟩ (.slice xa2 n.toNat xc2)).setCell ⟨w.heap.size + 1 + 1 + 1, 1, none⟩ (.slice ya2 n.toNat yc2) := ⟨_, rfl⟩
                have HZ2 : Hid (BoxN Z (w.heap.size + 1 + 1) 33 [.slice xa1 n.toNat xc1, .slice ya1 n.toNat yc1]) := by unfold Hid; rw [hZ]; exact ((((HRE2.out.set 0 (.slice xa1 n.toNat xc1)).set 1 (.slice ya1 n.toNat yc1)).other (b' := w.heap.size + 1 + 1 + 1) (by omega) 0 (.slice xa2 n.toNat xc2)).other (b' := w.heap.size + 1 + 1 + 1) (by omega) 1 (.slice ya2 n.toNat yc2))
                have HZ3 : Hid (BoxN Z (w.heap.size + 1 + 1 + 1) 33 [.slice xa2 n.toNat xc2, .slice ya2 n.toNat yc2]) := by unfold Hid; rw [hZ]; exact ((((HRE3.out.other (b' := w.heap.size + 1 + 1) (by omega) 0 (.slice xa1 n.toNat xc1)).other (b' := w.heap.size + 1 + 1) (by omega) 1 (.slice ya1 n.toNat yc1)).set 0 (.slice xa2 n.toNat xc2)).set 1 (.slice ya2 n.toNat yc2))
                have HZB : Hid (Below w.heap.size w Z) := by unfold Hid; rw [hZ]; exact ((((HBE.out.setCell (p := ⟨w.heap.size + 1 + 1, 0, none⟩) (by show w.heap.size ≤ w.heap.size + 1 + 1; omega) (.slice xa1 n.toNat xc1)).setCell (p := ⟨w.heap.size + 1 + 1, 1, none⟩) (by show w.heap.size ≤ w.heap.size + 1 + 1; omega) (.slice ya1 n.toNat yc1)).setCell (p := ⟨w.heap.size + 1 + 1 + 1, 0, none⟩) (by show w.heap.size ≤ w.heap.size + 1 + 1 + 1; omega) (.slice xa2 n.toNat xc2)).setCell (p := ⟨w.heap.size + 1 + 1 + 1, 1, none⟩) (by show w.heap.size ≤ w.heap.size + 1 + 1 + 1; omega) (.slice ya2 n.toNat yc2))
                have HV0 : Hid (OwnI Z w.heap.size (.slice xa1 n.toNat xc1) D1.b) := by unfold Hid; rw [hZ]; exact ((((HO1.out.other (b := w.heap.size + 1 + 1) (by omega) 0 (.slice xa1 n.toNat xc1)).other (b := w.heap.size + 1 + 1) (by omega) 1 (.slice ya1 n.toNat yc1)).other (b := w.heap.size + 1 + 1 + 1) (by omega) 0 (.slice xa2 n.toNat xc2)).other (b := w.heap.size + 1 + 1 + 1) (by omega) 1 (.slice ya2 n.toNat yc2)).mono (by omega)
                have HV1 : Hid (OwnQ Z w.heap.size (.slice xa1 n.toNat xc1) (.slice ya1 n.toNat yc1) D1.p) := by unfold Hid; rw [hZ]; exact ((((HQ1.out.other (b := w.heap.size + 1 + 1) (by omega) 0 (.slice xa1 n.toNat xc1)).other (b := w.heap.size + 1 + 1) (by omega) 1 (.slice ya1 n.toNat yc1)).other (b := w.heap.size + 1 + 1 + 1) (by omega) 0 (.slice xa2 n.toNat xc2)).other (b := w.heap.size + 1 + 1 + 1) (by omega) 1 (.slice ya2 n.toNat yc2)).mono (by omega)
                have HV2 : Hid (OwnI Z w.heap.size (.slice xa2 n.toNat xc2) D2.b) := by unfold Hid; rw [hZ]; exact ((((HO2.out.other (b := w.heap.size + 1 + 1) (by omega) 0 (.slice xa1 n.toNat xc1)).other (b := w.heap.size + 1 + 1) (by omega) 1 (.slice ya1 n.toNat yc1)).other (b := w.heap.size + 1 + 1 + 1) (by omega) 0 (.slice xa2 n.toNat xc2)).other (b := w.heap.size + 1 + 1 + 1) (by omega) 1 (.slice ya2 n.toNat yc2)).mono (by omega)
                have HV3 : Hid (OwnQ Z w.heap.size (.slice xa2 n.toNat xc2) (.slice ya2 n.toNat yc2) D2.p) := by unfold Hid; rw [hZ]; exact ((((HQ2.out.other (b := w.heap.size + 1 + 1) (by omega) 0 (.slice xa1 n.toNat xc1)).other (b := w.heap.size + 1 + 1) (by omega) 1 (.slice ya1 n.toNat yc1)).other (b := w.heap.size + 1 + 1 + 1) (by omega) 0 (.slice xa2 n.toNat xc2)).other (b := w.heap.size + 1 + 1 + 1) (by omega) 1 (.slice ya2 n.toNat yc2)).mono (by omega)
                rw [← hZ]
                clear hZ r2_0 r2_1 r3_0 r3_1 fr2 fr3
                have t2_0 := HZ2.out.cell (i := 0) rfl
                have t2_1 := HZ2.out.cell (i := 1) rfl
                have t3_0 := HZ3.out.cell (i := 0) rfl
                have t3_1 := HZ3.out.cell (i := 1) rfl
                try (go_wp2_with fail)
                (try clear hpwA)
                (try clear ewpA)
                have HVB : Hid (piB gr bh bl m r lo hi n cs = true) := by unfold Hid; simp only [piB, Hhc1.out, Hhc2.out, Hhc3.out, hc4, hc5, hc6, Hhc7.out, HMAB.out, HMCB.out, HL2.out, Bool.true_and, Bool.false_and, Bool.and_true, Bool.and_false]
                have HPR : Hid (piR gr sBit bh bl m r lo hi n cs = D1) := by unfold Hid piR; rw [if_pos HVB.out, HKK.out, HD1.out]
                have HPS : Hid (piS gr sBit bh bl m r lo hi n cs = D2) := by unfold Hid piS; rw [if_pos HVB.out, HKK.out, HMO.out, HD2.out]
                refine bodyPost_ret (v := .tuple #[.agg #[.slice xa1 n.toNat xc1, .slice ya1 n.toNat yc1], .agg #[.slice xa2 n.toNat xc2, .slice ya2 n.toNat yc2], .bool true]) (by simp [results, Try.results19, go_sem, t2_0, t2_1, t3_0, t3_1]) rfl ⟨(by rw [HVB.out, HPR.out, HPS.out]; exact RetG2.mk ⟨HV0.out, HV1.out⟩ ⟨HV2.out, HV3.out⟩), HZB.out⟩
            | true =>
              have HL2 : Hid (decide ((cs.length : Int) = 8 * n - 2) = false) := by have q := hc6; rw [bne_iff_ne] at q; exact decide_eq_false (by have := Ecv.out; (try clear hpwA ewpA); omega)
              have HRE2 := Lib.hid (HR2.out.below hc)
              have HRE3 := Lib.hid (HR3.out.below hc)
              have HBE := Lib.hid (HB.out.trans (hc.mono HB.out.size))
              have r2_0 := HRE2.out.cell (i := 0) rfl
              have r2_1 := HRE2.out.cell (i := 1) rfl
              have fr2 := fun j => HRE2.out.frozen j
              have r3_0 := HRE3.out.cell (i := 0) rfl
              have r3_1 := HRE3.out.cell (i := 1) rfl
              have fr3 := fun j => HRE3.out.frozen j
              go_wp2_with fail
              obtain ⟨Z, hZ⟩ : ∃ Z, Z = (((u3.setCell ⟨w.heap.size + 1 + 1, 0, none⟩ (.slice none 0 0)).setCell ⟨w.heap.size + 1 + 1, 1, none⟩ (.slice none 0 0)).setCell ⟨w.heap.size + 1 + 1 + 1, 0, none⟩ (.slice none 0 0)).setCell ⟨w.heap.size + 1 + 1 + 1, 1, none⟩ (.slice none 0 0) := ⟨_, rfl⟩
              have HZ2 : Hid (BoxN Z (w.heap.size + 1 + 1) 33 [.slice none 0 0, .slice none 0 0]) := by unfold Hid; rw [hZ]; exact ((((HRE2.out.set 0 (.slice none 0 0)).set 1 (.slice none 0 0)).other (b' := w.heap.size + 1 + 1 + 1) (by omega) 0 (.slice none 0 0)).other (b' := w.heap.size + 1 + 1 + 1) (by omega) 1 (.slice none 0 0))
              have HZ3 : Hid (BoxN Z (w.heap.size + 1 + 1 + 1) 33 [.slice none 0 0, .slice none 0 0]) := by unfold Hid; rw [hZ]; exact ((((HRE3.out.other (b' := w.heap.size + 1 + 1) (by omega) 0 (.slice none 0 0)).other (b' := w.heap.size + 1 + 1) (by omega) 1 (.slice none 0 0)).set 0 (.slice none 0 0)).set 1 (.slice none 0 0))
              have HZB : Hid (Below w.heap.size w Z) := by unfold Hid; rw [hZ]; exact ((((HBE.out.setCell (p := ⟨w.heap.size + 1 + 1, 0, none⟩) (by show w.heap.size ≤ w.heap.size + 1 + 1; omega) (.slice none 0 0)).setCell (p := ⟨w.heap.size + 1 + 1, 1, none⟩) (by show w.heap.size ≤ w.heap.size + 1 + 1; omega) (.slice none 0 0)).setCell (p := ⟨w.heap.size + 1 + 1 + 1, 0, none⟩) (by show w.heap.size ≤ w.heap.size + 1 + 1 + 1; omega) (.slice none 0 0)).setCell (p := ⟨w.heap.size + 1 + 1 + 1, 1, none⟩) (by show w.heap.size ≤ w.heap.size + 1 + 1 + 1; omega) (.slice none 0 0))
              have HV0 : Hid (OwnI Z w.heap.size (.slice none 0 0) (⟨[], []⟩ : RangeD).b) := by unfold Hid; exact OwnI.nil _ _
              have HV1 : Hid (OwnQ Z w.heap.size (.slice none 0 0) (.slice none 0 0) (⟨[], []⟩ : RangeD).p) := by unfold Hid; exact OwnQ.nil _ _ _
              have HV2 : Hid (OwnI Z w.heap.size (.slice none 0 0) (⟨[], []⟩ : RangeD).b) := by unfold Hid; exact OwnI.nil _ _
              have HV3 : Hid (OwnQ Z w.heap.size (.slice none 0 0) (.slice none 0 0) (⟨[], []⟩ : RangeD).p) := by unfold Hid; exact OwnQ.nil _ _ _
              rw [← hZ]
              clear hZ r2_0 r2_1 r3_0 r3_1 fr2 fr3
              have t2_0 := HZ2.out.cell (i := 0) rfl
              have t2_1 := HZ2.out.cell (i := 1) rfl
              have t3_0 := HZ3.out.cell (i := 0) rfl
              have t3_1 := HZ3.out.cell (i := 1) rfl
              try (go_wp2_with fail)
              (try clear hpwA)
              (try clear ewpA)
              have HVB : Hid (piB gr bh bl m r lo hi n cs = false) := by unfold Hid; simp only [piB, Hhc1.out, Hhc2.out, Hhc3.out, hc4, hc5, hc6, HMAB.out, HMCB.out, HL2.out, Bool.true_and, Bool.false_and, Bool.and_true, Bool.and_false]
              have HPR : Hid (piR gr sBit bh bl m r lo hi n cs = ⟨[], []⟩) := by unfold Hid piR; rw [if_neg (by rw [HVB.out]; simp)]
              have HPS : Hid (piS gr sBit bh bl m r lo hi n cs = ⟨[], []⟩) := by unfold Hid piS; rw [if_neg (by rw [HVB.out]; simp)]
              refine bodyPost_ret (v := .tuple #[.agg #[.slice none 0 0, .slice none 0 0], .agg #[.slice none 0 0, .slice none 0 0], .bool false]) (by simp [results, Try.results19, go_sem, t2_0, t2_1, t3_0, t3_1]) rfl ⟨(by rw [HVB.out, HPR.out, HPS.out]; exact RetG2.mk ⟨HV0.out, HV1.out⟩ ⟨HV2.out, HV3.out⟩), HZB.out⟩
set_option maxRecDepth 100000 in
set_option maxHeartbeats 2000000 in
theorem spec_ProveInterval (gr : GroupD) (bh : Int) (bv : Value) (bl : List Int) (m r lo hi n : Int) (cv : Value) (cs : List Int) (w : World) (hb : Ints w bv bl) (ibh : I64 bh) (hm : I64 m) (hr : I64 r) (hlo : I64 lo) (hhi : I64 hi) (hn : I64 n) (hcs : Ints w cv cs) :
    Calls Try.prog 20 #[.agg #[.int .i64 gr.p, .int .i64 gr.q, .int .i64 gr.g], .agg #[.int .i64 bh, bv], .int .i64 m, .int .i64 r, .int .i64 lo, .int .i64 hi, .int .i64 n, cv] w fun e w' => RetG2 e w' w.heap.size (piB gr bh bl m r lo hi n cs) (piR gr sBit bh bl m r lo hi n cs) (piS gr sBit bh bl m r lo hi n cs) ∧ Below w.heap.size w w' := by
  obtain ⟨bva, bvn, bvc, rfl⟩ := hb.shape
  have Ebv := Lib.hid hb.len
  have Kbv := Lib.hid hb.capMax
  have Hbv := Lib.hid hb
  clear hb
  obtain ⟨cva, cvn, cvc, rfl⟩ := hcs.shape
  have Ecv := Lib.hid hcs.len
  have Kcv := Lib.hid hcs.capMax
  have Hcv := Lib.hid hcs
  clear hcs
  obtain ⟨W, hW⟩ : ∃ W, W = (((w.alloc (.cells #[.int .i64 gr.p, .int .i64 gr.q, .int .i64 gr.g] 25)).alloc (.cells #[.int .i64 bh, (.slice bva bvn bvc)] 28)).alloc (.cells #[(.slice none 0 0), (.slice none 0 0)] 33)).alloc (.cells #[(.slice none 0 0), (.slice none 0 0)] 33) := ⟨_, rfl⟩
  have HB : Hid (Below w.heap.size w W) := by unfold Hid; rw [hW]; (repeat (first | exact Below.refl _ _ | assumption | refine Below.drew ?_ | refine Below.alloc ?_ (by first | (simp; done) | (simp; omega)) _ | refine Below.setCell ?_ (by first | (simp; done) | (simp; omega)) _))
  have c0_0 : W.cell? ⟨w.heap.size, 0, none⟩ = some (.int .i64 gr.p) := by rw [hW]; simp [go_sem]
  have c0_1 : W.cell? ⟨w.heap.size, 1, none⟩ = some (.int .i64 gr.q) := by rw [hW]; simp [go_sem]
  have c0_2 : W.cell? ⟨w.heap.size, 2, none⟩ = some (.int .i64 gr.g) := by rw [hW]; simp [go_sem]
  have c1_0 : W.cell? ⟨w.heap.size + 1, 0, none⟩ = some (.int .i64 bh) := by rw [hW]; simp [go_sem]
  have c1_1 : W.cell? ⟨w.heap.size + 1, 1, none⟩ = some ((.slice bva bvn bvc)) := by rw [hW]; simp [go_sem]
  have HR2 : Hid (BoxN W (w.heap.size + 1 + 1) 33 [(.slice none 0 0), (.slice none 0 0)]) := by unfold Hid; rw [hW]; have h := ((BoxN.new ((w.alloc (.cells #[.int .i64 gr.p, .int .i64 gr.q, .int .i64 gr.g] 25)).alloc (.cells #[.int .i64 bh, (.slice bva bvn bvc)] 28)) [(.slice none 0 0), (.slice none 0 0)] 33).alloc (.cells #[(.slice none 0 0), (.slice none 0 0)] 33)); simpa using h
  have HR3 : Hid (BoxN W (w.heap.size + 1 + 1 + 1) 33 [(.slice none 0 0), (.slice none 0 0)]) := by unfold Hid; rw [hW]; have h := (BoxN.new (((w.alloc (.cells #[.int .i64 gr.p, .int .i64 gr.q, .int .i64 gr.g] 25)).alloc (.cells #[.int .i64 bh, (.slice bva bvn bvc)] 28)).alloc (.cells #[(.slice none 0 0), (.slice none 0 0)] 33)) [(.slice none 0 0), (.slice none 0 0)] 33); simpa using h
  have HSW : Hid (W.heap.size = w.heap.size + 4) := by unfold Hid; rw [hW]; simp
  have lr2 : w.heap.size + 1 + 1 < W.heap.size := by have := HSW.out; omega
  have lr3 : w.heap.size + 1 + 1 + 1 < W.heap.size := by have := HSW.out; omega
  go_enter Try.func20, Try.ntmps20
  go_wp2_with fail
  rw [← hW]
  have hse : w.heap.size + 1 + 1 + 1 + 1 = W.heap.size := by have := HSW.out; omega
  (try rw [hse])
  clear hse
  clear hW
  have hc : Below W.heap.size W W := Below.refl _ _
  have HCC : Hid (∀ u, Below W.heap.size W u → u.cell? ⟨w.heap.size, 0, none⟩ = some (.int .i64 gr.p) ∧ u.cell? ⟨w.heap.size, 1, none⟩ = some (.int .i64 gr.q) ∧ u.cell? ⟨w.heap.size, 2, none⟩ = some (.int .i64 gr.g) ∧ u.cell? ⟨w.heap.size + 1, 0, none⟩ = some (.int .i64 bh) ∧ u.cell? ⟨w.heap.size + 1, 1, none⟩ = some ((.slice bva bvn bvc))) := fun u h => ⟨box_at c0_0 h, box_at c0_1 h, box_at c0_2 h, box_at c1_0 h, box_at c1_1 h⟩
  go_wp2_with fail
  refine (spec_l9Good gr bh _ bl _ (Hbv.out.below (HB.out.trans (hc.mono HB.out.size))) ibh).mono ?_
  rintro e u1 ⟨rfl, hq1⟩
  replace hc := Below.next hc hq1
  clear hq1 c0_0 c0_1 c0_2 c1_0 c1_1
  obtain ⟨c0_0, c0_1, c0_2, c1_0, c1_1⟩ := HCC.out _ hc
  cases hc1 : baB gr bh bl with
  | false =>
    have Hhc1 := Lib.hid hc1
    clear hc1
    have HRE2 := Lib.hid (HR2.out.below hc)
    have HRE3 := Lib.hid (HR3.out.below hc)
    have HBE := Lib.hid (HB.out.trans (hc.mono HB.out.size))
    have r2_0 := HRE2.out.cell (i := 0) rfl
    have r2_1 := HRE2.out.cell (i := 1) rfl
    have fr2 := fun j => HRE2.out.frozen j
    have r3_0 := HRE3.out.cell (i := 0) rfl
    have r3_1 := HRE3.out.cell (i := 1) rfl
    have fr3 := fun j => HRE3.out.frozen j
    go_wp2_with fail
    obtain ⟨Z, hZ⟩ : ∃ Z, Z = (((u1.setCell ⟨w.heap.size + 1 + 1, 0, none⟩ (.slice none 0 0)).setCell ⟨w.heap.size + 1 + 1, 1, none⟩ (.slice none 0 0)).setCell ⟨w.heap.size + 1 + 1 + 1, 0, none⟩ (.slice none 0 0)).setCell ⟨w.heap.size + 1 + 1 + 1, 1, none⟩ (.slice none 0 0) := ⟨_, rfl⟩
    have HZ2 : Hid (BoxN Z (w.heap.size + 1 + 1) 33 [.slice none 0 0, .slice none 0 0]) := by unfold Hid; rw [hZ]; exact ((((HRE2.out.set 0 (.slice none 0 0)).set 1 (.slice none 0 0)).other (b' := w.heap.size + 1 + 1 + 1) (by omega) 0 (.slice none 0 0)).other (b' := w.heap.size + 1 + 1 + 1) (by omega) 1 (.slice none 0 0))
    have HZ3 : Hid (BoxN Z (w.heap.size + 1 + 1 + 1) 33 [.slice none 0 0, .slice none 0 0]) := by unfold Hid; rw [hZ]; exact ((((HRE3.out.other (b' := w.heap.size + 1 + 1) (by omega) 0 (.slice none 0 0)).other (b' := w.heap.size + 1 + 1) (by omega) 1 (.slice none 0 0)).set 0 (.slice none 0 0)).set 1 (.slice none 0 0))
    have HZB : Hid (Below w.heap.size w Z) := by unfold Hid; rw [hZ]; exact ((((HBE.out.setCell (p := ⟨w.heap.size + 1 + 1, 0, none⟩) (by show w.heap.size ≤ w.heap.size + 1 + 1; omega) (.slice none 0 0)).setCell (p := ⟨w.heap.size + 1 + 1, 1, none⟩) (by show w.heap.size ≤ w.heap.size + 1 + 1; omega) (.slice none 0 0)).setCell (p := ⟨w.heap.size + 1 + 1 + 1, 0, none⟩) (by show w.heap.size ≤ w.heap.size + 1 + 1 + 1; omega) (.slice none 0 0)).setCell (p := ⟨w.heap.size + 1 + 1 + 1, 1, none⟩) (by show w.heap.size ≤ w.heap.size + 1 + 1 + 1; omega) (.slice none 0 0))
    have HV0 : Hid (OwnI Z w.heap.size (.slice none 0 0) (⟨[], []⟩ : RangeD).b) := by unfold Hid; exact OwnI.nil _ _
    have HV1 : Hid (OwnQ Z w.heap.size (.slice none 0 0) (.slice none 0 0) (⟨[], []⟩ : RangeD).p) := by unfold Hid; exact OwnQ.nil _ _ _
    have HV2 : Hid (OwnI Z w.heap.size (.slice none 0 0) (⟨[], []⟩ : RangeD).b) := by unfold Hid; exact OwnI.nil _ _
    have HV3 : Hid (OwnQ Z w.heap.size (.slice none 0 0) (.slice none 0 0) (⟨[], []⟩ : RangeD).p) := by unfold Hid; exact OwnQ.nil _ _ _
    rw [← hZ]
    clear hZ r2_0 r2_1 r3_0 r3_1 fr2 fr3
    have t2_0 := HZ2.out.cell (i := 0) rfl
    have t2_1 := HZ2.out.cell (i := 1) rfl
    have t3_0 := HZ3.out.cell (i := 0) rfl
    have t3_1 := HZ3.out.cell (i := 1) rfl
    try (go_wp2_with fail)
    (try clear hpwA)
    (try clear ewpA)
    have HVB : Hid (piB gr bh bl m r lo hi n cs = false) := by unfold Hid; simp only [piB, Hhc1.out, Bool.true_and, Bool.false_and, Bool.and_true, Bool.and_false]
    have HPR : Hid (piR gr sBit bh bl m r lo hi n cs = ⟨[], []⟩) := by unfold Hid piR; rw [if_neg (by rw [HVB.out]; simp)]
    have HPS : Hid (piS gr sBit bh bl m r lo hi n cs = ⟨[], []⟩) := by unfold Hid piS; rw [if_neg (by rw [HVB.out]; simp)]
    refine bodyPost_ret (v := .tuple #[.agg #[.slice none 0 0, .slice none 0 0], .agg #[.slice none 0 0, .slice none 0 0], .bool false]) (by simp [results, Try.results20, go_sem, t2_0, t2_1, t3_0, t3_1]) rfl ⟨(by rw [HVB.out, HPR.out, HPS.out]; exact RetG2.mk ⟨HV0.out, HV1.out⟩ ⟨HV2.out, HV3.out⟩), HZB.out⟩
  | true =>
    have HBA := Lib.hid (baB_parts hc1)
    have HG := Lib.hid (goodG_ok HBA.out.1)
    have sbh : Small bh := elB_small HG.out HBA.out.2.1
    have Hhc1 := Lib.hid hc1
    clear hc1
    go_wp2_with fail
    refine (spec_rBits gr n _).mono ?_
    rintro e u2 ⟨rfl, hq2⟩
    replace hc := Below.next hc hq2
    clear hq2 c0_0 c0_1 c0_2 c1_0 c1_1
    obtain ⟨c0_0, c0_1, c0_2, c1_0, c1_1⟩ := HCC.out _ hc
    cases hc2 : rnB gr n with
    | false =>
      have Hhc2 := Lib.hid hc2
      clear hc2
      have HRE2 := Lib.hid (HR2.out.below hc)
      have HRE3 := Lib.hid (HR3.out.below hc)
      have HBE := Lib.hid (HB.out.trans (hc.mono HB.out.size))
      have r2_0 := HRE2.out.cell (i := 0) rfl
      have r2_1 := HRE2.out.cell (i := 1) rfl
      have fr2 := fun j => HRE2.out.frozen j
      have r3_0 := HRE3.out.cell (i := 0) rfl
      have r3_1 := HRE3.out.cell (i := 1) rfl
      have fr3 := fun j => HRE3.out.frozen j
      go_wp2_with fail
      obtain ⟨Z, hZ⟩ : ∃ Z, Z = (((u2.setCell ⟨w.heap.size + 1 + 1, 0, none⟩ (.slice none 0 0)).setCell ⟨w.heap.size + 1 + 1, 1, none⟩ (.slice none 0 0)).setCell ⟨w.heap.size + 1 + 1 + 1, 0, none⟩ (.slice none 0 0)).setCell ⟨w.heap.size + 1 + 1 + 1, 1, none⟩ (.slice none 0 0) := ⟨_, rfl⟩
      have HZ2 : Hid (BoxN Z (w.heap.size + 1 + 1) 33 [.slice none 0 0, .slice none 0 0]) := by unfold Hid; rw [hZ]; exact ((((HRE2.out.set 0 (.slice none 0 0)).set 1 (.slice none 0 0)).other (b' := w.heap.size + 1 + 1 + 1) (by omega) 0 (.slice none 0 0)).other (b' := w.heap.size + 1 + 1 + 1) (by omega) 1 (.slice none 0 0))
      have HZ3 : Hid (BoxN Z (w.heap.size + 1 + 1 + 1) 33 [.slice none 0 0, .slice none 0 0]) := by unfold Hid; rw [hZ]; exact ((((HRE3.out.other (b' := w.heap.size + 1 + 1) (by omega) 0 (.slice none 0 0)).other (b' := w.heap.size + 1 + 1) (by omega) 1 (.slice none 0 0)).set 0 (.slice none 0 0)).set 1 (.slice none 0 0))
      have HZB : Hid (Below w.heap.size w Z) := by unfold Hid; rw [hZ]; exact ((((HBE.out.setCell (p := ⟨w.heap.size + 1 + 1, 0, none⟩) (by show w.heap.size ≤ w.heap.size + 1 + 1; omega) (.slice none 0 0)).setCell (p := ⟨w.heap.size + 1 + 1, 1, none⟩) (by show w.heap.size ≤ w.heap.size + 1 + 1; omega) (.slice none 0 0)).setCell (p := ⟨w.heap.size + 1 + 1 + 1, 0, none⟩) (by show w.heap.size ≤ w.heap.size + 1 + 1 + 1; omega) (.slice none 0 0)).setCell (p := ⟨w.heap.size + 1 + 1 + 1, 1, none⟩) (by show w.heap.size ≤ w.heap.size + 1 + 1 + 1; omega) (.slice none 0 0))
      have HV0 : Hid (OwnI Z w.heap.size (.slice none 0 0) (⟨[], []⟩ : RangeD).b) := by unfold Hid; exact OwnI.nil _ _
      have HV1 : Hid (OwnQ Z w.heap.size (.slice none 0 0) (.slice none 0 0) (⟨[], []⟩ : RangeD).p) := by unfold Hid; exact OwnQ.nil _ _ _
      have HV2 : Hid (OwnI Z w.heap.size (.slice none 0 0) (⟨[], []⟩ : RangeD).b) := by unfold Hid; exact OwnI.nil _ _
      have HV3 : Hid (OwnQ Z w.heap.size (.slice none 0 0) (.slice none 0 0) (⟨[], []⟩ : RangeD).p) := by unfold Hid; exact OwnQ.nil _ _ _
      rw [← hZ]
      clear hZ r2_0 r2_1 r3_0 r3_1 fr2 fr3
      have t2_0 := HZ2.out.cell (i := 0) rfl
      have t2_1 := HZ2.out.cell (i := 1) rfl
      have t3_0 := HZ3.out.cell (i := 0) rfl
      have t3_1 := HZ3.out.cell (i := 1) rfl
      try (go_wp2_with fail)
      (try clear hpwA)
      (try clear ewpA)
      have HVB : Hid (piB gr bh bl m r lo hi n cs = false) := by unfold Hid; simp only [piB, Hhc1.out, Hhc2.out, Bool.true_and, Bool.false_and, Bool.and_true, Bool.and_false]
      have HPR : Hid (piR gr sBit bh bl m r lo hi n cs = ⟨[], []⟩) := by unfold Hid piR; rw [if_neg (by rw [HVB.out]; simp)]
      have HPS : Hid (piS gr sBit bh bl m r lo hi n cs = ⟨[], []⟩) := by unfold Hid piS; rw [if_neg (by rw [HVB.out]; simp)]
      refine bodyPost_ret (v := .tuple #[.agg #[.slice none 0 0, .slice none 0 0], .agg #[.slice none 0 0, .slice none 0 0], .bool false]) (by simp [results, Try.results20, go_sem, t2_0, t2_1, t3_0, t3_1]) rfl ⟨(by rw [HVB.out, HPR.out, HPS.out]; exact RetG2.mk ⟨HV0.out, HV1.out⟩ ⟨HV2.out, HV3.out⟩), HZB.out⟩
    | true =>
      have zq1 := HG.out.q1
      have zq2 := HG.out.q2
      have zp2 := HG.out.p2
      have zq3 : gr.q ≤ 2000000000 := by omega
      have zq0 : 0 < gr.q := by omega
      have zq4 : gr.q ≤ 4000000000 := by omega
      have HRN := Lib.hid (rnB_parts hc2)
      obtain ⟨hn1, hn2⟩ := HRN.out.1
      obtain ⟨PW, hPW⟩ : ∃ z, (2 : Int) ^ n.toNat = z := ⟨_, rfl⟩
      have HPW := Lib.hid hPW
      obtain ⟨hpw1, hpw2⟩ : 1 ≤ PW ∧ PW ≤ 65536 := by rw [← hPW]; exact powR_bd n.toNat (by omega)
      have hpw : IntKind.i64.wrap (2 ^ min (IntKind.u64.wrap n).toNat 64) = PW := by
        have h := powS n.toNat (by omega)
        rw [Int.toNat_of_nonneg (by omega)] at h
        rw [h, hPW]
      have ewp : IntKind.i64.wrap (PW - 1) = PW - 1 := IntWalk.i64_in _ (by omega)
      have ew4 : IntKind.i64.wrap (4 * n) = 4 * n := IntWalk.i64_in _ (by omega)
      have ew5 : IntKind.i64.wrap (4 * n - 1) = 4 * n - 1 := IntWalk.i64_in _ (by omega)
      have ew6 : IntKind.i64.wrap (2 * (4 * n - 1)) = 2 * (4 * n - 1) := IntWalk.i64_in _ (by omega)
      have ew7 : IntKind.i64.wrap (8 * n) = 8 * n := IntWalk.i64_in _ (by omega)
      have ew8 : IntKind.i64.wrap (8 * n - 2) = 8 * n - 2 := IntWalk.i64_in _ (by omega)
      have ewpA : wrap64 (PW - 1) = PW - 1 := w64 (by omega) (by omega)
      have hpwA : wrap64 (2 ^ n.toNat) = PW := by rw [powR n.toNat (by omega), hPW]
      clear hPW
      have Hhc2 := Lib.hid hc2
      clear hc2
      go_wp2_with fail
      refine (spec_gExps gr _ [m, r, lo, hi] _ HG.out (OwnI.lit (B := 0) _ (Nat.zero_le _) (l := [m, r, lo, hi]) (AllI64.cons hm (AllI64.cons hr (AllI64.cons hlo (AllI64.cons hhi AllI64.nil)))) rfl (by simp [maxLen]) 4 rfl).ints).mono ?_
      rintro e u3 ⟨rfl, hq3⟩
      replace hq3 := Below.next (keep_al (Below.refl _ _) _) hq3
      replace hc := Below.next hc hq3
      clear hq3 c0_0 c0_1 c0_2 c1_0 c1_1
      obtain ⟨c0_0, c0_1, c0_2, c1_0, c1_1⟩ := HCC.out _ hc
      cases hc3 : [m, r, lo, hi].all (expB gr) with
      | false =>
        have Hhc3 := Lib.hid hc3
        clear hc3
        have HRE2 := Lib.hid (HR2.out.below hc)
        have HRE3 := Lib.hid (HR3.out.below hc)
        have HBE := Lib.hid (HB.out.trans (hc.mono HB.out.size))
        have r2_0 := HRE2.out.cell (i := 0) rfl
        have r2_1 := HRE2.out.cell (i := 1) rfl
        have fr2 := fun j => HRE2.out.frozen j
        have r3_0 := HRE3.out.cell (i := 0) rfl
        have r3_1 := HRE3.out.cell (i := 1) rfl
        have fr3 := fun j => HRE3.out.frozen j
        go_wp2_with fail
        obtain ⟨Z, hZ⟩ : ∃ Z, Z = (((u3.setCell ⟨w.heap.size + 1 + 1, 0, none⟩ (.slice none 0 0)).setCell ⟨w.heap.size + 1 + 1, 1, none⟩ (.slice none 0 0)).setCell ⟨w.heap.size + 1 + 1 + 1, 0, none⟩ (.slice none 0 0)).setCell ⟨w.heap.size + 1 + 1 + 1, 1, none⟩ (.slice none 0 0) := ⟨_, rfl⟩
        have HZ2 : Hid (BoxN Z (w.heap.size + 1 + 1) 33 [.slice none 0 0, .slice none 0 0]) := by unfold Hid; rw [hZ]; exact ((((HRE2.out.set 0 (.slice none 0 0)).set 1 (.slice none 0 0)).other (b' := w.heap.size + 1 + 1 + 1) (by omega) 0 (.slice none 0 0)).other (b' := w.heap.size + 1 + 1 + 1) (by omega) 1 (.slice none 0 0))
        have HZ3 : Hid (BoxN Z (w.heap.size + 1 + 1 + 1) 33 [.slice none 0 0, .slice none 0 0]) := by unfold Hid; rw [hZ]; exact ((((HRE3.out.other (b' := w.heap.size + 1 + 1) (by omega) 0 (.slice none 0 0)).other (b' := w.heap.size + 1 + 1) (by omega) 1 (.slice none 0 0)).set 0 (.slice none 0 0)).set 1 (.slice none 0 0))
        have HZB : Hid (Below w.heap.size w Z) := by unfold Hid; rw [hZ]; exact ((((HBE.out.setCell (p := ⟨w.heap.size + 1 + 1, 0, none⟩) (by show w.heap.size ≤ w.heap.size + 1 + 1; omega) (.slice none 0 0)).setCell (p := ⟨w.heap.size + 1 + 1, 1, none⟩) (by show w.heap.size ≤ w.heap.size + 1 + 1; omega) (.slice none 0 0)).setCell (p := ⟨w.heap.size + 1 + 1 + 1, 0, none⟩) (by show w.heap.size ≤ w.heap.size + 1 + 1 + 1; omega) (.slice none 0 0)).setCell (p := ⟨w.heap.size + 1 + 1 + 1, 1, none⟩) (by show w.heap.size ≤ w.heap.size + 1 + 1 + 1; omega) (.slice none 0 0))
        have HV0 : Hid (OwnI Z w.heap.size (.slice none 0 0) (⟨[], []⟩ : RangeD).b) := by unfold Hid; exact OwnI.nil _ _
        have HV1 : Hid (OwnQ Z w.heap.size (.slice none 0 0) (.slice none 0 0) (⟨[], []⟩ : RangeD).p) := by unfold Hid; exact OwnQ.nil _ _ _
        have HV2 : Hid (OwnI Z w.heap.size (.slice none 0 0) (⟨[], []⟩ : RangeD).b) := by unfold Hid; exact OwnI.nil _ _
        have HV3 : Hid (OwnQ Z w.heap.size (.slice none 0 0) (.slice none 0 0) (⟨[], []⟩ : RangeD).p) := by unfold Hid; exact OwnQ.nil _ _ _
        rw [← hZ]
        clear hZ r2_0 r2_1 r3_0 r3_1 fr2 fr3
        have t2_0 := HZ2.out.cell (i := 0) rfl
        have t2_1 := HZ2.out.cell (i := 1) rfl
        have t3_0 := HZ3.out.cell (i := 0) rfl
        have t3_1 := HZ3.out.cell (i := 1) rfl
        try (go_wp2_with fail)
        (try clear hpwA)
        (try clear ewpA)
        have HVB : Hid (piB gr bh bl m r lo hi n cs = false) := by unfold Hid; simp only [piB, Hhc1.out, Hhc2.out, Hhc3.out, Bool.true_and, Bool.false_and, Bool.and_true, Bool.and_false]
        have HPR : Hid (piR gr sBit bh bl m r lo hi n cs = ⟨[], []⟩) := by unfold Hid piR; rw [if_neg (by rw [HVB.out]; simp)]
        have HPS : Hid (piS gr sBit bh bl m r lo hi n cs = ⟨[], []⟩) := by unfold Hid piS; rw [if_neg (by rw [HVB.out]; simp)]
        refine bodyPost_ret (v := .tuple #[.agg #[.slice none 0 0, .slice none 0 0], .agg #[.slice none 0 0, .slice none 0 0], .bool false]) (by simp [results, Try.results20, go_sem, t2_0, t2_1, t3_0, t3_1]) rfl ⟨(by rw [HVB.out, HPR.out, HPS.out]; exact RetG2.mk ⟨HV0.out, HV1.out⟩ ⟨HV2.out, HV3.out⟩), HZB.out⟩
      | true =>
        have HEM : Hid (expB gr m = true ∧ expB gr r = true ∧ expB gr lo = true ∧ expB gr hi = true) := by have q := hc3; unfold Hid; simpa using q
        have HER := Lib.hid HEM.out.2.1
        obtain ⟨e1, e2⟩ := expB_bd HEM.out.1
        obtain ⟨e3, e4⟩ := expB_bd HEM.out.2.1
        obtain ⟨l1, l2⟩ := expB_bd HEM.out.2.2.1
        obtain ⟨i1, i2⟩ := expB_bd HEM.out.2.2.2
        have ewa : IntKind.i64.wrap (m - lo) = m - lo := IntWalk.i64_in _ (by clear ewpA hpwA; omega)
        have ewb : IntKind.i64.wrap (hi - m) = hi - m := IntWalk.i64_in _ (by clear ewpA hpwA; omega)
        have ewc : IntKind.i64.wrap (-r) = -r := IntWalk.i64_in _ (by clear ewpA hpwA; omega)
        have HIN : Hid (I64 (-r)) := by clear ewpA hpwA; exact ⟨by omega, by omega⟩
        have Hhc3 := Lib.hid hc3
        clear hc3
        go_wp2_with fail
        refine (spec_l1In (m - lo) 0 (PW - 1) _).mono ?_
        rintro e u4 ⟨rfl, rfl⟩
        cases hc4 : decide (0 ≤ (m - lo) ∧ (m - lo) ≤ (PW - 1)) with
        | false =>
          have HMAB : Hid (decide (0 ≤ m - lo ∧ m - lo ≤ 2 ^ n.toNat - 1) = false) := by unfold Hid; rw [HPW.out]; exact hc4
          have HRE2 := Lib.hid (HR2.out.below hc)
          have HRE3 := Lib.hid (HR3.out.below hc)
          have HBE := Lib.hid (HB.out.trans (hc.mono HB.out.size))
          have r2_0 := HRE2.out.cell (i := 0) rfl
          have r2_1 := HRE2.out.cell (i := 1) rfl
          have fr2 := fun j => HRE2.out.frozen j
          have r3_0 := HRE3.out.cell (i := 0) rfl
          have r3_1 := HRE3.out.cell (i := 1) rfl
          have fr3 := fun j => HRE3.out.frozen j
          go_wp2_with fail
          obtain ⟨Z, hZ⟩ : ∃ Z, Z = (((u3.setCell ⟨w.heap.size + 1 + 1, 0, none⟩ (.slice none 0 0)).setCell ⟨w.heap.size + 1 + 1, 1, none⟩ (.slice none 0 0)).setCell ⟨w.heap.size + 1 + 1 + 1, 0, none⟩ (.slice none 0 0)).setCell ⟨w.heap.size + 1 + 1 + 1, 1, none⟩ (.slice none 0 0) := ⟨_, rfl⟩
          have HZ2 : Hid (BoxN Z (w.heap.size + 1 + 1) 33 [.slice none 0 0, .slice none 0 0]) := by unfold Hid; rw [hZ]; exact ((((HRE2.out.set 0 (.slice none 0 0)).set 1 (.slice none 0 0)).other (b' := w.heap.size + 1 + 1 + 1) (by omega) 0 (.slice none 0 0)).other (b' := w.heap.size + 1 + 1 + 1) (by omega) 1 (.slice none 0 0))
          have HZ3 : Hid (BoxN Z (w.heap.size + 1 + 1 + 1) 33 [.slice none 0 0, .slice none 0 0]) := by unfold Hid; rw [hZ]; exact ((((HRE3.out.other (b' := w.heap.size + 1 + 1) (by omega) 0 (.slice none 0 0)).other (b' := w.heap.size + 1 + 1) (by omega) 1 (.slice none 0 0)).set 0 (.slice none 0 0)).set 1 (.slice none 0 0))
          have HZB : Hid (Below w.heap.size w Z) := by unfold Hid; rw [hZ]; exact ((((HBE.out.setCell (p := ⟨w.heap.size + 1 + 1, 0, none⟩) (by show w.heap.size ≤ w.heap.size + 1 + 1; omega) (.slice none 0 0)).setCell (p := ⟨w.heap.size + 1 + 1, 1, none⟩) (by show w.heap.size ≤ w.heap.size + 1 + 1; omega) (.slice none 0 0)).setCell (p := ⟨w.heap.size + 1 + 1 + 1, 0, none⟩) (by show w.heap.size ≤ w.heap.size + 1 + 1 + 1; omega) (.slice none 0 0)).setCell (p := ⟨w.heap.size + 1 + 1 + 1, 1, none⟩) (by show w.heap.size ≤ w.heap.size + 1 + 1 + 1; omega) (.slice none 0 0))
          have HV0 : Hid (OwnI Z w.heap.size (.slice none 0 0) (⟨[], []⟩ : RangeD).b) := by unfold Hid; exact OwnI.nil _ _
          have HV1 : Hid (OwnQ Z w.heap.size (.slice none 0 0) (.slice none 0 0) (⟨[], []⟩ : RangeD).p) := by unfold Hid; exact OwnQ.nil _ _ _
          have HV2 : Hid (OwnI Z w.heap.size (.slice none 0 0) (⟨[], []⟩ : RangeD).b) := by unfold Hid; exact OwnI.nil _ _
          have HV3 : Hid (OwnQ Z w.heap.size (.slice none 0 0) (.slice none 0 0) (⟨[], []⟩ : RangeD).p) := by unfold Hid; exact OwnQ.nil _ _ _
          rw [← hZ]
          clear hZ r2_0 r2_1 r3_0 r3_1 fr2 fr3
          have t2_0 := HZ2.out.cell (i := 0) rfl
          have t2_1 := HZ2.out.cell (i := 1) rfl
          have t3_0 := HZ3.out.cell (i := 0) rfl
          have t3_1 := HZ3.out.cell (i := 1) rfl
          try (go_wp2_with fail)
          (try clear hpwA)
          (try clear ewpA)
          have HVB : Hid (piB gr bh bl m r lo hi n cs = false) := by unfold Hid; simp only [piB, Hhc1.out, Hhc2.out, Hhc3.out, hc4, HMAB.out, Bool.true_and, Bool.false_and, Bool.and_true, Bool.and_false]
          have HPR : Hid (piR gr sBit bh bl m r lo hi n cs = ⟨[], []⟩) := by unfold Hid piR; rw [if_neg (by rw [HVB.out]; simp)]
          have HPS : Hid (piS gr sBit bh bl m r lo hi n cs = ⟨[], []⟩) := by unfold Hid piS; rw [if_neg (by rw [HVB.out]; simp)]
          refine bodyPost_ret (v := .tuple #[.agg #[.slice none 0 0, .slice none 0 0], .agg #[.slice none 0 0, .slice none 0 0], .bool false]) (by simp [results, Try.results20, go_sem, t2_0, t2_1, t3_0, t3_1]) rfl ⟨(by rw [HVB.out, HPR.out, HPS.out]; exact RetG2.mk ⟨HV0.out, HV1.out⟩ ⟨HV2.out, HV3.out⟩), HZB.out⟩
        | true =>
          have HMAB : Hid (decide (0 ≤ m - lo ∧ m - lo ≤ 2 ^ n.toNat - 1) = true) := by unfold Hid; rw [HPW.out]; exact hc4
          have HMA : Hid (0 ≤ m - lo ∧ m - lo ≤ 65535) := by have q := of_decide_eq_true hc4; unfold Hid; (try clear hpwA ewpA); omega
          go_wp2_with fail
          refine (spec_l1In (hi - m) 0 (PW - 1) _).mono ?_
          rintro e u5 ⟨rfl, rfl⟩
          cases hc5 : decide (0 ≤ (hi - m) ∧ (hi - m) ≤ (PW - 1)) with
          | false =>
            have HMCB : Hid (decide (0 ≤ hi - m ∧ hi - m ≤ 2 ^ n.toNat - 1) = false) := by unfold Hid; rw [HPW.out]; exact hc5
            have HRE2 := Lib.hid (HR2.out.below hc)
            have HRE3 := Lib.hid (HR3.out.below hc)
            have HBE := Lib.hid (HB.out.trans (hc.mono HB.out.size))
            have r2_0 := HRE2.out.cell (i := 0) rfl
            have r2_1 := HRE2.out.cell (i := 1) rfl
            have fr2 := fun j => HRE2.out.frozen j
            have r3_0 := HRE3.out.cell (i := 0) rfl
            have r3_1 := HRE3.out.cell (i := 1) rfl
            have fr3 := fun j => HRE3.out.frozen j
            go_wp2_with fail
            obtain ⟨Z, hZ⟩ : ∃ Z, Z = (((u3.setCell ⟨w.heap.size + 1 + 1, 0, none⟩ (.slice none 0 0)).setCell ⟨w.heap.size + 1 + 1, 1, none⟩ (.slice none 0 0)).setCell ⟨w.heap.size + 1 + 1 + 1, 0, none⟩ (.slice none 0 0)).setCell ⟨w.heap.size + 1 + 1 + 1, 1, none⟩ (.slice none 0 0) := ⟨_, rfl⟩
            have HZ2 : Hid (BoxN Z (w.heap.size + 1 + 1) 33 [.slice none 0 0, .slice none 0 0]) := by unfold Hid; rw [hZ]; exact ((((HRE2.out.set 0 (.slice none 0 0)).set 1 (.slice none 0 0)).other (b' := w.heap.size + 1 + 1 + 1) (by omega) 0 (.slice none 0 0)).other (b' := w.heap.size + 1 + 1 + 1) (by omega) 1 (.slice none 0 0))
            have HZ3 : Hid (BoxN Z (w.heap.size + 1 + 1 + 1) 33 [.slice none 0 0, .slice none 0 0]) := by unfold Hid; rw [hZ]; exact ((((HRE3.out.other (b' := w.heap.size + 1 + 1) (by omega) 0 (.slice none 0 0)).other (b' := w.heap.size + 1 + 1) (by omega) 1 (.slice none 0 0)).set 0 (.slice none 0 0)).set 1 (.slice none 0 0))
            have HZB : Hid (Below w.heap.size w Z) := by unfold Hid; rw [hZ]; exact ((((HBE.out.setCell (p := ⟨w.heap.size + 1 + 1, 0, none⟩) (by show w.heap.size ≤ w.heap.size + 1 + 1; omega) (.slice none 0 0)).setCell (p := ⟨w.heap.size + 1 + 1, 1, none⟩) (by show w.heap.size ≤ w.heap.size + 1 + 1; omega) (.slice none 0 0)).setCell (p := ⟨w.heap.size + 1 + 1 + 1, 0, none⟩) (by show w.heap.size ≤ w.heap.size + 1 + 1 + 1; omega) (.slice none 0 0)).setCell (p := ⟨w.heap.size + 1 + 1 + 1, 1, none⟩) (by show w.heap.size ≤ w.heap.size + 1 + 1 + 1; omega) (.slice none 0 0))
            have HV0 : Hid (OwnI Z w.heap.size (.slice none 0 0) (⟨[], []⟩ : RangeD).b) := by unfold Hid; exact OwnI.nil _ _
            have HV1 : Hid (OwnQ Z w.heap.size (.slice none 0 0) (.slice none 0 0) (⟨[], []⟩ : RangeD).p) := by unfold Hid; exact OwnQ.nil _ _ _
            have HV2 : Hid (OwnI Z w.heap.size (.slice none 0 0) (⟨[], []⟩ : RangeD).b) := by unfold Hid; exact OwnI.nil _ _
            have HV3 : Hid (OwnQ Z w.heap.size (.slice none 0 0) (.slice none 0 0) (⟨[], []⟩ : RangeD).p) := by unfold Hid; exact OwnQ.nil _ _ _
            rw [← hZ]
            clear hZ r2_0 r2_1 r3_0 r3_1 fr2 fr3
            have t2_0 := HZ2.out.cell (i := 0) rfl
            have t2_1 := HZ2.out.cell (i := 1) rfl
            have t3_0 := HZ3.out.cell (i := 0) rfl
            have t3_1 := HZ3.out.cell (i := 1) rfl
            try (go_wp2_with fail)
            (try clear hpwA)
            (try clear ewpA)
            have HVB : Hid (piB gr bh bl m r lo hi n cs = false) := by unfold Hid; simp only [piB, Hhc1.out, Hhc2.out, Hhc3.out, hc4, hc5, HMAB.out, HMCB.out, Bool.true_and, Bool.false_and, Bool.and_true, Bool.and_false]
            have HPR : Hid (piR gr sBit bh bl m r lo hi n cs = ⟨[], []⟩) := by unfold Hid piR; rw [if_neg (by rw [HVB.out]; simp)]
            have HPS : Hid (piS gr sBit bh bl m r lo hi n cs = ⟨[], []⟩) := by unfold Hid piS; rw [if_neg (by rw [HVB.out]; simp)]
            refine bodyPost_ret (v := .tuple #[.agg #[.slice none 0 0, .slice none 0 0], .agg #[.slice none 0 0, .slice none 0 0], .bool false]) (by simp [results, Try.results20, go_sem, t2_0, t2_1, t3_0, t3_1]) rfl ⟨(by rw [HVB.out, HPR.out, HPS.out]; exact RetG2.mk ⟨HV0.out, HV1.out⟩ ⟨HV2.out, HV3.out⟩), HZB.out⟩
          | true =>
            have HMCB : Hid (decide (0 ≤ hi - m ∧ hi - m ≤ 2 ^ n.toNat - 1) = true) := by unfold Hid; rw [HPW.out]; exact hc5
            have HMC : Hid (0 ≤ hi - m ∧ hi - m ≤ 65535) := by have q := of_decide_eq_true hc5; unfold Hid; (try clear hpwA ewpA); omega
            cases hc6 : ((cvn : Int) != (8 * n - 2)) with
            | false =>
              have HL2 : Hid (decide ((cs.length : Int) = 8 * n - 2) = true) := by have q := hc6; rw [bne_eq_false_iff_eq] at q; exact decide_eq_true (by have := Ecv.out; (try clear hpwA ewpA); omega)
              go_wp2_with fail
              refine (spec_gExps gr _ cs _ HG.out (Hcv.out.below (HB.out.trans (hc.mono HB.out.size)))).mono ?_
              rintro e u6 ⟨rfl, hq6⟩
              replace hc := Below.next hc hq6
              clear hq6 c0_0 c0_1 c0_2 c1_0 c1_1
              obtain ⟨c0_0, c0_1, c0_2, c1_0, c1_1⟩ := HCC.out _ hc
              cases hc7 : cs.all (expB gr) with
              | false =>
                have Hhc7 := Lib.hid hc7
                clear hc7
                have HRE2 := Lib.hid (HR2.out.below hc)
                have HRE3 := Lib.hid (HR3.out.below hc)
                have HBE := Lib.hid (HB.out.trans (hc.mono HB.out.size))
                have r2_0 := HRE2.out.cell (i := 0) rfl
                have r2_1 := HRE2.out.cell (i := 1) rfl
                have fr2 := fun j => HRE2.out.frozen j
                have r3_0 := HRE3.out.cell (i := 0) rfl
                have r3_1 := HRE3.out.cell (i := 1) rfl
                have fr3 := fun j => HRE3.out.frozen j
                go_wp2_with fail
                obtain ⟨Z, hZ⟩ : ∃ Z, Z = (((u6.setCell ⟨w.heap.size + 1 + 1, 0, none⟩ (.slice none 0 0)).setCell ⟨w.heap.size + 1 + 1, 1, none⟩ (.slice none 0 0)).setCell ⟨w.heap.size + 1 + 1 + 1, 0, none⟩ (.slice none 0 0)).setCell ⟨w.heap.size + 1 + 1 + 1, 1, none⟩ (.slice none 0 0) := ⟨_, rfl⟩
                have HZ2 : Hid (BoxN Z (w.heap.size + 1 + 1) 33 [.slice none 0 0, .slice none 0 0]) := by unfold Hid; rw [hZ]; exact ((((HRE2.out.set 0 (.slice none 0 0)).set 1 (.slice none 0 0)).other (b' := w.heap.size + 1 + 1 + 1) (by omega) 0 (.slice none 0 0)).other (b' := w.heap.size + 1 + 1 + 1) (by omega) 1 (.slice none 0 0))
                have HZ3 : Hid (BoxN Z (w.heap.size + 1 + 1 + 1) 33 [.slice none 0 0, .slice none 0 0]) := by unfold Hid; rw [hZ]; exact ((((HRE3.out.other (b' := w.heap.size + 1 + 1) (by omega) 0 (.slice none 0 0)).other (b' := w.heap.size + 1 + 1) (by omega) 1 (.slice none 0 0)).set 0 (.slice none 0 0)).set 1 (.slice none 0 0))
                have HZB : Hid (Below w.heap.size w Z) := by unfold Hid; rw [hZ]; exact ((((HBE.out.setCell (p := ⟨w.heap.size + 1 + 1, 0, none⟩) (by show w.heap.size ≤ w.heap.size + 1 + 1; omega) (.slice none 0 0)).setCell (p := ⟨w.heap.size + 1 + 1, 1, none⟩) (by show w.heap.size ≤ w.heap.size + 1 + 1; omega) (.slice none 0 0)).setCell (p := ⟨w.heap.size + 1 + 1 + 1, 0, none⟩) (by show w.heap.size ≤ w.heap.size + 1 + 1 + 1; omega) (.slice none 0 0)).setCell (p := ⟨w.heap.size + 1 + 1 + 1, 1, none⟩) (by show w.heap.size ≤ w.heap.size + 1 + 1 + 1; omega) (.slice none 0 0))
                have HV0 : Hid (OwnI Z w.heap.size (.slice none 0 0) (⟨[], []⟩ : RangeD).b) := by unfold Hid; exact OwnI.nil _ _
                have HV1 : Hid (OwnQ Z w.heap.size (.slice none 0 0) (.slice none 0 0) (⟨[], []⟩ : RangeD).p) := by unfold Hid; exact OwnQ.nil _ _ _
                have HV2 : Hid (OwnI Z w.heap.size (.slice none 0 0) (⟨[], []⟩ : RangeD).b) := by unfold Hid; exact OwnI.nil _ _
                have HV3 : Hid (OwnQ Z w.heap.size (.slice none 0 0) (.slice none 0 0) (⟨[], []⟩ : RangeD).p) := by unfold Hid; exact OwnQ.nil _ _ _
                rw [← hZ]
                clear hZ r2_0 r2_1 r3_0 r3_1 fr2 fr3
                have t2_0 := HZ2.out.cell (i := 0) rfl
                have t2_1 := HZ2.out.cell (i := 1) rfl
                have t3_0 := HZ3.out.cell (i := 0) rfl
                have t3_1 := HZ3.out.cell (i := 1) rfl
                try (go_wp2_with fail)
                (try clear hpwA)
                (try clear ewpA)
                have HVB : Hid (piB gr bh bl m r lo hi n cs = false) := by unfold Hid; simp only [piB, Hhc1.out, Hhc2.out, Hhc3.out, hc4, hc5, hc6, Hhc7.out, HMAB.out, HMCB.out, HL2.out, Bool.true_and, Bool.false_and, Bool.and_true, Bool.and_false]
                have HPR : Hid (piR gr sBit bh bl m r lo hi n cs = ⟨[], []⟩) := by unfold Hid piR; rw [if_neg (by rw [HVB.out]; simp)]
                have HPS : Hid (piS gr sBit bh bl m r lo hi n cs = ⟨[], []⟩) := by unfold Hid piS; rw [if_neg (by rw [HVB.out]; simp)]
                refine bodyPost_ret (v := .tuple #[.agg #[.slice none 0 0, .slice none 0 0], .agg #[.slice none 0 0, .slice none 0 0], .bool false]) (by simp [results, Try.results20, go_sem, t2_0, t2_1, t3_0, t3_1]) rfl ⟨(by rw [HVB.out, HPR.out, HPS.out]; exact RetG2.mk ⟨HV0.out, HV1.out⟩ ⟨HV2.out, HV3.out⟩), HZB.out⟩
              | true =>
                have HCA : Hid (cs.all (expB gr) = true) := hc7
                have Hhc7 := Lib.hid hc7
                clear hc7
                have HDC : Hid ((cs.length : Int) = 8 * n - 2) := by unfold Hid; exact of_decide_eq_true HL2.out
                obtain ⟨KJ, hKJ⟩ : ∃ k : Nat, (4 * n - 1).toNat = k := ⟨_, rfl⟩
                have HKN : Hid (4 * n - 1 = (KJ : Int)) := by unfold Hid; (try clear hpwA ewpA); omega
                have HKC : Hid (cs.length = 2 * KJ) := by have := HDC.out; have := HKN.out; unfold Hid; (try clear hpwA ewpA); omega
                have HKK := Lib.hid hKJ
                clear hKJ
                obtain ⟨hs1, HI1⟩ := sl_take Hcv.out (x := 4 * n - 1) (k := KJ) HKN.out (by have := HKC.out; have := Ecv.out; (try clear hpwA ewpA); omega)
                obtain ⟨xd, hs2, HI2⟩ := sl_drop Hcv.out (x := 4 * n - 1) (k := KJ) HKN.out (by have := HKC.out; have := Ecv.out; (try clear hpwA ewpA); omega)
                have HT1 := Lib.hid HI1
                have HT2 := Lib.hid HI2
                clear HI1 HI2
                obtain ⟨MO, hMO⟩ : ∃ x, -r % gr.q = x := ⟨_, rfl⟩
                have HMO := Lib.hid hMO
                have HEO : Hid (expB gr MO = true) := by unfold Hid; rw [← hMO]; exact expT HG.out _
                clear hMO
                obtain ⟨D1, hD1⟩ : ∃ d, rgD gr sBit bh (m - lo) r n.toNat (cs.take KJ) = d := ⟨_, rfl⟩
                obtain ⟨D2, hD2⟩ : ∃ d, rgD gr sBit bh (hi - m) MO n.toNat (cs.drop KJ) = d := ⟨_, rfl⟩
                have HD1 := Lib.hid hD1
                have HD2 := Lib.hid hD2
                have HN1 : Hid (D1.b.length = n.toNat ∧ D1.p.length = n.toNat) := by unfold Hid; rw [← hD1]; exact ⟨rgB_len _ _ _ _ _, rgP_len _ _ _ _ _ _ _⟩
                have HN2 : Hid (D2.b.length = n.toNat ∧ D2.p.length = n.toNat) := by unfold Hid; rw [← hD2]; exact ⟨rgB_len _ _ _ _ _, rgP_len _ _ _ _ _ _ _⟩
                clear hD1 hD2
                have HC1 : Hid (((cs.take KJ).length : Int) = 4 * n - 1) := by have := HKC.out; have := HKN.out; unfold Hid; rw [List.length_take]; (try clear hpwA ewpA); omega
                have HC2 : Hid (((cs.drop KJ).length : Int) = 4 * n - 1) := by have := HKC.out; have := HKN.out; unfold Hid; rw [List.length_drop]; (try clear hpwA ewpA); omega
                have hszq := hc.size
                try (go_wp2_with fail)
                refine wp_region_noPanic ?_
                refine wp_region_P (fun w' => w'.cell? ⟨w.heap.size, 0, none⟩ = some (.int .i64 gr.p) ∧ w'.cell? ⟨w.heap.size, 1, none⟩ = some (.int .i64 gr.q) ∧ w'.cell? ⟨w.heap.size, 2, none⟩ = some (.int .i64 gr.g) ∧ w'.cell? ⟨w.heap.size + 1, 0, none⟩ = some (.int .i64 bh) ∧ w'.cell? ⟨w.heap.size + 1, 1, none⟩ = some ((.slice bva bvn bvc))) 35 [(0, []), (1, []), (2, []), (3, []), (4, [1, 0]), (5, []), (6, []), (7, []), (8, []), (9, [0]), (10, [0]), (11, [3, 0]), (12, [11, 10, 7, 6, 5, 0]), (13, []), (14, []), (15, []), (16, []), (17, [1, 0]), (18, []), (19, [0]), (20, []), (21, [0]), (22, [2, 0]), (23, []), (24, []), (25, []), (26, [0]), (27, [0]), (28, [3, 0]), (29, [15, 14, 11, 6, 5, 0])] [30, 31, 32] (by kernel_rfl) (by kernel_rfl) (by kernel_rfl) rfl (fun _ _ _ _ h => h) (fun w' h => ⟨box_at c0_0 h, box_at c0_1 h, box_at c0_2 h, box_at c1_0 h, box_at c1_1 h⟩) ?_
                simp only [pickP, pickN, List.getElem?_cons_zero, List.getElem?_cons_succ]
                iterate 11 (refine' chainP_read _ rfl rfl (fun w' hS' => ?_) ?_; rotate_left; · (simp only [lookP, allP, Act.put, List.getElem?_cons_zero, List.getElem?_cons_succ, List.setIfInBounds_toArray, List.set_cons_zero, List.set_cons_succ]; (try dsimp only at hS'); go_simp; (try with_reducible rfl)))
                -- 11: slice 24 t84 none (some t87) none
                refine' chainP_read (d := (some 88)) _ rfl rfl (fun w' hS' => ?_) ?_; rotate_left
                · simp only [lookP, allP, Act.put, List.getElem?_cons_zero, List.getElem?_cons_succ, List.setIfInBounds_toArray, List.set_cons_zero, List.set_cons_succ]
                  (try dsimp only at hS')
                  go_simp
                  (try with_reducible rfl)
                -- 12: call { callee := value (func 221), args := #[t77, t78, t81, t82, t83, t88], argTypes := #[39, 79, 3, 3, 3, 24] }
                refine chainP_do (d := (some 89)) (fun v u => ∃ x y, v = .agg #[x, y] ∧ OwnI u u6.heap.size x D1.b ∧ OwnQ u u6.heap.size x y D1.p) (fun v w1 w2 hb h => by obtain ⟨x, y, e, h1, h2⟩ := h; exact ⟨x, y, e, h1.below hb, h2.below hb⟩) rfl rfl (fun w' hS' => ?_) ?_
                · simp only [lookP, allP, Act.put, List.getElem?_cons_zero, List.getElem?_cons_succ, List.setIfInBounds_toArray, List.set_cons_zero, List.set_cons_succ]
                  intro K hK
                  go_simp
                  go_at_call 96
                  refine (spec_rRangeN gr bh _ bl (m - lo) r n _ (cs.take KJ) w' HG.out ((Hbv.out.below (HB.out.trans (hc.mono HB.out.size))).below hS'.1) sbh HMA.out HER.out ⟨hn1, hn2⟩ ((HT1.out.below (HB.out.trans (hc.mono HB.out.size))).below hS'.1) HC1.out (take_all KJ HCA.out)).mono ?_
                  rintro e u ⟨⟨x, y, rfl, h1, h2⟩, hq⟩
                  rw [HD1.out] at h1 h2
                  exact hK.out _ _ hq ⟨x, y, rfl, h1.mono hS'.1.size, h2.mono hS'.1.size⟩
                iterate 9 (refine' chainP_read _ rfl rfl (fun w' hS' => ?_) ?_; rotate_left; · (simp only [lookP, allP, Act.put, List.getElem?_cons_zero, List.getElem?_cons_succ, List.setIfInBounds_toArray, List.set_cons_zero, List.set_cons_succ]; (try dsimp only at hS'); go_simp; (try with_reducible rfl)))
                -- 22: call { callee := value (func 180), args := #[t96, t98], argTypes := #[3, 3] }
                refine chainP_call (d := (some 99)) (.int .i64 MO) rfl rfl (fun w' hS' => ?_) ?_
                · simp only [lookP, allP, Act.put, List.getElem?_cons_zero, List.getElem?_cons_succ, List.setIfInBounds_toArray, List.set_cons_zero, List.set_cons_succ]
                  intro K hK
                  go_simp
                  go_at_call 104
                  refine (spec_nMod (-r) gr.q w' HIN.out zq0 zq4).mono ?_
                  rintro e u ⟨rfl, rfl⟩
                  rw [HMO.out]
                  exact hK.out _ (Below.refl _ _)
                iterate 5 (refine' chainP_read _ rfl rfl (fun w' hS' => ?_) ?_; rotate_left; · (simp only [lookP, allP, Act.put, List.getElem?_cons_zero, List.getElem?_cons_succ, List.setIfInBounds_toArray, List.set_cons_zero, List.set_cons_succ]; (try dsimp only at hS'); go_simp; (try with_reducible rfl)))
                -- 28: slice 24 t101 (some t104) none none
                refine' chainP_read (d := (some 105)) _ rfl rfl (fun w' hS' => ?_) ?_; rotate_left
                · simp only [lookP, allP, Act.put, List.getElem?_cons_zero, List.getElem?_cons_succ, List.setIfInBounds_toArray, List.set_cons_zero, List.set_cons_succ]
                  (try dsimp only at hS')
                  go_simp
                  (try with_reducible rfl)
                -- 29: call { callee := value (func 221), args := #[t90, t91, t94, t99, t100, t105], argTypes := #[39, 79, 3, 3, 3, 24] }
                refine chainP_do (d := (some 106)) (fun v u => ∃ x y, v = .agg #[x, y] ∧ OwnI u u6.heap.size x D2.b ∧ OwnQ u u6.heap.size x y D2.p) (fun v w1 w2 hb h => by obtain ⟨x, y, e, h1, h2⟩ := h; exact ⟨x, y, e, h1.below hb, h2.below hb⟩) rfl rfl (fun w' hS' => ?_) ?_
                · simp only [lookP, allP, Act.put, List.getElem?_cons_zero, List.getElem?_cons_succ, List.setIfInBounds_toArray, List.set_cons_zero, List.set_cons_succ]
                  intro K hK
                  go_simp
                  go_at_call 96
                  refine (spec_rRangeN gr bh _ bl (hi - m) MO n _ (cs.drop KJ) w' HG.out ((Hbv.out.below (HB.out.trans (hc.mono HB.out.size))).below hS'.1) sbh HMC.out HEO.out ⟨hn1, hn2⟩ ((HT2.out.below (HB.out.trans (hc.mono HB.out.size))).below hS'.1) HC2.out (drop_all KJ HCA.out)).mono ?_
                  rintro e u ⟨⟨x, y, rfl, h1, h2⟩, hq⟩
                  rw [HD2.out] at h1 h2
                  exact hK.out _ _ hq ⟨x, y, rfl, h1.mono hS'.1.size, h2.mono hS'.1.size⟩
                refine chainP_nil (fun u7 hS' => ?_)
                simp only [allP, Act.put, List.setIfInBounds_toArray, List.set_cons_zero, List.set_cons_succ]
                intro x29 hx29
                intro x12 hx12
                have hq7 := hS'.1
                clear hS'
                replace hc := Below.next hc hq7
                clear hq7 c0_0 c0_1 c0_2 c1_0 c1_1
                obtain ⟨c0_0, c0_1, c0_2, c1_0, c1_1⟩ := HCC.out _ hc
                have hszv := hc.size
                obtain ⟨x1, y1, hxe, ho1, hq1⟩ := hx12
                subst hxe
                obtain ⟨x2, y2, hxe, ho2, hq2⟩ := hx29
                subst hxe
                obtain ⟨xa1, xc1, hxe⟩ := ho1.shapeN HN1.out.1
                subst hxe
                obtain ⟨xa2, xc2, hxe⟩ := ho2.shapeN HN2.out.1
                subst hxe
                obtain ⟨ya1, yc1, hxe⟩ := hq1.shapeN HN1.out.2
                subst hxe
                obtain ⟨ya2, yc2, hxe⟩ := hq2.shapeN HN2.out.2
                subst hxe
                have HO1 := Lib.hid ho1
                have HO2 := Lib.hid ho2
                have HQ1 := Lib.hid hq1
                have HQ2 := Lib.hid hq2
                clear ho1 ho2 hq1 hq2
                have HRE2 := Lib.hid (HR2.out.below hc)
                have HRE3 := Lib.hid (HR3.out.below hc)
                have HBE := Lib.hid (HB.out.trans (hc.mono HB.out.size))
                have r2_0 := HRE2.out.cell (i := 0) rfl
                have r2_1 := HRE2.out.cell (i := 1) rfl
                have fr2 := fun j => HRE2.out.frozen j
                have r3_0 := HRE3.out.cell (i := 0) rfl
                have r3_1 := HRE3.out.cell (i := 1) rfl
                have fr3 := fun j => HRE3.out.frozen j
                go_wp2_with fail
                refine NoPanic.normal ?_
                (try (go_wp2_with fail))
                obtain ⟨Z, hZ⟩ : ∃ Z, Z = (((u7.setCell ⟨w.heap.size + 1 + 1, 0, none⟩ (.slice xa1 n.toNat xc1)).setCell ⟨w.heap.size + 1 + 1, 1, none⟩ (.slice ya1 n.toNat yc1)).setCell ⟨w.heap.size + 1 + 1 + 1, 0, none⟩ (.slice xa2 n.toNat xc2)).setCell ⟨w.heap.size + 1 + 1 + 1, 1, none⟩ (.slice ya2 n.toNat yc2) := ⟨_, rfl⟩
                have HZ2 : Hid (BoxN Z (w.heap.size + 1 + 1) 33 [.slice xa1 n.toNat xc1, .slice ya1 n.toNat yc1]) := by unfold Hid; rw [hZ]; exact ((((HRE2.out.set 0 (.slice xa1 n.toNat xc1)).set 1 (.slice ya1 n.toNat yc1)).other (b' := w.heap.size + 1 + 1 + 1) (by omega) 0 (.slice xa2 n.toNat xc2)).other (b' := w.heap.size + 1 + 1 + 1) (by omega) 1 (.slice ya2 n.toNat yc2))
                have HZ3 : Hid (BoxN Z (w.heap.size + 1 + 1 + 1) 33 [.slice xa2 n.toNat xc2, .slice ya2 n.toNat yc2]) := by unfold Hid; rw [hZ]; exact ((((HRE3.out.other (b' := w.heap.size + 1 + 1) (by omega) 0 (.slice xa1 n.toNat xc1)).other (b' := w.heap.size + 1 + 1) (by omega) 1 (.slice ya1 n.toNat yc1)).set 0 (.slice xa2 n.toNat xc2)).set 1 (.slice ya2 n.toNat yc2))
                have HZB : Hid (Below w.heap.size w Z) := by unfold Hid; rw [hZ]; exact ((((HBE.out.setCell (p := ⟨w.heap.size + 1 + 1, 0, none⟩) (by show w.heap.size ≤ w.heap.size + 1 + 1; omega) (.slice xa1 n.toNat xc1)).setCell (p := ⟨w.heap.size + 1 + 1, 1, none⟩) (by show w.heap.size ≤ w.heap.size + 1 + 1; omega) (.slice ya1 n.toNat yc1)).setCell (p := ⟨w.heap.size + 1 + 1 + 1, 0, none⟩) (by show w.heap.size ≤ w.heap.size + 1 + 1 + 1; omega) (.slice xa2 n.toNat xc2)).setCell (p := ⟨w.heap.size + 1 + 1 + 1, 1, none⟩) (by show w.heap.size ≤ w.heap.size + 1 + 1 + 1; omega) (.slice ya2 n.toNat yc2))
                have HV0 : Hid (OwnI Z w.heap.size (.slice xa1 n.toNat xc1) D1.b) := by unfold Hid; rw [hZ]; exact ((((HO1.out.other (b := w.heap.size + 1 + 1) (by omega) 0 (.slice xa1 n.toNat xc1)).other (b := w.heap.size + 1 + 1) (by omega) 1 (.slice ya1 n.toNat yc1)).other (b := w.heap.size + 1 + 1 + 1) (by omega) 0 (.slice xa2 n.toNat xc2)).other (b := w.heap.size + 1 + 1 + 1) (by omega) 1 (.slice ya2 n.toNat yc2)).mono (by omega)
                have HV1 : Hid (OwnQ Z w.heap.size (.slice xa1 n.toNat xc1) (.slice ya1 n.toNat yc1) D1.p) := by unfold Hid; rw [hZ]; exact ((((HQ1.out.other (b := w.heap.size + 1 + 1) (by omega) 0 (.slice xa1 n.toNat xc1)).other (b := w.heap.size + 1 + 1) (by omega) 1 (.slice ya1 n.toNat yc1)).other (b := w.heap.size + 1 + 1 + 1) (by omega) 0 (.slice xa2 n.toNat xc2)).other (b := w.heap.size + 1 + 1 + 1) (by omega) 1 (.slice ya2 n.toNat yc2)).mono (by omega)
                have HV2 : Hid (OwnI Z w.heap.size (.slice xa2 n.toNat xc2) D2.b) := by unfold Hid; rw [hZ]; exact ((((HO2.out.other (b := w.heap.size + 1 + 1) (by omega) 0 (.slice xa1 n.toNat xc1)).other (b := w.heap.size + 1 + 1) (by omega) 1 (.slice ya1 n.toNat yc1)).other (b := w.heap.size + 1 + 1 + 1) (by omega) 0 (.slice xa2 n.toNat xc2)).other (b := w.heap.size + 1 + 1 + 1) (by omega) 1 (.slice ya2 n.toNat yc2)).mono (by omega)
                have HV3 : Hid (OwnQ Z w.heap.size (.slice xa2 n.toNat xc2) (.slice ya2 n.toNat yc2) D2.p) := by unfold Hid; rw [hZ]; exact ((((HQ2.out.other (b := w.heap.size + 1 + 1) (by omega) 0 (.slice xa1 n.toNat xc1)).other (b := w.heap.size + 1 + 1) (by omega) 1 (.slice ya1 n.toNat yc1)).other (b := w.heap.size + 1 + 1 + 1) (by omega) 0 (.slice xa2 n.toNat xc2)).other (b := w.heap.size + 1 + 1 + 1) (by omega) 1 (.slice ya2 n.toNat yc2)).mono (by omega)
                rw [← hZ]
                clear hZ r2_0 r2_1 r3_0 r3_1 fr2 fr3
                have t2_0 := HZ2.out.cell (i := 0) rfl
                have t2_1 := HZ2.out.cell (i := 1) rfl
                have t3_0 := HZ3.out.cell (i := 0) rfl
                have t3_1 := HZ3.out.cell (i := 1) rfl
                try (go_wp2_with fail)
                (try clear hpwA)
                (try clear ewpA)
                have HVB : Hid (piB gr bh bl m r lo hi n cs = true) := by unfold Hid; simp only [piB, Hhc1.out, Hhc2.out, Hhc3.out, hc4, hc5, hc6, Hhc7.out, HMAB.out, HMCB.out, HL2.out, Bool.true_and, Bool.false_and, Bool.and_true, Bool.and_false]
                have HPR : Hid (piR gr sBit bh bl m r lo hi n cs = D1) := by unfold Hid piR; rw [if_pos HVB.out, HKK.out, HD1.out]
                have HPS : Hid (piS gr sBit bh bl m r lo hi n cs = D2) := by unfold Hid piS; rw [if_pos HVB.out, HKK.out, HMO.out, HD2.out]
                refine bodyPost_ret (v := .tuple #[.agg #[.slice xa1 n.toNat xc1, .slice ya1 n.toNat yc1], .agg #[.slice xa2 n.toNat xc2, .slice ya2 n.toNat yc2], .bool true]) (by simp [results, Try.results20, go_sem, t2_0, t2_1, t3_0, t3_1]) rfl ⟨(by rw [HVB.out, HPR.out, HPS.out]; exact RetG2.mk ⟨HV0.out, HV1.out⟩ ⟨HV2.out, HV3.out⟩), HZB.out⟩
            | true =>
              have HL2 : Hid (decide ((cs.length : Int) = 8 * n - 2) = false) := by have q := hc6; rw [bne_iff_ne] at q; exact decide_eq_false (by have := Ecv.out; (try clear hpwA ewpA); omega)
              have HRE2 := Lib.hid (HR2.out.below hc)
              have HRE3 := Lib.hid (HR3.out.below hc)
              have HBE := Lib.hid (HB.out.trans (hc.mono HB.out.size))
              have r2_0 := HRE2.out.cell (i := 0) rfl
              have r2_1 := HRE2.out.cell (i := 1) rfl
              have fr2 := fun j => HRE2.out.frozen j
              have r3_0 := HRE3.out.cell (i := 0) rfl
              have r3_1 := HRE3.out.cell (i := 1) rfl
              have fr3 := fun j => HRE3.out.frozen j
              go_wp2_with fail
              obtain ⟨Z, hZ⟩ : ∃ Z, Z = (((u3.setCell ⟨w.heap.size + 1 + 1, 0, none⟩ (.slice none 0 0)).setCell ⟨w.heap.size + 1 + 1, 1, none⟩ (.slice none 0 0)).setCell ⟨w.heap.size + 1 + 1 + 1, 0, none⟩ (.slice none 0 0)).setCell ⟨w.heap.size + 1 + 1 + 1, 1, none⟩ (.slice none 0 0) := ⟨_, rfl⟩
              have HZ2 : Hid (BoxN Z (w.heap.size + 1 + 1) 33 [.slice none 0 0, .slice none 0 0]) := by unfold Hid; rw [hZ]; exact ((((HRE2.out.set 0 (.slice none 0 0)).set 1 (.slice none 0 0)).other (b' := w.heap.size + 1 + 1 + 1) (by omega) 0 (.slice none 0 0)).other (b' := w.heap.size + 1 + 1 + 1) (by omega) 1 (.slice none 0 0))
              have HZ3 : Hid (BoxN Z (w.heap.size + 1 + 1 + 1) 33 [.slice none 0 0, .slice none 0 0]) := by unfold Hid; rw [hZ]; exact ((((HRE3.out.other (b' := w.heap.size + 1 + 1) (by omega) 0 (.slice none 0 0)).other (b' := w.heap.size + 1 + 1) (by omega) 1 (.slice none 0 0)).set 0 (.slice none 0 0)).set 1 (.slice none 0 0))
              have HZB : Hid (Below w.heap.size w Z) := by unfold Hid; rw [hZ]; exact ((((HBE.out.setCell (p := ⟨w.heap.size + 1 + 1, 0, none⟩) (by show w.heap.size ≤ w.heap.size + 1 + 1; omega) (.slice none 0 0)).setCell (p := ⟨w.heap.size + 1 + 1, 1, none⟩) (by show w.heap.size ≤ w.heap.size + 1 + 1; omega) (.slice none 0 0)).setCell (p := ⟨w.heap.size + 1 + 1 + 1, 0, none⟩) (by show w.heap.size ≤ w.heap.size + 1 + 1 + 1; omega) (.slice none 0 0)).setCell (p := ⟨w.heap.size + 1 + 1 + 1, 1, none⟩) (by show w.heap.size ≤ w.heap.size + 1 + 1 + 1; omega) (.slice none 0 0))
              have HV0 : Hid (OwnI Z w.heap.size (.slice none 0 0) (⟨[], []⟩ : RangeD).b) := by unfold Hid; exact OwnI.nil _ _
              have HV1 : Hid (OwnQ Z w.heap.size (.slice none 0 0) (.slice none 0 0) (⟨[], []⟩ : RangeD).p) := by unfold Hid; exact OwnQ.nil _ _ _
              have HV2 : Hid (OwnI Z w.heap.size (.slice none 0 0) (⟨[], []⟩ : RangeD).b) := by unfold Hid; exact OwnI.nil _ _
              have HV3 : Hid (OwnQ Z w.heap.size (.slice none 0 0) (.slice none 0 0) (⟨[], []⟩ : RangeD).p) := by unfold Hid; exact OwnQ.nil _ _ _
              rw [← hZ]
              clear hZ r2_0 r2_1 r3_0 r3_1 fr2 fr3
              have t2_0 := HZ2.out.cell (i := 0) rfl
              have t2_1 := HZ2.out.cell (i := 1) rfl
              have t3_0 := HZ3.out.cell (i := 0) rfl
              have t3_1 := HZ3.out.cell (i := 1) rfl
              try (go_wp2_with fail)
              (try clear hpwA)
              (try clear ewpA)
              have HVB : Hid (piB gr bh bl m r lo hi n cs = false) := by unfold Hid; simp only [piB, Hhc1.out, Hhc2.out, Hhc3.out, hc4, hc5, hc6, HMAB.out, HMCB.out, HL2.out, Bool.true_and, Bool.false_and, Bool.and_true, Bool.and_false]
              have HPR : Hid (piR gr sBit bh bl m r lo hi n cs = ⟨[], []⟩) := by unfold Hid piR; rw [if_neg (by rw [HVB.out]; simp)]
              have HPS : Hid (piS gr sBit bh bl m r lo hi n cs = ⟨[], []⟩) := by unfold Hid piS; rw [if_neg (by rw [HVB.out]; simp)]
              refine bodyPost_ret (v := .tuple #[.agg #[.slice none 0 0, .slice none 0 0], .agg #[.slice none 0 0, .slice none 0 0], .bool false]) (by simp [results, Try.results20, go_sem, t2_0, t2_1, t3_0, t3_1]) rfl ⟨(by rw [HVB.out, HPR.out, HPS.out]; exact RetG2.mk ⟨HV0.out, HV1.out⟩ ⟨HV2.out, HV3.out⟩), HZB.out⟩
end Go.Proofs.Yteemlmmdngkghaa
