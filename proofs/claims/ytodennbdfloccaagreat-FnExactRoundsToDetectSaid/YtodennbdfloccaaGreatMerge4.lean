/- Walks: lists of heads (impl.areHeads, spec.fHeads). -/
import Derived.Test.YtodennbdfloccaaGreatMerge3
import Derived.Test.YtodennbdfloccaaGreatFindHead
namespace Go.Proofs.YtodennbdfloccaaGreat
open Go.RowKit
set_option linter.unusedSimpArgs false
set_option linter.unusedVariables false

def headsB (ds : List HeadD) : Bool := decide (ds.length ≤ 20) && ds.all headB
theorem headsB_any (ds : List HeadD) : (ds.any fun d => !headB d) = !(ds.all headB) := by
  induction ds with
  | nil => rfl
  | cons a ds ih => simp only [List.any_cons, List.all_cons, ih, Bool.not_and]
theorem impl_areHeads1 (v : Value) (d : HeadD) (w : World) (h : (kS rHead).rd w v d) :
    Calls Tryz.prog 85 #[v] w fun e w' => e = .returned (.bool (!headB d)) ∧ Below w.heap.size w w' := by
  obtain ⟨q, hq⟩ : ∃ q, headB d = q := ⟨_, rfl⟩
  have HQ := Lib.hid hq
  rw [hq]; clear hq
  obtain ⟨ad_3, nd_3, cd_3, ad_4, nd_4, cd_4, ad_5, nd_5, cd_5, rfl, jd_0, jd_1, jd_2, kd_3, kd_4, kd_5⟩ := rdHead.1 h
  obtain ⟨W, hW⟩ : ∃ W, W = (w.alloc (.cells #[.int .i64 d.author, .int .i64 d.size, .int .i64 d.root, .slice ad_3 nd_3 cd_3, .slice ad_4 nd_4 cd_4, .slice ad_5 nd_5 cd_5] 44)) := ⟨_, rfl⟩
  have HWB : Hid (Below w.heap.size w W) := by unfold Hid; rw [hW]; (repeat (first | exact Below.refl _ _ | assumption | refine Below.drew ?_ | refine Below.alloc ?_ (by first | (simp; done) | (simp; omega)) _ | refine Below.setCell ?_ (by first | (simp; done) | (simp; omega)) _))
  have FX : Hid (∀ W', Below W.heap.size W W' → W'.cell? ⟨w.heap.size, 0, none⟩ = some (.int .i64 d.author) ∧ W'.cell? ⟨w.heap.size, 1, none⟩ = some (.int .i64 d.size) ∧ W'.cell? ⟨w.heap.size, 2, none⟩ = some (.int .i64 d.root) ∧ W'.cell? ⟨w.heap.size, 3, none⟩ = some (.slice ad_3 nd_3 cd_3) ∧ W'.cell? ⟨w.heap.size, 4, none⟩ = some (.slice ad_4 nd_4 cd_4) ∧ W'.cell? ⟨w.heap.size, 5, none⟩ = some (.slice ad_5 nd_5 cd_5)) := fun W' hb => by
    exact ⟨box_at (by rw [hW]; simp [go_sem]) hb, box_at (by rw [hW]; simp [go_sem]) hb, box_at (by rw [hW]; simp [go_sem]) hb, box_at (by rw [hW]; simp [go_sem]) hb, box_at (by rw [hW]; simp [go_sem]) hb, box_at (by rw [hW]; simp [go_sem]) hb⟩
  have hsW : W.heap.size = w.heap.size + 1 := by rw [hW]; simp
  have Hd := Lib.hid ((kS rHead).rd_below h HWB.out); clear h
  have Jd_0 := Lib.hid jd_0; clear jd_0
  have Jd_1 := Lib.hid jd_1; clear jd_1
  have Jd_2 := Lib.hid jd_2; clear jd_2
  have F_d_sign := Lib.hid ((kS rProof).rd_below (w := w) (rdProof.2 ⟨_, _, _, _, _, _, _, _, _, rfl, kd_3, kd_4, kd_5⟩ : (kS rProof).rd w (.agg #[.slice ad_3 nd_3 cd_3, .slice ad_4 nd_4 cd_4, .slice ad_5 nd_5 cd_5]) d.sign) HWB.out)
  clear kd_3 kd_4 kd_5
  have HW := Lib.hid hW; clear hW
  go_enter Tryz.func85, Tryz.ntmps85
  go_wp2_with fail
  rw [← HW.out]
  have hcum : Below W.heap.size W W := Below.refl _ _
  obtain ⟨p0_0, p0_1, p0_2, p0_3, p0_4, p0_5⟩ := FX.out _ hcum
  refine (impl_isPlain _ d _ Hd.out).mono ?_
  rintro e w1 ⟨rfl, hb1⟩
  rw [HQ.out]
  (replace hcum := hcum.trans (hb1.mono hcum.size)); clear hb1; clear p0_0 p0_1 p0_2 p0_3 p0_4 p0_5; obtain ⟨p0_0, p0_1, p0_2, p0_3, p0_4, p0_5⟩ := FX.out _ hcum
  go_wp2_with fail
  go_ret
  exact ⟨rfl, HWB.out.trans (hcum.mono HWB.out.size)⟩
set_option maxHeartbeats 1000000 in
theorem impl_areHeads (v : Value) (ds : List HeadD) (w : World) (h : RdR rHead w v ds) :
    Calls Tryz.prog 51 #[v] w fun e w' => e = .returned (.bool (headsB ds)) ∧ Below w.heap.size w w' := by
  obtain ⟨a, n, c, rfl⟩ := h.shape
  have e := h.len
  have H := Lib.hid h; clear h
  have HD : Hid (DecidesS rHead w 85 #[] (fun d => !headB d)) :=
    ⟨Tryz.call85, fun v d wr hx hb => impl_areHeads1 v d wr hx⟩
  by_cases hn : (n : Int) ≤ 20
  · have HR : Hid (headsB ds = !(ds.any fun d => !headB d)) := by unfold Hid headsB; rw [headsB_any, decide_eq_true (by omega)]; simp
    obtain ⟨q, hq⟩ : ∃ q, (ds.any fun d => !headB d) = q := ⟨_, rfl⟩
    have HQ := Lib.hid hq
    rw [hq] at HR; clear hq e
    go_enter Tryz.func51, Tryz.ntmps51
    go_wp2_with fail
    refine (slices_ContainsFuncHead _ ds _ _ (fun d => !headB d) _ H.out HD.out).mono ?_
    rintro e w1 ⟨rfl, hb⟩
    rw [HQ.out]
    go_wp2_with fail
    go_ret
    exact ⟨ret_bool (by first | (rw [HR.out]; done) | (rw [HR.out]; rfl) | exact HR.out.symm), hb⟩
  · have HR : Hid (headsB ds = false) := by unfold Hid headsB; rw [decide_eq_false (by omega)]; rfl
    clear e
    go_enter Tryz.func51, Tryz.ntmps51
    go_wp2_with fail
    go_ret
    exact ⟨ret_bool (by first | (rw [HR.out]; done) | (rw [HR.out]; rfl) | exact HR.out.symm), Below.refl _ _⟩
set_option maxHeartbeats 2000000 in
theorem spec_fHeads (v : Value) (ds : List HeadD) (w : World) (h : RdR rHead w v ds) :
    Calls Tryz.prog 50 #[v] w fun e w' => e = .returned (.bool (headsB ds)) ∧ Below w.heap.size w w' := by
  obtain ⟨a, n, c, rfl⟩ := h.shape
  have e := h.len
  obtain ⟨k1, k2⟩ := h.capMax
  unfold maxLen at k2
  have HE := Lib.hid e; clear e
  have H := Lib.hid h; clear h
  go_enter Tryz.func50, Tryz.ntmps50
  go_wp2_with fail
  go_loopg [7] n (fun g i wr => ∃ k : Nat, k + g = n ∧ i = .int .i64 k ∧ Hid ((ds.take k).all headB = true) ∧ Below w.heap.size w wr)
  case atStart => exact ⟨0, by omega, rfl, by unfold Hid; simp, Below.refl _ _⟩
  case round =>
    obtain ⟨k, hkg, rfl, HF, hb⟩ := hrel
    by_cases hlt : k < n
    · have HK : Hid (k < ds.length) := by unfold Hid; rw [HE.out]; exact hlt
      obtain ⟨b, o, rfl, hcx⟩ := H.out.at_ (by omega)
      obtain ⟨us, hcell, hrd⟩ := hcx k HK.out
      have HS : Hid ((ds.take (k + 1)).all headB = ((ds.take k).all headB && headB (ds[k]'HK.out))) := by unfold Hid; rw [List.take_succ_eq_append_getElem HK.out, List.all_append]; simp
      have HM := Lib.hid (List.getElem_mem HK.out)
      generalize ds[k]'HK.out = d at hrd HS HM
      obtain ⟨_, rfl, i37, ⟨_, rfl, i38, ⟨_, rfl, i39, ⟨v40, _, rfl, h41, ⟨v42, _, rfl, h43, ⟨v44, _, rfl, h45, rfl⟩⟩⟩⟩⟩⟩ := hrd
      obtain ⟨aa0, nn0, cc0, rfl⟩ := sInts.sl h41
      obtain ⟨aa1, nn1, cc1, rfl⟩ := sInts.sl h43
      obtain ⟨aa2, nn2, cc2, rfl⟩ := sInts.sl h45
      have y0 : w.cell? ⟨b, o + (k * 6 + 0), none⟩ = some (.int .i64 d.author) := hcell 0 (by decide)
      replace y0 : w.cell? ⟨b, o + k * 6, none⟩ = some (.int .i64 d.author) := by rw [Nat.add_zero] at y0; exact y0
      have y1 : w.cell? ⟨b, o + (k * 6 + 1), none⟩ = some (.int .i64 d.size) := hcell 1 (by decide)
      replace y1 : w.cell? ⟨b, o + k * 6 + 1, none⟩ = some (.int .i64 d.size) := by rw [← Nat.add_assoc] at y1; exact y1
      have y2 : w.cell? ⟨b, o + (k * 6 + 2), none⟩ = some (.int .i64 d.root) := hcell 2 (by decide)
      replace y2 : w.cell? ⟨b, o + k * 6 + 2, none⟩ = some (.int .i64 d.root) := by rw [← Nat.add_assoc] at y2; exact y2
      have y3 : w.cell? ⟨b, o + (k * 6 + 3), none⟩ = some (.slice aa0 nn0 cc0) := hcell 3 (by decide)
      replace y3 : w.cell? ⟨b, o + k * 6 + 3, none⟩ = some (.slice aa0 nn0 cc0) := by rw [← Nat.add_assoc] at y3; exact y3
      have y4 : w.cell? ⟨b, o + (k * 6 + 4), none⟩ = some (.slice aa1 nn1 cc1) := hcell 4 (by decide)
      replace y4 : w.cell? ⟨b, o + k * 6 + 4, none⟩ = some (.slice aa1 nn1 cc1) := by rw [← Nat.add_assoc] at y4; exact y4
      have y5 : w.cell? ⟨b, o + (k * 6 + 5), none⟩ = some (.slice aa2 nn2 cc2) := hcell 5 (by decide)
      replace y5 : w.cell? ⟨b, o + k * 6 + 5, none⟩ = some (.slice aa2 nn2 cc2) := by rw [← Nat.add_assoc] at y5; exact y5
      have HR : Hid ((kS rHead).rd wr (.agg #[.int .i64 d.author, .int .i64 d.size, .int .i64 d.root, .slice aa0 nn0 cc0, .slice aa1 nn1 cc1, .slice aa2 nn2 cc2]) d) := (kS rHead).rd_below (rdHead.2 ⟨_, _, _, _, _, _, _, _, _, rfl, i37, i38, i39, h41, h43, h45⟩) hb
      replace y0 := box_at y0 hb
      replace y1 := box_at y1 hb
      replace y2 := box_at y2 hb
      replace y3 := box_at y3 hb
      replace y4 := box_at y4 hb
      replace y5 := box_at y5 hb
      clear hcell hcx i37 i38 i39 h41 h43 h45
      cases hpx : headB d with
      | true =>
        have HX := Lib.hid hpx
        clear hpx
        go_wp2_with fail
        refine (spec_oHead _ d _ ((kS rHead).rd_below HR.out ((Below.refl _ _).alloc (Nat.le_refl _) _))).mono ?_
        rintro e w1 ⟨rfl, hb1⟩
        rw [HX.out]
        have HB1 := Lib.hid ((hb.alloc hb.size _).trans (hb1.mono (by have := hb.size; simp; omega))); clear hb1
        go_wp2_with fail
        go_roundg (n - (k + 1))
        case measure => omega
        case rel => exact ⟨k + 1, by omega, by go_num, by unfold Hid; rw [HS.out, HF.out, HX.out]; rfl, HB1.out⟩
      | false =>
        have HX := Lib.hid hpx
        have HA : Hid (headsB ds = false) := by
          unfold Hid headsB; rw [List.all_eq_false.2 ⟨_, HM.out, by rw [hpx]; simp⟩, Bool.and_false]
        clear hpx
        go_wp2_with fail
        refine (spec_oHead _ d _ ((kS rHead).rd_below HR.out ((Below.refl _ _).alloc (Nat.le_refl _) _))).mono ?_
        rintro e w1 ⟨rfl, hb1⟩
        rw [HX.out]
        have HB1 := Lib.hid ((hb.alloc hb.size _).trans (hb1.mono (by have := hb.size; simp; omega))); clear hb1
        go_wp2_with fail
        go_ret
        exact ⟨ret_bool (by first | (rw [HA.out]; done) | (rw [HA.out]; rfl) | exact HA.out.symm), HB1.out⟩
    · obtain rfl : n = k := by omega
      have HA : Hid (headsB ds = decide ((n : Int) ≤ 20)) := by
        have := HF.out
        rw [List.take_of_length_le (by rw [HE.out]; exact Nat.le_refl _)] at this
        unfold Hid headsB; rw [this, HE.out, Bool.and_true, decide_eq_decide]; omega
      go_wp2_with fail
      go_ret
      exact ⟨ret_bool (by first | (rw [HA.out]; done) | (rw [HA.out]; rfl) | exact HA.out.symm), hb⟩
end Go.Proofs.YtodennbdfloccaaGreat
