/- Walks: GossipRound. -/
import Derived.Test.YtodennbdfloccaaGreatGos2
import Derived.Test.YtodennbdfloccaaGreatFindReader
namespace Go.Proofs.YtodennbdfloccaaGreat
open Go.RowKit
set_option linter.unusedSimpArgs false
set_option linter.unusedVariables false

def rdrsB (rs : List ReaderD) : Bool := decide (rs.length ≤ 8) && rs.all fun r => headsB r.heads
theorem rdrsB_any (rs : List ReaderD) : (rs.any fun r => !headsB r.heads) = !(rs.all fun r => headsB r.heads) := by
  induction rs with
  | nil => rfl
  | cons a ds ih => simp only [List.any_cons, List.all_cons, ih, Bool.not_and]
/-- readers and pairs are valid -/
def grB (rs : List ReaderD) (ps : List (List Int)) : Bool := rdrsB rs && pairsB (rs.length : Int) ps
def gorB (rs : List ReaderD) (ps : List (List Int)) : Bool := grB rs ps && gosB rs ps
def gorL (rs : List ReaderD) (ps : List (List Int)) : List ReaderD := if grB rs ps = true then gosL rs ps else []
theorem gor_no {rs : List ReaderD} {ps : List (List Int)} (h : grB rs ps = false) : gorB rs ps = false ∧ gorL rs ps = [] := by unfold gorB gorL; rw [h]; exact ⟨rfl, if_neg (by simp)⟩
theorem gor_yes {rs : List ReaderD} {ps : List (List Int)} (h : grB rs ps = true) : gorB rs ps = gosB rs ps ∧ gorL rs ps = gosL rs ps := by unfold gorB gorL; rw [h]; exact ⟨rfl, if_pos rfl⟩
theorem rdrs_ok {rs : List ReaderD} (h : (szReaderS rs : Int) ≤ 1000000000) (hb : rdrsB rs = true) : okRs rs := by
  unfold rdrsB at hb
  rw [Bool.and_eq_true] at hb
  refine ⟨of_decide_eq_true hb.1, fun r hr => ?_⟩
  have h1 := List.all_eq_true.1 hb.2 r hr
  have h2 : szReader r ≤ (rs.map szReader).sum := le_sum_of_mem (List.mem_map.2 ⟨r, hr, rfl⟩)
  have h3 : (szHeadS r.heads : Int) ≤ 1000000000 := by
    unfold szReaderS at h
    unfold szReader at h2
    have h4 : (rs.map szReader).sum = (rs.map fun r => szHeadS r.heads).sum := rfl
    omega
  have h5 := headsB_small h3 h1
  unfold headsB at h1
  simp only [Bool.and_eq_true, decide_eq_true_eq] at h1
  exact ⟨h1.1, h5.2⟩
theorem rdrsB_len {rs : List ReaderD} (hb : rdrsB rs = true) : rs.length ≤ 8 := by
  unfold rdrsB at hb; rw [Bool.and_eq_true] at hb; exact of_decide_eq_true hb.1
theorem impl_areReaders1 (v : Value) (d : ReaderD) (w : World) (h : (kS rReader).rd w v d) :
    Calls Tryz.prog 99 #[v] w fun e w' => e = .returned (.bool (!headsB d.heads)) ∧ Below w.heap.size w w' := by
  obtain ⟨q, hq⟩ : ∃ q, headsB d.heads = q := ⟨_, rfl⟩
  have HQ := Lib.hid hq
  rw [hq]; clear hq
  obtain ⟨ad_0, nd_0, cd_0, rfl, kd_0⟩ := rdReader.1 h
  obtain ⟨W, hW⟩ : ∃ W, W = (w.alloc (.cells #[.slice ad_0 nd_0 cd_0] 101)) := ⟨_, rfl⟩
  have HWB : Hid (Below w.heap.size w W) := by unfold Hid; rw [hW]; (repeat (first | exact Below.refl _ _ | assumption | refine Below.drew ?_ | refine Below.alloc ?_ (by first | (simp; done) | (simp; omega)) _ | refine Below.setCell ?_ (by first | (simp; done) | (simp; omega)) _))
  have FX : Hid (∀ W', Below W.heap.size W W' → W'.cell? ⟨w.heap.size, 0, none⟩ = some (.slice ad_0 nd_0 cd_0)) := fun W' hb => by
    exact box_at (by rw [hW]; simp [go_sem]) hb
  have hsW : W.heap.size = w.heap.size + 1 := by rw [hW]; simp
  have Hd := Lib.hid ((kS rReader).rd_below h HWB.out); clear h
  have F_d_heads := Lib.hid ((kR 44 rHead).rd_below kd_0 HWB.out)
  clear kd_0
  have HW := Lib.hid hW; clear hW
  go_enter Tryz.func99, Tryz.ntmps99
  go_wp2_with fail
  rw [← HW.out]
  have hcum : Below W.heap.size W W := Below.refl _ _
  have p0_0 := FX.out _ hcum
  refine (impl_areHeads _ d.heads _ F_d_heads.out).mono ?_
  rintro e w1 ⟨rfl, hb1⟩
  rw [HQ.out]
  (replace hcum := hcum.trans (hb1.mono hcum.size)); clear hb1; clear p0_0; have p0_0 := FX.out _ hcum
  go_wp2_with fail
  go_ret
  exact ⟨rfl, HWB.out.trans (hcum.mono HWB.out.size)⟩
set_option maxHeartbeats 1000000 in
theorem impl_areReaders (v : Value) (ds : List ReaderD) (w : World) (h : RdR rReader w v ds) :
    Calls Tryz.prog 64 #[v] w fun e w' => e = .returned (.bool (rdrsB ds)) ∧ Below w.heap.size w w' := by
  obtain ⟨a, n, c, rfl⟩ := h.shape
  have e := h.len
  have H := Lib.hid h; clear h
  have HD : Hid (DecidesS rReader w 99 #[] (fun d => !headsB d.heads)) :=
    ⟨Tryz.call99, fun v d wr hx hb => impl_areReaders1 v d wr hx⟩
  by_cases hn : (n : Int) ≤ 8
  · have HR : Hid (rdrsB ds = !(ds.any fun d => !headsB d.heads)) := by unfold Hid rdrsB; rw [rdrsB_any, decide_eq_true (by omega)]; simp
    obtain ⟨q, hq⟩ : ∃ q, (ds.any fun d => !headsB d.heads) = q := ⟨_, rfl⟩
    have HQ := Lib.hid hq
    rw [hq] at HR; clear hq e
    go_enter Tryz.func64, Tryz.ntmps64
    go_wp2_with fail
    refine (slices_ContainsFuncReader _ ds _ _ (fun d => !headsB d.heads) _ H.out HD.out).mono ?_
    rintro e w1 ⟨rfl, hb⟩
    rw [HQ.out]
    go_wp2_with fail
    go_ret
    exact ⟨ret_bool (by first | (rw [HR.out]; done) | (rw [HR.out]; rfl) | exact HR.out.symm), hb⟩
  · have HR : Hid (rdrsB ds = false) := by unfold Hid rdrsB; rw [decide_eq_false (by omega)]; rfl
    clear e
    go_enter Tryz.func64, Tryz.ntmps64
    go_wp2_with fail
    go_ret
    exact ⟨ret_bool (by first | (rw [HR.out]; done) | (rw [HR.out]; rfl) | exact HR.out.symm), Below.refl _ _⟩
set_option maxRecDepth 100000 in
set_option maxHeartbeats 2000000 in
theorem spec_fReaders (v : Value) (rs : List ReaderD) (vp : Value) (ps : List (List Int)) (w : World) (h : RdR rReader w v rs) (hp : RdL kInts w vp ps) :
    Calls Tryz.prog 60 #[v, vp] w fun e w' => e = .returned (.bool (grB rs ps)) ∧ Below w.heap.size w w' := by
  obtain ⟨ar, n, c, rfl⟩ := h.shape
  obtain ⟨ap, np, cp, rfl⟩ := hp.shape
  have el := h.len
  obtain ⟨k1, k2⟩ := h.capMax
  unfold maxLen at k2
  have HE := Lib.hid el
  have HH := Lib.hid h; have HP := Lib.hid hp
  clear h hp el
  go_enter Tryz.func60, Tryz.ntmps60
  go_wp2_with fail
  go_loopg [9] n (fun gg i wr => ∃ k : Nat, k + gg = n ∧ i = .int .i64 k ∧ Hid (∀ j (hj : j < rs.length), j < k → headsB (rs[j]'hj).heads = true) ∧ Below w.heap.size w wr)
  case atStart => exact ⟨0, by omega, rfl, (fun j hj h => by omega), Below.refl _ _⟩
  case round =>
    obtain ⟨k, hkg, rfl, HF, hb⟩ := hrel
    by_cases hlt : k < n
    · have HK : Hid (k < rs.length) := by unfold Hid; rw [HE.out]; exact hlt
      obtain ⟨q4, h4⟩ : ∃ b, headsB (rs[k]'HK.out).heads = b := ⟨_, rfl⟩
      have H4 := Lib.hid h4; clear h4
      have HNO : Hid (q4 = false → grB rs ps = false) := fun e => by
        unfold grB rdrsB
        have : (rs.all fun r => headsB r.heads) = false := by
          rw [List.all_eq_false]
          exact ⟨_, List.getElem_mem HK.out, by rw [H4.out, e]; simp⟩
        rw [this, Bool.and_false, Bool.false_and]
      have HFK : Hid (q4 = true → ∀ j (hj : j < rs.length), j < k + 1 → headsB (rs[j]'hj).heads = true) := fun e j hj hjk => by
        rcases Nat.lt_succ_iff_lt_or_eq.1 hjk with h | rfl
        · exact HF.out j hj h
        · exact H4.out.trans e
      obtain ⟨b_r, o_r, rfl, hcx⟩ := HH.out.at_ (by omega)
      obtain ⟨us, hcell, hrd⟩ := hcx k HK.out
      clear hcx
      generalize rs[k]'HK.out = r at hrd H4
      obtain ⟨ar_0, nr_0, cr_0, ers, kr_0⟩ := rdReader.1 ⟨us, rfl, hrd⟩
      obtain rfl : us = [.slice ar_0 nr_0 cr_0] := by have h := Value.agg.inj ers; simpa using congrArg Array.toList h
      clear ers hrd
      have y_r_0 : wr.cell? ⟨b_r, o_r + k * 1, none⟩ = some (.slice ar_0 nr_0 cr_0) := box_at (hcell 0 (by decide)) hb
      clear hcell
      have HR_r := Lib.hid ((kS rReader).rd_below (rdReader.2 ⟨_, _, _, rfl, kr_0⟩ : (kS rReader).rd w (.agg #[.slice ar_0 nr_0 cr_0]) r) hb)
      have F_r_heads := Lib.hid ((kR 44 rHead).rd_below kr_0 hb)
      clear kr_0
      simp only [Nat.mul_one] at y_r_0
      have hwk : IntKind.i64.wrap ((k : Int) + 1) = (k : Int) + 1 := IntWalk.i64_in _ (by omega)
      go_wp2_with fail
      obtain ⟨V, hV⟩ : ∃ V, V = wr.alloc (.cells #[.slice ar_0 nr_0 cr_0] 101) := ⟨_, rfl⟩
      rw [← hV]
      have HV : Hid (Below wr.heap.size wr V) := by unfold Hid; rw [hV]; exact (Below.refl _ _).alloc (Nat.le_refl _) _
      have hsV : V.heap.size = wr.heap.size + 1 := by rw [hV]; simp
      have x_r_0 : V.cell? ⟨wr.heap.size, 0, none⟩ = some (.slice ar_0 nr_0 cr_0) := by rw [hV]; simp [go_sem]
      have HRV_r := Lib.hid ((kS rReader).rd_below HR_r.out HV.out)
      clear hV
      refine (spec_fHeads _ r.heads _ (RdR.below F_r_heads.out HV.out)).mono ?_
      rintro ee w1 ⟨rfl, hb1⟩
      rw [H4.out]
      have HB1 := Lib.hid (Below.next (Below.next hb HV.out) hb1)
      clear hb1
      cases q4 with
      | false =>
        have HN := Lib.hid (HNO.out rfl)
        go_wp2_with fail
        go_ret
        exact ⟨ret_bool (by first | (rw [HN.out]; done) | (rw [HN.out]; rfl) | exact HN.out.symm), HB1.out⟩
      | true =>
        have HF2 := Lib.hid (HFK.out rfl)
        go_wp2_with fail
        go_roundg (n - (k + 1))
        case measure => omega
        case rel => exact ⟨k + 1, by omega, by go_num, HF2.out, HB1.out⟩
    · obtain rfl : n = k := by omega
      have hall : (rs.all fun r => headsB r.heads) = true := by
        rw [List.all_eq_true]
        intro r hr
        obtain ⟨j, hj, rfl⟩ := List.getElem_of_mem hr
        exact HF.out j hj (by have := HE.out; omega)
      (obtain ⟨q5, h_q⟩ : ∃ b_q, pairsB (rs.length : Int) ps = b_q := ⟨_, rfl⟩); have H5 := Lib.hid h_q; clear h_q
      have HR : Hid (grB rs ps = (decide (n ≤ 8) && q5)) := by unfold Hid grB rdrsB; rw [hall, H5.out, HE.out, Bool.and_true]
      have HP5 : Hid (pairsB (n : Int) ps = q5) := by unfold Hid; rw [← H5.out, HE.out]
      clear hall
      by_cases hn8 : n ≤ 8
      · have HR2 : Hid (grB rs ps = q5) := by unfold Hid; rw [HR.out, decide_eq_true hn8]; rfl
        have hx : decide ((n : Int) ≤ 8) = true := decide_eq_true (by omega)
        go_wp2_with fail
        refine (spec_fPairs (n : Int) _ ps _ (kRows.rd_below HP.out hb) (by omega) (by omega)).mono ?_
        rintro ee w1 ⟨rfl, hb1⟩
        rw [HP5.out]
        have HB1 := Lib.hid (Below.next hb hb1)
        go_wp2_with fail
        go_ret
        exact ⟨ret_bool (by first | (rw [HR2.out]; done) | (rw [HR2.out]; rfl) | exact HR2.out.symm), HB1.out⟩
      · have HR2 : Hid (grB rs ps = false) := by unfold Hid; rw [HR.out, decide_eq_false hn8]; rfl
        have hx : decide ((n : Int) ≤ 8) = false := decide_eq_false (by omega)
        go_wp2_with fail
        go_ret
        exact ⟨ret_bool (by first | (rw [HR2.out]; done) | (rw [HR2.out]; rfl) | exact HR2.out.symm), hb⟩
end Go.Proofs.YtodennbdfloccaaGreat
