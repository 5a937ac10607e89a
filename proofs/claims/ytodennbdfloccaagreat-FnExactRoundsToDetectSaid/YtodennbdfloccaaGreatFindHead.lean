/- Go's slices.IndexFunc, slices.ContainsFunc on slices of Head (printed by genfind.py). -/
import Derived.Test.YtodennbdfloccaaGreatFindR
import Derived.Test.YtodennbdfloccaaGreatBk
namespace Go.Proofs.YtodennbdfloccaaGreat
open Go.RowKit
set_option linter.unusedSimpArgs false
set_option linter.unusedVariables false

set_option maxHeartbeats 2000000 in
theorem slices_IndexFuncHead (v : Value) (ds : List HeadD) (g : FuncId) (caps : Array Value) (p : HeadD → Bool) (w : World) (h : RdR rHead w v ds) (hp : DecidesS rHead w g caps p) :
    Calls Tryz.prog 124 #[v, .func (.func g) #[] caps] w fun e w' => (∃ r : Int, e = .returned (.int .i64 r) ∧ decide (0 ≤ r) = ds.any p) ∧ Below w.heap.size w w' := by
  obtain ⟨a, n, c, rfl⟩ := h.shape
  have e := h.len
  obtain ⟨k1, k2⟩ := h.capMax
  unfold maxLen at k2
  have HE := Lib.hid e; clear e
  have hent := hp.enters
  have HP := Lib.hid hp; clear hp
  have H := Lib.hid h; clear h
  go_enter Tryz.func124, Tryz.ntmps124
  go_wp2
  go_loopg [8] n (fun g i wr => ∃ k : Nat, k + g = n ∧ i = .int .i64 k ∧ Hid ((ds.take k).any p = false) ∧ Below w.heap.size w wr)
  case atStart => exact ⟨0, by omega, rfl, by unfold Hid; simp, Below.refl _ _⟩
  case round =>
    obtain ⟨k, hkg, rfl, HF, hb⟩ := hrel
    by_cases hlt : k < n
    · have HK : Hid (k < ds.length) := by unfold Hid; rw [HE.out]; exact hlt
      obtain ⟨b, o, rfl, hcx⟩ := H.out.at_ (by omega)
      obtain ⟨us, hcell, hrd⟩ := hcx k HK.out
      have HS : Hid ((ds.take (k + 1)).any p = ((ds.take k).any p || p (ds[k]'HK.out))) := by unfold Hid; rw [List.take_succ_eq_append_getElem HK.out, List.any_append]; simp
      have HM := Lib.hid (List.getElem_mem HK.out)
      generalize ds[k]'HK.out = d at hrd HS HM
      obtain ⟨_, rfl, i37, ⟨_, rfl, i38, ⟨_, rfl, i39, ⟨v40, _, rfl, h41, ⟨v42, _, rfl, h43, ⟨v44, _, rfl, h45, rfl⟩⟩⟩⟩⟩⟩ := hrd
      obtain ⟨aa0, nn0, cc0, rfl⟩ := sInts.sl h41
      obtain ⟨aa1, nn1, cc1, rfl⟩ := sInts.sl h43
      obtain ⟨aa2, nn2, cc2, rfl⟩ := sInts.sl h45
      have y0 : w.cell? ⟨b, o + (k * 6 + 0), none⟩ = some (.int .i64 d.author) := hcell 0 (by decide)
      replace y0 : w.cell? ⟨b, o + k * 6, none⟩ = some (.int .i64 d.author) := by rw [Nat.add_zero] at y0; exact y0
      have y1 : w.cell? ⟨b, o + (k * 6 + 1), none⟩ = some (.int .i64 d.size) := hcell 1 (by decide)
      replace y1 : w.cell? ⟨b, o + k * 6 + 1, none⟩ = some (.int .i64 d.size) := by rw [← Nat.add_assoc] at y1; exact y1
      have y2 : w.cell? ⟨b, o + (k * 6 + 2), none⟩ = some (.int .i64 d.root) := hcell 2 (by decide)
      replace y2 : w.cell? ⟨b, o + k * 6 + 2, none⟩ = some (.int .i64 d.root) := by rw [← Nat.add_assoc] at y2; exact y2
      have y3 : w.cell? ⟨b, o + (k * 6 + 3), none⟩ = some (.slice aa0 nn0 cc0) := hcell 3 (by decide)
      replace y3 : w.cell? ⟨b, o + k * 6 + 3, none⟩ = some (.slice aa0 nn0 cc0) := by rw [← Nat.add_assoc] at y3; exact y3
      have y4 : w.cell? ⟨b, o + (k * 6 + 4), none⟩ = some (.slice aa1 nn1 cc1) := hcell 4 (by decide)
      replace y4 : w.cell? ⟨b, o + k * 6 + 4, none⟩ = some (.slice aa1 nn1 cc1) := by rw [← Nat.add_assoc] at y4; exact y4
      have y5 : w.cell? ⟨b, o + (k * 6 + 5), none⟩ = some (.slice aa2 nn2 cc2) := hcell 5 (by decide)
      replace y5 : w.cell? ⟨b, o + k * 6 + 5, none⟩ = some (.slice aa2 nn2 cc2) := by rw [← Nat.add_assoc] at y5; exact y5
      have HR : Hid ((kS rHead).rd wr (.agg #[.int .i64 d.author, .int .i64 d.size, .int .i64 d.root, .slice aa0 nn0 cc0, .slice aa1 nn1 cc1, .slice aa2 nn2 cc2]) d) := (kS rHead).rd_below (rdHead.2 ⟨_, _, _, _, _, _, _, _, _, rfl, i37, i38, i39, h41, h43, h45⟩) hb
      replace y0 := box_at y0 hb
      replace y1 := box_at y1 hb
      replace y2 := box_at y2 hb
      replace y3 := box_at y3 hb
      replace y4 := box_at y4 hb
      replace y5 := box_at y5 hb
      clear hcell hcx i37 i38 i39 h41 h43 h45
      cases hpx : p d with
      | true =>
        have HA : Hid (decide (0 ≤ (k : Int)) = ds.any p) := by
          unfold Hid; rw [decide_eq_true (by omega), eq_comm, List.any_eq_true]; exact ⟨_, HM.out, hpx⟩
        have HX := Lib.hid hpx
        clear hpx
        go_wp2_with fail
        refine (HP.out.runs _ _ _ HR.out hb).mono ?_
        rintro e w1 ⟨rfl, hb1⟩
        rw [HX.out]
        go_wp2_with fail
        go_ret
        exact ⟨⟨_, rfl, HA.out⟩, hb.trans (hb1.mono hb.size)⟩
      | false =>
        have HX := Lib.hid hpx
        clear hpx
        go_wp2_with fail
        refine (HP.out.runs _ _ _ HR.out hb).mono ?_
        rintro e w1 ⟨rfl, hb1⟩
        rw [HX.out]
        go_wp2_with fail
        go_roundg (n - (k + 1))
        case measure => omega
        case rel => exact ⟨k + 1, by omega, by go_num, by unfold Hid; rw [HS.out, HF.out, HX.out]; rfl, hb.trans (hb1.mono hb.size)⟩
    · obtain rfl : n = k := by omega
      have HA : Hid (decide (0 ≤ (-1 : Int)) = ds.any p) := by
        have := HF.out
        rw [List.take_of_length_le (by rw [HE.out]; exact Nat.le_refl _)] at this
        unfold Hid; rw [this]; rfl
      go_wp2_with fail
      go_ret
      exact ⟨⟨_, rfl, HA.out⟩, hb⟩
theorem slices_ContainsFuncHead (v : Value) (ds : List HeadD) (g : FuncId) (caps : Array Value) (p : HeadD → Bool) (w : World) (h : RdR rHead w v ds) (hp : DecidesS rHead w g caps p) :
    Calls Tryz.prog 84 #[v, .func (.func g) #[] caps] w fun e w' => e = .returned (.bool (ds.any p)) ∧ Below w.heap.size w w' := by
  have HP := Lib.hid hp; clear hp
  have H := Lib.hid h; clear h
  go_enter Tryz.func84, Tryz.ntmps84
  go_wp2_with fail
  refine (slices_IndexFuncHead v ds g caps p _ H.out HP.out).mono ?_
  rintro e w1 ⟨⟨r, rfl, hr⟩, hb⟩
  have HR := Lib.hid hr; clear hr
  go_wp2_with fail
  go_ret
  exact ⟨ret_bool (by first | (rw [HR.out]; done) | (rw [HR.out]; rfl) | exact HR.out.symm), hb⟩
end Go.Proofs.YtodennbdfloccaaGreat
