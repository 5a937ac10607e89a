/- Go's slices.IndexFunc, slices.ContainsFunc on slices of Cipher (printed by genfind.py). -/
import Derived.Test.YtboahnklilmdpaaFindR
import Derived.Test.YtboahnklilmdpaaKCipher
namespace Go.Proofs.Ytboahnklilmdpaa
open Go.RowKit
set_option linter.unusedSimpArgs false
set_option linter.unusedVariables false

set_option maxHeartbeats 2000000 in
theorem slices_IndexFuncCipher (v : Value) (ds : List CipherD) (g : FuncId) (caps : Array Value) (p : CipherD → Bool) (w : World) (h : RdR rCipher w v ds) (hp : DecidesS rCipher w g caps p) :
    Calls Try.prog 310 #[v, .func (.func g) #[] caps] w fun e w' => (∃ r : Int, e = .returned (.int .i64 r) ∧ decide (0 ≤ r) = ds.any p) ∧ Below w.heap.size w w' := by
  obtain ⟨a, n, c, rfl⟩ := h.shape
  have e := h.len
  obtain ⟨k1, k2⟩ := h.capMax
  unfold maxLen at k2
  have HE := Lib.hid e; clear e
  have hent := hp.enters
  have HP := Lib.hid hp; clear hp
  have H := Lib.hid h; clear h
  go_enter Try.func310, Try.ntmps310
  go_wp2
  go_loopg [8] n (fun g i wr => ∃ k : Nat, k + g = n ∧ i = .int .i64 k ∧ Hid ((ds.take k).any p = false) ∧ Below w.heap.size w wr)
  case atStart => exact ⟨0, by omega, rfl, by unfold Hid; simp, Below.refl _ _⟩
  case round =>
    obtain ⟨k, hkg, rfl, HF, hb⟩ := hrel
    by_cases hlt : k < n
    · have HK : Hid (k < ds.length) := by unfold Hid; rw [HE.out]; exact hlt
      obtain ⟨b, o, rfl, hcx⟩ := H.out.at_ (by omega)
      obtain ⟨us, hcell, hrd⟩ := hcx k HK.out
      have HS : Hid ((ds.take (k + 1)).any p = ((ds.take k).any p || p (ds[k]'HK.out))) := by unfold Hid; rw [List.take_succ_eq_append_getElem HK.out, List.any_append]; simp
      have HM := Lib.hid (List.getElem_mem HK.out)
      generalize ds[k]'HK.out = d at hrd HS HM
      obtain ⟨_, rfl, i37, ⟨_, rfl, i38, rfl⟩⟩ := hrd
      have y0 : w.cell? ⟨b, o + (k * 2 + 0), none⟩ = some (.int .i64 d.a) := hcell 0 (by decide)
      replace y0 : w.cell? ⟨b, o + k * 2, none⟩ = some (.int .i64 d.a) := by rw [Nat.add_zero] at y0; exact y0
      have y1 : w.cell? ⟨b, o + (k * 2 + 1), none⟩ = some (.int .i64 d.b) := hcell 1 (by decide)
      replace y1 : w.cell? ⟨b, o + k * 2 + 1, none⟩ = some (.int .i64 d.b) := by rw [← Nat.add_assoc] at y1; exact y1
      have HR : Hid ((kS rCipher).rd wr (.agg #[.int .i64 d.a, .int .i64 d.b]) d) := (kS rCipher).rd_below (rdCipher.2 ⟨rfl, i37, i38⟩) hb
      replace y0 := box_at y0 hb
      replace y1 := box_at y1 hb
      clear hcell hcx i37 i38
      cases hpx : p d with
      | true =>
        have HA : Hid (decide (0 ≤ (k : Int)) = ds.any p) := by
          unfold Hid; rw [decide_eq_true (by omega), eq_comm, List.any_eq_true]; exact ⟨_, HM.out, hpx⟩
        have HX := Lib.hid hpx
        clear hpx
        go_wp2_with fail
        refine (HP.out.runs _ _ _ HR.out hb).mono ?_
        rintro e w1 ⟨rfl, hb1⟩
        rw [HX.out]
        go_wp2_with fail
        go_ret
        exact ⟨⟨_, rfl, HA.out⟩, hb.trans (hb1.mono hb.size)⟩
      | false =>
        have HX := Lib.hid hpx
        clear hpx
        go_wp2_with fail
        refine (HP.out.runs _ _ _ HR.out hb).mono ?_
        rintro e w1 ⟨rfl, hb1⟩
        rw [HX.out]
        go_wp2_with fail
        go_roundg (n - (k + 1))
        case measure => omega
        case rel => exact ⟨k + 1, by omega, by go_num, by unfold Hid; rw [HS.out, HF.out, HX.out]; rfl, hb.trans (hb1.mono hb.size)⟩
    · obtain rfl : n = k := by omega
      have HA : Hid (decide (0 ≤ (-1 : Int)) = ds.any p) := by
        have := HF.out
        rw [List.take_of_length_le (by rw [HE.out]; exact Nat.le_refl _)] at this
        unfold Hid; rw [this]; rfl
      go_wp2_with fail
      go_ret
      exact ⟨⟨_, rfl, HA.out⟩, hb⟩
theorem slices_ContainsFuncCipher (v : Value) (ds : List CipherD) (g : FuncId) (caps : Array Value) (p : CipherD → Bool) (w : World) (h : RdR rCipher w v ds) (hp : DecidesS rCipher w g caps p) :
    Calls Try.prog 261 #[v, .func (.func g) #[] caps] w fun e w' => e = .returned (.bool (ds.any p)) ∧ Below w.heap.size w w' := by
  have HP := Lib.hid hp; clear hp
  have H := Lib.hid h; clear h
  go_enter Try.func261, Try.ntmps261
  go_wp2_with fail
  refine (slices_IndexFuncCipher v ds g caps p _ H.out HP.out).mono ?_
  rintro e w1 ⟨⟨r, rfl, hr⟩, hb⟩
  have HR := Lib.hid hr; clear hr
  go_wp2_with fail
  go_ret
  exact ⟨ret_bool (by first | (rw [HR.out]; done) | (rw [HR.out]; rfl) | exact HR.out.symm), hb⟩
end Go.Proofs.Ytboahnklilmdpaa
