/- Walks: valid boards. -/
import Derived.Test.YtboahnklilmdpaaVEntryU
import Derived.Test.YtboahnklilmdpaaKBoardU
import Derived.IntWalk
namespace Go.Proofs.Ytboahnklilmdpaa
open Go.RowKit
set_option linter.unusedSimpArgs false
set_option linter.unusedVariables false

/-- an entry of a board -/
def entAt (gr : GroupD) (keys : List Int) (i : Nat) (e : EntryD) : Bool := decide (0 ≤ e.author ∧ e.author ≤ (keys.length : Int) - 1) && isEntryB gr (nth keys e.author.toNat) (i : Int) e
def entGet (gr : GroupD) (keys : List Int) (es : List EntryD) (i : Nat) : Bool := match es[i]? with
  | some e => entAt gr keys i e
  | none => true
def entsB (gr : GroupD) (keys : List Int) (es : List EntryD) : Bool := (List.range es.length).all (entGet gr keys es)
def boardB (gr : GroupD) (d : BoardD) : Bool := keysB gr d.keys && (decide (d.entries.length ≤ 64) && entsB gr d.keys d.entries)
theorem entGet_eq {gr : GroupD} {keys : List Int} {es : List EntryD} {i : Nat} (h : i < es.length) : entGet gr keys es i = entAt gr keys i (es[i]'h) := by
  unfold entGet; rw [List.getElem?_eq_getElem h]
set_option maxRecDepth 100000 in
set_option maxHeartbeats 8000000 in
theorem impl_isBoard_loop (gr : GroupD) (d : BoardD) (v : Value) (w : World) (hg : OkG gr) (h : (kS rBoard).rd w v d) (hkk : keysB gr d.keys = true) (hn64 : d.entries.length ≤ 64) :
    Calls Try.prog 254 #[.agg #[.int .i64 gr.p, .int .i64 gr.q, .int .i64 gr.g], v] w fun e w' => e = .returned (.bool (entsB gr d.keys d.entries)) ∧ Below w.heap.size w w' := by
  have HG := Lib.hid hg; clear hg
  have HKK := Lib.hid hkk; clear hkk
  obtain ⟨ad_0, nd_0, cd_0, ad_1, nd_1, cd_1, rfl, kd_0, kd_1⟩ := rdBoard.1 h
  obtain ⟨W, hW⟩ : ∃ W, W = ((w.alloc (.cells #[.int .i64 gr.p, .int .i64 gr.q, .int .i64 gr.g] 39)).alloc (.cells #[.slice ad_0 nd_0 cd_0, .slice ad_1 nd_1 cd_1] 36)) := ⟨_, rfl⟩
  have HWB : Hid (Below w.heap.size w W) := by unfold Hid; rw [hW]; (repeat (first | exact Below.refl _ _ | assumption | refine Below.drew ?_ | refine Below.alloc ?_ (by first | (simp; done) | (simp; omega)) _ | refine Below.setCell ?_ (by first | (simp; done) | (simp; omega)) _))
  have FX : Hid (∀ W', Below W.heap.size W W' → W'.cell? ⟨w.heap.size, 0, none⟩ = some (.int .i64 gr.p) ∧ W'.cell? ⟨w.heap.size, 1, none⟩ = some (.int .i64 gr.q) ∧ W'.cell? ⟨w.heap.size, 2, none⟩ = some (.int .i64 gr.g) ∧ W'.cell? ⟨w.heap.size + 1, 0, none⟩ = some (.slice ad_0 nd_0 cd_0) ∧ W'.cell? ⟨w.heap.size + 1, 1, none⟩ = some (.slice ad_1 nd_1 cd_1)) := fun W' hb => by
    exact ⟨box_at (by rw [hW]; simp [go_sem]) hb, box_at (by rw [hW]; simp [go_sem]) hb, box_at (by rw [hW]; simp [go_sem]) hb, box_at (by rw [hW]; simp [go_sem]) hb, box_at (by rw [hW]; simp [go_sem]) hb⟩
  have hsW : W.heap.size = w.heap.size + 2 := by rw [hW]; simp
  have Hd := Lib.hid ((kS rBoard).rd_below h HWB.out); clear h
  have F_d_keys := Lib.hid (sInts.rd_below kd_0 HWB.out)
  have F_d_entries := Lib.hid ((kR 44 rEntry).rd_below kd_1 HWB.out)
  clear kd_0 kd_1
  have HW := Lib.hid hW; clear hW
  have hkl := (F_d_keys.out : Ints _ _ _).len
  have hkm := (F_d_keys.out : Ints _ _ _).capMax
  have hel := (F_d_entries.out : RdR _ _ _ _).len
  unfold maxLen at hkm
  have HKL := Lib.hid hkl
  have HE := Lib.hid hel
  have hwr : IntKind.i64.wrap ((nd_0 : Int) - 1) = (nd_0 : Int) - 1 := IntWalk.i64_in _ (by omega)
  have hn : nd_1 ≤ 64 := by omega
  have hk40 : nd_0 ≤ 40 := by have := keysB_len HKK.out; omega
  have HKA : Hid (d.keys.all (elB gr) = true) := by
    have h := HKK.out
    unfold keysB at h
    rw [Bool.and_eq_true] at h; exact h.2
  clear hkl hel hn64
  go_enter Try.func254, Try.ntmps254
  go_wp2_with fail
  rw [← HW.out]
  have hcum : Below W.heap.size W W := Below.refl _ _
  obtain ⟨p0_0, p0_1, p0_2, p1_0, p1_1⟩ := FX.out _ hcum
  refine (impl_areKeys gr _ d.keys _ HG.out F_d_keys.out).mono ?_
  rintro e w1 ⟨rfl, hb1⟩
  rw [HKK.out]
  (replace hcum := hcum.trans (hb1.mono hcum.size)); clear hb1; clear p0_0 p0_1 p0_2 p1_0 p1_1; obtain ⟨p0_0, p0_1, p0_2, p1_0, p1_1⟩ := FX.out _ hcum
  have HC := Lib.hid hcum
  go_wp2_with fail
  go_loopg [21] nd_1 (fun g i wr => ∃ k : Nat, k + g = nd_1 ∧ i = .int .i64 k ∧ Hid (∀ j, j < k → entGet gr d.keys d.entries j = true) ∧ Below W.heap.size W wr)
  case atStart => exact ⟨0, by omega, rfl, (fun j hj => by omega), HC.out⟩
  case round =>
    obtain ⟨k, hkg, rfl, HF, hb⟩ := hrel
    clear p0_0 p0_1 p0_2 p1_0 p1_1 HC hcum
    obtain ⟨p0_0, p0_1, p0_2, p1_0, p1_1⟩ := FX.out _ hb
    by_cases hlt : k < nd_1
    · have HK : Hid (k < d.entries.length) := by unfold Hid; rw [HE.out]; exact hlt
      have HGE : Hid (entGet gr d.keys d.entries k = entAt gr d.keys k (d.entries[k]'HK.out)) := entGet_eq HK.out
      obtain ⟨b_e, o_e, rfl, hcx⟩ := F_d_entries.out.at_ (by omega)
      obtain ⟨us, hcell, hrd⟩ := hcx k HK.out
      clear hcx
      generalize d.entries[k]'HK.out = e at hrd HGE
      obtain ⟨ae_2, ne_2, ce_2, ae_3, ne_3, ce_3, ae_4, ne_4, ce_4, ae_5, ne_5, ce_5, ers, je_0, je_1, ke_2, ke_3, ke_4, ke_5⟩ := rdEntry.1 ⟨us, rfl, hrd⟩
      obtain rfl : us = [.int .i64 e.kind, .int .i64 e.author, .slice ae_2 ne_2 ce_2, .slice ae_3 ne_3 ce_3, .slice ae_4 ne_4 ce_4, .slice ae_5 ne_5 ce_5] := by have h := Value.agg.inj ers; simpa using congrArg Array.toList h
      clear ers hrd
      have y_e_0 : wr.cell? ⟨b_e, o_e + k * 6, none⟩ = some (.int .i64 e.kind) := box_at (hcell 0 (by decide)) hb
      have y_e_1 : wr.cell? ⟨b_e, o_e + k * 6 + 1, none⟩ = some (.int .i64 e.author) := box_at (hcell 1 (by decide)) hb
      have y_e_2 : wr.cell? ⟨b_e, o_e + k * 6 + 2, none⟩ = some (.slice ae_2 ne_2 ce_2) := box_at (hcell 2 (by decide)) hb
      have y_e_3 : wr.cell? ⟨b_e, o_e + k * 6 + 3, none⟩ = some (.slice ae_3 ne_3 ce_3) := box_at (hcell 3 (by decide)) hb
      have y_e_4 : wr.cell? ⟨b_e, o_e + k * 6 + 4, none⟩ = some (.slice ae_4 ne_4 ce_4) := box_at (hcell 4 (by decide)) hb
      have y_e_5 : wr.cell? ⟨b_e, o_e + k * 6 + 5, none⟩ = some (.slice ae_5 ne_5 ce_5) := box_at (hcell 5 (by decide)) hb
      clear hcell
      have HR_e := Lib.hid ((kS rEntry).rd_below (rdEntry.2 ⟨_, _, _, _, _, _, _, _, _, _, _, _, rfl, je_0, je_1, ke_2, ke_3, ke_4, ke_5⟩ : (kS rEntry).rd W (.agg #[.int .i64 e.kind, .int .i64 e.author, .slice ae_2 ne_2 ce_2, .slice ae_3 ne_3 ce_3, .slice ae_4 ne_4 ce_4, .slice ae_5 ne_5 ce_5]) e) hb)
      have F_e_data := Lib.hid (sInts.rd_below ke_2 hb)
      have F_e_sign := Lib.hid ((kS rProof).rd_below (rdProof.2 ⟨_, _, _, _, _, _, _, _, _, rfl, ke_3, ke_4, ke_5⟩ : (kS rProof).rd W (.agg #[.slice ae_3 ne_3 ce_3, .slice ae_4 ne_4 ce_4, .slice ae_5 ne_5 ce_5]) e.sign) hb)
      have J_e_0 := Lib.hid je_0
      have J_e_1 := Lib.hid je_1
      clear je_0 je_1 ke_2 ke_3 ke_4 ke_5
      have hwk : IntKind.i64.wrap ((k : Int) + 1) = (k : Int) + 1 := IntWalk.i64_in _ (by omega)
      (obtain ⟨q4, h_q⟩ : ∃ b_q, decide (0 ≤ e.author ∧ e.author ≤ (nd_0 : Int) - 1) = b_q := ⟨_, rfl⟩); have H4 := Lib.hid h_q; clear h_q
      cases q4 with
      | false =>
        have HNO : Hid (entsB gr d.keys d.entries = false) := range_all_false HK.out (by rw [HGE.out]; unfold entAt; rw [HKL.out, H4.out]; rfl)
        go_wp2_with fail
        obtain ⟨V, hV⟩ : ∃ V, V = wr.alloc (.cells #[.int .i64 e.kind, .int .i64 e.author, .slice ae_2 ne_2 ce_2, .slice ae_3 ne_3 ce_3, .slice ae_4 ne_4 ce_4, .slice ae_5 ne_5 ce_5] 44) := ⟨_, rfl⟩
        rw [← hV]
        have HV : Hid (Below wr.heap.size wr V) := by unfold Hid; rw [hV]; exact (Below.refl _ _).alloc (Nat.le_refl _) _
        have hsV : V.heap.size = wr.heap.size + 1 := by rw [hV]; simp
        have x_e_0 : V.cell? ⟨wr.heap.size, 0, none⟩ = some (.int .i64 e.kind) := by rw [hV]; simp [go_sem]
        have x_e_1 : V.cell? ⟨wr.heap.size, 1, none⟩ = some (.int .i64 e.author) := by rw [hV]; simp [go_sem]
        have x_e_2 : V.cell? ⟨wr.heap.size, 2, none⟩ = some (.slice ae_2 ne_2 ce_2) := by rw [hV]; simp [go_sem]
        have x_e_3 : V.cell? ⟨wr.heap.size, 3, none⟩ = some (.slice ae_3 ne_3 ce_3) := by rw [hV]; simp [go_sem]
        have x_e_4 : V.cell? ⟨wr.heap.size, 4, none⟩ = some (.slice ae_4 ne_4 ce_4) := by rw [hV]; simp [go_sem]
        have x_e_5 : V.cell? ⟨wr.heap.size, 5, none⟩ = some (.slice ae_5 ne_5 ce_5) := by rw [hV]; simp [go_sem]
        have HRV_e := Lib.hid ((kS rEntry).rd_below HR_e.out HV.out)
        clear hV
        have g0 := fun u => grow_cell (box_at p0_0 HV.out) u
        have g1 := fun u => grow_cell (box_at p0_1 HV.out) u
        have g2 := fun u => grow_cell (box_at p0_2 HV.out) u
        have g3 := fun u => grow_cell (box_at p1_0 HV.out) u
        have g4 := fun u => grow_cell x_e_1 u
        (refine wp_region_grow (by kernel_rfl) (by kernel_rfl) ?_; (repeat (go_big_quiet_step ((first | (go_at_call 204; refine calls_grow (impl_within _ _ _ _) (fun e w' h => ⟨by rw [h.1, H4.out], h.2 ▸ Below.refl _ _⟩)) | fail)))); refine wpQuiet_nil ?_; intro _ hw'; obtain ⟨uq, hw''⟩ := hw'; subst hw''; have hbq := grow_below V uq; generalize grow V uq = wq at hbq ⊢)
        go_wp2_with fail
        go_ret
        exact ⟨ret_bool (by first | (rw [HNO.out]; done) | (rw [HNO.out]; rfl) | exact HNO.out.symm), Below.next HWB.out (Below.next hb (Below.next HV.out hbq))⟩
      | true =>
        have z01 := of_decide_eq_true H4.out
        have z0 : 0 ≤ e.author := z01.1
        have z1 : e.author < (nd_0 : Int) := by omega
        obtain ⟨bk, ok, hak, hcx⟩ := (F_d_keys.out : Ints _ _ _).at_ (by omega)
        subst hak
        have hy := box_at (hcx e.author.toNat (by omega)) hb
        have HKY := Lib.hid (keysB_at HKK.out (k := e.author.toNat) (by have := HKL.out; omega))
        have HK63 : Hid ((0 : Int) ≤ (k : Int) ∧ (k : Int) ≤ 63) := ⟨by omega, by omega⟩
        have HEA : Hid (entAt gr d.keys k e = isEntryB gr (nth d.keys e.author.toNat) (k : Int) e) := by unfold Hid entAt; rw [HKL.out, H4.out]; rfl
        clear hcx z01
        generalize nth d.keys e.author.toNat = ky at hy HKY HEA
        (obtain ⟨q5, h_q⟩ : ∃ b_q, isEntryB gr ky (k : Int) e = b_q := ⟨_, rfl⟩); have H5 := Lib.hid h_q; clear h_q
        cases q5 with
        | false =>
          have HNO : Hid (entsB gr d.keys d.entries = false) := range_all_false HK.out (by rw [HGE.out, HEA.out, H5.out])
          go_wp2_with fail
          obtain ⟨V, hV⟩ : ∃ V, V = wr.alloc (.cells #[.int .i64 e.kind, .int .i64 e.author, .slice ae_2 ne_2 ce_2, .slice ae_3 ne_3 ce_3, .slice ae_4 ne_4 ce_4, .slice ae_5 ne_5 ce_5] 44) := ⟨_, rfl⟩
          rw [← hV]
          have HV : Hid (Below wr.heap.size wr V) := by unfold Hid; rw [hV]; exact (Below.refl _ _).alloc (Nat.le_refl _) _
          have hsV : V.heap.size = wr.heap.size + 1 := by rw [hV]; simp
          have x_e_0 : V.cell? ⟨wr.heap.size, 0, none⟩ = some (.int .i64 e.kind) := by rw [hV]; simp [go_sem]
          have x_e_1 : V.cell? ⟨wr.heap.size, 1, none⟩ = some (.int .i64 e.author) := by rw [hV]; simp [go_sem]
          have x_e_2 : V.cell? ⟨wr.heap.size, 2, none⟩ = some (.slice ae_2 ne_2 ce_2) := by rw [hV]; simp [go_sem]
          have x_e_3 : V.cell? ⟨wr.heap.size, 3, none⟩ = some (.slice ae_3 ne_3 ce_3) := by rw [hV]; simp [go_sem]
          have x_e_4 : V.cell? ⟨wr.heap.size, 4, none⟩ = some (.slice ae_4 ne_4 ce_4) := by rw [hV]; simp [go_sem]
          have x_e_5 : V.cell? ⟨wr.heap.size, 5, none⟩ = some (.slice ae_5 ne_5 ce_5) := by rw [hV]; simp [go_sem]
          have HRV_e := Lib.hid ((kS rEntry).rd_below HR_e.out HV.out)
          clear hV
          have g0 := fun u => grow_cell (box_at p0_0 HV.out) u
          have g1 := fun u => grow_cell (box_at p0_1 HV.out) u
          have g2 := fun u => grow_cell (box_at p0_2 HV.out) u
          have g3 := fun u => grow_cell (box_at p1_0 HV.out) u
          have gy := fun u => grow_cell (box_at hy HV.out) u
          have ge0 := fun u => grow_cell x_e_0 u
          have ge1 := fun u => grow_cell x_e_1 u
          have ge2 := fun u => grow_cell x_e_2 u
          have ge3 := fun u => grow_cell x_e_3 u
          have ge4 := fun u => grow_cell x_e_4 u
          have ge5 := fun u => grow_cell x_e_5 u
          (refine wp_region_grow (by kernel_rfl) (by kernel_rfl) ?_; (repeat (go_big_quiet_step ((first | (go_at_call 204; refine calls_grow (impl_within _ _ _ _) (fun e w' h => ⟨by rw [h.1, H4.out], h.2 ▸ Below.refl _ _⟩)) | (go_at_call 306; refine calls_grow (impl_isEntry gr ky (k : Int) _ e _ HG.out HKY.out HK63.out ((kS rEntry).rd_below HRV_e.out (grow_below _ _))) (fun e w' h => ⟨by rw [h.1, H5.out], h.2⟩)) | fail)))); refine wpQuiet_nil ?_; intro _ hw'; obtain ⟨uq, hw''⟩ := hw'; subst hw''; have hbq := grow_below V uq; generalize grow V uq = wq at hbq ⊢)
          go_wp2_with fail
          go_ret
          exact ⟨ret_bool (by first | (rw [HNO.out]; done) | (rw [HNO.out]; rfl) | exact HNO.out.symm), Below.next HWB.out (Below.next hb (Below.next HV.out hbq))⟩
        | true =>
          go_wp2_with fail
          obtain ⟨V, hV⟩ : ∃ V, V = wr.alloc (.cells #[.int .i64 e.kind, .int .i64 e.author, .slice ae_2 ne_2 ce_2, .slice ae_3 ne_3 ce_3, .slice ae_4 ne_4 ce_4, .slice ae_5 ne_5 ce_5] 44) := ⟨_, rfl⟩
          rw [← hV]
          have HV : Hid (Below wr.heap.size wr V) := by unfold Hid; rw [hV]; exact (Below.refl _ _).alloc (Nat.le_refl _) _
          have hsV : V.heap.size = wr.heap.size + 1 := by rw [hV]; simp
          have x_e_0 : V.cell? ⟨wr.heap.size, 0, none⟩ = some (.int .i64 e.kind) := by rw [hV]; simp [go_sem]
          have x_e_1 : V.cell? ⟨wr.heap.size, 1, none⟩ = some (.int .i64 e.author) := by rw [hV]; simp [go_sem]
          have x_e_2 : V.cell? ⟨wr.heap.size, 2, none⟩ = some (.slice ae_2 ne_2 ce_2) := by rw [hV]; simp [go_sem]
          have x_e_3 : V.cell? ⟨wr.heap.size, 3, none⟩ = some (.slice ae_3 ne_3 ce_3) := by rw [hV]; simp [go_sem]
          have x_e_4 : V.cell? ⟨wr.heap.size, 4, none⟩ = some (.slice ae_4 ne_4 ce_4) := by rw [hV]; simp [go_sem]
          have x_e_5 : V.cell? ⟨wr.heap.size, 5, none⟩ = some (.slice ae_5 ne_5 ce_5) := by rw [hV]; simp [go_sem]
          have HRV_e := Lib.hid ((kS rEntry).rd_below HR_e.out HV.out)
          clear hV
          have g0 := fun u => grow_cell (box_at p0_0 HV.out) u
          have g1 := fun u => grow_cell (box_at p0_1 HV.out) u
          have g2 := fun u => grow_cell (box_at p0_2 HV.out) u
          have g3 := fun u => grow_cell (box_at p1_0 HV.out) u
          have gy := fun u => grow_cell (box_at hy HV.out) u
          have ge0 := fun u => grow_cell x_e_0 u
          have ge1 := fun u => grow_cell x_e_1 u
          have ge2 := fun u => grow_cell x_e_2 u
          have ge3 := fun u => grow_cell x_e_3 u
          have ge4 := fun u => grow_cell x_e_4 u
          have ge5 := fun u => grow_cell x_e_5 u
          (refine wp_region_grow (by kernel_rfl) (by kernel_rfl) ?_; (repeat (go_big_quiet_step ((first | (go_at_call 204; refine calls_grow (impl_within _ _ _ _) (fun e w' h => ⟨by rw [h.1, H4.out], h.2 ▸ Below.refl _ _⟩)) | (go_at_call 306; refine calls_grow (impl_isEntry gr ky (k : Int) _ e _ HG.out HKY.out HK63.out ((kS rEntry).rd_below HRV_e.out (grow_below _ _))) (fun e w' h => ⟨by rw [h.1, H5.out], h.2⟩)) | fail)))); refine wpQuiet_nil ?_; intro _ hw'; obtain ⟨uq, hw''⟩ := hw'; subst hw''; have hbq := grow_below V uq; generalize grow V uq = wq at hbq ⊢)
          have HBQ := Lib.hid (Below.next hb (Below.next HV.out hbq))
          clear hbq hb
          go_wp2_with fail
          go_roundg (nd_1 - (k + 1))
          case measure => omega
          case rel =>
            refine ⟨k + 1, by omega, by go_num, fun j hj => ?_, HBQ.out⟩
            rcases Nat.lt_succ_iff_lt_or_eq.1 hj with h | rfl
            · exact HF.out j h
            · rw [HGE.out, HEA.out, H5.out]
    · obtain rfl : nd_1 = k := by omega
      have HA : Hid (entsB gr d.keys d.entries = true) := range_all_true (fun j hj => HF.out j (by have := HE.out; omega))
      go_wp2_with fail
      go_ret
      exact ⟨ret_bool (by first | (rw [HA.out]; done) | (rw [HA.out]; rfl) | exact HA.out.symm), Below.next HWB.out hb⟩
set_option maxRecDepth 100000 in
set_option maxHeartbeats 8000000 in
theorem spec_oBoard_loop (gr : GroupD) (d : BoardD) (v : Value) (w : World) (hg : OkG gr) (h : (kS rBoard).rd w v d) (hkk : keysB gr d.keys = true) (hn64 : d.entries.length ≤ 64) :
    Calls Try.prog 122 #[.agg #[.int .i64 gr.p, .int .i64 gr.q, .int .i64 gr.g], v] w fun e w' => e = .returned (.bool (entsB gr d.keys d.entries)) ∧ Below w.heap.size w w' := by
  have HG := Lib.hid hg; clear hg
  have HKK := Lib.hid hkk; clear hkk
  obtain ⟨ad_0, nd_0, cd_0, ad_1, nd_1, cd_1, rfl, kd_0, kd_1⟩ := rdBoard.1 h
  obtain ⟨W, hW⟩ : ∃ W, W = ((w.alloc (.cells #[.int .i64 gr.p, .int .i64 gr.q, .int .i64 gr.g] 39)).alloc (.cells #[.slice ad_0 nd_0 cd_0, .slice ad_1 nd_1 cd_1] 36)) := ⟨_, rfl⟩
  have HWB : Hid (Below w.heap.size w W) := by unfold Hid; rw [hW]; (repeat (first | exact Below.refl _ _ | assumption | refine Below.drew ?_ | refine Below.alloc ?_ (by first | (simp; done) | (simp; omega)) _ | refine Below.setCell ?_ (by first | (simp; done) | (simp; omega)) _))
  have FX : Hid (∀ W', Below W.heap.size W W' → W'.cell? ⟨w.heap.size, 0, none⟩ = some (.int .i64 gr.p) ∧ W'.cell? ⟨w.heap.size, 1, none⟩ = some (.int .i64 gr.q) ∧ W'.cell? ⟨w.heap.size, 2, none⟩ = some (.int .i64 gr.g) ∧ W'.cell? ⟨w.heap.size + 1, 0, none⟩ = some (.slice ad_0 nd_0 cd_0) ∧ W'.cell? ⟨w.heap.size + 1, 1, none⟩ = some (.slice ad_1 nd_1 cd_1)) := fun W' hb => by
    exact ⟨box_at (by rw [hW]; simp [go_sem]) hb, box_at (by rw [hW]; simp [go_sem]) hb, box_at (by rw [hW]; simp [go_sem]) hb, box_at (by rw [hW]; simp [go_sem]) hb, box_at (by rw [hW]; simp [go_sem]) hb⟩
  have hsW : W.heap.size = w.heap.size + 2 := by rw [hW]; simp
  have Hd := Lib.hid ((kS rBoard).rd_below h HWB.out); clear h
  have F_d_keys := Lib.hid (sInts.rd_below kd_0 HWB.out)
  have F_d_entries := Lib.hid ((kR 44 rEntry).rd_below kd_1 HWB.out)
  clear kd_0 kd_1
  have HW := Lib.hid hW; clear hW
  have hkl := (F_d_keys.out : Ints _ _ _).len
  have hkm := (F_d_keys.out : Ints _ _ _).capMax
  have hel := (F_d_entries.out : RdR _ _ _ _).len
  unfold maxLen at hkm
  have HKL := Lib.hid hkl
  have HE := Lib.hid hel
  have hwr : IntKind.i64.wrap ((nd_0 : Int) - 1) = (nd_0 : Int) - 1 := IntWalk.i64_in _ (by omega)
  have hn : nd_1 ≤ 64 := by omega
  have hk40 : nd_0 ≤ 40 := by have := keysB_len HKK.out; omega
  have HKA : Hid (d.keys.all (elB gr) = true) := by
    have h := HKK.out
    unfold keysB at h
    rw [Bool.and_eq_true] at h; exact h.2
  clear hkl hel hn64
  go_enter Try.func122, Try.ntmps122
  go_wp2_with fail
  rw [← HW.out]
  have hcum : Below W.heap.size W W := Below.refl _ _
  obtain ⟨p0_0, p0_1, p0_2, p1_0, p1_1⟩ := FX.out _ hcum
  refine (spec_gIs gr _ d.keys _ HG.out F_d_keys.out).mono ?_
  rintro e w1 ⟨rfl, hb1⟩
  rw [HKA.out]
  (replace hcum := hcum.trans (hb1.mono hcum.size)); clear hb1; clear p0_0 p0_1 p0_2 p1_0 p1_1; obtain ⟨p0_0, p0_1, p0_2, p1_0, p1_1⟩ := FX.out _ hcum
  have HC := Lib.hid hcum
  go_wp2_with fail
  go_loopg [27] nd_1 (fun g i wr => ∃ k : Nat, k + g = nd_1 ∧ i = .int .i64 k ∧ Hid (∀ j, j < k → entGet gr d.keys d.entries j = true) ∧ Below W.heap.size W wr)
  case atStart => exact ⟨0, by omega, rfl, (fun j hj => by omega), HC.out⟩
  case round =>
    obtain ⟨k, hkg, rfl, HF, hb⟩ := hrel
    clear p0_0 p0_1 p0_2 p1_0 p1_1 HC hcum
    obtain ⟨p0_0, p0_1, p0_2, p1_0, p1_1⟩ := FX.out _ hb
    by_cases hlt : k < nd_1
    · have HK : Hid (k < d.entries.length) := by unfold Hid; rw [HE.out]; exact hlt
      have HGE : Hid (entGet gr d.keys d.entries k = entAt gr d.keys k (d.entries[k]'HK.out)) := entGet_eq HK.out
      obtain ⟨b_e, o_e, rfl, hcx⟩ := F_d_entries.out.at_ (by omega)
      obtain ⟨us, hcell, hrd⟩ := hcx k HK.out
      clear hcx
      generalize d.entries[k]'HK.out = e at hrd HGE
      obtain ⟨ae_2, ne_2, ce_2, ae_3, ne_3, ce_3, ae_4, ne_4, ce_4, ae_5, ne_5, ce_5, ers, je_0, je_1, ke_2, ke_3, ke_4, ke_5⟩ := rdEntry.1 ⟨us, rfl, hrd⟩
      obtain rfl : us = [.int .i64 e.kind, .int .i64 e.author, .slice ae_2 ne_2 ce_2, .slice ae_3 ne_3 ce_3, .slice ae_4 ne_4 ce_4, .slice ae_5 ne_5 ce_5] := by have h := Value.agg.inj ers; simpa using congrArg Array.toList h
      clear ers hrd
      have y_e_0 : wr.cell? ⟨b_e, o_e + k * 6, none⟩ = some (.int .i64 e.kind) := box_at (hcell 0 (by decide)) hb
      have y_e_1 : wr.cell? ⟨b_e, o_e + k * 6 + 1, none⟩ = some (.int .i64 e.author) := box_at (hcell 1 (by decide)) hb
      have y_e_2 : wr.cell? ⟨b_e, o_e + k * 6 + 2, none⟩ = some (.slice ae_2 ne_2 ce_2) := box_at (hcell 2 (by decide)) hb
      have y_e_3 : wr.cell? ⟨b_e, o_e + k * 6 + 3, none⟩ = some (.slice ae_3 ne_3 ce_3) := box_at (hcell 3 (by decide)) hb
      have y_e_4 : wr.cell? ⟨b_e, o_e + k * 6 + 4, none⟩ = some (.slice ae_4 ne_4 ce_4) := box_at (hcell 4 (by decide)) hb
      have y_e_5 : wr.cell? ⟨b_e, o_e + k * 6 + 5, none⟩ = some (.slice ae_5 ne_5 ce_5) := box_at (hcell 5 (by decide)) hb
      clear hcell
      have HR_e := Lib.hid ((kS rEntry).rd_below (rdEntry.2 ⟨_, _, _, _, _, _, _, _, _, _, _, _, rfl, je_0, je_1, ke_2, ke_3, ke_4, ke_5⟩ : (kS rEntry).rd W (.agg #[.int .i64 e.kind, .int .i64 e.author, .slice ae_2 ne_2 ce_2, .slice ae_3 ne_3 ce_3, .slice ae_4 ne_4 ce_4, .slice ae_5 ne_5 ce_5]) e) hb)
      have F_e_data := Lib.hid (sInts.rd_below ke_2 hb)
      have F_e_sign := Lib.hid ((kS rProof).rd_below (rdProof.2 ⟨_, _, _, _, _, _, _, _, _, rfl, ke_3, ke_4, ke_5⟩ : (kS rProof).rd W (.agg #[.slice ae_3 ne_3 ce_3, .slice ae_4 ne_4 ce_4, .slice ae_5 ne_5 ce_5]) e.sign) hb)
      have J_e_0 := Lib.hid je_0
      have J_e_1 := Lib.hid je_1
      clear je_0 je_1 ke_2 ke_3 ke_4 ke_5
      have hwk : IntKind.i64.wrap ((k : Int) + 1) = (k : Int) + 1 := IntWalk.i64_in _ (by omega)
      (obtain ⟨q4, h_q⟩ : ∃ b_q, decide (0 ≤ e.author ∧ e.author ≤ (nd_0 : Int) - 1) = b_q := ⟨_, rfl⟩); have H4 := Lib.hid h_q; clear h_q
      cases q4 with
      | false =>
        have HNO : Hid (entsB gr d.keys d.entries = false) := range_all_false HK.out (by rw [HGE.out]; unfold entAt; rw [HKL.out, H4.out]; rfl)
        go_wp2_with fail
        obtain ⟨V, hV⟩ : ∃ V, V = wr.alloc (.cells #[.int .i64 e.kind, .int .i64 e.author, .slice ae_2 ne_2 ce_2, .slice ae_3 ne_3 ce_3, .slice ae_4 ne_4 ce_4, .slice ae_5 ne_5 ce_5] 44) := ⟨_, rfl⟩
        rw [← hV]
        have HV : Hid (Below wr.heap.size wr V) := by unfold Hid; rw [hV]; exact (Below.refl _ _).alloc (Nat.le_refl _) _
        have hsV : V.heap.size = wr.heap.size + 1 := by rw [hV]; simp
        have x_e_0 : V.cell? ⟨wr.heap.size, 0, none⟩ = some (.int .i64 e.kind) := by rw [hV]; simp [go_sem]
        have x_e_1 : V.cell? ⟨wr.heap.size, 1, none⟩ = some (.int .i64 e.author) := by rw [hV]; simp [go_sem]
        have x_e_2 : V.cell? ⟨wr.heap.size, 2, none⟩ = some (.slice ae_2 ne_2 ce_2) := by rw [hV]; simp [go_sem]
        have x_e_3 : V.cell? ⟨wr.heap.size, 3, none⟩ = some (.slice ae_3 ne_3 ce_3) := by rw [hV]; simp [go_sem]
        have x_e_4 : V.cell? ⟨wr.heap.size, 4, none⟩ = some (.slice ae_4 ne_4 ce_4) := by rw [hV]; simp [go_sem]
        have x_e_5 : V.cell? ⟨wr.heap.size, 5, none⟩ = some (.slice ae_5 ne_5 ce_5) := by rw [hV]; simp [go_sem]
        have HRV_e := Lib.hid ((kS rEntry).rd_below HR_e.out HV.out)
        clear hV
        have g0 := fun u => grow_cell (box_at p0_0 HV.out) u
        have g1 := fun u => grow_cell (box_at p0_1 HV.out) u
        have g2 := fun u => grow_cell (box_at p0_2 HV.out) u
        have g3 := fun u => grow_cell (box_at p1_0 HV.out) u
        have g4 := fun u => grow_cell x_e_1 u
        (refine wp_region_grow (by kernel_rfl) (by kernel_rfl) ?_; (repeat (go_big_quiet_step ((first | (go_at_call 162; refine calls_grow (spec_l1In _ _ _ _) (fun e w' h => ⟨by rw [h.1, H4.out], h.2 ▸ Below.refl _ _⟩)) | fail)))); refine wpQuiet_nil ?_; intro _ hw'; obtain ⟨uq, hw''⟩ := hw'; subst hw''; have hbq := grow_below V uq; generalize grow V uq = wq at hbq ⊢)
        go_wp2_with fail
        go_ret
        exact ⟨ret_bool (by first | (rw [HNO.out]; done) | (rw [HNO.out]; rfl) | exact HNO.out.symm), Below.next HWB.out (Below.next hb (Below.next HV.out hbq))⟩
      | true =>
        have z01 := of_decide_eq_true H4.out
        have z0 : 0 ≤ e.author := z01.1
        have z1 : e.author < (nd_0 : Int) := by omega
        obtain ⟨bk, ok, hak, hcx⟩ := (F_d_keys.out : Ints _ _ _).at_ (by omega)
        subst hak
        have hy := box_at (hcx e.author.toNat (by omega)) hb
        have HKY := Lib.hid (keysB_at HKK.out (k := e.author.toNat) (by have := HKL.out; omega))
        have HK63 : Hid ((0 : Int) ≤ (k : Int) ∧ (k : Int) ≤ 63) := ⟨by omega, by omega⟩
        have HEA : Hid (entAt gr d.keys k e = isEntryB gr (nth d.keys e.author.toNat) (k : Int) e) := by unfold Hid entAt; rw [HKL.out, H4.out]; rfl
        clear hcx z01
        generalize nth d.keys e.author.toNat = ky at hy HKY HEA
        (obtain ⟨q5, h_q⟩ : ∃ b_q, isEntryB gr ky (k : Int) e = b_q := ⟨_, rfl⟩); have H5 := Lib.hid h_q; clear h_q
        cases q5 with
        | false =>
          have HNO : Hid (entsB gr d.keys d.entries = false) := range_all_false HK.out (by rw [HGE.out, HEA.out, H5.out])
          go_wp2_with fail
          obtain ⟨V, hV⟩ : ∃ V, V = wr.alloc (.cells #[.int .i64 e.kind, .int .i64 e.author, .slice ae_2 ne_2 ce_2, .slice ae_3 ne_3 ce_3, .slice ae_4 ne_4 ce_4, .slice ae_5 ne_5 ce_5] 44) := ⟨_, rfl⟩
          rw [← hV]
          have HV : Hid (Below wr.heap.size wr V) := by unfold Hid; rw [hV]; exact (Below.refl _ _).alloc (Nat.le_refl _) _
          have hsV : V.heap.size = wr.heap.size + 1 := by rw [hV]; simp
          have x_e_0 : V.cell? ⟨wr.heap.size, 0, none⟩ = some (.int .i64 e.kind) := by rw [hV]; simp [go_sem]
          have x_e_1 : V.cell? ⟨wr.heap.size, 1, none⟩ = some (.int .i64 e.author) := by rw [hV]; simp [go_sem]
          have x_e_2 : V.cell? ⟨wr.heap.size, 2, none⟩ = some (.slice ae_2 ne_2 ce_2) := by rw [hV]; simp [go_sem]
          have x_e_3 : V.cell? ⟨wr.heap.size, 3, none⟩ = some (.slice ae_3 ne_3 ce_3) := by rw [hV]; simp [go_sem]
          have x_e_4 : V.cell? ⟨wr.heap.size, 4, none⟩ = some (.slice ae_4 ne_4 ce_4) := by rw [hV]; simp [go_sem]
          have x_e_5 : V.cell? ⟨wr.heap.size, 5, none⟩ = some (.slice ae_5 ne_5 ce_5) := by rw [hV]; simp [go_sem]
          have HRV_e := Lib.hid ((kS rEntry).rd_below HR_e.out HV.out)
          clear hV
          have g0 := fun u => grow_cell (box_at p0_0 HV.out) u
          have g1 := fun u => grow_cell (box_at p0_1 HV.out) u
          have g2 := fun u => grow_cell (box_at p0_2 HV.out) u
          have g3 := fun u => grow_cell (box_at p1_0 HV.out) u
          have gy := fun u => grow_cell (box_at hy HV.out) u
          have ge0 := fun u => grow_cell x_e_0 u
          have ge1 := fun u => grow_cell x_e_1 u
          have ge2 := fun u => grow_cell x_e_2 u
          have ge3 := fun u => grow_cell x_e_3 u
          have ge4 := fun u => grow_cell x_e_4 u
          have ge5 := fun u => grow_cell x_e_5 u
          (refine wp_region_grow (by kernel_rfl) (by kernel_rfl) ?_; (repeat (go_big_quiet_step ((first | (go_at_call 162; refine calls_grow (spec_l1In _ _ _ _) (fun e w' h => ⟨by rw [h.1, H4.out], h.2 ▸ Below.refl _ _⟩)) | (go_at_call 250; refine calls_grow (spec_oAccepts gr ky (k : Int) _ e _ HG.out HKY.out HK63.out ((kS rEntry).rd_below HRV_e.out (grow_below _ _))) (fun e w' h => ⟨by rw [h.1, H5.out], h.2⟩)) | fail)))); refine wpQuiet_nil ?_; intro _ hw'; obtain ⟨uq, hw''⟩ := hw'; subst hw''; have hbq := grow_below V uq; generalize grow V uq = wq at hbq ⊢)
          go_wp2_with fail
          go_ret
          exact ⟨ret_bool (by first | (rw [HNO.out]; done) | (rw [HNO.out]; rfl) | exact HNO.out.symm), Below.next HWB.out (Below.next hb (Below.next HV.out hbq))⟩
        | true =>
          go_wp2_with fail
          obtain ⟨V, hV⟩ : ∃ V, V = wr.alloc (.cells #[.int .i64 e.kind, .int .i64 e.author, .slice ae_2 ne_2 ce_2, .slice ae_3 ne_3 ce_3, .slice ae_4 ne_4 ce_4, .slice ae_5 ne_5 ce_5] 44) := ⟨_, rfl⟩
          rw [← hV]
          have HV : Hid (Below wr.heap.size wr V) := by unfold Hid; rw [hV]; exact (Below.refl _ _).alloc (Nat.le_refl _) _
          have hsV : V.heap.size = wr.heap.size + 1 := by rw [hV]; simp
          have x_e_0 : V.cell? ⟨wr.heap.size, 0, none⟩ = some (.int .i64 e.kind) := by rw [hV]; simp [go_sem]
          have x_e_1 : V.cell? ⟨wr.heap.size, 1, none⟩ = some (.int .i64 e.author) := by rw [hV]; simp [go_sem]
          have x_e_2 : V.cell? ⟨wr.heap.size, 2, none⟩ = some (.slice ae_2 ne_2 ce_2) := by rw [hV]; simp [go_sem]
          have x_e_3 : V.cell? ⟨wr.heap.size, 3, none⟩ = some (.slice ae_3 ne_3 ce_3) := by rw [hV]; simp [go_sem]
          have x_e_4 : V.cell? ⟨wr.heap.size, 4, none⟩ = some (.slice ae_4 ne_4 ce_4) := by rw [hV]; simp [go_sem]
          have x_e_5 : V.cell? ⟨wr.heap.size, 5, none⟩ = some (.slice ae_5 ne_5 ce_5) := by rw [hV]; simp [go_sem]
          have HRV_e := Lib.hid ((kS rEntry).rd_below HR_e.out HV.out)
          clear hV
          have g0 := fun u => grow_cell (box_at p0_0 HV.out) u
          have g1 := fun u => grow_cell (box_at p0_1 HV.out) u
          have g2 := fun u => grow_cell (box_at p0_2 HV.out) u
          have g3 := fun u => grow_cell (box_at p1_0 HV.out) u
          have gy := fun u => grow_cell (box_at hy HV.out) u
          have ge0 := fun u => grow_cell x_e_0 u
          have ge1 := fun u => grow_cell x_e_1 u
          have ge2 := fun u => grow_cell x_e_2 u
          have ge3 := fun u => grow_cell x_e_3 u
          have ge4 := fun u => grow_cell x_e_4 u
          have ge5 := fun u => grow_cell x_e_5 u
          (refine wp_region_grow (by kernel_rfl) (by kernel_rfl) ?_; (repeat (go_big_quiet_step ((first | (go_at_call 162; refine calls_grow (spec_l1In _ _ _ _) (fun e w' h => ⟨by rw [h.1, H4.out], h.2 ▸ Below.refl _ _⟩)) | (go_at_call 250; refine calls_grow (spec_oAccepts gr ky (k : Int) _ e _ HG.out HKY.out HK63.out ((kS rEntry).rd_below HRV_e.out (grow_below _ _))) (fun e w' h => ⟨by rw [h.1, H5.out], h.2⟩)) | fail)))); refine wpQuiet_nil ?_; intro _ hw'; obtain ⟨uq, hw''⟩ := hw'; subst hw''; have hbq := grow_below V uq; generalize grow V uq = wq at hbq ⊢)
          have HBQ := Lib.hid (Below.next hb (Below.next HV.out hbq))
          clear hbq hb
          go_wp2_with fail
          go_roundg (nd_1 - (k + 1))
          case measure => omega
          case rel =>
            refine ⟨k + 1, by omega, by go_num, fun j hj => ?_, HBQ.out⟩
            rcases Nat.lt_succ_iff_lt_or_eq.1 hj with h | rfl
            · exact HF.out j h
            · rw [HGE.out, HEA.out, H5.out]
    · obtain rfl : nd_1 = k := by omega
      have HA : Hid (entsB gr d.keys d.entries = true) := range_all_true (fun j hj => HF.out j (by have := HE.out; omega))
      go_wp2_with fail
      go_ret
      exact ⟨ret_bool (by first | (rw [HA.out]; done) | (rw [HA.out]; rfl) | exact HA.out.symm), Below.next HWB.out hb⟩
end Go.Proofs.Ytboahnklilmdpaa
