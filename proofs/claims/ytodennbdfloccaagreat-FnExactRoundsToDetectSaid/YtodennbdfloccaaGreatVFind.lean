/- Walks: the first pair of heads that are evidence of a fork. -/
import Derived.Test.YtodennbdfloccaaGreatVFindP
import Derived.Test.YtodennbdfloccaaGreatVFork2
import Derived.Test.YtodennbdfloccaaGreatMerge2
import Derived.Test.YtodennbdfloccaaGreatRegU
namespace Go.Proofs.YtodennbdfloccaaGreat
open Go.RowKit
set_option linter.unusedSimpArgs false
set_option linter.unusedVariables false

set_option maxRecDepth 100000 in
set_option maxHeartbeats 8000000 in
theorem impl_findFork (gr : GroupD) (keys : List Int) (vk : Value) (hs : List HeadD) (vh : Value) (w : World) (hg : OkG gr) (hkk : keysB gr keys = true) (hk : Ints w vk keys) (hz : smallH hs) (hh : RdR rHead w vh hs) :
    Calls Tryz.prog 56 #[.agg #[.int .i64 gr.p, .int .i64 gr.q, .int .i64 gr.g], vk, vh] w fun e w' => ∃ v', e = .returned (.tuple #[v', .bool (ffB gr keys hs)]) ∧ (kS rForkEvidence).own w' w.heap.size w'.heap.size v' (ffE gr keys hs) ∧ Below w.heap.size w w' := by
  obtain ⟨ak, nk, ck, rfl⟩ := hk.shape
  obtain ⟨ah, n, c, rfl⟩ := hh.shape
  have el := hh.len
  obtain ⟨c1, c2⟩ := hh.capMax
  unfold maxLen at c2
  have HE := Lib.hid el
  have HZ := Lib.hid hz
  have hn6 : n ≤ 1000000 := by have := hz.1; omega
  have HG := Lib.hid hg
  have HKK := Lib.hid hkk
  have HKI := Lib.hid hk; have HH := Lib.hid hh
  clear hk hh hz el hg hkk
  obtain ⟨p, q, g⟩ := gr
  obtain ⟨F, hF⟩ : ∃ F, ffF ⟨p, q, g⟩ keys hs = F := ⟨_, rfl⟩
  have HF : Hid (∀ i j, forkB ⟨p, q, g⟩ keys (hdAt hs i) (hdAt hs j) = F i j) := fun i j => by rw [← hF]; rfl
  have HNO : Hid ((∀ i, i < n → ffRow F n i = none) → ffB ⟨p, q, g⟩ keys hs = false ∧ ffE ⟨p, q, g⟩ keys hs = zForkD) := fun h => ff_none HE.out (by rw [hF]; exact h)
  have HYES : Hid (∀ i j, i + 1 + j < n → F i (i + 1 + j) = true → (∀ j', j' < j → F i (i + 1 + j') = false) → (∀ i', i' < i → ffRow F n i' = none) → ffB ⟨p, q, g⟩ keys hs = true ∧ ffE ⟨p, q, g⟩ keys hs = ⟨hdAt hs i, hdAt hs (i + 1 + j)⟩) :=
    fun i j h1 h2 h3 h4 => ff_some HE.out h1 (by rw [hF]; exact h2) (by rw [hF]; exact h3) (by rw [hF]; exact h4)
  clear hF
  obtain ⟨W, hW⟩ : ∃ W, W = (w.alloc (.cells #[.int .i64 p, .int .i64 q, .int .i64 g] 36)).alloc (.cells #[.int .i64 0, .int .i64 0, .int .i64 0, .slice none 0 0, .slice none 0 0, .slice none 0 0, .int .i64 0, .int .i64 0, .int .i64 0, .slice none 0 0, .slice none 0 0, .slice none 0 0] 58) := ⟨_, rfl⟩
  have HWB : Hid (Below w.heap.size w W) := by unfold Hid; rw [hW]; (repeat (first | exact Below.refl _ _ | assumption | refine Below.drew ?_ | refine Below.alloc ?_ (by first | (simp; done) | (simp; omega)) _ | refine Below.setCell ?_ (by first | (simp; done) | (simp; omega)) _))
  have hsW : W.heap.size = w.heap.size + 2 := by rw [hW]; simp
  have p0 : W.cell? ⟨w.heap.size, 0, none⟩ = some (.int .i64 p) := by rw [hW]; simp [go_sem]
  have p1 : W.cell? ⟨w.heap.size, 1, none⟩ = some (.int .i64 q) := by rw [hW]; simp [go_sem]
  have p2 : W.cell? ⟨w.heap.size, 2, none⟩ = some (.int .i64 g) := by rw [hW]; simp [go_sem]
  have hs1 : (w.alloc (.cells #[.int .i64 p, .int .i64 q, .int .i64 g] 36)).heap.size = w.heap.size + 1 := by simp
  have BR : Hid (BoxN W (w.heap.size + 1) 58 [.int .i64 0, .int .i64 0, .int .i64 0, .slice none 0 0, .slice none 0 0, .slice none 0 0, .int .i64 0, .int .i64 0, .int .i64 0, .slice none 0 0, .slice none 0 0, .slice none 0 0]) := by unfold Hid; rw [hW, ← hs1]; exact BoxN.new _ [.int .i64 0, .int .i64 0, .int .i64 0, .slice none 0 0, .slice none 0 0, .slice none 0 0, .int .i64 0, .int .i64 0, .int .i64 0, .slice none 0 0, .slice none 0 0, .slice none 0 0] _
  have FX : Hid (∀ W', Below W.heap.size W W' → W'.cell? ⟨w.heap.size, 0, none⟩ = some (.int .i64 p) ∧ W'.cell? ⟨w.heap.size, 1, none⟩ = some (.int .i64 q) ∧ W'.cell? ⟨w.heap.size, 2, none⟩ = some (.int .i64 g)) := fun W' hb => ⟨box_at p0 hb, box_at p1 hb, box_at p2 hb⟩
  have HHW : Hid (RdR rHead W (.slice ah n c) hs) := HH.out.below HWB.out
  have HKW : Hid (Ints W (.slice ak nk ck) keys) := HKI.out.below HWB.out
  have hcum : Below W.heap.size W W := Below.refl _ _
  have HSW := Lib.hid hsW
  have HW := Lib.hid hW
  clear hs1 hW hsW
  go_enter Tryz.func56, Tryz.ntmps56
  go_wp2_with fail
  rw [← HW.out]
  go_loopg [14] n (fun gg i wr => ∃ k : Nat, k + gg = n ∧ i = .int .i64 k ∧ Hid (∀ i', i' < k → ffRow F n i' = none) ∧ Below W.heap.size W wr)
  case atStart => exact ⟨0, by omega, rfl, (fun i' h => by omega), hcum⟩
  case round =>
    obtain ⟨k, hkg, rfl, HRow, hb⟩ := hrel
    obtain ⟨wA, rfl⟩ : ∃ u, u = wr := ⟨_, rfl⟩
    clear p0 p1 p2
    obtain ⟨p0, p1, p2⟩ := FX.out _ hb
    by_cases hlt : k < n
    · have HK : Hid (k < hs.length) := by unfold Hid; rw [HE.out]; exact hlt
      have HAK : Hid (hdAt hs k = hs[k]'HK.out) := hdAt_eq HK.out
      have HSA : Hid ((szHead (hs[k]'HK.out) : Int) ≤ 1000000000) := HZ.out.2 _ (List.getElem_mem HK.out)
      obtain ⟨b_a, o_a, rfl, hcx⟩ := HHW.out.at_ (by omega)
      obtain ⟨us, hcell, hrd⟩ := hcx k HK.out
      clear hcx
      generalize hs[k]'HK.out = a at hrd HAK HSA
      obtain ⟨aa_3, na_3, ca_3, aa_4, na_4, ca_4, aa_5, na_5, ca_5, ers, ja_0, ja_1, ja_2, ka_3, ka_4, ka_5⟩ := rdHead.1 ⟨us, rfl, hrd⟩
      obtain rfl : us = [.int .i64 a.author, .int .i64 a.size, .int .i64 a.root, .slice aa_3 na_3 ca_3, .slice aa_4 na_4 ca_4, .slice aa_5 na_5 ca_5] := by have h := Value.agg.inj ers; simpa using congrArg Array.toList h
      clear ers hrd
      have y_a_0 : wA.cell? ⟨b_a, o_a + k * 6, none⟩ = some (.int .i64 a.author) := box_at (hcell 0 (by decide)) hb
      have y_a_1 : wA.cell? ⟨b_a, o_a + k * 6 + 1, none⟩ = some (.int .i64 a.size) := box_at (hcell 1 (by decide)) hb
      have y_a_2 : wA.cell? ⟨b_a, o_a + k * 6 + 2, none⟩ = some (.int .i64 a.root) := box_at (hcell 2 (by decide)) hb
      have y_a_3 : wA.cell? ⟨b_a, o_a + k * 6 + 3, none⟩ = some (.slice aa_3 na_3 ca_3) := box_at (hcell 3 (by decide)) hb
      have y_a_4 : wA.cell? ⟨b_a, o_a + k * 6 + 4, none⟩ = some (.slice aa_4 na_4 ca_4) := box_at (hcell 4 (by decide)) hb
      have y_a_5 : wA.cell? ⟨b_a, o_a + k * 6 + 5, none⟩ = some (.slice aa_5 na_5 ca_5) := box_at (hcell 5 (by decide)) hb
      clear hcell
      have HR_a := Lib.hid ((kS rHead).rd_below (rdHead.2 ⟨_, _, _, _, _, _, _, _, _, rfl, ja_0, ja_1, ja_2, ka_3, ka_4, ka_5⟩ : (kS rHead).rd W (.agg #[.int .i64 a.author, .int .i64 a.size, .int .i64 a.root, .slice aa_3 na_3 ca_3, .slice aa_4 na_4 ca_4, .slice aa_5 na_5 ca_5]) a) hb)
      have F_a_sign := Lib.hid ((kS rProof).rd_below (rdProof.2 ⟨_, _, _, _, _, _, _, _, _, rfl, ka_3, ka_4, ka_5⟩ : (kS rProof).rd W (.agg #[.slice aa_3 na_3 ca_3, .slice aa_4 na_4 ca_4, .slice aa_5 na_5 ca_5]) a.sign) hb)
      have J_a_0 := Lib.hid ja_0
      have J_a_1 := Lib.hid ja_1
      have J_a_2 := Lib.hid ja_2
      clear ja_0 ja_1 ja_2 ka_3 ka_4 ka_5
      clear HK
      have hwk : IntKind.i64.wrap ((k : Int) + 1) = (k : Int) + 1 := IntWalk.i64_in _ (by omega)
      obtain ⟨ad, hsl, hD⟩ := sl_dropH (x := (k : Int) + 1) (k := k + 1) HHW.out (by omega) (by omega)
      have hDl := hD.len
      have HD := Lib.hid hD
      clear hD
      obtain ⟨m, hm⟩ : ∃ m, n - (k + 1) = m := ⟨_, rfl⟩
      obtain ⟨cm, hcm⟩ : ∃ cm, c - (k + 1) = cm := ⟨_, rfl⟩
      obtain ⟨dl, hdl⟩ : ∃ dl, hs.drop (k + 1) = dl := ⟨_, rfl⟩
      rw [hm, hcm] at hsl HD
      rw [hdl] at HD hDl
      rw [hm] at hDl
      have HDE := Lib.hid hDl
      have HDL := Lib.hid hdl
      have hmn : m + (k + 1) = n := by omega
      clear hm hcm hdl hDl
      go_wp2_with fail
      obtain ⟨V, hV⟩ : ∃ V, V = wA.alloc (.cells #[.int .i64 a.author, .int .i64 a.size, .int .i64 a.root, .slice aa_3 na_3 ca_3, .slice aa_4 na_4 ca_4, .slice aa_5 na_5 ca_5] 44) := ⟨_, rfl⟩
      rw [← hV]
      have HV : Hid (Below wA.heap.size wA V) := by unfold Hid; rw [hV]; exact (Below.refl _ _).alloc (Nat.le_refl _) _
      have hsV : V.heap.size = wA.heap.size + 1 := by rw [hV]; simp
      have x_a_0 : V.cell? ⟨wA.heap.size, 0, none⟩ = some (.int .i64 a.author) := by rw [hV]; simp [go_sem]
      have x_a_1 : V.cell? ⟨wA.heap.size, 1, none⟩ = some (.int .i64 a.size) := by rw [hV]; simp [go_sem]
      have x_a_2 : V.cell? ⟨wA.heap.size, 2, none⟩ = some (.int .i64 a.root) := by rw [hV]; simp [go_sem]
      have x_a_3 : V.cell? ⟨wA.heap.size, 3, none⟩ = some (.slice aa_3 na_3 ca_3) := by rw [hV]; simp [go_sem]
      have x_a_4 : V.cell? ⟨wA.heap.size, 4, none⟩ = some (.slice aa_4 na_4 ca_4) := by rw [hV]; simp [go_sem]
      have x_a_5 : V.cell? ⟨wA.heap.size, 5, none⟩ = some (.slice aa_5 na_5 ca_5) := by rw [hV]; simp [go_sem]
      have HRV_a := Lib.hid ((kS rHead).rd_below HR_a.out HV.out)
      clear hV
      have HBV := Lib.hid (Below.next hb HV.out)
      clear p0 p1 p2
      obtain ⟨p0, p1, p2⟩ := FX.out _ HBV.out
      clear hb
      have hwA := HV.out.size
      go_wp2_with fail
      go_loopg [24] m (fun gg i wr => ∃ t : Nat, t + gg = m ∧ i = .int .i64 t ∧ Hid (∀ j', j' < t → F k (k + 1 + j') = false) ∧ Below V.heap.size V wr)
      case atStart => exact ⟨0, by omega, rfl, (fun j' h => by omega), Below.refl _ _⟩
      case round =>
        obtain ⟨t, htg, rfl, HFt, hb⟩ := hrel
        have HBX := Lib.hid (Below.next HBV.out hb)
        clear p0 p1 p2
        obtain ⟨p0, p1, p2⟩ := FX.out _ HBX.out
        replace x_a_0 := box_at x_a_0 hb
        replace x_a_1 := box_at x_a_1 hb
        replace x_a_2 := box_at x_a_2 hb
        replace x_a_3 := box_at x_a_3 hb
        replace x_a_4 := box_at x_a_4 hb
        replace x_a_5 := box_at x_a_5 hb
        have HRA := Lib.hid ((kS rHead).rd_below HRV_a.out hb)
        have HVB := Lib.hid hb
        clear hb
        have hb := HBX.out
        by_cases hlt2 : t < m
        · have HK : Hid (t < dl.length) := by unfold Hid; rw [HDE.out]; exact hlt2
          have hdb : hdAt hs (k + 1 + t) = dl[t]'HK.out := by
            have h1 : k + 1 + t < hs.length := by have := HE.out; omega
            rw [hdAt_eq h1]
            simp only [← HDL.out, List.getElem_drop]
          have HBT := Lib.hid hdb
          have hszb : (szHead (dl[t]'HK.out) : Int) ≤ 1000000000 := by
            rw [← hdb]
            have h1 : k + 1 + t < hs.length := by have := HE.out; omega
            rw [hdAt_eq h1]; exact HZ.out.2 _ (List.getElem_mem h1)
          have HSB := Lib.hid hszb
          clear hdb hszb
          obtain ⟨b_b, o_b, rfl, hcx⟩ := HD.out.at_ (by omega)
          obtain ⟨us, hcell, hrd⟩ := hcx t HK.out
          clear hcx
          generalize dl[t]'HK.out = b at hrd HBT HSB
          obtain ⟨ab_3, nb_3, cb_3, ab_4, nb_4, cb_4, ab_5, nb_5, cb_5, ers, jb_0, jb_1, jb_2, kb_3, kb_4, kb_5⟩ := rdHead.1 ⟨us, rfl, hrd⟩
          obtain rfl : us = [.int .i64 b.author, .int .i64 b.size, .int .i64 b.root, .slice ab_3 nb_3 cb_3, .slice ab_4 nb_4 cb_4, .slice ab_5 nb_5 cb_5] := by have h := Value.agg.inj ers; simpa using congrArg Array.toList h
          clear ers hrd
          have y_b_0 : wr.cell? ⟨b_b, o_b + t * 6, none⟩ = some (.int .i64 b.author) := box_at (hcell 0 (by decide)) hb
          have y_b_1 : wr.cell? ⟨b_b, o_b + t * 6 + 1, none⟩ = some (.int .i64 b.size) := box_at (hcell 1 (by decide)) hb
          have y_b_2 : wr.cell? ⟨b_b, o_b + t * 6 + 2, none⟩ = some (.int .i64 b.root) := box_at (hcell 2 (by decide)) hb
          have y_b_3 : wr.cell? ⟨b_b, o_b + t * 6 + 3, none⟩ = some (.slice ab_3 nb_3 cb_3) := box_at (hcell 3 (by decide)) hb
          have y_b_4 : wr.cell? ⟨b_b, o_b + t * 6 + 4, none⟩ = some (.slice ab_4 nb_4 cb_4) := box_at (hcell 4 (by decide)) hb
          have y_b_5 : wr.cell? ⟨b_b, o_b + t * 6 + 5, none⟩ = some (.slice ab_5 nb_5 cb_5) := box_at (hcell 5 (by decide)) hb
          clear hcell
          have HR_b := Lib.hid ((kS rHead).rd_below (rdHead.2 ⟨_, _, _, _, _, _, _, _, _, rfl, jb_0, jb_1, jb_2, kb_3, kb_4, kb_5⟩ : (kS rHead).rd W (.agg #[.int .i64 b.author, .int .i64 b.size, .int .i64 b.root, .slice ab_3 nb_3 cb_3, .slice ab_4 nb_4 cb_4, .slice ab_5 nb_5 cb_5]) b) hb)
          have F_b_sign := Lib.hid ((kS rProof).rd_below (rdProof.2 ⟨_, _, _, _, _, _, _, _, _, rfl, kb_3, kb_4, kb_5⟩ : (kS rProof).rd W (.agg #[.slice ab_3 nb_3 cb_3, .slice ab_4 nb_4 cb_4, .slice ab_5 nb_5 cb_5]) b.sign) hb)
          have J_b_0 := Lib.hid jb_0
          have J_b_1 := Lib.hid jb_1
          have J_b_2 := Lib.hid jb_2
          clear jb_0 jb_1 jb_2 kb_3 kb_4 kb_5
          have hwt : IntKind.i64.wrap ((t : Int) + 1) = (t : Int) + 1 := IntWalk.i64_in _ (by omega)
          (obtain ⟨q4, h_q⟩ : ∃ b_q, F k (k + 1 + t) = b_q := ⟨_, rfl⟩); have H4 := Lib.hid h_q; clear h_q
          have HFB : Hid (forkB ⟨p, q, g⟩ keys a b = q4) := by
            unfold Hid; rw [← HAK.out, ← HBT.out, HF.out, H4.out]
          clear hb
          have zl0 : w.heap.size < wr.heap.size := World.block_lt_of_cell? _ _ p0
          have zl1 : wA.heap.size < wr.heap.size := World.block_lt_of_cell? _ _ x_a_0
          go_wp2_with fail
          clear zl0 zl1
          obtain ⟨V2, hV⟩ : ∃ V, V = wr.alloc (.cells #[.int .i64 b.author, .int .i64 b.size, .int .i64 b.root, .slice ab_3 nb_3 cb_3, .slice ab_4 nb_4 cb_4, .slice ab_5 nb_5 cb_5] 44) := ⟨_, rfl⟩
          rw [← hV]
          have HV : Hid (Below wr.heap.size wr V2) := by unfold Hid; rw [hV]; exact (Below.refl _ _).alloc (Nat.le_refl _) _
          have hsV : V2.heap.size = wr.heap.size + 1 := by rw [hV]; simp
          have x_b_0 : V2.cell? ⟨wr.heap.size, 0, none⟩ = some (.int .i64 b.author) := by rw [hV]; simp [go_sem]
          have x_b_1 : V2.cell? ⟨wr.heap.size, 1, none⟩ = some (.int .i64 b.size) := by rw [hV]; simp [go_sem]
          have x_b_2 : V2.cell? ⟨wr.heap.size, 2, none⟩ = some (.int .i64 b.root) := by rw [hV]; simp [go_sem]
          have x_b_3 : V2.cell? ⟨wr.heap.size, 3, none⟩ = some (.slice ab_3 nb_3 cb_3) := by rw [hV]; simp [go_sem]
          have x_b_4 : V2.cell? ⟨wr.heap.size, 4, none⟩ = some (.slice ab_4 nb_4 cb_4) := by rw [hV]; simp [go_sem]
          have x_b_5 : V2.cell? ⟨wr.heap.size, 5, none⟩ = some (.slice ab_5 nb_5 cb_5) := by rw [hV]; simp [go_sem]
          have HRV_b := Lib.hid ((kS rHead).rd_below HR_b.out HV.out)
          clear hV
          have HBY := Lib.hid (Below.next HBX.out HV.out)
          have HVC := Lib.hid (Below.next HVB.out HV.out)
          clear p0 p1 p2
          obtain ⟨p0, p1, p2⟩ := FX.out _ HBY.out
          replace x_a_0 := box_at x_a_0 HV.out
          replace x_a_1 := box_at x_a_1 HV.out
          replace x_a_2 := box_at x_a_2 HV.out
          replace x_a_3 := box_at x_a_3 HV.out
          replace x_a_4 := box_at x_a_4 HV.out
          replace x_a_5 := box_at x_a_5 HV.out
          replace HRA := Lib.hid ((kS rHead).rd_below HRA.out HV.out)
          refine (impl_isFork ⟨p, q, g⟩ keys _ _ _ a b _ HG.out HKK.out (HKW.out.below HBY.out) HRA.out HRV_b.out).mono ?_
          rintro ee w3 ⟨rfl, hb3⟩
          rw [HFB.out]
          have HBZ := Lib.hid (Below.next HBY.out hb3)
          clear p0 p1 p2
          obtain ⟨p0, p1, p2⟩ := FX.out _ HBZ.out
          replace x_a_0 := box_at x_a_0 hb3
          replace x_a_1 := box_at x_a_1 hb3
          replace x_a_2 := box_at x_a_2 hb3
          replace x_a_3 := box_at x_a_3 hb3
          replace x_a_4 := box_at x_a_4 hb3
          replace x_a_5 := box_at x_a_5 hb3
          replace x_b_0 := box_at x_b_0 hb3
          replace x_b_1 := box_at x_b_1 hb3
          replace x_b_2 := box_at x_b_2 hb3
          replace x_b_3 := box_at x_b_3 hb3
          replace x_b_4 := box_at x_b_4 hb3
          replace x_b_5 := box_at x_b_5 hb3
          replace HRA := Lib.hid ((kS rHead).rd_below HRA.out hb3)
          have HRB := Lib.hid ((kS rHead).rd_below HRV_b.out hb3)
          have HVW := Lib.hid (Below.next HVC.out hb3)
          clear hb3
          cases q4 with
          | false =>
            have HFT2 : Hid (∀ j', j' < t + 1 → F k (k + 1 + j') = false) := fun j' hj => by
              rcases Nat.lt_succ_iff_lt_or_eq.1 hj with h | rfl
              · exact HFt.out j' h
              · exact H4.out
            go_wp2_with fail
            go_roundg (m - (t + 1))
            case measure => omega
            case rel => exact ⟨t + 1, by omega, by go_num, HFT2.out, HVW.out⟩
          | true =>
            have hyes := HYES.out k t (by omega) H4.out HFt.out HRow.out
            rw [HAK.out, HBT.out] at hyes
            have HYE := Lib.hid hyes
            clear hyes
            go_wp2_with fail
            refine wp_region_noPanic ?_
            refine wp_region_U (fun w' => Below w3.heap.size w3 w' ∧ w'.cell? ⟨wA.heap.size, 0, none⟩ = some (.int .i64 a.author) ∧ w'.cell? ⟨wA.heap.size, 1, none⟩ = some (.int .i64 a.size) ∧ w'.cell? ⟨wA.heap.size, 2, none⟩ = some (.int .i64 a.root) ∧ w'.cell? ⟨wA.heap.size, 3, none⟩ = some (.slice aa_3 na_3 ca_3) ∧ w'.cell? ⟨wA.heap.size, 4, none⟩ = some (.slice aa_4 na_4 ca_4) ∧ w'.cell? ⟨wA.heap.size, 5, none⟩ = some (.slice aa_5 na_5 ca_5) ∧ w'.cell? ⟨wr.heap.size, 0, none⟩ = some (.int .i64 b.author) ∧ w'.cell? ⟨wr.heap.size, 1, none⟩ = some (.int .i64 b.size) ∧ w'.cell? ⟨wr.heap.size, 2, none⟩ = some (.int .i64 b.root) ∧ w'.cell? ⟨wr.heap.size, 3, none⟩ = some (.slice ab_3 nb_3 cb_3) ∧ w'.cell? ⟨wr.heap.size, 4, none⟩ = some (.slice ab_4 nb_4 cb_4) ∧ w'.cell? ⟨wr.heap.size, 5, none⟩ = some (.slice ab_5 nb_5 cb_5)) 12 [.rd 0, .rd 2, .one 1, .one 3, .rd 4] [5, 6] (by kernel_rfl) (by kernel_rfl) rfl (fun _ _ _ _ _ h => h) ⟨(Below.refl _ _).drew, x_a_0, x_a_1, x_a_2, x_a_3, x_a_4, x_a_5, x_b_0, x_b_1, x_b_2, x_b_3, x_b_4, x_b_5⟩ ?_
            simp only [pickU, pickN, List.getElem?_cons_zero, List.getElem?_cons_succ]
            have hbz : Below w3.heap.size w3 w3.drew := (Below.refl _ _).drew
            repeat (refine' wpU_read _ (by rfl) (fun w' hS' => ?_) ?_; rotate_left; · ((try dsimp only at hS'); go_simp; (try with_reducible rfl)); (try simp only [Act.put, List.setIfInBounds_toArray, List.set_cons_zero, List.set_cons_succ]))
            refine wpU_do (by rfl) (fun K hK => ?_)
            go_simp
            go_at_call 93
            refine (impl_copyHead _ a _ HSA.out ((kS rHead).rd_below HRA.out hbz)).mono ?_
            rintro ee w4 ⟨v4, rfl, ho4, hb4⟩
            obtain ⟨a1, m1, c1', a2, m2, c2', a3, m3, c3', rfl, _, _, _, _, _, _⟩ := rdHead.1 ((kS rHead).own_rd ho4)
            have hs3 := hbz.size
            have HO4 : Hid ((kS rHead).own w4 w3.heap.size w4.heap.size (.agg #[.int .i64 a.author, .int .i64 a.size, .int .i64 a.root, .slice a1 m1 c1', .slice a2 m2 c2', .slice a3 m3 c3']) a) := (kS rHead).own_mono ho4 hs3 (Nat.le_refl _)
            replace hbz : Below w3.heap.size w3 w4 := keep_b hb4 hbz
            clear hb4 ho4
            refine hK.out _ _ ⟨hbz, box_at x_a_0 hbz, box_at x_a_1 hbz, box_at x_a_2 hbz, box_at x_a_3 hbz, box_at x_a_4 hbz, box_at x_a_5 hbz, box_at x_b_0 hbz, box_at x_b_1 hbz, box_at x_b_2 hbz, box_at x_b_3 hbz, box_at x_b_4 hbz, box_at x_b_5 hbz⟩ (fun _ => ?_)
            clear hK K
            try simp only [Act.put, List.setIfInBounds_toArray, List.set_cons_zero, List.set_cons_succ]
            refine wpU_do (by rfl) (fun K hK => ?_)
            go_simp
            go_at_call 93
            refine (impl_copyHead _ b _ HSB.out ((kS rHead).rd_below HRB.out hbz)).mono ?_
            rintro ee w5 ⟨v5, rfl, ho5, hb5⟩
            obtain ⟨b1, k1, d1, b2, k2, d2, b3, k3, d3, rfl, _, _, _, _, _, _⟩ := rdHead.1 ((kS rHead).own_rd ho5)
            have HO5 := Lib.hid ho5
            have HO45 := Lib.hid (Kind.next (K := kS rHead) HO4.out hb5)
            have hs4 := hbz.size
            have hs5 := hb5.size
            replace hbz : Below w3.heap.size w3 w5 := keep_b hb5 hbz
            clear hb5 ho5
            refine hK.out _ _ ⟨hbz, box_at x_a_0 hbz, box_at x_a_1 hbz, box_at x_a_2 hbz, box_at x_a_3 hbz, box_at x_a_4 hbz, box_at x_a_5 hbz, box_at x_b_0 hbz, box_at x_b_1 hbz, box_at x_b_2 hbz, box_at x_b_3 hbz, box_at x_b_4 hbz, box_at x_b_5 hbz⟩ (fun _ => ?_)
            clear hK K
            try simp only [Act.put, List.setIfInBounds_toArray, List.set_cons_zero, List.set_cons_succ]
            repeat (refine' wpU_read _ (by rfl) (fun w' hS' => ?_) ?_; rotate_left; · ((try dsimp only at hS'); go_simp; (try with_reducible rfl)); (try simp only [Act.put, List.setIfInBounds_toArray, List.set_cons_zero, List.set_cons_succ]))
            refine wpU_nil ?_
            have HBW := Lib.hid (Below.next HBZ.out hbz)
            have BU := Lib.hid (BR.out.below HBW.out)
            have hsw := HBZ.out.size
            have hsW := HSW.out
            have r0 := BU.out.cell (i := 0) rfl
            have r1 := BU.out.cell (i := 1) rfl
            have r2 := BU.out.cell (i := 2) rfl
            have r3 := BU.out.cell (i := 3) rfl
            have r4 := BU.out.cell (i := 4) rfl
            have r5 := BU.out.cell (i := 5) rfl
            have r6 := BU.out.cell (i := 6) rfl
            have r7 := BU.out.cell (i := 7) rfl
            have r8 := BU.out.cell (i := 8) rfl
            have r9 := BU.out.cell (i := 9) rfl
            have r10 := BU.out.cell (i := 10) rfl
            have r11 := BU.out.cell (i := 11) rfl
            have fr := BU.out.frozen
            clear hbz p0 p1 p2 x_a_0 x_a_1 x_a_2 x_a_3 x_a_4 x_a_5 x_b_0 x_b_1 x_b_2 x_b_3 x_b_4 x_b_5
            go_wp2_with fail
            obtain ⟨Z, hZ⟩ : ∃ Z, Z = ((((((((((((w5.setCell ⟨w.heap.size + 1, 0, none⟩ ((.int .i64 a.author))).setCell ⟨w.heap.size + 1, 1, none⟩ ((.int .i64 a.size))).setCell ⟨w.heap.size + 1, 2, none⟩ ((.int .i64 a.root))).setCell ⟨w.heap.size + 1, 3, none⟩ ((.slice a1 m1 c1'))).setCell ⟨w.heap.size + 1, 4, none⟩ ((.slice a2 m2 c2'))).setCell ⟨w.heap.size + 1, 5, none⟩ ((.slice a3 m3 c3'))).setCell ⟨w.heap.size + 1, 6, none⟩ ((.int .i64 b.author))).setCell ⟨w.heap.size + 1, 7, none⟩ ((.int .i64 b.size))).setCell ⟨w.heap.size + 1, 8, none⟩ ((.int .i64 b.root))).setCell ⟨w.heap.size + 1, 9, none⟩ ((.slice b1 k1 d1))).setCell ⟨w.heap.size + 1, 10, none⟩ ((.slice b2 k2 d2))).setCell ⟨w.heap.size + 1, 11, none⟩ ((.slice b3 k3 d3))) := ⟨_, rfl⟩
            rw [← hZ]
            have hwz : Within (w.heap.size + 1) (w.heap.size + 1 + 1) w5 Z := by rw [hZ]; exact (((((((((((((Within.refl (w.heap.size + 1) (w.heap.size + 1 + 1) w5).setCell (Nat.le_refl _) (Nat.lt_succ_self _) _ _).setCell (Nat.le_refl _) (Nat.lt_succ_self _) _ _).setCell (Nat.le_refl _) (Nat.lt_succ_self _) _ _).setCell (Nat.le_refl _) (Nat.lt_succ_self _) _ _).setCell (Nat.le_refl _) (Nat.lt_succ_self _) _ _).setCell (Nat.le_refl _) (Nat.lt_succ_self _) _ _).setCell (Nat.le_refl _) (Nat.lt_succ_self _) _ _).setCell (Nat.le_refl _) (Nat.lt_succ_self _) _ _).setCell (Nat.le_refl _) (Nat.lt_succ_self _) _ _).setCell (Nat.le_refl _) (Nat.lt_succ_self _) _ _).setCell (Nat.le_refl _) (Nat.lt_succ_self _) _ _).setCell (Nat.le_refl _) (Nat.lt_succ_self _) _ _)
            have hZs : Z.heap.size = w5.heap.size := by rw [hZ]; simp only [size_setC]
            have BZ : BoxN Z (w.heap.size + 1) 58 [(.int .i64 a.author), (.int .i64 a.size), (.int .i64 a.root), (.slice a1 m1 c1'), (.slice a2 m2 c2'), (.slice a3 m3 c3'), (.int .i64 b.author), (.int .i64 b.size), (.int .i64 b.root), (.slice b1 k1 d1), (.slice b2 k2 d2), (.slice b3 k3 d3)] := by rw [hZ]; exact ((((((((((((BU.out.set 0 _).set 1 _).set 2 _).set 3 _).set 4 _).set 5 _).set 6 _).set 7 _).set 8 _).set 9 _).set 10 _).set 11 _)
            clear hZ
            have z0 := BZ.cell (i := 0) rfl
            have z1 := BZ.cell (i := 1) rfl
            have z2 := BZ.cell (i := 2) rfl
            have z3 := BZ.cell (i := 3) rfl
            have z4 := BZ.cell (i := 4) rfl
            have z5 := BZ.cell (i := 5) rfl
            have z6 := BZ.cell (i := 6) rfl
            have z7 := BZ.cell (i := 7) rfl
            have z8 := BZ.cell (i := 8) rfl
            have z9 := BZ.cell (i := 9) rfl
            have z10 := BZ.cell (i := 10) rfl
            have z11 := BZ.cell (i := 11) rfl
            have HOZ : Hid ((kS rForkEvidence).own Z w.heap.size Z.heap.size (.agg #[.int .i64 a.author, .int .i64 a.size, .int .i64 a.root, .slice a1 m1 c1', .slice a2 m2 c2', .slice a3 m3 c3', .int .i64 b.author, .int .i64 b.size, .int .i64 b.root, .slice b1 k1 d1, .slice b2 k2 d2, .slice b3 k3 d3]) ⟨a, b⟩) := own_ev (vs := [.int .i64 a.author, .int .i64 a.size, .int .i64 a.root, .slice a1 m1 c1', .slice a2 m2 c2', .slice a3 m3 c3']) (us := [.int .i64 b.author, .int .i64 b.size, .int .i64 b.root, .slice b1 k1 d1, .slice b2 k2 d2, .slice b3 k3 d3]) (Kind.kept (K := kS rHead) HO45.out hwz (.inr (by omega))) (Kind.kept (K := kS rHead) HO5.out hwz (.inr (by omega))) ⟨by omega, by omega⟩ ⟨by omega, by omega⟩ (.inl (Nat.le_refl _))
            have HZB : Hid (Below w.heap.size w Z) := (Below.next HWB.out HBW.out).trans (hwz.below (B := w.heap.size) (by omega) (by omega))
            clear r0 r1 r2 r3 r4 r5 r6 r7 r8 r9 r10 r11 fr BZ
            refine NoPanic.normal ?_
            go_wp2_with fail
            refine bodyPost_ret (v := .tuple #[.agg #[.int .i64 a.author, .int .i64 a.size, .int .i64 a.root, .slice a1 m1 c1', .slice a2 m2 c2', .slice a3 m3 c3', .int .i64 b.author, .int .i64 b.size, .int .i64 b.root, .slice b1 k1 d1, .slice b2 k2 d2, .slice b3 k3 d3], .bool true]) (by simp [results, Tryz.results56, go_sem, z0, z1, z2, z3, z4, z5, z6, z7, z8, z9, z10, z11]) rfl ⟨_, (by rw [HYE.out.1]), by rw [HYE.out.2]; exact HOZ.out, HZB.out⟩
        · obtain rfl : m = t := by omega
          have HRK : Hid (∀ i', i' < k + 1 → ffRow F n i' = none) := fun i' hi => by
            rcases Nat.lt_succ_iff_lt_or_eq.1 hi with h | rfl
            · exact HRow.out i' h
            · exact ffRow_none fun j hj => HFt.out j (by omega)
          clear x_a_0 x_a_1 x_a_2 x_a_3 x_a_4 x_a_5 hb
          go_wp2_with fail
          go_roundg (n - (k + 1))
          case measure => omega
          case rel => exact ⟨k + 1, by omega, by go_num, HRK.out, HBX.out⟩
    · obtain rfl : n = k := by omega
      have HNN := Lib.hid (HNO.out HRow.out)
      have HBW := Lib.hid hb
      have BU := Lib.hid (BR.out.below hb)
      have hsw := hb.size
      have hsW := HSW.out
      have r0 := BU.out.cell (i := 0) rfl
      have r1 := BU.out.cell (i := 1) rfl
      have r2 := BU.out.cell (i := 2) rfl
      have r3 := BU.out.cell (i := 3) rfl
      have r4 := BU.out.cell (i := 4) rfl
      have r5 := BU.out.cell (i := 5) rfl
      have r6 := BU.out.cell (i := 6) rfl
      have r7 := BU.out.cell (i := 7) rfl
      have r8 := BU.out.cell (i := 8) rfl
      have r9 := BU.out.cell (i := 9) rfl
      have r10 := BU.out.cell (i := 10) rfl
      have r11 := BU.out.cell (i := 11) rfl
      have fr := BU.out.frozen
      clear hb p0 p1 p2
      go_wp2_with fail
      obtain ⟨Z, hZ⟩ : ∃ Z, Z = ((((((((((((wA.setCell ⟨w.heap.size + 1, 0, none⟩ ((.int .i64 0))).setCell ⟨w.heap.size + 1, 1, none⟩ ((.int .i64 0))).setCell ⟨w.heap.size + 1, 2, none⟩ ((.int .i64 0))).setCell ⟨w.heap.size + 1, 3, none⟩ ((.slice none 0 0))).setCell ⟨w.heap.size + 1, 4, none⟩ ((.slice none 0 0))).setCell ⟨w.heap.size + 1, 5, none⟩ ((.slice none 0 0))).setCell ⟨w.heap.size + 1, 6, none⟩ ((.int .i64 0))).setCell ⟨w.heap.size + 1, 7, none⟩ ((.int .i64 0))).setCell ⟨w.heap.size + 1, 8, none⟩ ((.int .i64 0))).setCell ⟨w.heap.size + 1, 9, none⟩ ((.slice none 0 0))).setCell ⟨w.heap.size + 1, 10, none⟩ ((.slice none 0 0))).setCell ⟨w.heap.size + 1, 11, none⟩ ((.slice none 0 0))) := ⟨_, rfl⟩
      rw [← hZ]
      have hwz : Within (w.heap.size + 1) (w.heap.size + 1 + 1) wA Z := by rw [hZ]; exact (((((((((((((Within.refl (w.heap.size + 1) (w.heap.size + 1 + 1) wA).setCell (Nat.le_refl _) (Nat.lt_succ_self _) _ _).setCell (Nat.le_refl _) (Nat.lt_succ_self _) _ _).setCell (Nat.le_refl _) (Nat.lt_succ_self _) _ _).setCell (Nat.le_refl _) (Nat.lt_succ_self _) _ _).setCell (Nat.le_refl _) (Nat.lt_succ_self _) _ _).setCell (Nat.le_refl _) (Nat.lt_succ_self _) _ _).setCell (Nat.le_refl _) (Nat.lt_succ_self _) _ _).setCell (Nat.le_refl _) (Nat.lt_succ_self _) _ _).setCell (Nat.le_refl _) (Nat.lt_succ_self _) _ _).setCell (Nat.le_refl _) (Nat.lt_succ_self _) _ _).setCell (Nat.le_refl _) (Nat.lt_succ_self _) _ _).setCell (Nat.le_refl _) (Nat.lt_succ_self _) _ _)
      have hZs : Z.heap.size = wA.heap.size := by rw [hZ]; simp only [size_setC]
      have BZ : BoxN Z (w.heap.size + 1) 58 [(.int .i64 0), (.int .i64 0), (.int .i64 0), (.slice none 0 0), (.slice none 0 0), (.slice none 0 0), (.int .i64 0), (.int .i64 0), (.int .i64 0), (.slice none 0 0), (.slice none 0 0), (.slice none 0 0)] := by rw [hZ]; exact ((((((((((((BU.out.set 0 _).set 1 _).set 2 _).set 3 _).set 4 _).set 5 _).set 6 _).set 7 _).set 8 _).set 9 _).set 10 _).set 11 _)
      clear hZ
      have z0 := BZ.cell (i := 0) rfl
      have z1 := BZ.cell (i := 1) rfl
      have z2 := BZ.cell (i := 2) rfl
      have z3 := BZ.cell (i := 3) rfl
      have z4 := BZ.cell (i := 4) rfl
      have z5 := BZ.cell (i := 5) rfl
      have z6 := BZ.cell (i := 6) rfl
      have z7 := BZ.cell (i := 7) rfl
      have z8 := BZ.cell (i := 8) rfl
      have z9 := BZ.cell (i := 9) rfl
      have z10 := BZ.cell (i := 10) rfl
      have z11 := BZ.cell (i := 11) rfl
      have HOZ := Lib.hid (own_zev Z w.heap.size Z.heap.size (by omega))
      have HZB : Hid (Below w.heap.size w Z) := (Below.next HWB.out HBW.out).trans (hwz.below (B := w.heap.size) (by omega) (by omega))
      clear r0 r1 r2 r3 r4 r5 r6 r7 r8 r9 r10 r11 fr BZ
      go_wp2_with fail
      refine bodyPost_ret (v := .tuple #[.agg #[.int .i64 0, .int .i64 0, .int .i64 0, .slice none 0 0, .slice none 0 0, .slice none 0 0, .int .i64 0, .int .i64 0, .int .i64 0, .slice none 0 0, .slice none 0 0, .slice none 0 0], .bool false]) (by simp [results, Tryz.results56, go_sem, z0, z1, z2, z3, z4, z5, z6, z7, z8, z9, z10, z11]) rfl ⟨_, (by rw [HNN.out.1]), by rw [HNN.out.2]; exact HOZ.out, HZB.out⟩
set_option maxRecDepth 100000 in
set_option maxHeartbeats 8000000 in
theorem spec_fFind (gr : GroupD) (keys : List Int) (vk : Value) (hs : List HeadD) (vh : Value) (w : World) (hg : OkG gr) (hkk : keysB gr keys = true) (hk : Ints w vk keys) (hz : smallH hs) (hh : RdR rHead w vh hs) :
    Calls Tryz.prog 53 #[.agg #[.int .i64 gr.p, .int .i64 gr.q, .int .i64 gr.g], vk, vh] w fun e w' => ∃ v', e = .returned (.tuple #[v', .bool (ffB gr keys hs)]) ∧ (kS rForkEvidence).own w' w.heap.size w'.heap.size v' (ffE gr keys hs) ∧ Below w.heap.size w w' := by
  obtain ⟨ak, nk, ck, rfl⟩ := hk.shape
  obtain ⟨ah, n, c, rfl⟩ := hh.shape
  have el := hh.len
  obtain ⟨c1, c2⟩ := hh.capMax
  unfold maxLen at c2
  have HE := Lib.hid el
  have HZ := Lib.hid hz
  have hn6 : n ≤ 1000000 := by have := hz.1; omega
  have HG := Lib.hid hg
  have HKK := Lib.hid hkk
  have HKI := Lib.hid hk; have HH := Lib.hid hh
  clear hk hh hz el hg hkk
  obtain ⟨p, q, g⟩ := gr
  obtain ⟨F, hF⟩ : ∃ F, ffF ⟨p, q, g⟩ keys hs = F := ⟨_, rfl⟩
  have HF : Hid (∀ i j, forkB ⟨p, q, g⟩ keys (hdAt hs i) (hdAt hs j) = F i j) := fun i j => by rw [← hF]; rfl
  have HNO : Hid ((∀ i, i < n → ffRow F n i = none) → ffB ⟨p, q, g⟩ keys hs = false ∧ ffE ⟨p, q, g⟩ keys hs = zForkD) := fun h => ff_none HE.out (by rw [hF]; exact h)
  have HYES : Hid (∀ i j, i + 1 + j < n → F i (i + 1 + j) = true → (∀ j', j' < j → F i (i + 1 + j') = false) → (∀ i', i' < i → ffRow F n i' = none) → ffB ⟨p, q, g⟩ keys hs = true ∧ ffE ⟨p, q, g⟩ keys hs = ⟨hdAt hs i, hdAt hs (i + 1 + j)⟩) :=
    fun i j h1 h2 h3 h4 => ff_some HE.out h1 (by rw [hF]; exact h2) (by rw [hF]; exact h3) (by rw [hF]; exact h4)
  clear hF
  obtain ⟨W, hW⟩ : ∃ W, W = (w.alloc (.cells #[.int .i64 p, .int .i64 q, .int .i64 g] 36)).alloc (.cells #[.int .i64 0, .int .i64 0, .int .i64 0, .slice none 0 0, .slice none 0 0, .slice none 0 0, .int .i64 0, .int .i64 0, .int .i64 0, .slice none 0 0, .slice none 0 0, .slice none 0 0] 58) := ⟨_, rfl⟩
  have HWB : Hid (Below w.heap.size w W) := by unfold Hid; rw [hW]; (repeat (first | exact Below.refl _ _ | assumption | refine Below.drew ?_ | refine Below.alloc ?_ (by first | (simp; done) | (simp; omega)) _ | refine Below.setCell ?_ (by first | (simp; done) | (simp; omega)) _))
  have hsW : W.heap.size = w.heap.size + 2 := by rw [hW]; simp
  have p0 : W.cell? ⟨w.heap.size, 0, none⟩ = some (.int .i64 p) := by rw [hW]; simp [go_sem]
  have p1 : W.cell? ⟨w.heap.size, 1, none⟩ = some (.int .i64 q) := by rw [hW]; simp [go_sem]
  have p2 : W.cell? ⟨w.heap.size, 2, none⟩ = some (.int .i64 g) := by rw [hW]; simp [go_sem]
  have hs1 : (w.alloc (.cells #[.int .i64 p, .int .i64 q, .int .i64 g] 36)).heap.size = w.heap.size + 1 := by simp
  have BR : Hid (BoxN W (w.heap.size + 1) 58 [.int .i64 0, .int .i64 0, .int .i64 0, .slice none 0 0, .slice none 0 0, .slice none 0 0, .int .i64 0, .int .i64 0, .int .i64 0, .slice none 0 0, .slice none 0 0, .slice none 0 0]) := by unfold Hid; rw [hW, ← hs1]; exact BoxN.new _ [.int .i64 0, .int .i64 0, .int .i64 0, .slice none 0 0, .slice none 0 0, .slice none 0 0, .int .i64 0, .int .i64 0, .int .i64 0, .slice none 0 0, .slice none 0 0, .slice none 0 0] _
  have FX : Hid (∀ W', Below W.heap.size W W' → W'.cell? ⟨w.heap.size, 0, none⟩ = some (.int .i64 p) ∧ W'.cell? ⟨w.heap.size, 1, none⟩ = some (.int .i64 q) ∧ W'.cell? ⟨w.heap.size, 2, none⟩ = some (.int .i64 g)) := fun W' hb => ⟨box_at p0 hb, box_at p1 hb, box_at p2 hb⟩
  have HHW : Hid (RdR rHead W (.slice ah n c) hs) := HH.out.below HWB.out
  have HKW : Hid (Ints W (.slice ak nk ck) keys) := HKI.out.below HWB.out
  have hcum : Below W.heap.size W W := Below.refl _ _
  have HSW := Lib.hid hsW
  have HW := Lib.hid hW
  clear hs1 hW hsW
  go_enter Tryz.func53, Tryz.ntmps53
  go_wp2_with fail
  rw [← HW.out]
  go_loopg [15] n (fun gg i wr => ∃ k : Nat, k + gg = n ∧ i = .int .i64 k ∧ Hid (∀ i', i' < k → ffRow F n i' = none) ∧ Below W.heap.size W wr)
  case atStart => exact ⟨0, by omega, rfl, (fun i' h => by omega), hcum⟩
  case round =>
    obtain ⟨k, hkg, rfl, HRow, hb⟩ := hrel
    obtain ⟨wA, rfl⟩ : ∃ u, u = wr := ⟨_, rfl⟩
    clear p0 p1 p2
    obtain ⟨p0, p1, p2⟩ := FX.out _ hb
    by_cases hlt : k < n
    · have HK : Hid (k < hs.length) := by unfold Hid; rw [HE.out]; exact hlt
      have HAK : Hid (hdAt hs k = hs[k]'HK.out) := hdAt_eq HK.out
      have HSA : Hid ((szHead (hs[k]'HK.out) : Int) ≤ 1000000000) := HZ.out.2 _ (List.getElem_mem HK.out)
      obtain ⟨b_a, o_a, rfl, hcx⟩ := HHW.out.at_ (by omega)
      obtain ⟨us, hcell, hrd⟩ := hcx k HK.out
      clear hcx
      generalize hs[k]'HK.out = a at hrd HAK HSA
      obtain ⟨aa_3, na_3, ca_3, aa_4, na_4, ca_4, aa_5, na_5, ca_5, ers, ja_0, ja_1, ja_2, ka_3, ka_4, ka_5⟩ := rdHead.1 ⟨us, rfl, hrd⟩
      obtain rfl : us = [.int .i64 a.author, .int .i64 a.size, .int .i64 a.root, .slice aa_3 na_3 ca_3, .slice aa_4 na_4 ca_4, .slice aa_5 na_5 ca_5] := by have h := Value.agg.inj ers; simpa using congrArg Array.toList h
      clear ers hrd
      have y_a_0 : wA.cell? ⟨b_a, o_a + k * 6, none⟩ = some (.int .i64 a.author) := box_at (hcell 0 (by decide)) hb
      have y_a_1 : wA.cell? ⟨b_a, o_a + k * 6 + 1, none⟩ = some (.int .i64 a.size) := box_at (hcell 1 (by decide)) hb
      have y_a_2 : wA.cell? ⟨b_a, o_a + k * 6 + 2, none⟩ = some (.int .i64 a.root) := box_at (hcell 2 (by decide)) hb
      have y_a_3 : wA.cell? ⟨b_a, o_a + k * 6 + 3, none⟩ = some (.slice aa_3 na_3 ca_3) := box_at (hcell 3 (by decide)) hb
      have y_a_4 : wA.cell? ⟨b_a, o_a + k * 6 + 4, none⟩ = some (.slice aa_4 na_4 ca_4) := box_at (hcell 4 (by decide)) hb
      have y_a_5 : wA.cell? ⟨b_a, o_a + k * 6 + 5, none⟩ = some (.slice aa_5 na_5 ca_5) := box_at (hcell 5 (by decide)) hb
      clear hcell
      have HR_a := Lib.hid ((kS rHead).rd_below (rdHead.2 ⟨_, _, _, _, _, _, _, _, _, rfl, ja_0, ja_1, ja_2, ka_3, ka_4, ka_5⟩ : (kS rHead).rd W (.agg #[.int .i64 a.author, .int .i64 a.size, .int .i64 a.root, .slice aa_3 na_3 ca_3, .slice aa_4 na_4 ca_4, .slice aa_5 na_5 ca_5]) a) hb)
      have F_a_sign := Lib.hid ((kS rProof).rd_below (rdProof.2 ⟨_, _, _, _, _, _, _, _, _, rfl, ka_3, ka_4, ka_5⟩ : (kS rProof).rd W (.agg #[.slice aa_3 na_3 ca_3, .slice aa_4 na_4 ca_4, .slice aa_5 na_5 ca_5]) a.sign) hb)
      have J_a_0 := Lib.hid ja_0
      have J_a_1 := Lib.hid ja_1
      have J_a_2 := Lib.hid ja_2
      clear ja_0 ja_1 ja_2 ka_3 ka_4 ka_5
      clear HK
      have hwk : IntKind.i64.wrap ((k : Int) + 1) = (k : Int) + 1 := IntWalk.i64_in _ (by omega)
      obtain ⟨ad, hsl, hD⟩ := sl_dropH (x := (k : Int) + 1) (k := k + 1) HHW.out (by omega) (by omega)
      have hDl := hD.len
      have HD := Lib.hid hD
      clear hD
      obtain ⟨m, hm⟩ : ∃ m, n - (k + 1) = m := ⟨_, rfl⟩
      obtain ⟨cm, hcm⟩ : ∃ cm, c - (k + 1) = cm := ⟨_, rfl⟩
      obtain ⟨dl, hdl⟩ : ∃ dl, hs.drop (k + 1) = dl := ⟨_, rfl⟩
      rw [hm, hcm] at hsl HD
      rw [hdl] at HD hDl
      rw [hm] at hDl
      have HDE := Lib.hid hDl
      have HDL := Lib.hid hdl
      have hmn : m + (k + 1) = n := by omega
      clear hm hcm hdl hDl
      go_wp2_with fail
      obtain ⟨V, hV⟩ : ∃ V, V = wA.alloc (.cells #[.int .i64 a.author, .int .i64 a.size, .int .i64 a.root, .slice aa_3 na_3 ca_3, .slice aa_4 na_4 ca_4, .slice aa_5 na_5 ca_5] 44) := ⟨_, rfl⟩
      rw [← hV]
      have HV : Hid (Below wA.heap.size wA V) := by unfold Hid; rw [hV]; exact (Below.refl _ _).alloc (Nat.le_refl _) _
      have hsV : V.heap.size = wA.heap.size + 1 := by rw [hV]; simp
      have x_a_0 : V.cell? ⟨wA.heap.size, 0, none⟩ = some (.int .i64 a.author) := by rw [hV]; simp [go_sem]
      have x_a_1 : V.cell? ⟨wA.heap.size, 1, none⟩ = some (.int .i64 a.size) := by rw [hV]; simp [go_sem]
      have x_a_2 : V.cell? ⟨wA.heap.size, 2, none⟩ = some (.int .i64 a.root) := by rw [hV]; simp [go_sem]
      have x_a_3 : V.cell? ⟨wA.heap.size, 3, none⟩ = some (.slice aa_3 na_3 ca_3) := by rw [hV]; simp [go_sem]
      have x_a_4 : V.cell? ⟨wA.heap.size, 4, none⟩ = some (.slice aa_4 na_4 ca_4) := by rw [hV]; simp [go_sem]
      have x_a_5 : V.cell? ⟨wA.heap.size, 5, none⟩ = some (.slice aa_5 na_5 ca_5) := by rw [hV]; simp [go_sem]
      have HRV_a := Lib.hid ((kS rHead).rd_below HR_a.out HV.out)
      clear hV
      have HBV := Lib.hid (Below.next hb HV.out)
      clear p0 p1 p2
      obtain ⟨p0, p1, p2⟩ := FX.out _ HBV.out
      clear hb
      have hwA := HV.out.size
      go_wp2_with fail
      go_loopg [25] m (fun gg i wr => ∃ t : Nat, t + gg = m ∧ i = .int .i64 t ∧ Hid (∀ j', j' < t → F k (k + 1 + j') = false) ∧ Below V.heap.size V wr)
      case atStart => exact ⟨0, by omega, rfl, (fun j' h => by omega), Below.refl _ _⟩
      case round =>
        obtain ⟨t, htg, rfl, HFt, hb⟩ := hrel
        have HBX := Lib.hid (Below.next HBV.out hb)
        clear p0 p1 p2
        obtain ⟨p0, p1, p2⟩ := FX.out _ HBX.out
        replace x_a_0 := box_at x_a_0 hb
        replace x_a_1 := box_at x_a_1 hb
        replace x_a_2 := box_at x_a_2 hb
        replace x_a_3 := box_at x_a_3 hb
        replace x_a_4 := box_at x_a_4 hb
        replace x_a_5 := box_at x_a_5 hb
        have HRA := Lib.hid ((kS rHead).rd_below HRV_a.out hb)
        have HVB := Lib.hid hb
        clear hb
        have hb := HBX.out
        by_cases hlt2 : t < m
        · have HK : Hid (t < dl.length) := by unfold Hid; rw [HDE.out]; exact hlt2
          have hdb : hdAt hs (k + 1 + t) = dl[t]'HK.out := by
            have h1 : k + 1 + t < hs.length := by have := HE.out; omega
            rw [hdAt_eq h1]
            simp only [← HDL.out, List.getElem_drop]
          have HBT := Lib.hid hdb
          have hszb : (szHead (dl[t]'HK.out) : Int) ≤ 1000000000 := by
            rw [← hdb]
            have h1 : k + 1 + t < hs.length := by have := HE.out; omega
            rw [hdAt_eq h1]; exact HZ.out.2 _ (List.getElem_mem h1)
          have HSB := Lib.hid hszb
          clear hdb hszb
          obtain ⟨b_b, o_b, rfl, hcx⟩ := HD.out.at_ (by omega)
          obtain ⟨us, hcell, hrd⟩ := hcx t HK.out
          clear hcx
          generalize dl[t]'HK.out = b at hrd HBT HSB
          obtain ⟨ab_3, nb_3, cb_3, ab_4, nb_4, cb_4, ab_5, nb_5, cb_5, ers, jb_0, jb_1, jb_2, kb_3, kb_4, kb_5⟩ := rdHead.1 ⟨us, rfl, hrd⟩
          obtain rfl : us = [.int .i64 b.author, .int .i64 b.size, .int .i64 b.root, .slice ab_3 nb_3 cb_3, .slice ab_4 nb_4 cb_4, .slice ab_5 nb_5 cb_5] := by have h := Value.agg.inj ers; simpa using congrArg Array.toList h
          clear ers hrd
          have y_b_0 : wr.cell? ⟨b_b, o_b + t * 6, none⟩ = some (.int .i64 b.author) := box_at (hcell 0 (by decide)) hb
          have y_b_1 : wr.cell? ⟨b_b, o_b + t * 6 + 1, none⟩ = some (.int .i64 b.size) := box_at (hcell 1 (by decide)) hb
          have y_b_2 : wr.cell? ⟨b_b, o_b + t * 6 + 2, none⟩ = some (.int .i64 b.root) := box_at (hcell 2 (by decide)) hb
          have y_b_3 : wr.cell? ⟨b_b, o_b + t * 6 + 3, none⟩ = some (.slice ab_3 nb_3 cb_3) := box_at (hcell 3 (by decide)) hb
          have y_b_4 : wr.cell? ⟨b_b, o_b + t * 6 + 4, none⟩ = some (.slice ab_4 nb_4 cb_4) := box_at (hcell 4 (by decide)) hb
          have y_b_5 : wr.cell? ⟨b_b, o_b + t * 6 + 5, none⟩ = some (.slice ab_5 nb_5 cb_5) := box_at (hcell 5 (by decide)) hb
          clear hcell
          have HR_b := Lib.hid ((kS rHead).rd_below (rdHead.2 ⟨_, _, _, _, _, _, _, _, _, rfl, jb_0, jb_1, jb_2, kb_3, kb_4, kb_5⟩ : (kS rHead).rd W (.agg #[.int .i64 b.author, .int .i64 b.size, .int .i64 b.root, .slice ab_3 nb_3 cb_3, .slice ab_4 nb_4 cb_4, .slice ab_5 nb_5 cb_5]) b) hb)
          have F_b_sign := Lib.hid ((kS rProof).rd_below (rdProof.2 ⟨_, _, _, _, _, _, _, _, _, rfl, kb_3, kb_4, kb_5⟩ : (kS rProof).rd W (.agg #[.slice ab_3 nb_3 cb_3, .slice ab_4 nb_4 cb_4, .slice ab_5 nb_5 cb_5]) b.sign) hb)
          have J_b_0 := Lib.hid jb_0
          have J_b_1 := Lib.hid jb_1
          have J_b_2 := Lib.hid jb_2
          clear jb_0 jb_1 jb_2 kb_3 kb_4 kb_5
          have hwt : IntKind.i64.wrap ((t : Int) + 1) = (t : Int) + 1 := IntWalk.i64_in _ (by omega)
          (obtain ⟨q4, h_q⟩ : ∃ b_q, F k (k + 1 + t) = b_q := ⟨_, rfl⟩); have H4 := Lib.hid h_q; clear h_q
          have HFB : Hid (forkB ⟨p, q, g⟩ keys a b = q4) := by
            unfold Hid; rw [← HAK.out, ← HBT.out, HF.out, H4.out]
          clear hb
          have zl0 : w.heap.size < wr.heap.size := World.block_lt_of_cell? _ _ p0
          have zl1 : wA.heap.size < wr.heap.size := World.block_lt_of_cell? _ _ x_a_0
          go_wp2_with fail
          clear zl0 zl1
          obtain ⟨V2, hV⟩ : ∃ V, V = wr.alloc (.cells #[.int .i64 b.author, .int .i64 b.size, .int .i64 b.root, .slice ab_3 nb_3 cb_3, .slice ab_4 nb_4 cb_4, .slice ab_5 nb_5 cb_5] 44) := ⟨_, rfl⟩
          rw [← hV]
          have HV : Hid (Below wr.heap.size wr V2) := by unfold Hid; rw [hV]; exact (Below.refl _ _).alloc (Nat.le_refl _) _
          have hsV : V2.heap.size = wr.heap.size + 1 := by rw [hV]; simp
          have x_b_0 : V2.cell? ⟨wr.heap.size, 0, none⟩ = some (.int .i64 b.author) := by rw [hV]; simp [go_sem]
          have x_b_1 : V2.cell? ⟨wr.heap.size, 1, none⟩ = some (.int .i64 b.size) := by rw [hV]; simp [go_sem]
          have x_b_2 : V2.cell? ⟨wr.heap.size, 2, none⟩ = some (.int .i64 b.root) := by rw [hV]; simp [go_sem]
          have x_b_3 : V2.cell? ⟨wr.heap.size, 3, none⟩ = some (.slice ab_3 nb_3 cb_3) := by rw [hV]; simp [go_sem]
          have x_b_4 : V2.cell? ⟨wr.heap.size, 4, none⟩ = some (.slice ab_4 nb_4 cb_4) := by rw [hV]; simp [go_sem]
          have x_b_5 : V2.cell? ⟨wr.heap.size, 5, none⟩ = some (.slice ab_5 nb_5 cb_5) := by rw [hV]; simp [go_sem]
          have HRV_b := Lib.hid ((kS rHead).rd_below HR_b.out HV.out)
          clear hV
          have HBY := Lib.hid (Below.next HBX.out HV.out)
          have HVC := Lib.hid (Below.next HVB.out HV.out)
          clear p0 p1 p2
          obtain ⟨p0, p1, p2⟩ := FX.out _ HBY.out
          replace x_a_0 := box_at x_a_0 HV.out
          replace x_a_1 := box_at x_a_1 HV.out
          replace x_a_2 := box_at x_a_2 HV.out
          replace x_a_3 := box_at x_a_3 HV.out
          replace x_a_4 := box_at x_a_4 HV.out
          replace x_a_5 := box_at x_a_5 HV.out
          replace HRA := Lib.hid ((kS rHead).rd_below HRA.out HV.out)
          obtain ⟨V3, hV3⟩ : ∃ V3, V3 = V2.alloc (.cells #[.int .i64 a.author, .int .i64 a.size, .int .i64 a.root, .slice aa_3 na_3 ca_3, .slice aa_4 na_4 ca_4, .slice aa_5 na_5 ca_5, .int .i64 b.author, .int .i64 b.size, .int .i64 b.root, .slice ab_3 nb_3 cb_3, .slice ab_4 nb_4 cb_4, .slice ab_5 nb_5 cb_5] 58) := ⟨_, rfl⟩
          rw [← hV3]
          have hv3 : Below V2.heap.size V2 V3 := by rw [hV3]; exact (Below.refl _ _).alloc (Nat.le_refl _) _
          replace HBY := Lib.hid (Below.next HBY.out hv3)
          replace HVC := Lib.hid (Below.next HVC.out hv3)
          clear p0 p1 p2
          obtain ⟨p0, p1, p2⟩ := FX.out _ HBY.out
          replace x_a_0 := box_at x_a_0 hv3
          replace x_a_1 := box_at x_a_1 hv3
          replace x_a_2 := box_at x_a_2 hv3
          replace x_a_3 := box_at x_a_3 hv3
          replace x_a_4 := box_at x_a_4 hv3
          replace x_a_5 := box_at x_a_5 hv3
          replace x_b_0 := box_at x_b_0 hv3
          replace x_b_1 := box_at x_b_1 hv3
          replace x_b_2 := box_at x_b_2 hv3
          replace x_b_3 := box_at x_b_3 hv3
          replace x_b_4 := box_at x_b_4 hv3
          replace x_b_5 := box_at x_b_5 hv3
          replace HRA := Lib.hid ((kS rHead).rd_below HRA.out hv3)
          replace HRV_b := Lib.hid ((kS rHead).rd_below HRV_b.out hv3)
          have HREV : Hid ((kS rForkEvidence).rd V3 (.agg #[.int .i64 a.author, .int .i64 a.size, .int .i64 a.root, .slice aa_3 na_3 ca_3, .slice aa_4 na_4 ca_4, .slice aa_5 na_5 ca_5, .int .i64 b.author, .int .i64 b.size, .int .i64 b.root, .slice ab_3 nb_3 cb_3, .slice ab_4 nb_4 cb_4, .slice ab_5 nb_5 cb_5]) ⟨a, b⟩) := by
            obtain ⟨u1, e1, r1⟩ := HRA.out
            obtain ⟨u2, e2, r2⟩ := HRV_b.out
            obtain rfl : u1 = _ := by have h := Value.agg.inj e1; exact (congrArg Array.toList h).symm
            obtain rfl : u2 = _ := by have h := Value.agg.inj e2; exact (congrArg Array.toList h).symm
            exact ⟨_, rfl, ⟨_, _, rfl, r1, r2⟩⟩
          obtain ⟨q0, hq0⟩ : ∃ u, u = V2.heap.size := ⟨_, rfl⟩
          have y0 : V3.cell? ⟨V2.heap.size, 0, none⟩ = some (.int .i64 a.author) := by rw [hV3]; simp [go_sem]
          have y1 : V3.cell? ⟨V2.heap.size, 1, none⟩ = some (.int .i64 a.size) := by rw [hV3]; simp [go_sem]
          have y2 : V3.cell? ⟨V2.heap.size, 2, none⟩ = some (.int .i64 a.root) := by rw [hV3]; simp [go_sem]
          have y3 : V3.cell? ⟨V2.heap.size, 3, none⟩ = some (.slice aa_3 na_3 ca_3) := by rw [hV3]; simp [go_sem]
          have y4 : V3.cell? ⟨V2.heap.size, 4, none⟩ = some (.slice aa_4 na_4 ca_4) := by rw [hV3]; simp [go_sem]
          have y5 : V3.cell? ⟨V2.heap.size, 5, none⟩ = some (.slice aa_5 na_5 ca_5) := by rw [hV3]; simp [go_sem]
          have y6 : V3.cell? ⟨V2.heap.size, 6, none⟩ = some (.int .i64 b.author) := by rw [hV3]; simp [go_sem]
          have y7 : V3.cell? ⟨V2.heap.size, 7, none⟩ = some (.int .i64 b.size) := by rw [hV3]; simp [go_sem]
          have y8 : V3.cell? ⟨V2.heap.size, 8, none⟩ = some (.int .i64 b.root) := by rw [hV3]; simp [go_sem]
          have y9 : V3.cell? ⟨V2.heap.size, 9, none⟩ = some (.slice ab_3 nb_3 cb_3) := by rw [hV3]; simp [go_sem]
          have y10 : V3.cell? ⟨V2.heap.size, 10, none⟩ = some (.slice ab_4 nb_4 cb_4) := by rw [hV3]; simp [go_sem]
          have y11 : V3.cell? ⟨V2.heap.size, 11, none⟩ = some (.slice ab_5 nb_5 cb_5) := by rw [hV3]; simp [go_sem]
          clear hV3 hv3
          refine (spec_fEvidence ⟨p, q, g⟩ keys _ _ ⟨a, b⟩ _ HG.out HKK.out (HKW.out.below HBY.out) HREV.out).mono ?_
          clear y0 y1 y2 y3 y4 y5 y6 y7 y8 y9 y10 y11
          rintro ee w3 ⟨rfl, hb3⟩
          rw [HFB.out]
          have HBZ := Lib.hid (Below.next HBY.out hb3)
          clear p0 p1 p2
          obtain ⟨p0, p1, p2⟩ := FX.out _ HBZ.out
          replace x_a_0 := box_at x_a_0 hb3
          replace x_a_1 := box_at x_a_1 hb3
          replace x_a_2 := box_at x_a_2 hb3
          replace x_a_3 := box_at x_a_3 hb3
          replace x_a_4 := box_at x_a_4 hb3
          replace x_a_5 := box_at x_a_5 hb3
          replace x_b_0 := box_at x_b_0 hb3
          replace x_b_1 := box_at x_b_1 hb3
          replace x_b_2 := box_at x_b_2 hb3
          replace x_b_3 := box_at x_b_3 hb3
          replace x_b_4 := box_at x_b_4 hb3
          replace x_b_5 := box_at x_b_5 hb3
          replace HRA := Lib.hid ((kS rHead).rd_below HRA.out hb3)
          have HRB := Lib.hid ((kS rHead).rd_below HRV_b.out hb3)
          have HVW := Lib.hid (Below.next HVC.out hb3)
          clear hb3
          cases q4 with
          | false =>
            have HFT2 : Hid (∀ j', j' < t + 1 → F k (k + 1 + j') = false) := fun j' hj => by
              rcases Nat.lt_succ_iff_lt_or_eq.1 hj with h | rfl
              · exact HFt.out j' h
              · exact H4.out
            go_wp2_with fail
            go_roundg (m - (t + 1))
            case measure => omega
            case rel => exact ⟨t + 1, by omega, by go_num, HFT2.out, HVW.out⟩
          | true =>
            have hyes := HYES.out k t (by omega) H4.out HFt.out HRow.out
            rw [HAK.out, HBT.out] at hyes
            have HYE := Lib.hid hyes
            clear hyes
            go_wp2_with fail
            refine wp_region_noPanic ?_
            refine wp_region_U (fun w' => Below w3.heap.size w3 w' ∧ w'.cell? ⟨wA.heap.size, 0, none⟩ = some (.int .i64 a.author) ∧ w'.cell? ⟨wA.heap.size, 1, none⟩ = some (.int .i64 a.size) ∧ w'.cell? ⟨wA.heap.size, 2, none⟩ = some (.int .i64 a.root) ∧ w'.cell? ⟨wA.heap.size, 3, none⟩ = some (.slice aa_3 na_3 ca_3) ∧ w'.cell? ⟨wA.heap.size, 4, none⟩ = some (.slice aa_4 na_4 ca_4) ∧ w'.cell? ⟨wA.heap.size, 5, none⟩ = some (.slice aa_5 na_5 ca_5) ∧ w'.cell? ⟨wr.heap.size, 0, none⟩ = some (.int .i64 b.author) ∧ w'.cell? ⟨wr.heap.size, 1, none⟩ = some (.int .i64 b.size) ∧ w'.cell? ⟨wr.heap.size, 2, none⟩ = some (.int .i64 b.root) ∧ w'.cell? ⟨wr.heap.size, 3, none⟩ = some (.slice ab_3 nb_3 cb_3) ∧ w'.cell? ⟨wr.heap.size, 4, none⟩ = some (.slice ab_4 nb_4 cb_4) ∧ w'.cell? ⟨wr.heap.size, 5, none⟩ = some (.slice ab_5 nb_5 cb_5)) 12 [.rd 0, .rd 2, .one 1, .one 3, .rd 4] [5, 6] (by kernel_rfl) (by kernel_rfl) rfl (fun _ _ _ _ _ h => h) ⟨(Below.refl _ _).drew, x_a_0, x_a_1, x_a_2, x_a_3, x_a_4, x_a_5, x_b_0, x_b_1, x_b_2, x_b_3, x_b_4, x_b_5⟩ ?_
            simp only [pickU, pickN, List.getElem?_cons_zero, List.getElem?_cons_succ]
            have hbz : Below w3.heap.size w3 w3.drew := (Below.refl _ _).drew
            repeat (refine' wpU_read _ (by rfl) (fun w' hS' => ?_) ?_; rotate_left; · ((try dsimp only at hS'); go_simp; (try with_reducible rfl)); (try simp only [Act.put, List.setIfInBounds_toArray, List.set_cons_zero, List.set_cons_succ]))
            refine wpU_do (by rfl) (fun K hK => ?_)
            go_simp
            go_at_call 88
            refine (spec_fOwn _ a _ HSA.out ((kS rHead).rd_below HRA.out hbz)).mono ?_
            rintro ee w4 ⟨v4, rfl, ho4, hb4⟩
            obtain ⟨a1, m1, c1', a2, m2, c2', a3, m3, c3', rfl, _, _, _, _, _, _⟩ := rdHead.1 ((kS rHead).own_rd ho4)
            have hs3 := hbz.size
            have HO4 : Hid ((kS rHead).own w4 w3.heap.size w4.heap.size (.agg #[.int .i64 a.author, .int .i64 a.size, .int .i64 a.root, .slice a1 m1 c1', .slice a2 m2 c2', .slice a3 m3 c3']) a) := (kS rHead).own_mono ho4 hs3 (Nat.le_refl _)
            replace hbz : Below w3.heap.size w3 w4 := keep_b hb4 hbz
            clear hb4 ho4
            refine hK.out _ _ ⟨hbz, box_at x_a_0 hbz, box_at x_a_1 hbz, box_at x_a_2 hbz, box_at x_a_3 hbz, box_at x_a_4 hbz, box_at x_a_5 hbz, box_at x_b_0 hbz, box_at x_b_1 hbz, box_at x_b_2 hbz, box_at x_b_3 hbz, box_at x_b_4 hbz, box_at x_b_5 hbz⟩ (fun _ => ?_)
            clear hK K
            try simp only [Act.put, List.setIfInBounds_toArray, List.set_cons_zero, List.set_cons_succ]
            refine wpU_do (by rfl) (fun K hK => ?_)
            go_simp
            go_at_call 88
            refine (spec_fOwn _ b _ HSB.out ((kS rHead).rd_below HRB.out hbz)).mono ?_
            rintro ee w5 ⟨v5, rfl, ho5, hb5⟩
            obtain ⟨b1, k1, d1, b2, k2, d2, b3, k3, d3, rfl, _, _, _, _, _, _⟩ := rdHead.1 ((kS rHead).own_rd ho5)
            have HO5 := Lib.hid ho5
            have HO45 := Lib.hid (Kind.next (K := kS rHead) HO4.out hb5)
            have hs4 := hbz.size
            have hs5 := hb5.size
            replace hbz : Below w3.heap.size w3 w5 := keep_b hb5 hbz
            clear hb5 ho5
            refine hK.out _ _ ⟨hbz, box_at x_a_0 hbz, box_at x_a_1 hbz, box_at x_a_2 hbz, box_at x_a_3 hbz, box_at x_a_4 hbz, box_at x_a_5 hbz, box_at x_b_0 hbz, box_at x_b_1 hbz, box_at x_b_2 hbz, box_at x_b_3 hbz, box_at x_b_4 hbz, box_at x_b_5 hbz⟩ (fun _ => ?_)
            clear hK K
            try simp only [Act.put, List.setIfInBounds_toArray, List.set_cons_zero, List.set_cons_succ]
            repeat (refine' wpU_read _ (by rfl) (fun w' hS' => ?_) ?_; rotate_left; · ((try dsimp only at hS'); go_simp; (try with_reducible rfl)); (try simp only [Act.put, List.setIfInBounds_toArray, List.set_cons_zero, List.set_cons_succ]))
            refine wpU_nil ?_
            have HBW := Lib.hid (Below.next HBZ.out hbz)
            have BU := Lib.hid (BR.out.below HBW.out)
            have hsw := HBZ.out.size
            have hsW := HSW.out
            have r0 := BU.out.cell (i := 0) rfl
            have r1 := BU.out.cell (i := 1) rfl
            have r2 := BU.out.cell (i := 2) rfl
            have r3 := BU.out.cell (i := 3) rfl
            have r4 := BU.out.cell (i := 4) rfl
            have r5 := BU.out.cell (i := 5) rfl
            have r6 := BU.out.cell (i := 6) rfl
            have r7 := BU.out.cell (i := 7) rfl
            have r8 := BU.out.cell (i := 8) rfl
            have r9 := BU.out.cell (i := 9) rfl
            have r10 := BU.out.cell (i := 10) rfl
            have r11 := BU.out.cell (i := 11) rfl
            have fr := BU.out.frozen
            clear hbz p0 p1 p2 x_a_0 x_a_1 x_a_2 x_a_3 x_a_4 x_a_5 x_b_0 x_b_1 x_b_2 x_b_3 x_b_4 x_b_5
            go_wp2_with fail
            obtain ⟨Z, hZ⟩ : ∃ Z, Z = ((((((((((((w5.setCell ⟨w.heap.size + 1, 0, none⟩ ((.int .i64 a.author))).setCell ⟨w.heap.size + 1, 1, none⟩ ((.int .i64 a.size))).setCell ⟨w.heap.size + 1, 2, none⟩ ((.int .i64 a.root))).setCell ⟨w.heap.size + 1, 3, none⟩ ((.slice a1 m1 c1'))).setCell ⟨w.heap.size + 1, 4, none⟩ ((.slice a2 m2 c2'))).setCell ⟨w.heap.size + 1, 5, none⟩ ((.slice a3 m3 c3'))).setCell ⟨w.heap.size + 1, 6, none⟩ ((.int .i64 b.author))).setCell ⟨w.heap.size + 1, 7, none⟩ ((.int .i64 b.size))).setCell ⟨w.heap.size + 1, 8, none⟩ ((.int .i64 b.root))).setCell ⟨w.heap.size + 1, 9, none⟩ ((.slice b1 k1 d1))).setCell ⟨w.heap.size + 1, 10, none⟩ ((.slice b2 k2 d2))).setCell ⟨w.heap.size + 1, 11, none⟩ ((.slice b3 k3 d3))) := ⟨_, rfl⟩
            rw [← hZ]
            have hwz : Within (w.heap.size + 1) (w.heap.size + 1 + 1) w5 Z := by rw [hZ]; exact (((((((((((((Within.refl (w.heap.size + 1) (w.heap.size + 1 + 1) w5).setCell (Nat.le_refl _) (Nat.lt_succ_self _) _ _).setCell (Nat.le_refl _) (Nat.lt_succ_self _) _ _).setCell (Nat.le_refl _) (Nat.lt_succ_self _) _ _).setCell (Nat.le_refl _) (Nat.lt_succ_self _) _ _).setCell (Nat.le_refl _) (Nat.lt_succ_self _) _ _).setCell (Nat.le_refl _) (Nat.lt_succ_self _) _ _).setCell (Nat.le_refl _) (Nat.lt_succ_self _) _ _).setCell (Nat.le_refl _) (Nat.lt_succ_self _) _ _).setCell (Nat.le_refl _) (Nat.lt_succ_self _) _ _).setCell (Nat.le_refl _) (Nat.lt_succ_self _) _ _).setCell (Nat.le_refl _) (Nat.lt_succ_self _) _ _).setCell (Nat.le_refl _) (Nat.lt_succ_self _) _ _)
            have hZs : Z.heap.size = w5.heap.size := by rw [hZ]; simp only [size_setC]
            have BZ : BoxN Z (w.heap.size + 1) 58 [(.int .i64 a.author), (.int .i64 a.size), (.int .i64 a.root), (.slice a1 m1 c1'), (.slice a2 m2 c2'), (.slice a3 m3 c3'), (.int .i64 b.author), (.int .i64 b.size), (.int .i64 b.root), (.slice b1 k1 d1), (.slice b2 k2 d2), (.slice b3 k3 d3)] := by rw [hZ]; exact ((((((((((((BU.out.set 0 _).set 1 _).set 2 _).set 3 _).set 4 _).set 5 _).set 6 _).set 7 _).set 8 _).set 9 _).set 10 _).set 11 _)
            clear hZ
            have z0 := BZ.cell (i := 0) rfl
            have z1 := BZ.cell (i := 1) rfl
            have z2 := BZ.cell (i := 2) rfl
            have z3 := BZ.cell (i := 3) rfl
            have z4 := BZ.cell (i := 4) rfl
            have z5 := BZ.cell (i := 5) rfl
            have z6 := BZ.cell (i := 6) rfl
            have z7 := BZ.cell (i := 7) rfl
            have z8 := BZ.cell (i := 8) rfl
            have z9 := BZ.cell (i := 9) rfl
            have z10 := BZ.cell (i := 10) rfl
            have z11 := BZ.cell (i := 11) rfl
            have HOZ : Hid ((kS rForkEvidence).own Z w.heap.size Z.heap.size (.agg #[.int .i64 a.author, .int .i64 a.size, .int .i64 a.root, .slice a1 m1 c1', .slice a2 m2 c2', .slice a3 m3 c3', .int .i64 b.author, .int .i64 b.size, .int .i64 b.root, .slice b1 k1 d1, .slice b2 k2 d2, .slice b3 k3 d3]) ⟨a, b⟩) := own_ev (vs := [.int .i64 a.author, .int .i64 a.size, .int .i64 a.root, .slice a1 m1 c1', .slice a2 m2 c2', .slice a3 m3 c3']) (us := [.int .i64 b.author, .int .i64 b.size, .int .i64 b.root, .slice b1 k1 d1, .slice b2 k2 d2, .slice b3 k3 d3]) (Kind.kept (K := kS rHead) HO45.out hwz (.inr (by omega))) (Kind.kept (K := kS rHead) HO5.out hwz (.inr (by omega))) ⟨by omega, by omega⟩ ⟨by omega, by omega⟩ (.inl (Nat.le_refl _))
            have HZB : Hid (Below w.heap.size w Z) := (Below.next HWB.out HBW.out).trans (hwz.below (B := w.heap.size) (by omega) (by omega))
            clear r0 r1 r2 r3 r4 r5 r6 r7 r8 r9 r10 r11 fr BZ
            refine NoPanic.normal ?_
            go_wp2_with fail
            refine bodyPost_ret (v := .tuple #[.agg #[.int .i64 a.author, .int .i64 a.size, .int .i64 a.root, .slice a1 m1 c1', .slice a2 m2 c2', .slice a3 m3 c3', .int .i64 b.author, .int .i64 b.size, .int .i64 b.root, .slice b1 k1 d1, .slice b2 k2 d2, .slice b3 k3 d3], .bool true]) (by simp [results, Tryz.results53, go_sem, z0, z1, z2, z3, z4, z5, z6, z7, z8, z9, z10, z11]) rfl ⟨_, (by rw [HYE.out.1]), by rw [HYE.out.2]; exact HOZ.out, HZB.out⟩
        · obtain rfl : m = t := by omega
          have HRK : Hid (∀ i', i' < k + 1 → ffRow F n i' = none) := fun i' hi => by
            rcases Nat.lt_succ_iff_lt_or_eq.1 hi with h | rfl
            · exact HRow.out i' h
            · exact ffRow_none fun j hj => HFt.out j (by omega)
          clear x_a_0 x_a_1 x_a_2 x_a_3 x_a_4 x_a_5 hb
          go_wp2_with fail
          go_roundg (n - (k + 1))
          case measure => omega
          case rel => exact ⟨k + 1, by omega, by go_num, HRK.out, HBX.out⟩
    · obtain rfl : n = k := by omega
      have HNN := Lib.hid (HNO.out HRow.out)
      have HBW := Lib.hid hb
      have BU := Lib.hid (BR.out.below hb)
      have hsw := hb.size
      have hsW := HSW.out
      have r0 := BU.out.cell (i := 0) rfl
      have r1 := BU.out.cell (i := 1) rfl
      have r2 := BU.out.cell (i := 2) rfl
      have r3 := BU.out.cell (i := 3) rfl
      have r4 := BU.out.cell (i := 4) rfl
      have r5 := BU.out.cell (i := 5) rfl
      have r6 := BU.out.cell (i := 6) rfl
      have r7 := BU.out.cell (i := 7) rfl
      have r8 := BU.out.cell (i := 8) rfl
      have r9 := BU.out.cell (i := 9) rfl
      have r10 := BU.out.cell (i := 10) rfl
      have r11 := BU.out.cell (i := 11) rfl
      have fr := BU.out.frozen
      clear hb p0 p1 p2
      go_wp2_with fail
      obtain ⟨Z, hZ⟩ : ∃ Z, Z = ((((((((((((wA.setCell ⟨w.heap.size + 1, 0, none⟩ ((.int .i64 0))).setCell ⟨w.heap.size + 1, 1, none⟩ ((.int .i64 0))).setCell ⟨w.heap.size + 1, 2, none⟩ ((.int .i64 0))).setCell ⟨w.heap.size + 1, 3, none⟩ ((.slice none 0 0))).setCell ⟨w.heap.size + 1, 4, none⟩ ((.slice none 0 0))).setCell ⟨w.heap.size + 1, 5, none⟩ ((.slice none 0 0))).setCell ⟨w.heap.size + 1, 6, none⟩ ((.int .i64 0))).setCell ⟨w.heap.size + 1, 7, none⟩ ((.int .i64 0))).setCell ⟨w.heap.size + 1, 8, none⟩ ((.int .i64 0))).setCell ⟨w.heap.size + 1, 9, none⟩ ((.slice none 0 0))).setCell ⟨w.heap.size + 1, 10, none⟩ ((.slice none 0 0))).setCell ⟨w.heap.size + 1, 11, none⟩ ((.slice none 0 0))) := ⟨_, rfl⟩
      rw [← hZ]
      have hwz : Within (w.heap.size + 1) (w.heap.size + 1 + 1) wA Z := by rw [hZ]; exact (((((((((((((Within.refl (w.heap.size + 1) (w.heap.size + 1 + 1) wA).setCell (Nat.le_refl _) (Nat.lt_succ_self _) _ _).setCell (Nat.le_refl _) (Nat.lt_succ_self _) _ _).setCell (Nat.le_refl _) (Nat.lt_succ_self _) _ _).setCell (Nat.le_refl _) (Nat.lt_succ_self _) _ _).setCell (Nat.le_refl _) (Nat.lt_succ_self _) _ _).setCell (Nat.le_refl _) (Nat.lt_succ_self _) _ _).setCell (Nat.le_refl _) (Nat.lt_succ_self _) _ _).setCell (Nat.le_refl _) (Nat.lt_succ_self _) _ _).setCell (Nat.le_refl _) (Nat.lt_succ_self _) _ _).setCell (Nat.le_refl _) (Nat.lt_succ_self _) _ _).setCell (Nat.le_refl _) (Nat.lt_succ_self _) _ _).setCell (Nat.le_refl _) (Nat.lt_succ_self _) _ _)
      have hZs : Z.heap.size = wA.heap.size := by rw [hZ]; simp only [size_setC]
      have BZ : BoxN Z (w.heap.size + 1) 58 [(.int .i64 0), (.int .i64 0), (.int .i64 0), (.slice none 0 0), (.slice none 0 0), (.slice none 0 0), (.int .i64 0), (.int .i64 0), (.int .i64 0), (.slice none 0 0), (.slice none 0 0), (.slice none 0 0)] := by rw [hZ]; exact ((((((((((((BU.out.set 0 _).set 1 _).set 2 _).set 3 _).set 4 _).set 5 _).set 6 _).set 7 _).set 8 _).set 9 _).set 10 _).set 11 _)
      clear hZ
      have z0 := BZ.cell (i := 0) rfl
      have z1 := BZ.cell (i := 1) rfl
      have z2 := BZ.cell (i := 2) rfl
      have z3 := BZ.cell (i := 3) rfl
      have z4 := BZ.cell (i := 4) rfl
      have z5 := BZ.cell (i := 5) rfl
      have z6 := BZ.cell (i := 6) rfl
      have z7 := BZ.cell (i := 7) rfl
      have z8 := BZ.cell (i := 8) rfl
      have z9 := BZ.cell (i := 9) rfl
      have z10 := BZ.cell (i := 10) rfl
      have z11 := BZ.cell (i := 11) rfl
      have HOZ := Lib.hid (own_zev Z w.heap.size Z.heap.size (by omega))
      have HZB : Hid (Below w.heap.size w Z) := (Below.next HWB.out HBW.out).trans (hwz.below (B := w.heap.size) (by omega) (by omega))
      clear r0 r1 r2 r3 r4 r5 r6 r7 r8 r9 r10 r11 fr BZ
      go_wp2_with fail
      refine bodyPost_ret (v := .tuple #[.agg #[.int .i64 0, .int .i64 0, .int .i64 0, .slice none 0 0, .slice none 0 0, .slice none 0 0, .int .i64 0, .int .i64 0, .int .i64 0, .slice none 0 0, .slice none 0 0, .slice none 0 0], .bool false]) (by simp [results, Tryz.results53, go_sem, z0, z1, z2, z3, z4, z5, z6, z7, z8, z9, z10, z11]) rfl ⟨_, (by rw [HNN.out.1]), by rw [HNN.out.2]; exact HOZ.out, HZB.out⟩
end Go.Proofs.YtodennbdfloccaaGreat
