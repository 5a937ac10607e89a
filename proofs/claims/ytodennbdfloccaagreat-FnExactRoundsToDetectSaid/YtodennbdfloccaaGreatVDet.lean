/- Walks: RoundsToDetect. -/
import Derived.Test.YtodennbdfloccaaGreatGos3
import Derived.Test.YtodennbdfloccaaGreatVFind2
namespace Go.Proofs.YtodennbdfloccaaGreat
open Go.RowKit
set_option linter.unusedSimpArgs false
set_option linter.unusedVariables false

def detI (gr : GroupD) (keys : List Int) (o : List ReaderD) : Option Nat := (List.range o.length).find? fun i => ffB gr keys (rdrAt o i)
def detF (gr : GroupD) (keys : List Int) (ps : List (List Int)) : Nat → Nat → List ReaderD → Option (Nat × Nat)
  | 0, _, _ => none
  | f + 1, r, o => match detI gr keys o with
    | some i => some (r, i)
    | none => match gAll o ps with
      | some o' => detF gr keys ps f (r + 1) o'
      | none => none
theorem detI_some {gr : GroupD} {keys : List Int} {o : List ReaderD} {t : Nat} (ht : t < o.length) (h : ffB gr keys (rdrAt o t) = true) (hf : ∀ j, j < t → ffB gr keys (rdrAt o j) = false) : detI gr keys o = some t := by
  unfold detI
  rw [List.find?_range_eq_some]
  exact ⟨h, List.mem_range.2 ht, fun j hj => by rw [hf j hj]; rfl⟩
theorem detI_none {gr : GroupD} {keys : List Int} {o : List ReaderD} (hf : ∀ j, j < o.length → ffB gr keys (rdrAt o j) = false) : detI gr keys o = none := by
  unfold detI
  rw [List.find?_eq_none]
  intro j hj
  rw [hf j (List.mem_range.1 hj)]; simp
theorem detF_hit {gr : GroupD} {keys : List Int} {ps : List (List Int)} {f r i : Nat} {o : List ReaderD} (h : detI gr keys o = some i) : detF gr keys ps (f + 1) r o = some (r, i) := by
  unfold detF; rw [h]
theorem detF_next {gr : GroupD} {keys : List Int} {ps : List (List Int)} {f r : Nat} {o o' : List ReaderD} (h : detI gr keys o = none) (hg : gAll o ps = some o') : detF gr keys ps (f + 1) r o = detF gr keys ps f (r + 1) o' := by
  rw [detF, h]; simp only [hg]
theorem detF_stop {gr : GroupD} {keys : List Int} {ps : List (List Int)} {f r : Nat} {o : List ReaderD} (h : detI gr keys o = none) (hg : gAll o ps = none) : detF gr keys ps (f + 1) r o = none := by
  rw [detF, h]; simp only [hg]
noncomputable def rdB (gr : GroupD) (keys : List Int) (rs : List ReaderD) (ps : List (List Int)) (m : Int) : Bool := fkB gr keys && (grB rs ps && decide (0 ≤ m ∧ m ≤ 10))
noncomputable def rdO (gr : GroupD) (keys : List Int) (rs : List ReaderD) (ps : List (List Int)) (m : Int) : Option (Nat × Nat) := if rdB gr keys rs ps m = true then detF gr keys ps (m.toNat + 1) 0 rs else none
noncomputable def rdI (gr : GroupD) (keys : List Int) (rs : List ReaderD) (ps : List (List Int)) (m : Int) : Int := match rdO gr keys rs ps m with
  | some (r, _) => (r : Int)
  | none => 0
noncomputable def rdJ (gr : GroupD) (keys : List Int) (rs : List ReaderD) (ps : List (List Int)) (m : Int) : Int := match rdO gr keys rs ps m with
  | some (_, i) => (i : Int)
  | none => 0
noncomputable def rdK (gr : GroupD) (keys : List Int) (rs : List ReaderD) (ps : List (List Int)) (m : Int) : Bool := (rdO gr keys rs ps m).isSome
theorem rd_no {gr : GroupD} {keys : List Int} {rs : List ReaderD} {ps : List (List Int)} {m : Int} (h : rdB gr keys rs ps m = false) : rdI gr keys rs ps m = 0 ∧ rdJ gr keys rs ps m = 0 ∧ rdK gr keys rs ps m = false := by
  have e : rdO gr keys rs ps m = none := by unfold rdO; rw [if_neg (by rw [h]; simp)]
  unfold rdI rdJ rdK; rw [e]; exact ⟨rfl, rfl, rfl⟩
theorem rd_none {gr : GroupD} {keys : List Int} {rs : List ReaderD} {ps : List (List Int)} {m : Int} (h : rdB gr keys rs ps m = true) (hd : detF gr keys ps (m.toNat + 1) 0 rs = none) : rdI gr keys rs ps m = 0 ∧ rdJ gr keys rs ps m = 0 ∧ rdK gr keys rs ps m = false := by
  have e : rdO gr keys rs ps m = none := by unfold rdO; rw [if_pos h, hd]
  unfold rdI rdJ rdK; rw [e]; exact ⟨rfl, rfl, rfl⟩
theorem rd_some {gr : GroupD} {keys : List Int} {rs : List ReaderD} {ps : List (List Int)} {m : Int} {r i : Nat} (h : rdB gr keys rs ps m = true) (hd : detF gr keys ps (m.toNat + 1) 0 rs = some (r, i)) : rdI gr keys rs ps m = r ∧ rdJ gr keys rs ps m = i ∧ rdK gr keys rs ps m = true := by
  have e : rdO gr keys rs ps m = some (r, i) := by unfold rdO; rw [if_pos h, hd]
  unfold rdI rdJ rdK; rw [e]; exact ⟨rfl, rfl, rfl⟩
theorem ret_iibD {a a' b b' : Int} {c c' : Bool} (h : a = a') (h' : b = b') (h'' : c = c') : Ending.returned (.tuple #[.int .i64 a, .int .i64 b, .bool c]) = .returned (.tuple #[.int .i64 a', .int .i64 b', .bool c']) := by rw [h, h', h'']
/-- readers of as many are pairs' readers too -/
theorem okRs_gos {o o' : List ReaderD} {ps : List (List Int)} (h : okRs o) (hs : gAll o ps = some o') (hk : ∀ (x y : List ReaderD) p, okRs x → gStep x p = some y → okRs y) : okRs o' := by
  revert o
  induction ps with
  | nil => intro o h hs; cases hs; exact h
  | cons p ps ih =>
    intro o h hs
    unfold gAll at hs
    rw [List.foldl_cons] at hs
    cases h1 : gStep o p with
    | none =>
      have : (some o : Option (List ReaderD)).bind (fun x => gStep x p) = none := h1
      rw [this, gfold_none] at hs; cases hs
    | some o1 =>
      have : (some o : Option (List ReaderD)).bind (fun x => gStep x p) = some o1 := h1
      rw [this] at hs
      exact ih (hk _ _ _ h h1) hs
theorem okRs_any {o : List ReaderD} (h : okRs o) (i : Nat) : okH (rdrAt o i) := by
  by_cases hi : i < o.length
  · exact h.at_ hi
  · have : rdrAt o i = [] := by simp [rdrAt, List.getD, Nat.le_of_not_lt hi]
    rw [this]
    exact ⟨by simp, fun d hd => by simp at hd⟩
theorem gStep_okR {o o' : List ReaderD} {p : List Int} (h : okRs o) (hs : gStep o p = some o') : okRs o' := by
  unfold gStep at hs
  split at hs
  · rename_i hc
    cases hs
    exact okRs_set (okRs_set h (okH_merge (okRs_any h _) (okRs_any h _) hc.1)) (okH_merge (okRs_any h _) (okRs_any h _) hc.2)
  · cases hs
set_option maxRecDepth 100000 in
set_option maxHeartbeats 4000000 in
theorem impl_RoundsToDetect (gr : GroupD) (vk : Value) (keys : List Int) (v : Value) (rs : List ReaderD) (vp : Value) (ps : List (List Int)) (m : Int) (w : World) (hk : Ints w vk keys) (hz : (szReaderS rs : Int) ≤ 1000000000) (h : (kR 101 rReader).rd w v rs) (hz2 : ((ps.length : Int) + total ps) ≤ 1000000000) (hp : RdL kInts w vp ps) :
    Calls Tryz.prog 35 #[.agg #[.int .i64 gr.p, .int .i64 gr.q, .int .i64 gr.g], vk, v, vp, .int .i64 m] w fun e w' => e = .returned (.tuple #[.int .i64 (rdI gr keys rs ps m), .int .i64 (rdJ gr keys rs ps m), .bool (rdK gr keys rs ps m)]) ∧ Below w.heap.size w w' := by
  (obtain ⟨q1, h_q⟩ : ∃ b_q, goodG gr = b_q := ⟨_, rfl⟩); have H1 := Lib.hid h_q; clear h_q
  (obtain ⟨q2, h_q⟩ : ∃ b_q, keysB gr keys = b_q := ⟨_, rfl⟩); have H2 := Lib.hid h_q; clear h_q
  (obtain ⟨q3, h_q⟩ : ∃ b_q, rdrsB rs = b_q := ⟨_, rfl⟩); have H3 := Lib.hid h_q; clear h_q
  (obtain ⟨q4, h_q⟩ : ∃ b_q, pairsB (rs.length : Int) ps = b_q := ⟨_, rfl⟩); have H4 := Lib.hid h_q; clear h_q
  (obtain ⟨q5, h_q⟩ : ∃ b_q, decide (0 ≤ m ∧ m ≤ 10) = b_q := ⟨_, rfl⟩); have H5 := Lib.hid h_q; clear h_q
  have HRB : Hid (rdB gr keys rs ps m = ((q1 && q2) && ((q3 && q4) && q5))) := by unfold Hid rdB fkB grB; rw [H1.out, H2.out, H3.out, H4.out, H5.out]
  have HZ := Lib.hid hz
  obtain ⟨ak, nk, ck, rfl⟩ := hk.shape
  have HH : Hid (RdR rReader w v rs) := h
  obtain ⟨ar, n, c, rfl⟩ := HH.out.shape
  obtain ⟨ap, np, cp, rfl⟩ := hp.shape
  have HE := Lib.hid HH.out.len
  have HKI := Lib.hid hk; have HP := Lib.hid hp
  clear h hp hz hz2 hk
  obtain ⟨W, hW⟩ : ∃ W, W = (w.alloc (.cells #[.int .i64 gr.p, .int .i64 gr.q, .int .i64 gr.g] 36)) := ⟨_, rfl⟩
  have HWB : Hid (Below w.heap.size w W) := by unfold Hid; rw [hW]; (repeat (first | exact Below.refl _ _ | assumption | refine Below.drew ?_ | refine Below.alloc ?_ (by first | (simp; done) | (simp; omega)) _ | refine Below.setCell ?_ (by first | (simp; done) | (simp; omega)) _))
  have FX : Hid (∀ W', Below W.heap.size W W' → W'.cell? ⟨w.heap.size, 0, none⟩ = some (.int .i64 gr.p) ∧ W'.cell? ⟨w.heap.size, 1, none⟩ = some (.int .i64 gr.q) ∧ W'.cell? ⟨w.heap.size, 2, none⟩ = some (.int .i64 gr.g)) := fun W' hb => by
    exact ⟨box_at (by rw [hW]; simp [go_sem]) hb, box_at (by rw [hW]; simp [go_sem]) hb, box_at (by rw [hW]; simp [go_sem]) hb⟩
  have hsW : W.heap.size = w.heap.size + 1 := by rw [hW]; simp
  have HW := Lib.hid hW; clear hW
  have HHW : Hid (RdR rReader W (.slice ar n c) rs) := HH.out.below HWB.out
  have HPW : Hid (RdL kInts W (.slice ap np cp) ps) := kRows.rd_below HP.out HWB.out
  have HKW : Hid (Ints W (.slice ak nk ck) keys) := HKI.out.below HWB.out
  go_enter Tryz.func35, Tryz.ntmps35
  go_wp2_with fail
  rw [← HW.out]
  have hcum : Below W.heap.size W W := Below.refl _ _
  obtain ⟨p0_0, p0_1, p0_2⟩ := FX.out _ hcum
  have HP5 : Hid (pairsB (n : Int) ps = q4) := by unfold Hid; rw [← H4.out, HE.out]
  have HN8 : Hid (q3 = true → n ≤ 8) := fun e => by have := rdrsB_len (H3.out.trans e); have := HE.out; omega
  refine (impl_IsValidGroup gr _).mono ?_
  rintro e w1 ⟨rfl, hb1⟩
  rw [H1.out]
  (replace hcum := hcum.trans (hb1.mono hcum.size)); clear hb1; clear p0_0 p0_1 p0_2; obtain ⟨p0_0, p0_1, p0_2⟩ := FX.out _ hcum
  cases q1 with
  | false =>
    have HN := Lib.hid (rd_no HRB.out)
    go_wp2_with fail
    go_ret3
    exact ⟨ret_iibD HN.out.1.symm HN.out.2.1.symm HN.out.2.2.symm, Below.next HWB.out hcum⟩
  | true =>
    have HG := Lib.hid (goodG_ok H1.out)
    have HC1 := Lib.hid hcum
    go_wp2_with fail
    refine (impl_areKeys gr _ keys _ HG.out (HKW.out.below HC1.out)).mono ?_
    rintro e w2 ⟨rfl, hb2⟩
    rw [H2.out]
    (replace hcum := hcum.trans (hb2.mono hcum.size)); clear hb2; clear p0_0 p0_1 p0_2; obtain ⟨p0_0, p0_1, p0_2⟩ := FX.out _ hcum
    cases q2 with
    | false =>
      have HN := Lib.hid (rd_no HRB.out)
      go_wp2_with fail
      go_ret3
      exact ⟨ret_iibD HN.out.1.symm HN.out.2.1.symm HN.out.2.2.symm, Below.next HWB.out hcum⟩
    | true =>
      have HKK := H2
      have HC2 := Lib.hid hcum
      go_wp2_with fail
      refine (impl_areReaders _ rs _ (HHW.out.below HC2.out)).mono ?_
      rintro e w3 ⟨rfl, hb3⟩
      rw [H3.out]
      (replace hcum := hcum.trans (hb3.mono hcum.size)); clear hb3; clear p0_0 p0_1 p0_2; obtain ⟨p0_0, p0_1, p0_2⟩ := FX.out _ hcum
      cases q3 with
      | false =>
        have HN := Lib.hid (rd_no HRB.out)
        go_wp2_with fail
        go_ret3
        exact ⟨ret_iibD HN.out.1.symm HN.out.2.1.symm HN.out.2.2.symm, Below.next HWB.out hcum⟩
      | true =>
        have hn8 := HN8.out rfl
        have HC3 := Lib.hid hcum
        go_wp2_with fail
        refine (impl_arePairs _ ps (n : Int) _ (kRows.rd_below HPW.out HC3.out) (by omega) (by omega)).mono ?_
        rintro e w4 ⟨rfl, hb4⟩
        rw [HP5.out]
        (replace hcum := hcum.trans (hb4.mono hcum.size)); clear hb4; clear p0_0 p0_1 p0_2; obtain ⟨p0_0, p0_1, p0_2⟩ := FX.out _ hcum
        cases q4 with
        | false =>
          have HN := Lib.hid (rd_no HRB.out)
          go_wp2_with fail
          go_ret3
          exact ⟨ret_iibD HN.out.1.symm HN.out.2.1.symm HN.out.2.2.symm, Below.next HWB.out hcum⟩
        | true =>
          go_wp2_with fail
          refine (impl_within m 0 10 _).mono ?_
          rintro e wz ⟨rfl, hwz⟩
          subst hwz
          rw [H5.out]
          cases q5 with
          | false =>
            have HN := Lib.hid (rd_no HRB.out)
            go_wp2_with fail
            go_ret3
            exact ⟨ret_iibD HN.out.1.symm HN.out.2.1.symm HN.out.2.2.symm, Below.next HWB.out hcum⟩
          | true =>
            have HOK0 := Lib.hid (rdrs_ok HZ.out H3.out)
            have HPB := H4
            have hm01 := of_decide_eq_true H5.out
            obtain ⟨M, hM⟩ : ∃ M : Nat, m = (M : Int) := ⟨m.toNat, by omega⟩
            subst hM
            have hM10 : M ≤ 10 := by omega
            have HNONE : Hid (detF gr keys ps (M + 1) 0 rs = none → rdI gr keys rs ps (M : Int) = 0 ∧ rdJ gr keys rs ps (M : Int) = 0 ∧ rdK gr keys rs ps (M : Int) = false) := fun e => rd_none HRB.out e
            have HSOME : Hid (∀ r i : Nat, detF gr keys ps (M + 1) 0 rs = some (r, i) → rdI gr keys rs ps (M : Int) = r ∧ rdJ gr keys rs ps (M : Int) = i ∧ rdK gr keys rs ps (M : Int) = true) := fun r i e => rd_some HRB.out e
            have HC := Lib.hid hcum
            clear hcum hm01
            go_wp2_with fail
            go_loopg [2, 48] (M + 1) (fun gg ov i wr => ∃ (k : Nat) (o : List ReaderD), k + gg = M + 1 ∧ i = .int .i64 k ∧ Hid (detF gr keys ps (M + 1) 0 rs = detF gr keys ps gg k o) ∧ Hid (okRs o) ∧ Hid (o.length = n) ∧ RdR rReader wr ov o ∧ Below W.heap.size W wr)
            case atStart => exact ⟨0, rs, by omega, rfl, rfl, HOK0.out, HE.out, HHW.out.below HC.out, HC.out⟩
            case round =>
              obtain ⟨k, o, hkg, rfl, HD, HOK, HOL, hR, hb⟩ := hrel
              obtain ⟨wA, rfl⟩ : ∃ u, u = wr := ⟨_, rfl⟩
              obtain ⟨a2, n2, c2, rfl⟩ := hR.shape
              obtain rfl : n = n2 := by have := hR.len; have := HOL.out; omega
              have hcap := hR.capMax
              unfold maxLen at hcap
              clear p0_0 p0_1 p0_2
              obtain ⟨p0_0, p0_1, p0_2⟩ := FX.out _ hb
              have HRO := Lib.hid hR; clear hR
              have HBA := Lib.hid hb; clear hb
              by_cases hlt : k < M + 1
              · obtain ⟨f, rfl⟩ : ∃ f, gk = f + 1 := ⟨gk - 1, by omega⟩
                have hkM : k ≤ M := by omega
                have hkd : decide ((k : Int) < (M : Int) + 1) = true := decide_eq_true (by omega)
                have hke : decide ((k : Int) ≤ (M : Int)) = true := decide_eq_true (by omega)
                have hwk : IntKind.i64.wrap ((k : Int) + 1) = (k : Int) + 1 := IntWalk.i64_in _ (by omega)
                go_wp2_with fail
                go_loopg [53] n (fun gg i wr => ∃ t : Nat, t + gg = n ∧ i = .int .i64 t ∧ Hid (∀ j, j < t → ffB gr keys (rdrAt o j) = false) ∧ Below wA.heap.size wA wr)
                case atStart => exact ⟨0, by omega, rfl, (fun j h => by omega), Below.refl _ _⟩
                case round =>
                  obtain ⟨t, htg, rfl, HFt, hb⟩ := hrel
                  have HBX := Lib.hid (Below.next HBA.out hb)
                  clear p0_0 p0_1 p0_2
                  obtain ⟨p0_0, p0_1, p0_2⟩ := FX.out _ HBX.out
                  by_cases hlt2 : t < n
                  · have HK : Hid (t < o.length) := by unfold Hid; rw [HOL.out]; exact hlt2
                    have HRT : Hid (rdrAt o t = (o[t]'HK.out).heads) := rdrAt_eq HK.out
                    have HOH : Hid (okH (o[t]'HK.out).heads) := HOK.out.2 _ (List.getElem_mem HK.out)
                    obtain ⟨b_r, o_r, rfl, hcx⟩ := HRO.out.at_ (by omega)
                    obtain ⟨us, hcell, hrd⟩ := hcx t HK.out
                    clear hcx
                    generalize o[t]'HK.out = r at hrd HRT HOH
                    obtain ⟨ar_0, nr_0, cr_0, ers, kr_0⟩ := rdReader.1 ⟨us, rfl, hrd⟩
                    obtain rfl : us = [.slice ar_0 nr_0 cr_0] := by have h := Value.agg.inj ers; simpa using congrArg Array.toList h
                    clear ers hrd
                    have y_r_0 : wr.cell? ⟨b_r, o_r + t * 1, none⟩ = some (.slice ar_0 nr_0 cr_0) := box_at (hcell 0 (by decide)) hb
                    clear hcell
                    have HR_r := Lib.hid ((kS rReader).rd_below (rdReader.2 ⟨_, _, _, rfl, kr_0⟩ : (kS rReader).rd wA (.agg #[.slice ar_0 nr_0 cr_0]) r) hb)
                    have F_r_heads := Lib.hid ((kR 44 rHead).rd_below kr_0 hb)
                    clear kr_0
                    simp only [Nat.mul_one] at y_r_0
                    (obtain ⟨q6, h_q⟩ : ∃ b_q, ffB gr keys r.heads = b_q := ⟨_, rfl⟩); have H6 := Lib.hid h_q; clear h_q
                    have hwt : IntKind.i64.wrap ((t : Int) + 1) = (t : Int) + 1 := IntWalk.i64_in _ (by omega)
                    have zl0 : w.heap.size < wr.heap.size := World.block_lt_of_cell? _ _ p0_0
                    go_wp2_with fail
                    clear zl0
                    obtain ⟨V, hV⟩ : ∃ V, V = wr.alloc (.cells #[.slice ar_0 nr_0 cr_0] 101) := ⟨_, rfl⟩
                    rw [← hV]
                    have HV : Hid (Below wr.heap.size wr V) := by unfold Hid; rw [hV]; exact (Below.refl _ _).alloc (Nat.le_refl _) _
                    have hsV : V.heap.size = wr.heap.size + 1 := by rw [hV]; simp
                    have x_r_0 : V.cell? ⟨wr.heap.size, 0, none⟩ = some (.slice ar_0 nr_0 cr_0) := by rw [hV]; simp [go_sem]
                    have HRV_r := Lib.hid ((kS rReader).rd_below HR_r.out HV.out)
                    clear hV
                    have HBV := Lib.hid (Below.next HBX.out HV.out)
                    refine (impl_findFork gr keys _ r.heads _ _ HG.out HKK.out (HKW.out.below HBV.out) HOH.out.small (RdR.below F_r_heads.out HV.out)).mono ?_
                    rintro ee w5 ⟨v5, rfl, ho5, hb5⟩
                    rw [H6.out]
                    generalize ffE gr keys r.heads = D at ho5
                    obtain ⟨a3, n3, c3, a4, n4, c4, a5, n5, c5, a9, n9, c9, a10, n10, c10, a11, n11, c11, rfl, _⟩ := rdForkEvidence.1 ((kS rForkEvidence).own_rd ho5)
                    have HB5 := Lib.hid (Below.next (Below.next hb HV.out) hb5)
                    clear ho5 hb5
                    cases q6 with
                    | true =>
                      have HDI := Lib.hid (HSOME.out k t (by rw [HD.out]; exact detF_hit (detI_some HK.out (by rw [HRT.out]; exact H6.out) HFt.out)))
                      have hB5 := Below.next HBA.out HB5.out
                      go_wp2_with fail
                      go_ret3
                      exact ⟨ret_iibD HDI.out.1.symm HDI.out.2.1.symm HDI.out.2.2.symm, Below.next HWB.out (by first | exact hB5 | exact hB5.alloc hB5.size _)⟩
                    | false =>
                      have HF2 : Hid (∀ j, j < t + 1 → ffB gr keys (rdrAt o j) = false) := fun j hj => by
                        rcases Nat.lt_succ_iff_lt_or_eq.1 hj with h | rfl
                        · exact HFt.out j h
                        · rw [HRT.out]; exact H6.out
                      go_wp2_with fail
                      go_roundg (n - (t + 1))
                      case measure => omega
                      case rel => exact ⟨t + 1, by omega, by go_num, HF2.out, by first | exact HB5.out | exact HB5.out.alloc HB5.out.size _⟩
                  · obtain rfl : n = t := by omega
                    have HDN : Hid (detI gr keys o = none) := detI_none (fun j hj => HFt.out j (by have := HOL.out; omega))
                    have HBB := Lib.hid hb; clear hb
                    go_wp2_with fail
                    refine (impl_gossip _ o _ ps _ HOK.out (HRO.out.below HBB.out) (kRows.rd_below HPW.out HBX.out) (by rw [HOL.out, ← HE.out]; exact HPB.out)).mono ?_
                    rintro ee w6 ⟨v6, rfl, ho6, hb6⟩
                    obtain ⟨a7, n7, c7, rfl⟩ := (OwnR.rd ho6).shape
                    have HB6 := Lib.hid (Below.next HBX.out hb6)
                    clear hb6
                    cases hg : gAll o ps with
                    | none =>
                      have HNN := Lib.hid (HNONE.out (by rw [HD.out]; exact detF_stop HDN.out hg))
                      rw [(gos_no hg).1]
                      clear hg ho6
                      go_wp2_with fail
                      go_ret3
                      exact ⟨ret_iibD HNN.out.1.symm HNN.out.2.1.symm HNN.out.2.2.symm, Below.next HWB.out HB6.out⟩
                    | some o' =>
                      have HDF : Hid (detF gr keys ps (M + 1) 0 rs = detF gr keys ps f (k + 1) o') := by unfold Hid; rw [HD.out]; exact detF_next HDN.out hg
                      have HOK2 : Hid (okRs o') := okRs_gos HOK.out hg (fun x y p hx hs => gStep_okR hx hs)
                      have HOL2 : Hid (o'.length = n) := by unfold Hid; rw [gAll_len hg]; exact HOL.out
                      rw [(gos_yes hg).1]
                      rw [(gos_yes hg).2] at ho6
                      have HR6 := Lib.hid (OwnR.rd ho6)
                      clear hg ho6
                      go_wp2_with fail
                      go_roundg f
                      case measure => omega
                      case rel => exact ⟨k + 1, o', by omega, by go_num, HDF.out, HOK2.out, HOL2.out, HR6.out, HB6.out⟩
              · obtain rfl : gk = 0 := by omega
                have HNN := Lib.hid (HNONE.out (by rw [HD.out]; rfl))
                have hkM : ¬ k ≤ M := by omega
                go_wp2_with fail
                go_ret3
                exact ⟨ret_iibD HNN.out.1.symm HNN.out.2.1.symm HNN.out.2.2.symm, Below.next HWB.out HBA.out⟩
set_option maxRecDepth 100000 in
set_option maxHeartbeats 4000000 in
theorem spec_RoundsToDetect (gr : GroupD) (vk : Value) (keys : List Int) (v : Value) (rs : List ReaderD) (vp : Value) (ps : List (List Int)) (m : Int) (w : World) (hk : Ints w vk keys) (hz : (szReaderS rs : Int) ≤ 1000000000) (h : (kR 101 rReader).rd w v rs) (hz2 : ((ps.length : Int) + total ps) ≤ 1000000000) (hp : RdL kInts w vp ps) :
    Calls Tryz.prog 32 #[.agg #[.int .i64 gr.p, .int .i64 gr.q, .int .i64 gr.g], vk, v, vp, .int .i64 m] w fun e w' => e = .returned (.tuple #[.int .i64 (rdI gr keys rs ps m), .int .i64 (rdJ gr keys rs ps m), .bool (rdK gr keys rs ps m)]) ∧ Below w.heap.size w w' := by
  (obtain ⟨q1, h_q⟩ : ∃ b_q, fkB gr keys = b_q := ⟨_, rfl⟩); have H1 := Lib.hid h_q; clear h_q
  (obtain ⟨q3, h_q⟩ : ∃ b_q, grB rs ps = b_q := ⟨_, rfl⟩); have H3 := Lib.hid h_q; clear h_q
  (obtain ⟨q5, h_q⟩ : ∃ b_q, decide (0 ≤ m ∧ m ≤ 10) = b_q := ⟨_, rfl⟩); have H5 := Lib.hid h_q; clear h_q
  have HRB : Hid (rdB gr keys rs ps m = (q1 && (q3 && q5))) := by unfold Hid rdB; rw [H1.out, H3.out, H5.out]
  have HZ := Lib.hid hz
  obtain ⟨ak, nk, ck, rfl⟩ := hk.shape
  have HH : Hid (RdR rReader w v rs) := h
  obtain ⟨ar, n, c, rfl⟩ := HH.out.shape
  obtain ⟨ap, np, cp, rfl⟩ := hp.shape
  have HE := Lib.hid HH.out.len
  have HKI := Lib.hid hk; have HP := Lib.hid hp
  clear h hp hz hz2 hk
  obtain ⟨W, hW⟩ : ∃ W, W = (w.alloc (.cells #[.int .i64 gr.p, .int .i64 gr.q, .int .i64 gr.g] 36)) := ⟨_, rfl⟩
  have HWB : Hid (Below w.heap.size w W) := by unfold Hid; rw [hW]; (repeat (first | exact Below.refl _ _ | assumption | refine Below.drew ?_ | refine Below.alloc ?_ (by first | (simp; done) | (simp; omega)) _ | refine Below.setCell ?_ (by first | (simp; done) | (simp; omega)) _))
  have FX : Hid (∀ W', Below W.heap.size W W' → W'.cell? ⟨w.heap.size, 0, none⟩ = some (.int .i64 gr.p) ∧ W'.cell? ⟨w.heap.size, 1, none⟩ = some (.int .i64 gr.q) ∧ W'.cell? ⟨w.heap.size, 2, none⟩ = some (.int .i64 gr.g)) := fun W' hb => by
    exact ⟨box_at (by rw [hW]; simp [go_sem]) hb, box_at (by rw [hW]; simp [go_sem]) hb, box_at (by rw [hW]; simp [go_sem]) hb⟩
  have hsW : W.heap.size = w.heap.size + 1 := by rw [hW]; simp
  have HW := Lib.hid hW; clear hW
  have HHW : Hid (RdR rReader W (.slice ar n c) rs) := HH.out.below HWB.out
  have HPW : Hid (RdL kInts W (.slice ap np cp) ps) := kRows.rd_below HP.out HWB.out
  have HKW : Hid (Ints W (.slice ak nk ck) keys) := HKI.out.below HWB.out
  go_enter Tryz.func32, Tryz.ntmps32
  go_wp2_with fail
  rw [← HW.out]
  have hcum : Below W.heap.size W W := Below.refl _ _
  obtain ⟨p0_0, p0_1, p0_2⟩ := FX.out _ hcum
  refine (spec_fKeys gr _ keys _ HKW.out).mono ?_
  rintro e w1 ⟨rfl, hb1⟩
  rw [H1.out]
  (replace hcum := hcum.trans (hb1.mono hcum.size)); clear hb1; clear p0_0 p0_1 p0_2; obtain ⟨p0_0, p0_1, p0_2⟩ := FX.out _ hcum
  cases q1 with
  | false =>
    have HN := Lib.hid (rd_no HRB.out)
    go_wp2_with fail
    go_ret3
    exact ⟨ret_iibD HN.out.1.symm HN.out.2.1.symm HN.out.2.2.symm, Below.next HWB.out hcum⟩
  | true =>
    have h12 := H1.out
    unfold fkB at h12
    rw [Bool.and_eq_true] at h12
    have HG := Lib.hid (goodG_ok h12.1)
    have HKK := Lib.hid h12.2
    clear h12
    have HC1 := Lib.hid hcum
    go_wp2_with fail
    refine (spec_fReaders _ rs _ ps _ (HHW.out.below HC1.out) (kRows.rd_below HPW.out HC1.out)).mono ?_
    rintro e w3 ⟨rfl, hb3⟩
    rw [H3.out]
    (replace hcum := hcum.trans (hb3.mono hcum.size)); clear hb3; clear p0_0 p0_1 p0_2; obtain ⟨p0_0, p0_1, p0_2⟩ := FX.out _ hcum
    cases q3 with
    | false =>
      have HN := Lib.hid (rd_no HRB.out)
      go_wp2_with fail
      go_ret3
      exact ⟨ret_iibD HN.out.1.symm HN.out.2.1.symm HN.out.2.2.symm, Below.next HWB.out hcum⟩
    | true =>
      have h34 := H3.out
      unfold grB at h34
      rw [Bool.and_eq_true] at h34
      have HX := Lib.hid h34
      clear h34
      have hn8 : n ≤ 8 := by have := rdrsB_len HX.out.1; have := HE.out; omega
      go_wp2_with fail
      refine (spec_l1In m 0 10 _).mono ?_
      rintro e wz ⟨rfl, hwz⟩
      subst hwz
      rw [H5.out]
      cases q5 with
      | false =>
        have HN := Lib.hid (rd_no HRB.out)
        go_wp2_with fail
        go_ret3
        exact ⟨ret_iibD HN.out.1.symm HN.out.2.1.symm HN.out.2.2.symm, Below.next HWB.out hcum⟩
      | true =>
        have HOK0 := Lib.hid (rdrs_ok HZ.out HX.out.1)
        have HPB := Lib.hid HX.out.2
        have hm01 := of_decide_eq_true H5.out
        obtain ⟨M, hM⟩ : ∃ M : Nat, m = (M : Int) := ⟨m.toNat, by omega⟩
        subst hM
        have hM10 : M ≤ 10 := by omega
        have HNONE : Hid (detF gr keys ps (M + 1) 0 rs = none → rdI gr keys rs ps (M : Int) = 0 ∧ rdJ gr keys rs ps (M : Int) = 0 ∧ rdK gr keys rs ps (M : Int) = false) := fun e => rd_none HRB.out e
        have HSOME : Hid (∀ r i : Nat, detF gr keys ps (M + 1) 0 rs = some (r, i) → rdI gr keys rs ps (M : Int) = r ∧ rdJ gr keys rs ps (M : Int) = i ∧ rdK gr keys rs ps (M : Int) = true) := fun r i e => rd_some HRB.out e
        have HC := Lib.hid hcum
        clear hcum hm01
        go_wp2_with fail
        go_loopg [2, 13] (M + 1) (fun gg ov i wr => ∃ (k : Nat) (o : List ReaderD), k + gg = M + 1 ∧ i = .int .i64 k ∧ Hid (detF gr keys ps (M + 1) 0 rs = detF gr keys ps gg k o) ∧ Hid (okRs o) ∧ Hid (o.length = n) ∧ RdR rReader wr ov o ∧ Below W.heap.size W wr)
        case atStart => exact ⟨0, rs, by omega, rfl, rfl, HOK0.out, HE.out, HHW.out.below HC.out, HC.out⟩
        case round =>
          obtain ⟨k, o, hkg, rfl, HD, HOK, HOL, hR, hb⟩ := hrel
          obtain ⟨wA, rfl⟩ : ∃ u, u = wr := ⟨_, rfl⟩
          obtain ⟨a2, n2, c2, rfl⟩ := hR.shape
          obtain rfl : n = n2 := by have := hR.len; have := HOL.out; omega
          have hcap := hR.capMax
          unfold maxLen at hcap
          clear p0_0 p0_1 p0_2
          obtain ⟨p0_0, p0_1, p0_2⟩ := FX.out _ hb
          have HRO := Lib.hid hR; clear hR
          have HBA := Lib.hid hb; clear hb
          by_cases hlt : k < M + 1
          · obtain ⟨f, rfl⟩ : ∃ f, gk = f + 1 := ⟨gk - 1, by omega⟩
            have hkM : k ≤ M := by omega
            have hkd : decide ((k : Int) < (M : Int) + 1) = true := decide_eq_true (by omega)
            have hke : decide ((k : Int) ≤ (M : Int)) = true := decide_eq_true (by omega)
            have hwk : IntKind.i64.wrap ((k : Int) + 1) = (k : Int) + 1 := IntWalk.i64_in _ (by omega)
            go_wp2_with fail
            go_loopg [42] n (fun gg i wr => ∃ t : Nat, t + gg = n ∧ i = .int .i64 t ∧ Hid (∀ j, j < t → ffB gr keys (rdrAt o j) = false) ∧ Below wA.heap.size wA wr)
            case atStart => exact ⟨0, by omega, rfl, (fun j h => by omega), Below.refl _ _⟩
            case round =>
              obtain ⟨t, htg, rfl, HFt, hb⟩ := hrel
              have HBX := Lib.hid (Below.next HBA.out hb)
              clear p0_0 p0_1 p0_2
              obtain ⟨p0_0, p0_1, p0_2⟩ := FX.out _ HBX.out
              by_cases hlt2 : t < n
              · have HK : Hid (t < o.length) := by unfold Hid; rw [HOL.out]; exact hlt2
                have HRT : Hid (rdrAt o t = (o[t]'HK.out).heads) := rdrAt_eq HK.out
                have HOH : Hid (okH (o[t]'HK.out).heads) := HOK.out.2 _ (List.getElem_mem HK.out)
                obtain ⟨b_r, o_r, rfl, hcx⟩ := HRO.out.at_ (by omega)
                obtain ⟨us, hcell, hrd⟩ := hcx t HK.out
                clear hcx
                generalize o[t]'HK.out = r at hrd HRT HOH
                obtain ⟨ar_0, nr_0, cr_0, ers, kr_0⟩ := rdReader.1 ⟨us, rfl, hrd⟩
                obtain rfl : us = [.slice ar_0 nr_0 cr_0] := by have h := Value.agg.inj ers; simpa using congrArg Array.toList h
                clear ers hrd
                have y_r_0 : wr.cell? ⟨b_r, o_r + t * 1, none⟩ = some (.slice ar_0 nr_0 cr_0) := box_at (hcell 0 (by decide)) hb
                clear hcell
                have HR_r := Lib.hid ((kS rReader).rd_below (rdReader.2 ⟨_, _, _, rfl, kr_0⟩ : (kS rReader).rd wA (.agg #[.slice ar_0 nr_0 cr_0]) r) hb)
                have F_r_heads := Lib.hid ((kR 44 rHead).rd_below kr_0 hb)
                clear kr_0
                simp only [Nat.mul_one] at y_r_0
                (obtain ⟨q6, h_q⟩ : ∃ b_q, ffB gr keys r.heads = b_q := ⟨_, rfl⟩); have H6 := Lib.hid h_q; clear h_q
                have hwt : IntKind.i64.wrap ((t : Int) + 1) = (t : Int) + 1 := IntWalk.i64_in _ (by omega)
                have zl0 : w.heap.size < wr.heap.size := World.block_lt_of_cell? _ _ p0_0
                go_wp2_with fail
                clear zl0
                obtain ⟨V, hV⟩ : ∃ V, V = wr.alloc (.cells #[.slice ar_0 nr_0 cr_0] 101) := ⟨_, rfl⟩
                rw [← hV]
                have HV : Hid (Below wr.heap.size wr V) := by unfold Hid; rw [hV]; exact (Below.refl _ _).alloc (Nat.le_refl _) _
                have hsV : V.heap.size = wr.heap.size + 1 := by rw [hV]; simp
                have x_r_0 : V.cell? ⟨wr.heap.size, 0, none⟩ = some (.slice ar_0 nr_0 cr_0) := by rw [hV]; simp [go_sem]
                have HRV_r := Lib.hid ((kS rReader).rd_below HR_r.out HV.out)
                clear hV
                have HBV := Lib.hid (Below.next HBX.out HV.out)
                refine (spec_fFind gr keys _ r.heads _ _ HG.out HKK.out (HKW.out.below HBV.out) HOH.out.small (RdR.below F_r_heads.out HV.out)).mono ?_
                rintro ee w5 ⟨v5, rfl, ho5, hb5⟩
                rw [H6.out]
                generalize ffE gr keys r.heads = D at ho5
                obtain ⟨a3, n3, c3, a4, n4, c4, a5, n5, c5, a9, n9, c9, a10, n10, c10, a11, n11, c11, rfl, _⟩ := rdForkEvidence.1 ((kS rForkEvidence).own_rd ho5)
                have HB5 := Lib.hid (Below.next (Below.next hb HV.out) hb5)
                clear ho5 hb5
                cases q6 with
                | true =>
                  have HDI := Lib.hid (HSOME.out k t (by rw [HD.out]; exact detF_hit (detI_some HK.out (by rw [HRT.out]; exact H6.out) HFt.out)))
                  have hB5 := Below.next HBA.out HB5.out
                  go_wp2_with fail
                  go_ret3
                  exact ⟨ret_iibD HDI.out.1.symm HDI.out.2.1.symm HDI.out.2.2.symm, Below.next HWB.out (by first | exact hB5 | exact hB5.alloc hB5.size _)⟩
                | false =>
                  have HF2 : Hid (∀ j, j < t + 1 → ffB gr keys (rdrAt o j) = false) := fun j hj => by
                    rcases Nat.lt_succ_iff_lt_or_eq.1 hj with h | rfl
                    · exact HFt.out j h
                    · rw [HRT.out]; exact H6.out
                  go_wp2_with fail
                  go_roundg (n - (t + 1))
                  case measure => omega
                  case rel => exact ⟨t + 1, by omega, by go_num, HF2.out, by first | exact HB5.out | exact HB5.out.alloc HB5.out.size _⟩
              · obtain rfl : n = t := by omega
                have HDN : Hid (detI gr keys o = none) := detI_none (fun j hj => HFt.out j (by have := HOL.out; omega))
                have HBB := Lib.hid hb; clear hb
                go_wp2_with fail
                refine (spec_fRound _ o _ ps _ HOK.out (HRO.out.below HBB.out) (kRows.rd_below HPW.out HBX.out) (by rw [HOL.out, ← HE.out]; exact HPB.out)).mono ?_
                rintro ee w6 ⟨v6, rfl, ho6, hb6⟩
                obtain ⟨a7, n7, c7, rfl⟩ := (OwnR.rd ho6).shape
                have HB6 := Lib.hid (Below.next HBX.out hb6)
                clear hb6
                cases hg : gAll o ps with
                | none =>
                  have HNN := Lib.hid (HNONE.out (by rw [HD.out]; exact detF_stop HDN.out hg))
                  rw [(gos_no hg).1]
                  clear hg ho6
                  go_wp2_with fail
                  go_ret3
                  exact ⟨ret_iibD HNN.out.1.symm HNN.out.2.1.symm HNN.out.2.2.symm, Below.next HWB.out HB6.out⟩
                | some o' =>
                  have HDF : Hid (detF gr keys ps (M + 1) 0 rs = detF gr keys ps f (k + 1) o') := by unfold Hid; rw [HD.out]; exact detF_next HDN.out hg
                  have HOK2 : Hid (okRs o') := okRs_gos HOK.out hg (fun x y p hx hs => gStep_okR hx hs)
                  have HOL2 : Hid (o'.length = n) := by unfold Hid; rw [gAll_len hg]; exact HOL.out
                  rw [(gos_yes hg).1]
                  rw [(gos_yes hg).2] at ho6
                  have HR6 := Lib.hid (OwnR.rd ho6)
                  clear hg ho6
                  go_wp2_with fail
                  go_roundg f
                  case measure => omega
                  case rel => exact ⟨k + 1, o', by omega, by go_num, HDF.out, HOK2.out, HOL2.out, HR6.out, HB6.out⟩
          · obtain rfl : gk = 0 := by omega
            have HNN := Lib.hid (HNONE.out (by rw [HD.out]; rfl))
            have hkM : ¬ k ≤ M := by omega
            go_wp2_with fail
            go_ret3
            exact ⟨ret_iibD HNN.out.1.symm HNN.out.2.1.symm HNN.out.2.2.symm, Below.next HWB.out HBA.out⟩
end Go.Proofs.YtodennbdfloccaaGreat
