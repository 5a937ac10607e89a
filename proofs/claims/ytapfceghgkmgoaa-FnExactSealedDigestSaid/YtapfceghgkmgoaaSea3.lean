/- Walks: sealed ballots as records, the reference's. -/
import Derived.Test.YtapfceghgkmgoaaSea2
namespace Go.Proofs.Ytapfceghgkmgoaa
open Go.RowKit
set_option linter.unusedSimpArgs false
set_option linter.unusedVariables false

theorem szS_parts {d : SealedD} (h : (szSealed d : Int) ≤ 1048576) : d.ciphers.length ≤ 1048576 ∧ d.proofs.length ≤ 1048576 ∧ (d.proofs.map szProof).sum ≤ 1048576 ∧ szProof d.sum ≤ 1048576 := by
  unfold szSealed szCipherS szProofS at h
  omega
theorem one_ints (w : World) {x : Int} (h : I64 x) : InI (w.alloc (.cells #[.int .i64 x] 3)) w.heap.size (w.heap.size + 1) (.slice (some ⟨w.heap.size, 0, none⟩) 1 1) [x] := by
  have := InI.of_own (OwnI.lit1 (B := w.heap.size) w (Nat.le_refl _) h)
  simpa using this
set_option maxRecDepth 100000 in
set_option maxHeartbeats 8000000 in
theorem spec_bRecord (v : Value) (d : SealedD) (w : World) (hz : (szSealed d : Int) ≤ 1048576) (h : (kS rSealed).rd w v d) :
    Calls Try.prog 103 #[v] w fun e w' => ∃ v', e = .returned v' ∧ OwnI w' w.heap.size v' (joinL (seaParts d)) ∧ Below w.heap.size w w' := by
  have HZ := Lib.hid (szS_parts hz)
  clear hz
  obtain ⟨ad_1, nd_1, cd_1, ad_2, nd_2, cd_2, ad_3, nd_3, cd_3, ad_4, nd_4, cd_4, ad_5, nd_5, cd_5, rfl, jd_0, kd_1, kd_2, kd_3, kd_4, kd_5⟩ := rdSealed.1 h
  obtain ⟨W, hW⟩ : ∃ W, W = (w.alloc (.cells #[.int .i64 d.voter, .slice ad_1 nd_1 cd_1, .slice ad_2 nd_2 cd_2, .slice ad_3 nd_3 cd_3, .slice ad_4 nd_4 cd_4, .slice ad_5 nd_5 cd_5] 49)) := ⟨_, rfl⟩
  have HWB : Hid (Below w.heap.size w W) := by unfold Hid; rw [hW]; (repeat (first | exact Below.refl _ _ | assumption | refine Below.drew ?_ | refine Below.alloc ?_ (by first | (simp; done) | (simp; omega)) _ | refine Below.setCell ?_ (by first | (simp; done) | (simp; omega)) _))
  have FX : Hid (∀ W', Below W.heap.size W W' → W'.cell? ⟨w.heap.size, 0, none⟩ = some (.int .i64 d.voter) ∧ W'.cell? ⟨w.heap.size, 1, none⟩ = some (.slice ad_1 nd_1 cd_1) ∧ W'.cell? ⟨w.heap.size, 2, none⟩ = some (.slice ad_2 nd_2 cd_2) ∧ W'.cell? ⟨w.heap.size, 3, none⟩ = some (.slice ad_3 nd_3 cd_3) ∧ W'.cell? ⟨w.heap.size, 4, none⟩ = some (.slice ad_4 nd_4 cd_4) ∧ W'.cell? ⟨w.heap.size, 5, none⟩ = some (.slice ad_5 nd_5 cd_5)) := fun W' hb => by
    exact ⟨box_at (by rw [hW]; simp [go_sem]) hb, box_at (by rw [hW]; simp [go_sem]) hb, box_at (by rw [hW]; simp [go_sem]) hb, box_at (by rw [hW]; simp [go_sem]) hb, box_at (by rw [hW]; simp [go_sem]) hb, box_at (by rw [hW]; simp [go_sem]) hb⟩
  have hsW : W.heap.size = w.heap.size + 1 := by rw [hW]; simp
  have Hd := Lib.hid ((kS rSealed).rd_below h HWB.out); clear h
  have Jd_0 := Lib.hid jd_0; clear jd_0
  have F_d_ciphers := Lib.hid ((kR 225 rCipher).rd_below kd_1 HWB.out)
  have F_d_proofs := Lib.hid ((kR 47 rProof).rd_below kd_2 HWB.out)
  have F_d_sum := Lib.hid ((kS rProof).rd_below (w := w) (rdProof.2 ⟨_, _, _, _, _, _, _, _, _, rfl, kd_3, kd_4, kd_5⟩ : (kS rProof).rd w (.agg #[.slice ad_3 nd_3 cd_3, .slice ad_4 nd_4 cd_4, .slice ad_5 nd_5 cd_5]) d.sum) HWB.out)
  clear kd_1 kd_2 kd_3 kd_4 kd_5
  have HW := Lib.hid hW; clear hW
  have hel := (F_d_proofs.out : RdR _ _ _ _).len
  have HE := Lib.hid hel
  have hn8 : nd_2 ≤ 1048576 := by have := HZ.out.2.1; omega
  clear hel hsW
  go_enter Try.func103, Try.ntmps103
  go_wp2_with fail
  rw [← HW.out]
  have hcum : Below W.heap.size W W := Below.refl _ _
  obtain ⟨p0_0, p0_1, p0_2, p0_3, p0_4, p0_5⟩ := FX.out _ hcum
  go_region_held3 (fun w' => Below W.heap.size W w' ∧ w'.cell? ⟨w.heap.size, 0, none⟩ = some (.int .i64 d.voter) ∧ w'.cell? ⟨w.heap.size, 1, none⟩ = some (.slice ad_1 nd_1 cd_1)) ((refine (fun (hbq : Below W.heap.size W _) => ⟨hbq, box_at p0_0 hbq, box_at p0_1 hbq⟩) ?_; first | exact (Below.refl _ _).drew | exact ((Below.refl _ _).alloc (Nat.le_refl _) _).drew | assumption | exact keep_a (by assumption) _ | exact keep_a (keep_a (by assumption) _) _ | fail)) ((first
    | (go_at_call 192; refine (spec_cCiphers _ d.ciphers _ ((kR 225 rCipher).rd_below F_d_ciphers.out (And.left (by assumption))) (by have := HZ.out.1; omega)).mono ?_; rintro e w1 ⟨v1, rfl, ho1, hb1⟩; (have HO1 := Lib.hid ho1); (obtain ⟨a1, c1, rfl⟩ := ho1.shape); clear ho1; (have hbz : Below W.heap.size W w1 := keep_b hb1 (And.left (by assumption))); (have HB1 := Lib.hid hb1))
    | fail))
  · have us := hbz.size
    have hw1 : W.heap.size + 1 ≤ w1.heap.size := by have := HB1.out.size; simpa using this
    have h1 : kInts.own w1 W.heap.size (W.heap.size + 1) (.slice (some ⟨W.heap.size, 0, none⟩) 1 1) [d.voter] := Kind.next (K := kInts) (Kind.next (K := kInts) (one_ints W Jd_0.out) (Below.refl _ _).drew) HB1.out
    have h2 : kInts.own w1 (W.heap.size + 1) w1.heap.size (.slice a1 (cipL d.ciphers).length c1) (cipL d.ciphers) := by have := InI.of_own HO1.out; simpa [kInts] using this
    obtain ⟨U, hU⟩ : ∃ U, U = w1.alloc (.cells #[.slice (some ⟨W.heap.size, 0, none⟩) 1 1, .slice a1 (cipL d.ciphers).length c1] 37) := ⟨_, rfl⟩
    have hOU : OwnL 37 kInts U W.heap.size U.heap.size (.slice (some ⟨w1.heap.size, 0, none⟩) 2 2) (seaTo d.voter d.ciphers d.proofs 0) := by
      rw [hU]; exact OwnL.two h1 h2 (.inl (Nat.le_refl _)) (Nat.le_refl _) (Nat.le_succ _) hw1 (Nat.le_refl _) us
    rw [← hU]
    have hUB : Below W.heap.size W U := by rw [hU]; exact keep_a hbz _
    clear h1 h2 hU p0_0 p0_1 p0_2 p0_3 p0_4 p0_5
    obtain ⟨p0_0, p0_1, p0_2, p0_3, p0_4, p0_5⟩ := FX.out _ hUB
    have HUB := Lib.hid hUB
    have HOU := Lib.hid hOU
    clear hUB hOU
    have hsU := HUB.out.size
    go_wp2_with fail
    go_loopg [3, 16] nd_2 (fun g out iv wr => ∃ k : Nat, k + g = nd_2 ∧ iv = .int .i64 k ∧ OwnL 37 kInts wr W.heap.size wr.heap.size out (seaTo d.voter d.ciphers d.proofs k) ∧ Below W.heap.size W wr)
    case atStart => exact ⟨0, by omega, rfl, HOU.out, HUB.out⟩
    case round =>
      obtain ⟨k, hkg, rfl, hown, hb⟩ := hrel
      obtain ⟨ao, no, co, hv⟩ := (OwnL.rd hown).shape
      subst hv
      have hLN := (OwnL.rd hown).len
      rw [seaTo_length (by have := HE.out; omega)] at hLN
      obtain ⟨p0_0, p0_1, p0_2, p0_3, p0_4, p0_5⟩ := FX.out _ hb
      have HOW := Lib.hid hown
      clear hown
      by_cases hlt : k < nd_2
      · have HK : Hid (k < d.proofs.length) := by unfold Hid; rw [HE.out]; exact hlt
        have HS := Lib.hid (seaTo_succ (v := d.voter) (cs := d.ciphers) HK.out)
        have HM := Lib.hid (sz_mem (List.getElem_mem HK.out))
        obtain ⟨b_x, o_x, rfl, hcx⟩ := F_d_proofs.out.at_ (by omega)
        obtain ⟨us, hcell, hrd⟩ := hcx k HK.out
        clear hcx
        generalize d.proofs[k]'HK.out = x at hrd HS HM
        obtain ⟨ax_0, nx_0, cx_0, ax_1, nx_1, cx_1, ax_2, nx_2, cx_2, ers, kx_0, kx_1, kx_2⟩ := rdProof.1 ⟨us, rfl, hrd⟩
        obtain rfl : us = [.slice ax_0 nx_0 cx_0, .slice ax_1 nx_1 cx_1, .slice ax_2 nx_2 cx_2] := by have h := Value.agg.inj ers; simpa using congrArg Array.toList h
        clear ers hrd
        have y_x_0 : wr.cell? ⟨b_x, o_x + k * 3, none⟩ = some (.slice ax_0 nx_0 cx_0) := box_at (hcell 0 (by decide)) hb
        have y_x_1 : wr.cell? ⟨b_x, o_x + k * 3 + 1, none⟩ = some (.slice ax_1 nx_1 cx_1) := box_at (hcell 1 (by decide)) hb
        have y_x_2 : wr.cell? ⟨b_x, o_x + k * 3 + 2, none⟩ = some (.slice ax_2 nx_2 cx_2) := box_at (hcell 2 (by decide)) hb
        clear hcell
        have HR_x := Lib.hid ((kS rProof).rd_below (rdProof.2 ⟨_, _, _, _, _, _, _, _, _, rfl, kx_0, kx_1, kx_2⟩ : (kS rProof).rd W (.agg #[.slice ax_0 nx_0 cx_0, .slice ax_1 nx_1 cx_1, .slice ax_2 nx_2 cx_2]) x) hb)
        have F_x_c := Lib.hid (sInts.rd_below kx_0 hb)
        have F_x_h := Lib.hid (sInts.rd_below kx_1 hb)
        have F_x_r := Lib.hid (sInts.rd_below kx_2 hb)
        clear kx_0 kx_1 kx_2
        have hwk : IntKind.i64.wrap ((k : Int) + 1) = (k : Int) + 1 := IntWalk.i64_in _ (by omega)
        have HB := Lib.hid hb; clear hb
        have HLN := Lib.hid hLN
        clear hLN p0_0 p0_1 p0_2 p0_3 p0_4 p0_5
        go_wp2_with fail
        obtain ⟨V, hV⟩ : ∃ V, V = wr.alloc (.cells #[.slice ax_0 nx_0 cx_0, .slice ax_1 nx_1 cx_1, .slice ax_2 nx_2 cx_2] 47) := ⟨_, rfl⟩
        rw [← hV]
        have HV : Hid (Below wr.heap.size wr V) := by unfold Hid; rw [hV]; exact (Below.refl _ _).alloc (Nat.le_refl _) _
        have hsV : V.heap.size = wr.heap.size + 1 := by rw [hV]; simp
        have x_x_0 : V.cell? ⟨wr.heap.size, 0, none⟩ = some (.slice ax_0 nx_0 cx_0) := by rw [hV]; simp [go_sem]
        have x_x_1 : V.cell? ⟨wr.heap.size, 1, none⟩ = some (.slice ax_1 nx_1 cx_1) := by rw [hV]; simp [go_sem]
        have x_x_2 : V.cell? ⟨wr.heap.size, 2, none⟩ = some (.slice ax_2 nx_2 cx_2) := by rw [hV]; simp [go_sem]
        have HRV_x := Lib.hid ((kS rProof).rd_below HR_x.out HV.out)
        clear hV
        go_wp2_with fail
        refine (spec_cProof _ x _ (rdP_of HRV_x.out) (show ((szProof x : Nat) : Int) ≤ 1000000000 by have := HM.out; have := HZ.out.2.2.1; omega)).mono ?_
        rintro e w2 ⟨v2, rfl, ho2, hb2⟩
        obtain ⟨a2, c2, rfl⟩ := ho2.shape
        have HO2 := Lib.hid ho2
        have HB2 := Lib.hid hb2
        have hs2 := hb2.size
        have hsw := HB.out.size
        clear ho2 hb2
        go_wp2_with (at_builtin; refine wpList_append_rows rfl _ _ rfl W.heap.size wr.heap.size V.heap.size w2.heap.size (.slice ao no co) (.slice a2 (epL x).length c2) (seaTo d.voter d.ciphers d.proofs k) (epL x) w2.heap.size 1 rfl rfl (Kind.next (K := kRows) (Kind.next (K := kRows) (Kind.next (K := kRows) HOW.out HV.out) HB2.out) ((Below.refl _ _).alloc (Nat.le_refl _) _)) (Kind.next (K := kInts) (InI.of_own HO2.out) ((Below.refl _ _).alloc (Nat.le_refl _) _)) (by omega) (by simp) (by first | (simp; done) | (simp; omega) | omega) hsw (by simp [go_sem]) (by have h1 := seaTo_length (v := d.voter) (cs := d.ciphers) (ps := d.proofs) (k := k) (by have := HE.out; omega); have := HZ.out.2.1; omega) ?_; intro v' w4 hO4 hb4)
        have HO4 := Lib.hid hO4
        have HB4 : Hid (Below W.heap.size W w4) := ((((HB.out.trans (HV.out.mono hsw)).trans (HB2.out.mono (by omega))).alloc (by omega) _)).trans hb4
        clear hO4 hb4
        go_wp2_with fail
        go_roundg (nd_2 - (k + 1))
        case measure => omega
        case rel => exact ⟨k + 1, by omega, by go_num, by rw [HS.out]; exact HO4.out, HB4.out⟩
      · obtain rfl : nd_2 = k := by omega
        have HLN := Lib.hid hLN
        have HB := Lib.hid hb; clear hb hLN
        go_wp2_with fail
        refine (spec_cProof _ d.sum _ (rdP_of ((kS rProof).rd_below F_d_sum.out HB.out)) (show ((szProof d.sum : Nat) : Int) ≤ 1000000000 by have := HZ.out.2.2.2; omega)).mono ?_
        rintro e w2 ⟨v2, rfl, ho2, hb2⟩
        obtain ⟨a2, c2, rfl⟩ := ho2.shape
        have HO2 := Lib.hid ho2
        have HB2 := Lib.hid hb2
        have hs2 := hb2.size
        have hsw := HB.out.size
        clear ho2 hb2 p0_0 p0_1 p0_2 p0_3 p0_4 p0_5
        have HPP : Hid (seaTo d.voter d.ciphers d.proofs nd_2 ++ [epL d.sum] = seaParts d) := by
          unfold Hid seaTo seaParts; rw [List.take_of_length_le (by have := HE.out; omega), List.map_append]; rfl
        have HTT : Hid (((seaParts d).length : Int) + total (seaParts d) ≤ 1000000000) := by
          unfold Hid
          rw [← seaTo_all, seaTo_length (Nat.le_refl _)]
          have := seaTo_total (v := d.voter) (cs := d.ciphers) (ps := d.proofs ++ [d.sum]) (Nat.le_refl _)
          rw [List.map_append, List.sum_append] at this
          simp only [List.length_append, List.length_cons, List.length_nil, List.map_cons, List.map_nil, List.sum_cons, List.sum_nil] at this ⊢
          have := HZ.out.1; have := HZ.out.2.1; have := HZ.out.2.2.1; have := HZ.out.2.2.2
          omega
        go_wp2_with (at_builtin; refine wpList_append_rows rfl _ _ rfl W.heap.size wr.heap.size wr.heap.size w2.heap.size (.slice ao no co) (.slice a2 (epL d.sum).length c2) (seaTo d.voter d.ciphers d.proofs nd_2) (epL d.sum) w2.heap.size 1 rfl rfl (Kind.next (K := kRows) (Kind.next (K := kRows) HOW.out HB2.out) ((Below.refl _ _).alloc (Nat.le_refl _) _)) (Kind.next (K := kInts) (InI.of_own HO2.out) ((Below.refl _ _).alloc (Nat.le_refl _) _)) (Nat.le_refl _) (by simp) (by first | (simp; done) | (simp; omega) | omega) hsw (by simp [go_sem]) (by have h1 := seaTo_length (v := d.voter) (cs := d.ciphers) (ps := d.proofs) (k := nd_2) (by have := HE.out; omega); have := HZ.out.2.1; have := HE.out; omega) ?_; intro v' w4 hO4 hb4)
        rw [HPP.out] at hO4
        have HO4 := Lib.hid hO4
        have HB4 : Hid (Below W.heap.size W w4) := ((HB.out.trans (HB2.out.mono hsw)).alloc (by omega) _).trans hb4
        clear hO4 hb4
        refine (spec_cJoin _ (seaParts d) _ (OwnL.rd HO4.out) HTT.out).mono ?_
        rintro e w5 ⟨v5, rfl, ho5, hb5⟩
        have HO5 := Lib.hid ho5
        have HB5 := Lib.hid (Below.next HWB.out (HB4.out.trans (hb5.mono HB4.out.size)))
        have hs5 := HB4.out.size
        have hs6 := HWB.out.size
        clear ho5 hb5
        go_wp2_with fail
        go_ret
        exact ⟨_, rfl, HO5.out.mono (by omega), HB5.out⟩
  · have us := hbz.size
    have h1 : kInts.own (w1.alloc (.cells #[.int .i64 d.voter] 3)) w1.heap.size (w1.heap.size + 1) (.slice (some ⟨w1.heap.size, 0, none⟩) 1 1) [d.voter] := one_ints w1 Jd_0.out
    have h2 : kInts.own (w1.alloc (.cells #[.int .i64 d.voter] 3)) W.heap.size w1.heap.size (.slice a1 (cipL d.ciphers).length c1) (cipL d.ciphers) := by
      have := Kind.next (K := kInts) (InI.of_own HO1.out) ((Below.refl _ _).alloc (Nat.le_refl _) (.cells #[.int .i64 d.voter] 3))
      simpa [kInts] using this
    obtain ⟨U, hU⟩ : ∃ U, U = (w1.alloc (.cells #[.int .i64 d.voter] 3)).alloc (.cells #[.slice (some ⟨w1.heap.size, 0, none⟩) 1 1, .slice a1 (cipL d.ciphers).length c1] 37) := ⟨_, rfl⟩
    have hOU : OwnL 37 kInts U W.heap.size U.heap.size (.slice (some ⟨w1.heap.size + 1, 0, none⟩) 2 2) (seaTo d.voter d.ciphers d.proofs 0) := by
      have h3 := OwnL.two (lo := W.heap.size) h1 h2 (.inr (Nat.le_refl _)) us (Nat.le_refl _) (by simp) (by simp) (by simp; omega)
      have e1 : (w1.alloc (.cells #[.int .i64 d.voter] 3)).heap.size = w1.heap.size + 1 := by simp
      rw [e1] at h3
      rw [hU]; exact h3
    rw [← hU]
    have hUB : Below W.heap.size W U := by rw [hU]; exact keep_a (keep_a hbz _) _
    clear h1 h2 hU p0_0 p0_1 p0_2 p0_3 p0_4 p0_5
    obtain ⟨p0_0, p0_1, p0_2, p0_3, p0_4, p0_5⟩ := FX.out _ hUB
    have HUB := Lib.hid hUB
    have HOU := Lib.hid hOU
    clear hUB hOU
    have hsU := HUB.out.size
    go_wp2_with fail
    go_loopg [3, 16] nd_2 (fun g out iv wr => ∃ k : Nat, k + g = nd_2 ∧ iv = .int .i64 k ∧ OwnL 37 kInts wr W.heap.size wr.heap.size out (seaTo d.voter d.ciphers d.proofs k) ∧ Below W.heap.size W wr)
    case atStart => exact ⟨0, by omega, rfl, HOU.out, HUB.out⟩
    case round =>
      obtain ⟨k, hkg, rfl, hown, hb⟩ := hrel
      obtain ⟨ao, no, co, hv⟩ := (OwnL.rd hown).shape
      subst hv
      have hLN := (OwnL.rd hown).len
      rw [seaTo_length (by have := HE.out; omega)] at hLN
      obtain ⟨p0_0, p0_1, p0_2, p0_3, p0_4, p0_5⟩ := FX.out _ hb
      have HOW := Lib.hid hown
      clear hown
      by_cases hlt : k < nd_2
      · have HK : Hid (k < d.proofs.length) := by unfold Hid; rw [HE.out]; exact hlt
        have HS := Lib.hid (seaTo_succ (v := d.voter) (cs := d.ciphers) HK.out)
        have HM := Lib.hid (sz_mem (List.getElem_mem HK.out))
        obtain ⟨b_x, o_x, rfl, hcx⟩ := F_d_proofs.out.at_ (by omega)
        obtain ⟨us, hcell, hrd⟩ := hcx k HK.out
        clear hcx
        generalize d.proofs[k]'HK.out = x at hrd HS HM
        obtain ⟨ax_0, nx_0, cx_0, ax_1, nx_1, cx_1, ax_2, nx_2, cx_2, ers, kx_0, kx_1, kx_2⟩ := rdProof.1 ⟨us, rfl, hrd⟩
        obtain rfl : us = [.slice ax_0 nx_0 cx_0, .slice ax_1 nx_1 cx_1, .slice ax_2 nx_2 cx_2] := by have h := Value.agg.inj ers; simpa using congrArg Array.toList h
        clear ers hrd
        have y_x_0 : wr.cell? ⟨b_x, o_x + k * 3, none⟩ = some (.slice ax_0 nx_0 cx_0) := box_at (hcell 0 (by decide)) hb
        have y_x_1 : wr.cell? ⟨b_x, o_x + k * 3 + 1, none⟩ = some (.slice ax_1 nx_1 cx_1) := box_at (hcell 1 (by decide)) hb
        have y_x_2 : wr.cell? ⟨b_x, o_x + k * 3 + 2, none⟩ = some (.slice ax_2 nx_2 cx_2) := box_at (hcell 2 (by decide)) hb
        clear hcell
        have HR_x := Lib.hid ((kS rProof).rd_below (rdProof.2 ⟨_, _, _, _, _, _, _, _, _, rfl, kx_0, kx_1, kx_2⟩ : (kS rProof).rd W (.agg #[.slice ax_0 nx_0 cx_0, .slice ax_1 nx_1 cx_1, .slice ax_2 nx_2 cx_2]) x) hb)
        have F_x_c := Lib.hid (sInts.rd_below kx_0 hb)
        have F_x_h := Lib.hid (sInts.rd_below kx_1 hb)
        have F_x_r := Lib.hid (sInts.rd_below kx_2 hb)
        clear kx_0 kx_1 kx_2
        have hwk : IntKind.i64.wrap ((k : Int) + 1) = (k : Int) + 1 := IntWalk.i64_in _ (by omega)
        have HB := Lib.hid hb; clear hb
        have HLN := Lib.hid hLN
        clear hLN p0_0 p0_1 p0_2 p0_3 p0_4 p0_5
        go_wp2_with fail
        obtain ⟨V, hV⟩ : ∃ V, V = wr.alloc (.cells #[.slice ax_0 nx_0 cx_0, .slice ax_1 nx_1 cx_1, .slice ax_2 nx_2 cx_2] 47) := ⟨_, rfl⟩
        rw [← hV]
        have HV : Hid (Below wr.heap.size wr V) := by unfold Hid; rw [hV]; exact (Below.refl _ _).alloc (Nat.le_refl _) _
        have hsV : V.heap.size = wr.heap.size + 1 := by rw [hV]; simp
        have x_x_0 : V.cell? ⟨wr.heap.size, 0, none⟩ = some (.slice ax_0 nx_0 cx_0) := by rw [hV]; simp [go_sem]
        have x_x_1 : V.cell? ⟨wr.heap.size, 1, none⟩ = some (.slice ax_1 nx_1 cx_1) := by rw [hV]; simp [go_sem]
        have x_x_2 : V.cell? ⟨wr.heap.size, 2, none⟩ = some (.slice ax_2 nx_2 cx_2) := by rw [hV]; simp [go_sem]
        have HRV_x := Lib.hid ((kS rProof).rd_below HR_x.out HV.out)
        clear hV
        go_wp2_with fail
        refine (spec_cProof _ x _ (rdP_of HRV_x.out) (show ((szProof x : Nat) : Int) ≤ 1000000000 by have := HM.out; have := HZ.out.2.2.1; omega)).mono ?_
        rintro e w2 ⟨v2, rfl, ho2, hb2⟩
        obtain ⟨a2, c2, rfl⟩ := ho2.shape
        have HO2 := Lib.hid ho2
        have HB2 := Lib.hid hb2
        have hs2 := hb2.size
        have hsw := HB.out.size
        clear ho2 hb2
        go_wp2_with (at_builtin; refine wpList_append_rows rfl _ _ rfl W.heap.size wr.heap.size V.heap.size w2.heap.size (.slice ao no co) (.slice a2 (epL x).length c2) (seaTo d.voter d.ciphers d.proofs k) (epL x) w2.heap.size 1 rfl rfl (Kind.next (K := kRows) (Kind.next (K := kRows) (Kind.next (K := kRows) HOW.out HV.out) HB2.out) ((Below.refl _ _).alloc (Nat.le_refl _) _)) (Kind.next (K := kInts) (InI.of_own HO2.out) ((Below.refl _ _).alloc (Nat.le_refl _) _)) (by omega) (by simp) (by first | (simp; done) | (simp; omega) | omega) hsw (by simp [go_sem]) (by have h1 := seaTo_length (v := d.voter) (cs := d.ciphers) (ps := d.proofs) (k := k) (by have := HE.out; omega); have := HZ.out.2.1; omega) ?_; intro v' w4 hO4 hb4)
        have HO4 := Lib.hid hO4
        have HB4 : Hid (Below W.heap.size W w4) := ((((HB.out.trans (HV.out.mono hsw)).trans (HB2.out.mono (by omega))).alloc (by omega) _)).trans hb4
        clear hO4 hb4
        go_wp2_with fail
        go_roundg (nd_2 - (k + 1))
        case measure => omega
        case rel => exact ⟨k + 1, by omega, by go_num, by rw [HS.out]; exact HO4.out, HB4.out⟩
      · obtain rfl : nd_2 = k := by omega
        have HLN := Lib.hid hLN
        have HB := Lib.hid hb; clear hb hLN
        go_wp2_with fail
        refine (spec_cProof _ d.sum _ (rdP_of ((kS rProof).rd_below F_d_sum.out HB.out)) (show ((szProof d.sum : Nat) : Int) ≤ 1000000000 by have := HZ.out.2.2.2; omega)).mono ?_
        rintro e w2 ⟨v2, rfl, ho2, hb2⟩
        obtain ⟨a2, c2, rfl⟩ := ho2.shape
        have HO2 := Lib.hid ho2
        have HB2 := Lib.hid hb2
        have hs2 := hb2.size
        have hsw := HB.out.size
        clear ho2 hb2 p0_0 p0_1 p0_2 p0_3 p0_4 p0_5
        have HPP : Hid (seaTo d.voter d.ciphers d.proofs nd_2 ++ [epL d.sum] = seaParts d) := by
          unfold Hid seaTo seaParts; rw [List.take_of_length_le (by have := HE.out; omega), List.map_append]; rfl
        have HTT : Hid (((seaParts d).length : Int) + total (seaParts d) ≤ 1000000000) := by
          unfold Hid
          rw [← seaTo_all, seaTo_length (Nat.le_refl _)]
          have := seaTo_total (v := d.voter) (cs := d.ciphers) (ps := d.proofs ++ [d.sum]) (Nat.le_refl _)
          rw [List.map_append, List.sum_append] at this
          simp only [List.length_append, List.length_cons, List.length_nil, List.map_cons, List.map_nil, List.sum_cons, List.sum_nil] at this ⊢
          have := HZ.out.1; have := HZ.out.2.1; have := HZ.out.2.2.1; have := HZ.out.2.2.2
          omega
        go_wp2_with (at_builtin; refine wpList_append_rows rfl _ _ rfl W.heap.size wr.heap.size wr.heap.size w2.heap.size (.slice ao no co) (.slice a2 (epL d.sum).length c2) (seaTo d.voter d.ciphers d.proofs nd_2) (epL d.sum) w2.heap.size 1 rfl rfl (Kind.next (K := kRows) (Kind.next (K := kRows) HOW.out HB2.out) ((Below.refl _ _).alloc (Nat.le_refl _) _)) (Kind.next (K := kInts) (InI.of_own HO2.out) ((Below.refl _ _).alloc (Nat.le_refl _) _)) (Nat.le_refl _) (by simp) (by first | (simp; done) | (simp; omega) | omega) hsw (by simp [go_sem]) (by have h1 := seaTo_length (v := d.voter) (cs := d.ciphers) (ps := d.proofs) (k := nd_2) (by have := HE.out; omega); have := HZ.out.2.1; have := HE.out; omega) ?_; intro v' w4 hO4 hb4)
        rw [HPP.out] at hO4
        have HO4 := Lib.hid hO4
        have HB4 : Hid (Below W.heap.size W w4) := ((HB.out.trans (HB2.out.mono hsw)).alloc (by omega) _).trans hb4
        clear hO4 hb4
        refine (spec_cJoin _ (seaParts d) _ (OwnL.rd HO4.out) HTT.out).mono ?_
        rintro e w5 ⟨v5, rfl, ho5, hb5⟩
        have HO5 := Lib.hid ho5
        have HB5 := Lib.hid (Below.next HWB.out (HB4.out.trans (hb5.mono HB4.out.size)))
        have hs5 := HB4.out.size
        have hs6 := HWB.out.size
        clear ho5 hb5
        go_wp2_with fail
        go_ret
        exact ⟨_, rfl, HO5.out.mono (by omega), HB5.out⟩
end Go.Proofs.Ytapfceghgkmgoaa
