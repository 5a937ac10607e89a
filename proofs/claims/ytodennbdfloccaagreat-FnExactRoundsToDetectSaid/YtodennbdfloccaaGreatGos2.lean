/- Walks: a round of gossip. -/
import Derived.Test.YtodennbdfloccaaGreatGosP
import Derived.Test.YtodennbdfloccaaGreatRegU
namespace Go.Proofs.YtodennbdfloccaaGreat
open Go.RowKit
set_option linter.unusedSimpArgs false
set_option linter.unusedVariables false

set_option maxRecDepth 100000 in
set_option maxHeartbeats 8000000 in
theorem impl_gossip (v : Value) (rs : List ReaderD) (vp : Value) (ps : List (List Int)) (w : World) (hz : okRs rs) (h : RdR rReader w v rs) (hp : RdL kInts w vp ps) (hpb : pairsB (rs.length : Int) ps = true) :
    Calls Tryz.prog 67 #[v, vp] w fun e w' => ∃ v', e = .returned (.tuple #[v', .bool (gosB rs ps)]) ∧ OwnR 101 rReader w' w.heap.size w'.heap.size v' (gosL rs ps) ∧ Below w.heap.size w w' := by
  obtain ⟨ar, n, c, rfl⟩ := h.shape
  obtain ⟨ap, np, cp, rfl⟩ := hp.shape
  have el := h.len
  have ep := hp.len
  have hn8 : n ≤ 8 := by have := hz.1; omega
  have hnp : np ≤ 20 := by have := pairsB_len hpb; omega
  have HE := Lib.hid el; have HEP := Lib.hid ep
  have HZ := Lib.hid hz; have HH := Lib.hid h; have HP := Lib.hid hp; have HPB := Lib.hid hpb
  have HNO : Hid (gAll rs ps = none → gosB rs ps = false ∧ gosL rs ps = []) := gos_no
  have HYES : Hid (∀ o, gAll rs ps = some o → gosB rs ps = true ∧ gosL rs ps = o) := fun o => gos_yes
  obtain ⟨ti, hti, htz, hts, htb⟩ := info_Reader
  have HI : Hid (Tryz.prog.info? 101 = some ti ∧ ti.zero = some (.agg #[.slice none 0 0]) ∧ ti.size = 1 ∧ ti.bytes ≤ 1000) := ⟨hti, htz, hts, htb⟩
  have HO0 := Lib.hid (OwnR.lit0 101 rReader w w.heap.size (Nat.le_refl _))
  clear h hp hz hpb el ep hti htz hts htb
  go_enter Tryz.func67, Tryz.ntmps67
  go_wp2_with fail
  go_loopg [6, 22] n (fun gg ov i wr => ∃ k : Nat, k + gg = n ∧ i = .int .i64 k ∧ OwnR 101 rReader wr w.heap.size wr.heap.size ov (rs.take k) ∧ Below w.heap.size w wr)
  case atStart => exact ⟨0, by omega, rfl, HO0.out, (Below.refl _ _).alloc (Nat.le_refl _) _⟩
  case round =>
    obtain ⟨k, hkg, rfl, hO, hb⟩ := hrel
    by_cases hlt : k < n
    · have HK : Hid (k < rs.length) := by unfold Hid; rw [HE.out]; exact hlt
      have HOKH : Hid (okH (rs[k]'HK.out).heads) := HZ.out.2 _ (List.getElem_mem HK.out)
      have HS := Lib.hid (List.take_succ_eq_append_getElem HK.out)
      have hlk : Hid ((rs.take k).length ≤ 1000000000) := by unfold Hid; rw [List.length_take]; omega
      obtain ⟨b_r, o_r, rfl, hcx⟩ := HH.out.at_ (by omega)
      obtain ⟨us, hcell, hrd⟩ := hcx k HK.out
      clear hcx
      generalize rs[k]'HK.out = r at hrd HOKH HS
      obtain ⟨ar_0, nr_0, cr_0, ers, kr_0⟩ := rdReader.1 ⟨us, rfl, hrd⟩
      obtain rfl : us = [.slice ar_0 nr_0 cr_0] := by have h := Value.agg.inj ers; simpa using congrArg Array.toList h
      clear ers hrd
      have y_r_0 : wr.cell? ⟨b_r, o_r + k * 1, none⟩ = some (.slice ar_0 nr_0 cr_0) := box_at (hcell 0 (by decide)) hb
      clear hcell
      have HR_r := Lib.hid ((kS rReader).rd_below (rdReader.2 ⟨_, _, _, rfl, kr_0⟩ : (kS rReader).rd w (.agg #[.slice ar_0 nr_0 cr_0]) r) hb)
      have F_r_heads := Lib.hid ((kR 44 rHead).rd_below kr_0 hb)
      clear kr_0
      simp only [Nat.mul_one] at y_r_0
      obtain ⟨a6, n6, c6, rfl⟩ := (OwnR.rd hO).shape
      have HO := Lib.hid hO; clear hO
      have hbw := hb.size
      go_wp2_with fail
      obtain ⟨V, hV⟩ : ∃ V, V = wr.alloc (.cells #[.slice ar_0 nr_0 cr_0] 101) := ⟨_, rfl⟩
      rw [← hV]
      have HV : Hid (Below wr.heap.size wr V) := by unfold Hid; rw [hV]; exact (Below.refl _ _).alloc (Nat.le_refl _) _
      have hsV : V.heap.size = wr.heap.size + 1 := by rw [hV]; simp
      have x_r_0 : V.cell? ⟨wr.heap.size, 0, none⟩ = some (.slice ar_0 nr_0 cr_0) := by rw [hV]; simp [go_sem]
      have HRV_r := Lib.hid ((kS rReader).rd_below HR_r.out HV.out)
      clear hV
      refine (impl_mergeHeads _ r.heads _ [] _ HOKH.out.small (RdR.below F_r_heads.out HV.out) ⟨Nat.zero_le _, fun d hd => by simp at hd⟩ (RdR.nil _ _)).mono ?_
      rintro ee w1 ⟨v1, rfl, ho1, hb1⟩
      rw [mergeL_nil] at ho1
      try rw [if_pos HOKH.out.1] at ho1
      obtain ⟨a1, n1, c1, rfl⟩ := (OwnR.rd ho1).shape
      have hb1s := hb1.size
      have HX := Lib.hid (own_reader ho1 hb1s)
      have HB1 := Lib.hid (Below.next (Below.next hb HV.out) hb1)
      have HO1 := Lib.hid (Kind.next (K := (kR 101 rReader).toKind) (Kind.next (K := (kR 101 rReader).toKind) HO.out HV.out) hb1)
      clear ho1 hb1
      go_wp2_with (first
        | (at_builtin; refine wpList_append_R rReader 74 101 ti (.agg #[.slice none 0 0]) Tryz.underlying74 HI.out.1 HI.out.2.1 HI.out.2.2.1 HI.out.2.2.2 rfl (by decide) rfl _ _ rfl w.heap.size wr.heap.size V.heap.size w1.heap.size (.slice a6 n6 c6) (rs.take k) [.slice a1 n1 c1] r w1.heap.size 1 rfl rfl (Kind.next (K := (kR 101 rReader).toKind) HO1.out ((Below.refl _ _).alloc (Nat.le_refl _) _)) (RowK.next HX.out ((Below.refl _ _).alloc (Nat.le_refl _) _)) (by omega) (by simp) (by simp; omega) hbw (fun q hq => new_cells w1 _ _ q) hlk.out ?_; intro v3 w3 hO3 hb3)
        | fail)
      go_roundg (n - (k + 1))
      case measure => omega
      case rel => exact ⟨k + 1, by omega, by go_num, by rw [HS.out]; exact hO3, (HB1.out.alloc HB1.out.size _).trans hb3⟩
    · obtain rfl : n = k := by omega
      rw [List.take_of_length_le (by rw [HE.out]; exact Nat.le_refl _)] at hO
      obtain ⟨wA, rfl⟩ : ∃ u, u = wr := ⟨_, rfl⟩
      obtain ⟨a6, n6, c6, rfl⟩ := (OwnR.rd hO).shape
      obtain rfl : n = n6 := by have := (OwnR.rd hO).len; have := HE.out; omega
      have HOA := Lib.hid hO; clear hO
      have HBA := Lib.hid hb; clear hb
      go_wp2_with fail
      go_loopg [40] np (fun gg i wr => ∃ (k : Nat) (o : List ReaderD), k + gg = np ∧ i = .int .i64 k ∧ Hid (gAll rs (ps.take k) = some o) ∧ Hid (okRs o) ∧ Hid (o.length = n) ∧ OwnR 101 rReader wr w.heap.size wr.heap.size (.slice a6 n c6) o ∧ Below w.heap.size w wr)
      case atStart => exact ⟨0, rs, by omega, rfl, rfl, HZ.out, HE.out, HOA.out, HBA.out⟩
      case round =>
        obtain ⟨k, o, hkg2, rfl, HGA, HOK, HOL, hO, hb⟩ := hrel
        by_cases hlt2 : k < np
        · have HKP : Hid (k < ps.length) := by unfold Hid; rw [HEP.out]; exact hlt2
          have HGS0 : Hid (gAll rs (ps.take (k + 1)) = gStep o (ps[k]'HKP.out)) := by unfold Hid; rw [gAll_succ HKP.out, HGA.out]; rfl
          obtain ⟨bp, op, rfl, us, hcx⟩ := HP.out.at_ (by omega)
          obtain ⟨hy, hry⟩ := hcx k HKP.out
          replace hy := box_at hy hb
          have hpp := pairB_parts (pairsB_at HPB.out HKP.out)
          have HRY : Hid (Ints w (us k) (ps[k]'HKP.out)) := hry
          clear hcx hry
          generalize ps[k]'HKP.out = p at HGS0 HRY hpp
          obtain ⟨hp2, ⟨hi0, hi1⟩, ⟨hj0, hj1⟩, hne⟩ := hpp
          obtain ⟨i, hi⟩ : ∃ i : Nat, nth p 0 = (i : Int) := ⟨(nth p 0).toNat, by omega⟩
          obtain ⟨j, hj⟩ : ∃ j : Nat, nth p 1 = (j : Int) := ⟨(nth p 1).toNat, by omega⟩
          have hin : i < n := by have := HE.out; omega
          have hjn : j < n := by have := HE.out; omega
          have hij : ¬ i = j := by omega
          have hji : ¬ j = i := by omega
          clear hne
          have hti : (nth p 0).toNat = i := by omega
          have htj : (nth p 1).toNat = j := by omega
          obtain ⟨ay, ny, cy, hus⟩ := HRY.out.shape
          rw [hus] at hy HRY
          clear hus
          have hny : ny = 2 := by have := HRY.out.len; omega
          subst hny
          have hcy2 := HRY.out.capMax
          unfold maxLen at hcy2
          obtain ⟨bq, oq, rfl, hcy⟩ := HRY.out.at_ (by omega)
          have c0 := hcy 0 (by omega)
          have c1 := hcy 1 (by omega)
          rw [hi, Nat.add_zero] at c0
          rw [hj] at c1
          have hbq := World.block_lt_of_cell? w _ c0
          simp only [] at hbq
          replace c0 := box_at c0 hb
          replace c1 := box_at c1 hb
          have hn6 := (OwnR.rd hO).len
          have hcap6 := (OwnR.rd hO).capMax
          unfold maxLen at hcap6
          obtain ⟨g6, rfl, hg1, hg2, hfz⟩ := hO.addr (by omega)
          have hbg : ¬ bq = g6 := by omega
          have hgb : ¬ g6 = bq := by omega
          clear hbq
          obtain ⟨aI, nI, cI, hcI, hRI⟩ := rdr_cell (OwnR.rd hO) (i := i) (by omega)
          obtain ⟨aJ, nJ, cJ, hcJ, hRJ⟩ := rdr_cell (OwnR.rd hO) (i := j) (by omega)
          have HSI := Lib.hid (HOK.out.at_ (i := i) (by omega))
          have HSJ := Lib.hid (HOK.out.at_ (i := j) (by omega))
          have HRI := Lib.hid hRI; have HRJ := Lib.hid hRJ
          obtain ⟨A, hA⟩ : ∃ A, mergeL (rdrAt o i) (rdrAt o j) = A := ⟨_, rfl⟩
          obtain ⟨B, hB⟩ : ∃ B, mergeL (rdrAt o j) (rdrAt o i) = B := ⟨_, rfl⟩
          have HA := Lib.hid hA; have HB := Lib.hid hB
          (obtain ⟨q1, h_q⟩ : ∃ b_q, decide (A.length ≤ 20) = b_q := ⟨_, rfl⟩); have H1 := Lib.hid h_q; clear h_q
          (obtain ⟨q2, h_q⟩ : ∃ b_q, decide (B.length ≤ 20) = b_q := ⟨_, rfl⟩); have H2 := Lib.hid h_q; clear h_q
          have HGY : Hid (q1 = true → q2 = true → gAll rs (ps.take (k + 1)) = some ((o.set i ⟨A⟩).set j ⟨B⟩) ∧ okH A ∧ okH B) := fun e1 e2 => by
            have l1 := of_decide_eq_true (H1.out.trans e1); have l2 := of_decide_eq_true (H2.out.trans e2)
            refine ⟨?_, by rw [← hA] at l1 ⊢; exact okH_merge HSI.out HSJ.out l1, by rw [← hB] at l2 ⊢; exact okH_merge HSJ.out HSI.out l2⟩
            rw [HGS0.out, gStep_yes (by rw [hti, htj, hA]; exact l1) (by rw [hti, htj, hB]; exact l2), hti, htj, hA, hB]
          have HGN : Hid ((q1 = false ∨ q2 = false) → gosB rs ps = false ∧ gosL rs ps = []) := fun e => by
            refine HNO.out (gAll_none (k := k + 1) ?_)
            rw [HGS0.out]
            refine gStep_no ?_
            rw [hti, htj, hA, hB]
            rintro ⟨l1, l2⟩
            rcases e with e | e
            · have := H1.out.trans e; simp [l1] at this
            · have := H2.out.trans e; simp [l2] at this
          have HOLN := Lib.hid hn6
          have HO := Lib.hid hO
          have HHI := Lib.hid hi; have HHJ := Lib.hid hj
          have xi0 : (0 : Int) ≤ (i : Int) := by omega
          have xi1 : (i : Int) < (n : Int) := by omega
          have xj0 : (0 : Int) ≤ (j : Int) := by omega
          have xj1 : (j : Int) < (n : Int) := by omega
          have hbw := hb.size
          clear hO hA hB hti htj hi hj hcy hp2 hi0 hi1 hj0 hj1 hRI hRJ hn6
          go_wp2_with fail
          go_quiet (fail)
          obtain ⟨wB, hwB⟩ : ∃ u, u = wr.drewN nq := ⟨_, rfl⟩
          rw [← hwB]
          have hbz : Below wr.heap.size wr wB := by rw [hwB]; exact below_drewN (Below.refl _ _) _
          have HUwB := Lib.hid hbz
          clear hwB
          have d0 := box_at c0 hbz
          have d1 := box_at c1 hbz
          have dI := box_at hcI hbz
          have dJ := box_at hcJ hbz
          clear hbz
          go_wp2_with fail
          refine wp_region_noPanic ?_
          refine wp_region_U (fun w' => Below wB.heap.size wB w' ∧ w'.cell? ⟨bq, oq, none⟩ = some (.int .i64 (i : Int)) ∧ w'.cell? ⟨bq, oq + 1, none⟩ = some (.int .i64 (j : Int)) ∧ w'.cell? ⟨g6, i, none⟩ = some (.slice aI nI cI) ∧ w'.cell? ⟨g6, j, none⟩ = some (.slice aJ nJ cJ)) 10 [.rd 0, .rd 1, .rd 2, .rd 3, .rd 4, .rd 5, .rd 6, .rd 7, .rd 8, .rd 9, .one 10, .rd 11, .rd 12, .rd 13, .rd 14] [15] (by kernel_rfl) (by kernel_rfl) rfl (fun _ _ _ _ _ h => h) ⟨(Below.refl _ _).drew, d0, d1, dI, dJ⟩ ?_
          simp only [pickU, pickN, List.getElem?_cons_zero, List.getElem?_cons_succ]
          have hbz : Below wB.heap.size wB wB.drew := (Below.refl _ _).drew
          repeat (refine' wpU_read _ (by kernel_rfl) (fun w' hS' => ?_) ?_; rotate_left; · ((try dsimp only at hS'); go_simp; (try with_reducible rfl)); (try simp only [Act.put, List.setIfInBounds_toArray, List.set_cons_zero, List.set_cons_succ]))
          refine wpU_do (by kernel_rfl) (fun K hK => ?_)
          go_simp
          go_at_call 103
          refine (impl_mergeHeads _ (rdrAt o i) _ (rdrAt o j) _ HSI.out.small (RdR.below HRI.out (Below.next HUwB.out hbz)) HSJ.out.small (RdR.below HRJ.out (Below.next HUwB.out hbz))).mono ?_
          rw [HA.out]
          rintro ee w1 ⟨v1, rfl, ho, hb1⟩
          rw [H1.out]
          replace hbz : Below wB.heap.size wB w1 := keep_b hb1 hbz
          refine hK.out _ _ ⟨hbz, box_at d0 hbz, box_at d1 hbz, box_at dI hbz, box_at dJ hbz⟩ (fun _ => ?_)
          clear hK K
          try simp only [Act.put, List.setIfInBounds_toArray, List.set_cons_zero, List.set_cons_succ]
          repeat (refine' wpU_read _ (by kernel_rfl) (fun w' hS' => ?_) ?_; rotate_left; · ((try dsimp only at hS'); go_simp; (try with_reducible rfl)); (try simp only [Act.put, List.setIfInBounds_toArray, List.set_cons_zero, List.set_cons_succ]))
          refine wpU_nil ?_
          go_wp2_with fail
          refine NoPanic.normal ?_
          obtain ⟨a1, n1, k1, rfl⟩ := (OwnR.rd ho).shape
          have HX0 := Lib.hid ho
          have hsb1 := hb1.size
          have HUw1 := Lib.hid (Below.next HUwB.out hbz)
          have HS1 : Hid (wr.heap.size ≤ wB.drew.heap.size ∧ wB.drew.heap.size ≤ w1.heap.size) := ⟨by have := HUwB.out.size; simpa using this, hsb1⟩
          clear ho hb1
          have e0 := box_at d0 hbz
          have e1 := box_at d1 hbz
          have eI := box_at dI hbz
          have eJ := box_at dJ hbz
          clear d0 d1 dI dJ hbz
          go_wp2_with fail
          refine wp_region_noPanic ?_
          refine wp_region_U (fun w' => Below w1.heap.size w1 w' ∧ w'.cell? ⟨bq, oq, none⟩ = some (.int .i64 (i : Int)) ∧ w'.cell? ⟨bq, oq + 1, none⟩ = some (.int .i64 (j : Int)) ∧ w'.cell? ⟨g6, i, none⟩ = some (.slice aI nI cI) ∧ w'.cell? ⟨g6, j, none⟩ = some (.slice aJ nJ cJ)) 10 [.rd 0, .rd 1, .rd 2, .rd 3, .rd 4, .rd 5, .rd 6, .rd 7, .rd 8, .rd 9, .one 10, .rd 11, .rd 12, .rd 13, .rd 14] [15] (by kernel_rfl) (by kernel_rfl) rfl (fun _ _ _ _ _ h => h) ⟨(Below.refl _ _).drew, e0, e1, eI, eJ⟩ ?_
          simp only [pickU, pickN, List.getElem?_cons_zero, List.getElem?_cons_succ]
          have hbz : Below w1.heap.size w1 w1.drew := (Below.refl _ _).drew
          repeat (refine' wpU_read _ (by kernel_rfl) (fun w' hS' => ?_) ?_; rotate_left; · ((try dsimp only at hS'); go_simp; (try with_reducible rfl)); (try simp only [Act.put, List.setIfInBounds_toArray, List.set_cons_zero, List.set_cons_succ]))
          refine wpU_do (by kernel_rfl) (fun K hK => ?_)
          go_simp
          go_at_call 103
          refine (impl_mergeHeads _ (rdrAt o j) _ (rdrAt o i) _ HSJ.out.small (RdR.below HRJ.out (Below.next HUw1.out hbz)) HSI.out.small (RdR.below HRI.out (Below.next HUw1.out hbz))).mono ?_
          rw [HB.out]
          rintro ee w2 ⟨v2, rfl, ho, hb1⟩
          rw [H2.out]
          replace hbz : Below w1.heap.size w1 w2 := keep_b hb1 hbz
          refine hK.out _ _ ⟨hbz, box_at e0 hbz, box_at e1 hbz, box_at eI hbz, box_at eJ hbz⟩ (fun _ => ?_)
          clear hK K
          try simp only [Act.put, List.setIfInBounds_toArray, List.set_cons_zero, List.set_cons_succ]
          repeat (refine' wpU_read _ (by kernel_rfl) (fun w' hS' => ?_) ?_; rotate_left; · ((try dsimp only at hS'); go_simp; (try with_reducible rfl)); (try simp only [Act.put, List.setIfInBounds_toArray, List.set_cons_zero, List.set_cons_succ]))
          refine wpU_nil ?_
          go_wp2_with fail
          refine NoPanic.normal ?_
          obtain ⟨a2, n2, k2, rfl⟩ := (OwnR.rd ho).shape
          have hsb2 := hb1.size
          have HB2 := Lib.hid (Below.next HUw1.out hbz)
          have HS2 : Hid (w1.heap.size ≤ w1.drew.heap.size ∧ w1.drew.heap.size ≤ w2.heap.size) := ⟨by simp, hsb2⟩
          have HX1 := Lib.hid ((kR 44 rHead).own_frame HX0.out (w' := w2) fun k' q1 q2 q3 => hbz.block k' q3)
          have HX2 := Lib.hid ho
          clear hbz hb1 ho e0 e1 eI eJ
          -- both merges have run: w1, w2
          have HO2 := Lib.hid (Kind.next (K := (kR 101 rReader).toKind) HO.out HB2.out)
          have HBW := Lib.hid (Below.next hb HB2.out)
          have hcI2 := box_at hcI HB2.out
          have hcJ2 := box_at hcJ HB2.out
          have hfz2 : ∀ k, w2.frozen? ⟨g6, k, none⟩ = false := fun k => by
            obtain ⟨g', e, _, _, hf⟩ := (show OwnR 101 rReader w2 w.heap.size wr.heap.size (.slice (some ⟨g6, 0, none⟩) n c6) o from HO2.out).addr (by omega)
            cases e; exact hf k
          have c02 := box_at c0 HB2.out
          have c12 := box_at c1 HB2.out
          clear hfz hcI hcJ c0 c1
          cases q1 with
          | false =>
            have HN := Lib.hid (HGN.out (.inl rfl))
            go_wp2_with fail
            go_ret2
            exact ⟨_, (by rw [HN.out.1]; rfl), by rw [HN.out.2]; exact OwnR.nil _ _ _ _ _, HBW.out⟩
          | true =>
            cases q2 with
            | false =>
              have HN := Lib.hid (HGN.out (.inr rfl))
              go_wp2_with fail
              go_ret2
              exact ⟨_, (by rw [HN.out.1]; rfl), by rw [HN.out.2]; exact OwnR.nil _ _ _ _ _, HBW.out⟩
            | true =>
              have HY := Lib.hid (HGY.out rfl rfl)
              have hx1 := HX1.out; have hx2 := HX2.out
              try rw [if_pos (of_decide_eq_true H1.out)] at hx1
              try rw [if_pos (of_decide_eq_true H2.out)] at hx2
              have hs1 : wr.heap.size ≤ wB.drew.heap.size ∧ wB.drew.heap.size ≤ w1.heap.size ∧ w1.heap.size ≤ w2.heap.size := ⟨HS1.out.1, HS1.out.2, Nat.le_trans HS2.out.1 HS2.out.2⟩
              have hs2 := HS2.out
              have HP1 := Lib.hid (OwnR.put1 (R := rReader) rfl HO2.out (k := i) (by have := HOLN.out; omega) (own_reader hx1 hs1.2.1) hs1.1 hs1.2.1 hs1.2.2 hbw)
              have HX3 : Hid (rReader.own (w2.setCell ⟨g6, i, none⟩ (.slice a1 n1 k1)) w1.drew.heap.size w2.heap.size [.slice a2 n2 k2] ⟨B⟩) := rReader.own_frame (own_reader hx2 hs2.2) fun k' q1 q2 q3 => heap_setCell_other w2 ⟨g6, i, none⟩ k' _ (fun e => by simp at e; omega)
              have HP2 := Lib.hid (OwnR.put1 (R := rReader) rfl HP1.out (k := j) (by rw [List.length_set]; have := HOLN.out; omega) HX3.out hs2.1 hs2.2 (by simp) (by omega))
              have HLN2 : Hid (((o.set i ⟨A⟩).set j ⟨B⟩).length = n) := by unfold Hid; rw [List.length_set, List.length_set]; exact HOLN.out
              have HOK2 : Hid (okRs ((o.set i ⟨A⟩).set j ⟨B⟩)) := okRs_set (okRs_set HOK.out HY.out.2.1) HY.out.2.2
              have HBZ : Hid (Below w.heap.size w ((w2.setCell ⟨g6, i, none⟩ (.slice a1 n1 k1)).setCell ⟨g6, j, none⟩ (.slice a2 n2 k2))) := (HBW.out.setCell hg1 _).setCell hg1 _
              clear hx1 hx2
              go_wp2_with fail
              go_roundg (np - (k + 1))
              case measure => omega
              case rel => exact ⟨k + 1, _, by omega, by go_num, HY.out.1, HOK2.out, HLN2.out, (kR 101 rReader).own_mono HP2.out (Nat.le_refl _) (by simp), HBZ.out⟩
        · obtain rfl : np = k := by omega
          have hga := HGA.out
          rw [List.take_of_length_le (by rw [HEP.out]; exact Nat.le_refl _)] at hga
          have HY := Lib.hid (HYES.out o hga)
          clear hga
          have HO := Lib.hid hO; clear hO
          go_wp2_with fail
          go_ret2
          exact ⟨_, (by rw [HY.out.1]; rfl), by rw [HY.out.2]; exact HO.out, hb⟩
set_option maxRecDepth 100000 in
set_option maxHeartbeats 8000000 in
theorem spec_fRound (v : Value) (rs : List ReaderD) (vp : Value) (ps : List (List Int)) (w : World) (hz : okRs rs) (h : RdR rReader w v rs) (hp : RdL kInts w vp ps) (hpb : pairsB (rs.length : Int) ps = true) :
    Calls Tryz.prog 62 #[v, vp] w fun e w' => ∃ v', e = .returned (.tuple #[v', .bool (gosB rs ps)]) ∧ OwnR 101 rReader w' w.heap.size w'.heap.size v' (gosL rs ps) ∧ Below w.heap.size w w' := by
  obtain ⟨ar, n, c, rfl⟩ := h.shape
  obtain ⟨ap, np, cp, rfl⟩ := hp.shape
  have el := h.len
  have ep := hp.len
  have hn8 : n ≤ 8 := by have := hz.1; omega
  have hnp : np ≤ 20 := by have := pairsB_len hpb; omega
  have HE := Lib.hid el; have HEP := Lib.hid ep
  have HZ := Lib.hid hz; have HH := Lib.hid h; have HP := Lib.hid hp; have HPB := Lib.hid hpb
  have HNO : Hid (gAll rs ps = none → gosB rs ps = false ∧ gosL rs ps = []) := gos_no
  have HYES : Hid (∀ o, gAll rs ps = some o → gosB rs ps = true ∧ gosL rs ps = o) := fun o => gos_yes
  obtain ⟨ti, hti, htz, hts, htb⟩ := info_Reader
  have HI : Hid (Tryz.prog.info? 101 = some ti ∧ ti.zero = some (.agg #[.slice none 0 0]) ∧ ti.size = 1 ∧ ti.bytes ≤ 1000) := ⟨hti, htz, hts, htb⟩
  have HO0 := Lib.hid (OwnR.lit0 101 rReader w w.heap.size (Nat.le_refl _))
  clear h hp hz hpb el ep hti htz hts htb
  go_enter Tryz.func62, Tryz.ntmps62
  go_wp2_with fail
  go_loopg [6, 19] n (fun gg ov i wr => ∃ k : Nat, k + gg = n ∧ i = .int .i64 k ∧ OwnR 101 rReader wr w.heap.size wr.heap.size ov (rs.take k) ∧ Below w.heap.size w wr)
  case atStart => exact ⟨0, by omega, rfl, OwnR.nil _ _ _ _ _, Below.refl _ _⟩
  case round =>
    obtain ⟨k, hkg, rfl, hO, hb⟩ := hrel
    by_cases hlt : k < n
    · have HK : Hid (k < rs.length) := by unfold Hid; rw [HE.out]; exact hlt
      have HOKH : Hid (okH (rs[k]'HK.out).heads) := HZ.out.2 _ (List.getElem_mem HK.out)
      have HS := Lib.hid (List.take_succ_eq_append_getElem HK.out)
      have hlk : Hid ((rs.take k).length ≤ 1000000000) := by unfold Hid; rw [List.length_take]; omega
      obtain ⟨b_r, o_r, rfl, hcx⟩ := HH.out.at_ (by omega)
      obtain ⟨us, hcell, hrd⟩ := hcx k HK.out
      clear hcx
      generalize rs[k]'HK.out = r at hrd HOKH HS
      obtain ⟨ar_0, nr_0, cr_0, ers, kr_0⟩ := rdReader.1 ⟨us, rfl, hrd⟩
      obtain rfl : us = [.slice ar_0 nr_0 cr_0] := by have h := Value.agg.inj ers; simpa using congrArg Array.toList h
      clear ers hrd
      have y_r_0 : wr.cell? ⟨b_r, o_r + k * 1, none⟩ = some (.slice ar_0 nr_0 cr_0) := box_at (hcell 0 (by decide)) hb
      clear hcell
      have HR_r := Lib.hid ((kS rReader).rd_below (rdReader.2 ⟨_, _, _, rfl, kr_0⟩ : (kS rReader).rd w (.agg #[.slice ar_0 nr_0 cr_0]) r) hb)
      have F_r_heads := Lib.hid ((kR 44 rHead).rd_below kr_0 hb)
      clear kr_0
      simp only [Nat.mul_one] at y_r_0
      obtain ⟨a6, n6, c6, rfl⟩ := (OwnR.rd hO).shape
      have HO := Lib.hid hO; clear hO
      have hbw := hb.size
      go_wp2_with fail
      obtain ⟨V, hV⟩ : ∃ V, V = wr.alloc (.cells #[.slice ar_0 nr_0 cr_0] 101) := ⟨_, rfl⟩
      rw [← hV]
      have HV : Hid (Below wr.heap.size wr V) := by unfold Hid; rw [hV]; exact (Below.refl _ _).alloc (Nat.le_refl _) _
      have hsV : V.heap.size = wr.heap.size + 1 := by rw [hV]; simp
      have x_r_0 : V.cell? ⟨wr.heap.size, 0, none⟩ = some (.slice ar_0 nr_0 cr_0) := by rw [hV]; simp [go_sem]
      have HRV_r := Lib.hid ((kS rReader).rd_below HR_r.out HV.out)
      clear hV
      refine (spec_fMerge _ r.heads _ [] _ HOKH.out.small (RdR.below F_r_heads.out HV.out) ⟨Nat.zero_le _, fun d hd => by simp at hd⟩ (RdR.nil _ _)).mono ?_
      rintro ee w1 ⟨v1, rfl, ho1, hb1⟩
      rw [mergeL_nil] at ho1
      try rw [if_pos HOKH.out.1] at ho1
      obtain ⟨a1, n1, c1, rfl⟩ := (OwnR.rd ho1).shape
      have hb1s := hb1.size
      have HX := Lib.hid (own_reader ho1 hb1s)
      have HB1 := Lib.hid (Below.next (Below.next hb HV.out) hb1)
      have HO1 := Lib.hid (Kind.next (K := (kR 101 rReader).toKind) (Kind.next (K := (kR 101 rReader).toKind) HO.out HV.out) hb1)
      clear ho1 hb1
      go_wp2_with (first
        | (at_builtin; refine wpList_append_R rReader 74 101 ti (.agg #[.slice none 0 0]) Tryz.underlying74 HI.out.1 HI.out.2.1 HI.out.2.2.1 HI.out.2.2.2 rfl (by decide) rfl _ _ rfl w.heap.size wr.heap.size V.heap.size w1.heap.size (.slice a6 n6 c6) (rs.take k) [.slice a1 n1 c1] r w1.heap.size 1 rfl rfl (Kind.next (K := (kR 101 rReader).toKind) HO1.out ((Below.refl _ _).alloc (Nat.le_refl _) _)) (RowK.next HX.out ((Below.refl _ _).alloc (Nat.le_refl _) _)) (by omega) (by simp) (by simp; omega) hbw (fun q hq => new_cells w1 _ _ q) hlk.out ?_; intro v3 w3 hO3 hb3)
        | fail)
      go_roundg (n - (k + 1))
      case measure => omega
      case rel => exact ⟨k + 1, by omega, by go_num, by rw [HS.out]; exact hO3, (HB1.out.alloc HB1.out.size _).trans hb3⟩
    · obtain rfl : n = k := by omega
      rw [List.take_of_length_le (by rw [HE.out]; exact Nat.le_refl _)] at hO
      obtain ⟨wA, rfl⟩ : ∃ u, u = wr := ⟨_, rfl⟩
      obtain ⟨a6, n6, c6, rfl⟩ := (OwnR.rd hO).shape
      obtain rfl : n = n6 := by have := (OwnR.rd hO).len; have := HE.out; omega
      have HOA := Lib.hid hO; clear hO
      have HBA := Lib.hid hb; clear hb
      go_wp2_with fail
      go_loopg [37] np (fun gg i wr => ∃ (k : Nat) (o : List ReaderD), k + gg = np ∧ i = .int .i64 k ∧ Hid (gAll rs (ps.take k) = some o) ∧ Hid (okRs o) ∧ Hid (o.length = n) ∧ OwnR 101 rReader wr w.heap.size wr.heap.size (.slice a6 n c6) o ∧ Below w.heap.size w wr)
      case atStart => exact ⟨0, rs, by omega, rfl, rfl, HZ.out, HE.out, HOA.out, HBA.out⟩
      case round =>
        obtain ⟨k, o, hkg2, rfl, HGA, HOK, HOL, hO, hb⟩ := hrel
        by_cases hlt2 : k < np
        · have HKP : Hid (k < ps.length) := by unfold Hid; rw [HEP.out]; exact hlt2
          have HGS0 : Hid (gAll rs (ps.take (k + 1)) = gStep o (ps[k]'HKP.out)) := by unfold Hid; rw [gAll_succ HKP.out, HGA.out]; rfl
          obtain ⟨bp, op, rfl, us, hcx⟩ := HP.out.at_ (by omega)
          obtain ⟨hy, hry⟩ := hcx k HKP.out
          replace hy := box_at hy hb
          have hpp := pairB_parts (pairsB_at HPB.out HKP.out)
          have HRY : Hid (Ints w (us k) (ps[k]'HKP.out)) := hry
          clear hcx hry
          generalize ps[k]'HKP.out = p at HGS0 HRY hpp
          obtain ⟨hp2, ⟨hi0, hi1⟩, ⟨hj0, hj1⟩, hne⟩ := hpp
          obtain ⟨i, hi⟩ : ∃ i : Nat, nth p 0 = (i : Int) := ⟨(nth p 0).toNat, by omega⟩
          obtain ⟨j, hj⟩ : ∃ j : Nat, nth p 1 = (j : Int) := ⟨(nth p 1).toNat, by omega⟩
          have hin : i < n := by have := HE.out; omega
          have hjn : j < n := by have := HE.out; omega
          have hij : ¬ i = j := by omega
          have hji : ¬ j = i := by omega
          clear hne
          have hti : (nth p 0).toNat = i := by omega
          have htj : (nth p 1).toNat = j := by omega
          obtain ⟨ay, ny, cy, hus⟩ := HRY.out.shape
          rw [hus] at hy HRY
          clear hus
          have hny : ny = 2 := by have := HRY.out.len; omega
          subst hny
          have hcy2 := HRY.out.capMax
          unfold maxLen at hcy2
          obtain ⟨bq, oq, rfl, hcy⟩ := HRY.out.at_ (by omega)
          have c0 := hcy 0 (by omega)
          have c1 := hcy 1 (by omega)
          rw [hi, Nat.add_zero] at c0
          rw [hj] at c1
          have hbq := World.block_lt_of_cell? w _ c0
          simp only [] at hbq
          replace c0 := box_at c0 hb
          replace c1 := box_at c1 hb
          have hn6 := (OwnR.rd hO).len
          have hcap6 := (OwnR.rd hO).capMax
          unfold maxLen at hcap6
          obtain ⟨g6, rfl, hg1, hg2, hfz⟩ := hO.addr (by omega)
          have hbg : ¬ bq = g6 := by omega
          have hgb : ¬ g6 = bq := by omega
          clear hbq
          obtain ⟨aI, nI, cI, hcI, hRI⟩ := rdr_cell (OwnR.rd hO) (i := i) (by omega)
          obtain ⟨aJ, nJ, cJ, hcJ, hRJ⟩ := rdr_cell (OwnR.rd hO) (i := j) (by omega)
          have HSI := Lib.hid (HOK.out.at_ (i := i) (by omega))
          have HSJ := Lib.hid (HOK.out.at_ (i := j) (by omega))
          have HRI := Lib.hid hRI; have HRJ := Lib.hid hRJ
          obtain ⟨A, hA⟩ : ∃ A, mergeL (rdrAt o i) (rdrAt o j) = A := ⟨_, rfl⟩
          obtain ⟨B, hB⟩ : ∃ B, mergeL (rdrAt o j) (rdrAt o i) = B := ⟨_, rfl⟩
          have HA := Lib.hid hA; have HB := Lib.hid hB
          (obtain ⟨q1, h_q⟩ : ∃ b_q, decide (A.length ≤ 20) = b_q := ⟨_, rfl⟩); have H1 := Lib.hid h_q; clear h_q
          (obtain ⟨q2, h_q⟩ : ∃ b_q, decide (B.length ≤ 20) = b_q := ⟨_, rfl⟩); have H2 := Lib.hid h_q; clear h_q
          have HGY : Hid (q1 = true → q2 = true → gAll rs (ps.take (k + 1)) = some ((o.set i ⟨A⟩).set j ⟨B⟩) ∧ okH A ∧ okH B) := fun e1 e2 => by
            have l1 := of_decide_eq_true (H1.out.trans e1); have l2 := of_decide_eq_true (H2.out.trans e2)
            refine ⟨?_, by rw [← hA] at l1 ⊢; exact okH_merge HSI.out HSJ.out l1, by rw [← hB] at l2 ⊢; exact okH_merge HSJ.out HSI.out l2⟩
            rw [HGS0.out, gStep_yes (by rw [hti, htj, hA]; exact l1) (by rw [hti, htj, hB]; exact l2), hti, htj, hA, hB]
          have HGN : Hid ((q1 = false ∨ q2 = false) → gosB rs ps = false ∧ gosL rs ps = []) := fun e => by
            refine HNO.out (gAll_none (k := k + 1) ?_)
            rw [HGS0.out]
            refine gStep_no ?_
            rw [hti, htj, hA, hB]
            rintro ⟨l1, l2⟩
            rcases e with e | e
            · have := H1.out.trans e; simp [l1] at this
            · have := H2.out.trans e; simp [l2] at this
          have HOLN := Lib.hid hn6
          have HO := Lib.hid hO
          have HHI := Lib.hid hi; have HHJ := Lib.hid hj
          have xi0 : (0 : Int) ≤ (i : Int) := by omega
          have xi1 : (i : Int) < (n : Int) := by omega
          have xj0 : (0 : Int) ≤ (j : Int) := by omega
          have xj1 : (j : Int) < (n : Int) := by omega
          have hbw := hb.size
          clear hO hA hB hti htj hi hj hcy hp2 hi0 hi1 hj0 hj1 hRI hRJ hn6
          go_wp2_with fail
          obtain ⟨wB, hwB⟩ : ∃ u, u = wr := ⟨_, rfl⟩
          have hbz : Below wr.heap.size wr wB := by rw [hwB]; exact Below.refl _ _
          rw [← hwB]
          have HUwB := Lib.hid hbz
          clear hwB
          have d0 := box_at c0 hbz
          have d1 := box_at c1 hbz
          have dI := box_at hcI hbz
          have dJ := box_at hcJ hbz
          clear hbz
          refine wp_region_noPanic ?_
          refine wp_region_U (fun w' => Below wB.heap.size wB w' ∧ w'.cell? ⟨bq, oq, none⟩ = some (.int .i64 (i : Int)) ∧ w'.cell? ⟨bq, oq + 1, none⟩ = some (.int .i64 (j : Int)) ∧ w'.cell? ⟨g6, i, none⟩ = some (.slice aI nI cI) ∧ w'.cell? ⟨g6, j, none⟩ = some (.slice aJ nJ cJ)) 10 [.rd 0, .rd 1, .rd 2, .rd 3, .rd 4, .rd 5, .rd 6, .rd 7, .rd 8, .rd 9, .rd 10, .rd 11, .rd 12, .rd 13, .one 14, .rd 15, .rd 16, .rd 17, .rd 18] [19] (by kernel_rfl) (by kernel_rfl) rfl (fun _ _ _ _ _ h => h) ⟨(Below.refl _ _).drew, d0, d1, dI, dJ⟩ ?_
          simp only [pickU, pickN, List.getElem?_cons_zero, List.getElem?_cons_succ]
          have hbz : Below wB.heap.size wB wB.drew := (Below.refl _ _).drew
          repeat (refine' wpU_read _ (by kernel_rfl) (fun w' hS' => ?_) ?_; rotate_left; · ((try dsimp only at hS'); go_simp; (try with_reducible rfl)); (try simp only [Act.put, List.setIfInBounds_toArray, List.set_cons_zero, List.set_cons_succ]))
          refine wpU_do (by kernel_rfl) (fun K hK => ?_)
          go_simp
          go_at_call 97
          refine (spec_fMerge _ (rdrAt o i) _ (rdrAt o j) _ HSI.out.small (RdR.below HRI.out (Below.next HUwB.out hbz)) HSJ.out.small (RdR.below HRJ.out (Below.next HUwB.out hbz))).mono ?_
          rw [HA.out]
          rintro ee w1 ⟨v1, rfl, ho, hb1⟩
          rw [H1.out]
          replace hbz : Below wB.heap.size wB w1 := keep_b hb1 hbz
          refine hK.out _ _ ⟨hbz, box_at d0 hbz, box_at d1 hbz, box_at dI hbz, box_at dJ hbz⟩ (fun _ => ?_)
          clear hK K
          try simp only [Act.put, List.setIfInBounds_toArray, List.set_cons_zero, List.set_cons_succ]
          repeat (refine' wpU_read _ (by kernel_rfl) (fun w' hS' => ?_) ?_; rotate_left; · ((try dsimp only at hS'); go_simp; (try with_reducible rfl)); (try simp only [Act.put, List.setIfInBounds_toArray, List.set_cons_zero, List.set_cons_succ]))
          refine wpU_nil ?_
          go_wp2_with fail
          refine NoPanic.normal ?_
          obtain ⟨a1, n1, k1, rfl⟩ := (OwnR.rd ho).shape
          have HX0 := Lib.hid ho
          have hsb1 := hb1.size
          have HUw1 := Lib.hid (Below.next HUwB.out hbz)
          have HS1 : Hid (wr.heap.size ≤ wB.drew.heap.size ∧ wB.drew.heap.size ≤ w1.heap.size) := ⟨by have := HUwB.out.size; simpa using this, hsb1⟩
          clear ho hb1
          have e0 := box_at d0 hbz
          have e1 := box_at d1 hbz
          have eI := box_at dI hbz
          have eJ := box_at dJ hbz
          clear d0 d1 dI dJ hbz
          go_wp2_with fail
          refine wp_region_noPanic ?_
          refine wp_region_U (fun w' => Below w1.heap.size w1 w' ∧ w'.cell? ⟨bq, oq, none⟩ = some (.int .i64 (i : Int)) ∧ w'.cell? ⟨bq, oq + 1, none⟩ = some (.int .i64 (j : Int)) ∧ w'.cell? ⟨g6, i, none⟩ = some (.slice aI nI cI) ∧ w'.cell? ⟨g6, j, none⟩ = some (.slice aJ nJ cJ)) 10 [.rd 0, .rd 1, .rd 2, .rd 3, .rd 4, .rd 5, .rd 6, .rd 7, .rd 8, .rd 9, .rd 10, .rd 11, .rd 12, .rd 13, .one 14, .rd 15, .rd 16, .rd 17, .rd 18] [19] (by kernel_rfl) (by kernel_rfl) rfl (fun _ _ _ _ _ h => h) ⟨(Below.refl _ _).drew, e0, e1, eI, eJ⟩ ?_
          simp only [pickU, pickN, List.getElem?_cons_zero, List.getElem?_cons_succ]
          have hbz : Below w1.heap.size w1 w1.drew := (Below.refl _ _).drew
          repeat (refine' wpU_read _ (by kernel_rfl) (fun w' hS' => ?_) ?_; rotate_left; · ((try dsimp only at hS'); go_simp; (try with_reducible rfl)); (try simp only [Act.put, List.setIfInBounds_toArray, List.set_cons_zero, List.set_cons_succ]))
          refine wpU_do (by kernel_rfl) (fun K hK => ?_)
          go_simp
          go_at_call 97
          refine (spec_fMerge _ (rdrAt o j) _ (rdrAt o i) _ HSJ.out.small (RdR.below HRJ.out (Below.next HUw1.out hbz)) HSI.out.small (RdR.below HRI.out (Below.next HUw1.out hbz))).mono ?_
          rw [HB.out]
          rintro ee w2 ⟨v2, rfl, ho, hb1⟩
          rw [H2.out]
          replace hbz : Below w1.heap.size w1 w2 := keep_b hb1 hbz
          refine hK.out _ _ ⟨hbz, box_at e0 hbz, box_at e1 hbz, box_at eI hbz, box_at eJ hbz⟩ (fun _ => ?_)
          clear hK K
          try simp only [Act.put, List.setIfInBounds_toArray, List.set_cons_zero, List.set_cons_succ]
          repeat (refine' wpU_read _ (by kernel_rfl) (fun w' hS' => ?_) ?_; rotate_left; · ((try dsimp only at hS'); go_simp; (try with_reducible rfl)); (try simp only [Act.put, List.setIfInBounds_toArray, List.set_cons_zero, List.set_cons_succ]))
          refine wpU_nil ?_
          go_wp2_with fail
          refine NoPanic.normal ?_
          obtain ⟨a2, n2, k2, rfl⟩ := (OwnR.rd ho).shape
          have hsb2 := hb1.size
          have HB2 := Lib.hid (Below.next HUw1.out hbz)
          have HS2 : Hid (w1.heap.size ≤ w1.drew.heap.size ∧ w1.drew.heap.size ≤ w2.heap.size) := ⟨by simp, hsb2⟩
          have HX1 := Lib.hid ((kR 44 rHead).own_frame HX0.out (w' := w2) fun k' q1 q2 q3 => hbz.block k' q3)
          have HX2 := Lib.hid ho
          clear hbz hb1 ho e0 e1 eI eJ
          -- both merges have run: w1, w2
          have HO2 := Lib.hid (Kind.next (K := (kR 101 rReader).toKind) HO.out HB2.out)
          have HBW := Lib.hid (Below.next hb HB2.out)
          have hcI2 := box_at hcI HB2.out
          have hcJ2 := box_at hcJ HB2.out
          have hfz2 : ∀ k, w2.frozen? ⟨g6, k, none⟩ = false := fun k => by
            obtain ⟨g', e, _, _, hf⟩ := (show OwnR 101 rReader w2 w.heap.size wr.heap.size (.slice (some ⟨g6, 0, none⟩) n c6) o from HO2.out).addr (by omega)
            cases e; exact hf k
          have c02 := box_at c0 HB2.out
          have c12 := box_at c1 HB2.out
          clear hfz hcI hcJ c0 c1
          cases q1 with
          | false =>
            have HN := Lib.hid (HGN.out (.inl rfl))
            go_wp2_with fail
            go_ret2
            exact ⟨_, (by rw [HN.out.1]; rfl), by rw [HN.out.2]; exact OwnR.nil _ _ _ _ _, HBW.out⟩
          | true =>
            cases q2 with
            | false =>
              have HN := Lib.hid (HGN.out (.inr rfl))
              go_wp2_with fail
              go_ret2
              exact ⟨_, (by rw [HN.out.1]; rfl), by rw [HN.out.2]; exact OwnR.nil _ _ _ _ _, HBW.out⟩
            | true =>
              have HY := Lib.hid (HGY.out rfl rfl)
              have hx1 := HX1.out; have hx2 := HX2.out
              try rw [if_pos (of_decide_eq_true H1.out)] at hx1
              try rw [if_pos (of_decide_eq_true H2.out)] at hx2
              have hs1 : wr.heap.size ≤ wB.drew.heap.size ∧ wB.drew.heap.size ≤ w1.heap.size ∧ w1.heap.size ≤ w2.heap.size := ⟨HS1.out.1, HS1.out.2, Nat.le_trans HS2.out.1 HS2.out.2⟩
              have hs2 := HS2.out
              have HP1 := Lib.hid (OwnR.put1 (R := rReader) rfl HO2.out (k := i) (by have := HOLN.out; omega) (own_reader hx1 hs1.2.1) hs1.1 hs1.2.1 hs1.2.2 hbw)
              have HX3 : Hid (rReader.own (w2.setCell ⟨g6, i, none⟩ (.slice a1 n1 k1)) w1.drew.heap.size w2.heap.size [.slice a2 n2 k2] ⟨B⟩) := rReader.own_frame (own_reader hx2 hs2.2) fun k' q1 q2 q3 => heap_setCell_other w2 ⟨g6, i, none⟩ k' _ (fun e => by simp at e; omega)
              have HP2 := Lib.hid (OwnR.put1 (R := rReader) rfl HP1.out (k := j) (by rw [List.length_set]; have := HOLN.out; omega) HX3.out hs2.1 hs2.2 (by simp) (by omega))
              have HLN2 : Hid (((o.set i ⟨A⟩).set j ⟨B⟩).length = n) := by unfold Hid; rw [List.length_set, List.length_set]; exact HOLN.out
              have HOK2 : Hid (okRs ((o.set i ⟨A⟩).set j ⟨B⟩)) := okRs_set (okRs_set HOK.out HY.out.2.1) HY.out.2.2
              have HBZ : Hid (Below w.heap.size w ((w2.setCell ⟨g6, i, none⟩ (.slice a1 n1 k1)).setCell ⟨g6, j, none⟩ (.slice a2 n2 k2))) := (HBW.out.setCell hg1 _).setCell hg1 _
              clear hx1 hx2
              go_wp2_with fail
              go_roundg (np - (k + 1))
              case measure => omega
              case rel => exact ⟨k + 1, _, by omega, by go_num, HY.out.1, HOK2.out, HLN2.out, (kR 101 rReader).own_mono HP2.out (Nat.le_refl _) (by simp), HBZ.out⟩
        · obtain rfl : np = k := by omega
          have hga := HGA.out
          rw [List.take_of_length_le (by rw [HEP.out]; exact Nat.le_refl _)] at hga
          have HY := Lib.hid (HYES.out o hga)
          clear hga
          have HO := Lib.hid hO; clear hO
          go_wp2_with fail
          go_ret2
          exact ⟨_, (by rw [HY.out.1]; rfl), by rw [HY.out.2]; exact HO.out, hb⟩
end Go.Proofs.YtodennbdfloccaaGreat
