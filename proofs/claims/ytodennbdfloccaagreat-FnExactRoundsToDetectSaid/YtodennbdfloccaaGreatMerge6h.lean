/- Walks: spec.fMerge (printed by gen_merge6h.py). -/
import Derived.Test.YtodennbdfloccaaGreatMerge5
namespace Go.Proofs.YtodennbdfloccaaGreat
open Go.RowKit
set_option linter.unusedSimpArgs false
set_option linter.unusedVariables false

set_option maxHeartbeats 8000000 in
theorem spec_fMerge (va : Value) (a : List HeadD) (vb : Value) (b : List HeadD) (w : World) (hza : smallH a) (ha : RdR rHead w va a) (hzb : smallH b) (hb : RdR rHead w vb b) :
    Calls Tryz.prog 97 #[va, vb] w fun e w' => ∃ v', e = .returned (.tuple #[v', .bool (decide ((mergeL a b).length ≤ 20))]) ∧ OwnR 44 rHead w' w.heap.size w'.heap.size v' (mergeL a b) ∧ Below w.heap.size w w' := by
  obtain ⟨ok, hok⟩ : ∃ q, decide ((mergeL a b).length ≤ 20) = q := ⟨_, rfl⟩
  have HOK := Lib.hid hok
  rw [hok]
  clear hok
  obtain ⟨aa, na, ca, rfl⟩ := ha.shape
  obtain ⟨ab, nb, cb, rfl⟩ := hb.shape
  have ea := ha.len
  have eb := hb.len
  obtain ⟨k1, k2⟩ := ha.capMax
  obtain ⟨k3, k4⟩ := hb.capMax
  unfold maxLen at k2 k4
  have HEA := Lib.hid ea; have HEB := Lib.hid eb
  have hna : na ≤ 1000000 := by have := hza.1; omega
  have hnb : nb ≤ 1000000 := by have := hzb.1; omega
  have HZA := Lib.hid hza; have HZB := Lib.hid hzb
  have HA := Lib.hid ha; have HB := Lib.hid hb
  clear ha hb ea eb hza hzb
  obtain ⟨ti, hti, htz, hts, htb⟩ := info_Head
  have HI : Hid (Tryz.prog.info? 44 = some ti ∧ ti.zero = some (.agg #[.int .i64 0, .int .i64 0, .int .i64 0, .slice none 0 0, .slice none 0 0, .slice none 0 0]) ∧ ti.size = 6 ∧ ti.bytes ≤ 1000) := ⟨hti, htz, hts, htb⟩
  clear hti htz hts htb
  go_enter Tryz.func97, Tryz.ntmps97
  go_wp2_with fail
  go_loopg [6, 16] na (fun g v6 i wr => ∃ k : Nat, k + g = na ∧ i = .int .i64 k ∧ OwnR 44 rHead wr w.heap.size wr.heap.size v6 (a.take k) ∧ Below w.heap.size w wr)
  case atStart => exact ⟨0, by omega, rfl, OwnR.nil _ _ _ _ _, Below.refl _ _⟩
  case round =>
    obtain ⟨k, hkg, rfl, hO, hbw⟩ := hrel
    by_cases hlt : k < na
    · have HK : Hid (k < a.length) := by unfold Hid; rw [HEA.out]; exact hlt
      obtain ⟨bb, oo, rfl, hcx⟩ := HA.out.at_ (by omega)
      obtain ⟨us, hcell, hrd⟩ := hcx k HK.out
      have HSZ : Hid ((szHead (a[k]'HK.out) : Int) ≤ 1000000000) := HZA.out.2 _ (List.getElem_mem HK.out)
      have HS := Lib.hid (List.take_succ_eq_append_getElem HK.out)
      have hlk : Hid ((a.take k).length ≤ 1000000000) := by unfold Hid; rw [List.length_take]; omega
      generalize a[k]'HK.out = d at hrd HS HSZ
      obtain ⟨a6, n6, c6, rfl⟩ := (OwnR.rd hO).shape
      have HO := Lib.hid hO; clear hO
      obtain ⟨_, rfl, i37, ⟨_, rfl, i38, ⟨_, rfl, i39, ⟨v40, _, rfl, h41, ⟨v42, _, rfl, h43, ⟨v44, _, rfl, h45, rfl⟩⟩⟩⟩⟩⟩ := hrd
      obtain ⟨aa0, nn0, cc0, rfl⟩ := sInts.sl h41
      obtain ⟨aa1, nn1, cc1, rfl⟩ := sInts.sl h43
      obtain ⟨aa2, nn2, cc2, rfl⟩ := sInts.sl h45
      have y0 : w.cell? ⟨bb, oo + (k * 6 + 0), none⟩ = some (.int .i64 d.author) := hcell 0 (by decide)
      replace y0 : w.cell? ⟨bb, oo + k * 6, none⟩ = some (.int .i64 d.author) := by rw [Nat.add_zero] at y0; exact y0
      have y1 : w.cell? ⟨bb, oo + (k * 6 + 1), none⟩ = some (.int .i64 d.size) := hcell 1 (by decide)
      replace y1 : w.cell? ⟨bb, oo + k * 6 + 1, none⟩ = some (.int .i64 d.size) := by rw [← Nat.add_assoc] at y1; exact y1
      have y2 : w.cell? ⟨bb, oo + (k * 6 + 2), none⟩ = some (.int .i64 d.root) := hcell 2 (by decide)
      replace y2 : w.cell? ⟨bb, oo + k * 6 + 2, none⟩ = some (.int .i64 d.root) := by rw [← Nat.add_assoc] at y2; exact y2
      have y3 : w.cell? ⟨bb, oo + (k * 6 + 3), none⟩ = some (.slice aa0 nn0 cc0) := hcell 3 (by decide)
      replace y3 : w.cell? ⟨bb, oo + k * 6 + 3, none⟩ = some (.slice aa0 nn0 cc0) := by rw [← Nat.add_assoc] at y3; exact y3
      have y4 : w.cell? ⟨bb, oo + (k * 6 + 4), none⟩ = some (.slice aa1 nn1 cc1) := hcell 4 (by decide)
      replace y4 : w.cell? ⟨bb, oo + k * 6 + 4, none⟩ = some (.slice aa1 nn1 cc1) := by rw [← Nat.add_assoc] at y4; exact y4
      have y5 : w.cell? ⟨bb, oo + (k * 6 + 5), none⟩ = some (.slice aa2 nn2 cc2) := hcell 5 (by decide)
      replace y5 : w.cell? ⟨bb, oo + k * 6 + 5, none⟩ = some (.slice aa2 nn2 cc2) := by rw [← Nat.add_assoc] at y5; exact y5
      have HR : Hid ((kS rHead).rd wr (.agg #[.int .i64 d.author, .int .i64 d.size, .int .i64 d.root, .slice aa0 nn0 cc0, .slice aa1 nn1 cc1, .slice aa2 nn2 cc2]) d) := (kS rHead).rd_below (rdHead.2 ⟨_, _, _, _, _, _, _, _, _, rfl, i37, i38, i39, h41, h43, h45⟩) hbw
      replace y0 := box_at y0 hbw
      replace y1 := box_at y1 hbw
      replace y2 := box_at y2 hbw
      replace y3 := box_at y3 hbw
      replace y4 := box_at y4 hbw
      replace y5 := box_at y5 hbw
      clear hcell hcx i37 i38 i39 h41 h43 h45
      go_wp2_with (first
        | (go_at_call 88; refine (spec_fOwn _ d _ HSZ.out ((kS rHead).rd_below HR.out ((Below.refl _ _).alloc (Nat.le_refl _) _))).mono ?_; rintro e w2 ⟨v', rfl, X, hb2⟩; (obtain ⟨_, rfl, X⟩ := X); (obtain ⟨_, rfl, j0, ⟨_, rfl, j1, ⟨_, rfl, j2, ⟨_, _, rfl, k3', ⟨_, _, rfl, k4', ⟨_, _, rfl, k5', rfl⟩⟩⟩⟩⟩⟩ := rHead.own_rd X); (obtain ⟨x3, z3, u3, rfl⟩ := sInts.sl k3'); (obtain ⟨x4, z4, u4, rfl⟩ := sInts.sl k4'); (obtain ⟨x5, z5, u5, rfl⟩ := sInts.sl k5'); clear j0 j1 j2 k3' k4' k5'; (have HX := Lib.hid X); clear X; (have hs2 : wr.heap.size + 1 ≤ w2.heap.size := (by have := hb2.size; simpa using this)); (have HB2 := Lib.hid ((hbw.alloc hbw.size _).trans (hb2.mono (by have := hbw.size; simp; omega)))); (have HO2 := Lib.hid (Kind.next (K := (kR 44 rHead).toKind) (Kind.next (K := (kR 44 rHead).toKind) HO.out ((Below.refl _ _).alloc (Nat.le_refl _) _)) hb2)))
        | (at_builtin; refine wpList_append_R rHead 53 44 ti (.agg #[.int .i64 0, .int .i64 0, .int .i64 0, .slice none 0 0, .slice none 0 0, .slice none 0 0]) Tryz.underlying53 HI.out.1 HI.out.2.1 HI.out.2.2.1 HI.out.2.2.2 rfl (by decide) rfl _ _ rfl w.heap.size wr.heap.size _ w2.heap.size (.slice a6 n6 c6) (a.take k) [.int .i64 d.author, .int .i64 d.size, .int .i64 d.root, .slice x3 z3 u3, .slice x4 z4 u4, .slice x5 z5 u5] d w2.heap.size 1 rfl rfl (Kind.next (K := (kR 44 rHead).toKind) HO2.out ((Below.refl _ _).alloc (Nat.le_refl _) _)) (RowK.next HX.out ((Below.refl _ _).alloc (Nat.le_refl _) _)) (by simp) (by simp) (by simp; omega) hbw.size (fun q hq => new_cells w2 _ _ q) hlk.out ?_; intro v3 w3 hO3 hb3)
        | fail)
      go_roundg (na - (k + 1))
      case measure => omega
      case rel => exact ⟨k + 1, by omega, by go_num, by rw [HS.out]; exact hO3, (HB2.out.alloc HB2.out.size _).trans hb3⟩
    · obtain rfl : na = k := by omega
      rw [List.take_of_length_le (by rw [HEA.out]; exact Nat.le_refl _)] at hO
      obtain ⟨wA, rfl⟩ : ∃ u, u = wr := ⟨_, rfl⟩
      have HOA := Lib.hid hO; clear hO
      have HBA := Lib.hid hbw; clear hbw
      go_wp2_with fail
      go_loopg [6, 28] nb (fun g v6 i wr => ∃ k : Nat, k + g = nb ∧ i = .int .i64 k ∧ OwnR 44 rHead wr w.heap.size wr.heap.size v6 (mergeL a (b.take k)) ∧ Below w.heap.size w wr)
      case atStart => exact ⟨0, by omega, rfl, HOA.out, HBA.out⟩
      case round =>
        obtain ⟨k, hkg2, rfl, hO, hbw⟩ := hrel
        by_cases hlt2 : k < nb
        · have HK : Hid (k < b.length) := by unfold Hid; rw [HEB.out]; exact hlt2
          obtain ⟨bb, oo, rfl, hcx⟩ := HB.out.at_ (by omega)
          obtain ⟨us, hcell, hrd⟩ := hcx k HK.out
          have HSZ : Hid ((szHead (b[k]'HK.out) : Int) ≤ 1000000000) := HZB.out.2 _ (List.getElem_mem HK.out)
          have HS := Lib.hid (mergeL_succ (a := a) HK.out)
          have hlk : Hid ((mergeL a (b.take k)).length ≤ 1000000000) := by
            have := mergeL_le a (b.take k); rw [List.length_take] at this; have := HEA.out; unfold Hid; omega
          generalize b[k]'HK.out = d at hrd HS HSZ
          generalize mergeL a (b.take k) = out at hO HS hlk
          obtain ⟨a6, n6, c6, rfl⟩ := (OwnR.rd hO).shape
          have HO := Lib.hid hO; clear hO
          obtain ⟨_, rfl, i46, ⟨_, rfl, i47, ⟨_, rfl, i48, ⟨v49, _, rfl, h50, ⟨v51, _, rfl, h52, ⟨v53, _, rfl, h54, rfl⟩⟩⟩⟩⟩⟩ := hrd
          obtain ⟨aa0, nn0, cc0, rfl⟩ := sInts.sl h50
          obtain ⟨aa1, nn1, cc1, rfl⟩ := sInts.sl h52
          obtain ⟨aa2, nn2, cc2, rfl⟩ := sInts.sl h54
          have y0 : w.cell? ⟨bb, oo + (k * 6 + 0), none⟩ = some (.int .i64 d.author) := hcell 0 (by decide)
          replace y0 : w.cell? ⟨bb, oo + k * 6, none⟩ = some (.int .i64 d.author) := by rw [Nat.add_zero] at y0; exact y0
          have y1 : w.cell? ⟨bb, oo + (k * 6 + 1), none⟩ = some (.int .i64 d.size) := hcell 1 (by decide)
          replace y1 : w.cell? ⟨bb, oo + k * 6 + 1, none⟩ = some (.int .i64 d.size) := by rw [← Nat.add_assoc] at y1; exact y1
          have y2 : w.cell? ⟨bb, oo + (k * 6 + 2), none⟩ = some (.int .i64 d.root) := hcell 2 (by decide)
          replace y2 : w.cell? ⟨bb, oo + k * 6 + 2, none⟩ = some (.int .i64 d.root) := by rw [← Nat.add_assoc] at y2; exact y2
          have y3 : w.cell? ⟨bb, oo + (k * 6 + 3), none⟩ = some (.slice aa0 nn0 cc0) := hcell 3 (by decide)
          replace y3 : w.cell? ⟨bb, oo + k * 6 + 3, none⟩ = some (.slice aa0 nn0 cc0) := by rw [← Nat.add_assoc] at y3; exact y3
          have y4 : w.cell? ⟨bb, oo + (k * 6 + 4), none⟩ = some (.slice aa1 nn1 cc1) := hcell 4 (by decide)
          replace y4 : w.cell? ⟨bb, oo + k * 6 + 4, none⟩ = some (.slice aa1 nn1 cc1) := by rw [← Nat.add_assoc] at y4; exact y4
          have y5 : w.cell? ⟨bb, oo + (k * 6 + 5), none⟩ = some (.slice aa2 nn2 cc2) := hcell 5 (by decide)
          replace y5 : w.cell? ⟨bb, oo + k * 6 + 5, none⟩ = some (.slice aa2 nn2 cc2) := by rw [← Nat.add_assoc] at y5; exact y5
          have HR : Hid ((kS rHead).rd wr (.agg #[.int .i64 d.author, .int .i64 d.size, .int .i64 d.root, .slice aa0 nn0 cc0, .slice aa1 nn1 cc1, .slice aa2 nn2 cc2]) d) := (kS rHead).rd_below (rdHead.2 ⟨_, _, _, _, _, _, _, _, _, rfl, i46, i47, i48, h50, h52, h54⟩) hbw
          replace y0 := box_at y0 hbw
          replace y1 := box_at y1 hbw
          replace y2 := box_at y2 hbw
          replace y3 := box_at y3 hbw
          replace y4 := box_at y4 hbw
          replace y5 := box_at y5 hbw
          clear hcell hcx i46 i47 i48 h50 h52 h54
          obtain ⟨U, hU⟩ : ∃ U, U = wr.alloc (.cells #[.int .i64 d.author, .int .i64 d.size, .int .i64 d.root, .slice aa0 nn0 cc0, .slice aa1 nn1 cc1, .slice aa2 nn2 cc2] 44) := ⟨_, rfl⟩
          have hbU : Below wr.heap.size wr U := by rw [hU]; exact (Below.refl _ _).alloc (Nat.le_refl _) _
          have hsU : U.heap.size = wr.heap.size + 1 := by rw [hU]; simp
          have BX : Hid (BoxN U wr.heap.size 44 [.int .i64 d.author, .int .i64 d.size, .int .i64 d.root, .slice aa0 nn0 cc0, .slice aa1 nn1 cc1, .slice aa2 nn2 cc2]) := by unfold Hid; rw [hU]; exact BoxN.new wr [.int .i64 d.author, .int .i64 d.size, .int .i64 d.root, .slice aa0 nn0 cc0, .slice aa1 nn1 cc1, .slice aa2 nn2 cc2] _
          have HRU : Hid ((kS rHead).rd U (.agg #[.int .i64 d.author, .int .i64 d.size, .int .i64 d.root, .slice aa0 nn0 cc0, .slice aa1 nn1 cc1, .slice aa2 nn2 cc2]) d) := (kS rHead).rd_below HR.out hbU
          have HOU := Lib.hid (Kind.next (K := (kR 44 rHead).toKind) HO.out hbU)
          have HBU := Lib.hid (hbw.trans (hbU.mono hbw.size))
          have hwr := hbw.size
          have HU := Lib.hid hU; clear hbU hbw
          have hn6 : out.length = n6 := (OwnR.rd HOU.out).len
          have HN6 := Lib.hid hn6
          have hn6b : n6 ≤ 1000000000 := by have := hlk.out; omega
          clear hn6
          go_wp2_with fail
          rw [← hU]; clear hU
          obtain ⟨wB, rfl⟩ : ∃ u, u = wr := ⟨_, rfl⟩
          go_loopg [11, 34] n6 (fun g v11 i wr => ∃ j : Nat, j + g = n6 ∧ i = .int .i64 j ∧ v11 = .bool ((out.take j).any fun o => decide (o = d)) ∧ Below U.heap.size U wr)
          case atStart => exact ⟨0, by omega, rfl, rfl, Below.refl _ _⟩
          case round =>
          obtain ⟨j, hjg, rfl, rfl, hb2⟩ := hrel
          by_cases hlt3 : j < n6
          · have HJ : Hid (j < out.length) := by unfold Hid; rw [HN6.out]; exact hlt3
            obtain ⟨b2, o2, rfl, hcx2⟩ := (OwnR.rd HOU.out).at_ (by omega)
            obtain ⟨us2, hcell2, hrd2⟩ := hcx2 j HJ.out
            have HS2 : Hid ((out.take (j + 1)).any (fun o => decide (o = d)) = ((out.take j).any (fun o => decide (o = d)) || decide (out[j]'HJ.out = d))) := by unfold Hid; rw [List.take_succ_eq_append_getElem HJ.out, List.any_append]; simp
            generalize out[j]'HJ.out = x at hrd2 HS2
            obtain ⟨q, hq⟩ : ∃ q, ((out.take j).any fun o => decide (o = d)) = q := ⟨_, rfl⟩
            rw [hq] at HS2 ⊢
            clear hq
            obtain ⟨q2, hq2⟩ : ∃ q, decide (x = d) = q := ⟨_, rfl⟩
            rw [hq2] at HS2
            have HQ2 := Lib.hid hq2; clear hq2
            obtain ⟨_, rfl, i55, ⟨_, rfl, i56, ⟨_, rfl, i57, ⟨v58, _, rfl, h59, ⟨v60, _, rfl, h61, ⟨v62, _, rfl, h63, rfl⟩⟩⟩⟩⟩⟩ := hrd2
            obtain ⟨aa0t, nn0t, cc0t, rfl⟩ := sInts.sl h59
            obtain ⟨aa1t, nn1t, cc1t, rfl⟩ := sInts.sl h61
            obtain ⟨aa2t, nn2t, cc2t, rfl⟩ := sInts.sl h63
            have t0 : U.cell? ⟨b2, o2 + (j * 6 + 0), none⟩ = some (.int .i64 x.author) := hcell2 0 (by decide)
            replace t0 : U.cell? ⟨b2, o2 + j * 6, none⟩ = some (.int .i64 x.author) := by rw [Nat.add_zero] at t0; exact t0
            have t1 : U.cell? ⟨b2, o2 + (j * 6 + 1), none⟩ = some (.int .i64 x.size) := hcell2 1 (by decide)
            replace t1 : U.cell? ⟨b2, o2 + j * 6 + 1, none⟩ = some (.int .i64 x.size) := by rw [← Nat.add_assoc] at t1; exact t1
            have t2 : U.cell? ⟨b2, o2 + (j * 6 + 2), none⟩ = some (.int .i64 x.root) := hcell2 2 (by decide)
            replace t2 : U.cell? ⟨b2, o2 + j * 6 + 2, none⟩ = some (.int .i64 x.root) := by rw [← Nat.add_assoc] at t2; exact t2
            have t3 : U.cell? ⟨b2, o2 + (j * 6 + 3), none⟩ = some (.slice aa0t nn0t cc0t) := hcell2 3 (by decide)
            replace t3 : U.cell? ⟨b2, o2 + j * 6 + 3, none⟩ = some (.slice aa0t nn0t cc0t) := by rw [← Nat.add_assoc] at t3; exact t3
            have t4 : U.cell? ⟨b2, o2 + (j * 6 + 4), none⟩ = some (.slice aa1t nn1t cc1t) := hcell2 4 (by decide)
            replace t4 : U.cell? ⟨b2, o2 + j * 6 + 4, none⟩ = some (.slice aa1t nn1t cc1t) := by rw [← Nat.add_assoc] at t4; exact t4
            have t5 : U.cell? ⟨b2, o2 + (j * 6 + 5), none⟩ = some (.slice aa2t nn2t cc2t) := hcell2 5 (by decide)
            replace t5 : U.cell? ⟨b2, o2 + j * 6 + 5, none⟩ = some (.slice aa2t nn2t cc2t) := by rw [← Nat.add_assoc] at t5; exact t5
            have HRX : Hid ((kS rHead).rd wr (.agg #[.int .i64 x.author, .int .i64 x.size, .int .i64 x.root, .slice aa0t nn0t cc0t, .slice aa1t nn1t cc1t, .slice aa2t nn2t cc2t]) x) := (kS rHead).rd_below (rdHead.2 ⟨_, _, _, _, _, _, _, _, _, rfl, i55, i56, i57, h59, h61, h63⟩) hb2
            replace t0 := box_at t0 hb2
            replace t1 := box_at t1 hb2
            replace t2 := box_at t2 hb2
            replace t3 := box_at t3 hb2
            replace t4 := box_at t4 hb2
            replace t5 := box_at t5 hb2
            clear hcell2 hcx2 i55 i56 i57 h59 h61 h63
            have x0 := (BX.out.below hb2).cell (i := 0) rfl
            have x1 := (BX.out.below hb2).cell (i := 1) rfl
            have x2 := (BX.out.below hb2).cell (i := 2) rfl
            have x3 := (BX.out.below hb2).cell (i := 3) rfl
            have x4 := (BX.out.below hb2).cell (i := 4) rfl
            have x5 := (BX.out.below hb2).cell (i := 5) rfl
            have hltb : wB.heap.size < wr.heap.size := by have := hb2.size; omega
            have HBI := Lib.hid hb2
            have HLT : Hid (j + 1 + (n6 - (j + 1)) = n6) := by unfold Hid; omega
            have HR2 := Lib.hid ((kS rHead).rd_below HRU.out hb2)
            cases q with
            | true =>
              go_wp2_with fail
              go_roundg (n6 - (j + 1))
              case measure => omega
              case rel => exact ⟨j + 1, HLT.out, by go_num, by rw [HS2.out]; rfl, HBI.out.alloc HBI.out.size _⟩
            | false =>
              go_wp2_with (first
                | (go_at_call 132; refine (spec_fSame _ x _ d _ ((kS rHead).rd_below HRX.out ((Below.refl _ _).alloc (Nat.le_refl _) _)) ((kS rHead).rd_below HR2.out ((Below.refl _ _).alloc (Nat.le_refl _) _))).mono ?_; rintro e w5 ⟨rfl, hb5⟩; rw [HQ2.out]; have HB5 := Lib.hid ((HBI.out.alloc HBI.out.size _).trans (hb5.mono (by have := HBI.out.size; simp; omega))); clear hb5)
                | fail)
              go_roundg (n6 - (j + 1))
              case measure => omega
              case rel => exact ⟨j + 1, HLT.out, by go_num, by rw [HS2.out]; rfl, HB5.out⟩
          obtain rfl : n6 = j := by omega
          rw [List.take_of_length_le (by rw [HN6.out]; exact Nat.le_refl _)]
          obtain ⟨q, hq⟩ : ∃ q, (out.any fun o => decide (o = d)) = q := ⟨_, rfl⟩
          rw [hq]
          have HQ := Lib.hid hq; clear hq
          obtain ⟨w2, rfl⟩ : ∃ u, u = wr := ⟨_, rfl⟩
          have HB2 := Lib.hid (HBU.out.trans (hb2.mono HBU.out.size))
          have HO2 := Lib.hid (Kind.next (K := (kR 44 rHead).toKind) HOU.out hb2)
          have HR2 := Lib.hid ((kS rHead).rd_below HRU.out hb2)
          have BX2 := Lib.hid (BX.out.below hb2)
          have hs2 := hb2.size
          clear hb2
          cases q with
          | true =>
            have HE : Hid (mergeL a (b.take (k + 1)) = out) := by unfold Hid; rw [HS.out]; unfold addH; rw [HQ.out, if_pos rfl]
            go_wp2_with fail
            go_roundg (nb - (k + 1))
            case measure => omega
            case rel => exact ⟨k + 1, by omega, by go_num, by rw [HE.out]; exact (kR 44 rHead).own_mono HO2.out (Nat.le_refl _) (by omega), HB2.out⟩
          | false =>
            have HE : Hid (mergeL a (b.take (k + 1)) = out ++ [d]) := by unfold Hid; rw [HS.out]; unfold addH; rw [HQ.out, if_neg (by simp)]
            have x0 := BX2.out.cell (i := 0) rfl
            have x1 := BX2.out.cell (i := 1) rfl
            have x2 := BX2.out.cell (i := 2) rfl
            have x3 := BX2.out.cell (i := 3) rfl
            have x4 := BX2.out.cell (i := 4) rfl
            have x5 := BX2.out.cell (i := 5) rfl
            go_wp2_with (first
              | (go_at_call 88; refine (spec_fOwn _ d _ HSZ.out HR2.out).mono ?_; rintro e w3 ⟨v', rfl, X, hb3⟩; (obtain ⟨_, rfl, X⟩ := X); (obtain ⟨_, rfl, j0, ⟨_, rfl, j1, ⟨_, rfl, j2, ⟨_, _, rfl, k3', ⟨_, _, rfl, k4', ⟨_, _, rfl, k5', rfl⟩⟩⟩⟩⟩⟩ := rHead.own_rd X); (obtain ⟨y3, z3, u3, rfl⟩ := sInts.sl k3'); (obtain ⟨y4, z4, u4, rfl⟩ := sInts.sl k4'); (obtain ⟨y5, z5, u5, rfl⟩ := sInts.sl k5'); clear j0 j1 j2 k3' k4' k5'; (have HX := Lib.hid X); clear X; (have hs3 := hb3.size); (have HB3 := Lib.hid (HB2.out.trans (hb3.mono HB2.out.size))); (have HO3 := Lib.hid (Kind.next (K := (kR 44 rHead).toKind) HO2.out hb3)))
              | (at_builtin; refine wpList_append_R rHead 53 44 ti (.agg #[.int .i64 0, .int .i64 0, .int .i64 0, .slice none 0 0, .slice none 0 0, .slice none 0 0]) Tryz.underlying53 HI.out.1 HI.out.2.1 HI.out.2.2.1 HI.out.2.2.2 rfl (by decide) rfl _ _ rfl w.heap.size wB.heap.size w2.heap.size w3.heap.size (.slice a6 n6 c6) out [.int .i64 d.author, .int .i64 d.size, .int .i64 d.root, .slice y3 z3 u3, .slice y4 z4 u4, .slice y5 z5 u5] d w3.heap.size 1 rfl rfl (Kind.next (K := (kR 44 rHead).toKind) HO3.out ((Below.refl _ _).alloc (Nat.le_refl _) _)) (RowK.next HX.out ((Below.refl _ _).alloc (Nat.le_refl _) _)) (by omega) (by simp) (by simp; omega) hwr (fun q hq => new_cells w3 _ _ q) hlk.out ?_; intro v4 w4 hO4 hb4)
              | fail)
            go_roundg (nb - (k + 1))
            case measure => omega
            case rel => exact ⟨k + 1, by omega, by go_num, by rw [HE.out]; exact hO4, (HB3.out.alloc HB3.out.size _).trans hb4⟩
        · obtain rfl : nb = k := by omega
          rw [List.take_of_length_le (by rw [HEB.out]; exact Nat.le_refl _)] at hO
          obtain ⟨a6, n6, c6, rfl⟩ := (OwnR.rd hO).shape
          have hlen := (OwnR.rd hO).len
          have HO := Lib.hid hO; clear hO
          have hdl : decide ((n6 : Int) ≤ 20) = ok := by rw [← HOK.out, decide_eq_decide]; omega
          clear hlen
          have HDL := Lib.hid hdl
          cases ok
          all_goals
            clear hdl
            have hx := HDL.out
            simp only [decide_eq_false_iff_not, decide_eq_true_eq] at hx
            go_wp2_with fail
            go_ret2
            exact ⟨_, rfl, HO.out, hbw⟩
end Go.Proofs.YtodennbdfloccaaGreat
