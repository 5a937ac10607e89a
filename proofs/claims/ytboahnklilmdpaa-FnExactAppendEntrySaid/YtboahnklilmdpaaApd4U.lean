/- Walks: a board in new memory (printed by gen_apd4.py). -/
import Derived.Test.YtboahnklilmdpaaApd3U
namespace Go.Proofs.Ytboahnklilmdpaa
open Go.RowKit
set_option linter.unusedSimpArgs false
set_option linter.unusedVariables false

set_option maxRecDepth 100000 in
set_option maxHeartbeats 4000000 in
theorem spec_oOwn (v : Value) (d : BoardD) (w : World) (hzk : d.keys.length ≤ 1000000000) (hzn : d.entries.length ≤ 2000000) (hze : ∀ e ∈ d.entries, e.data.length ≤ 1000000000 ∧ szProof e.sign ≤ 1000000000) (h : (kS rBoard).rd w v d) :
    Calls Try.prog 121 #[v] w fun e w' => ∃ v', e = .returned v' ∧ (kS rBoard).own w' w.heap.size w'.heap.size v' d ∧ Below w.heap.size w w' := by
  obtain ⟨a0, n0, c0, a1, n1, c1, rfl, k0, k1⟩ := rdBoard.1 h
  obtain ⟨ks, E⟩ := d
  simp only at hzk hzn hze k0 k1
  clear h
  have HZE := Lib.hid hze
  clear hze
  obtain ⟨ti, hti, htz, hts, htb⟩ := info_Entry
  have HI := Lib.hid (show _ ∧ _ ∧ _ ∧ _ from ⟨hti, htz, hts, htb⟩)
  clear hti htz hts htb
  obtain ⟨W, hW⟩ : ∃ W, W = (w.alloc (.cells #[.slice a0 n0 c0, .slice a1 n1 c1] 36)).alloc (.cells #[.slice none 0 0, .slice none 0 0] 36) := ⟨_, rfl⟩
  have HB : Hid (Below w.heap.size w W) := by unfold Hid; rw [hW]; (repeat (first | exact Below.refl _ _ | assumption | refine Below.drew ?_ | refine Below.alloc ?_ (by first | (simp; done) | (simp; omega)) _ | refine Below.setCell ?_ (by first | (simp; done) | (simp; omega)) _))
  have HK0 : Hid (Ints W (.slice a0 n0 c0) ks) := Ints.below k0 HB.out
  have HD : Hid (RdR rEntry W (.slice a1 n1 c1) E) := RdR.below k1 HB.out
  clear k0 k1
  have x0 : W.cell? ⟨w.heap.size, 0, none⟩ = some (.slice a0 n0 c0) := by rw [hW]; simp [go_sem]
  have x1 : W.cell? ⟨w.heap.size, 1, none⟩ = some (.slice a1 n1 c1) := by rw [hW]; simp [go_sem]
  have HR : Hid (BoxN W (w.heap.size + 1) 36 [.slice none 0 0, .slice none 0 0]) := by unfold Hid; rw [hW]; have h := BoxN.new (w.alloc (.cells #[.slice a0 n0 c0, .slice a1 n1 c1] 36)) [.slice none 0 0, .slice none 0 0] 36; simpa using h
  have HSW : Hid (W.heap.size = w.heap.size + 2) := by unfold Hid; rw [hW]; simp
  go_enter Try.func121, Try.ntmps121
  go_wp2_with fail
  rw [← hW]
  clear hW
  try (go_wp2_with fail)
  refine (spec_l1Own _ ks _ HK0.out hzk).mono ?_
  rintro e u1 ⟨vk, rfl, hok, hb1⟩
  obtain ⟨ak, ck, rfl⟩ := hok.shape
  have hs1 := hb1.size
  have HOK := Lib.hid (InI.of_own hok)
  have HB1 := Lib.hid hb1
  replace x1 := box_at x1 hb1
  have hlt1 : w.heap.size < u1.heap.size := by have := HSW.out; omega
  have hlt2 : w.heap.size + 1 < u1.heap.size := by have := HSW.out; omega
  clear hok hb1 x0
  obtain ⟨U, hU⟩ : ∃ U, U = u1.alloc (.cells #[.slice ak ks.length ck, .slice none 0 0] 36) := ⟨_, rfl⟩
  have HBU : Hid (Below u1.heap.size u1 U) := by unfold Hid; rw [hU]; exact (Below.refl _ _).alloc (Nat.le_refl _) _
  have HO : Hid (BoxN U u1.heap.size 36 [.slice ak ks.length ck, .slice none 0 0]) := by unfold Hid; rw [hU]; exact BoxN.new _ _ _
  have hsU : U.heap.size = u1.heap.size + 1 := by rw [hU]; simp
  go_wp2_with fail
  rw [← hU]
  clear hU x1
  have HBW2 : Hid (Below W.heap.size W U) := Below.next HB1.out HBU.out
  have HR2 := Lib.hid (HR.out.below HBW2.out)
  have HK2 := Lib.hid (HOK.out.next HBU.out)
  clear HR HOK HK0
  have HEL := Lib.hid HD.out.len
  have HCM := Lib.hid HD.out.capMax
  have hn1 : n1 ≤ 2000000 := by have := HEL.out; omega
  have hcc : c1 ≤ 9223372036854775807 := by have := HCM.out; unfold maxLen at this; omega
  try (go_wp2_with fail)
  go_loopg [13] n1 (fun gh kv wr => ∃ (k : Nat) (ae : Option Addr) (ne ce : Nat), k + gh = n1 ∧ kv = .int .i64 k ∧ BoxN wr u1.heap.size 36 [.slice ak ks.length ck, .slice ae ne ce] ∧ OwnR 44 rEntry wr U.heap.size wr.heap.size (.slice ae ne ce) (E.take k) ∧ Within u1.heap.size (u1.heap.size + 1) U wr)
  case atStart => exact ⟨0, none, 0, 0, by omega, rfl, HO.out, OwnR.nil _ _ _ _ _, Within.refl _ _ _⟩
  case round =>
    obtain ⟨k, ae, ne, ce, hkg, rfl, hO, hOE, hWI⟩ := hrel
    by_cases hlt : k < n1
    · have HK : Hid (k < E.length) := by unfold Hid; rw [HEL.out]; exact hlt
      have hws := hWI.size
      have HOr := Lib.hid hO
      have HWI := Lib.hid hWI
      have HOE := Lib.hid hOE
      have hbr : Below W.heap.size W wr := HBW2.out.trans (hWI.below (B := W.heap.size) (by omega) (by omega))
      have HBR := Lib.hid hbr
      have HS := Lib.hid (List.take_succ_eq_append_getElem HK.out)
      have HZK : Hid ((E[k]'HK.out).data.length ≤ 1000000000 ∧ szProof (E[k]'HK.out).sign ≤ 1000000000) := HZE.out _ (List.getElem_mem _)
      clear hO hOE hWI
      obtain ⟨b_y, o_y, rfl, hcx⟩ := HD.out.at_ (by omega)
      obtain ⟨us, hcell, hrd⟩ := hcx k HK.out
      clear hcx
      generalize E[k]'HK.out = y at hrd HS HZK
      obtain ⟨ay_2, ny_2, cy_2, ay_3, ny_3, cy_3, ay_4, ny_4, cy_4, ay_5, ny_5, cy_5, ers, jy_0, jy_1, ky_2, ky_3, ky_4, ky_5⟩ := rdEntry.1 ⟨us, rfl, hrd⟩
      obtain rfl : us = [.int .i64 y.kind, .int .i64 y.author, .slice ay_2 ny_2 cy_2, .slice ay_3 ny_3 cy_3, .slice ay_4 ny_4 cy_4, .slice ay_5 ny_5 cy_5] := by have h := Value.agg.inj ers; simpa using congrArg Array.toList h
      clear ers hrd
      have y_y_0 : wr.cell? ⟨b_y, o_y + k * 6, none⟩ = some (.int .i64 y.kind) := box_at (hcell 0 (by decide)) hbr
      have y_y_1 : wr.cell? ⟨b_y, o_y + k * 6 + 1, none⟩ = some (.int .i64 y.author) := box_at (hcell 1 (by decide)) hbr
      have y_y_2 : wr.cell? ⟨b_y, o_y + k * 6 + 2, none⟩ = some (.slice ay_2 ny_2 cy_2) := box_at (hcell 2 (by decide)) hbr
      have y_y_3 : wr.cell? ⟨b_y, o_y + k * 6 + 3, none⟩ = some (.slice ay_3 ny_3 cy_3) := box_at (hcell 3 (by decide)) hbr
      have y_y_4 : wr.cell? ⟨b_y, o_y + k * 6 + 4, none⟩ = some (.slice ay_4 ny_4 cy_4) := box_at (hcell 4 (by decide)) hbr
      have y_y_5 : wr.cell? ⟨b_y, o_y + k * 6 + 5, none⟩ = some (.slice ay_5 ny_5 cy_5) := box_at (hcell 5 (by decide)) hbr
      clear hcell
      have HR_y := Lib.hid ((kS rEntry).rd_below (rdEntry.2 ⟨_, _, _, _, _, _, _, _, _, _, _, _, rfl, jy_0, jy_1, ky_2, ky_3, ky_4, ky_5⟩ : (kS rEntry).rd W (.agg #[.int .i64 y.kind, .int .i64 y.author, .slice ay_2 ny_2 cy_2, .slice ay_3 ny_3 cy_3, .slice ay_4 ny_4 cy_4, .slice ay_5 ny_5 cy_5]) y) hbr)
      have F_y_data := Lib.hid (sInts.rd_below ky_2 hbr)
      have F_y_sign := Lib.hid ((kS rProof).rd_below (rdProof.2 ⟨_, _, _, _, _, _, _, _, _, rfl, ky_3, ky_4, ky_5⟩ : (kS rProof).rd W (.agg #[.slice ay_3 ny_3 cy_3, .slice ay_4 ny_4 cy_4, .slice ay_5 ny_5 cy_5]) y.sign) hbr)
      have J_y_0 := Lib.hid jy_0
      have J_y_1 := Lib.hid jy_1
      clear jy_0 jy_1 ky_2 ky_3 ky_4 ky_5
      clear hbr
      go_wp2_with fail
      obtain ⟨V, hV⟩ : ∃ V, V = wr.alloc (.cells #[.int .i64 y.kind, .int .i64 y.author, .slice ay_2 ny_2 cy_2, .slice ay_3 ny_3 cy_3, .slice ay_4 ny_4 cy_4, .slice ay_5 ny_5 cy_5] 44) := ⟨_, rfl⟩
      rw [← hV]
      have HBV : Hid (Below wr.heap.size wr V) := by unfold Hid; rw [hV]; exact (Below.refl _ _).alloc (Nat.le_refl _) _
      have hsV : V.heap.size = wr.heap.size + 1 := by rw [hV]; simp
      have HE0 : Hid (BoxN V wr.heap.size 44 [.int .i64 y.kind, .int .i64 y.author, .slice ay_2 ny_2 cy_2, .slice ay_3 ny_3 cy_3, .slice ay_4 ny_4 cy_4, .slice ay_5 ny_5 cy_5]) := by unfold Hid; rw [hV]; exact BoxN.new _ _ _
      clear hV
      have HOV := Lib.hid (HOr.out.below HBV.out)
      have q1 := HOV.out.cell (i := 1) rfl
      have z0 := HE0.out.cell (i := 0) rfl
      have z1 := HE0.out.cell (i := 1) rfl
      have z2 := HE0.out.cell (i := 2) rfl
      have z3 := HE0.out.cell (i := 3) rfl
      have z4 := HE0.out.cell (i := 4) rfl
      have z5 := HE0.out.cell (i := 5) rfl
      have FD : Hid (Ints V (.slice ay_2 ny_2 cy_2) y.data) := Ints.below F_y_data.out HBV.out
      have FSg : Hid ((kS rProof).rd V (.agg #[.slice ay_3 ny_3 cy_3, .slice ay_4 ny_4 cy_4, .slice ay_5 ny_5 cy_5]) y.sign) := (kS rProof).rd_below F_y_sign.out HBV.out
      clear F_y_data F_y_sign HR_y y_y_0 y_y_1 y_y_2 y_y_3 y_y_4 y_y_5
      refine wp_region_noPanic ?_
      refine wp_region_V (fun w' => Below V.heap.size V w' ∧ w'.cell? ⟨u1.heap.size, 1, none⟩ = some (.slice ae ne ce) ∧ w'.cell? ⟨wr.heap.size, 0, none⟩ = some (.int .i64 y.kind) ∧ w'.cell? ⟨wr.heap.size, 1, none⟩ = some (.int .i64 y.author) ∧ w'.cell? ⟨wr.heap.size, 2, none⟩ = some (.slice ay_2 ny_2 cy_2) ∧ w'.cell? ⟨wr.heap.size, 3, none⟩ = some (.slice ay_3 ny_3 cy_3) ∧ w'.cell? ⟨wr.heap.size, 4, none⟩ = some (.slice ay_4 ny_4 cy_4) ∧ w'.cell? ⟨wr.heap.size, 5, none⟩ = some (.slice ay_5 ny_5 cy_5)) 19 14 (.rd 0 (.rd 1 (.rd 2 (.rd 3 (.rd 4 (.rd 5 (.rd 6 (.rd 7 (.rd 9 (.rd 10 (.alt 8 (.alt 11 (.rd 12 (.alt 13 .done .nil)) .nil) .nil))))))))))) [14, 15, 16] (by kernel_rfl) (by kernel_rfl) rfl (fun _ _ _ _ _ h => h) ⟨(Below.refl _ _).drew, q1, z0, z1, z2, z3, z4, z5⟩ ?_
      simp only [pickV, pickN, List.getElem?_cons_zero, List.getElem?_cons_succ]
      have hb0 : Below V.heap.size V V.drew := (Below.refl _ _).drew
      repeat (refine' wpV_read _ (by kernel_rfl) (fun w' hS' => ?_) ?_; rotate_left; · ((try dsimp only at hS'); go_simp; (try with_reducible rfl)); (try simp only [Act.put, List.setIfInBounds_toArray, List.set_cons_zero, List.set_cons_succ]))
      refine wpV_do (by kernel_rfl) (fun K hK => ?_)
      go_simp
      go_at_call 248
      refine (spec_l1Own _ y.data _ (Ints.below FD.out hb0) HZK.out.1).mono ?_
      rintro e u2 ⟨v2, rfl, ho2, hq2⟩
      have hb2 := keep_b hq2 hb0
      obtain ⟨ax2, cx2, rfl⟩ := ho2.shape
      have HO3 := Lib.hid (InI.of_own ho2); clear ho2
      have hs3 : V.heap.size ≤ u2.heap.size := hb2.size
      refine hK.out _ _ ⟨hb2, box_at q1 hb2, box_at z0 hb2, box_at z1 hb2, box_at z2 hb2, box_at z3 hb2, box_at z4 hb2, box_at z5 hb2⟩ (fun _ => ?_)
      clear hK K hq2
      try simp only [Act.put, List.setIfInBounds_toArray, List.set_cons_zero, List.set_cons_succ]
      repeat (refine' wpV_read _ (by kernel_rfl) (fun w' hS' => ?_) ?_; rotate_left; · ((try dsimp only at hS'); go_simp; (try with_reducible rfl)); (try simp only [Act.put, List.setIfInBounds_toArray, List.set_cons_zero, List.set_cons_succ]))
      refine wpV_do (by kernel_rfl) (fun K hK => ?_)
      go_simp
      go_at_call 249
      refine (spec_oOwnProof _ y.sign _ HZK.out.2 ((kS rProof).rd_below FSg.out hb2)).mono ?_
      rintro e u3 ⟨v3, rfl, ho3, hq3⟩
      have hb3 := keep_b hq3 hb2
      obtain ⟨as0, ns0, cs0, as1, ns1, cs1, as2, ns2, cs2, rfl, hr3⟩ := rdProof.1 ((kS rProof).own_rd ho3)
      clear hr3
      have HO4 := Lib.hid ho3; clear ho3
      have HO3b := Lib.hid (HO3.out.next hq3)
      have hs4 : u2.heap.size ≤ u3.heap.size := hq3.size
      refine hK.out _ _ ⟨hb3, box_at q1 hb3, box_at z0 hb3, box_at z1 hb3, box_at z2 hb3, box_at z3 hb3, box_at z4 hb3, box_at z5 hb3⟩ (fun _ => ?_)
      clear hK K hq3 HO3
      try simp only [Act.put, List.setIfInBounds_toArray, List.set_cons_zero, List.set_cons_succ]
      repeat (refine' wpV_read _ (by kernel_rfl) (fun w' hS' => ?_) ?_; rotate_left; · ((try dsimp only at hS'); go_simp; (try with_reducible rfl)); (try simp only [Act.put, List.setIfInBounds_toArray, List.set_cons_zero, List.set_cons_succ]))
      repeat (refine' wpV_read _ (by kernel_rfl) (fun w' hS' => ?_) ?_; rotate_left; · ((try dsimp only at hS'); go_simp; (try with_reducible rfl)); (try simp only [Act.put, List.setIfInBounds_toArray, List.set_cons_zero, List.set_cons_succ]))
      obtain ⟨Z, rfl⟩ : ∃ Z, Z = u3 := ⟨_, rfl⟩
      refine wpV_do (by kernel_rfl) (fun K hK => ?_)
      go_simp
      have hb4 := hb3.alloc hb3.size (.cells #[.int .i64 y.kind, .int .i64 y.author, .slice ax2 y.data.length cx2, .slice as0 ns0 cs0, .slice as1 ns1 cs1, .slice as2 ns2 cs2] 44)
      refine hK.out _ _ ⟨hb4, box_at q1 hb4, box_at z0 hb4, box_at z1 hb4, box_at z2 hb4, box_at z3 hb4, box_at z4 hb4, box_at z5 hb4⟩ (fun _ => ?_)
      clear hK K hb4
      try simp only [Act.put, List.setIfInBounds_toArray, List.set_cons_zero, List.set_cons_succ]
      refine wpV_done ?_
      have hVd : V.drew.heap.size = V.heap.size := by simp
      have HENZ := Lib.hid (own_entry (vs := [.slice as0 ns0 cs0, .slice as1 ns1 cs1, .slice as2 ns2 cs2]) (lo := V.heap.size) (hi := Z.heap.size) (d := y.sign) HO3b.out HO4.out J_y_0.out J_y_1.out ⟨by omega, by omega⟩ ⟨by omega, Nat.le_refl _⟩ (.inl (Nat.le_refl _)))
      have HBZ : Hid (Below wr.heap.size wr Z) := Below.next HBV.out hb3
      clear hb0 hb2 hb3 HO3b HO4 z0 z1 z2 z3 z4 z5 q1 HE0 FD FSg
      have HOZ := Lib.hid (HOr.out.below HBZ.out)
      have HOEZ := Lib.hid ((kR 44 rEntry).own_frame HOE.out (w' := Z) (fun k h1 h2 h3 => HBZ.out.block k h3))
      have HWZ := Lib.hid (HWI.out.thenB (HBZ.out.mono hws))
      have hsZ := HBZ.out.size
      clear HOr HOE
      have hltZ : u1.heap.size < Z.heap.size := by omega
      have hlk : Hid ((E.take k).length ≤ 1000000000) := by unfold Hid; rw [List.length_take]; omega
      have HA1 := Lib.hid ((kR 44 rEntry).next HOEZ.out ((Below.refl _ _).alloc (Nat.le_refl _) (.cells #[.int .i64 y.kind, .int .i64 y.author, .slice ax2 y.data.length cx2, .slice as0 ns0 cs0, .slice as1 ns1 cs1, .slice as2 ns2 cs2] 44)))
      have HA2 := Lib.hid (RowK.next (kS_row (R := rEntry) (vs := [.int .i64 y.kind, .int .i64 y.author, .slice ax2 y.data.length cx2, .slice as0 ns0 cs0, .slice as1 ns1 cs1, .slice as2 ns2 cs2]) HENZ.out) ((Below.refl _ _).alloc (Nat.le_refl _) (.cells #[.int .i64 y.kind, .int .i64 y.author, .slice ax2 y.data.length cx2, .slice as0 ns0 cs0, .slice as1 ns1 cs1, .slice as2 ns2 cs2] 44)))
      have HWA := Lib.hid (HWZ.out.thenB ((Below.refl _ _).alloc (Nat.le_trans hws hsZ) (.cells #[.int .i64 y.kind, .int .i64 y.author, .slice ax2 y.data.length cx2, .slice as0 ns0 cs0, .slice as1 ns1 cs1, .slice as2 ns2 cs2] 44)))
      have HOA := Lib.hid (HOZ.out.alloc (.cells #[.int .i64 y.kind, .int .i64 y.author, .slice ax2 y.data.length cx2, .slice as0 ns0 cs0, .slice as1 ns1 cs1, .slice as2 ns2 cs2] 44))
      have hsA : (Z.alloc (.cells #[.int .i64 y.kind, .int .i64 y.author, .slice ax2 y.data.length cx2, .slice as0 ns0 cs0, .slice as1 ns1 cs1, .slice as2 ns2 cs2] 44)).heap.size = Z.heap.size + 1 := by simp
      have hA3 := new_cells Z [.int .i64 y.kind, .int .i64 y.author, .slice ax2 y.data.length cx2, .slice as0 ns0 cs0, .slice as1 ns1 cs1, .slice as2 ns2 cs2] 44
      have HA3 : Hid (∀ q, q < rEntry.width → (Z.alloc (.cells #[.int .i64 y.kind, .int .i64 y.author, .slice ax2 y.data.length cx2, .slice as0 ns0 cs0, .slice as1 ns1 cs1, .slice as2 ns2 cs2] 44)).cell? ⟨Z.heap.size, q, none⟩ = ([.int .i64 y.kind, .int .i64 y.author, .slice ax2 y.data.length cx2, .slice as0 ns0 cs0, .slice as1 ns1 cs1, .slice as2 ns2 cs2] : List Value)[q]?) := fun q _ => hA3 q
      clear hA3
      generalize hYA : Z.alloc (.cells #[.int .i64 y.kind, .int .i64 y.author, .slice ax2 y.data.length cx2, .slice as0 ns0 cs0, .slice as1 ns1 cs1, .slice as2 ns2 cs2] 44) = YA at HA1 HA2 HWA HOA hsA HA3
      have HYA := Lib.hid hYA
      clear hYA
      have hsA1 : Z.heap.size < YA.heap.size := by omega
      have hsV1 : wr.heap.size < V.heap.size := by omega
      have hsU1 : u1.heap.size < U.heap.size := by omega
      clear hsA hsV hVd hsU
      go_wp2_with (first
        | (at_builtin; (try rw [HYA.out]); refine wpList_append_R rEntry 34 44 ti (.agg #[.int .i64 0, .int .i64 0, .slice none 0 0, .slice none 0 0, .slice none 0 0, .slice none 0 0]) Try.underlying34 HI.out.1 HI.out.2.1 HI.out.2.2.1 HI.out.2.2.2 rfl (by decide) rfl _ _ rfl U.heap.size wr.heap.size V.heap.size Z.heap.size (.slice ae ne ce) (E.take k) [.int .i64 y.kind, .int .i64 y.author, .slice ax2 y.data.length cx2, .slice as0 ns0 cs0, .slice as1 ns1 cs1, .slice as2 ns2 cs2] y Z.heap.size 1 rfl rfl HA1.out HA2.out (by omega) (by omega) (by omega) hws HA3.out hlk.out ?_; intro v5 w5 hO5 hb5; obtain ⟨a5, n5, c5, rfl⟩ := (OwnR.rd hO5).shape; have HO5 := Lib.hid hO5; have HB5 := Lib.hid hb5; (have HOx : Hid (BoxN w5 u1.heap.size 36 [.slice ak ks.length ck, .slice ae ne ce]) := (hb5.block _ (by omega)).trans HOA.out); (have HWx := Lib.hid (HWA.out.thenB hb5)); clear hO5 hb5; have q1 := HOx.out.cell (i := 1) rfl; have fr := fun j => HOx.out.frozen j)
        | fail)
      refine NoPanic.normal ?_
      go_wp2_with fail
      go_roundg (n1 - (k + 1))
      case measure => omega
      case rel =>
        refine ⟨k + 1, a5, n5, c5, by omega, by go_num, HOx.out.set 1 _, ?_, HWx.out.setCell (Nat.le_refl _) (Nat.lt_succ_self _) _ _⟩
        rw [HS.out]
        have hs5 : (w5.setCell ⟨u1.heap.size, 1, none⟩ (.slice a5 n5 c5)).heap.size = w5.heap.size := by simp [World.setCell]
        rw [hs5]
        exact (kR 44 rEntry).own_frame HO5.out (fun k h1 h2 h3 => heap_setCell_other _ _ k _ (fun e => by simp at e; omega))
    · obtain rfl : n1 = k := by omega
      rw [List.take_of_length_le (by rw [HEL.out]; exact Nat.le_refl _)] at hOE
      have hws := hWI.size
      have HRr := Lib.hid (HR2.out.within hWI (.inl (by have := HSW.out; omega)))
      have HKr := Lib.hid (HK2.out.kept hWI (.inl (Nat.le_refl _)))
      have HBr : Hid (Below w.heap.size w wr) := Below.next HB.out (HBW2.out.trans (hWI.below (B := W.heap.size) (by omega) (by omega)))
      have HOr := Lib.hid hO
      have HOE := Lib.hid hOE
      clear hO hOE hWI HR2 HK2
      have q0 := HOr.out.cell (i := 0) rfl
      have q1 := HOr.out.cell (i := 1) rfl
      have r0 := HRr.out.cell (i := 0) rfl
      have r1 := HRr.out.cell (i := 1) rfl
      have fr := fun j => HRr.out.frozen j
      go_wp2_with fail
      have HRF := Lib.hid ((HRr.out.set 0 (.slice ak ks.length ck)).set 1 (.slice ae ne ce))
      obtain ⟨Z, hZ⟩ : ∃ Z, Z = (wr.setCell ⟨w.heap.size + 1, 0, none⟩ (.slice ak ks.length ck)).setCell ⟨w.heap.size + 1, 1, none⟩ (.slice ae ne ce) := ⟨_, rfl⟩
      have hZs : Z.heap.size = wr.heap.size := by rw [hZ]; simp [World.setCell]
      have hZo : ∀ k, k ≠ w.heap.size + 1 → Z.heap[k]? = wr.heap[k]? := fun k hk => by
        rw [hZ, heap_setCell_other _ _ k _ (fun e => hk (by simpa using e)), heap_setCell_other _ _ k _ (fun e => hk (by simpa using e))]
      have HBF : Hid (Below w.heap.size w Z) := by unfold Hid; rw [hZ]; exact (HBr.out.setCell (by show w.heap.size ≤ w.heap.size + 1; omega) _).setCell (by show w.heap.size ≤ w.heap.size + 1; omega) _
      have HKZ : Hid (InI Z W.heap.size u1.heap.size (.slice ak ks.length ck) ks) := sInts.own_frame HKr.out (fun k h1 h2 h3 => hZo k (by have := HSW.out; omega))
      have HEZ : Hid (OwnR 44 rEntry Z U.heap.size wr.heap.size (.slice ae ne ce) E) := (kR 44 rEntry).own_frame HOE.out (fun k h1 h2 h3 => hZo k (by have := HSW.out; omega))
      have hsW := HSW.out
      have HFIN := Lib.hid (own_board (lo := w.heap.size) (hi := Z.heap.size) HKZ.out HEZ.out ⟨by omega, by omega⟩ ⟨by omega, by omega⟩ (.inl (by omega)) hws)
      rw [← hZ] at HRF ⊢
      clear r0 r1 fr q0 q1 hZ hZo hZs hsW
      have r0 := HRF.out.cell (i := 0) rfl
      have r1 := HRF.out.cell (i := 1) rfl
      go_wp2_with fail
      refine bodyPost_ret (v := .agg #[.slice ak ks.length ck, .slice ae ne ce]) (by simp [results, Try.results121, go_sem, r0, r1]) rfl ⟨_, rfl, HFIN.out, HBF.out⟩
end Go.Proofs.Ytboahnklilmdpaa
