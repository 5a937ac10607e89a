/- Walks: the leaves of a board. -/
import Derived.Test.YtodennbdfloccaaGreatVLeafP
import Derived.Test.YtodennbdfloccaaGreatRegU
namespace Go.Proofs.YtodennbdfloccaaGreat
open Go.RowKit
set_option linter.unusedSimpArgs false
set_option linter.unusedVariables false

theorem epL_cnt (d : ProofD) : (epL d).length = d.cnt + 3 := by
  rw [epL_eq]; simp only [List.length_append, List.length_nil, cnt_length]; unfold ProofD.cnt; omega
theorem LeafOk.cnt {i : Nat} {e : EntryD} (h : LeafOk i e) : (e.sign.cnt : Int) ≤ 1000000000 := by
  have h1 := h.six; rw [epL_cnt] at h1; omega
theorem LeafOk.epB_ {i : Nat} {e : EntryD} (h : LeafOk i e) : epB e.sign = true := by
  unfold epB recB; rw [h.dig, decide_eq_true (by rw [h.six]; omega)]; rfl
theorem enD_I64 (k a t : Int) (l : List Int) : I64 (enD k a t l) := digest_I64 (enD_digest _ _ _ _)
theorem leafV_I64 (i : Nat) (e : EntryD) : I64 (leafV i e) := digest_I64 (digestB_hash _)
theorem impl_LeafDigest (v : Value) (l : List Int) (w : World) (h : Ints w v l) (hl : l.length ≤ 1000000000) :
    Calls Tryz.prog 122 #[v] w fun e w' => e = .returned (.tuple #[.int .i64 (labelledI sLeaf l), .bool (labelledB sLeaf l)]) ∧ Below w.heap.size w w' := by
  obtain ⟨a, n, c, rfl⟩ := h.shape
  have H := Lib.hid h; clear h
  go_enter Tryz.func122, Tryz.ntmps122
  go_wp2_with fail
  refine (impl_HashLabelled sLeaf _ l _ H.out (by decide) hl).mono ?_
  rintro e w1 ⟨rfl, hb1⟩
  go_wp2_with fail
  go_ret2
  exact ⟨rfl, hb1⟩
set_option maxRecDepth 100000 in
set_option maxHeartbeats 4000000 in
theorem impl_boardLeaves (v : Value) (d : BoardD) (w : World) (h : (kS rBoard).rd w v d) (hok : ∀ i (hi : i < d.entries.length), LeafOk i (d.entries[i]'hi)) (h64 : d.entries.length ≤ 64) :
    Calls Tryz.prog 81 #[v] w fun e w' => ∃ v', e = .returned v' ∧ OwnI w' w.heap.size v' (leavesL d.entries) ∧ Below w.heap.size w w' := by
  have HOK := Lib.hid hok; clear hok
  obtain ⟨ad_0, nd_0, cd_0, ad_1, nd_1, cd_1, rfl, kd_0, kd_1⟩ := rdBoard.1 h
  obtain ⟨W, hW⟩ : ∃ W, W = (w.alloc (.cells #[.slice ad_0 nd_0 cd_0, .slice ad_1 nd_1 cd_1] 40)) := ⟨_, rfl⟩
  have HWB : Hid (Below w.heap.size w W) := by unfold Hid; rw [hW]; (repeat (first | exact Below.refl _ _ | assumption | refine Below.drew ?_ | refine Below.alloc ?_ (by first | (simp; done) | (simp; omega)) _ | refine Below.setCell ?_ (by first | (simp; done) | (simp; omega)) _))
  have FX : Hid (∀ W', Below W.heap.size W W' → W'.cell? ⟨w.heap.size, 0, none⟩ = some (.slice ad_0 nd_0 cd_0) ∧ W'.cell? ⟨w.heap.size, 1, none⟩ = some (.slice ad_1 nd_1 cd_1)) := fun W' hb => by
    exact ⟨box_at (by rw [hW]; simp [go_sem]) hb, box_at (by rw [hW]; simp [go_sem]) hb⟩
  have hsW : W.heap.size = w.heap.size + 1 := by rw [hW]; simp
  have Hd := Lib.hid ((kS rBoard).rd_below h HWB.out); clear h
  have F_d_keys := Lib.hid (sInts.rd_below kd_0 HWB.out)
  have F_d_entries := Lib.hid ((kR 115 rEntry).rd_below kd_1 HWB.out)
  clear kd_0 kd_1
  have HW := Lib.hid hW; clear hW
  have hel := (F_d_entries.out : RdR _ _ _ _).len
  have HE := Lib.hid hel
  have hn : nd_1 ≤ 64 := by omega
  clear hel h64
  have HO0 : Hid (OwnI (W.alloc (.cells #[] 3)) W.heap.size (.slice (some ⟨W.heap.size, 0, none⟩) 0 0) []) := OwnI.lit W (Nat.le_refl _) AllI64.nil rfl (by simp) 0 rfl
  go_enter Tryz.func81, Tryz.ntmps81
  go_wp2_with fail
  rw [← HW.out]
  have hcum : Below W.heap.size W W := Below.refl _ _
  obtain ⟨p0_0, p0_1⟩ := FX.out _ hcum
  go_loopg [3, 16] nd_1 (fun g ov i wr => ∃ k : Nat, k + g = nd_1 ∧ i = .int .i64 k ∧ OwnI wr W.heap.size ov (leavesTo d.entries k) ∧ Below W.heap.size W wr)
  case atStart => exact ⟨0, by omega, rfl, by rw [leavesTo_zero, ← hsW]; exact HO0.out, (Below.refl _ _).alloc (Nat.le_refl _) _⟩
  case round =>
    obtain ⟨k, hkg, rfl, hO, hb⟩ := hrel
    clear p0_0 p0_1 hcum
    obtain ⟨p0_0, p0_1⟩ := FX.out _ hb
    by_cases hlt : k < nd_1
    · have HK : Hid (k < d.entries.length) := by unfold Hid; rw [HE.out]; exact hlt
      have HS : Hid (leavesTo d.entries (k + 1) = leavesTo d.entries k ++ [leafV k (d.entries[k]'HK.out)]) := by unfold Hid; rw [leavesTo_succ, leafAt_eq HK.out]
      have HLK : Hid (LeafOk k (d.entries[k]'HK.out)) := HOK.out k HK.out
      have HLN : Hid ((leavesTo d.entries k).length ≤ 64) := by unfold Hid; rw [leavesTo_length]; omega
      generalize leavesTo d.entries k = L at hO HS HLN
      obtain ⟨b_e, o_e, rfl, hcx⟩ := F_d_entries.out.at_ (by omega)
      obtain ⟨us, hcell, hrd⟩ := hcx k HK.out
      clear hcx
      generalize d.entries[k]'HK.out = e at hrd HS HLK
      obtain ⟨ae_2, ne_2, ce_2, ae_3, ne_3, ce_3, ae_4, ne_4, ce_4, ae_5, ne_5, ce_5, ers, je_0, je_1, ke_2, ke_3, ke_4, ke_5⟩ := rdEntry.1 ⟨us, rfl, hrd⟩
      obtain rfl : us = [.int .i64 e.kind, .int .i64 e.author, .slice ae_2 ne_2 ce_2, .slice ae_3 ne_3 ce_3, .slice ae_4 ne_4 ce_4, .slice ae_5 ne_5 ce_5] := by have h := Value.agg.inj ers; simpa using congrArg Array.toList h
      clear ers hrd
      have y_e_0 : wr.cell? ⟨b_e, o_e + k * 6, none⟩ = some (.int .i64 e.kind) := box_at (hcell 0 (by decide)) hb
      have y_e_1 : wr.cell? ⟨b_e, o_e + k * 6 + 1, none⟩ = some (.int .i64 e.author) := box_at (hcell 1 (by decide)) hb
      have y_e_2 : wr.cell? ⟨b_e, o_e + k * 6 + 2, none⟩ = some (.slice ae_2 ne_2 ce_2) := box_at (hcell 2 (by decide)) hb
      have y_e_3 : wr.cell? ⟨b_e, o_e + k * 6 + 3, none⟩ = some (.slice ae_3 ne_3 ce_3) := box_at (hcell 3 (by decide)) hb
      have y_e_4 : wr.cell? ⟨b_e, o_e + k * 6 + 4, none⟩ = some (.slice ae_4 ne_4 ce_4) := box_at (hcell 4 (by decide)) hb
      have y_e_5 : wr.cell? ⟨b_e, o_e + k * 6 + 5, none⟩ = some (.slice ae_5 ne_5 ce_5) := box_at (hcell 5 (by decide)) hb
      clear hcell
      have HR_e := Lib.hid ((kS rEntry).rd_below (rdEntry.2 ⟨_, _, _, _, _, _, _, _, _, _, _, _, rfl, je_0, je_1, ke_2, ke_3, ke_4, ke_5⟩ : (kS rEntry).rd W (.agg #[.int .i64 e.kind, .int .i64 e.author, .slice ae_2 ne_2 ce_2, .slice ae_3 ne_3 ce_3, .slice ae_4 ne_4 ce_4, .slice ae_5 ne_5 ce_5]) e) hb)
      have F_e_data := Lib.hid (sInts.rd_below ke_2 hb)
      have F_e_sign := Lib.hid ((kS rProof).rd_below (rdProof.2 ⟨_, _, _, _, _, _, _, _, _, rfl, ke_3, ke_4, ke_5⟩ : (kS rProof).rd W (.agg #[.slice ae_3 ne_3 ce_3, .slice ae_4 ne_4 ce_4, .slice ae_5 ne_5 ce_5]) e.sign) hb)
      have J_e_0 := Lib.hid je_0
      have J_e_1 := Lib.hid je_1
      clear je_0 je_1 ke_2 ke_3 ke_4 ke_5
      have hwk : IntKind.i64.wrap ((k : Int) + 1) = (k : Int) + 1 := IntWalk.i64_in _ (by omega)
      obtain ⟨ao, co, rfl⟩ := hO.shape
      have HO := Lib.hid hO; clear hO
      have HED := Lib.hid HLK.out.ent
      have HEI := Lib.hid HLK.out.edI
      have HRE := Lib.hid HLK.out.recE
      have HEB := Lib.hid HLK.out.epB_
      have HCN := Lib.hid HLK.out.cnt
      have HSX := Lib.hid HLK.out.six
      have HLA := Lib.hid HLK.out.length
      have HLL := Lib.hid HLK.out.labelled
      have HAA : Hid ([enD e.kind e.author (k : Int) e.data] ++ epL e.sign = leafArg k e) := rfl
      have HI1 := Lib.hid (enD_I64 e.kind e.author (k : Int) e.data)
      have HI2 := Lib.hid (leafV_I64 k e)
      generalize enD e.kind e.author (k : Int) e.data = x at HEI HAA HI1
      generalize leafArg k e = M at HAA HLA HLL
      generalize leafV k e = y at HLL HS HI2
      go_wp2_with fail
      obtain ⟨V, hV⟩ : ∃ V, V = wr.alloc (.cells #[.int .i64 e.kind, .int .i64 e.author, .slice ae_2 ne_2 ce_2, .slice ae_3 ne_3 ce_3, .slice ae_4 ne_4 ce_4, .slice ae_5 ne_5 ce_5] 115) := ⟨_, rfl⟩
      rw [← hV]
      have HV : Hid (Below wr.heap.size wr V) := by unfold Hid; rw [hV]; exact (Below.refl _ _).alloc (Nat.le_refl _) _
      have hsV : V.heap.size = wr.heap.size + 1 := by rw [hV]; simp
      have x_e_0 : V.cell? ⟨wr.heap.size, 0, none⟩ = some (.int .i64 e.kind) := by rw [hV]; simp [go_sem]
      have x_e_1 : V.cell? ⟨wr.heap.size, 1, none⟩ = some (.int .i64 e.author) := by rw [hV]; simp [go_sem]
      have x_e_2 : V.cell? ⟨wr.heap.size, 2, none⟩ = some (.slice ae_2 ne_2 ce_2) := by rw [hV]; simp [go_sem]
      have x_e_3 : V.cell? ⟨wr.heap.size, 3, none⟩ = some (.slice ae_3 ne_3 ce_3) := by rw [hV]; simp [go_sem]
      have x_e_4 : V.cell? ⟨wr.heap.size, 4, none⟩ = some (.slice ae_4 ne_4 ce_4) := by rw [hV]; simp [go_sem]
      have x_e_5 : V.cell? ⟨wr.heap.size, 5, none⟩ = some (.slice ae_5 ne_5 ce_5) := by rw [hV]; simp [go_sem]
      have HRV_e := Lib.hid ((kS rEntry).rd_below HR_e.out HV.out)
      clear hV
      go_wp2_with fail
      refine (impl_EntryDigest e.kind e.author (k : Int) _ e.data _ (sInts.rd_below F_e_data.out HV.out)).mono ?_
      rintro ee wq ⟨rfl, hbq⟩
      rw [HEI.out, HED.out]
      replace x_e_3 := box_at x_e_3 hbq
      replace x_e_4 := box_at x_e_4 hbq
      replace x_e_5 := box_at x_e_5 hbq
      have HBQ := Lib.hid (keep_b hbq HV.out)
      clear hbq
      go_wp2_with fail
      refine (impl_EncodeProof _ e.sign _ HCN.out (rdP_of ((kS rProof).rd_below F_e_sign.out HBQ.out))).mono ?_
      rintro ee w2 ⟨p', rfl, hI, hb2⟩
      rw [HEB.out]
      rw [HRE.out] at hI
      obtain ⟨ap, cp, rfl⟩ := hI.1.shape
      have HI := Lib.hid hI.1.ints
      have HB2 := Lib.hid (keep_b hb2 HBQ.out)
      clear hI hb2
      go_wp2_with (at_builtin; refine wpList_append_ints rfl _ _ rfl w2.heap.size _ _ [x] (epL e.sign) rfl (OwnI.lit1 _ (Nat.le_refl _) HI1.out) rfl (HI.out.alloc _) (by rw [HSX.out]; simp) (by simp) ?_; intro v3 w3 hown3 hgr3)
      have hb3 : Below w2.heap.size w2 w3 := below_of_grown (by (repeat (first | exact Below.refl _ _ | assumption | refine Below.drew ?_ | refine Below.alloc ?_ (by first | (simp; done) | (simp; omega)) _ | refine Below.setCell ?_ (by first | (simp; done) | (simp; omega)) _))) hgr3 (by first | (simp; done) | (simp; omega) | omega) (by first | (simp; done) | (simp; omega) | omega)
      rw [HAA.out] at hown3
      have HO3 := Lib.hid hown3
      have HB3 := Lib.hid (keep_b hb3 HB2.out)
      clear hown3 hgr3 hb3
      refine (impl_LeafDigest _ M _ HO3.out.ints (by rw [HLA.out]; decide)).mono ?_
      rintro ee w4 ⟨rfl, hb4⟩
      rw [HLL.out]
      generalize labelledB sLeaf M = bq
      have HB4 := Lib.hid (keep_b hb4 HB3.out)
      have HO4 := Lib.hid (HO.out.below HB4.out)
      have hs4 := HB4.out.size
      clear hb4
      go_wp2_with (at_builtin; refine wpList_append_ints rfl _ _ rfl W.heap.size _ _ L [y] rfl (HO4.out.alloc _) rfl (Ints.lit1 _ HI2.out) (by have := HLN.out; simp; omega) (by have := hb.size; simp; omega) ?_; intro v5 w5 hown5 hgr5)
      have hb5 := (HO4.out.alloc _).grown hgr5 (by have := hb.size; simp; omega)
      have hb6 : Below W.heap.size W w5 := ((hb.trans (HB4.out.mono hb.size)).alloc (by have := hb.size; omega) _).trans hb5
      go_roundg (nd_1 - (k + 1))
      case measure => omega
      case rel => exact ⟨k + 1, by omega, by go_num, by rw [HS.out]; exact hown5, hb6⟩
    · obtain rfl : nd_1 = k := by omega
      have HR : Hid (leavesTo d.entries nd_1 = leavesL d.entries) := by unfold Hid leavesL; rw [HE.out]
      rw [HR.out] at hO
      have HO := Lib.hid hO; clear hO
      go_wp2_with fail
      go_ret
      exact ⟨_, rfl, HO.out.mono HWB.out.size, Below.next HWB.out hb⟩
theorem oper_append_ints {o : Oper} {a : Act} {w : World} {K : Act → World → Prop} {Q : Exit → Act → World → Prop} (s x : Operand)
    (ho : o.op = .call { callee := .builtin .append, args := #[s, x], argTypes := #[24, 24] })
    (B : Nat) (v y : Value) (l m : List Int) (hs : a.eval s = v) (hown : OwnI w B v l) (hx : a.eval x = y) (hy : Ints w y m) (hlen : l.length + m.length ≤ 1000000000000) (hB : B ≤ w.heap.size)
    (hK : ∀ v' w', OwnI w' B v' (l ++ m) → Below B w w' → K (a.put o.dst v') w') : Oper.wp Tryz.prog o a w K Q := by
  obtain ⟨v', w', hr, h1, h2⟩ := run_append_ints (t := 24) rfl hown hy hlen hB o.type
  unfold Oper.wp execOp
  simp only [ho, resolve, invoke, builtin, Sem.run_bind, Sem.run_pure, Result.andThen_ok, List.map_toArray, List.map_cons, List.map_nil, hs, hx, hr]
  exact hK v' w' h1 (hown.grown h2 hB)
set_option maxRecDepth 100000 in
set_option maxHeartbeats 8000000 in
theorem spec_oLeaves (v : Value) (d : BoardD) (w : World) (h : (kS rBoard).rd w v d) (hok : ∀ i (hi : i < d.entries.length), LeafOk i (d.entries[i]'hi)) (h64 : d.entries.length ≤ 64) :
    Calls Tryz.prog 76 #[v] w fun e w' => ∃ v', e = .returned v' ∧ OwnI w' w.heap.size v' (leavesL d.entries) ∧ Below w.heap.size w w' := by
  have HOK := Lib.hid hok; clear hok
  obtain ⟨ad_0, nd_0, cd_0, ad_1, nd_1, cd_1, rfl, kd_0, kd_1⟩ := rdBoard.1 h
  obtain ⟨W, hW⟩ : ∃ W, W = (w.alloc (.cells #[.slice ad_0 nd_0 cd_0, .slice ad_1 nd_1 cd_1] 40)) := ⟨_, rfl⟩
  have HWB : Hid (Below w.heap.size w W) := by unfold Hid; rw [hW]; (repeat (first | exact Below.refl _ _ | assumption | refine Below.drew ?_ | refine Below.alloc ?_ (by first | (simp; done) | (simp; omega)) _ | refine Below.setCell ?_ (by first | (simp; done) | (simp; omega)) _))
  have FX : Hid (∀ W', Below W.heap.size W W' → W'.cell? ⟨w.heap.size, 0, none⟩ = some (.slice ad_0 nd_0 cd_0) ∧ W'.cell? ⟨w.heap.size, 1, none⟩ = some (.slice ad_1 nd_1 cd_1)) := fun W' hb => by
    exact ⟨box_at (by rw [hW]; simp [go_sem]) hb, box_at (by rw [hW]; simp [go_sem]) hb⟩
  have hsW : W.heap.size = w.heap.size + 1 := by rw [hW]; simp
  have Hd := Lib.hid ((kS rBoard).rd_below h HWB.out); clear h
  have F_d_keys := Lib.hid (sInts.rd_below kd_0 HWB.out)
  have F_d_entries := Lib.hid ((kR 115 rEntry).rd_below kd_1 HWB.out)
  clear kd_0 kd_1
  have HW := Lib.hid hW; clear hW
  have hel := (F_d_entries.out : RdR _ _ _ _).len
  have HE := Lib.hid hel
  have hn : nd_1 ≤ 64 := by omega
  clear hel h64
  go_enter Tryz.func76, Tryz.ntmps76
  go_wp2_with fail
  rw [← HW.out]
  have hcum : Below W.heap.size W W := Below.refl _ _
  obtain ⟨p0_0, p0_1⟩ := FX.out _ hcum
  go_loopg [3, 9] nd_1 (fun g ov i wr => ∃ k : Nat, k + g = nd_1 ∧ i = .int .i64 k ∧ OwnI wr W.heap.size ov (leavesTo d.entries k) ∧ Below W.heap.size W wr)
  case atStart => exact ⟨0, by omega, rfl, by rw [leavesTo_zero]; exact OwnI.nil _ _, Below.refl _ _⟩
  case round =>
    obtain ⟨k, hkg, rfl, hO, hb⟩ := hrel
    clear p0_0 p0_1 hcum
    obtain ⟨p0_0, p0_1⟩ := FX.out _ hb
    by_cases hlt : k < nd_1
    · have HK : Hid (k < d.entries.length) := by unfold Hid; rw [HE.out]; exact hlt
      have HS : Hid (leavesTo d.entries (k + 1) = leavesTo d.entries k ++ [leafV k (d.entries[k]'HK.out)]) := by unfold Hid; rw [leavesTo_succ, leafAt_eq HK.out]
      have HLK : Hid (LeafOk k (d.entries[k]'HK.out)) := HOK.out k HK.out
      have HLN : Hid ((leavesTo d.entries k).length ≤ 64) := by unfold Hid; rw [leavesTo_length]; omega
      generalize leavesTo d.entries k = L at hO HS HLN
      obtain ⟨b_e, o_e, rfl, hcx⟩ := F_d_entries.out.at_ (by omega)
      obtain ⟨us, hcell, hrd⟩ := hcx k HK.out
      clear hcx
      generalize d.entries[k]'HK.out = e at hrd HS HLK
      obtain ⟨ae_2, ne_2, ce_2, ae_3, ne_3, ce_3, ae_4, ne_4, ce_4, ae_5, ne_5, ce_5, ers, je_0, je_1, ke_2, ke_3, ke_4, ke_5⟩ := rdEntry.1 ⟨us, rfl, hrd⟩
      obtain rfl : us = [.int .i64 e.kind, .int .i64 e.author, .slice ae_2 ne_2 ce_2, .slice ae_3 ne_3 ce_3, .slice ae_4 ne_4 ce_4, .slice ae_5 ne_5 ce_5] := by have h := Value.agg.inj ers; simpa using congrArg Array.toList h
      clear ers hrd
      have y_e_0 : wr.cell? ⟨b_e, o_e + k * 6, none⟩ = some (.int .i64 e.kind) := box_at (hcell 0 (by decide)) hb
      have y_e_1 : wr.cell? ⟨b_e, o_e + k * 6 + 1, none⟩ = some (.int .i64 e.author) := box_at (hcell 1 (by decide)) hb
      have y_e_2 : wr.cell? ⟨b_e, o_e + k * 6 + 2, none⟩ = some (.slice ae_2 ne_2 ce_2) := box_at (hcell 2 (by decide)) hb
      have y_e_3 : wr.cell? ⟨b_e, o_e + k * 6 + 3, none⟩ = some (.slice ae_3 ne_3 ce_3) := box_at (hcell 3 (by decide)) hb
      have y_e_4 : wr.cell? ⟨b_e, o_e + k * 6 + 4, none⟩ = some (.slice ae_4 ne_4 ce_4) := box_at (hcell 4 (by decide)) hb
      have y_e_5 : wr.cell? ⟨b_e, o_e + k * 6 + 5, none⟩ = some (.slice ae_5 ne_5 ce_5) := box_at (hcell 5 (by decide)) hb
      clear hcell
      have HR_e := Lib.hid ((kS rEntry).rd_below (rdEntry.2 ⟨_, _, _, _, _, _, _, _, _, _, _, _, rfl, je_0, je_1, ke_2, ke_3, ke_4, ke_5⟩ : (kS rEntry).rd W (.agg #[.int .i64 e.kind, .int .i64 e.author, .slice ae_2 ne_2 ce_2, .slice ae_3 ne_3 ce_3, .slice ae_4 ne_4 ce_4, .slice ae_5 ne_5 ce_5]) e) hb)
      have F_e_data := Lib.hid (sInts.rd_below ke_2 hb)
      have F_e_sign := Lib.hid ((kS rProof).rd_below (rdProof.2 ⟨_, _, _, _, _, _, _, _, _, rfl, ke_3, ke_4, ke_5⟩ : (kS rProof).rd W (.agg #[.slice ae_3 ne_3 ce_3, .slice ae_4 ne_4 ce_4, .slice ae_5 ne_5 ce_5]) e.sign) hb)
      have J_e_0 := Lib.hid je_0
      have J_e_1 := Lib.hid je_1
      clear je_0 je_1 ke_2 ke_3 ke_4 ke_5
      have hwk : IntKind.i64.wrap ((k : Int) + 1) = (k : Int) + 1 := IntWalk.i64_in _ (by omega)
      obtain ⟨ao, co, rfl⟩ := hO.shape
      have HO := Lib.hid hO; clear hO
      have HED := Lib.hid HLK.out.ent
      have HCN := Lib.hid HLK.out.cnt
      have HSX := Lib.hid HLK.out.six
      have HLA := Lib.hid HLK.out.length
      have HMD := Lib.hid HLK.out.all
      have HEN : Hid (hashOf (lab sEntry ++ ([e.kind, e.author, (k : Int)] ++ e.data)) = enD e.kind e.author (k : Int) e.data) := rfl
      have HLV : Hid (hashOf (lab sLeaf ++ leafArg k e) = leafV k e) := rfl
      have HAA : Hid ([enD e.kind e.author (k : Int) e.data] ++ epL e.sign = leafArg k e) := rfl
      have HI1 := Lib.hid (enD_I64 e.kind e.author (k : Int) e.data)
      have HI2 := Lib.hid (leafV_I64 k e)
      generalize enD e.kind e.author (k : Int) e.data = x at HEN HAA HI1
      generalize leafArg k e = M at HAA HLA HMD HLV
      generalize leafV k e = y at HLV HS HI2
      go_wp2_with fail
      obtain ⟨V, hV⟩ : ∃ V, V = wr.alloc (.cells #[.int .i64 e.kind, .int .i64 e.author, .slice ae_2 ne_2 ce_2, .slice ae_3 ne_3 ce_3, .slice ae_4 ne_4 ce_4, .slice ae_5 ne_5 ce_5] 115) := ⟨_, rfl⟩
      rw [← hV]
      have HV : Hid (Below wr.heap.size wr V) := by unfold Hid; rw [hV]; exact (Below.refl _ _).alloc (Nat.le_refl _) _
      have hsV : V.heap.size = wr.heap.size + 1 := by rw [hV]; simp
      have x_e_0 : V.cell? ⟨wr.heap.size, 0, none⟩ = some (.int .i64 e.kind) := by rw [hV]; simp [go_sem]
      have x_e_1 : V.cell? ⟨wr.heap.size, 1, none⟩ = some (.int .i64 e.author) := by rw [hV]; simp [go_sem]
      have x_e_2 : V.cell? ⟨wr.heap.size, 2, none⟩ = some (.slice ae_2 ne_2 ce_2) := by rw [hV]; simp [go_sem]
      have x_e_3 : V.cell? ⟨wr.heap.size, 3, none⟩ = some (.slice ae_3 ne_3 ce_3) := by rw [hV]; simp [go_sem]
      have x_e_4 : V.cell? ⟨wr.heap.size, 4, none⟩ = some (.slice ae_4 ne_4 ce_4) := by rw [hV]; simp [go_sem]
      have x_e_5 : V.cell? ⟨wr.heap.size, 5, none⟩ = some (.slice ae_5 ne_5 ce_5) := by rw [hV]; simp [go_sem]
      have HRV_e := Lib.hid ((kS rEntry).rd_below HR_e.out HV.out)
      clear hV
      clear p0_0 p0_1
      go_wp2_with fail
      refine wp_region_noPanic ?_
      refine wp_region_U (fun w' => Below V.heap.size V w' ∧ w'.cell? ⟨wr.heap.size, 0, none⟩ = some (.int .i64 e.kind) ∧ w'.cell? ⟨wr.heap.size, 1, none⟩ = some (.int .i64 e.author) ∧ w'.cell? ⟨wr.heap.size, 2, none⟩ = some (.slice ae_2 ne_2 ce_2) ∧ w'.cell? ⟨wr.heap.size, 3, none⟩ = some (.slice ae_3 ne_3 ce_3) ∧ w'.cell? ⟨wr.heap.size, 4, none⟩ = some (.slice ae_4 ne_4 ce_4) ∧ w'.cell? ⟨wr.heap.size, 5, none⟩ = some (.slice ae_5 ne_5 ce_5)) 14 [.rd 0, .rd 1, .rd 2, .rd 5, .rd 6, .one 3, .both 4 7, .one 8, .one 9, .one 10] [11, 12] (by kernel_rfl) (by kernel_rfl) rfl (fun _ _ _ _ _ h => h) ⟨(Below.refl _ _).drew, x_e_0, x_e_1, x_e_2, x_e_3, x_e_4, x_e_5⟩ ?_
      simp only [pickU, pickN, List.getElem?_cons_zero, List.getElem?_cons_succ]
      repeat (refine' wpU_read _ (by rfl) (fun w' hS' => ?_) ?_; rotate_left; · ((try dsimp only at hS'); go_simp; (try with_reducible rfl)); (try simp only [Act.put, List.setIfInBounds_toArray, List.set_cons_zero, List.set_cons_succ]))
      refine wpU_do (by rfl) (fun K hK => ?_)
      go_simp
      go_at_call 111
      refine (spec_oDigest e.kind e.author (k : Int) _ _ _ _ e.data _ (sInts.rd_below F_e_data.out (keep_b (Below.refl _ _).drew HV.out)) HED.out).mono ?_
      rintro ee w2 ⟨rfl, hb2⟩
      rw [HEN.out]
      have hbz : Below V.heap.size V w2 := keep_b hb2 (Below.refl _ _).drew
      have HB2 := Lib.hid hbz
      clear hb2
      refine hK.out _ _ ⟨hbz, box_at x_e_0 hbz, box_at x_e_1 hbz, box_at x_e_2 hbz, box_at x_e_3 hbz, box_at x_e_4 hbz, box_at x_e_5 hbz⟩ (fun _ => ?_)
      clear hK K
      try simp only [Act.put, List.setIfInBounds_toArray, List.set_cons_zero, List.set_cons_succ]
      refine wpU_both ?_ ?_
      · have hs2 := hbz.size
        refine wpO_do (by rfl) (fun K hK => ?_)
        go_simp
        replace hbz : Below V.heap.size V (w2.alloc (.cells #[.int .i64 x] 3)) := keep_a hbz _
        refine hK.out _ _ ⟨hbz, box_at x_e_0 hbz, box_at x_e_1 hbz, box_at x_e_2 hbz, box_at x_e_3 hbz, box_at x_e_4 hbz, box_at x_e_5 hbz⟩ (fun _ => ?_)
        clear hK K
        try simp only [Act.put, List.setIfInBounds_toArray, List.set_cons_zero, List.set_cons_succ]
        refine wpO_do (by rfl) (fun K hK => ?_)
        go_simp
        go_at_call 112
        refine (spec_cProof _ e.sign _ (rdP_of ((kS rProof).rd_below F_e_sign.out (keep_b hbz HV.out))) HCN.out).mono ?_
        rintro ee w3 ⟨v3, rfl, ho3, hb3⟩
        obtain ⟨a3, c3, rfl⟩ := ho3.shape
        have HX : Hid (OwnI w3 V.heap.size (.slice (some ⟨w2.heap.size, 0, none⟩) 1 1) [x]) := OwnI.below (OwnI.lit1 w2 hs2 HI1.out) hb3
        have HP := Lib.hid ho3.ints
        replace hbz : Below V.heap.size V w3 := keep_b hb3 hbz
        clear hb3 ho3 hs2
        refine hK.out _ _ ⟨hbz, box_at x_e_0 hbz, box_at x_e_1 hbz, box_at x_e_2 hbz, box_at x_e_3 hbz, box_at x_e_4 hbz, box_at x_e_5 hbz⟩ (fun _ => ?_)
        clear hK K
        try simp only [Act.put, List.setIfInBounds_toArray, List.set_cons_zero, List.set_cons_succ]
        have HBC := Lib.hid hbz
        have hsC := hbz.size
        refine wpU_do (by rfl) (fun K hK => ?_)
        refine oper_append_ints _ _ rfl V.heap.size _ _ [x] (epL e.sign) rfl HX.out rfl HP.out (by rw [HSX.out]; simp) hsC ?_
        intro v4 w4 hown4 hb4
        rw [HAA.out] at hown4
        have HO4 := Lib.hid hown4
        obtain ⟨a4, c4, hv4⟩ := hown4.shape
        rw [HLA.out] at hv4
        subst hv4
        replace hbz : Below V.heap.size V w4 := HBC.out.trans hb4
        clear hown4 hb4
        refine hK.out _ _ ⟨hbz, box_at x_e_0 hbz, box_at x_e_1 hbz, box_at x_e_2 hbz, box_at x_e_3 hbz, box_at x_e_4 hbz, box_at x_e_5 hbz⟩ (fun _ => ?_)
        clear hK K
        try simp only [Act.put, List.setIfInBounds_toArray, List.set_cons_zero, List.set_cons_succ]
        refine wpU_do (by rfl) (fun K hK => ?_)
        go_simp
        go_at_call 108
        refine (spec_hLabelled sLeaf _ M _ HO4.out.ints (by decide) (by rw [HLA.out]; decide) HMD.out).mono ?_
        rintro ee w5 ⟨rfl, hb5⟩
        rw [HLV.out]
        replace hbz : Below V.heap.size V w5 := keep_b hb5 hbz
        clear hb5
        refine hK.out _ _ ⟨hbz, box_at x_e_0 hbz, box_at x_e_1 hbz, box_at x_e_2 hbz, box_at x_e_3 hbz, box_at x_e_4 hbz, box_at x_e_5 hbz⟩ (fun _ => ?_)
        clear hK K
        try simp only [Act.put, List.setIfInBounds_toArray, List.set_cons_zero, List.set_cons_succ]
        refine wpU_do (by rfl) (fun K hK => ?_)
        go_simp
        have HB5 := Lib.hid hbz
        have hs5 := hbz.size
        replace hbz : Below V.heap.size V (w5.alloc (.cells #[.int .i64 y] 3)) := keep_a hbz _
        refine hK.out _ _ ⟨hbz, box_at x_e_0 hbz, box_at x_e_1 hbz, box_at x_e_2 hbz, box_at x_e_3 hbz, box_at x_e_4 hbz, box_at x_e_5 hbz⟩ (fun _ => ?_)
        clear hK K
        try simp only [Act.put, List.setIfInBounds_toArray, List.set_cons_zero, List.set_cons_succ]
        refine wpU_nil ?_
        have HOW := Lib.hid (HO.out.below (keep_b HB5.out HV.out))
        have hsw := hb.size
        clear hbz
        refine wpList_append_ints rfl _ _ rfl W.heap.size _ _ L [y] rfl (HOW.out.alloc _) rfl (Ints.lit1 _ HI2.out) (by have := HLN.out; simp; omega) (by simp; omega) ?_
        intro v6 w6 hown6 hgr6
        have hb6 := (HOW.out.alloc (.cells #[.int .i64 y] 3)).grown hgr6 (by simp; omega)
        have HB6 : Hid (Below W.heap.size W w6) := ((hb.trans ((keep_b HB5.out HV.out).mono hsw)).alloc (by omega) _).trans hb6
        have HO6 := Lib.hid hown6
        clear hown6 hgr6 hb6
        go_wp2_with fail
        refine NoPanic.normal ?_
        go_wp2_with fail
        go_roundg (nd_1 - (k + 1))
        case measure => omega
        case rel => exact ⟨k + 1, by omega, by go_num, by rw [HS.out]; exact HO6.out, HB6.out⟩
      · refine wpO_do (by rfl) (fun K hK => ?_)
        go_simp
        go_at_call 112
        refine (spec_cProof _ e.sign _ (rdP_of ((kS rProof).rd_below F_e_sign.out (keep_b hbz HV.out))) HCN.out).mono ?_
        rintro ee w3 ⟨v3, rfl, ho3, hb3⟩
        obtain ⟨a3, c3, rfl⟩ := ho3.shape
        replace hbz : Below V.heap.size V w3 := keep_b hb3 hbz
        clear hb3
        refine hK.out _ _ ⟨hbz, box_at x_e_0 hbz, box_at x_e_1 hbz, box_at x_e_2 hbz, box_at x_e_3 hbz, box_at x_e_4 hbz, box_at x_e_5 hbz⟩ (fun _ => ?_)
        clear hK K
        try simp only [Act.put, List.setIfInBounds_toArray, List.set_cons_zero, List.set_cons_succ]
        have hs3 := hbz.size
        refine wpO_do (by rfl) (fun K hK => ?_)
        go_simp
        have HX : Hid (OwnI (w3.alloc (.cells #[.int .i64 x] 3)) V.heap.size (.slice (some ⟨w3.heap.size, 0, none⟩) 1 1) [x]) := OwnI.lit1 w3 hs3 HI1.out
        have HP := Lib.hid (ho3.ints.alloc (.cells #[.int .i64 x] 3))
        replace hbz : Below V.heap.size V (w3.alloc (.cells #[.int .i64 x] 3)) := keep_a hbz _
        clear ho3 hs3
        refine hK.out _ _ ⟨hbz, box_at x_e_0 hbz, box_at x_e_1 hbz, box_at x_e_2 hbz, box_at x_e_3 hbz, box_at x_e_4 hbz, box_at x_e_5 hbz⟩ (fun _ => ?_)
        clear hK K
        try simp only [Act.put, List.setIfInBounds_toArray, List.set_cons_zero, List.set_cons_succ]
        have HBC := Lib.hid hbz
        have hsC := hbz.size
        refine wpU_do (by rfl) (fun K hK => ?_)
        refine oper_append_ints _ _ rfl V.heap.size _ _ [x] (epL e.sign) rfl HX.out rfl HP.out (by rw [HSX.out]; simp) hsC ?_
        intro v4 w4 hown4 hb4
        rw [HAA.out] at hown4
        have HO4 := Lib.hid hown4
        obtain ⟨a4, c4, hv4⟩ := hown4.shape
        rw [HLA.out] at hv4
        subst hv4
        replace hbz : Below V.heap.size V w4 := HBC.out.trans hb4
        clear hown4 hb4
        refine hK.out _ _ ⟨hbz, box_at x_e_0 hbz, box_at x_e_1 hbz, box_at x_e_2 hbz, box_at x_e_3 hbz, box_at x_e_4 hbz, box_at x_e_5 hbz⟩ (fun _ => ?_)
        clear hK K
        try simp only [Act.put, List.setIfInBounds_toArray, List.set_cons_zero, List.set_cons_succ]
        refine wpU_do (by rfl) (fun K hK => ?_)
        go_simp
        go_at_call 108
        refine (spec_hLabelled sLeaf _ M _ HO4.out.ints (by decide) (by rw [HLA.out]; decide) HMD.out).mono ?_
        rintro ee w5 ⟨rfl, hb5⟩
        rw [HLV.out]
        replace hbz : Below V.heap.size V w5 := keep_b hb5 hbz
        clear hb5
        refine hK.out _ _ ⟨hbz, box_at x_e_0 hbz, box_at x_e_1 hbz, box_at x_e_2 hbz, box_at x_e_3 hbz, box_at x_e_4 hbz, box_at x_e_5 hbz⟩ (fun _ => ?_)
        clear hK K
        try simp only [Act.put, List.setIfInBounds_toArray, List.set_cons_zero, List.set_cons_succ]
        refine wpU_do (by rfl) (fun K hK => ?_)
        go_simp
        have HB5 := Lib.hid hbz
        have hs5 := hbz.size
        replace hbz : Below V.heap.size V (w5.alloc (.cells #[.int .i64 y] 3)) := keep_a hbz _
        refine hK.out _ _ ⟨hbz, box_at x_e_0 hbz, box_at x_e_1 hbz, box_at x_e_2 hbz, box_at x_e_3 hbz, box_at x_e_4 hbz, box_at x_e_5 hbz⟩ (fun _ => ?_)
        clear hK K
        try simp only [Act.put, List.setIfInBounds_toArray, List.set_cons_zero, List.set_cons_succ]
        refine wpU_nil ?_
        have HOW := Lib.hid (HO.out.below (keep_b HB5.out HV.out))
        have hsw := hb.size
        clear hbz
        refine wpList_append_ints rfl _ _ rfl W.heap.size _ _ L [y] rfl (HOW.out.alloc _) rfl (Ints.lit1 _ HI2.out) (by have := HLN.out; simp; omega) (by simp; omega) ?_
        intro v6 w6 hown6 hgr6
        have hb6 := (HOW.out.alloc (.cells #[.int .i64 y] 3)).grown hgr6 (by simp; omega)
        have HB6 : Hid (Below W.heap.size W w6) := ((hb.trans ((keep_b HB5.out HV.out).mono hsw)).alloc (by omega) _).trans hb6
        have HO6 := Lib.hid hown6
        clear hown6 hgr6 hb6
        go_wp2_with fail
        refine NoPanic.normal ?_
        go_wp2_with fail
        go_roundg (nd_1 - (k + 1))
        case measure => omega
        case rel => exact ⟨k + 1, by omega, by go_num, by rw [HS.out]; exact HO6.out, HB6.out⟩
    · obtain rfl : nd_1 = k := by omega
      have HR : Hid (leavesTo d.entries nd_1 = leavesL d.entries) := by unfold Hid leavesL; rw [HE.out]
      rw [HR.out] at hO
      have HO := Lib.hid hO; clear hO
      go_wp2_with fail
      go_ret
      exact ⟨_, rfl, HO.out.mono HWB.out.size, Below.next HWB.out hb⟩
end Go.Proofs.YtodennbdfloccaaGreat
