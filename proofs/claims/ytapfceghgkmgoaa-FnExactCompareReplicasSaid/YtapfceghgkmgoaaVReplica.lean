/- Walks: comparing two boards (printed by gen_replica.py). -/
import Derived.Test.YtapfceghgkmgoaaVBoard2
import Derived.Test.YtapfceghgkmgoaaMerge3
import Derived.RegionTactic
import Derived.BigRegion
namespace Go.Proofs.Ytapfceghgkmgoaa
open Go.RowKit
set_option linter.unusedSimpArgs false
set_option linter.unusedVariables false

theorem SOf {p q : Prop} (f : p → q) (h : p) : p ∧ q := ⟨h, f h⟩
theorem bneR {x y : Int} {q : Bool} (h : (x == y) = q) : (x != y) = !q := by rw [bne, h]
theorem chR4 (a b c d : Bool) : a = false ∨ (a = true ∧ b = false) ∨ (a = true ∧ b = true ∧ c = false) ∨ (a = true ∧ b = true ∧ c = true ∧ d = false) ∨ (a = true ∧ b = true ∧ c = true ∧ d = true) := by
  cases a <;> cases b <;> cases c <;> cases d <;> simp
def cmpE (ea eb : List EntryD) (j : Nat) : Bool := decide (ea[j]? = eb[j]?)
/-- what comparing two lists of entries gives -/
def crRes (ea eb : List EntryD) : Int × Int := match (List.range (min ea.length eb.length)).find? (fun j => !cmpE ea eb j) with
  | some k => (3, (k : Int))
  | none => (if min ea.length eb.length < ea.length then 1 else if min ea.length eb.length < eb.length then 2 else 0, ((min ea.length eb.length : Nat) : Int))
theorem crRes_at {ea eb : List EntryD} {k : Nat} (hk : k < min ea.length eb.length) (h : ∀ j, j < k → cmpE ea eb j = true) (hne : cmpE ea eb k = false) : crRes ea eb = (3, (k : Int)) := by
  unfold crRes
  have : (List.range (min ea.length eb.length)).find? (fun j => !cmpE ea eb j) = some k := by
    rw [List.find?_range_eq_some]
    exact ⟨by rw [hne]; rfl, List.mem_range.2 hk, fun j hj => by rw [h j hj]; rfl⟩
  rw [this]
theorem crRes_end {ea eb : List EntryD} {N : Nat} (hN : min ea.length eb.length = N) (h : ∀ j, j < N → cmpE ea eb j = true) :
    crRes ea eb = (if N < ea.length then 1 else if N < eb.length then 2 else 0, (N : Int)) := by
  unfold crRes
  rw [hN]
  have : (List.range N).find? (fun j => !cmpE ea eb j) = none := by
    rw [List.find?_eq_none]
    intro j hj
    rw [h j (List.mem_range.1 hj)]; simp
  rw [this]
noncomputable def crB (gr : GroupD) (a b : BoardD) : Bool := vbR gr a && (vbR gr b && decide (a.keys = b.keys))
noncomputable def crI (gr : GroupD) (a b : BoardD) : Int := if crB gr a b = true then (crRes a.entries b.entries).1 else 0
noncomputable def crJ (gr : GroupD) (a b : BoardD) : Int := if crB gr a b = true then (crRes a.entries b.entries).2 else 0
theorem spec_l1Least (x y : Int) (w : World) : Calls Try.prog 164 #[.int .i64 x, .int .i64 y] w fun e w' => e = .returned (.int .i64 (min x y)) ∧ w = w' := by
  by_cases h : x < y
  · have e := Lib.hid (show min x y = x by omega)
    go_enter Try.func164, Try.ntmps164
    go_wp2
    go_ret
    exact ⟨ret_int (by first | (rw [e.out]; done) | (rw [e.out]; rfl) | exact e.out.symm), rfl⟩
  · have e := Lib.hid (show min x y = y by omega)
    go_enter Try.func164, Try.ntmps164
    go_wp2
    go_ret
    exact ⟨ret_int (by first | (rw [e.out]; done) | (rw [e.out]; rfl) | exact e.out.symm), rfl⟩
set_option maxRecDepth 100000 in
set_option maxHeartbeats 4000000 in
theorem spec_oSameEntry (v1 v2 : Value) (x y : EntryD) (w : World) (h1 : (kS rEntry).rd w v1 x) (h2 : (kS rEntry).rd w v2 y) :
    Calls Try.prog 165 #[v1, v2] w fun e w' => e = .returned (.bool (decide (x = y))) ∧ Below w.heap.size w w' := by
  (obtain ⟨q1, h_q⟩ : ∃ b_q, (x.kind == y.kind) = b_q := ⟨_, rfl⟩); have H1 := Lib.hid h_q; clear h_q
  (obtain ⟨q2, h_q⟩ : ∃ b_q, (x.author == y.author) = b_q := ⟨_, rfl⟩); have H2 := Lib.hid h_q; clear h_q
  (obtain ⟨q3, h_q⟩ : ∃ b_q, decide (x.data = y.data) = b_q := ⟨_, rfl⟩); have H3 := Lib.hid h_q; clear h_q
  (obtain ⟨q4, h_q⟩ : ∃ b_q, decide (x.sign = y.sign) = b_q := ⟨_, rfl⟩); have H4 := Lib.hid h_q; clear h_q
  have HR : Hid (decide (x = y) = (q1 && (q2 && (q3 && q4)))) := by
    unfold Hid
    rw [← H1.out, ← H2.out, ← H3.out, ← H4.out, Bool.eq_iff_iff]
    simp [EntryD.ext_iff']
  rw [HR.out]
  obtain ⟨ax_2, nx_2, cx_2, ax_3, nx_3, cx_3, ax_4, nx_4, cx_4, ax_5, nx_5, cx_5, rfl, jx_0, jx_1, kx_2, kx_3, kx_4, kx_5⟩ := rdEntry.1 h1
  obtain ⟨ay_2, ny_2, cy_2, ay_3, ny_3, cy_3, ay_4, ny_4, cy_4, ay_5, ny_5, cy_5, rfl, jy_0, jy_1, ky_2, ky_3, ky_4, ky_5⟩ := rdEntry.1 h2
  obtain ⟨W, hW⟩ : ∃ W, W = ((w.alloc (.cells #[.int .i64 x.kind, .int .i64 x.author, .slice ax_2 nx_2 cx_2, .slice ax_3 nx_3 cx_3, .slice ax_4 nx_4 cx_4, .slice ax_5 nx_5 cx_5] 94)).alloc (.cells #[.int .i64 y.kind, .int .i64 y.author, .slice ay_2 ny_2 cy_2, .slice ay_3 ny_3 cy_3, .slice ay_4 ny_4 cy_4, .slice ay_5 ny_5 cy_5] 94)) := ⟨_, rfl⟩
  have HWB : Hid (Below w.heap.size w W) := by unfold Hid; rw [hW]; (repeat (first | exact Below.refl _ _ | assumption | refine Below.drew ?_ | refine Below.alloc ?_ (by first | (simp; done) | (simp; omega)) _ | refine Below.setCell ?_ (by first | (simp; done) | (simp; omega)) _))
  have FX : Hid (∀ W', Below W.heap.size W W' → W'.cell? ⟨w.heap.size, 0, none⟩ = some (.int .i64 x.kind) ∧ W'.cell? ⟨w.heap.size, 1, none⟩ = some (.int .i64 x.author) ∧ W'.cell? ⟨w.heap.size, 2, none⟩ = some (.slice ax_2 nx_2 cx_2) ∧ W'.cell? ⟨w.heap.size, 3, none⟩ = some (.slice ax_3 nx_3 cx_3) ∧ W'.cell? ⟨w.heap.size, 4, none⟩ = some (.slice ax_4 nx_4 cx_4) ∧ W'.cell? ⟨w.heap.size, 5, none⟩ = some (.slice ax_5 nx_5 cx_5) ∧ W'.cell? ⟨w.heap.size + 1, 0, none⟩ = some (.int .i64 y.kind) ∧ W'.cell? ⟨w.heap.size + 1, 1, none⟩ = some (.int .i64 y.author) ∧ W'.cell? ⟨w.heap.size + 1, 2, none⟩ = some (.slice ay_2 ny_2 cy_2) ∧ W'.cell? ⟨w.heap.size + 1, 3, none⟩ = some (.slice ay_3 ny_3 cy_3) ∧ W'.cell? ⟨w.heap.size + 1, 4, none⟩ = some (.slice ay_4 ny_4 cy_4) ∧ W'.cell? ⟨w.heap.size + 1, 5, none⟩ = some (.slice ay_5 ny_5 cy_5)) := fun W' hb => by
    exact ⟨box_at (by rw [hW]; simp [go_sem]) hb, box_at (by rw [hW]; simp [go_sem]) hb, box_at (by rw [hW]; simp [go_sem]) hb, box_at (by rw [hW]; simp [go_sem]) hb, box_at (by rw [hW]; simp [go_sem]) hb, box_at (by rw [hW]; simp [go_sem]) hb, box_at (by rw [hW]; simp [go_sem]) hb, box_at (by rw [hW]; simp [go_sem]) hb, box_at (by rw [hW]; simp [go_sem]) hb, box_at (by rw [hW]; simp [go_sem]) hb, box_at (by rw [hW]; simp [go_sem]) hb, box_at (by rw [hW]; simp [go_sem]) hb⟩
  have hsW : W.heap.size = w.heap.size + 2 := by rw [hW]; simp
  have Hx := Lib.hid ((kS rEntry).rd_below h1 HWB.out); clear h1
  have Jx_0 := Lib.hid jx_0; clear jx_0
  have Jx_1 := Lib.hid jx_1; clear jx_1
  have F_x_data := Lib.hid (sInts.rd_below kx_2 HWB.out)
  have F_x_sign := Lib.hid ((kS rProof).rd_below (w := w) (rdProof.2 ⟨_, _, _, _, _, _, _, _, _, rfl, kx_3, kx_4, kx_5⟩ : (kS rProof).rd w (.agg #[.slice ax_3 nx_3 cx_3, .slice ax_4 nx_4 cx_4, .slice ax_5 nx_5 cx_5]) x.sign) HWB.out)
  clear kx_2 kx_3 kx_4 kx_5
  have Hy := Lib.hid ((kS rEntry).rd_below h2 HWB.out); clear h2
  have Jy_0 := Lib.hid jy_0; clear jy_0
  have Jy_1 := Lib.hid jy_1; clear jy_1
  have F_y_data := Lib.hid (sInts.rd_below ky_2 HWB.out)
  have F_y_sign := Lib.hid ((kS rProof).rd_below (w := w) (rdProof.2 ⟨_, _, _, _, _, _, _, _, _, rfl, ky_3, ky_4, ky_5⟩ : (kS rProof).rd w (.agg #[.slice ay_3 ny_3 cy_3, .slice ay_4 ny_4 cy_4, .slice ay_5 ny_5 cy_5]) y.sign) HWB.out)
  clear ky_2 ky_3 ky_4 ky_5
  have HW := Lib.hid hW; clear hW
  rcases chR4 q1 q2 q3 q4 with rfl | ⟨rfl, rfl⟩ | ⟨rfl, rfl, rfl⟩ | ⟨rfl, rfl, rfl, rfl⟩ | ⟨rfl, rfl, rfl, rfl⟩
  all_goals
    have e1 := H1.out
    have e2 := H2.out
    go_enter Try.func165, Try.ntmps165
    go_wp2_with fail
    try rw [← HW.out]
    have hcum : Below W.heap.size W W := Below.refl _ _
    obtain ⟨p0_0, p0_1, p0_2, p0_3, p0_4, p0_5, p1_0, p1_1, p1_2, p1_3, p1_4, p1_5⟩ := FX.out _ hcum
    go_wp2_with (first
      | (go_at_call 163; refine (spec_l1Same _ _ x.data y.data _ F_x_data.out F_y_data.out).mono ?_; rintro e w1 ⟨rfl, m1, rfl⟩; rw [H3.out])
      | fail)
    try (
      refine (spec_oSameProof _ x.sign _ y.sign _ ((kS rProof).rd_below F_x_sign.out (below_drewN (Below.refl _ _) _)) ((kS rProof).rd_below F_y_sign.out (below_drewN (Below.refl _ _) _))).mono ?_
      rintro e w2 ⟨rfl, hb2⟩
      rw [H4.out]
      have HB2 := Lib.hid ((below_drewN (Below.refl _ _) _).trans hb2); clear hb2
      go_wp2_with fail)
    go_ret
    first
      | exact ⟨rfl, HWB.out⟩
      | exact ⟨rfl, Below.next HWB.out (below_drewN (Below.refl _ _) _)⟩
      | exact ⟨rfl, Below.next HWB.out HB2.out⟩
      | fail
set_option maxRecDepth 100000 in
set_option maxHeartbeats 8000000 in
theorem spec_CompareReplicas_loop (gr : GroupD) (v1 : Value) (a : BoardD) (v2 : Value) (b : BoardD) (w : World) (h1 : (kS rBoard).rd w v1 a) (h2 : (kS rBoard).rd w v2 b)
    (q1 : vbR gr a = true) (q2 : vbR gr b = true) (q3 : decide (a.keys = b.keys) = true) (N : Nat) (hN : min a.entries.length b.entries.length = N) :
    Calls Try.prog 71 #[.agg #[.int .i64 gr.p, .int .i64 gr.q, .int .i64 gr.g], v1, v2] w fun e w' => e = .returned (.tuple #[.int .i64 (crRes a.entries b.entries).1, .int .i64 (crRes a.entries b.entries).2, .bool true]) ∧ Below w.heap.size w w' := by
  have H1 := Lib.hid q1; have H2 := Lib.hid q2; have H3 := Lib.hid q3
  have HG := Lib.hid (vbR_ok q1).1
  have HB1 := Lib.hid (vbR_ok q1).2; have HB2 := Lib.hid (vbR_ok q2).2
  have HGG : Hid (goodG gr = true) := by have h := q1; unfold vbR at h; rw [Bool.and_eq_true] at h; exact h.1
  have hl1 := (boardB_parts HB1.out).2.1; have hl2 := (boardB_parts HB2.out).2.1
  clear q1 q2 q3
  obtain ⟨aa_0, na_0, ca_0, aa_1, na_1, ca_1, rfl, ka_0, ka_1⟩ := rdBoard.1 h1
  obtain ⟨ab_0, nb_0, cb_0, ab_1, nb_1, cb_1, rfl, kb_0, kb_1⟩ := rdBoard.1 h2
  obtain ⟨W, hW⟩ : ∃ W, W = (((w.alloc (.cells #[.int .i64 gr.p, .int .i64 gr.q, .int .i64 gr.g] 88)).alloc (.cells #[.slice aa_0 na_0 ca_0, .slice aa_1 na_1 ca_1] 119)).alloc (.cells #[.slice ab_0 nb_0 cb_0, .slice ab_1 nb_1 cb_1] 119)) := ⟨_, rfl⟩
  have HWB : Hid (Below w.heap.size w W) := by unfold Hid; rw [hW]; (repeat (first | exact Below.refl _ _ | assumption | refine Below.drew ?_ | refine Below.alloc ?_ (by first | (simp; done) | (simp; omega)) _ | refine Below.setCell ?_ (by first | (simp; done) | (simp; omega)) _))
  have FX : Hid (∀ W', Below W.heap.size W W' → W'.cell? ⟨w.heap.size, 0, none⟩ = some (.int .i64 gr.p) ∧ W'.cell? ⟨w.heap.size, 1, none⟩ = some (.int .i64 gr.q) ∧ W'.cell? ⟨w.heap.size, 2, none⟩ = some (.int .i64 gr.g) ∧ W'.cell? ⟨w.heap.size + 1, 0, none⟩ = some (.slice aa_0 na_0 ca_0) ∧ W'.cell? ⟨w.heap.size + 1, 1, none⟩ = some (.slice aa_1 na_1 ca_1) ∧ W'.cell? ⟨w.heap.size + 1 + 1, 0, none⟩ = some (.slice ab_0 nb_0 cb_0) ∧ W'.cell? ⟨w.heap.size + 1 + 1, 1, none⟩ = some (.slice ab_1 nb_1 cb_1)) := fun W' hb => by
    exact ⟨box_at (by rw [hW]; simp [go_sem]) hb, box_at (by rw [hW]; simp [go_sem]) hb, box_at (by rw [hW]; simp [go_sem]) hb, box_at (by rw [hW]; simp [go_sem]) hb, box_at (by rw [hW]; simp [go_sem]) hb, box_at (by rw [hW]; simp [go_sem]) hb, box_at (by rw [hW]; simp [go_sem]) hb⟩
  have hsW : W.heap.size = w.heap.size + 3 := by rw [hW]; simp
  have Ha := Lib.hid ((kS rBoard).rd_below h1 HWB.out); clear h1
  have F_a_keys := Lib.hid (sInts.rd_below ka_0 HWB.out)
  have F_a_entries := Lib.hid ((kR 94 rEntry).rd_below ka_1 HWB.out)
  clear ka_0 ka_1
  have Hb := Lib.hid ((kS rBoard).rd_below h2 HWB.out); clear h2
  have F_b_keys := Lib.hid (sInts.rd_below kb_0 HWB.out)
  have F_b_entries := Lib.hid ((kR 94 rEntry).rd_below kb_1 HWB.out)
  clear kb_0 kb_1
  have HW := Lib.hid hW; clear hW
  have e1 := (F_a_entries.out : RdR _ _ _ _).len
  have e2 := (F_b_entries.out : RdR _ _ _ _).len
  have HLA := Lib.hid e1; have HLB := Lib.hid e2
  have hNI : min (na_1 : Int) (nb_1 : Int) = (N : Int) := by omega
  have hN1 : N ≤ na_1 := by omega
  have hN2 : N ≤ nb_1 := by omega
  have hN3 : N = na_1 ∨ N = nb_1 := by omega
  have hN64 : N ≤ 64 := by omega
  have HN := Lib.hid hN
  clear e1 e2 hl1 hl2 hN
  have HNI := Lib.hid hNI; clear hNI
  go_enter Try.func71, Try.ntmps71
  go_wp2_with fail
  rw [← HW.out]
  have hcum : Below W.heap.size W W := Below.refl _ _
  obtain ⟨p0_0, p0_1, p0_2, p1_0, p1_1, p2_0, p2_1⟩ := FX.out _ hcum
  refine (spec_l2Good gr _).mono ?_
  rintro e w0 ⟨rfl, hb0⟩
  rw [HGG.out]
  (replace hcum := hcum.trans (hb0.mono hcum.size)); clear hb0; clear p0_0 p0_1 p0_2 p1_0 p1_1 p2_0 p2_1; obtain ⟨p0_0, p0_1, p0_2, p1_0, p1_1, p2_0, p2_1⟩ := FX.out _ hcum
  have HC := Lib.hid hcum
  go_wp2_with fail
  refine (spec_oBoard gr a _ _ HG.out ((kS rBoard).rd_below Ha.out HC.out)).mono ?_
  rintro e w1 ⟨rfl, hb1⟩
  rw [HB1.out]
  (replace hcum := hcum.trans (hb1.mono hcum.size)); clear hb1; clear p0_0 p0_1 p0_2 p1_0 p1_1 p2_0 p2_1; obtain ⟨p0_0, p0_1, p0_2, p1_0, p1_1, p2_0, p2_1⟩ := FX.out _ hcum
  have HC1 := Lib.hid hcum
  go_wp2_with fail
  refine (spec_oBoard gr b _ _ HG.out ((kS rBoard).rd_below Hb.out HC1.out)).mono ?_
  rintro e w2 ⟨rfl, hb2⟩
  rw [HB2.out]
  (replace hcum := hcum.trans (hb2.mono hcum.size)); clear hb2; clear p0_0 p0_1 p0_2 p1_0 p1_1 p2_0 p2_1; obtain ⟨p0_0, p0_1, p0_2, p1_0, p1_1, p2_0, p2_1⟩ := FX.out _ hcum
  have HC2 := Lib.hid hcum
  go_wp2_with fail
  refine (spec_l1Same _ _ a.keys b.keys _ (sInts.rd_below F_a_keys.out HC2.out) (sInts.rd_below F_b_keys.out HC2.out)).mono ?_
  rintro e w3 ⟨rfl, m3, rfl⟩
  rw [H3.out]
  obtain ⟨w4, hw4⟩ : ∃ w4, w4 = w2.drewN m3 := ⟨_, rfl⟩
  rw [← hw4]
  have hb3 : Below w2.heap.size w2 w4 := by rw [hw4]; exact below_drewN (Below.refl _ _) _
  clear hw4
  (replace hcum := hcum.trans (hb3.mono hcum.size)); clear hb3; clear p0_0 p0_1 p0_2 p1_0 p1_1 p2_0 p2_1; obtain ⟨p0_0, p0_1, p0_2, p1_0, p1_1, p2_0, p2_1⟩ := FX.out _ hcum
  have HC3 := Lib.hid hcum
  go_wp2_with (first | (go_at_call 164; refine (spec_l1Least _ _ _).mono ?_; rintro e wz ⟨rfl, rfl⟩; rw [HNI.out]) | fail)
  go_loopg [10] N (fun g i wr => ∃ k : Nat, k + g = N ∧ i = .int .i64 k ∧ Hid (∀ j, j < k → cmpE a.entries b.entries j = true) ∧ Below W.heap.size W wr)
  case atStart => exact ⟨0, by omega, rfl, (fun j hj => by omega), HC3.out⟩
  case round =>
    obtain ⟨k, hkg, rfl, HF, hb⟩ := hrel
    clear p0_0 p0_1 p0_2 p1_0 p1_1 p2_0 p2_1 hcum
    obtain ⟨p0_0, p0_1, p0_2, p1_0, p1_1, p2_0, p2_1⟩ := FX.out _ hb
    by_cases hlt : k < N
    · have HCK := Lib.hid (show cmpE a.entries b.entries k = decide (a.entries[k]? = b.entries[k]?) from rfl)
      have HK : Hid (k < a.entries.length) := by have := HLA.out; unfold Hid; omega
      have HX : Hid (a.entries[k]? = some (a.entries[k]'HK.out)) := List.getElem?_eq_getElem HK.out
      obtain ⟨b_x, o_x, rfl, hcx⟩ := F_a_entries.out.at_ (by omega)
      obtain ⟨us, hcell, hrd⟩ := hcx k HK.out
      clear hcx
      generalize a.entries[k]'HK.out = x at hrd HX
      obtain ⟨ax_2, nx_2, cx_2, ax_3, nx_3, cx_3, ax_4, nx_4, cx_4, ax_5, nx_5, cx_5, ers, jx_0, jx_1, kx_2, kx_3, kx_4, kx_5⟩ := rdEntry.1 ⟨us, rfl, hrd⟩
      obtain rfl : us = [.int .i64 x.kind, .int .i64 x.author, .slice ax_2 nx_2 cx_2, .slice ax_3 nx_3 cx_3, .slice ax_4 nx_4 cx_4, .slice ax_5 nx_5 cx_5] := by have h := Value.agg.inj ers; simpa using congrArg Array.toList h
      clear ers hrd
      have y_x_0 : wr.cell? ⟨b_x, o_x + k * 6, none⟩ = some (.int .i64 x.kind) := box_at (hcell 0 (by decide)) hb
      have y_x_1 : wr.cell? ⟨b_x, o_x + k * 6 + 1, none⟩ = some (.int .i64 x.author) := box_at (hcell 1 (by decide)) hb
      have y_x_2 : wr.cell? ⟨b_x, o_x + k * 6 + 2, none⟩ = some (.slice ax_2 nx_2 cx_2) := box_at (hcell 2 (by decide)) hb
      have y_x_3 : wr.cell? ⟨b_x, o_x + k * 6 + 3, none⟩ = some (.slice ax_3 nx_3 cx_3) := box_at (hcell 3 (by decide)) hb
      have y_x_4 : wr.cell? ⟨b_x, o_x + k * 6 + 4, none⟩ = some (.slice ax_4 nx_4 cx_4) := box_at (hcell 4 (by decide)) hb
      have y_x_5 : wr.cell? ⟨b_x, o_x + k * 6 + 5, none⟩ = some (.slice ax_5 nx_5 cx_5) := box_at (hcell 5 (by decide)) hb
      clear hcell
      have HR_x := Lib.hid ((kS rEntry).rd_below (rdEntry.2 ⟨_, _, _, _, _, _, _, _, _, _, _, _, rfl, jx_0, jx_1, kx_2, kx_3, kx_4, kx_5⟩ : (kS rEntry).rd W (.agg #[.int .i64 x.kind, .int .i64 x.author, .slice ax_2 nx_2 cx_2, .slice ax_3 nx_3 cx_3, .slice ax_4 nx_4 cx_4, .slice ax_5 nx_5 cx_5]) x) hb)
      have F_x_data := Lib.hid (sInts.rd_below kx_2 hb)
      have F_x_sign := Lib.hid ((kS rProof).rd_below (rdProof.2 ⟨_, _, _, _, _, _, _, _, _, rfl, kx_3, kx_4, kx_5⟩ : (kS rProof).rd W (.agg #[.slice ax_3 nx_3 cx_3, .slice ax_4 nx_4 cx_4, .slice ax_5 nx_5 cx_5]) x.sign) hb)
      have J_x_0 := Lib.hid jx_0
      have J_x_1 := Lib.hid jx_1
      clear jx_0 jx_1 kx_2 kx_3 kx_4 kx_5
      replace HK : Hid (k < b.entries.length) := by have := HLB.out; unfold Hid; omega
      have HY : Hid (b.entries[k]? = some (b.entries[k]'HK.out)) := List.getElem?_eq_getElem HK.out
      obtain ⟨b_y, o_y, rfl, hcx⟩ := F_b_entries.out.at_ (by omega)
      obtain ⟨us, hcell, hrd⟩ := hcx k HK.out
      clear hcx
      generalize b.entries[k]'HK.out = y at hrd HY
      obtain ⟨ay_2, ny_2, cy_2, ay_3, ny_3, cy_3, ay_4, ny_4, cy_4, ay_5, ny_5, cy_5, ers, jy_0, jy_1, ky_2, ky_3, ky_4, ky_5⟩ := rdEntry.1 ⟨us, rfl, hrd⟩
      obtain rfl : us = [.int .i64 y.kind, .int .i64 y.author, .slice ay_2 ny_2 cy_2, .slice ay_3 ny_3 cy_3, .slice ay_4 ny_4 cy_4, .slice ay_5 ny_5 cy_5] := by have h := Value.agg.inj ers; simpa using congrArg Array.toList h
      clear ers hrd
      have y_y_0 : wr.cell? ⟨b_y, o_y + k * 6, none⟩ = some (.int .i64 y.kind) := box_at (hcell 0 (by decide)) hb
      have y_y_1 : wr.cell? ⟨b_y, o_y + k * 6 + 1, none⟩ = some (.int .i64 y.author) := box_at (hcell 1 (by decide)) hb
      have y_y_2 : wr.cell? ⟨b_y, o_y + k * 6 + 2, none⟩ = some (.slice ay_2 ny_2 cy_2) := box_at (hcell 2 (by decide)) hb
      have y_y_3 : wr.cell? ⟨b_y, o_y + k * 6 + 3, none⟩ = some (.slice ay_3 ny_3 cy_3) := box_at (hcell 3 (by decide)) hb
      have y_y_4 : wr.cell? ⟨b_y, o_y + k * 6 + 4, none⟩ = some (.slice ay_4 ny_4 cy_4) := box_at (hcell 4 (by decide)) hb
      have y_y_5 : wr.cell? ⟨b_y, o_y + k * 6 + 5, none⟩ = some (.slice ay_5 ny_5 cy_5) := box_at (hcell 5 (by decide)) hb
      clear hcell
      have HR_y := Lib.hid ((kS rEntry).rd_below (rdEntry.2 ⟨_, _, _, _, _, _, _, _, _, _, _, _, rfl, jy_0, jy_1, ky_2, ky_3, ky_4, ky_5⟩ : (kS rEntry).rd W (.agg #[.int .i64 y.kind, .int .i64 y.author, .slice ay_2 ny_2 cy_2, .slice ay_3 ny_3 cy_3, .slice ay_4 ny_4 cy_4, .slice ay_5 ny_5 cy_5]) y) hb)
      have F_y_data := Lib.hid (sInts.rd_below ky_2 hb)
      have F_y_sign := Lib.hid ((kS rProof).rd_below (rdProof.2 ⟨_, _, _, _, _, _, _, _, _, rfl, ky_3, ky_4, ky_5⟩ : (kS rProof).rd W (.agg #[.slice ay_3 ny_3 cy_3, .slice ay_4 ny_4 cy_4, .slice ay_5 ny_5 cy_5]) y.sign) hb)
      have J_y_0 := Lib.hid jy_0
      have J_y_1 := Lib.hid jy_1
      clear jy_0 jy_1 ky_2 ky_3 ky_4 ky_5
      have hwk : IntKind.i64.wrap ((k : Int) + 1) = (k : Int) + 1 := IntWalk.i64_in _ (by omega)
      have z0 : (0 : Int) ≤ (k : Int) := by omega
      have z1 : (k : Int) < (na_1 : Int) := by omega
      have z2 : (k : Int) < (nb_1 : Int) := by omega
      have HBR := Lib.hid hb; clear hb
      (obtain ⟨q5, h_q⟩ : ∃ b_q, decide (x = y) = b_q := ⟨_, rfl⟩); have H5 := Lib.hid h_q; clear h_q
      have HCE : Hid (cmpE a.entries b.entries k = q5) := by
        unfold Hid
        rw [HCK.out, HX.out, HY.out, ← H5.out, Bool.eq_iff_iff]
        simp
      have g1 := fun u => grow_cell p1_1 u
      have g2 := fun u => grow_cell p2_1 u
      have gx0 := fun u => grow_cell y_x_0 u
      have gx1 := fun u => grow_cell y_x_1 u
      have gx2 := fun u => grow_cell y_x_2 u
      have gx3 := fun u => grow_cell y_x_3 u
      have gx4 := fun u => grow_cell y_x_4 u
      have gx5 := fun u => grow_cell y_x_5 u
      have gy0 := fun u => grow_cell y_y_0 u
      have gy1 := fun u => grow_cell y_y_1 u
      have gy2 := fun u => grow_cell y_y_2 u
      have gy3 := fun u => grow_cell y_y_3 u
      have gy4 := fun u => grow_cell y_y_4 u
      have gy5 := fun u => grow_cell y_y_5 u
      cases q5
      all_goals
        go_wp2_with fail
        (refine wp_region_grow (by kernel_rfl) (by kernel_rfl) ?_; (repeat (go_big_quiet_step ((first | (go_at_call 165; refine calls_grow (spec_oSameEntry _ _ x y _ ((kS rEntry).rd_below HR_x.out (grow_below _ _)) ((kS rEntry).rd_below HR_y.out (grow_below _ _))) (fun e w' h => ⟨by rw [h.1, H5.out], h.2⟩)) | fail)))); refine wpQuiet_nil ?_; intro _ hw'; obtain ⟨uq, hw''⟩ := hw'; subst hw''; have hbq := grow_below wr uq; generalize grow wr uq = wq at hbq ⊢)
        have HBQ := Lib.hid (Below.next HBR.out hbq); clear hbq
        go_wp2_with fail
      · have HKE : Hid (crRes a.entries b.entries = (3, (k : Int))) := crRes_at (by have := HLA.out; have := HLB.out; omega) HF.out HCE.out
        go_ret3
        rw [HKE.out]
        exact ⟨rfl, Below.next HWB.out HBQ.out⟩
      · have HKE := Lib.hid HCE.out
        go_roundg (N - (k + 1))
        case measure => omega
        case rel =>
          refine ⟨k + 1, by omega, by go_num, fun j hj => ?_, HBQ.out⟩
          rcases Nat.lt_succ_iff_lt_or_eq.1 hj with h | rfl
          · exact HF.out j h
          · exact HKE.out
    · obtain rfl : N = k := by omega
      have HEN := Lib.hid (crRes_end HN.out HF.out)
      have HBR := Lib.hid hb; clear hb
      by_cases hc1 : N < na_1
      · go_wp2_with fail
        go_ret3
        rw [HEN.out, if_pos (by have := HLA.out; omega)]
        exact ⟨rfl, Below.next HWB.out HBR.out⟩
      · by_cases hc2 : N < nb_1
        · go_wp2_with fail
          go_ret3
          rw [HEN.out, if_neg (by have := HLA.out; omega), if_pos (by have := HLB.out; omega)]
          exact ⟨rfl, Below.next HWB.out HBR.out⟩
        · go_wp2_with fail
          go_ret3
          rw [HEN.out, if_neg (by have := HLA.out; omega), if_neg (by have := HLB.out; omega)]
          exact ⟨rfl, Below.next HWB.out HBR.out⟩
set_option maxRecDepth 100000 in
set_option maxHeartbeats 4000000 in
theorem spec_CompareReplicas (gr : GroupD) (v1 : Value) (a : BoardD) (v2 : Value) (b : BoardD) (w : World) (hz1 : (szBoard a : Int) ≤ 1000000000) (h1 : (kS rBoard).rd w v1 a) (hz2 : (szBoard b : Int) ≤ 1000000000) (h2 : (kS rBoard).rd w v2 b) :
    Calls Try.prog 71 #[.agg #[.int .i64 gr.p, .int .i64 gr.q, .int .i64 gr.g], v1, v2] w fun e w' => e = .returned (.tuple #[.int .i64 (crI gr a b), .int .i64 (crJ gr a b), .bool (crB gr a b)]) ∧ Below w.heap.size w w' := by
  clear hz1 hz2
  cases hq : crB gr a b with
  | true =>
    have e1 : crI gr a b = (crRes a.entries b.entries).1 := by unfold crI; rw [if_pos hq]
    have e2 : crJ gr a b = (crRes a.entries b.entries).2 := by unfold crJ; rw [if_pos hq]
    unfold crB at hq
    rw [Bool.and_eq_true, Bool.and_eq_true] at hq
    rw [e1, e2]
    exact spec_CompareReplicas_loop gr v1 a v2 b w h1 h2 hq.1 hq.2.1 hq.2.2 _ rfl
  | false =>
    have e1 : crI gr a b = 0 := by unfold crI; rw [if_neg (by rw [hq]; simp)]
    have e2 : crJ gr a b = 0 := by unfold crJ; rw [if_neg (by rw [hq]; simp)]
    rw [e1, e2]
    clear e1 e2
    unfold crB vbR at hq
    (obtain ⟨q1, h_q⟩ : ∃ b_q, goodG gr = b_q := ⟨_, rfl⟩); have H1 := Lib.hid h_q; clear h_q
    (obtain ⟨q4, h_q⟩ : ∃ b_q, boardB gr a = b_q := ⟨_, rfl⟩); have H4 := Lib.hid h_q; clear h_q
    (obtain ⟨q2, h_q⟩ : ∃ b_q, boardB gr b = b_q := ⟨_, rfl⟩); have H2 := Lib.hid h_q; clear h_q
    (obtain ⟨q3, h_q⟩ : ∃ b_q, decide (a.keys = b.keys) = b_q := ⟨_, rfl⟩); have H3 := Lib.hid h_q; clear h_q
    rw [H1.out, H4.out, H2.out, H3.out] at hq
    obtain ⟨aa_0, na_0, ca_0, aa_1, na_1, ca_1, rfl, ka_0, ka_1⟩ := rdBoard.1 h1
    obtain ⟨ab_0, nb_0, cb_0, ab_1, nb_1, cb_1, rfl, kb_0, kb_1⟩ := rdBoard.1 h2
    obtain ⟨W, hW⟩ : ∃ W, W = (((w.alloc (.cells #[.int .i64 gr.p, .int .i64 gr.q, .int .i64 gr.g] 88)).alloc (.cells #[.slice aa_0 na_0 ca_0, .slice aa_1 na_1 ca_1] 119)).alloc (.cells #[.slice ab_0 nb_0 cb_0, .slice ab_1 nb_1 cb_1] 119)) := ⟨_, rfl⟩
    have HWB : Hid (Below w.heap.size w W) := by unfold Hid; rw [hW]; (repeat (first | exact Below.refl _ _ | assumption | refine Below.drew ?_ | refine Below.alloc ?_ (by first | (simp; done) | (simp; omega)) _ | refine Below.setCell ?_ (by first | (simp; done) | (simp; omega)) _))
    have FX : Hid (∀ W', Below W.heap.size W W' → W'.cell? ⟨w.heap.size, 0, none⟩ = some (.int .i64 gr.p) ∧ W'.cell? ⟨w.heap.size, 1, none⟩ = some (.int .i64 gr.q) ∧ W'.cell? ⟨w.heap.size, 2, none⟩ = some (.int .i64 gr.g) ∧ W'.cell? ⟨w.heap.size + 1, 0, none⟩ = some (.slice aa_0 na_0 ca_0) ∧ W'.cell? ⟨w.heap.size + 1, 1, none⟩ = some (.slice aa_1 na_1 ca_1) ∧ W'.cell? ⟨w.heap.size + 1 + 1, 0, none⟩ = some (.slice ab_0 nb_0 cb_0) ∧ W'.cell? ⟨w.heap.size + 1 + 1, 1, none⟩ = some (.slice ab_1 nb_1 cb_1)) := fun W' hb => by
      exact ⟨box_at (by rw [hW]; simp [go_sem]) hb, box_at (by rw [hW]; simp [go_sem]) hb, box_at (by rw [hW]; simp [go_sem]) hb, box_at (by rw [hW]; simp [go_sem]) hb, box_at (by rw [hW]; simp [go_sem]) hb, box_at (by rw [hW]; simp [go_sem]) hb, box_at (by rw [hW]; simp [go_sem]) hb⟩
    have hsW : W.heap.size = w.heap.size + 3 := by rw [hW]; simp
    have Ha := Lib.hid ((kS rBoard).rd_below h1 HWB.out); clear h1
    have F_a_keys := Lib.hid (sInts.rd_below ka_0 HWB.out)
    have F_a_entries := Lib.hid ((kR 94 rEntry).rd_below ka_1 HWB.out)
    clear ka_0 ka_1
    have Hb := Lib.hid ((kS rBoard).rd_below h2 HWB.out); clear h2
    have F_b_keys := Lib.hid (sInts.rd_below kb_0 HWB.out)
    have F_b_entries := Lib.hid ((kR 94 rEntry).rd_below kb_1 HWB.out)
    clear kb_0 kb_1
    have HW := Lib.hid hW; clear hW
    go_enter Try.func71, Try.ntmps71
    go_wp2_with fail
    rw [← HW.out]
    have hcum : Below W.heap.size W W := Below.refl _ _
    obtain ⟨p0_0, p0_1, p0_2, p1_0, p1_1, p2_0, p2_1⟩ := FX.out _ hcum
    refine (spec_l2Good gr _).mono ?_
    rintro e w0 ⟨rfl, hb0⟩
    rw [H1.out]
    (replace hcum := hcum.trans (hb0.mono hcum.size)); clear hb0; clear p0_0 p0_1 p0_2 p1_0 p1_1 p2_0 p2_1; obtain ⟨p0_0, p0_1, p0_2, p1_0, p1_1, p2_0, p2_1⟩ := FX.out _ hcum
    have HC := Lib.hid hcum
    cases q1 with
    | false =>
      go_wp2_with fail
      go_ret3
      exact ⟨rfl, Below.next HWB.out hcum⟩
    | true =>
      have HG := Lib.hid (goodG_ok H1.out)
      go_wp2_with fail
      refine (spec_oBoard gr a _ _ HG.out ((kS rBoard).rd_below Ha.out HC.out)).mono ?_
      rintro e w1 ⟨rfl, hb1⟩
      rw [H4.out]
      (replace hcum := hcum.trans (hb1.mono hcum.size)); clear hb1; clear p0_0 p0_1 p0_2 p1_0 p1_1 p2_0 p2_1; obtain ⟨p0_0, p0_1, p0_2, p1_0, p1_1, p2_0, p2_1⟩ := FX.out _ hcum
      have HC1 := Lib.hid hcum
      cases q4 with
      | false =>
        go_wp2_with fail
        go_ret3
        exact ⟨rfl, Below.next HWB.out hcum⟩
      | true =>
        go_wp2_with fail
        refine (spec_oBoard gr b _ _ HG.out ((kS rBoard).rd_below Hb.out HC1.out)).mono ?_
        rintro e w2 ⟨rfl, hb2⟩
        rw [H2.out]
        (replace hcum := hcum.trans (hb2.mono hcum.size)); clear hb2; clear p0_0 p0_1 p0_2 p1_0 p1_1 p2_0 p2_1; obtain ⟨p0_0, p0_1, p0_2, p1_0, p1_1, p2_0, p2_1⟩ := FX.out _ hcum
        have HC2 := Lib.hid hcum
        cases q2 with
        | false =>
          go_wp2_with fail
          go_ret3
          exact ⟨rfl, Below.next HWB.out hcum⟩
        | true =>
          obtain rfl : q3 = false := by simpa using hq
          clear hq
          go_wp2_with fail
          refine (spec_l1Same _ _ a.keys b.keys _ (sInts.rd_below F_a_keys.out HC2.out) (sInts.rd_below F_b_keys.out HC2.out)).mono ?_
          rintro e w3 ⟨rfl, m3, rfl⟩
          rw [H3.out]
          go_wp2_with fail
          go_ret3
          exact ⟨rfl, Below.next HWB.out (Below.next HC2.out (below_drewN (Below.refl _ _) _))⟩
set_option maxRecDepth 100000 in
set_option maxHeartbeats 8000000 in
theorem impl_CompareReplicas_loop (gr : GroupD) (v1 : Value) (a : BoardD) (v2 : Value) (b : BoardD) (w : World) (h1 : (kS rBoard).rd w v1 a) (h2 : (kS rBoard).rd w v2 b)
    (q1 : vbR gr a = true) (q2 : vbR gr b = true) (q3 : decide (a.keys = b.keys) = true) (N : Nat) (hN : min a.entries.length b.entries.length = N) :
    Calls Try.prog 72 #[.agg #[.int .i64 gr.p, .int .i64 gr.q, .int .i64 gr.g], v1, v2] w fun e w' => e = .returned (.tuple #[.int .i64 (crRes a.entries b.entries).1, .int .i64 (crRes a.entries b.entries).2, .bool true]) ∧ Below w.heap.size w w' := by
  have H1 := Lib.hid q1; have H2 := Lib.hid q2; have H3 := Lib.hid q3
  have HG := Lib.hid (vbR_ok q1).1
  have HB1 := Lib.hid (vbR_ok q1).2; have HB2 := Lib.hid (vbR_ok q2).2
  have HGG : Hid (goodG gr = true) := by have h := q1; unfold vbR at h; rw [Bool.and_eq_true] at h; exact h.1
  have hl1 := (boardB_parts HB1.out).2.1; have hl2 := (boardB_parts HB2.out).2.1
  clear q1 q2 q3
  obtain ⟨aa_0, na_0, ca_0, aa_1, na_1, ca_1, rfl, ka_0, ka_1⟩ := rdBoard.1 h1
  obtain ⟨ab_0, nb_0, cb_0, ab_1, nb_1, cb_1, rfl, kb_0, kb_1⟩ := rdBoard.1 h2
  obtain ⟨W, hW⟩ : ∃ W, W = (((w.alloc (.cells #[.int .i64 gr.p, .int .i64 gr.q, .int .i64 gr.g] 88)).alloc (.cells #[.slice aa_0 na_0 ca_0, .slice aa_1 na_1 ca_1] 119)).alloc (.cells #[.slice ab_0 nb_0 cb_0, .slice ab_1 nb_1 cb_1] 119)) := ⟨_, rfl⟩
  have HWB : Hid (Below w.heap.size w W) := by unfold Hid; rw [hW]; (repeat (first | exact Below.refl _ _ | assumption | refine Below.drew ?_ | refine Below.alloc ?_ (by first | (simp; done) | (simp; omega)) _ | refine Below.setCell ?_ (by first | (simp; done) | (simp; omega)) _))
  have FX : Hid (∀ W', Below W.heap.size W W' → W'.cell? ⟨w.heap.size, 0, none⟩ = some (.int .i64 gr.p) ∧ W'.cell? ⟨w.heap.size, 1, none⟩ = some (.int .i64 gr.q) ∧ W'.cell? ⟨w.heap.size, 2, none⟩ = some (.int .i64 gr.g) ∧ W'.cell? ⟨w.heap.size + 1, 0, none⟩ = some (.slice aa_0 na_0 ca_0) ∧ W'.cell? ⟨w.heap.size + 1, 1, none⟩ = some (.slice aa_1 na_1 ca_1) ∧ W'.cell? ⟨w.heap.size + 1 + 1, 0, none⟩ = some (.slice ab_0 nb_0 cb_0) ∧ W'.cell? ⟨w.heap.size + 1 + 1, 1, none⟩ = some (.slice ab_1 nb_1 cb_1)) := fun W' hb => by
    exact ⟨box_at (by rw [hW]; simp [go_sem]) hb, box_at (by rw [hW]; simp [go_sem]) hb, box_at (by rw [hW]; simp [go_sem]) hb, box_at (by rw [hW]; simp [go_sem]) hb, box_at (by rw [hW]; simp [go_sem]) hb, box_at (by rw [hW]; simp [go_sem]) hb, box_at (by rw [hW]; simp [go_sem]) hb⟩
  have hsW : W.heap.size = w.heap.size + 3 := by rw [hW]; simp
  have Ha := Lib.hid ((kS rBoard).rd_below h1 HWB.out); clear h1
  have F_a_keys := Lib.hid (sInts.rd_below ka_0 HWB.out)
  have F_a_entries := Lib.hid ((kR 94 rEntry).rd_below ka_1 HWB.out)
  clear ka_0 ka_1
  have Hb := Lib.hid ((kS rBoard).rd_below h2 HWB.out); clear h2
  have F_b_keys := Lib.hid (sInts.rd_below kb_0 HWB.out)
  have F_b_entries := Lib.hid ((kR 94 rEntry).rd_below kb_1 HWB.out)
  clear kb_0 kb_1
  have HW := Lib.hid hW; clear hW
  have e1 := (F_a_entries.out : RdR _ _ _ _).len
  have e2 := (F_b_entries.out : RdR _ _ _ _).len
  have HLA := Lib.hid e1; have HLB := Lib.hid e2
  have hNI : min (na_1 : Int) (nb_1 : Int) = (N : Int) := by omega
  have hN1 : N ≤ na_1 := by omega
  have hN2 : N ≤ nb_1 := by omega
  have hN3 : N = na_1 ∨ N = nb_1 := by omega
  have hN64 : N ≤ 64 := by omega
  have HN := Lib.hid hN
  clear e1 e2 hl1 hl2 hN
  have HNI := Lib.hid hNI; clear hNI
  go_enter Try.func72, Try.ntmps72
  go_wp2_with fail
  rw [← HW.out]
  have hcum : Below W.heap.size W W := Below.refl _ _
  obtain ⟨p0_0, p0_1, p0_2, p1_0, p1_1, p2_0, p2_1⟩ := FX.out _ hcum
  refine (impl_areBoard gr a _ _ ((kS rBoard).rd_below Ha.out hcum)).mono ?_
  rintro e w1 ⟨rfl, hb1⟩
  rw [H1.out]
  (replace hcum := hcum.trans (hb1.mono hcum.size)); clear hb1; clear p0_0 p0_1 p0_2 p1_0 p1_1 p2_0 p2_1; obtain ⟨p0_0, p0_1, p0_2, p1_0, p1_1, p2_0, p2_1⟩ := FX.out _ hcum
  have HC := Lib.hid hcum
  go_wp2_with fail
  refine (impl_areBoard gr b _ _ ((kS rBoard).rd_below Hb.out HC.out)).mono ?_
  rintro e w2 ⟨rfl, hb2⟩
  rw [H2.out]
  (replace hcum := hcum.trans (hb2.mono hcum.size)); clear hb2; clear p0_0 p0_1 p0_2 p1_0 p1_1 p2_0 p2_1; obtain ⟨p0_0, p0_1, p0_2, p1_0, p1_1, p2_0, p2_1⟩ := FX.out _ hcum
  have HC2 := Lib.hid hcum
  go_wp2_with fail
  refine (slices_Equal _ _ a.keys b.keys _ (sInts.rd_below F_a_keys.out HC2.out) (sInts.rd_below F_b_keys.out HC2.out)).mono ?_
  rintro e w3 ⟨rfl, m3, rfl⟩
  rw [H3.out]
  obtain ⟨w4, hw4⟩ : ∃ w4, w4 = w2.drewN m3 := ⟨_, rfl⟩
  rw [← hw4]
  have hb3 : Below w2.heap.size w2 w4 := by rw [hw4]; exact below_drewN (Below.refl _ _) _
  clear hw4
  (replace hcum := hcum.trans (hb3.mono hcum.size)); clear hb3; clear p0_0 p0_1 p0_2 p1_0 p1_1 p2_0 p2_1; obtain ⟨p0_0, p0_1, p0_2, p1_0, p1_1, p2_0, p2_1⟩ := FX.out _ hcum
  have HC3 := Lib.hid hcum
  have hNI := HNI.out
  go_wp2_with fail
  clear hNI
  go_loopg [39] N (fun g i wr => ∃ k : Nat, k + g = N ∧ i = .int .i64 k ∧ Hid (∀ j, j < k → cmpE a.entries b.entries j = true) ∧ Below W.heap.size W wr)
  case atStart => exact ⟨0, by omega, rfl, (fun j hj => by omega), HC3.out⟩
  case round =>
    obtain ⟨k, hkg, rfl, HF, hb⟩ := hrel
    clear p0_0 p0_1 p0_2 p1_0 p1_1 p2_0 p2_1 hcum
    obtain ⟨p0_0, p0_1, p0_2, p1_0, p1_1, p2_0, p2_1⟩ := FX.out _ hb
    by_cases hlt : k < N
    · have HCK := Lib.hid (show cmpE a.entries b.entries k = decide (a.entries[k]? = b.entries[k]?) from rfl)
      have HK : Hid (k < a.entries.length) := by have := HLA.out; unfold Hid; omega
      have HX : Hid (a.entries[k]? = some (a.entries[k]'HK.out)) := List.getElem?_eq_getElem HK.out
      obtain ⟨b_x, o_x, rfl, hcx⟩ := F_a_entries.out.at_ (by omega)
      obtain ⟨us, hcell, hrd⟩ := hcx k HK.out
      clear hcx
      generalize a.entries[k]'HK.out = x at hrd HX
      obtain ⟨ax_2, nx_2, cx_2, ax_3, nx_3, cx_3, ax_4, nx_4, cx_4, ax_5, nx_5, cx_5, ers, jx_0, jx_1, kx_2, kx_3, kx_4, kx_5⟩ := rdEntry.1 ⟨us, rfl, hrd⟩
      obtain rfl : us = [.int .i64 x.kind, .int .i64 x.author, .slice ax_2 nx_2 cx_2, .slice ax_3 nx_3 cx_3, .slice ax_4 nx_4 cx_4, .slice ax_5 nx_5 cx_5] := by have h := Value.agg.inj ers; simpa using congrArg Array.toList h
      clear ers hrd
      have y_x_0 : wr.cell? ⟨b_x, o_x + k * 6, none⟩ = some (.int .i64 x.kind) := box_at (hcell 0 (by decide)) hb
      have y_x_1 : wr.cell? ⟨b_x, o_x + k * 6 + 1, none⟩ = some (.int .i64 x.author) := box_at (hcell 1 (by decide)) hb
      have y_x_2 : wr.cell? ⟨b_x, o_x + k * 6 + 2, none⟩ = some (.slice ax_2 nx_2 cx_2) := box_at (hcell 2 (by decide)) hb
      have y_x_3 : wr.cell? ⟨b_x, o_x + k * 6 + 3, none⟩ = some (.slice ax_3 nx_3 cx_3) := box_at (hcell 3 (by decide)) hb
      have y_x_4 : wr.cell? ⟨b_x, o_x + k * 6 + 4, none⟩ = some (.slice ax_4 nx_4 cx_4) := box_at (hcell 4 (by decide)) hb
      have y_x_5 : wr.cell? ⟨b_x, o_x + k * 6 + 5, none⟩ = some (.slice ax_5 nx_5 cx_5) := box_at (hcell 5 (by decide)) hb
      clear hcell
      have HR_x := Lib.hid ((kS rEntry).rd_below (rdEntry.2 ⟨_, _, _, _, _, _, _, _, _, _, _, _, rfl, jx_0, jx_1, kx_2, kx_3, kx_4, kx_5⟩ : (kS rEntry).rd W (.agg #[.int .i64 x.kind, .int .i64 x.author, .slice ax_2 nx_2 cx_2, .slice ax_3 nx_3 cx_3, .slice ax_4 nx_4 cx_4, .slice ax_5 nx_5 cx_5]) x) hb)
      have F_x_data := Lib.hid (sInts.rd_below kx_2 hb)
      have F_x_sign := Lib.hid ((kS rProof).rd_below (rdProof.2 ⟨_, _, _, _, _, _, _, _, _, rfl, kx_3, kx_4, kx_5⟩ : (kS rProof).rd W (.agg #[.slice ax_3 nx_3 cx_3, .slice ax_4 nx_4 cx_4, .slice ax_5 nx_5 cx_5]) x.sign) hb)
      have J_x_0 := Lib.hid jx_0
      have J_x_1 := Lib.hid jx_1
      clear jx_0 jx_1 kx_2 kx_3 kx_4 kx_5
      replace HK : Hid (k < b.entries.length) := by have := HLB.out; unfold Hid; omega
      have HY : Hid (b.entries[k]? = some (b.entries[k]'HK.out)) := List.getElem?_eq_getElem HK.out
      obtain ⟨b_y, o_y, rfl, hcx⟩ := F_b_entries.out.at_ (by omega)
      obtain ⟨us, hcell, hrd⟩ := hcx k HK.out
      clear hcx
      generalize b.entries[k]'HK.out = y at hrd HY
      obtain ⟨ay_2, ny_2, cy_2, ay_3, ny_3, cy_3, ay_4, ny_4, cy_4, ay_5, ny_5, cy_5, ers, jy_0, jy_1, ky_2, ky_3, ky_4, ky_5⟩ := rdEntry.1 ⟨us, rfl, hrd⟩
      obtain rfl : us = [.int .i64 y.kind, .int .i64 y.author, .slice ay_2 ny_2 cy_2, .slice ay_3 ny_3 cy_3, .slice ay_4 ny_4 cy_4, .slice ay_5 ny_5 cy_5] := by have h := Value.agg.inj ers; simpa using congrArg Array.toList h
      clear ers hrd
      have y_y_0 : wr.cell? ⟨b_y, o_y + k * 6, none⟩ = some (.int .i64 y.kind) := box_at (hcell 0 (by decide)) hb
      have y_y_1 : wr.cell? ⟨b_y, o_y + k * 6 + 1, none⟩ = some (.int .i64 y.author) := box_at (hcell 1 (by decide)) hb
      have y_y_2 : wr.cell? ⟨b_y, o_y + k * 6 + 2, none⟩ = some (.slice ay_2 ny_2 cy_2) := box_at (hcell 2 (by decide)) hb
      have y_y_3 : wr.cell? ⟨b_y, o_y + k * 6 + 3, none⟩ = some (.slice ay_3 ny_3 cy_3) := box_at (hcell 3 (by decide)) hb
      have y_y_4 : wr.cell? ⟨b_y, o_y + k * 6 + 4, none⟩ = some (.slice ay_4 ny_4 cy_4) := box_at (hcell 4 (by decide)) hb
      have y_y_5 : wr.cell? ⟨b_y, o_y + k * 6 + 5, none⟩ = some (.slice ay_5 ny_5 cy_5) := box_at (hcell 5 (by decide)) hb
      clear hcell
      have HR_y := Lib.hid ((kS rEntry).rd_below (rdEntry.2 ⟨_, _, _, _, _, _, _, _, _, _, _, _, rfl, jy_0, jy_1, ky_2, ky_3, ky_4, ky_5⟩ : (kS rEntry).rd W (.agg #[.int .i64 y.kind, .int .i64 y.author, .slice ay_2 ny_2 cy_2, .slice ay_3 ny_3 cy_3, .slice ay_4 ny_4 cy_4, .slice ay_5 ny_5 cy_5]) y) hb)
      have F_y_data := Lib.hid (sInts.rd_below ky_2 hb)
      have F_y_sign := Lib.hid ((kS rProof).rd_below (rdProof.2 ⟨_, _, _, _, _, _, _, _, _, rfl, ky_3, ky_4, ky_5⟩ : (kS rProof).rd W (.agg #[.slice ay_3 ny_3 cy_3, .slice ay_4 ny_4 cy_4, .slice ay_5 ny_5 cy_5]) y.sign) hb)
      have J_y_0 := Lib.hid jy_0
      have J_y_1 := Lib.hid jy_1
      clear jy_0 jy_1 ky_2 ky_3 ky_4 ky_5
      have hwk : IntKind.i64.wrap ((k : Int) + 1) = (k : Int) + 1 := IntWalk.i64_in _ (by omega)
      have z0 : (0 : Int) ≤ (k : Int) := by omega
      have z1 : (k : Int) < (na_1 : Int) := by omega
      have z2 : (k : Int) < (nb_1 : Int) := by omega
      have HBR := Lib.hid hb; clear hb
      (obtain ⟨q5, h_q⟩ : ∃ b_q, (x.kind == y.kind) = b_q := ⟨_, rfl⟩); have H5 := Lib.hid h_q; clear h_q
      (obtain ⟨q6, h_q⟩ : ∃ b_q, (x.author == y.author) = b_q := ⟨_, rfl⟩); have H6 := Lib.hid h_q; clear h_q
      (obtain ⟨q7, h_q⟩ : ∃ b_q, decide (x.data = y.data) = b_q := ⟨_, rfl⟩); have H7 := Lib.hid h_q; clear h_q
      (obtain ⟨q8, h_q⟩ : ∃ b_q, decide (x.sign = y.sign) = b_q := ⟨_, rfl⟩); have H8 := Lib.hid h_q; clear h_q
      have HCE : Hid (cmpE a.entries b.entries k = (q5 && (q6 && (q7 && q8)))) := by
        unfold Hid
        rw [HCK.out, HX.out, HY.out, ← H5.out, ← H6.out, ← H7.out, ← H8.out, Bool.eq_iff_iff]
        simp [EntryD.ext_iff']
      have s1 : w.heap.size + 1 < wr.heap.size := World.block_lt_of_cell? wr _ p1_1
      have s2 : w.heap.size + 1 + 1 < wr.heap.size := World.block_lt_of_cell? wr _ p2_1
      have s3 : b_x < wr.heap.size := World.block_lt_of_cell? wr _ y_x_0
      have s4 : b_y < wr.heap.size := World.block_lt_of_cell? wr _ y_y_0
      go_wp2_with fail
      go_region_held3 (fun w' => Below wr.heap.size wr w' ∧ w'.cell? ⟨w.heap.size + 1, 1, none⟩ = some (.slice (some ⟨b_x, o_x, none⟩) na_1 ca_1) ∧ w'.cell? ⟨w.heap.size + 1 + 1, 1, none⟩ = some (.slice (some ⟨b_y, o_y, none⟩) nb_1 cb_1) ∧ w'.cell? ⟨b_x, o_x + k * 6, none⟩ = some (.int .i64 x.kind) ∧ w'.cell? ⟨b_x, o_x + k * 6 + 1, none⟩ = some (.int .i64 x.author) ∧ w'.cell? ⟨b_x, o_x + k * 6 + 2, none⟩ = some (.slice ax_2 nx_2 cx_2) ∧ w'.cell? ⟨b_x, o_x + k * 6 + 3, none⟩ = some (.slice ax_3 nx_3 cx_3) ∧ w'.cell? ⟨b_x, o_x + k * 6 + 4, none⟩ = some (.slice ax_4 nx_4 cx_4) ∧ w'.cell? ⟨b_x, o_x + k * 6 + 5, none⟩ = some (.slice ax_5 nx_5 cx_5) ∧ w'.cell? ⟨b_y, o_y + k * 6, none⟩ = some (.int .i64 y.kind) ∧ w'.cell? ⟨b_y, o_y + k * 6 + 1, none⟩ = some (.int .i64 y.author) ∧ w'.cell? ⟨b_y, o_y + k * 6 + 2, none⟩ = some (.slice ay_2 ny_2 cy_2) ∧ w'.cell? ⟨b_y, o_y + k * 6 + 3, none⟩ = some (.slice ay_3 ny_3 cy_3) ∧ w'.cell? ⟨b_y, o_y + k * 6 + 4, none⟩ = some (.slice ay_4 ny_4 cy_4) ∧ w'.cell? ⟨b_y, o_y + k * 6 + 5, none⟩ = some (.slice ay_5 ny_5 cy_5)) ((refine SOf (fun hbq => ⟨box_at p1_1 hbq, box_at p2_1 hbq, box_at y_x_0 hbq, box_at y_x_1 hbq, box_at y_x_2 hbq, box_at y_x_3 hbq, box_at y_x_4 hbq, box_at y_x_5 hbq, box_at y_y_0 hbq, box_at y_y_1 hbq, box_at y_y_2 hbq, box_at y_y_3 hbq, box_at y_y_4 hbq, box_at y_y_5 hbq⟩) ?_; (repeat (first | exact Below.refl _ _ | assumption | refine Below.drew ?_ | refine Below.alloc ?_ (by first | (simp; done) | (simp; omega)) _ | refine Below.setCell ?_ (by first | (simp; done) | (simp; omega)) _)))) (fail)
      · obtain ⟨V, hV⟩ : ∃ V, V = ((wr.alloc (.cells #[.int .i64 x.kind, .int .i64 x.author, .slice ax_2 nx_2 cx_2, .slice ax_3 nx_3 cx_3, .slice ax_4 nx_4 cx_4, .slice ax_5 nx_5 cx_5] 94)).alloc (.cells #[.int .i64 y.kind, .int .i64 y.author, .slice ay_2 ny_2 cy_2, .slice ay_3 ny_3 cy_3, .slice ay_4 ny_4 cy_4, .slice ay_5 ny_5 cy_5] 94)).drew := ⟨_, rfl⟩
        rw [← hV]
        have HV : Hid (Below wr.heap.size wr V) := by unfold Hid; rw [hV]; (repeat (first | exact Below.refl _ _ | assumption | refine Below.drew ?_ | refine Below.alloc ?_ (by first | (simp; done) | (simp; omega)) _ | refine Below.setCell ?_ (by first | (simp; done) | (simp; omega)) _))
        have fx0 : V.cell? ⟨wr.heap.size, 0, none⟩ = some (.int .i64 x.kind) := by rw [hV]; simp [go_sem]
        have fx1 : V.cell? ⟨wr.heap.size, 1, none⟩ = some (.int .i64 x.author) := by rw [hV]; simp [go_sem]
        have fx2 : V.cell? ⟨wr.heap.size, 2, none⟩ = some (.slice ax_2 nx_2 cx_2) := by rw [hV]; simp [go_sem]
        have fx3 : V.cell? ⟨wr.heap.size, 3, none⟩ = some (.slice ax_3 nx_3 cx_3) := by rw [hV]; simp [go_sem]
        have fx4 : V.cell? ⟨wr.heap.size, 4, none⟩ = some (.slice ax_4 nx_4 cx_4) := by rw [hV]; simp [go_sem]
        have fx5 : V.cell? ⟨wr.heap.size, 5, none⟩ = some (.slice ax_5 nx_5 cx_5) := by rw [hV]; simp [go_sem]
        have fy0 : V.cell? ⟨wr.heap.size + 1, 0, none⟩ = some (.int .i64 y.kind) := by rw [hV]; simp [go_sem]
        have fy1 : V.cell? ⟨wr.heap.size + 1, 1, none⟩ = some (.int .i64 y.author) := by rw [hV]; simp [go_sem]
        have fy2 : V.cell? ⟨wr.heap.size + 1, 2, none⟩ = some (.slice ay_2 ny_2 cy_2) := by rw [hV]; simp [go_sem]
        have fy3 : V.cell? ⟨wr.heap.size + 1, 3, none⟩ = some (.slice ay_3 ny_3 cy_3) := by rw [hV]; simp [go_sem]
        have fy4 : V.cell? ⟨wr.heap.size + 1, 4, none⟩ = some (.slice ay_4 ny_4 cy_4) := by rw [hV]; simp [go_sem]
        have fy5 : V.cell? ⟨wr.heap.size + 1, 5, none⟩ = some (.slice ay_5 ny_5 cy_5) := by rw [hV]; simp [go_sem]
        clear hV
        have HBV := Lib.hid (Below.next HBR.out HV.out)
        have QX := Lib.hid ((sInts.rd_below F_x_data.out HV.out))
        have QY := Lib.hid ((sInts.rd_below F_y_data.out HV.out))
        have PX := Lib.hid ((kS rProof).rd_below F_x_sign.out HV.out)
        have PY := Lib.hid ((kS rProof).rd_below F_y_sign.out HV.out)
        rcases chR4 q5 q6 q7 q8 with rfl | ⟨rfl, rfl⟩ | ⟨rfl, rfl, rfl⟩ | ⟨rfl, rfl, rfl, rfl⟩ | ⟨rfl, rfl, rfl, rfl⟩
        all_goals
          have e1 := bneR H5.out
          have e2 := bneR H6.out
          go_wp2_with (first
            | (go_at_call 116; refine (slices_Equal _ _ x.data y.data _ QX.out QY.out).mono ?_; rintro e w1 ⟨rfl, m1, rfl⟩; rw [H7.out])
            | fail)
          try (
            refine (impl_sameProof _ x.sign _ y.sign _ ((kS rProof).rd_below PX.out (below_drewN (Below.refl _ _) _)) ((kS rProof).rd_below PY.out (below_drewN (Below.refl _ _) _))).mono ?_
            rintro e w2 ⟨rfl, hb2⟩
            rw [H8.out]
            have HB2 := Lib.hid (Below.next HBV.out ((below_drewN (Below.refl _ _) _).trans hb2)); clear hb2
            go_wp2_with fail)
        rotate_right
        · have HKE : Hid (cmpE a.entries b.entries k = true) := by unfold Hid; rw [HCE.out]; rfl
          go_roundg (N - (k + 1))
          case measure => omega
          case rel =>
            refine ⟨k + 1, by omega, by go_num, fun j hj => ?_, HB2.out⟩
            rcases Nat.lt_succ_iff_lt_or_eq.1 hj with h | rfl
            · exact HF.out j h
            · exact HKE.out
        all_goals
          have HKE : Hid (crRes a.entries b.entries = (3, (k : Int))) := crRes_at (by have := HLA.out; have := HLB.out; omega) HF.out HCE.out
          go_ret3
          rw [HKE.out]
          first
            | exact ⟨rfl, Below.next HWB.out HBV.out⟩
            | exact ⟨rfl, Below.next HWB.out (Below.next HBV.out (below_drewN (Below.refl _ _) _))⟩
            | exact ⟨rfl, Below.next HWB.out HB2.out⟩
            | fail
      · obtain ⟨V, hV⟩ : ∃ V, V = ((wr.alloc (.cells #[.int .i64 y.kind, .int .i64 y.author, .slice ay_2 ny_2 cy_2, .slice ay_3 ny_3 cy_3, .slice ay_4 ny_4 cy_4, .slice ay_5 ny_5 cy_5] 94)).alloc (.cells #[.int .i64 x.kind, .int .i64 x.author, .slice ax_2 nx_2 cx_2, .slice ax_3 nx_3 cx_3, .slice ax_4 nx_4 cx_4, .slice ax_5 nx_5 cx_5] 94)).drew := ⟨_, rfl⟩
        rw [← hV]
        have HV : Hid (Below wr.heap.size wr V) := by unfold Hid; rw [hV]; (repeat (first | exact Below.refl _ _ | assumption | refine Below.drew ?_ | refine Below.alloc ?_ (by first | (simp; done) | (simp; omega)) _ | refine Below.setCell ?_ (by first | (simp; done) | (simp; omega)) _))
        have fx0 : V.cell? ⟨wr.heap.size + 1, 0, none⟩ = some (.int .i64 x.kind) := by rw [hV]; simp [go_sem]
        have fx1 : V.cell? ⟨wr.heap.size + 1, 1, none⟩ = some (.int .i64 x.author) := by rw [hV]; simp [go_sem]
        have fx2 : V.cell? ⟨wr.heap.size + 1, 2, none⟩ = some (.slice ax_2 nx_2 cx_2) := by rw [hV]; simp [go_sem]
        have fx3 : V.cell? ⟨wr.heap.size + 1, 3, none⟩ = some (.slice ax_3 nx_3 cx_3) := by rw [hV]; simp [go_sem]
        have fx4 : V.cell? ⟨wr.heap.size + 1, 4, none⟩ = some (.slice ax_4 nx_4 cx_4) := by rw [hV]; simp [go_sem]
        have fx5 : V.cell? ⟨wr.heap.size + 1, 5, none⟩ = some (.slice ax_5 nx_5 cx_5) := by rw [hV]; simp [go_sem]
        have fy0 : V.cell? ⟨wr.heap.size, 0, none⟩ = some (.int .i64 y.kind) := by rw [hV]; simp [go_sem]
        have fy1 : V.cell? ⟨wr.heap.size, 1, none⟩ = some (.int .i64 y.author) := by rw [hV]; simp [go_sem]
        have fy2 : V.cell? ⟨wr.heap.size, 2, none⟩ = some (.slice ay_2 ny_2 cy_2) := by rw [hV]; simp [go_sem]
        have fy3 : V.cell? ⟨wr.heap.size, 3, none⟩ = some (.slice ay_3 ny_3 cy_3) := by rw [hV]; simp [go_sem]
        have fy4 : V.cell? ⟨wr.heap.size, 4, none⟩ = some (.slice ay_4 ny_4 cy_4) := by rw [hV]; simp [go_sem]
        have fy5 : V.cell? ⟨wr.heap.size, 5, none⟩ = some (.slice ay_5 ny_5 cy_5) := by rw [hV]; simp [go_sem]
        clear hV
        have HBV := Lib.hid (Below.next HBR.out HV.out)
        have QX := Lib.hid ((sInts.rd_below F_x_data.out HV.out))
        have QY := Lib.hid ((sInts.rd_below F_y_data.out HV.out))
        have PX := Lib.hid ((kS rProof).rd_below F_x_sign.out HV.out)
        have PY := Lib.hid ((kS rProof).rd_below F_y_sign.out HV.out)
        rcases chR4 q5 q6 q7 q8 with rfl | ⟨rfl, rfl⟩ | ⟨rfl, rfl, rfl⟩ | ⟨rfl, rfl, rfl, rfl⟩ | ⟨rfl, rfl, rfl, rfl⟩
        all_goals
          have e1 := bneR H5.out
          have e2 := bneR H6.out
          go_wp2_with (first
            | (go_at_call 116; refine (slices_Equal _ _ x.data y.data _ QX.out QY.out).mono ?_; rintro e w1 ⟨rfl, m1, rfl⟩; rw [H7.out])
            | fail)
          try (
            refine (impl_sameProof _ x.sign _ y.sign _ ((kS rProof).rd_below PX.out (below_drewN (Below.refl _ _) _)) ((kS rProof).rd_below PY.out (below_drewN (Below.refl _ _) _))).mono ?_
            rintro e w2 ⟨rfl, hb2⟩
            rw [H8.out]
            have HB2 := Lib.hid (Below.next HBV.out ((below_drewN (Below.refl _ _) _).trans hb2)); clear hb2
            go_wp2_with fail)
        rotate_right
        · have HKE : Hid (cmpE a.entries b.entries k = true) := by unfold Hid; rw [HCE.out]; rfl
          go_roundg (N - (k + 1))
          case measure => omega
          case rel =>
            refine ⟨k + 1, by omega, by go_num, fun j hj => ?_, HB2.out⟩
            rcases Nat.lt_succ_iff_lt_or_eq.1 hj with h | rfl
            · exact HF.out j h
            · exact HKE.out
        all_goals
          have HKE : Hid (crRes a.entries b.entries = (3, (k : Int))) := crRes_at (by have := HLA.out; have := HLB.out; omega) HF.out HCE.out
          go_ret3
          rw [HKE.out]
          first
            | exact ⟨rfl, Below.next HWB.out HBV.out⟩
            | exact ⟨rfl, Below.next HWB.out (Below.next HBV.out (below_drewN (Below.refl _ _) _))⟩
            | exact ⟨rfl, Below.next HWB.out HB2.out⟩
            | fail
    · obtain rfl : N = k := by omega
      have HEN := Lib.hid (crRes_end HN.out HF.out)
      have HBR := Lib.hid hb; clear hb
      by_cases hc1 : N < na_1
      · go_wp2_with fail
        go_ret3
        rw [HEN.out, if_pos (by have := HLA.out; omega)]
        exact ⟨rfl, Below.next HWB.out HBR.out⟩
      · by_cases hc2 : N < nb_1
        · go_wp2_with fail
          go_ret3
          rw [HEN.out, if_neg (by have := HLA.out; omega), if_pos (by have := HLB.out; omega)]
          exact ⟨rfl, Below.next HWB.out HBR.out⟩
        · go_wp2_with fail
          go_ret3
          rw [HEN.out, if_neg (by have := HLA.out; omega), if_neg (by have := HLB.out; omega)]
          exact ⟨rfl, Below.next HWB.out HBR.out⟩
set_option maxRecDepth 100000 in
set_option maxHeartbeats 4000000 in
theorem impl_CompareReplicas (gr : GroupD) (v1 : Value) (a : BoardD) (v2 : Value) (b : BoardD) (w : World) (hz1 : (szBoard a : Int) ≤ 1000000000) (h1 : (kS rBoard).rd w v1 a) (hz2 : (szBoard b : Int) ≤ 1000000000) (h2 : (kS rBoard).rd w v2 b) :
    Calls Try.prog 72 #[.agg #[.int .i64 gr.p, .int .i64 gr.q, .int .i64 gr.g], v1, v2] w fun e w' => e = .returned (.tuple #[.int .i64 (crI gr a b), .int .i64 (crJ gr a b), .bool (crB gr a b)]) ∧ Below w.heap.size w w' := by
  clear hz1 hz2
  cases hq : crB gr a b with
  | true =>
    have e1 : crI gr a b = (crRes a.entries b.entries).1 := by unfold crI; rw [if_pos hq]
    have e2 : crJ gr a b = (crRes a.entries b.entries).2 := by unfold crJ; rw [if_pos hq]
    unfold crB at hq
    rw [Bool.and_eq_true, Bool.and_eq_true] at hq
    rw [e1, e2]
    exact impl_CompareReplicas_loop gr v1 a v2 b w h1 h2 hq.1 hq.2.1 hq.2.2 _ rfl
  | false =>
    have e1 : crI gr a b = 0 := by unfold crI; rw [if_neg (by rw [hq]; simp)]
    have e2 : crJ gr a b = 0 := by unfold crJ; rw [if_neg (by rw [hq]; simp)]
    rw [e1, e2]
    clear e1 e2
    unfold crB at hq
    (obtain ⟨q1, h_q⟩ : ∃ b_q, vbR gr a = b_q := ⟨_, rfl⟩); have H1 := Lib.hid h_q; clear h_q
    (obtain ⟨q2, h_q⟩ : ∃ b_q, vbR gr b = b_q := ⟨_, rfl⟩); have H2 := Lib.hid h_q; clear h_q
    (obtain ⟨q3, h_q⟩ : ∃ b_q, decide (a.keys = b.keys) = b_q := ⟨_, rfl⟩); have H3 := Lib.hid h_q; clear h_q
    rw [H1.out, H2.out, H3.out] at hq
    obtain ⟨aa_0, na_0, ca_0, aa_1, na_1, ca_1, rfl, ka_0, ka_1⟩ := rdBoard.1 h1
    obtain ⟨ab_0, nb_0, cb_0, ab_1, nb_1, cb_1, rfl, kb_0, kb_1⟩ := rdBoard.1 h2
    obtain ⟨W, hW⟩ : ∃ W, W = (((w.alloc (.cells #[.int .i64 gr.p, .int .i64 gr.q, .int .i64 gr.g] 88)).alloc (.cells #[.slice aa_0 na_0 ca_0, .slice aa_1 na_1 ca_1] 119)).alloc (.cells #[.slice ab_0 nb_0 cb_0, .slice ab_1 nb_1 cb_1] 119)) := ⟨_, rfl⟩
    have HWB : Hid (Below w.heap.size w W) := by unfold Hid; rw [hW]; (repeat (first | exact Below.refl _ _ | assumption | refine Below.drew ?_ | refine Below.alloc ?_ (by first | (simp; done) | (simp; omega)) _ | refine Below.setCell ?_ (by first | (simp; done) | (simp; omega)) _))
    have FX : Hid (∀ W', Below W.heap.size W W' → W'.cell? ⟨w.heap.size, 0, none⟩ = some (.int .i64 gr.p) ∧ W'.cell? ⟨w.heap.size, 1, none⟩ = some (.int .i64 gr.q) ∧ W'.cell? ⟨w.heap.size, 2, none⟩ = some (.int .i64 gr.g) ∧ W'.cell? ⟨w.heap.size + 1, 0, none⟩ = some (.slice aa_0 na_0 ca_0) ∧ W'.cell? ⟨w.heap.size + 1, 1, none⟩ = some (.slice aa_1 na_1 ca_1) ∧ W'.cell? ⟨w.heap.size + 1 + 1, 0, none⟩ = some (.slice ab_0 nb_0 cb_0) ∧ W'.cell? ⟨w.heap.size + 1 + 1, 1, none⟩ = some (.slice ab_1 nb_1 cb_1)) := fun W' hb => by
      exact ⟨box_at (by rw [hW]; simp [go_sem]) hb, box_at (by rw [hW]; simp [go_sem]) hb, box_at (by rw [hW]; simp [go_sem]) hb, box_at (by rw [hW]; simp [go_sem]) hb, box_at (by rw [hW]; simp [go_sem]) hb, box_at (by rw [hW]; simp [go_sem]) hb, box_at (by rw [hW]; simp [go_sem]) hb⟩
    have hsW : W.heap.size = w.heap.size + 3 := by rw [hW]; simp
    have Ha := Lib.hid ((kS rBoard).rd_below h1 HWB.out); clear h1
    have F_a_keys := Lib.hid (sInts.rd_below ka_0 HWB.out)
    have F_a_entries := Lib.hid ((kR 94 rEntry).rd_below ka_1 HWB.out)
    clear ka_0 ka_1
    have Hb := Lib.hid ((kS rBoard).rd_below h2 HWB.out); clear h2
    have F_b_keys := Lib.hid (sInts.rd_below kb_0 HWB.out)
    have F_b_entries := Lib.hid ((kR 94 rEntry).rd_below kb_1 HWB.out)
    clear kb_0 kb_1
    have HW := Lib.hid hW; clear hW
    go_enter Try.func72, Try.ntmps72
    go_wp2_with fail
    rw [← HW.out]
    have hcum : Below W.heap.size W W := Below.refl _ _
    obtain ⟨p0_0, p0_1, p0_2, p1_0, p1_1, p2_0, p2_1⟩ := FX.out _ hcum
    refine (impl_areBoard gr a _ _ ((kS rBoard).rd_below Ha.out hcum)).mono ?_
    rintro e w1 ⟨rfl, hb1⟩
    rw [H1.out]
    (replace hcum := hcum.trans (hb1.mono hcum.size)); clear hb1; clear p0_0 p0_1 p0_2 p1_0 p1_1 p2_0 p2_1; obtain ⟨p0_0, p0_1, p0_2, p1_0, p1_1, p2_0, p2_1⟩ := FX.out _ hcum
    have HC := Lib.hid hcum
    cases q1 with
    | false =>
      go_wp2_with fail
      go_ret3
      exact ⟨rfl, Below.next HWB.out hcum⟩
    | true =>
      go_wp2_with fail
      refine (impl_areBoard gr b _ _ ((kS rBoard).rd_below Hb.out HC.out)).mono ?_
      rintro e w2 ⟨rfl, hb2⟩
      rw [H2.out]
      (replace hcum := hcum.trans (hb2.mono hcum.size)); clear hb2; clear p0_0 p0_1 p0_2 p1_0 p1_1 p2_0 p2_1; obtain ⟨p0_0, p0_1, p0_2, p1_0, p1_1, p2_0, p2_1⟩ := FX.out _ hcum
      have HC2 := Lib.hid hcum
      cases q2 with
      | false =>
        go_wp2_with fail
        go_ret3
        exact ⟨rfl, Below.next HWB.out hcum⟩
      | true =>
        obtain rfl : q3 = false := by simpa using hq
        clear hq
        go_wp2_with fail
        refine (slices_Equal _ _ a.keys b.keys _ (sInts.rd_below F_a_keys.out HC2.out) (sInts.rd_below F_b_keys.out HC2.out)).mono ?_
        rintro e w3 ⟨rfl, m3, rfl⟩
        rw [H3.out]
        go_wp2_with fail
        go_ret3
        exact ⟨rfl, Below.next HWB.out (Below.next HC2.out (below_drewN (Below.refl _ _) _))⟩
end Go.Proofs.Ytapfceghgkmgoaa
