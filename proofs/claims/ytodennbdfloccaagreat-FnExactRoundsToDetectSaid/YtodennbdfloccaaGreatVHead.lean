/- Walks: signed heads. -/
import Derived.Test.YtodennbdfloccaaGreatGrp8
import Derived.Test.YtodennbdfloccaaGreatBa
import Derived.Test.YtodennbdfloccaaGreatHeads
namespace Go.Proofs.YtodennbdfloccaaGreat
open Go.RowKit
set_option linter.unusedSimpArgs false
set_option linter.unusedVariables false

/-- the label of a signature -/
def sgLabel (s : ByteArray) (d : Int) : ByteArray := s ++ dText d
theorem sgLabel_size (s : ByteArray) (d : Int) : (sgLabel s d).size = s.size + 16 := by
  unfold sgLabel; rw [ByteArray.size_append, dText_size]
theorem impl_signLabel (s : ByteArray) (d : Int) (w : World) (hd : digestB d = true) (hs : s.size ≤ 1000) :
    Calls Tryz.prog 143 #[.string s, .int .i64 d] w fun e w' => e = .returned (.string (sgLabel s d)) ∧ Below w.heap.size w w' := by
  have HD := Lib.hid hd; clear hd
  have HS : Hid (s ++ dText d = sgLabel s d) := rfl
  go_enter Tryz.func143, Tryz.ntmps143
  go_wp2_with fail
  refine (impl_DigestText d _ HD.out).mono ?_
  rintro e w1 ⟨rfl, hb⟩
  have hsz : s.size + (dText d).size ≤ 9223372036854775807 := by rw [dText_size]; omega
  go_wp2_with fail
  go_ret
  exact ⟨by rw [← HS.out]; rfl, hb⟩
theorem spec_oText (d : Int) (w : World) (hd : digestB d = true) :
    Calls Tryz.prog 139 #[.int .i64 d] w fun e w' => e = .returned (.string (dText d)) ∧ Below w.heap.size w w' := by
  have HD := Lib.hid hd; clear hd
  go_enter Tryz.func139, Tryz.ntmps139
  go_wp2_with fail
  refine (spec_DigestText d _ HD.out).mono ?_
  rintro e w1 ⟨rfl, hb⟩
  go_wp2_with fail
  go_ret
  exact ⟨rfl, hb⟩
attribute [irreducible] sgLabel
def sHead : ByteArray := ⟨#[104, 101, 97, 100]⟩
def sHeadSp : ByteArray := ⟨#[104, 101, 97, 100, 32]⟩
def hdD (a s r : Int) : Int := hashOf (lab sHead ++ [a, s, r])
def hdLabel (a s r : Int) : ByteArray := sgLabel sHeadSp (hdD a s r)
theorem hdD_digest (a s r : Int) : digestB (hdD a s r) = true := digestB_hash _
theorem hdLabel_size (a s r : Int) : (hdLabel a s r).size = 21 := by unfold hdLabel; rw [sgLabel_size]; rfl
attribute [irreducible] hdLabel
theorem headI_parts {a s r : Int} (h : headI a s r = true) : (0 ≤ a ∧ a ≤ 39) ∧ (0 ≤ s ∧ s ≤ 64) ∧ digestB r = true := by
  unfold headI at h; simpa using h
theorem headI_all {a s r : Int} (h : headI a s r = true) : [a, s, r].all digestB = true := by
  obtain ⟨h1, h2, h3⟩ := headI_parts h
  have e1 : digestB a = true := by simp [digestB]; omega
  have e2 : digestB s = true := by simp [digestB]; omega
  simp [e1, e2, h3]
theorem headI_lab {a s r : Int} (h : headI a s r = true) : labelledB sHead [a, s, r] = true ∧ labelledI sHead [a, s, r] = hdD a s r := by
  have h1 : labelledB sHead [a, s, r] = true := by
    unfold labelledB hashable
    rw [List.all_append, headI_all h, lab_all _ (by decide), List.length_append, lab_length]
    simp [sHead]; decide
  exact ⟨h1, by unfold labelledI; rw [if_pos h1]; rfl⟩
set_option maxHeartbeats 1000000 in
theorem impl_headLabel (a s r : Int) (w : World) (h : headI a s r = true) :
    Calls Tryz.prog 116 #[.int .i64 a, .int .i64 s, .int .i64 r] w fun e w' => e = .returned (.string (hdLabel a s r)) ∧ Below w.heap.size w w' := by
  obtain ⟨⟨h1, h2⟩, ⟨h3, h4⟩, h5⟩ := headI_parts h
  obtain ⟨l1, l2⟩ := headI_lab h
  have L1 := Lib.hid l1; have L2 := Lib.hid l2
  have HDG := Lib.hid (hdD_digest a s r)
  have HLB : Hid (sgLabel sHeadSp (hdD a s r) = hdLabel a s r) := by unfold Hid hdLabel; rfl
  have hr : I64 r := digest_I64 h5
  obtain ⟨r1, r2⟩ := hr
  clear h h5 l1 l2
  go_enter Tryz.func116, Tryz.ntmps116
  go_wp2_with fail
  refine (impl_HashLabelled sHead _ [a, s, r] _ (Ints.lit3 (B := w.heap.size) _ (Nat.le_refl _) rfl ⟨by omega, by omega⟩ ⟨by omega, by omega⟩ ⟨by omega, by omega⟩).ints (by decide) (by simp)).mono ?_
  rintro e w1 ⟨rfl, hb⟩
  rw [L1.out, L2.out]
  have HB : Hid (Below w.heap.size w w1) := ((Below.refl _ _).alloc (Nat.le_refl _) _).trans (hb.mono (by simp))
  clear hb
  generalize hdD a s r = d at HDG HLB ⊢
  go_wp2_with fail
  refine (impl_signLabel sHeadSp d _ HDG.out (by decide)).mono ?_
  rintro e w2 ⟨rfl, hb2⟩
  rw [HLB.out]
  have HB2 := Lib.hid (Below.next HB.out hb2)
  clear hb2
  go_wp2_with fail
  go_ret
  exact ⟨rfl, HB2.out⟩
set_option maxRecDepth 100000 in
set_option maxHeartbeats 1000000 in
theorem spec_oHeadLabel (v : Value) (d : HeadD) (w : World) (h : (kS rHead).rd w v d) (hh : headB d = true) :
    Calls Tryz.prog 107 #[v] w fun e w' => e = .returned (.string (hdLabel d.author d.size d.root)) ∧ Below w.heap.size w w' := by
  obtain ⟨⟨h1, h2⟩, ⟨h3, h4⟩, h5⟩ := headI_parts hh
  have HAL := Lib.hid (headI_all hh)
  have HDG := Lib.hid (hdD_digest d.author d.size d.root)
  have HLB : Hid (sHeadSp ++ dText (hdD d.author d.size d.root) = hdLabel d.author d.size d.root) := by unfold Hid hdLabel sgLabel; rfl
  have HHD : Hid (hashOf (lab sHead ++ [d.author, d.size, d.root]) = hdD d.author d.size d.root) := rfl
  have hr : I64 d.root := digest_I64 h5
  obtain ⟨r1, r2⟩ := hr
  clear hh h5
  obtain ⟨ad_3, nd_3, cd_3, ad_4, nd_4, cd_4, ad_5, nd_5, cd_5, rfl, jd_0, jd_1, jd_2, kd_3, kd_4, kd_5⟩ := rdHead.1 h
  obtain ⟨W, hW⟩ : ∃ W, W = (w.alloc (.cells #[.int .i64 d.author, .int .i64 d.size, .int .i64 d.root, .slice ad_3 nd_3 cd_3, .slice ad_4 nd_4 cd_4, .slice ad_5 nd_5 cd_5] 44)) := ⟨_, rfl⟩
  have HWB : Hid (Below w.heap.size w W) := by unfold Hid; rw [hW]; (repeat (first | exact Below.refl _ _ | assumption | refine Below.drew ?_ | refine Below.alloc ?_ (by first | (simp; done) | (simp; omega)) _ | refine Below.setCell ?_ (by first | (simp; done) | (simp; omega)) _))
  have FX : Hid (∀ W', Below W.heap.size W W' → W'.cell? ⟨w.heap.size, 0, none⟩ = some (.int .i64 d.author) ∧ W'.cell? ⟨w.heap.size, 1, none⟩ = some (.int .i64 d.size) ∧ W'.cell? ⟨w.heap.size, 2, none⟩ = some (.int .i64 d.root) ∧ W'.cell? ⟨w.heap.size, 3, none⟩ = some (.slice ad_3 nd_3 cd_3) ∧ W'.cell? ⟨w.heap.size, 4, none⟩ = some (.slice ad_4 nd_4 cd_4) ∧ W'.cell? ⟨w.heap.size, 5, none⟩ = some (.slice ad_5 nd_5 cd_5)) := fun W' hb => by
    exact ⟨box_at (by rw [hW]; simp [go_sem]) hb, box_at (by rw [hW]; simp [go_sem]) hb, box_at (by rw [hW]; simp [go_sem]) hb, box_at (by rw [hW]; simp [go_sem]) hb, box_at (by rw [hW]; simp [go_sem]) hb, box_at (by rw [hW]; simp [go_sem]) hb⟩
  have hsW : W.heap.size = w.heap.size + 1 := by rw [hW]; simp
  have Hd := Lib.hid ((kS rHead).rd_below h HWB.out); clear h
  have Jd_0 := Lib.hid jd_0; clear jd_0
  have Jd_1 := Lib.hid jd_1; clear jd_1
  have Jd_2 := Lib.hid jd_2; clear jd_2
  have F_d_sign := Lib.hid ((kS rProof).rd_below (w := w) (rdProof.2 ⟨_, _, _, _, _, _, _, _, _, rfl, kd_3, kd_4, kd_5⟩ : (kS rProof).rd w (.agg #[.slice ad_3 nd_3 cd_3, .slice ad_4 nd_4 cd_4, .slice ad_5 nd_5 cd_5]) d.sign) HWB.out)
  clear kd_3 kd_4 kd_5
  have HW := Lib.hid hW; clear hW
  go_enter Tryz.func107, Tryz.ntmps107
  go_wp2_with fail
  rw [← HW.out]
  have hcum : Below W.heap.size W W := Below.refl _ _
  obtain ⟨p0_0, p0_1, p0_2, p0_3, p0_4, p0_5⟩ := FX.out _ hcum
  refine (spec_hLabelled sHead _ [d.author, d.size, d.root] _ (Ints.lit3 (B := W.heap.size) W (Nat.le_refl _) (by omega) ⟨by omega, by omega⟩ ⟨by omega, by omega⟩ ⟨by omega, by omega⟩).ints (by decide) (by simp) HAL.out).mono ?_
  rintro e w1 ⟨rfl, hb⟩
  rw [HHD.out]
  have HB : Hid (Below W.heap.size W w1) := ((Below.refl _ _).alloc (Nat.le_refl _) _).trans (hb.mono (by simp))
  clear hb
  generalize hdD d.author d.size d.root = D at HDG HLB ⊢
  go_wp2_with fail
  refine (spec_oText D _ HDG.out).mono ?_
  rintro e w2 ⟨rfl, hb2⟩
  have HB2 := Lib.hid (Below.next HB.out hb2)
  have hsz : sHeadSp.size + (dText D).size ≤ 9223372036854775807 := by rw [dText_size]; decide
  unfold sHeadSp at hsz
  clear hb2
  go_wp2_with fail
  go_ret
  exact ⟨by rw [← HLB.out]; rfl, Below.next HWB.out HB2.out⟩
theorem Ints.lit1' (w : World) {g : Nat} (hg : g = w.heap.size) {x : Int} (h : I64 x) : Ints (w.alloc (.cells #[.int .i64 x] 3)) (.slice (some ⟨g, 0, none⟩) 1 1) [x] := hg ▸ Ints.lit1 w h
theorem rd1 (W : World) {g : Nat} (hg : g = W.heap.size) {v1 : Value} {l1 : List Int} (h1 : Ints (W.alloc (.cells #[v1] 24)) v1 l1) : RdL kInts (W.alloc (.cells #[v1] 24)) (.slice (some ⟨g, 0, none⟩) 1 1) [l1] := by
  subst hg
  refine ⟨some ⟨W.heap.size, 0, none⟩, 1, 1, rfl, rfl, Nat.le_refl _, by unfold maxLen; omega, .inr (.inr ⟨W.heap.size, 0, rfl, fun i => v1, fun i hi => ?_⟩)⟩
  simp only [List.length_cons, List.length_nil] at hi
  obtain rfl : i = 0 := by omega
  exact ⟨by simp [go_sem], h1⟩
theorem stmt1 {gr : GroupD} (hg : OkG gr) {s : ByteArray} {key : Int} (hs : s.size ≤ 40) (hk : elB gr key = true) : StmtOk gr s [[gr.g]] [key] := by
  refine ⟨hs, by simp, by simp, by simp [headLen], fun r hr => ?_, by simp, fun x hx => ?_⟩
  · simp at hr; subst hr
    refine ⟨rfl, fun x hx => ?_⟩
    simp at hx; subst hx
    have := hg.g1; have := hg.g2; have := hg.p2
    exact ⟨by omega, by omega⟩
  · simp at hx; subst hx; exact elB_small hg hk
set_option maxRecDepth 100000 in
set_option maxHeartbeats 2000000 in
theorem impl_isSigned (gr : GroupD) (s : ByteArray) (key : Int) (v : Value) (d : ProofD) (w : World) (hg : OkG gr) (hs : s.size ≤ 40) (hk : elB gr key = true) (h : (kS rProof).rd w v d) :
    Calls Tryz.prog 115 #[.agg #[.int .i64 gr.p, .int .i64 gr.q, .int .i64 gr.g], .string s, .int .i64 key, v] w fun e w' => e = .returned (.bool (vlB gr s [[gr.g]] [key] d)) ∧ Below w.heap.size w w' := by
  have HG := Lib.hid hg
  have HST := Lib.hid (stmt1 hg hs hk)
  obtain ⟨k0, k1⟩ := elB_small hg hk
  have g1 := hg.g1; have g2 := hg.g2; have p2 := hg.p2
  clear hg hk
  obtain ⟨ad_0, nd_0, cd_0, ad_1, nd_1, cd_1, ad_2, nd_2, cd_2, rfl, kd_0, kd_1, kd_2⟩ := rdProof.1 h
  obtain ⟨W, hW⟩ : ∃ W, W = ((w.alloc (.cells #[.int .i64 gr.p, .int .i64 gr.q, .int .i64 gr.g] 36)).alloc (.cells #[.slice ad_0 nd_0 cd_0, .slice ad_1 nd_1 cd_1, .slice ad_2 nd_2 cd_2] 42)) := ⟨_, rfl⟩
  have HWB : Hid (Below w.heap.size w W) := by unfold Hid; rw [hW]; (repeat (first | exact Below.refl _ _ | assumption | refine Below.drew ?_ | refine Below.alloc ?_ (by first | (simp; done) | (simp; omega)) _ | refine Below.setCell ?_ (by first | (simp; done) | (simp; omega)) _))
  have FX : Hid (∀ W', Below W.heap.size W W' → W'.cell? ⟨w.heap.size, 0, none⟩ = some (.int .i64 gr.p) ∧ W'.cell? ⟨w.heap.size, 1, none⟩ = some (.int .i64 gr.q) ∧ W'.cell? ⟨w.heap.size, 2, none⟩ = some (.int .i64 gr.g) ∧ W'.cell? ⟨w.heap.size + 1, 0, none⟩ = some (.slice ad_0 nd_0 cd_0) ∧ W'.cell? ⟨w.heap.size + 1, 1, none⟩ = some (.slice ad_1 nd_1 cd_1) ∧ W'.cell? ⟨w.heap.size + 1, 2, none⟩ = some (.slice ad_2 nd_2 cd_2)) := fun W' hb => by
    exact ⟨box_at (by rw [hW]; simp [go_sem]) hb, box_at (by rw [hW]; simp [go_sem]) hb, box_at (by rw [hW]; simp [go_sem]) hb, box_at (by rw [hW]; simp [go_sem]) hb, box_at (by rw [hW]; simp [go_sem]) hb, box_at (by rw [hW]; simp [go_sem]) hb⟩
  have hsW : W.heap.size = w.heap.size + 2 := by rw [hW]; simp
  have Hd := Lib.hid ((kS rProof).rd_below h HWB.out); clear h
  have F_d_c := Lib.hid (sInts.rd_below kd_0 HWB.out)
  have F_d_h := Lib.hid (sInts.rd_below kd_1 HWB.out)
  have F_d_r := Lib.hid (sInts.rd_below kd_2 HWB.out)
  clear kd_0 kd_1 kd_2
  have HW := Lib.hid hW; clear hW
  obtain ⟨p, q, g⟩ := gr
  simp only [] at g1 g2 p2
  go_enter Tryz.func115, Tryz.ntmps115
  go_wp2_with fail
  rw [← HW.out]
  have hcum : Below W.heap.size W W := Below.refl _ _
  obtain ⟨p0_0, p0_1, p0_2, p1_0, p1_1, p1_2⟩ := FX.out _ hcum
  refine (impl_verifyLinear ⟨p, q, g⟩ s _ [[g]] _ [key] _ d _ HG.out ?_ ?_ ?_ HST.out).mono ?_
  · refine kRows.rd_below (rd1 (W.alloc (.cells #[.int .i64 g] 3)) (by simp; omega) ?_) ((Below.refl _ _).alloc (Nat.le_refl _) _)
    exact (Ints.lit1' W (by omega) ⟨by omega, by omega⟩).alloc _
  · exact Ints.lit1' _ (by simp; omega) ⟨by omega, by omega⟩
  · exact (kS rProof).rd_below Hd.out (by (repeat (first | exact Below.refl _ _ | assumption | refine Below.drew ?_ | refine Below.alloc ?_ (by first | (simp; done) | (simp; omega)) _ | refine Below.setCell ?_ (by first | (simp; done) | (simp; omega)) _)))
  · rintro e w1 ⟨rfl, hb⟩
    have HB : Hid (Below W.heap.size W w1) := (by (repeat (first | exact Below.refl _ _ | assumption | refine Below.drew ?_ | refine Below.alloc ?_ (by first | (simp; done) | (simp; omega)) _ | refine Below.setCell ?_ (by first | (simp; done) | (simp; omega)) _)) : Below W.heap.size W (((W.alloc (.cells #[.int .i64 g] 3)).alloc _).alloc _)).trans (hb.mono (by simp; omega))
    go_wp2_with fail
    go_ret
    exact ⟨rfl, Below.next HWB.out HB.out⟩
set_option maxRecDepth 100000 in
set_option maxHeartbeats 2000000 in
theorem spec_oSigned (gr : GroupD) (s : ByteArray) (key : Int) (v : Value) (d : ProofD) (w : World) (hg : OkG gr) (hs : s.size ≤ 40) (hk : elB gr key = true) (h : (kS rProof).rd w v d) :
    Calls Tryz.prog 105 #[.agg #[.int .i64 gr.p, .int .i64 gr.q, .int .i64 gr.g], .string s, .int .i64 key, v] w fun e w' => e = .returned (.bool (vlB gr s [[gr.g]] [key] d)) ∧ Below w.heap.size w w' := by
  have HG := Lib.hid hg
  have HST := Lib.hid (stmt1 hg hs hk)
  obtain ⟨k0, k1⟩ := elB_small hg hk
  have g1 := hg.g1; have g2 := hg.g2; have p2 := hg.p2
  clear hg hk
  obtain ⟨ad_0, nd_0, cd_0, ad_1, nd_1, cd_1, ad_2, nd_2, cd_2, rfl, kd_0, kd_1, kd_2⟩ := rdProof.1 h
  obtain ⟨W, hW⟩ : ∃ W, W = ((w.alloc (.cells #[.int .i64 gr.p, .int .i64 gr.q, .int .i64 gr.g] 36)).alloc (.cells #[.slice ad_0 nd_0 cd_0, .slice ad_1 nd_1 cd_1, .slice ad_2 nd_2 cd_2] 42)) := ⟨_, rfl⟩
  have HWB : Hid (Below w.heap.size w W) := by unfold Hid; rw [hW]; (repeat (first | exact Below.refl _ _ | assumption | refine Below.drew ?_ | refine Below.alloc ?_ (by first | (simp; done) | (simp; omega)) _ | refine Below.setCell ?_ (by first | (simp; done) | (simp; omega)) _))
  have FX : Hid (∀ W', Below W.heap.size W W' → W'.cell? ⟨w.heap.size, 0, none⟩ = some (.int .i64 gr.p) ∧ W'.cell? ⟨w.heap.size, 1, none⟩ = some (.int .i64 gr.q) ∧ W'.cell? ⟨w.heap.size, 2, none⟩ = some (.int .i64 gr.g) ∧ W'.cell? ⟨w.heap.size + 1, 0, none⟩ = some (.slice ad_0 nd_0 cd_0) ∧ W'.cell? ⟨w.heap.size + 1, 1, none⟩ = some (.slice ad_1 nd_1 cd_1) ∧ W'.cell? ⟨w.heap.size + 1, 2, none⟩ = some (.slice ad_2 nd_2 cd_2)) := fun W' hb => by
    exact ⟨box_at (by rw [hW]; simp [go_sem]) hb, box_at (by rw [hW]; simp [go_sem]) hb, box_at (by rw [hW]; simp [go_sem]) hb, box_at (by rw [hW]; simp [go_sem]) hb, box_at (by rw [hW]; simp [go_sem]) hb, box_at (by rw [hW]; simp [go_sem]) hb⟩
  have hsW : W.heap.size = w.heap.size + 2 := by rw [hW]; simp
  have Hd := Lib.hid ((kS rProof).rd_below h HWB.out); clear h
  have F_d_c := Lib.hid (sInts.rd_below kd_0 HWB.out)
  have F_d_h := Lib.hid (sInts.rd_below kd_1 HWB.out)
  have F_d_r := Lib.hid (sInts.rd_below kd_2 HWB.out)
  clear kd_0 kd_1 kd_2
  have HW := Lib.hid hW; clear hW
  obtain ⟨p, q, g⟩ := gr
  simp only [] at g1 g2 p2
  go_enter Tryz.func105, Tryz.ntmps105
  go_wp2_with fail
  rw [← HW.out]
  have hcum : Below W.heap.size W W := Below.refl _ _
  obtain ⟨p0_0, p0_1, p0_2, p1_0, p1_1, p1_2⟩ := FX.out _ hcum
  refine (spec_sVerify ⟨p, q, g⟩ s _ [[g]] _ [key] _ d _ HG.out ?_ ?_ ?_ HST.out).mono ?_
  · refine kRows.rd_below (rd1 (W.alloc (.cells #[.int .i64 g] 3)) (by simp; omega) ?_) ((Below.refl _ _).alloc (Nat.le_refl _) _)
    exact (Ints.lit1' W (by omega) ⟨by omega, by omega⟩).alloc _
  · exact Ints.lit1' _ (by simp; omega) ⟨by omega, by omega⟩
  · exact (kS rProof).rd_below Hd.out (by (repeat (first | exact Below.refl _ _ | assumption | refine Below.drew ?_ | refine Below.alloc ?_ (by first | (simp; done) | (simp; omega)) _ | refine Below.setCell ?_ (by first | (simp; done) | (simp; omega)) _)))
  · rintro e w1 ⟨rfl, hb⟩
    have HB : Hid (Below W.heap.size W w1) := (by (repeat (first | exact Below.refl _ _ | assumption | refine Below.drew ?_ | refine Below.alloc ?_ (by first | (simp; done) | (simp; omega)) _ | refine Below.setCell ?_ (by first | (simp; done) | (simp; omega)) _)) : Below W.heap.size W (((W.alloc (.cells #[.int .i64 g] 3)).alloc _).alloc _)).trans (hb.mono (by simp; omega))
    go_wp2_with fail
    go_ret
    exact ⟨rfl, Below.next HWB.out HB.out⟩
/-- a head is plain and its signature right -/
def isHeadB (gr : GroupD) (key : Int) (d : HeadD) : Bool := headB d && vlB gr (hdLabel d.author d.size d.root) [[gr.g]] [key] d.sign
set_option maxRecDepth 100000 in
set_option maxHeartbeats 2000000 in
theorem impl_isHead (gr : GroupD) (key : Int) (v : Value) (d : HeadD) (w : World) (hg : OkG gr) (hk : elB gr key = true) (h : (kS rHead).rd w v d) :
    Calls Tryz.prog 79 #[.agg #[.int .i64 gr.p, .int .i64 gr.q, .int .i64 gr.g], .int .i64 key, v] w fun e w' => e = .returned (.bool (isHeadB gr key d)) ∧ Below w.heap.size w w' := by
  have HG := Lib.hid hg; have HK := Lib.hid hk
  clear hg hk
  (obtain ⟨q1, h_q⟩ : ∃ b_q, headI d.author d.size d.root = b_q := ⟨_, rfl⟩); have H1 := Lib.hid h_q; clear h_q
  obtain ⟨ad_3, nd_3, cd_3, ad_4, nd_4, cd_4, ad_5, nd_5, cd_5, rfl, jd_0, jd_1, jd_2, kd_3, kd_4, kd_5⟩ := rdHead.1 h
  obtain ⟨W, hW⟩ : ∃ W, W = ((w.alloc (.cells #[.int .i64 gr.p, .int .i64 gr.q, .int .i64 gr.g] 36)).alloc (.cells #[.int .i64 d.author, .int .i64 d.size, .int .i64 d.root, .slice ad_3 nd_3 cd_3, .slice ad_4 nd_4 cd_4, .slice ad_5 nd_5 cd_5] 44)) := ⟨_, rfl⟩
  have HWB : Hid (Below w.heap.size w W) := by unfold Hid; rw [hW]; (repeat (first | exact Below.refl _ _ | assumption | refine Below.drew ?_ | refine Below.alloc ?_ (by first | (simp; done) | (simp; omega)) _ | refine Below.setCell ?_ (by first | (simp; done) | (simp; omega)) _))
  have FX : Hid (∀ W', Below W.heap.size W W' → W'.cell? ⟨w.heap.size, 0, none⟩ = some (.int .i64 gr.p) ∧ W'.cell? ⟨w.heap.size, 1, none⟩ = some (.int .i64 gr.q) ∧ W'.cell? ⟨w.heap.size, 2, none⟩ = some (.int .i64 gr.g) ∧ W'.cell? ⟨w.heap.size + 1, 0, none⟩ = some (.int .i64 d.author) ∧ W'.cell? ⟨w.heap.size + 1, 1, none⟩ = some (.int .i64 d.size) ∧ W'.cell? ⟨w.heap.size + 1, 2, none⟩ = some (.int .i64 d.root) ∧ W'.cell? ⟨w.heap.size + 1, 3, none⟩ = some (.slice ad_3 nd_3 cd_3) ∧ W'.cell? ⟨w.heap.size + 1, 4, none⟩ = some (.slice ad_4 nd_4 cd_4) ∧ W'.cell? ⟨w.heap.size + 1, 5, none⟩ = some (.slice ad_5 nd_5 cd_5)) := fun W' hb => by
    exact ⟨box_at (by rw [hW]; simp [go_sem]) hb, box_at (by rw [hW]; simp [go_sem]) hb, box_at (by rw [hW]; simp [go_sem]) hb, box_at (by rw [hW]; simp [go_sem]) hb, box_at (by rw [hW]; simp [go_sem]) hb, box_at (by rw [hW]; simp [go_sem]) hb, box_at (by rw [hW]; simp [go_sem]) hb, box_at (by rw [hW]; simp [go_sem]) hb, box_at (by rw [hW]; simp [go_sem]) hb⟩
  have hsW : W.heap.size = w.heap.size + 2 := by rw [hW]; simp
  have Hd := Lib.hid ((kS rHead).rd_below h HWB.out); clear h
  have Jd_0 := Lib.hid jd_0; clear jd_0
  have Jd_1 := Lib.hid jd_1; clear jd_1
  have Jd_2 := Lib.hid jd_2; clear jd_2
  have F_d_sign := Lib.hid ((kS rProof).rd_below (w := w) (rdProof.2 ⟨_, _, _, _, _, _, _, _, _, rfl, kd_3, kd_4, kd_5⟩ : (kS rProof).rd w (.agg #[.slice ad_3 nd_3 cd_3, .slice ad_4 nd_4 cd_4, .slice ad_5 nd_5 cd_5]) d.sign) HWB.out)
  clear kd_3 kd_4 kd_5
  have HW := Lib.hid hW; clear hW
  cases q1 with
  | false =>
    have HR : Hid (isHeadB gr key d = false) := by unfold Hid isHeadB headB; rw [H1.out]; rfl
    go_enter Tryz.func79, Tryz.ntmps79
    go_wp2_with fail
    rw [← HW.out]
    have hcum : Below W.heap.size W W := Below.refl _ _
    obtain ⟨p0_0, p0_1, p0_2, p1_0, p1_1, p1_2, p1_3, p1_4, p1_5⟩ := FX.out _ hcum
    have g3 := fun u => grow_cell p1_0 u
    have g4 := fun u => grow_cell p1_1 u
    have g5 := fun u => grow_cell p1_2 u
    (refine wp_region_grow (by kernel_rfl) (by kernel_rfl) ?_; (repeat (go_big_quiet_step ((first | (go_at_call 114; refine calls_grow (impl_isPlainHead _ _ _ _) (fun e w' h => ⟨by rw [h.1, H1.out], h.2 ▸ Below.refl _ _⟩)) | fail)))); refine wpQuiet_nil ?_; intro _ hw'; obtain ⟨uq, hw''⟩ := hw'; subst hw''; have hbq := grow_below W uq; generalize grow W uq = wq at hbq ⊢)
    go_wp2_with fail
    go_ret
    exact ⟨ret_bool (by first | (rw [HR.out]; done) | (rw [HR.out]; rfl) | exact HR.out.symm), Below.next HWB.out hbq⟩
  | true =>
    obtain ⟨b, hb⟩ : ∃ b, vlB gr (hdLabel d.author d.size d.root) [[gr.g]] [key] d.sign = b := ⟨_, rfl⟩
    have HVB := Lib.hid hb; clear hb
    have HR : Hid (isHeadB gr key d = b) := by unfold Hid isHeadB headB; rw [H1.out, HVB.out]; rfl
    have HLS : Hid ((hdLabel d.author d.size d.root).size ≤ 40) := by unfold Hid; rw [hdLabel_size]; omega
    go_enter Tryz.func79, Tryz.ntmps79
    go_wp2_with fail
    rw [← HW.out]
    have hcum : Below W.heap.size W W := Below.refl _ _
    obtain ⟨p0_0, p0_1, p0_2, p1_0, p1_1, p1_2, p1_3, p1_4, p1_5⟩ := FX.out _ hcum
    have g0 := fun u => grow_cell p0_0 u
    have g1 := fun u => grow_cell p0_1 u
    have g2 := fun u => grow_cell p0_2 u
    have g3 := fun u => grow_cell p1_0 u
    have g4 := fun u => grow_cell p1_1 u
    have g5 := fun u => grow_cell p1_2 u
    have g6 := fun u => grow_cell p1_3 u
    have g7 := fun u => grow_cell p1_4 u
    have g8 := fun u => grow_cell p1_5 u
    (refine wp_region_grow (by kernel_rfl) (by kernel_rfl) ?_; (repeat (go_big_quiet_step ((first | (go_at_call 114; refine calls_grow (impl_isPlainHead _ _ _ _) (fun e w' h => ⟨by rw [h.1, H1.out], h.2 ▸ Below.refl _ _⟩)) | (go_at_call 116; refine calls_grow (impl_headLabel _ _ _ _ H1.out) (fun e w' h => h)) | (go_at_call 115; refine calls_grow (impl_isSigned gr _ key _ d.sign _ HG.out HLS.out HK.out ((kS rProof).rd_below F_d_sign.out (grow_below _ _))) (fun e w' h => ⟨by rw [h.1, HVB.out], h.2⟩)) | fail)))); refine wpQuiet_nil ?_; intro _ hw'; obtain ⟨uq, hw''⟩ := hw'; subst hw''; have hbq := grow_below W uq; generalize grow W uq = wq at hbq ⊢)
    go_wp2_with fail
    go_ret
    exact ⟨ret_bool (by first | (rw [HR.out]; done) | (rw [HR.out]; rfl) | exact HR.out.symm), Below.next HWB.out hbq⟩
set_option maxRecDepth 100000 in
set_option maxHeartbeats 2000000 in
theorem spec_oHeadBy (gr : GroupD) (key : Int) (v : Value) (d : HeadD) (w : World) (hg : OkG gr) (hk : elB gr key = true) (h : (kS rHead).rd w v d) :
    Calls Tryz.prog 74 #[.agg #[.int .i64 gr.p, .int .i64 gr.q, .int .i64 gr.g], .int .i64 key, v] w fun e w' => e = .returned (.bool (isHeadB gr key d)) ∧ Below w.heap.size w w' := by
  have HG := Lib.hid hg; have HK := Lib.hid hk
  clear hg hk
  (obtain ⟨q1, h_q⟩ : ∃ b_q, headB d = b_q := ⟨_, rfl⟩); have H1 := Lib.hid h_q; clear h_q
  obtain ⟨ad_3, nd_3, cd_3, ad_4, nd_4, cd_4, ad_5, nd_5, cd_5, rfl, jd_0, jd_1, jd_2, kd_3, kd_4, kd_5⟩ := rdHead.1 h
  obtain ⟨W, hW⟩ : ∃ W, W = ((w.alloc (.cells #[.int .i64 gr.p, .int .i64 gr.q, .int .i64 gr.g] 36)).alloc (.cells #[.int .i64 d.author, .int .i64 d.size, .int .i64 d.root, .slice ad_3 nd_3 cd_3, .slice ad_4 nd_4 cd_4, .slice ad_5 nd_5 cd_5] 44)) := ⟨_, rfl⟩
  have HWB : Hid (Below w.heap.size w W) := by unfold Hid; rw [hW]; (repeat (first | exact Below.refl _ _ | assumption | refine Below.drew ?_ | refine Below.alloc ?_ (by first | (simp; done) | (simp; omega)) _ | refine Below.setCell ?_ (by first | (simp; done) | (simp; omega)) _))
  have FX : Hid (∀ W', Below W.heap.size W W' → W'.cell? ⟨w.heap.size, 0, none⟩ = some (.int .i64 gr.p) ∧ W'.cell? ⟨w.heap.size, 1, none⟩ = some (.int .i64 gr.q) ∧ W'.cell? ⟨w.heap.size, 2, none⟩ = some (.int .i64 gr.g) ∧ W'.cell? ⟨w.heap.size + 1, 0, none⟩ = some (.int .i64 d.author) ∧ W'.cell? ⟨w.heap.size + 1, 1, none⟩ = some (.int .i64 d.size) ∧ W'.cell? ⟨w.heap.size + 1, 2, none⟩ = some (.int .i64 d.root) ∧ W'.cell? ⟨w.heap.size + 1, 3, none⟩ = some (.slice ad_3 nd_3 cd_3) ∧ W'.cell? ⟨w.heap.size + 1, 4, none⟩ = some (.slice ad_4 nd_4 cd_4) ∧ W'.cell? ⟨w.heap.size + 1, 5, none⟩ = some (.slice ad_5 nd_5 cd_5)) := fun W' hb => by
    exact ⟨box_at (by rw [hW]; simp [go_sem]) hb, box_at (by rw [hW]; simp [go_sem]) hb, box_at (by rw [hW]; simp [go_sem]) hb, box_at (by rw [hW]; simp [go_sem]) hb, box_at (by rw [hW]; simp [go_sem]) hb, box_at (by rw [hW]; simp [go_sem]) hb, box_at (by rw [hW]; simp [go_sem]) hb, box_at (by rw [hW]; simp [go_sem]) hb, box_at (by rw [hW]; simp [go_sem]) hb⟩
  have hsW : W.heap.size = w.heap.size + 2 := by rw [hW]; simp
  have Hd := Lib.hid ((kS rHead).rd_below h HWB.out); clear h
  have Jd_0 := Lib.hid jd_0; clear jd_0
  have Jd_1 := Lib.hid jd_1; clear jd_1
  have Jd_2 := Lib.hid jd_2; clear jd_2
  have F_d_sign := Lib.hid ((kS rProof).rd_below (w := w) (rdProof.2 ⟨_, _, _, _, _, _, _, _, _, rfl, kd_3, kd_4, kd_5⟩ : (kS rProof).rd w (.agg #[.slice ad_3 nd_3 cd_3, .slice ad_4 nd_4 cd_4, .slice ad_5 nd_5 cd_5]) d.sign) HWB.out)
  clear kd_3 kd_4 kd_5
  have HW := Lib.hid hW; clear hW
  cases q1 with
  | false =>
    have HR : Hid (isHeadB gr key d = false) := by unfold Hid isHeadB; rw [H1.out]; rfl
    go_enter Tryz.func74, Tryz.ntmps74
    go_wp2_with fail
    rw [← HW.out]
    have hcum : Below W.heap.size W W := Below.refl _ _
    obtain ⟨p0_0, p0_1, p0_2, p1_0, p1_1, p1_2, p1_3, p1_4, p1_5⟩ := FX.out _ hcum
    have g0 := fun u => grow_cell p0_0 u
    have g1 := fun u => grow_cell p0_1 u
    have g2 := fun u => grow_cell p0_2 u
    have g3 := fun u => grow_cell p1_0 u
    have g4 := fun u => grow_cell p1_1 u
    have g5 := fun u => grow_cell p1_2 u
    have g6 := fun u => grow_cell p1_3 u
    have g7 := fun u => grow_cell p1_4 u
    have g8 := fun u => grow_cell p1_5 u
    (refine wp_region_grow (by kernel_rfl) (by kernel_rfl) ?_; (repeat (go_big_quiet_step ((first | (go_at_call 83; refine calls_grow (spec_oHead _ d _ ((kS rHead).rd_below Hd.out (grow_below _ _))) (fun e w' h => ⟨by rw [h.1, H1.out], h.2⟩)) | fail)))); refine wpQuiet_nil ?_; intro _ hw'; obtain ⟨uq, hw''⟩ := hw'; subst hw''; have hbq := grow_below W uq; generalize grow W uq = wq at hbq ⊢)
    go_wp2_with fail
    go_ret
    exact ⟨ret_bool (by first | (rw [HR.out]; done) | (rw [HR.out]; rfl) | exact HR.out.symm), Below.next HWB.out hbq⟩
  | true =>
    obtain ⟨b, hb⟩ : ∃ b, vlB gr (hdLabel d.author d.size d.root) [[gr.g]] [key] d.sign = b := ⟨_, rfl⟩
    have HVB := Lib.hid hb; clear hb
    have HR : Hid (isHeadB gr key d = b) := by unfold Hid isHeadB; rw [H1.out, HVB.out]; rfl
    have HLS : Hid ((hdLabel d.author d.size d.root).size ≤ 40) := by unfold Hid; rw [hdLabel_size]; omega
    go_enter Tryz.func74, Tryz.ntmps74
    go_wp2_with fail
    rw [← HW.out]
    have hcum : Below W.heap.size W W := Below.refl _ _
    obtain ⟨p0_0, p0_1, p0_2, p1_0, p1_1, p1_2, p1_3, p1_4, p1_5⟩ := FX.out _ hcum
    have g0 := fun u => grow_cell p0_0 u
    have g1 := fun u => grow_cell p0_1 u
    have g2 := fun u => grow_cell p0_2 u
    have g3 := fun u => grow_cell p1_0 u
    have g4 := fun u => grow_cell p1_1 u
    have g5 := fun u => grow_cell p1_2 u
    have g6 := fun u => grow_cell p1_3 u
    have g7 := fun u => grow_cell p1_4 u
    have g8 := fun u => grow_cell p1_5 u
    (refine wp_region_grow (by kernel_rfl) (by kernel_rfl) ?_; (repeat (go_big_quiet_step ((first | (go_at_call 83; refine calls_grow (spec_oHead _ d _ ((kS rHead).rd_below Hd.out (grow_below _ _))) (fun e w' h => ⟨by rw [h.1, H1.out], h.2⟩)) | (go_at_call 107; refine calls_grow (spec_oHeadLabel _ d _ ((kS rHead).rd_below Hd.out (grow_below _ _)) H1.out) (fun e w' h => h)) | (go_at_call 105; refine calls_grow (spec_oSigned gr _ key _ d.sign _ HG.out HLS.out HK.out ((kS rProof).rd_below F_d_sign.out (grow_below _ _))) (fun e w' h => ⟨by rw [h.1, HVB.out], h.2⟩)) | fail)))); refine wpQuiet_nil ?_; intro _ hw'; obtain ⟨uq, hw''⟩ := hw'; subst hw''; have hbq := grow_below W uq; generalize grow W uq = wq at hbq ⊢)
    go_wp2_with fail
    go_ret
    exact ⟨ret_bool (by first | (rw [HR.out]; done) | (rw [HR.out]; rfl) | exact HR.out.symm), Below.next HWB.out hbq⟩
end Go.Proofs.YtodennbdfloccaaGreat
