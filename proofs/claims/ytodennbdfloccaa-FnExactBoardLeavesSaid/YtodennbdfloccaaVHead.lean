/- Walks: signed heads. -/
import Derived.Test.YtodennbdfloccaaGrp8
import Derived.Test.YtodennbdfloccaaBa
import Derived.Test.YtodennbdfloccaaHeads
namespace Go.Proofs.Ytodennbdfloccaa
open Go.RowKit
set_option linter.unusedSimpArgs false
set_option linter.unusedVariables false

/-- the label of a signature -/
def sgLabel (s : ByteArray) (d : Int) : ByteArray := s ++ dText d
theorem sgLabel_size (s : ByteArray) (d : Int) : (sgLabel s d).size = s.size + 16 := by
  unfold sgLabel; rw [ByteArray.size_append, dText_size]
theorem impl_signLabel (s : ByteArray) (d : Int) (w : World) (hd : digestB d = true) (hs : s.size ≤ 1000) :
    Calls Try.prog 182 #[.string s, .int .i64 d] w fun e w' => e = .returned (.string (sgLabel s d)) ∧ Below w.heap.size w w' := by
  have HD := Lib.hid hd; clear hd
  have HS : Hid (s ++ dText d = sgLabel s d) := rfl
  go_enter Try.func182, Try.ntmps182
  go_wp2_with fail
  refine (impl_DigestText d _ HD.out).mono ?_
  rintro e w1 ⟨rfl, hb⟩
  have hsz : s.size + (dText d).size ≤ 9223372036854775807 := by rw [dText_size]; omega
  go_wp2_with fail
  go_ret
  exact ⟨by rw [← HS.out]; rfl, hb⟩
theorem spec_oText (d : Int) (w : World) (hd : digestB d = true) :
    Calls Try.prog 177 #[.int .i64 d] w fun e w' => e = .returned (.string (dText d)) ∧ Below w.heap.size w w' := by
  have HD := Lib.hid hd; clear hd
  go_enter Try.func177, Try.ntmps177
  go_wp2_with fail
  refine (spec_DigestText d _ HD.out).mono ?_
  rintro e w1 ⟨rfl, hb⟩
  go_wp2_with fail
  go_ret
  exact ⟨rfl, hb⟩
attribute [irreducible] sgLabel
def sHead : ByteArray := ⟨#[104, 101, 97, 100]⟩
def sHeadSp : ByteArray := ⟨#[104, 101, 97, 100, 32]⟩
def hdD (a s r : Int) : Int := hashOf (lab sHead ++ [a, s, r])
def hdLabel (a s r : Int) : ByteArray := sgLabel sHeadSp (hdD a s r)
theorem hdD_digest (a s r : Int) : digestB (hdD a s r) = true := digestB_hash _
theorem hdLabel_size (a s r : Int) : (hdLabel a s r).size = 21 := by unfold hdLabel; rw [sgLabel_size]; rfl
attribute [irreducible] hdLabel
theorem headI_parts {a s r : Int} (h : headI a s r = true) : (0 ≤ a ∧ a ≤ 39) ∧ (0 ≤ s ∧ s ≤ 64) ∧ digestB r = true := by
  unfold headI at h; simpa using h
theorem headI_all {a s r : Int} (h : headI a s r = true) : [a, s, r].all digestB = true := by
  obtain ⟨h1, h2, h3⟩ := headI_parts h
  have e1 : digestB a = true := by simp [digestB]; omega
  have e2 : digestB s = true := by simp [digestB]; omega
  simp [e1, e2, h3]
theorem headI_lab {a s r : Int} (h : headI a s r = true) : labelledB sHead [a, s, r] = true ∧ labelledI sHead [a, s, r] = hdD a s r := by
  have h1 : labelledB sHead [a, s, r] = true := by
    unfold labelledB hashable
    rw [List.all_append, headI_all h, lab_all _ (by decide), List.length_append, lab_length]
    simp [sHead]; decide
  exact ⟨h1, by unfold labelledI; rw [if_pos h1]; rfl⟩
theorem Ints.lit1' (w : World) {g : Nat} (hg : g = w.heap.size) {x : Int} (h : I64 x) : Ints (w.alloc (.cells #[.int .i64 x] 3)) (.slice (some ⟨g, 0, none⟩) 1 1) [x] := hg ▸ Ints.lit1 w h
theorem rd1 (W : World) {g : Nat} (hg : g = W.heap.size) {v1 : Value} {l1 : List Int} (h1 : Ints (W.alloc (.cells #[v1] 24)) v1 l1) : RdL kInts (W.alloc (.cells #[v1] 24)) (.slice (some ⟨g, 0, none⟩) 1 1) [l1] := by
  subst hg
  refine ⟨some ⟨W.heap.size, 0, none⟩, 1, 1, rfl, rfl, Nat.le_refl _, by unfold maxLen; omega, .inr (.inr ⟨W.heap.size, 0, rfl, fun i => v1, fun i hi => ?_⟩)⟩
  simp only [List.length_cons, List.length_nil] at hi
  obtain rfl : i = 0 := by omega
  exact ⟨by simp [go_sem], h1⟩
theorem stmt1 {gr : GroupD} (hg : OkG gr) {s : ByteArray} {key : Int} (hs : s.size ≤ 40) (hk : elB gr key = true) : StmtOk gr s [[gr.g]] [key] := by
  refine ⟨hs, by simp, by simp, by simp [headLen], fun r hr => ?_, by simp, fun x hx => ?_⟩
  · simp at hr; subst hr
    refine ⟨rfl, fun x hx => ?_⟩
    simp at hx; subst hx
    have := hg.g1; have := hg.g2; have := hg.p2
    exact ⟨by omega, by omega⟩
  · simp at hx; subst hx; exact elB_small hg hk
set_option maxRecDepth 100000 in
set_option maxHeartbeats 2000000 in
theorem impl_isSigned (gr : GroupD) (s : ByteArray) (key : Int) (v : Value) (d : ProofD) (w : World) (hg : OkG gr) (hs : s.size ≤ 40) (hk : elB gr key = true) (h : (kS rProof).rd w v d) :
    Calls Try.prog 181 #[.agg #[.int .i64 gr.p, .int .i64 gr.q, .int .i64 gr.g], .string s, .int .i64 key, v] w fun e w' => e = .returned (.bool (vlB gr s [[gr.g]] [key] d)) ∧ Below w.heap.size w w' := by
  have HG := Lib.hid hg
  have HST := Lib.hid (stmt1 hg hs hk)
  obtain ⟨k0, k1⟩ := elB_small hg hk
  have g1 := hg.g1; have g2 := hg.g2; have p2 := hg.p2
  clear hg hk
  obtain ⟨ad_0, nd_0, cd_0, ad_1, nd_1, cd_1, ad_2, nd_2, cd_2, rfl, kd_0, kd_1, kd_2⟩ := rdProof.1 h
  obtain ⟨W, hW⟩ : ∃ W, W = ((w.alloc (.cells #[.int .i64 gr.p, .int .i64 gr.q, .int .i64 gr.g] 31)).alloc (.cells #[.slice ad_0 nd_0 cd_0, .slice ad_1 nd_1 cd_1, .slice ad_2 nd_2 cd_2] 118)) := ⟨_, rfl⟩
  have HWB : Hid (Below w.heap.size w W) := by unfold Hid; rw [hW]; (repeat (first | exact Below.refl _ _ | assumption | refine Below.drew ?_ | refine Below.alloc ?_ (by first | (simp; done) | (simp; omega)) _ | refine Below.setCell ?_ (by first | (simp; done) | (simp; omega)) _))
  have FX : Hid (∀ W', Below W.heap.size W W' → W'.cell? ⟨w.heap.size, 0, none⟩ = some (.int .i64 gr.p) ∧ W'.cell? ⟨w.heap.size, 1, none⟩ = some (.int .i64 gr.q) ∧ W'.cell? ⟨w.heap.size, 2, none⟩ = some (.int .i64 gr.g) ∧ W'.cell? ⟨w.heap.size + 1, 0, none⟩ = some (.slice ad_0 nd_0 cd_0) ∧ W'.cell? ⟨w.heap.size + 1, 1, none⟩ = some (.slice ad_1 nd_1 cd_1) ∧ W'.cell? ⟨w.heap.size + 1, 2, none⟩ = some (.slice ad_2 nd_2 cd_2)) := fun W' hb => by
    exact ⟨box_at (by rw [hW]; simp [go_sem]) hb, box_at (by rw [hW]; simp [go_sem]) hb, box_at (by rw [hW]; simp [go_sem]) hb, box_at (by rw [hW]; simp [go_sem]) hb, box_at (by rw [hW]; simp [go_sem]) hb, box_at (by rw [hW]; simp [go_sem]) hb⟩
  have hsW : W.heap.size = w.heap.size + 2 := by rw [hW]; simp
  have Hd := Lib.hid ((kS rProof).rd_below h HWB.out); clear h
  have F_d_c := Lib.hid (sInts.rd_below kd_0 HWB.out)
  have F_d_h := Lib.hid (sInts.rd_below kd_1 HWB.out)
  have F_d_r := Lib.hid (sInts.rd_below kd_2 HWB.out)
  clear kd_0 kd_1 kd_2
  have HW := Lib.hid hW; clear hW
  obtain ⟨p, q, g⟩ := gr
  simp only [] at g1 g2 p2
  go_enter Try.func181, Try.ntmps181
  go_wp2_with fail
  rw [← HW.out]
  have hcum : Below W.heap.size W W := Below.refl _ _
  obtain ⟨p0_0, p0_1, p0_2, p1_0, p1_1, p1_2⟩ := FX.out _ hcum
  refine (impl_verifyLinear ⟨p, q, g⟩ s _ [[g]] _ [key] _ d _ HG.out ?_ ?_ ?_ HST.out).mono ?_
  · refine kRows.rd_below (rd1 (W.alloc (.cells #[.int .i64 g] 3)) (by simp; omega) ?_) ((Below.refl _ _).alloc (Nat.le_refl _) _)
    exact (Ints.lit1' W (by omega) ⟨by omega, by omega⟩).alloc _
  · exact Ints.lit1' _ (by simp; omega) ⟨by omega, by omega⟩
  · exact (kS rProof).rd_below Hd.out (by (repeat (first | exact Below.refl _ _ | assumption | refine Below.drew ?_ | refine Below.alloc ?_ (by first | (simp; done) | (simp; omega)) _ | refine Below.setCell ?_ (by first | (simp; done) | (simp; omega)) _)))
  · rintro e w1 ⟨rfl, hb⟩
    have HB : Hid (Below W.heap.size W w1) := (by (repeat (first | exact Below.refl _ _ | assumption | refine Below.drew ?_ | refine Below.alloc ?_ (by first | (simp; done) | (simp; omega)) _ | refine Below.setCell ?_ (by first | (simp; done) | (simp; omega)) _)) : Below W.heap.size W (((W.alloc (.cells #[.int .i64 g] 3)).alloc _).alloc _)).trans (hb.mono (by simp; omega))
    go_wp2_with fail
    go_ret
    exact ⟨rfl, Below.next HWB.out HB.out⟩
set_option maxRecDepth 100000 in
set_option maxHeartbeats 2000000 in
theorem spec_oSigned (gr : GroupD) (s : ByteArray) (key : Int) (v : Value) (d : ProofD) (w : World) (hg : OkG gr) (hs : s.size ≤ 40) (hk : elB gr key = true) (h : (kS rProof).rd w v d) :
    Calls Try.prog 133 #[.agg #[.int .i64 gr.p, .int .i64 gr.q, .int .i64 gr.g], .string s, .int .i64 key, v] w fun e w' => e = .returned (.bool (vlB gr s [[gr.g]] [key] d)) ∧ Below w.heap.size w w' := by
  have HG := Lib.hid hg
  have HST := Lib.hid (stmt1 hg hs hk)
  obtain ⟨k0, k1⟩ := elB_small hg hk
  have g1 := hg.g1; have g2 := hg.g2; have p2 := hg.p2
  clear hg hk
  obtain ⟨ad_0, nd_0, cd_0, ad_1, nd_1, cd_1, ad_2, nd_2, cd_2, rfl, kd_0, kd_1, kd_2⟩ := rdProof.1 h
  obtain ⟨W, hW⟩ : ∃ W, W = ((w.alloc (.cells #[.int .i64 gr.p, .int .i64 gr.q, .int .i64 gr.g] 31)).alloc (.cells #[.slice ad_0 nd_0 cd_0, .slice ad_1 nd_1 cd_1, .slice ad_2 nd_2 cd_2] 118)) := ⟨_, rfl⟩
  have HWB : Hid (Below w.heap.size w W) := by unfold Hid; rw [hW]; (repeat (first | exact Below.refl _ _ | assumption | refine Below.drew ?_ | refine Below.alloc ?_ (by first | (simp; done) | (simp; omega)) _ | refine Below.setCell ?_ (by first | (simp; done) | (simp; omega)) _))
  have FX : Hid (∀ W', Below W.heap.size W W' → W'.cell? ⟨w.heap.size, 0, none⟩ = some (.int .i64 gr.p) ∧ W'.cell? ⟨w.heap.size, 1, none⟩ = some (.int .i64 gr.q) ∧ W'.cell? ⟨w.heap.size, 2, none⟩ = some (.int .i64 gr.g) ∧ W'.cell? ⟨w.heap.size + 1, 0, none⟩ = some (.slice ad_0 nd_0 cd_0) ∧ W'.cell? ⟨w.heap.size + 1, 1, none⟩ = some (.slice ad_1 nd_1 cd_1) ∧ W'.cell? ⟨w.heap.size + 1, 2, none⟩ = some (.slice ad_2 nd_2 cd_2)) := fun W' hb => by
    exact ⟨box_at (by rw [hW]; simp [go_sem]) hb, box_at (by rw [hW]; simp [go_sem]) hb, box_at (by rw [hW]; simp [go_sem]) hb, box_at (by rw [hW]; simp [go_sem]) hb, box_at (by rw [hW]; simp [go_sem]) hb, box_at (by rw [hW]; simp [go_sem]) hb⟩
  have hsW : W.heap.size = w.heap.size + 2 := by rw [hW]; simp
  have Hd := Lib.hid ((kS rProof).rd_below h HWB.out); clear h
  have F_d_c := Lib.hid (sInts.rd_below kd_0 HWB.out)
  have F_d_h := Lib.hid (sInts.rd_below kd_1 HWB.out)
  have F_d_r := Lib.hid (sInts.rd_below kd_2 HWB.out)
  clear kd_0 kd_1 kd_2
  have HW := Lib.hid hW; clear hW
  obtain ⟨p, q, g⟩ := gr
  simp only [] at g1 g2 p2
  go_enter Try.func133, Try.ntmps133
  go_wp2_with fail
  rw [← HW.out]
  have hcum : Below W.heap.size W W := Below.refl _ _
  obtain ⟨p0_0, p0_1, p0_2, p1_0, p1_1, p1_2⟩ := FX.out _ hcum
  refine (spec_sVerify ⟨p, q, g⟩ s _ [[g]] _ [key] _ d _ HG.out ?_ ?_ ?_ HST.out).mono ?_
  · refine kRows.rd_below (rd1 (W.alloc (.cells #[.int .i64 g] 3)) (by simp; omega) ?_) ((Below.refl _ _).alloc (Nat.le_refl _) _)
    exact (Ints.lit1' W (by omega) ⟨by omega, by omega⟩).alloc _
  · exact Ints.lit1' _ (by simp; omega) ⟨by omega, by omega⟩
  · exact (kS rProof).rd_below Hd.out (by (repeat (first | exact Below.refl _ _ | assumption | refine Below.drew ?_ | refine Below.alloc ?_ (by first | (simp; done) | (simp; omega)) _ | refine Below.setCell ?_ (by first | (simp; done) | (simp; omega)) _)))
  · rintro e w1 ⟨rfl, hb⟩
    have HB : Hid (Below W.heap.size W w1) := (by (repeat (first | exact Below.refl _ _ | assumption | refine Below.drew ?_ | refine Below.alloc ?_ (by first | (simp; done) | (simp; omega)) _ | refine Below.setCell ?_ (by first | (simp; done) | (simp; omega)) _)) : Below W.heap.size W (((W.alloc (.cells #[.int .i64 g] 3)).alloc _).alloc _)).trans (hb.mono (by simp; omega))
    go_wp2_with fail
    go_ret
    exact ⟨rfl, Below.next HWB.out HB.out⟩
/-- a head is plain and its signature right -/
def isHeadB (gr : GroupD) (key : Int) (d : HeadD) : Bool := headB d && vlB gr (hdLabel d.author d.size d.root) [[gr.g]] [key] d.sign
end Go.Proofs.Ytodennbdfloccaa
