/- Walks: keys of authors. -/
import Derived.Test.YtboahnklilmdpaaVHeadU
import Derived.Test.YtboahnklilmdpaaBkU
namespace Go.Proofs.Ytboahnklilmdpaa
open Go.RowKit
set_option linter.unusedSimpArgs false
set_option linter.unusedVariables false

def keysB (gr : GroupD) (l : List Int) : Bool := decide (l.length ≤ 40) && l.all (elB gr)
theorem keysB_at {gr : GroupD} {l : List Int} (h : keysB gr l = true) {k : Nat} (hk : k < l.length) : elB gr (nth l k) = true := by
  unfold keysB at h
  rw [Bool.and_eq_true] at h
  rw [nth_eq hk]
  exact List.all_eq_true.1 h.2 _ (List.getElem_mem _)
theorem keysB_len {gr : GroupD} {l : List Int} (h : keysB gr l = true) : l.length ≤ 40 := by
  unfold keysB at h
  rw [Bool.and_eq_true] at h
  exact of_decide_eq_true h.1
set_option maxHeartbeats 1000000 in
theorem impl_areKeys (gr : GroupD) (v : Value) (l : List Int) (w : World) (hg : OkG gr) (h : Ints w v l) :
    Calls Try.prog 305 #[.agg #[.int .i64 gr.p, .int .i64 gr.q, .int .i64 gr.g], v] w fun e w' => e = .returned (.bool (keysB gr l)) ∧ Below w.heap.size w w' := by
  have HG := Lib.hid hg; clear hg
  obtain ⟨a, n, c, rfl⟩ := h.shape
  have e := h.len
  obtain ⟨k1, k2⟩ := h.capMax
  unfold maxLen at k2
  have H := Lib.hid h; clear h
  (obtain ⟨q2, h_q⟩ : ∃ b_q, l.all (elB gr) = b_q := ⟨_, rfl⟩); have H2 := Lib.hid h_q; clear h_q
  by_cases hn : n ≤ 40
  · have HR : Hid (keysB gr l = q2) := by unfold Hid keysB; rw [H2.out, e]; simp [hn]
    clear e
    have hn' : decide ((n : Int) ≤ 40) = true := by simp; omega
    obtain ⟨W, hW⟩ : ∃ W, W = (w.alloc (.cells #[.int .i64 gr.p, .int .i64 gr.q, .int .i64 gr.g] 39)) := ⟨_, rfl⟩
    have HWB : Hid (Below w.heap.size w W) := by unfold Hid; rw [hW]; (repeat (first | exact Below.refl _ _ | assumption | refine Below.drew ?_ | refine Below.alloc ?_ (by first | (simp; done) | (simp; omega)) _ | refine Below.setCell ?_ (by first | (simp; done) | (simp; omega)) _))
    have FX : Hid (∀ W', Below W.heap.size W W' → W'.cell? ⟨w.heap.size, 0, none⟩ = some (.int .i64 gr.p) ∧ W'.cell? ⟨w.heap.size, 1, none⟩ = some (.int .i64 gr.q) ∧ W'.cell? ⟨w.heap.size, 2, none⟩ = some (.int .i64 gr.g)) := fun W' hb => by
      exact ⟨box_at (by rw [hW]; simp [go_sem]) hb, box_at (by rw [hW]; simp [go_sem]) hb, box_at (by rw [hW]; simp [go_sem]) hb⟩
    have hsW : W.heap.size = w.heap.size + 1 := by rw [hW]; simp
    have HW := Lib.hid hW; clear hW
    go_enter Try.func305, Try.ntmps305
    go_wp2_with fail
    rw [← HW.out]
    have hcum : Below W.heap.size W W := Below.refl _ _
    obtain ⟨p0_0, p0_1, p0_2⟩ := FX.out _ hcum
    refine (impl_hasAll gr _ l _ HG.out (H.out.below HWB.out)).mono ?_
    rintro e w1 ⟨rfl, hb1⟩
    rw [H2.out]
    (replace hcum := hcum.trans (hb1.mono hcum.size)); clear hb1; clear p0_0 p0_1 p0_2; obtain ⟨p0_0, p0_1, p0_2⟩ := FX.out _ hcum
    go_wp2_with fail
    go_ret
    exact ⟨ret_bool (by first | (rw [HR.out]; done) | (rw [HR.out]; rfl) | exact HR.out.symm), Below.next HWB.out hcum⟩
  · have HR : Hid (keysB gr l = false) := by unfold Hid keysB; rw [e]; simp [hn]
    clear e
    have hn' : decide ((n : Int) ≤ 40) = false := by simp; omega
    obtain ⟨W, hW⟩ : ∃ W, W = (w.alloc (.cells #[.int .i64 gr.p, .int .i64 gr.q, .int .i64 gr.g] 39)) := ⟨_, rfl⟩
    have HWB : Hid (Below w.heap.size w W) := by unfold Hid; rw [hW]; (repeat (first | exact Below.refl _ _ | assumption | refine Below.drew ?_ | refine Below.alloc ?_ (by first | (simp; done) | (simp; omega)) _ | refine Below.setCell ?_ (by first | (simp; done) | (simp; omega)) _))
    have FX : Hid (∀ W', Below W.heap.size W W' → W'.cell? ⟨w.heap.size, 0, none⟩ = some (.int .i64 gr.p) ∧ W'.cell? ⟨w.heap.size, 1, none⟩ = some (.int .i64 gr.q) ∧ W'.cell? ⟨w.heap.size, 2, none⟩ = some (.int .i64 gr.g)) := fun W' hb => by
      exact ⟨box_at (by rw [hW]; simp [go_sem]) hb, box_at (by rw [hW]; simp [go_sem]) hb, box_at (by rw [hW]; simp [go_sem]) hb⟩
    have hsW : W.heap.size = w.heap.size + 1 := by rw [hW]; simp
    have HW := Lib.hid hW; clear hW
    go_enter Try.func305, Try.ntmps305
    go_wp2_with fail
    rw [← HW.out]
    have hcum : Below W.heap.size W W := Below.refl _ _
    obtain ⟨p0_0, p0_1, p0_2⟩ := FX.out _ hcum
    go_ret
    exact ⟨ret_bool (by first | (rw [HR.out]; done) | (rw [HR.out]; rfl) | exact HR.out.symm), HWB.out⟩
end Go.Proofs.Ytboahnklilmdpaa
namespace Go.Proofs.Ytboahnklilmdpaa
open Go.RowKit
set_option linter.unusedSimpArgs false
set_option linter.unusedVariables false

def sEntrySp : ByteArray := ⟨#[101, 110, 116, 114, 121, 32]⟩
def enD (k a t : Int) (l : List Int) : Int := hashOf (lab sEntry ++ ([k, a, t] ++ l))
def enLabel (k a t : Int) (l : List Int) : ByteArray := sgLabel sEntrySp (enD k a t l)
theorem enLabel_size (k a t : Int) (l : List Int) : (enLabel k a t l).size = 22 := by unfold enLabel; rw [sgLabel_size]; rfl
theorem enD_digest (k a t : Int) (l : List Int) : digestB (enD k a t l) = true := digestB_hash _
attribute [irreducible] enLabel
/-- an entry is plain and its signature right -/
def isEntryB (gr : GroupD) (key t : Int) (d : EntryD) : Bool := entB d.kind d.author d.data && vlB gr (enLabel d.kind d.author t d.data) [[gr.g]] [key] d.sign
theorem edB_at {k a t : Int} {l : List Int} (h : 0 ≤ t ∧ t ≤ 63) : edB k a t l = entB k a l := by unfold edB; rw [decide_eq_true h, Bool.and_true]
set_option maxRecDepth 100000 in
set_option maxHeartbeats 1000000 in
theorem spec_oLabel (v : Value) (d : EntryD) (t : Int) (w : World) (h : (kS rEntry).rd w v d) (ht : 0 ≤ t ∧ t ≤ 63) (hh : entB d.kind d.author d.data = true) :
    Calls Try.prog 303 #[v, .int .i64 t] w fun e w' => e = .returned (.string (enLabel d.kind d.author t d.data)) ∧ Below w.heap.size w w' := by
  have HED : Hid (edB d.kind d.author t d.data = true) := by unfold Hid; rw [edB_at ht]; exact hh
  have HDG := Lib.hid (enD_digest d.kind d.author t d.data)
  have HLB : Hid (sEntrySp ++ dText (enD d.kind d.author t d.data) = enLabel d.kind d.author t d.data) := by unfold Hid enLabel sgLabel; rfl
  have HHD : Hid (hashOf (lab sEntry ++ ([d.kind, d.author, t] ++ d.data)) = enD d.kind d.author t d.data) := rfl
  clear hh ht
  obtain ⟨ad_2, nd_2, cd_2, ad_3, nd_3, cd_3, ad_4, nd_4, cd_4, ad_5, nd_5, cd_5, rfl, jd_0, jd_1, kd_2, kd_3, kd_4, kd_5⟩ := rdEntry.1 h
  obtain ⟨W, hW⟩ : ∃ W, W = (w.alloc (.cells #[.int .i64 d.kind, .int .i64 d.author, .slice ad_2 nd_2 cd_2, .slice ad_3 nd_3 cd_3, .slice ad_4 nd_4 cd_4, .slice ad_5 nd_5 cd_5] 44)) := ⟨_, rfl⟩
  have HWB : Hid (Below w.heap.size w W) := by unfold Hid; rw [hW]; (repeat (first | exact Below.refl _ _ | assumption | refine Below.drew ?_ | refine Below.alloc ?_ (by first | (simp; done) | (simp; omega)) _ | refine Below.setCell ?_ (by first | (simp; done) | (simp; omega)) _))
  have FX : Hid (∀ W', Below W.heap.size W W' → W'.cell? ⟨w.heap.size, 0, none⟩ = some (.int .i64 d.kind) ∧ W'.cell? ⟨w.heap.size, 1, none⟩ = some (.int .i64 d.author) ∧ W'.cell? ⟨w.heap.size, 2, none⟩ = some (.slice ad_2 nd_2 cd_2) ∧ W'.cell? ⟨w.heap.size, 3, none⟩ = some (.slice ad_3 nd_3 cd_3) ∧ W'.cell? ⟨w.heap.size, 4, none⟩ = some (.slice ad_4 nd_4 cd_4) ∧ W'.cell? ⟨w.heap.size, 5, none⟩ = some (.slice ad_5 nd_5 cd_5)) := fun W' hb => by
    exact ⟨box_at (by rw [hW]; simp [go_sem]) hb, box_at (by rw [hW]; simp [go_sem]) hb, box_at (by rw [hW]; simp [go_sem]) hb, box_at (by rw [hW]; simp [go_sem]) hb, box_at (by rw [hW]; simp [go_sem]) hb, box_at (by rw [hW]; simp [go_sem]) hb⟩
  have hsW : W.heap.size = w.heap.size + 1 := by rw [hW]; simp
  have Hd := Lib.hid ((kS rEntry).rd_below h HWB.out); clear h
  have Jd_0 := Lib.hid jd_0; clear jd_0
  have Jd_1 := Lib.hid jd_1; clear jd_1
  have F_d_data := Lib.hid (sInts.rd_below kd_2 HWB.out)
  have F_d_sign := Lib.hid ((kS rProof).rd_below (w := w) (rdProof.2 ⟨_, _, _, _, _, _, _, _, _, rfl, kd_3, kd_4, kd_5⟩ : (kS rProof).rd w (.agg #[.slice ad_3 nd_3 cd_3, .slice ad_4 nd_4 cd_4, .slice ad_5 nd_5 cd_5]) d.sign) HWB.out)
  clear kd_2 kd_3 kd_4 kd_5
  have HW := Lib.hid hW; clear hW
  go_enter Try.func303, Try.ntmps303
  go_wp2_with fail
  rw [← HW.out]
  have hcum : Below W.heap.size W W := Below.refl _ _
  obtain ⟨p0_0, p0_1, p0_2, p0_3, p0_4, p0_5⟩ := FX.out _ hcum
  refine (spec_oDigest d.kind d.author t _ _ _ _ d.data _ (F_d_data.out) HED.out).mono ?_
  rintro e w1 ⟨rfl, hb⟩
  rw [HHD.out]
  have HB := Lib.hid hb
  clear hb
  generalize enD d.kind d.author t d.data = D at HDG HLB ⊢
  go_wp2_with fail
  refine (spec_oText D _ HDG.out).mono ?_
  rintro e w2 ⟨rfl, hb2⟩
  have HB2 := Lib.hid (Below.next HB.out hb2)
  have hsz : sEntrySp.size + (dText D).size ≤ 9223372036854775807 := by rw [dText_size]; decide
  unfold sEntrySp at hsz
  clear hb2
  go_wp2_with fail
  go_ret
  exact ⟨by rw [← HLB.out]; rfl, Below.next HWB.out HB2.out⟩
set_option maxRecDepth 100000 in
set_option maxHeartbeats 2000000 in
theorem impl_isEntry (gr : GroupD) (key t : Int) (v : Value) (d : EntryD) (w : World) (hg : OkG gr) (hk : elB gr key = true) (ht : 0 ≤ t ∧ t ≤ 63) (h : (kS rEntry).rd w v d) :
    Calls Try.prog 306 #[.agg #[.int .i64 gr.p, .int .i64 gr.q, .int .i64 gr.g], .int .i64 key, .int .i64 t, v] w fun e w' => e = .returned (.bool (isEntryB gr key t d)) ∧ Below w.heap.size w w' := by
  have HG := Lib.hid hg; have HK := Lib.hid hk
  clear hg hk
  (obtain ⟨q1, h_q⟩ : ∃ b_q, entB d.kind d.author d.data = b_q := ⟨_, rfl⟩); have H1 := Lib.hid h_q; clear h_q
  have HED : Hid (edB d.kind d.author t d.data = q1) := by unfold Hid; rw [edB_at ht]; exact H1.out
  have HDG := Lib.hid (enD_digest d.kind d.author t d.data)
  have HLBL : Hid (sgLabel sEntrySp (enD d.kind d.author t d.data) = enLabel d.kind d.author t d.data) := by unfold Hid enLabel; rfl
  obtain ⟨ad_2, nd_2, cd_2, ad_3, nd_3, cd_3, ad_4, nd_4, cd_4, ad_5, nd_5, cd_5, rfl, jd_0, jd_1, kd_2, kd_3, kd_4, kd_5⟩ := rdEntry.1 h
  obtain ⟨W, hW⟩ : ∃ W, W = ((w.alloc (.cells #[.int .i64 gr.p, .int .i64 gr.q, .int .i64 gr.g] 39)).alloc (.cells #[.int .i64 d.kind, .int .i64 d.author, .slice ad_2 nd_2 cd_2, .slice ad_3 nd_3 cd_3, .slice ad_4 nd_4 cd_4, .slice ad_5 nd_5 cd_5] 44)) := ⟨_, rfl⟩
  have HWB : Hid (Below w.heap.size w W) := by unfold Hid; rw [hW]; (repeat (first | exact Below.refl _ _ | assumption | refine Below.drew ?_ | refine Below.alloc ?_ (by first | (simp; done) | (simp; omega)) _ | refine Below.setCell ?_ (by first | (simp; done) | (simp; omega)) _))
  have FX : Hid (∀ W', Below W.heap.size W W' → W'.cell? ⟨w.heap.size, 0, none⟩ = some (.int .i64 gr.p) ∧ W'.cell? ⟨w.heap.size, 1, none⟩ = some (.int .i64 gr.q) ∧ W'.cell? ⟨w.heap.size, 2, none⟩ = some (.int .i64 gr.g) ∧ W'.cell? ⟨w.heap.size + 1, 0, none⟩ = some (.int .i64 d.kind) ∧ W'.cell? ⟨w.heap.size + 1, 1, none⟩ = some (.int .i64 d.author) ∧ W'.cell? ⟨w.heap.size + 1, 2, none⟩ = some (.slice ad_2 nd_2 cd_2) ∧ W'.cell? ⟨w.heap.size + 1, 3, none⟩ = some (.slice ad_3 nd_3 cd_3) ∧ W'.cell? ⟨w.heap.size + 1, 4, none⟩ = some (.slice ad_4 nd_4 cd_4) ∧ W'.cell? ⟨w.heap.size + 1, 5, none⟩ = some (.slice ad_5 nd_5 cd_5)) := fun W' hb => by
    exact ⟨box_at (by rw [hW]; simp [go_sem]) hb, box_at (by rw [hW]; simp [go_sem]) hb, box_at (by rw [hW]; simp [go_sem]) hb, box_at (by rw [hW]; simp [go_sem]) hb, box_at (by rw [hW]; simp [go_sem]) hb, box_at (by rw [hW]; simp [go_sem]) hb, box_at (by rw [hW]; simp [go_sem]) hb, box_at (by rw [hW]; simp [go_sem]) hb, box_at (by rw [hW]; simp [go_sem]) hb⟩
  have hsW : W.heap.size = w.heap.size + 2 := by rw [hW]; simp
  have Hd := Lib.hid ((kS rEntry).rd_below h HWB.out); clear h
  have Jd_0 := Lib.hid jd_0; clear jd_0
  have Jd_1 := Lib.hid jd_1; clear jd_1
  have F_d_data := Lib.hid (sInts.rd_below kd_2 HWB.out)
  have F_d_sign := Lib.hid ((kS rProof).rd_below (w := w) (rdProof.2 ⟨_, _, _, _, _, _, _, _, _, rfl, kd_3, kd_4, kd_5⟩ : (kS rProof).rd w (.agg #[.slice ad_3 nd_3 cd_3, .slice ad_4 nd_4 cd_4, .slice ad_5 nd_5 cd_5]) d.sign) HWB.out)
  clear kd_2 kd_3 kd_4 kd_5
  have HW := Lib.hid hW; clear hW
  cases q1 with
  | false =>
    have HR : Hid (isEntryB gr key t d = false) := by unfold Hid isEntryB; rw [H1.out]; rfl
    go_enter Try.func306, Try.ntmps306
    go_wp2_with fail
    rw [← HW.out]
    have hcum : Below W.heap.size W W := Below.refl _ _
    obtain ⟨p0_0, p0_1, p0_2, p1_0, p1_1, p1_2, p1_3, p1_4, p1_5⟩ := FX.out _ hcum
    refine (impl_EntryDigest d.kind d.author t _ d.data _ F_d_data.out).mono ?_
    rintro e w1 ⟨rfl, hb1⟩
    rw [HED.out]
    (replace hcum := hcum.trans (hb1.mono hcum.size)); clear hb1; clear p0_0 p0_1 p0_2 p1_0 p1_1 p1_2 p1_3 p1_4 p1_5; obtain ⟨p0_0, p0_1, p0_2, p1_0, p1_1, p1_2, p1_3, p1_4, p1_5⟩ := FX.out _ hcum
    go_wp2_with fail
    have g0 := fun u => grow_cell p0_0 u
    (refine wp_region_grow (by kernel_rfl) (by kernel_rfl) ?_; (repeat (go_big_quiet_step ((fail)))); refine wpQuiet_nil ?_; intro _ hw'; obtain ⟨uq, hw''⟩ := hw'; subst hw''; have hbq := grow_below w1 uq; generalize grow w1 uq = wq at hbq ⊢)
    go_wp2_with fail
    go_ret
    exact ⟨ret_bool (by first | (rw [HR.out]; done) | (rw [HR.out]; rfl) | exact HR.out.symm), Below.next HWB.out (Below.next hcum hbq)⟩
  | true =>
    obtain ⟨b, hb⟩ : ∃ b, vlB gr (enLabel d.kind d.author t d.data) [[gr.g]] [key] d.sign = b := ⟨_, rfl⟩
    have HVB := Lib.hid hb; clear hb
    have HR : Hid (isEntryB gr key t d = b) := by unfold Hid isEntryB; rw [H1.out, HVB.out]; rfl
    have HLS : Hid ((enLabel d.kind d.author t d.data).size ≤ 40) := by unfold Hid; rw [enLabel_size]; omega
    have HEI : Hid (edI d.kind d.author t d.data = enD d.kind d.author t d.data) := edI_yes HED.out
    go_enter Try.func306, Try.ntmps306
    go_wp2_with fail
    rw [← HW.out]
    have hcum : Below W.heap.size W W := Below.refl _ _
    obtain ⟨p0_0, p0_1, p0_2, p1_0, p1_1, p1_2, p1_3, p1_4, p1_5⟩ := FX.out _ hcum
    refine (impl_EntryDigest d.kind d.author t _ d.data _ F_d_data.out).mono ?_
    rintro e w1 ⟨rfl, hb1⟩
    rw [HED.out, HEI.out]
    (replace hcum := hcum.trans (hb1.mono hcum.size)); clear hb1; clear p0_0 p0_1 p0_2 p1_0 p1_1 p1_2 p1_3 p1_4 p1_5; obtain ⟨p0_0, p0_1, p0_2, p1_0, p1_1, p1_2, p1_3, p1_4, p1_5⟩ := FX.out _ hcum
    go_wp2_with fail
    have g0 := fun u => grow_cell p0_0 u
    have g1 := fun u => grow_cell p0_1 u
    have g2 := fun u => grow_cell p0_2 u
    have g6 := fun u => grow_cell p1_3 u
    have g7 := fun u => grow_cell p1_4 u
    have g8 := fun u => grow_cell p1_5 u
    have HC := Lib.hid hcum
    (refine wp_region_grow (by kernel_rfl) (by kernel_rfl) ?_; (repeat (go_big_quiet_step ((first | (go_at_call 329; refine calls_grow (impl_signLabel sEntrySp _ _ HDG.out (by decide)) (fun e w' h => ⟨by rw [h.1, HLBL.out], h.2⟩)) | (go_at_call 328; refine calls_grow (impl_isSigned gr _ key _ d.sign _ HG.out HLS.out HK.out ((kS rProof).rd_below ((kS rProof).rd_below F_d_sign.out HC.out) (grow_below _ _))) (fun e w' h => ⟨by rw [h.1, HVB.out], h.2⟩)) | fail)))); refine wpQuiet_nil ?_; intro _ hw'; obtain ⟨uq, hw''⟩ := hw'; subst hw''; have hbq := grow_below w1 uq; generalize grow w1 uq = wq at hbq ⊢)
    go_wp2_with fail
    go_ret
    exact ⟨ret_bool (by first | (rw [HR.out]; done) | (rw [HR.out]; rfl) | exact HR.out.symm), Below.next HWB.out (Below.next HC.out hbq)⟩
set_option maxRecDepth 100000 in
set_option maxHeartbeats 2000000 in
theorem spec_oAccepts (gr : GroupD) (key t : Int) (v : Value) (d : EntryD) (w : World) (hg : OkG gr) (hk : elB gr key = true) (ht : 0 ≤ t ∧ t ≤ 63) (h : (kS rEntry).rd w v d) :
    Calls Try.prog 250 #[.agg #[.int .i64 gr.p, .int .i64 gr.q, .int .i64 gr.g], .int .i64 key, .int .i64 t, v] w fun e w' => e = .returned (.bool (isEntryB gr key t d)) ∧ Below w.heap.size w w' := by
  have HG := Lib.hid hg; have HK := Lib.hid hk; have HT := Lib.hid ht
  clear hg hk ht
  (obtain ⟨q1, h_q⟩ : ∃ b_q, entB d.kind d.author d.data = b_q := ⟨_, rfl⟩); have H1 := Lib.hid h_q; clear h_q
  obtain ⟨ad_2, nd_2, cd_2, ad_3, nd_3, cd_3, ad_4, nd_4, cd_4, ad_5, nd_5, cd_5, rfl, jd_0, jd_1, kd_2, kd_3, kd_4, kd_5⟩ := rdEntry.1 h
  obtain ⟨W, hW⟩ : ∃ W, W = ((w.alloc (.cells #[.int .i64 gr.p, .int .i64 gr.q, .int .i64 gr.g] 39)).alloc (.cells #[.int .i64 d.kind, .int .i64 d.author, .slice ad_2 nd_2 cd_2, .slice ad_3 nd_3 cd_3, .slice ad_4 nd_4 cd_4, .slice ad_5 nd_5 cd_5] 44)) := ⟨_, rfl⟩
  have HWB : Hid (Below w.heap.size w W) := by unfold Hid; rw [hW]; (repeat (first | exact Below.refl _ _ | assumption | refine Below.drew ?_ | refine Below.alloc ?_ (by first | (simp; done) | (simp; omega)) _ | refine Below.setCell ?_ (by first | (simp; done) | (simp; omega)) _))
  have FX : Hid (∀ W', Below W.heap.size W W' → W'.cell? ⟨w.heap.size, 0, none⟩ = some (.int .i64 gr.p) ∧ W'.cell? ⟨w.heap.size, 1, none⟩ = some (.int .i64 gr.q) ∧ W'.cell? ⟨w.heap.size, 2, none⟩ = some (.int .i64 gr.g) ∧ W'.cell? ⟨w.heap.size + 1, 0, none⟩ = some (.int .i64 d.kind) ∧ W'.cell? ⟨w.heap.size + 1, 1, none⟩ = some (.int .i64 d.author) ∧ W'.cell? ⟨w.heap.size + 1, 2, none⟩ = some (.slice ad_2 nd_2 cd_2) ∧ W'.cell? ⟨w.heap.size + 1, 3, none⟩ = some (.slice ad_3 nd_3 cd_3) ∧ W'.cell? ⟨w.heap.size + 1, 4, none⟩ = some (.slice ad_4 nd_4 cd_4) ∧ W'.cell? ⟨w.heap.size + 1, 5, none⟩ = some (.slice ad_5 nd_5 cd_5)) := fun W' hb => by
    exact ⟨box_at (by rw [hW]; simp [go_sem]) hb, box_at (by rw [hW]; simp [go_sem]) hb, box_at (by rw [hW]; simp [go_sem]) hb, box_at (by rw [hW]; simp [go_sem]) hb, box_at (by rw [hW]; simp [go_sem]) hb, box_at (by rw [hW]; simp [go_sem]) hb, box_at (by rw [hW]; simp [go_sem]) hb, box_at (by rw [hW]; simp [go_sem]) hb, box_at (by rw [hW]; simp [go_sem]) hb⟩
  have hsW : W.heap.size = w.heap.size + 2 := by rw [hW]; simp
  have Hd := Lib.hid ((kS rEntry).rd_below h HWB.out); clear h
  have Jd_0 := Lib.hid jd_0; clear jd_0
  have Jd_1 := Lib.hid jd_1; clear jd_1
  have F_d_data := Lib.hid (sInts.rd_below kd_2 HWB.out)
  have F_d_sign := Lib.hid ((kS rProof).rd_below (w := w) (rdProof.2 ⟨_, _, _, _, _, _, _, _, _, rfl, kd_3, kd_4, kd_5⟩ : (kS rProof).rd w (.agg #[.slice ad_3 nd_3 cd_3, .slice ad_4 nd_4 cd_4, .slice ad_5 nd_5 cd_5]) d.sign) HWB.out)
  clear kd_2 kd_3 kd_4 kd_5
  have HW := Lib.hid hW; clear hW
  cases q1 with
  | false =>
    have HR : Hid (isEntryB gr key t d = false) := by unfold Hid isEntryB; rw [H1.out]; rfl
    go_enter Try.func250, Try.ntmps250
    go_wp2_with fail
    rw [← HW.out]
    have hcum : Below W.heap.size W W := Below.refl _ _
    obtain ⟨p0_0, p0_1, p0_2, p1_0, p1_1, p1_2, p1_3, p1_4, p1_5⟩ := FX.out _ hcum
    have g0 := fun u => grow_cell p0_0 u
    have g1 := fun u => grow_cell p0_1 u
    have g2 := fun u => grow_cell p0_2 u
    have g3 := fun u => grow_cell p1_0 u
    have g4 := fun u => grow_cell p1_1 u
    have g5 := fun u => grow_cell p1_2 u
    have g6 := fun u => grow_cell p1_3 u
    have g7 := fun u => grow_cell p1_4 u
    have g8 := fun u => grow_cell p1_5 u
    (refine wp_region_grow (by kernel_rfl) (by kernel_rfl) ?_; (repeat (go_big_quiet_step ((first | (go_at_call 301; refine calls_grow (spec_oPlain d.kind d.author _ _ _ _ d.data _ (F_d_data.out.below (grow_below _ _))) (fun e w' h => ⟨by rw [h.1, H1.out], h.2⟩)) | fail)))); refine wpQuiet_nil ?_; intro _ hw'; obtain ⟨uq, hw''⟩ := hw'; subst hw''; have hbq := grow_below W uq; generalize grow W uq = wq at hbq ⊢)
    go_wp2_with fail
    go_ret
    exact ⟨ret_bool (by first | (rw [HR.out]; done) | (rw [HR.out]; rfl) | exact HR.out.symm), Below.next HWB.out hbq⟩
  | true =>
    obtain ⟨b, hb⟩ : ∃ b, vlB gr (enLabel d.kind d.author t d.data) [[gr.g]] [key] d.sign = b := ⟨_, rfl⟩
    have HVB := Lib.hid hb; clear hb
    have HR : Hid (isEntryB gr key t d = b) := by unfold Hid isEntryB; rw [H1.out, HVB.out]; rfl
    have HLS : Hid ((enLabel d.kind d.author t d.data).size ≤ 40) := by unfold Hid; rw [enLabel_size]; omega
    go_enter Try.func250, Try.ntmps250
    go_wp2_with fail
    rw [← HW.out]
    have hcum : Below W.heap.size W W := Below.refl _ _
    obtain ⟨p0_0, p0_1, p0_2, p1_0, p1_1, p1_2, p1_3, p1_4, p1_5⟩ := FX.out _ hcum
    have g0 := fun u => grow_cell p0_0 u
    have g1 := fun u => grow_cell p0_1 u
    have g2 := fun u => grow_cell p0_2 u
    have g3 := fun u => grow_cell p1_0 u
    have g4 := fun u => grow_cell p1_1 u
    have g5 := fun u => grow_cell p1_2 u
    have g6 := fun u => grow_cell p1_3 u
    have g7 := fun u => grow_cell p1_4 u
    have g8 := fun u => grow_cell p1_5 u
    (refine wp_region_grow (by kernel_rfl) (by kernel_rfl) ?_; (repeat (go_big_quiet_step ((first | (go_at_call 301; refine calls_grow (spec_oPlain d.kind d.author _ _ _ _ d.data _ (F_d_data.out.below (grow_below _ _))) (fun e w' h => ⟨by rw [h.1, H1.out], h.2⟩)) | (go_at_call 303; refine calls_grow (spec_oLabel _ d t _ ((kS rEntry).rd_below Hd.out (grow_below _ _)) HT.out H1.out) (fun e w' h => h)) | (go_at_call 302; refine calls_grow (spec_oSigned gr _ key _ d.sign _ HG.out HLS.out HK.out ((kS rProof).rd_below F_d_sign.out (grow_below _ _))) (fun e w' h => ⟨by rw [h.1, HVB.out], h.2⟩)) | fail)))); refine wpQuiet_nil ?_; intro _ hw'; obtain ⟨uq, hw''⟩ := hw'; subst hw''; have hbq := grow_below W uq; generalize grow W uq = wq at hbq ⊢)
    go_wp2_with fail
    go_ret
    exact ⟨ret_bool (by first | (rw [HR.out]; done) | (rw [HR.out]; rfl) | exact HR.out.symm), Below.next HWB.out hbq⟩
end Go.Proofs.Ytboahnklilmdpaa
