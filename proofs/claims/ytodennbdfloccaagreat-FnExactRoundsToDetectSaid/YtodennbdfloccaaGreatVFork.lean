/- Walks: evidence of a fork. -/
import Derived.Test.YtodennbdfloccaaGreatVKeys
import Derived.Test.YtodennbdfloccaaGreatKForkEvidence
import Derived.IntWalk
import Derived.RegionTactic
import Derived.BigRegion
namespace Go.Proofs.YtodennbdfloccaaGreat
open Go.RowKit
set_option linter.unusedSimpArgs false
set_option linter.unusedVariables false

/-- two heads are evidence of a fork -/
def forkB (gr : GroupD) (keys : List Int) (a b : HeadD) : Bool :=
  headB a && (headB b && ((a.author == b.author) && (decide (0 ≤ a.author ∧ a.author ≤ (keys.length : Int) - 1) && ((a.size == b.size) && ((a.root != b.root) && (isHeadB gr (nth keys a.author.toNat) a && isHeadB gr (nth keys a.author.toNat) b))))))
theorem isHeadB_plain {gr : GroupD} {k : Int} {d : HeadD} (h : headB d = false) : isHeadB gr k d = false := by unfold isHeadB; rw [h]; rfl
theorem forkB_alt (gr : GroupD) (keys : List Int) (a b : HeadD) : forkB gr keys a b =
    ((a.author == b.author) && ((a.size == b.size) && ((a.root != b.root) && (decide (0 ≤ a.author ∧ a.author ≤ (keys.length : Int) - 1) && (isHeadB gr (nth keys a.author.toNat) a && isHeadB gr (nth keys a.author.toNat) b))))) := by
  unfold forkB
  generalize decide (0 ≤ a.author ∧ a.author ≤ (keys.length : Int) - 1) = q1
  generalize (a.author == b.author) = q2
  generalize (a.size == b.size) = q3
  generalize (a.root != b.root) = q4
  cases ha : headB a with
  | false => rw [isHeadB_plain ha]; simp
  | true =>
    cases hb : headB b with
    | false => rw [isHeadB_plain (d := b) hb]; simp
    | true => cases q1 <;> cases q2 <;> cases q3 <;> cases q4 <;> rfl
theorem ch2 (a b : Bool) : a = false ∨ (a = true ∧ b = false) ∨ (a = true ∧ b = true) := by cases a <;> cases b <;> simp
theorem ch4 (a b c d : Bool) : a = false ∨ (a = true ∧ b = false) ∨ (a = true ∧ b = true ∧ c = false) ∨ (a = true ∧ b = true ∧ c = true ∧ d = false) ∨ (a = true ∧ b = true ∧ c = true ∧ d = true) := by
  cases a <;> cases b <;> cases c <;> cases d <;> simp
theorem ch6 (a b c d e f : Bool) : a = false ∨ (a = true ∧ b = false) ∨ (a = true ∧ b = true ∧ c = false) ∨ (a = true ∧ b = true ∧ c = true ∧ d = false) ∨ (a = true ∧ b = true ∧ c = true ∧ d = true ∧ e = false) ∨ (a = true ∧ b = true ∧ c = true ∧ d = true ∧ e = true ∧ f = false) ∨ (a = true ∧ b = true ∧ c = true ∧ d = true ∧ e = true ∧ f = true) := by
  cases a <;> cases b <;> cases c <;> cases d <;> cases e <;> cases f <;> simp
set_option maxRecDepth 100000 in
set_option maxHeartbeats 8000000 in
theorem impl_isFork_no (gr : GroupD) (keys : List Int) (vk va vb : Value) (a b : HeadD) (w : World) (hk : Ints w vk keys) (ha : (kS rHead).rd w va a) (hb : (kS rHead).rd w vb b)
    (hno : (headB a && (headB b && ((a.author == b.author) && (decide (0 ≤ a.author ∧ a.author ≤ (keys.length : Int) - 1) && ((a.size == b.size) && (a.root != b.root)))))) = false) :
    Calls Tryz.prog 92 #[.agg #[.int .i64 gr.p, .int .i64 gr.q, .int .i64 gr.g], vk, va, vb] w fun e w' => e = .returned (.bool false) ∧ Below w.heap.size w w' := by
  obtain ⟨ak, n, c, rfl⟩ := hk.shape
  have e := hk.len
  obtain ⟨k1, k2⟩ := hk.capMax
  unfold maxLen at k2
  rw [e] at hno
  have hwr : IntKind.i64.wrap ((n : Int) - 1) = (n : Int) - 1 := IntWalk.i64_in _ (by omega)
  clear hk e
  (obtain ⟨q1, h_q⟩ : ∃ b_q, headB a = b_q := ⟨_, rfl⟩); have H1 := Lib.hid h_q; clear h_q
  (obtain ⟨q2, h_q⟩ : ∃ b_q, headB b = b_q := ⟨_, rfl⟩); have H2 := Lib.hid h_q; clear h_q
  (obtain ⟨q3, h_q⟩ : ∃ b_q, (a.author == b.author) = b_q := ⟨_, rfl⟩); have H3 := Lib.hid h_q; clear h_q
  (obtain ⟨q4, h_q⟩ : ∃ b_q, decide (0 ≤ a.author ∧ a.author ≤ (n : Int) - 1) = b_q := ⟨_, rfl⟩); have H4 := Lib.hid h_q; clear h_q
  (obtain ⟨q5, h_q⟩ : ∃ b_q, (a.size == b.size) = b_q := ⟨_, rfl⟩); have H5 := Lib.hid h_q; clear h_q
  (obtain ⟨q6, h_q⟩ : ∃ b_q, (a.root != b.root) = b_q := ⟨_, rfl⟩); have H6 := Lib.hid h_q; clear h_q
  rw [H1.out, H2.out, H3.out, H4.out, H5.out, H6.out] at hno
  obtain ⟨aa_3, na_3, ca_3, aa_4, na_4, ca_4, aa_5, na_5, ca_5, rfl, ja_0, ja_1, ja_2, ka_3, ka_4, ka_5⟩ := rdHead.1 ha
  obtain ⟨ab_3, nb_3, cb_3, ab_4, nb_4, cb_4, ab_5, nb_5, cb_5, rfl, jb_0, jb_1, jb_2, kb_3, kb_4, kb_5⟩ := rdHead.1 hb
  obtain ⟨W, hW⟩ : ∃ W, W = (((w.alloc (.cells #[.int .i64 gr.p, .int .i64 gr.q, .int .i64 gr.g] 36)).alloc (.cells #[.int .i64 a.author, .int .i64 a.size, .int .i64 a.root, .slice aa_3 na_3 ca_3, .slice aa_4 na_4 ca_4, .slice aa_5 na_5 ca_5] 44)).alloc (.cells #[.int .i64 b.author, .int .i64 b.size, .int .i64 b.root, .slice ab_3 nb_3 cb_3, .slice ab_4 nb_4 cb_4, .slice ab_5 nb_5 cb_5] 44)) := ⟨_, rfl⟩
  have HWB : Hid (Below w.heap.size w W) := by unfold Hid; rw [hW]; (repeat (first | exact Below.refl _ _ | assumption | refine Below.drew ?_ | refine Below.alloc ?_ (by first | (simp; done) | (simp; omega)) _ | refine Below.setCell ?_ (by first | (simp; done) | (simp; omega)) _))
  have FX : Hid (∀ W', Below W.heap.size W W' → W'.cell? ⟨w.heap.size, 0, none⟩ = some (.int .i64 gr.p) ∧ W'.cell? ⟨w.heap.size, 1, none⟩ = some (.int .i64 gr.q) ∧ W'.cell? ⟨w.heap.size, 2, none⟩ = some (.int .i64 gr.g) ∧ W'.cell? ⟨w.heap.size + 1, 0, none⟩ = some (.int .i64 a.author) ∧ W'.cell? ⟨w.heap.size + 1, 1, none⟩ = some (.int .i64 a.size) ∧ W'.cell? ⟨w.heap.size + 1, 2, none⟩ = some (.int .i64 a.root) ∧ W'.cell? ⟨w.heap.size + 1, 3, none⟩ = some (.slice aa_3 na_3 ca_3) ∧ W'.cell? ⟨w.heap.size + 1, 4, none⟩ = some (.slice aa_4 na_4 ca_4) ∧ W'.cell? ⟨w.heap.size + 1, 5, none⟩ = some (.slice aa_5 na_5 ca_5) ∧ W'.cell? ⟨w.heap.size + 1 + 1, 0, none⟩ = some (.int .i64 b.author) ∧ W'.cell? ⟨w.heap.size + 1 + 1, 1, none⟩ = some (.int .i64 b.size) ∧ W'.cell? ⟨w.heap.size + 1 + 1, 2, none⟩ = some (.int .i64 b.root) ∧ W'.cell? ⟨w.heap.size + 1 + 1, 3, none⟩ = some (.slice ab_3 nb_3 cb_3) ∧ W'.cell? ⟨w.heap.size + 1 + 1, 4, none⟩ = some (.slice ab_4 nb_4 cb_4) ∧ W'.cell? ⟨w.heap.size + 1 + 1, 5, none⟩ = some (.slice ab_5 nb_5 cb_5)) := fun W' hb => by
    exact ⟨box_at (by rw [hW]; simp [go_sem]) hb, box_at (by rw [hW]; simp [go_sem]) hb, box_at (by rw [hW]; simp [go_sem]) hb, box_at (by rw [hW]; simp [go_sem]) hb, box_at (by rw [hW]; simp [go_sem]) hb, box_at (by rw [hW]; simp [go_sem]) hb, box_at (by rw [hW]; simp [go_sem]) hb, box_at (by rw [hW]; simp [go_sem]) hb, box_at (by rw [hW]; simp [go_sem]) hb, box_at (by rw [hW]; simp [go_sem]) hb, box_at (by rw [hW]; simp [go_sem]) hb, box_at (by rw [hW]; simp [go_sem]) hb, box_at (by rw [hW]; simp [go_sem]) hb, box_at (by rw [hW]; simp [go_sem]) hb, box_at (by rw [hW]; simp [go_sem]) hb⟩
  have hsW : W.heap.size = w.heap.size + 3 := by rw [hW]; simp
  have Ha := Lib.hid ((kS rHead).rd_below ha HWB.out); clear ha
  have Ja_0 := Lib.hid ja_0; clear ja_0
  have Ja_1 := Lib.hid ja_1; clear ja_1
  have Ja_2 := Lib.hid ja_2; clear ja_2
  have F_a_sign := Lib.hid ((kS rProof).rd_below (w := w) (rdProof.2 ⟨_, _, _, _, _, _, _, _, _, rfl, ka_3, ka_4, ka_5⟩ : (kS rProof).rd w (.agg #[.slice aa_3 na_3 ca_3, .slice aa_4 na_4 ca_4, .slice aa_5 na_5 ca_5]) a.sign) HWB.out)
  clear ka_3 ka_4 ka_5
  have Hb := Lib.hid ((kS rHead).rd_below hb HWB.out); clear hb
  have Jb_0 := Lib.hid jb_0; clear jb_0
  have Jb_1 := Lib.hid jb_1; clear jb_1
  have Jb_2 := Lib.hid jb_2; clear jb_2
  have F_b_sign := Lib.hid ((kS rProof).rd_below (w := w) (rdProof.2 ⟨_, _, _, _, _, _, _, _, _, rfl, kb_3, kb_4, kb_5⟩ : (kS rProof).rd w (.agg #[.slice ab_3 nb_3 cb_3, .slice ab_4 nb_4 cb_4, .slice ab_5 nb_5 cb_5]) b.sign) HWB.out)
  clear kb_3 kb_4 kb_5
  have HW := Lib.hid hW; clear hW
  rcases ch6 q1 q2 q3 q4 q5 q6 with rfl | ⟨rfl, rfl⟩ | ⟨rfl, rfl, rfl⟩ | ⟨rfl, rfl, rfl, rfl⟩ | ⟨rfl, rfl, rfl, rfl, rfl⟩ | ⟨rfl, rfl, rfl, rfl, rfl, rfl⟩ | ⟨rfl, rfl, rfl, rfl, rfl, rfl⟩
  rotate_right
  · exact absurd hno (by simp)
  all_goals
    clear hno
    have e3 := H3.out
    have e5 := H5.out
    have e6 := H6.out
    go_enter Tryz.func92, Tryz.ntmps92
    go_wp2_with fail
    rw [← HW.out]
    have hcum : Below W.heap.size W W := Below.refl _ _
    obtain ⟨p0_0, p0_1, p0_2, p1_0, p1_1, p1_2, p1_3, p1_4, p1_5, p2_0, p2_1, p2_2, p2_3, p2_4, p2_5⟩ := FX.out _ hcum
    have g0 := fun u => grow_cell p0_0 u
    have g1 := fun u => grow_cell p0_1 u
    have g2 := fun u => grow_cell p0_2 u
    have ga0 := fun u => grow_cell p1_0 u
    have ga1 := fun u => grow_cell p1_1 u
    have ga2 := fun u => grow_cell p1_2 u
    have ga3 := fun u => grow_cell p1_3 u
    have ga4 := fun u => grow_cell p1_4 u
    have ga5 := fun u => grow_cell p1_5 u
    have gb0 := fun u => grow_cell p2_0 u
    have gb1 := fun u => grow_cell p2_1 u
    have gb2 := fun u => grow_cell p2_2 u
    have gb3 := fun u => grow_cell p2_3 u
    have gb4 := fun u => grow_cell p2_4 u
    have gb5 := fun u => grow_cell p2_5 u
    (refine wp_region_grow (by kernel_rfl) (by kernel_rfl) ?_; (repeat (go_big_quiet_step ((first | (go_at_call 86; first | (with_reducible refine calls_grow (impl_isPlain _ a _ ((kS rHead).rd_below Ha.out (grow_below _ _))) (fun e w' h => ⟨by rw [h.1, H1.out], h.2⟩)) | (with_reducible refine calls_grow (impl_isPlain _ b _ ((kS rHead).rd_below Hb.out (grow_below _ _))) (fun e w' h => ⟨by rw [h.1, H2.out], h.2⟩)) | fail) | (go_at_call 66; refine calls_grow (impl_within _ _ _ _) (fun e w' h => ⟨by rw [h.1, H4.out], h.2 ▸ Below.refl _ _⟩)) | fail)))); refine wpQuiet_nil ?_; intro _ hw'; obtain ⟨uq, hw''⟩ := hw'; subst hw''; have hbq := grow_below W uq; generalize grow W uq = wq at hbq ⊢)
    go_wp2_with fail
    go_ret
    exact ⟨rfl, Below.next HWB.out hbq⟩
set_option maxRecDepth 100000 in
set_option maxHeartbeats 8000000 in
theorem impl_isFork_yes (gr : GroupD) (keys : List Int) (vk va vb : Value) (a b : HeadD) (w : World) (hg : OkG gr) (hkk : keysB gr keys = true) (hk : Ints w vk keys) (ha : (kS rHead).rd w va a) (hb : (kS rHead).rd w vb b)
    (h1 : headB a = true) (h2 : headB b = true) (h3 : (a.author == b.author) = true) (h4 : 0 ≤ a.author ∧ a.author ≤ (keys.length : Int) - 1) (h5 : (a.size == b.size) = true) (h6 : (a.root != b.root) = true) :
    Calls Tryz.prog 92 #[.agg #[.int .i64 gr.p, .int .i64 gr.q, .int .i64 gr.g], vk, va, vb] w fun e w' => e = .returned (.bool (isHeadB gr (nth keys a.author.toNat) a && isHeadB gr (nth keys a.author.toNat) b)) ∧ Below w.heap.size w w' := by
  have HG := Lib.hid hg; clear hg
  obtain ⟨ak, n, c, rfl⟩ := hk.shape
  have e := hk.len
  obtain ⟨k1, k2⟩ := hk.capMax
  unfold maxLen at k2
  have HKE := Lib.hid (keysB_at hkk (k := a.author.toNat) (by omega))
  rw [e] at h4
  have hwr : IntKind.i64.wrap ((n : Int) - 1) = (n : Int) - 1 := IntWalk.i64_in _ (by omega)
  have H1 := Lib.hid h1; have H2 := Lib.hid h2
  have H4 : Hid (decide (0 ≤ a.author ∧ a.author ≤ (n : Int) - 1) = true) := decide_eq_true h4
  obtain ⟨z0, z1'⟩ := h4
  have z1 : a.author < (n : Int) := by omega
  obtain ⟨bk, ok, rfl, hcx⟩ := hk.at_ (by omega)
  have hy := hcx a.author.toNat (by omega)
  clear hk hkk e h1 h2 z1' hcx
  generalize nth keys a.author.toNat = ky at hy HKE ⊢
  (obtain ⟨q7, h_q⟩ : ∃ b_q, isHeadB gr ky a = b_q := ⟨_, rfl⟩); have H7 := Lib.hid h_q; clear h_q
  (obtain ⟨q8, h_q⟩ : ∃ b_q, isHeadB gr ky b = b_q := ⟨_, rfl⟩); have H8 := Lib.hid h_q; clear h_q
  rw [H7.out, H8.out]
  obtain ⟨aa_3, na_3, ca_3, aa_4, na_4, ca_4, aa_5, na_5, ca_5, rfl, ja_0, ja_1, ja_2, ka_3, ka_4, ka_5⟩ := rdHead.1 ha
  obtain ⟨ab_3, nb_3, cb_3, ab_4, nb_4, cb_4, ab_5, nb_5, cb_5, rfl, jb_0, jb_1, jb_2, kb_3, kb_4, kb_5⟩ := rdHead.1 hb
  obtain ⟨W, hW⟩ : ∃ W, W = (((w.alloc (.cells #[.int .i64 gr.p, .int .i64 gr.q, .int .i64 gr.g] 36)).alloc (.cells #[.int .i64 a.author, .int .i64 a.size, .int .i64 a.root, .slice aa_3 na_3 ca_3, .slice aa_4 na_4 ca_4, .slice aa_5 na_5 ca_5] 44)).alloc (.cells #[.int .i64 b.author, .int .i64 b.size, .int .i64 b.root, .slice ab_3 nb_3 cb_3, .slice ab_4 nb_4 cb_4, .slice ab_5 nb_5 cb_5] 44)) := ⟨_, rfl⟩
  have HWB : Hid (Below w.heap.size w W) := by unfold Hid; rw [hW]; (repeat (first | exact Below.refl _ _ | assumption | refine Below.drew ?_ | refine Below.alloc ?_ (by first | (simp; done) | (simp; omega)) _ | refine Below.setCell ?_ (by first | (simp; done) | (simp; omega)) _))
  have FX : Hid (∀ W', Below W.heap.size W W' → W'.cell? ⟨w.heap.size, 0, none⟩ = some (.int .i64 gr.p) ∧ W'.cell? ⟨w.heap.size, 1, none⟩ = some (.int .i64 gr.q) ∧ W'.cell? ⟨w.heap.size, 2, none⟩ = some (.int .i64 gr.g) ∧ W'.cell? ⟨w.heap.size + 1, 0, none⟩ = some (.int .i64 a.author) ∧ W'.cell? ⟨w.heap.size + 1, 1, none⟩ = some (.int .i64 a.size) ∧ W'.cell? ⟨w.heap.size + 1, 2, none⟩ = some (.int .i64 a.root) ∧ W'.cell? ⟨w.heap.size + 1, 3, none⟩ = some (.slice aa_3 na_3 ca_3) ∧ W'.cell? ⟨w.heap.size + 1, 4, none⟩ = some (.slice aa_4 na_4 ca_4) ∧ W'.cell? ⟨w.heap.size + 1, 5, none⟩ = some (.slice aa_5 na_5 ca_5) ∧ W'.cell? ⟨w.heap.size + 1 + 1, 0, none⟩ = some (.int .i64 b.author) ∧ W'.cell? ⟨w.heap.size + 1 + 1, 1, none⟩ = some (.int .i64 b.size) ∧ W'.cell? ⟨w.heap.size + 1 + 1, 2, none⟩ = some (.int .i64 b.root) ∧ W'.cell? ⟨w.heap.size + 1 + 1, 3, none⟩ = some (.slice ab_3 nb_3 cb_3) ∧ W'.cell? ⟨w.heap.size + 1 + 1, 4, none⟩ = some (.slice ab_4 nb_4 cb_4) ∧ W'.cell? ⟨w.heap.size + 1 + 1, 5, none⟩ = some (.slice ab_5 nb_5 cb_5)) := fun W' hb => by
    exact ⟨box_at (by rw [hW]; simp [go_sem]) hb, box_at (by rw [hW]; simp [go_sem]) hb, box_at (by rw [hW]; simp [go_sem]) hb, box_at (by rw [hW]; simp [go_sem]) hb, box_at (by rw [hW]; simp [go_sem]) hb, box_at (by rw [hW]; simp [go_sem]) hb, box_at (by rw [hW]; simp [go_sem]) hb, box_at (by rw [hW]; simp [go_sem]) hb, box_at (by rw [hW]; simp [go_sem]) hb, box_at (by rw [hW]; simp [go_sem]) hb, box_at (by rw [hW]; simp [go_sem]) hb, box_at (by rw [hW]; simp [go_sem]) hb, box_at (by rw [hW]; simp [go_sem]) hb, box_at (by rw [hW]; simp [go_sem]) hb, box_at (by rw [hW]; simp [go_sem]) hb⟩
  have hsW : W.heap.size = w.heap.size + 3 := by rw [hW]; simp
  have Ha := Lib.hid ((kS rHead).rd_below ha HWB.out); clear ha
  have Ja_0 := Lib.hid ja_0; clear ja_0
  have Ja_1 := Lib.hid ja_1; clear ja_1
  have Ja_2 := Lib.hid ja_2; clear ja_2
  have F_a_sign := Lib.hid ((kS rProof).rd_below (w := w) (rdProof.2 ⟨_, _, _, _, _, _, _, _, _, rfl, ka_3, ka_4, ka_5⟩ : (kS rProof).rd w (.agg #[.slice aa_3 na_3 ca_3, .slice aa_4 na_4 ca_4, .slice aa_5 na_5 ca_5]) a.sign) HWB.out)
  clear ka_3 ka_4 ka_5
  have Hb := Lib.hid ((kS rHead).rd_below hb HWB.out); clear hb
  have Jb_0 := Lib.hid jb_0; clear jb_0
  have Jb_1 := Lib.hid jb_1; clear jb_1
  have Jb_2 := Lib.hid jb_2; clear jb_2
  have F_b_sign := Lib.hid ((kS rProof).rd_below (w := w) (rdProof.2 ⟨_, _, _, _, _, _, _, _, _, rfl, kb_3, kb_4, kb_5⟩ : (kS rProof).rd w (.agg #[.slice ab_3 nb_3 cb_3, .slice ab_4 nb_4 cb_4, .slice ab_5 nb_5 cb_5]) b.sign) HWB.out)
  clear kb_3 kb_4 kb_5
  have HW := Lib.hid hW; clear hW
  have hyW := box_at hy HWB.out
  clear hy
  cases q7
  all_goals
    go_enter Tryz.func92, Tryz.ntmps92
    go_wp2_with fail
    rw [← HW.out]
    have hcum : Below W.heap.size W W := Below.refl _ _
    obtain ⟨p0_0, p0_1, p0_2, p1_0, p1_1, p1_2, p1_3, p1_4, p1_5, p2_0, p2_1, p2_2, p2_3, p2_4, p2_5⟩ := FX.out _ hcum
    have g0 := fun u => grow_cell p0_0 u
    have g1 := fun u => grow_cell p0_1 u
    have g2 := fun u => grow_cell p0_2 u
    have ga0 := fun u => grow_cell p1_0 u
    have ga1 := fun u => grow_cell p1_1 u
    have ga2 := fun u => grow_cell p1_2 u
    have ga3 := fun u => grow_cell p1_3 u
    have ga4 := fun u => grow_cell p1_4 u
    have ga5 := fun u => grow_cell p1_5 u
    have gb0 := fun u => grow_cell p2_0 u
    have gb1 := fun u => grow_cell p2_1 u
    have gb2 := fun u => grow_cell p2_2 u
    have gb3 := fun u => grow_cell p2_3 u
    have gb4 := fun u => grow_cell p2_4 u
    have gb5 := fun u => grow_cell p2_5 u
    have gk := fun u => grow_cell hyW u
    (refine wp_region_grow (by kernel_rfl) (by kernel_rfl) ?_; (repeat (go_big_quiet_step ((first | (go_at_call 86; first | (with_reducible refine calls_grow (impl_isPlain _ a _ ((kS rHead).rd_below Ha.out (grow_below _ _))) (fun e w' h => ⟨by rw [h.1, H1.out], h.2⟩)) | (with_reducible refine calls_grow (impl_isPlain _ b _ ((kS rHead).rd_below Hb.out (grow_below _ _))) (fun e w' h => ⟨by rw [h.1, H2.out], h.2⟩)) | fail) | (go_at_call 66; refine calls_grow (impl_within _ _ _ _) (fun e w' h => ⟨by rw [h.1, H4.out], h.2 ▸ Below.refl _ _⟩)) | (go_at_call 79; first | (with_reducible refine calls_grow (impl_isHead gr ky _ a _ HG.out HKE.out ((kS rHead).rd_below Ha.out (grow_below _ _))) (fun e w' h => ⟨by rw [h.1, H7.out], h.2⟩)) | (with_reducible refine calls_grow (impl_isHead gr ky _ b _ HG.out HKE.out ((kS rHead).rd_below Hb.out (grow_below _ _))) (fun e w' h => ⟨by rw [h.1, H8.out], h.2⟩)) | fail) | fail)))); refine wpQuiet_nil ?_; intro _ hw'; obtain ⟨uq, hw''⟩ := hw'; subst hw''; have hbq := grow_below W uq; generalize grow W uq = wq at hbq ⊢)
    go_wp2_with fail
    go_ret
    exact ⟨rfl, Below.next HWB.out hbq⟩
theorem impl_isFork (gr : GroupD) (keys : List Int) (vk va vb : Value) (a b : HeadD) (w : World) (hg : OkG gr) (hkk : keysB gr keys = true) (hk : Ints w vk keys) (ha : (kS rHead).rd w va a) (hb : (kS rHead).rd w vb b) :
    Calls Tryz.prog 92 #[.agg #[.int .i64 gr.p, .int .i64 gr.q, .int .i64 gr.g], vk, va, vb] w fun e w' => e = .returned (.bool (forkB gr keys a b)) ∧ Below w.heap.size w w' := by
  cases hq : (headB a && (headB b && ((a.author == b.author) && (decide (0 ≤ a.author ∧ a.author ≤ (keys.length : Int) - 1) && ((a.size == b.size) && (a.root != b.root)))))) with
  | false =>
    have hr : forkB gr keys a b = false := by
      unfold forkB
      revert hq
      generalize decide (0 ≤ a.author ∧ a.author ≤ (keys.length : Int) - 1) = q1
      generalize (a.author == b.author) = q2
      generalize (a.size == b.size) = q3
      generalize (a.root != b.root) = q4
      generalize headB a = q5
      generalize headB b = q6
      cases q1 <;> cases q2 <;> cases q3 <;> cases q4 <;> cases q5 <;> cases q6 <;> simp
    rw [hr]
    exact impl_isFork_no gr keys vk va vb a b w hk ha hb hq
  | true =>
    simp only [Bool.and_eq_true] at hq
    obtain ⟨h1, h2, h3, h4, h5, h6⟩ := hq
    have hr : forkB gr keys a b = (isHeadB gr (nth keys a.author.toNat) a && isHeadB gr (nth keys a.author.toNat) b) := by
      unfold forkB
      rw [h1, h2, h3, h4, h5, h6]; rfl
    rw [hr]
    exact impl_isFork_yes gr keys vk va vb a b w hg hkk hk ha hb h1 h2 h3 (of_decide_eq_true h4) h5 h6
end Go.Proofs.YtodennbdfloccaaGreat
