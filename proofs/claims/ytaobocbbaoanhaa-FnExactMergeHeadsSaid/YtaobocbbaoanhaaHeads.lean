/- Walks: plain heads (impl.isPlainHead, spec.oHead), CompareHeads. -/
import Derived.Test.YtaobocbbaoanhaaKHead
import Derived.Test.YtaobocbbaoanhaaMerkle4
import Derived.Test.YtaobocbbaoanhaaStdI
namespace Go.Proofs.Ytaobocbbaoanhaa
open Go.RowKit
set_option linter.unusedSimpArgs false
set_option linter.unusedVariables false

def headI (a s r : Int) : Bool := decide (0 ≤ a ∧ a ≤ 39) && (decide (0 ≤ s ∧ s ≤ 64) && digestB r)
def headB (d : HeadD) : Bool := headI d.author d.size d.root
theorem headB_yes {d : HeadD} (h : headB d = true) : (0 ≤ d.author ∧ d.author ≤ 39) ∧ (0 ≤ d.size ∧ d.size ≤ 64) ∧ digestB d.root = true := by
  unfold headB headI at h; simpa using h
theorem impl_isPlainHead (a s r : Int) (w : World) :
    Calls Try.prog 178 #[.int .i64 a, .int .i64 s, .int .i64 r] w fun e w' => e = .returned (.bool (headI a s r)) ∧ w = w' := by
  obtain ⟨q1, h1⟩ : ∃ q, decide (0 ≤ a ∧ a ≤ 39) = q := ⟨_, rfl⟩
  obtain ⟨q2, h2⟩ : ∃ q, decide (0 ≤ s ∧ s ≤ 64) = q := ⟨_, rfl⟩
  obtain ⟨q3, h3⟩ : ∃ q, digestB r = q := ⟨_, rfl⟩
  have HR : Hid (headI a s r = (q1 && (q2 && q3))) := by unfold Hid headI; rw [h1, h2, h3]
  have H1 := Lib.hid h1; have H2 := Lib.hid h2; have H3 := Lib.hid h3
  clear h1 h2 h3
  cases q1 <;> cases q2
  all_goals
    go_enter Try.func178, Try.ntmps178
    go_wp2_with (first
      | (go_at_call 153; refine (impl_within _ _ _ _).mono ?_; rintro e w1 ⟨rfl, rfl⟩; first | rw [H1.out] | rw [H2.out])
      | (go_at_call 91; refine (impl_isDigest _ _).mono ?_; rintro e w1 ⟨rfl, rfl⟩; rw [H3.out])
      | fail)
    go_ret
    exact ⟨ret_bool (by rw [HR.out]; rfl), rfl⟩
theorem impl_isPlain (v : Value) (d : HeadD) (w : World) (h : (kS rHead).rd w v d) :
    Calls Try.prog 89 #[v] w fun e w' => e = .returned (.bool (headB d)) ∧ Below w.heap.size w w' := by
  obtain ⟨a3, n3, c3, a4, n4, c4, a5, n5, c5, rfl, _⟩ := rdHead.1 h
  clear h
  go_enter Try.func89, Try.ntmps89
  go_wp2_with (first
    | (go_at_call 178; refine (impl_isPlainHead _ _ _ _).mono ?_; rintro e w1 ⟨rfl, rfl⟩)
    | fail)
  go_ret
  exact ⟨rfl, by (repeat (first | exact Below.refl _ _ | assumption | refine Below.drew ?_ | refine Below.alloc ?_ (by first | (simp; done) | (simp; omega)) _ | refine Below.setCell ?_ (by first | (simp; done) | (simp; omega)) _))⟩
theorem spec_oHead (v : Value) (d : HeadD) (w : World) (h : (kS rHead).rd w v d) :
    Calls Try.prog 84 #[v] w fun e w' => e = .returned (.bool (headB d)) ∧ Below w.heap.size w w' := by
  obtain ⟨a3, n3, c3, a4, n4, c4, a5, n5, c5, rfl, _⟩ := rdHead.1 h
  clear h
  obtain ⟨q1, h1⟩ : ∃ q, decide (0 ≤ d.author ∧ d.author ≤ 39) = q := ⟨_, rfl⟩
  obtain ⟨q2, h2⟩ : ∃ q, decide (0 ≤ d.size ∧ d.size ≤ 64) = q := ⟨_, rfl⟩
  obtain ⟨q3, h3⟩ : ∃ q, digestB d.root = q := ⟨_, rfl⟩
  have HR : Hid (headB d = (q1 && (q2 && q3))) := by unfold Hid headB headI; rw [h1, h2, h3]
  have H1 := Lib.hid h1; have H2 := Lib.hid h2; have H3 := Lib.hid h3
  clear h1 h2 h3
  cases q1 <;> cases q2
  all_goals
    go_enter Try.func84, Try.ntmps84
    go_wp2_with (first
      | (go_at_call 86; refine (spec_l1In _ _ _ _).mono ?_; rintro e w1 ⟨rfl, rfl⟩; first | rw [H1.out] | rw [H2.out])
      | (go_at_call 175; refine (spec_l3Digest _ _).mono ?_; rintro e w1 ⟨rfl, rfl⟩; rw [H3.out])
      | fail)
    go_ret
    exact ⟨ret_bool (by rw [HR.out]; rfl), by (repeat (first | exact Below.refl _ _ | assumption | refine Below.drew ?_ | refine Below.alloc ?_ (by first | (simp; done) | (simp; omega)) _ | refine Below.setCell ?_ (by first | (simp; done) | (simp; omega)) _))⟩
def cmpB (a b : HeadD) (p : List Int) : Bool := headB a && (headB b && (decide (p.length ≤ 20) && p.all digestB))
def cmpI (a b : HeadD) (p : List Int) : Int :=
  if cmpB a b p = true then (if (a.size == b.size) = true then (if (a.root == b.root) = true then 0 else 2) else if (decide (1 ≤ a.size) && (decide (a.size < b.size) && vcR a.size b.size a.root b.root p)) = true then 1 else 3) else 0
set_option maxHeartbeats 4000000 in
theorem impl_CompareHeads (va : Value) (a : HeadD) (vb : Value) (b : HeadD) (vp : Value) (p : List Int) (w : World) (_hza : (szHead a : Int) ≤ 1000000000) (ha : (kS rHead).rd w va a) (_hzb : (szHead b : Int) ≤ 1000000000) (hb : (kS rHead).rd w vb b) (hp : Ints w vp p) :
    Calls Try.prog 18 #[va, vb, vp] w fun e w' => e = .returned (.tuple #[.int .i64 (cmpI a b p), .bool (cmpB a b p)]) ∧ Below w.heap.size w w' := by
  obtain ⟨ap, np, cp, rfl⟩ := hp.shape
  obtain ⟨aa_3, na_3, ca_3, aa_4, na_4, ca_4, aa_5, na_5, ca_5, rfl, ja_0, ja_1, ja_2, ka_3, ka_4, ka_5⟩ := rdHead.1 ha
  obtain ⟨ab_3, nb_3, cb_3, ab_4, nb_4, cb_4, ab_5, nb_5, cb_5, rfl, jb_0, jb_1, jb_2, kb_3, kb_4, kb_5⟩ := rdHead.1 hb
  obtain ⟨W, hW⟩ : ∃ W, W = ((w.alloc (.cells #[.int .i64 a.author, .int .i64 a.size, .int .i64 a.root, .slice aa_3 na_3 ca_3, .slice aa_4 na_4 ca_4, .slice aa_5 na_5 ca_5] 32)).alloc (.cells #[.int .i64 b.author, .int .i64 b.size, .int .i64 b.root, .slice ab_3 nb_3 cb_3, .slice ab_4 nb_4 cb_4, .slice ab_5 nb_5 cb_5] 32)) := ⟨_, rfl⟩
  have HWB : Hid (Below w.heap.size w W) := by unfold Hid; rw [hW]; (repeat (first | exact Below.refl _ _ | assumption | refine Below.drew ?_ | refine Below.alloc ?_ (by first | (simp; done) | (simp; omega)) _ | refine Below.setCell ?_ (by first | (simp; done) | (simp; omega)) _))
  have FX : Hid (∀ W', Below W.heap.size W W' → W'.cell? ⟨w.heap.size, 0, none⟩ = some (.int .i64 a.author) ∧ W'.cell? ⟨w.heap.size, 1, none⟩ = some (.int .i64 a.size) ∧ W'.cell? ⟨w.heap.size, 2, none⟩ = some (.int .i64 a.root) ∧ W'.cell? ⟨w.heap.size, 3, none⟩ = some (.slice aa_3 na_3 ca_3) ∧ W'.cell? ⟨w.heap.size, 4, none⟩ = some (.slice aa_4 na_4 ca_4) ∧ W'.cell? ⟨w.heap.size, 5, none⟩ = some (.slice aa_5 na_5 ca_5) ∧ W'.cell? ⟨w.heap.size + 1, 0, none⟩ = some (.int .i64 b.author) ∧ W'.cell? ⟨w.heap.size + 1, 1, none⟩ = some (.int .i64 b.size) ∧ W'.cell? ⟨w.heap.size + 1, 2, none⟩ = some (.int .i64 b.root) ∧ W'.cell? ⟨w.heap.size + 1, 3, none⟩ = some (.slice ab_3 nb_3 cb_3) ∧ W'.cell? ⟨w.heap.size + 1, 4, none⟩ = some (.slice ab_4 nb_4 cb_4) ∧ W'.cell? ⟨w.heap.size + 1, 5, none⟩ = some (.slice ab_5 nb_5 cb_5)) := fun W' hb => by
    exact ⟨box_at (by rw [hW]; simp [go_sem]) hb, box_at (by rw [hW]; simp [go_sem]) hb, box_at (by rw [hW]; simp [go_sem]) hb, box_at (by rw [hW]; simp [go_sem]) hb, box_at (by rw [hW]; simp [go_sem]) hb, box_at (by rw [hW]; simp [go_sem]) hb, box_at (by rw [hW]; simp [go_sem]) hb, box_at (by rw [hW]; simp [go_sem]) hb, box_at (by rw [hW]; simp [go_sem]) hb, box_at (by rw [hW]; simp [go_sem]) hb, box_at (by rw [hW]; simp [go_sem]) hb, box_at (by rw [hW]; simp [go_sem]) hb⟩
  have hsW : W.heap.size = w.heap.size + 2 := by rw [hW]; simp
  have Ha := Lib.hid ((kS rHead).rd_below ha HWB.out); clear ha
  have Ja_0 := Lib.hid ja_0; clear ja_0
  have Ja_1 := Lib.hid ja_1; clear ja_1
  have Ja_2 := Lib.hid ja_2; clear ja_2
  have F_a_sign := Lib.hid ((kS rProof).rd_below (w := w) (rdProof.2 ⟨_, _, _, _, _, _, _, _, _, rfl, ka_3, ka_4, ka_5⟩ : (kS rProof).rd w (.agg #[.slice aa_3 na_3 ca_3, .slice aa_4 na_4 ca_4, .slice aa_5 na_5 ca_5]) a.sign) HWB.out)
  clear ka_3 ka_4 ka_5
  have Hb := Lib.hid ((kS rHead).rd_below hb HWB.out); clear hb
  have Jb_0 := Lib.hid jb_0; clear jb_0
  have Jb_1 := Lib.hid jb_1; clear jb_1
  have Jb_2 := Lib.hid jb_2; clear jb_2
  have F_b_sign := Lib.hid ((kS rProof).rd_below (w := w) (rdProof.2 ⟨_, _, _, _, _, _, _, _, _, rfl, kb_3, kb_4, kb_5⟩ : (kS rProof).rd w (.agg #[.slice ab_3 nb_3 cb_3, .slice ab_4 nb_4 cb_4, .slice ab_5 nb_5 cb_5]) b.sign) HWB.out)
  clear kb_3 kb_4 kb_5
  have HW := Lib.hid hW; clear hW
  have HP : Hid (Ints W _ p) := hp.below HWB.out
  clear hp
  have e := HP.out.len
  obtain ⟨qa, h1⟩ : ∃ q, headB a = q := ⟨_, rfl⟩
  obtain ⟨qb, h2⟩ : ∃ q, headB b = q := ⟨_, rfl⟩
  obtain ⟨ql, h3⟩ : ∃ q, decide (p.length ≤ 20) = q := ⟨_, rfl⟩
  obtain ⟨qd, h4⟩ : ∃ q, p.all digestB = q := ⟨_, rfl⟩
  have HC : Hid (cmpB a b p = (qa && (qb && (ql && qd)))) := by unfold Hid cmpB; rw [h1, h2, h3, h4]
  have HCI : Hid (cmpI a b p = if (qa && (qb && (ql && qd))) = true then (if (a.size == b.size) = true then (if (a.root == b.root) = true then 0 else 2) else if (decide (1 ≤ a.size) && (decide (a.size < b.size) && vcR a.size b.size a.root b.root p)) = true then 1 else 3) else 0) := by unfold Hid cmpI; rw [HC.out]
  have hl : decide ((np : Int) ≤ 20) = ql := by rw [← h3, decide_eq_decide]; omega
  have H1 := Lib.hid h1; have H2 := Lib.hid h2; have H4 := Lib.hid h4
  clear h1 h2 h3 h4 e
  have no : (qa && (qb && (ql && qd))) = false → Calls Try.prog 18 #[.agg #[.int .i64 a.author, .int .i64 a.size, .int .i64 a.root, .slice aa_3 na_3 ca_3, .slice aa_4 na_4 ca_4, .slice aa_5 na_5 ca_5], .agg #[.int .i64 b.author, .int .i64 b.size, .int .i64 b.root, .slice ab_3 nb_3 cb_3, .slice ab_4 nb_4 cb_4, .slice ab_5 nb_5 cb_5], .slice ap np cp] w fun e w' => e = .returned (.tuple #[.int .i64 (cmpI a b p), .bool (cmpB a b p)]) ∧ Below w.heap.size w w' := fun hq => by
    rw [hq] at HC HCI
    rw [HC.out, HCI.out]
    have HQ : Hid (qa = false ∨ (qa = true ∧ qb = false) ∨ (qa = true ∧ qb = true ∧ ¬ (np : Int) ≤ 20) ∨ (qa = true ∧ qb = true ∧ (np : Int) ≤ 20 ∧ qd = false)) := by
      unfold Hid; cases qa <;> cases qb <;> cases ql <;> cases qd <;> simp at hq hl ⊢ <;> omega
    clear hq HC HCI hl
    rcases HQ.out with rfl | ⟨rfl, rfl⟩ | ⟨rfl, rfl, hl⟩ | ⟨rfl, rfl, hl, rfl⟩
    all_goals
      clear HQ
      go_enter Try.func18, Try.ntmps18
      go_wp2_with fail
      rw [← HW.out]
      have hcum : Below W.heap.size W W := Below.refl _ _
      obtain ⟨p0_0, p0_1, p0_2, p0_3, p0_4, p0_5, p1_0, p1_1, p1_2, p1_3, p1_4, p1_5⟩ := FX.out _ hcum
      refine (impl_isPlain _ a _ Ha.out).mono ?_
      rintro e w1 ⟨rfl, hb1⟩
      rw [H1.out]
      (replace hcum := hcum.trans (hb1.mono hcum.size)); clear hb1; clear p0_0 p0_1 p0_2 p0_3 p0_4 p0_5 p1_0 p1_1 p1_2 p1_3 p1_4 p1_5; obtain ⟨p0_0, p0_1, p0_2, p0_3, p0_4, p0_5, p1_0, p1_1, p1_2, p1_3, p1_4, p1_5⟩ := FX.out _ hcum
      go_wp2_with (first
        | (go_at_call 89; refine (impl_isPlain _ b _ ((kS rHead).rd_below Hb.out hcum)).mono ?_; rintro e w2 ⟨rfl, hb1⟩; rw [H2.out]; (replace hcum := hcum.trans (hb1.mono hcum.size)); clear hb1; clear p0_0 p0_1 p0_2 p0_3 p0_4 p0_5 p1_0 p1_1 p1_2 p1_3 p1_4 p1_5; obtain ⟨p0_0, p0_1, p0_2, p0_3, p0_4, p0_5, p1_0, p1_1, p1_2, p1_3, p1_4, p1_5⟩ := FX.out _ hcum)
        | (go_at_call 90; refine (impl_areAll _ p 91 #[] digestB _ (HP.out.below hcum) (decides_isDigest _)).mono ?_; rintro e w3 ⟨rfl, hb1⟩; rw [H4.out]; (replace hcum := hcum.trans (hb1.mono hcum.size)); clear hb1; clear p0_0 p0_1 p0_2 p0_3 p0_4 p0_5 p1_0 p1_1 p1_2 p1_3 p1_4 p1_5; obtain ⟨p0_0, p0_1, p0_2, p0_3, p0_4, p0_5, p1_0, p1_1, p1_2, p1_3, p1_4, p1_5⟩ := FX.out _ hcum)
        | fail)
      go_ret2
      exact ⟨rfl, HWB.out.trans (hcum.mono HWB.out.size)⟩
  cases hq : (qa && (qb && (ql && qd))) with
  | false => exact no hq
  | true =>
    rw [hq] at HC HCI
    obtain ⟨rfl, rfl, rfl, rfl⟩ : qa = true ∧ qb = true ∧ ql = true ∧ qd = true := by simpa using hq
    have hl' : (np : Int) ≤ 20 := of_decide_eq_true hl
    have hda := headB_yes H1.out
    have hdb := headB_yes H2.out
    obtain ⟨q1, h1⟩ : ∃ q, (a.size == b.size) = q := ⟨_, rfl⟩
    obtain ⟨q2, h2⟩ : ∃ q, (a.root == b.root) = q := ⟨_, rfl⟩
    obtain ⟨q3, h3⟩ : ∃ q, decide (1 ≤ a.size) = q := ⟨_, rfl⟩
    obtain ⟨q4, h4⟩ : ∃ q, decide (a.size < b.size) = q := ⟨_, rfl⟩
    obtain ⟨q5, h5⟩ : ∃ q, vcR a.size b.size a.root b.root p = q := ⟨_, rfl⟩
    have HI : Hid (cmpI a b p = if q1 = true then (if q2 = true then 0 else 2) else if (q3 && (q4 && q5)) = true then 1 else 3) := by
      unfold Hid; rw [HCI.out, if_pos rfl, h1, h2, h3, h4, h5]
    have HV : Hid (q3 = true → q4 = true → vcB a.size b.size a.root b.root p = true) := fun e3 e4 => by
      rw [e3] at h3; rw [e4] at h4
      have e3' := of_decide_eq_true h3
      have e4' := of_decide_eq_true h4
      unfold vcB
      rw [decide_eq_true (by omega), decide_eq_true (by omega), hda.2.2, hdb.2.2, H4.out]; rfl
    have H5 := Lib.hid h5
    rw [HC.out, HI.out]
    clear no hq HCI HC hl hda hdb HI h5
    rcases (by cases q1 <;> cases q2 <;> cases q3 <;> cases q4 <;> cases q5 <;> simp : (q1 = true ∧ q2 = true) ∨ (q1 = true ∧ q2 = false) ∨ (q1 = false ∧ q3 = false) ∨ (q1 = false ∧ q3 = true ∧ q4 = false) ∨ (q1 = false ∧ q3 = true ∧ q4 = true ∧ q5 = true) ∨ (q1 = false ∧ q3 = true ∧ q4 = true ∧ q5 = false)) with ⟨rfl, rfl⟩ | ⟨rfl, rfl⟩ | ⟨rfl, rfl⟩ | ⟨rfl, rfl, rfl⟩ | ⟨rfl, rfl, rfl, rfl⟩ | ⟨rfl, rfl, rfl, rfl⟩
    all_goals
      go_enter Try.func18, Try.ntmps18
      go_wp2_with fail
      rw [← HW.out]
      have hcum : Below W.heap.size W W := Below.refl _ _
      obtain ⟨p0_0, p0_1, p0_2, p0_3, p0_4, p0_5, p1_0, p1_1, p1_2, p1_3, p1_4, p1_5⟩ := FX.out _ hcum
      refine (impl_isPlain _ a _ Ha.out).mono ?_
      rintro e w1 ⟨rfl, hb1⟩
      rw [H1.out]
      (replace hcum := hcum.trans (hb1.mono hcum.size)); clear hb1; clear p0_0 p0_1 p0_2 p0_3 p0_4 p0_5 p1_0 p1_1 p1_2 p1_3 p1_4 p1_5; obtain ⟨p0_0, p0_1, p0_2, p0_3, p0_4, p0_5, p1_0, p1_1, p1_2, p1_3, p1_4, p1_5⟩ := FX.out _ hcum
      go_wp2_with (first
        | (go_at_call 89; refine (impl_isPlain _ b _ ((kS rHead).rd_below Hb.out hcum)).mono ?_; rintro e w2 ⟨rfl, hb1⟩; rw [H2.out]; (replace hcum := hcum.trans (hb1.mono hcum.size)); clear hb1; clear p0_0 p0_1 p0_2 p0_3 p0_4 p0_5 p1_0 p1_1 p1_2 p1_3 p1_4 p1_5; obtain ⟨p0_0, p0_1, p0_2, p0_3, p0_4, p0_5, p1_0, p1_1, p1_2, p1_3, p1_4, p1_5⟩ := FX.out _ hcum)
        | (go_at_call 90; refine (impl_areAll _ p 91 #[] digestB _ (HP.out.below hcum) (decides_isDigest _)).mono ?_; rintro e w3 ⟨rfl, hb1⟩; rw [H4.out]; (replace hcum := hcum.trans (hb1.mono hcum.size)); clear hb1; clear p0_0 p0_1 p0_2 p0_3 p0_4 p0_5 p1_0 p1_1 p1_2 p1_3 p1_4 p1_5; obtain ⟨p0_0, p0_1, p0_2, p0_3, p0_4, p0_5, p1_0, p1_1, p1_2, p1_3, p1_4, p1_5⟩ := FX.out _ hcum)
        | (go_at_call 73; refine (impl_VerifyConsistency _ _ _ _ _ p _ Ja_2.out Jb_2.out (HP.out.below hcum)).mono ?_; rintro e w4 ⟨rfl, hb1⟩; rw [H5.out, HV.out (by trivial) (by trivial)]; (replace hcum := hcum.trans (hb1.mono hcum.size)); clear hb1; clear p0_0 p0_1 p0_2 p0_3 p0_4 p0_5 p1_0 p1_1 p1_2 p1_3 p1_4 p1_5; obtain ⟨p0_0, p0_1, p0_2, p0_3, p0_4, p0_5, p1_0, p1_1, p1_2, p1_3, p1_4, p1_5⟩ := FX.out _ hcum)
        | fail)
      go_ret2
      exact ⟨rfl, HWB.out.trans (hcum.mono HWB.out.size)⟩
set_option maxHeartbeats 4000000 in
theorem spec_CompareHeads (va : Value) (a : HeadD) (vb : Value) (b : HeadD) (vp : Value) (p : List Int) (w : World) (_hza : (szHead a : Int) ≤ 1000000000) (ha : (kS rHead).rd w va a) (_hzb : (szHead b : Int) ≤ 1000000000) (hb : (kS rHead).rd w vb b) (hp : Ints w vp p) :
    Calls Try.prog 15 #[va, vb, vp] w fun e w' => e = .returned (.tuple #[.int .i64 (cmpI a b p), .bool (cmpB a b p)]) ∧ Below w.heap.size w w' := by
  obtain ⟨ap, np, cp, rfl⟩ := hp.shape
  obtain ⟨aa_3, na_3, ca_3, aa_4, na_4, ca_4, aa_5, na_5, ca_5, rfl, ja_0, ja_1, ja_2, ka_3, ka_4, ka_5⟩ := rdHead.1 ha
  obtain ⟨ab_3, nb_3, cb_3, ab_4, nb_4, cb_4, ab_5, nb_5, cb_5, rfl, jb_0, jb_1, jb_2, kb_3, kb_4, kb_5⟩ := rdHead.1 hb
  obtain ⟨W, hW⟩ : ∃ W, W = ((w.alloc (.cells #[.int .i64 a.author, .int .i64 a.size, .int .i64 a.root, .slice aa_3 na_3 ca_3, .slice aa_4 na_4 ca_4, .slice aa_5 na_5 ca_5] 32)).alloc (.cells #[.int .i64 b.author, .int .i64 b.size, .int .i64 b.root, .slice ab_3 nb_3 cb_3, .slice ab_4 nb_4 cb_4, .slice ab_5 nb_5 cb_5] 32)) := ⟨_, rfl⟩
  have HWB : Hid (Below w.heap.size w W) := by unfold Hid; rw [hW]; (repeat (first | exact Below.refl _ _ | assumption | refine Below.drew ?_ | refine Below.alloc ?_ (by first | (simp; done) | (simp; omega)) _ | refine Below.setCell ?_ (by first | (simp; done) | (simp; omega)) _))
  have FX : Hid (∀ W', Below W.heap.size W W' → W'.cell? ⟨w.heap.size, 0, none⟩ = some (.int .i64 a.author) ∧ W'.cell? ⟨w.heap.size, 1, none⟩ = some (.int .i64 a.size) ∧ W'.cell? ⟨w.heap.size, 2, none⟩ = some (.int .i64 a.root) ∧ W'.cell? ⟨w.heap.size, 3, none⟩ = some (.slice aa_3 na_3 ca_3) ∧ W'.cell? ⟨w.heap.size, 4, none⟩ = some (.slice aa_4 na_4 ca_4) ∧ W'.cell? ⟨w.heap.size, 5, none⟩ = some (.slice aa_5 na_5 ca_5) ∧ W'.cell? ⟨w.heap.size + 1, 0, none⟩ = some (.int .i64 b.author) ∧ W'.cell? ⟨w.heap.size + 1, 1, none⟩ = some (.int .i64 b.size) ∧ W'.cell? ⟨w.heap.size + 1, 2, none⟩ = some (.int .i64 b.root) ∧ W'.cell? ⟨w.heap.size + 1, 3, none⟩ = some (.slice ab_3 nb_3 cb_3) ∧ W'.cell? ⟨w.heap.size + 1, 4, none⟩ = some (.slice ab_4 nb_4 cb_4) ∧ W'.cell? ⟨w.heap.size + 1, 5, none⟩ = some (.slice ab_5 nb_5 cb_5)) := fun W' hb => by
    exact ⟨box_at (by rw [hW]; simp [go_sem]) hb, box_at (by rw [hW]; simp [go_sem]) hb, box_at (by rw [hW]; simp [go_sem]) hb, box_at (by rw [hW]; simp [go_sem]) hb, box_at (by rw [hW]; simp [go_sem]) hb, box_at (by rw [hW]; simp [go_sem]) hb, box_at (by rw [hW]; simp [go_sem]) hb, box_at (by rw [hW]; simp [go_sem]) hb, box_at (by rw [hW]; simp [go_sem]) hb, box_at (by rw [hW]; simp [go_sem]) hb, box_at (by rw [hW]; simp [go_sem]) hb, box_at (by rw [hW]; simp [go_sem]) hb⟩
  have hsW : W.heap.size = w.heap.size + 2 := by rw [hW]; simp
  have Ha := Lib.hid ((kS rHead).rd_below ha HWB.out); clear ha
  have Ja_0 := Lib.hid ja_0; clear ja_0
  have Ja_1 := Lib.hid ja_1; clear ja_1
  have Ja_2 := Lib.hid ja_2; clear ja_2
  have F_a_sign := Lib.hid ((kS rProof).rd_below (w := w) (rdProof.2 ⟨_, _, _, _, _, _, _, _, _, rfl, ka_3, ka_4, ka_5⟩ : (kS rProof).rd w (.agg #[.slice aa_3 na_3 ca_3, .slice aa_4 na_4 ca_4, .slice aa_5 na_5 ca_5]) a.sign) HWB.out)
  clear ka_3 ka_4 ka_5
  have Hb := Lib.hid ((kS rHead).rd_below hb HWB.out); clear hb
  have Jb_0 := Lib.hid jb_0; clear jb_0
  have Jb_1 := Lib.hid jb_1; clear jb_1
  have Jb_2 := Lib.hid jb_2; clear jb_2
  have F_b_sign := Lib.hid ((kS rProof).rd_below (w := w) (rdProof.2 ⟨_, _, _, _, _, _, _, _, _, rfl, kb_3, kb_4, kb_5⟩ : (kS rProof).rd w (.agg #[.slice ab_3 nb_3 cb_3, .slice ab_4 nb_4 cb_4, .slice ab_5 nb_5 cb_5]) b.sign) HWB.out)
  clear kb_3 kb_4 kb_5
  have HW := Lib.hid hW; clear hW
  have HP : Hid (Ints W _ p) := hp.below HWB.out
  clear hp
  have e := HP.out.len
  obtain ⟨qa, h1⟩ : ∃ q, headB a = q := ⟨_, rfl⟩
  obtain ⟨qb, h2⟩ : ∃ q, headB b = q := ⟨_, rfl⟩
  obtain ⟨ql, h3⟩ : ∃ q, decide (p.length ≤ 20) = q := ⟨_, rfl⟩
  obtain ⟨qd, h4⟩ : ∃ q, p.all digestB = q := ⟨_, rfl⟩
  have HC : Hid (cmpB a b p = (qa && (qb && (ql && qd)))) := by unfold Hid cmpB; rw [h1, h2, h3, h4]
  have HCI : Hid (cmpI a b p = if (qa && (qb && (ql && qd))) = true then (if (a.size == b.size) = true then (if (a.root == b.root) = true then 0 else 2) else if (decide (1 ≤ a.size) && (decide (a.size < b.size) && vcR a.size b.size a.root b.root p)) = true then 1 else 3) else 0) := by unfold Hid cmpI; rw [HC.out]
  have hl : decide ((np : Int) ≤ 20) = ql := by rw [← h3, decide_eq_decide]; omega
  have H1 := Lib.hid h1; have H2 := Lib.hid h2; have H4 := Lib.hid h4
  have H4b : Hid ((p.all fun x => decide (0 ≤ x ∧ x ≤ 4611686018427387903)) = qd) := h4
  clear h1 h2 h3 h4 e
  have no : (qa && (qb && (ql && qd))) = false → Calls Try.prog 15 #[.agg #[.int .i64 a.author, .int .i64 a.size, .int .i64 a.root, .slice aa_3 na_3 ca_3, .slice aa_4 na_4 ca_4, .slice aa_5 na_5 ca_5], .agg #[.int .i64 b.author, .int .i64 b.size, .int .i64 b.root, .slice ab_3 nb_3 cb_3, .slice ab_4 nb_4 cb_4, .slice ab_5 nb_5 cb_5], .slice ap np cp] w fun e w' => e = .returned (.tuple #[.int .i64 (cmpI a b p), .bool (cmpB a b p)]) ∧ Below w.heap.size w w' := fun hq => by
    rw [hq] at HC HCI
    rw [HC.out, HCI.out]
    have HQ : Hid (qa = false ∨ (qa = true ∧ qb = false) ∨ (qa = true ∧ qb = true ∧ ¬ (np : Int) ≤ 20) ∨ (qa = true ∧ qb = true ∧ (np : Int) ≤ 20 ∧ qd = false)) := by
      unfold Hid; cases qa <;> cases qb <;> cases ql <;> cases qd <;> simp at hq hl ⊢ <;> omega
    clear hq HC HCI hl
    rcases HQ.out with rfl | ⟨rfl, rfl⟩ | ⟨rfl, rfl, hl⟩ | ⟨rfl, rfl, hl, rfl⟩
    all_goals
      clear HQ
      go_enter Try.func15, Try.ntmps15
      go_wp2_with fail
      rw [← HW.out]
      have hcum : Below W.heap.size W W := Below.refl _ _
      obtain ⟨p0_0, p0_1, p0_2, p0_3, p0_4, p0_5, p1_0, p1_1, p1_2, p1_3, p1_4, p1_5⟩ := FX.out _ hcum
      refine (spec_oHead _ a _ Ha.out).mono ?_
      rintro e w1 ⟨rfl, hb1⟩
      rw [H1.out]
      (replace hcum := hcum.trans (hb1.mono hcum.size)); clear hb1; clear p0_0 p0_1 p0_2 p0_3 p0_4 p0_5 p1_0 p1_1 p1_2 p1_3 p1_4 p1_5; obtain ⟨p0_0, p0_1, p0_2, p0_3, p0_4, p0_5, p1_0, p1_1, p1_2, p1_3, p1_4, p1_5⟩ := FX.out _ hcum
      go_wp2_with (first
        | (go_at_call 84; refine (spec_oHead _ b _ ((kS rHead).rd_below Hb.out hcum)).mono ?_; rintro e w2 ⟨rfl, hb1⟩; rw [H2.out]; (replace hcum := hcum.trans (hb1.mono hcum.size)); clear hb1; clear p0_0 p0_1 p0_2 p0_3 p0_4 p0_5 p1_0 p1_1 p1_2 p1_3 p1_4 p1_5; obtain ⟨p0_0, p0_1, p0_2, p0_3, p0_4, p0_5, p1_0, p1_1, p1_2, p1_3, p1_4, p1_5⟩ := FX.out _ hcum)
        | (go_at_call 85; refine (spec_l1All _ p 0 4611686018427387903 _ (HP.out.below hcum)).mono ?_; rintro e w3 ⟨rfl, rfl⟩; rw [H4b.out])
        | fail)
      go_ret2
      exact ⟨rfl, HWB.out.trans (hcum.mono HWB.out.size)⟩
  cases hq : (qa && (qb && (ql && qd))) with
  | false => exact no hq
  | true =>
    rw [hq] at HC HCI
    obtain ⟨rfl, rfl, rfl, rfl⟩ : qa = true ∧ qb = true ∧ ql = true ∧ qd = true := by simpa using hq
    have hl' : (np : Int) ≤ 20 := of_decide_eq_true hl
    have hda := headB_yes H1.out
    have hdb := headB_yes H2.out
    obtain ⟨q1, h1⟩ : ∃ q, (a.size == b.size) = q := ⟨_, rfl⟩
    obtain ⟨q2, h2⟩ : ∃ q, (a.root == b.root) = q := ⟨_, rfl⟩
    obtain ⟨q3, h3⟩ : ∃ q, decide (1 ≤ a.size) = q := ⟨_, rfl⟩
    obtain ⟨q4, h4⟩ : ∃ q, decide (a.size < b.size) = q := ⟨_, rfl⟩
    obtain ⟨q5, h5⟩ : ∃ q, vcR a.size b.size a.root b.root p = q := ⟨_, rfl⟩
    have HI : Hid (cmpI a b p = if q1 = true then (if q2 = true then 0 else 2) else if (q3 && (q4 && q5)) = true then 1 else 3) := by
      unfold Hid; rw [HCI.out, if_pos rfl, h1, h2, h3, h4, h5]
    obtain ⟨t1, t2, t3, ht⟩ : ∃ t1 t2 t3, bothN 65 a.size.toNat b.size.toNat a.root true p = (t1, t2, t3) := ⟨_, _, _, rfl⟩
    have HT := Lib.hid ht
    have HDA := Lib.hid hda.2.2
    have HV2 : Hid (q3 = true → q4 = true → b.size ≤ 64 ∧ 1 ≤ a.size ∧ a.size ≤ b.size) := fun e3 e4 => by
      rw [e3] at h3; rw [e4] at h4
      have e3' := of_decide_eq_true h3
      have e4' := of_decide_eq_true h4
      omega
    have HV : Hid (q3 = true → q4 = true → (t3 && (decide (t1 = a.root) && decide (t2 = b.root))) = q5) := fun e3 e4 => by
      rw [e3] at h3; rw [e4] at h4
      have e3' := of_decide_eq_true h3
      have e4' := of_decide_eq_true h4
      have hv : vcB a.size b.size a.root b.root p = true := by
        unfold vcB; rw [decide_eq_true (by omega), decide_eq_true (by omega), hda.2.2, hdb.2.2, H4.out]; rfl
      rw [← h5]
      unfold vcR
      rw [hv, ht]; rfl
    have H34 : Hid (decide (1 ≤ a.size ∧ a.size ≤ b.size - 1) = (q3 && q4)) := by
      unfold Hid; rw [← h3, ← h4, Bool.eq_iff_iff]; simp only [Bool.and_eq_true, decide_eq_true_eq]; omega
    have ew : IntKind.i64.wrap (b.size - 1) = b.size - 1 := IntWalk.i64_in _ (by omega)
    rw [HC.out, HI.out]
    clear no hq HCI HC hl hda hdb HI h5 ht
    rcases (by cases q1 <;> cases q2 <;> cases q3 <;> cases q4 <;> cases q5 <;> simp : (q1 = true ∧ q2 = true) ∨ (q1 = true ∧ q2 = false) ∨ (q1 = false ∧ q3 = false) ∨ (q1 = false ∧ q3 = true ∧ q4 = false) ∨ (q1 = false ∧ q3 = true ∧ q4 = true ∧ q5 = true) ∨ (q1 = false ∧ q3 = true ∧ q4 = true ∧ q5 = false)) with ⟨rfl, rfl⟩ | ⟨rfl, rfl⟩ | ⟨rfl, rfl⟩ | ⟨rfl, rfl, rfl⟩ | ⟨rfl, rfl, rfl, rfl⟩ | ⟨rfl, rfl, rfl, rfl⟩
    all_goals
      go_enter Try.func15, Try.ntmps15
      go_wp2_with fail
      rw [← HW.out]
      have hcum : Below W.heap.size W W := Below.refl _ _
      obtain ⟨p0_0, p0_1, p0_2, p0_3, p0_4, p0_5, p1_0, p1_1, p1_2, p1_3, p1_4, p1_5⟩ := FX.out _ hcum
      refine (spec_oHead _ a _ Ha.out).mono ?_
      rintro e w1 ⟨rfl, hb1⟩
      rw [H1.out]
      (replace hcum := hcum.trans (hb1.mono hcum.size)); clear hb1; clear p0_0 p0_1 p0_2 p0_3 p0_4 p0_5 p1_0 p1_1 p1_2 p1_3 p1_4 p1_5; obtain ⟨p0_0, p0_1, p0_2, p0_3, p0_4, p0_5, p1_0, p1_1, p1_2, p1_3, p1_4, p1_5⟩ := FX.out _ hcum
      go_wp2_with (first
        | (go_at_call 84; refine (spec_oHead _ b _ ((kS rHead).rd_below Hb.out hcum)).mono ?_; rintro e w2 ⟨rfl, hb1⟩; rw [H2.out]; (replace hcum := hcum.trans (hb1.mono hcum.size)); clear hb1; clear p0_0 p0_1 p0_2 p0_3 p0_4 p0_5 p1_0 p1_1 p1_2 p1_3 p1_4 p1_5; obtain ⟨p0_0, p0_1, p0_2, p0_3, p0_4, p0_5, p1_0, p1_1, p1_2, p1_3, p1_4, p1_5⟩ := FX.out _ hcum)
        | (go_at_call 85; refine (spec_l1All _ p 0 4611686018427387903 _ (HP.out.below hcum)).mono ?_; rintro e w3 ⟨rfl, rfl⟩; rw [H4b.out])
        | (go_at_call 86; refine (spec_l1In _ _ _ _).mono ?_; rintro e w4 ⟨rfl, rfl⟩; rw [H34.out])
        | (go_at_call 87; refine (spec_kConsistent _ _ _ _ _ p t1 t2 t3 _ (HP.out.below hcum) (HV2.out (by trivial) (by trivial)).1 (HV2.out (by trivial) (by trivial)).2.1 (HV2.out (by trivial) (by trivial)).2.2 H4.out HDA.out HT.out).mono ?_; rintro e w5 ⟨rfl, hb1⟩; rw [HV.out (by trivial) (by trivial)]; (replace hcum := hcum.trans (hb1.mono hcum.size)); clear hb1; clear p0_0 p0_1 p0_2 p0_3 p0_4 p0_5 p1_0 p1_1 p1_2 p1_3 p1_4 p1_5; obtain ⟨p0_0, p0_1, p0_2, p0_3, p0_4, p0_5, p1_0, p1_1, p1_2, p1_3, p1_4, p1_5⟩ := FX.out _ hcum)
        | fail)
      go_ret2
      exact ⟨rfl, HWB.out.trans (hcum.mono HWB.out.size)⟩
end Go.Proofs.Ytaobocbbaoanhaa
