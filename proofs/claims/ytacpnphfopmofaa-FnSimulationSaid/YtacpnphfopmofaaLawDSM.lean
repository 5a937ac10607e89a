/- The walk of FnSimulation (printed by gen_lawsim.py). -/
import Derived.Test.YtacpnphfopmofaaSim10SM
import Derived.Test.YtacpnphfopmofaaSim8SM
import Derived.Test.YtacpnphfopmofaaCtSM
import Derived.Test.YtacpnphfopmofaaDrSimSM
import Derived.Test.YtacpnphfopmofaaPow1SM
import Derived.Test.YtacpnphfopmofaaBmSM
import Derived.WalkKit
import Derived.ProofKit
import Derived.OpenShut
import Derived.JoinedCond
import Derived.Lib.SmallJoins
import Derived.Deep.Fields
import Derived.Test.YtacpnphfopmofaaDrG1SM
namespace Go.Proofs.Ytacpnphfopmofaa
open Go.RowKit
set_option linter.unusedSimpArgs false
set_option linter.unusedVariables false

/-- some exponent below k makes the statement true -/
noncomputable def anT (gr : GroupD) (d : EqualLogD) : Nat → Bool
  | 0 => false
  | k + 1 => anT gr d k || (itR gr d k && itB gr d k)
theorem anT_has {gr : GroupD} {d : EqualLogD} {k : Nat} (h : (itR gr d k && itB gr d k) = true) : ∀ n, k < n → anT gr d n = true := by
  intro n
  induction n with
  | zero => intro h; omega
  | succ n ih =>
    intro hk
    unfold anT
    by_cases e : k = n
    · subst e; rw [h, Bool.or_true]
    · rw [ih (by omega), Bool.true_or]
theorem an_all {gr : GroupD} {d : EqualLogD} {a b : Int} (h : ansB gr d a b = true) (h1 : 1 < ansR gr d a b) : anT gr d gr.q.toNat = true := by
  obtain ⟨⟨hc, he⟩, ⟨ha, hb⟩, k1, k2⟩ := ansB_parts h
  obtain ⟨hq, hg⟩ := cntB_parts hc
  have hgd : goodG gr = true := by unfold cntB at hc; simp only [Bool.and_eq_true] at hc; exact hc.2
  unfold ansR at h1
  rw [if_pos h] at h1
  have hq1 := hg.q1
  obtain ⟨k, hk, ht⟩ := ac_true hg he k1 ha hb (Q := gr.q.toNat) (by omega) (by omega)
  refine anT_has (k := k) ?_ _ hk
  have hx : expB gr (k : Int) = true := by unfold expB; rw [decide_eq_true_iff]; omega
  have hB : itB gr d k = true := by unfold itB; rw [hgd, he, hx]; rfl
  unfold itR
  rw [hB, ht]
  rfl
theorem sl_all {gr : GroupD} {b x : Int} (h : rlB gr b x = true) : (exB gr b x = true ∧ slB gr b (exR gr b x) = true) ∧ slL gr b (exR gr b x) = rlL gr b x := by
  have h0 := h
  unfold rlB at h0
  simp only [Bool.and_eq_true] at h0
  obtain ⟨hc, hb, hx⟩ := h0
  obtain ⟨hq, hg⟩ := cntB_parts hc
  have hgd : goodG gr = true := by unfold cntB at hc; simp only [Bool.and_eq_true] at hc; exact hc.2
  have hq1 := hg.q1
  have e1 : exB gr b x = true := by unfold exB; rw [hgd, hb, hx]; rfl
  have e2 : exR gr b x = powE gr b x := by unfold exR; rw [if_pos e1]
  have e3 : slB gr b (exR gr b x) = true := by
    unfold slB
    rw [e2, hc]
    simp [hb, elT_pow hg hb x]
  refine ⟨⟨e1, e3⟩, ?_⟩
  unfold slL rlL
  rw [if_pos e3, if_pos h, e2]
  exact (sim_same hg (by omega) hb).symm
theorem rl_len {gr : GroupD} {b x : Int} : (rlL gr b x).length ≤ 1000 := by
  unfold rlL
  split
  · rename_i h
    unfold rlB at h
    simp only [Bool.and_eq_true] at h
    obtain ⟨hq, hg⟩ := cntB_parts h.1
    rw [trS_len, rtL_len]
    have : gr.q.toNat * gr.q.toNat ≤ 23 * 23 := Nat.mul_le_mul (by omega) (by omega)
    omega
  · exact Nat.zero_le _
set_option maxRecDepth 100000 in
set_option maxHeartbeats 8000000 in
theorem law_Simulation (va vb : Value) (w : World) (h1 : Bytes w va) (h2 : Bytes w vb) :
    Calls Try.prog 3 #[va, vb] w fun e w' => e = .returned (.bool true) ∧ Below w.heap.size w w' := by
  obtain ⟨a, m, c, rfl, k1, k2, hv⟩ := h1
  obtain ⟨a', m', c', rfl, k3, k4, hv'⟩ := h2
  have H1 : Hid (Bytes w (.slice a m c)) := ⟨a, m, c, rfl, k1, k2, hv⟩
  have H2 : Hid (Bytes w (.slice a' m' c')) := ⟨a', m', c', rfl, k3, k4, hv'⟩
  clear hv hv'
  unfold maxLen at k2 k4
  by_cases hbig : (1048576 : Int) < wrap64 ((m : Int) + (m' : Int))
  · go_enter Try.func3, Try.ntmps3
    go_wp2_with fail
    go_ret
    exact ⟨rfl, Below.refl _ _⟩
  have HB : Hid (Below w.heap.size w w) := Below.refl _ _
  go_enter Try.func3, Try.ntmps3
  go_wp2_with fail
  try (go_wp2_with fail)
  refine (spec_DrawRealTranscripts _ _ (H1.out.below HB.out)).mono ?_
  rintro e u1 ⟨⟨P, Q, G, b, x, rfl, hgr, ⟨bl, bu⟩, ⟨xl, xu⟩⟩, hb⟩
  clear hgr
  replace HB := Lib.hid (Below.next HB.out hb)
  clear hb
  obtain ⟨GA, hGA⟩ : ∃ b, b = u1.heap.size := ⟨_, rfl⟩
  obtain ⟨V1, hV⟩ : ∃ V, V = u1.alloc (.cells #[.int .i64 P, .int .i64 Q, .int .i64 G] 24) := ⟨_, rfl⟩
  have hbV : Below u1.heap.size u1 V1 := by rw [hV]; exact (Below.refl _ _).alloc (Nat.le_refl _) _
  have HZ1 : Hid (BoxN V1 GA 24 [.int .i64 P, .int .i64 Q, .int .i64 G]) := by unfold Hid; rw [hV, hGA]; exact BoxN.new u1 [.int .i64 P, .int .i64 Q, .int .i64 G] _
  go_upto_region 4 with fail
  rw [← hV, ← hGA]
  clear hV hGA
  have hs_0 := hbV.size
  replace HB := Lib.hid (Below.next HB.out hbV)
  clear hbV
  have z0 := HZ1.out.cell (i := 0) rfl
  have z1 := HZ1.out.cell (i := 1) rfl
  have z2 := HZ1.out.cell (i := 2) rfl
  try (go_wp2_with fail)
  clear z0 z1 z2
  refine (impl_RealTranscripts ⟨P, Q, G⟩ b x V1 ⟨by omega, by omega⟩ ⟨by omega, by omega⟩).mono ?_
  rintro e u2 ⟨⟨lv, rfl, hl⟩, hb⟩
  have hs_1 := hb.size
  replace HB := Lib.hid (Below.next HB.out hb)
  replace HZ1 := Lib.hid (HZ1.out.below hb)
  clear hb
  obtain ⟨R, hR⟩ : ∃ z, rlB ⟨P, Q, G⟩ b x = z := ⟨_, rfl⟩
  obtain ⟨L, hL⟩ : ∃ z, rlL ⟨P, Q, G⟩ b x = z := ⟨_, rfl⟩
  have HLN : Hid (L.length ≤ 1000) := by unfold Hid; rw [← hL]; exact rl_len
  have HRE := Lib.hid hR
  have HLE := Lib.hid hL
  rw [hL] at hl
  rw [hR]
  obtain ⟨la, lc, rfl⟩ := hl.shape
  obtain ⟨N, hN⟩ : ∃ z, L.length = z := ⟨_, rfl⟩
  rw [hN] at hl HLN ⊢
  have HNE := Lib.hid hN
  have HL1 := Lib.hid hl
  clear hl hR hL hN
  have z0 := HZ1.out.cell (i := 0) rfl
  have z1 := HZ1.out.cell (i := 1) rfl
  have z2 := HZ1.out.cell (i := 2) rfl
  try (go_wp2_with fail)
  clear z0 z1 z2
  refine (spec_RealTranscripts ⟨P, Q, G⟩ b x u2 ⟨by omega, by omega⟩ ⟨by omega, by omega⟩).mono ?_
  rintro e u3 ⟨⟨lv, rfl, hl⟩, hb⟩
  have hs_2 := hb.size
  replace HB := Lib.hid (Below.next HB.out hb)
  replace HZ1 := Lib.hid (HZ1.out.below hb)
  replace HL1 := Lib.hid (HL1.out.below hb)
  clear hb
  rw [HLE.out] at hl
  rw [HRE.out]
  obtain ⟨ra, rc, rfl⟩ := hl.shape
  rw [HNE.out] at hl ⊢
  have HL2 := Lib.hid hl
  clear hl
  try (go_wp2_with fail)
  refine (spec_DrawAnswerableChallenges _ _ (H2.out.below HB.out)).mono ?_
  rintro e u4 ⟨⟨P2, Q2, G2, y1, y2, y3, y4, p1, p2, rfl, hgr, ⟨⟨y1l, y1u⟩, ⟨y2l, y2u⟩⟩, ⟨⟨y3l, y3u⟩, ⟨y4l, y4u⟩⟩, ⟨p1l, p1u⟩, ⟨p2l, p2u⟩⟩, hb⟩
  clear hgr
  have HEB : Hid ((I64 y1 ∧ I64 y2) ∧ (I64 y3 ∧ I64 y4)) := ⟨⟨⟨by omega, by omega⟩, ⟨by omega, by omega⟩⟩, ⟨⟨by omega, by omega⟩, ⟨by omega, by omega⟩⟩⟩
  have hs_3 := hb.size
  replace HB := Lib.hid (Below.next HB.out hb)
  replace HZ1 := Lib.hid (HZ1.out.below hb)
  replace HL1 := Lib.hid (HL1.out.below hb)
  replace HL2 := Lib.hid (HL2.out.below hb)
  clear hb
  obtain ⟨GB, hGB⟩ : ∃ b, b = u4.heap.size := ⟨_, rfl⟩
  obtain ⟨EB, hEB⟩ : ∃ b, b = u4.heap.size + 1 := ⟨_, rfl⟩
  obtain ⟨V5, hV⟩ : ∃ V, V = (u4.alloc (.cells #[.int .i64 P2, .int .i64 Q2, .int .i64 G2] 24)).alloc (.cells #[.int .i64 y1, .int .i64 y2, .int .i64 y3, .int .i64 y4] 31) := ⟨_, rfl⟩
  have hbV : Below u4.heap.size u4 V5 := by rw [hV]; (repeat (first | exact Below.refl _ _ | assumption | refine Below.drew ?_ | refine Below.alloc ?_ (by first | (simp; done) | (simp; omega)) _ | refine Below.setCell ?_ (by first | (simp; done) | (simp; omega)) _))
  have HZ2 : Hid (BoxN V5 GB 24 [.int .i64 P2, .int .i64 Q2, .int .i64 G2]) := by unfold Hid; rw [hV, hGB]; exact (BoxN.new u4 [.int .i64 P2, .int .i64 Q2, .int .i64 G2] 24).alloc _
  have HZ3 : Hid (BoxN V5 EB 31 [.int .i64 y1, .int .i64 y2, .int .i64 y3, .int .i64 y4]) := by unfold Hid; rw [hV, hEB]; have h := (BoxN.new (u4.alloc (.cells #[.int .i64 P2, .int .i64 Q2, .int .i64 G2] 24)) [.int .i64 y1, .int .i64 y2, .int .i64 y3, .int .i64 y4] 31); simpa using h
  go_upto_region 7 with fail
  rw [← hV]
  (try rw [← hEB])
  (try rw [← hGB])
  clear hV hEB hGB
  have hs_4 := hbV.size
  replace HB := Lib.hid (Below.next HB.out hbV)
  replace HZ1 := Lib.hid (HZ1.out.below hbV)
  replace HL1 := Lib.hid (HL1.out.below hbV)
  replace HL2 := Lib.hid (HL2.out.below hbV)
  clear hbV
  have a0 := HZ2.out.cell (i := 0) rfl
  have a1 := HZ2.out.cell (i := 1) rfl
  have a2 := HZ2.out.cell (i := 2) rfl
  have d0 := HZ3.out.cell (i := 0) rfl
  have d1 := HZ3.out.cell (i := 1) rfl
  have d2 := HZ3.out.cell (i := 2) rfl
  have d3 := HZ3.out.cell (i := 3) rfl
  try (go_wp2_with fail)
  clear a0 a1 a2 d0 d1 d2 d3
  refine (impl_AnswerableChallenges ⟨P2, Q2, G2⟩ ⟨y1, y2, y3, y4⟩ p1 p2 V5 HEB.out ⟨by omega, by omega⟩ ⟨by omega, by omega⟩).mono ?_
  rintro e u6 ⟨rfl, hb⟩
  have hs_5 := hb.size
  replace HB := Lib.hid (Below.next HB.out hb)
  replace HZ1 := Lib.hid (HZ1.out.below hb)
  replace HL1 := Lib.hid (HL1.out.below hb)
  replace HL2 := Lib.hid (HL2.out.below hb)
  replace HZ2 := Lib.hid (HZ2.out.below hb)
  replace HZ3 := Lib.hid (HZ3.out.below hb)
  clear hb
  obtain ⟨A, hA⟩ : ∃ z, ansR ⟨P2, Q2, G2⟩ ⟨y1, y2, y3, y4⟩ p1 p2 = z := ⟨_, rfl⟩
  rw [hA]
  have HAE := Lib.hid hA
  clear hA
  obtain ⟨qa, hqa⟩ : ∃ z, ansB ⟨P2, Q2, G2⟩ ⟨y1, y2, y3, y4⟩ p1 p2 = z := ⟨_, rfl⟩
  rw [hqa]
  have HAB := Lib.hid hqa
  clear hqa
  have a0 := HZ2.out.cell (i := 0) rfl
  have a1 := HZ2.out.cell (i := 1) rfl
  have a2 := HZ2.out.cell (i := 2) rfl
  have d0 := HZ3.out.cell (i := 0) rfl
  have d1 := HZ3.out.cell (i := 1) rfl
  have d2 := HZ3.out.cell (i := 2) rfl
  have d3 := HZ3.out.cell (i := 3) rfl
  try (go_wp2_with fail)
  clear a0 a1 a2 d0 d1 d2 d3
  refine (spec_AnswerableChallenges ⟨P2, Q2, G2⟩ ⟨y1, y2, y3, y4⟩ p1 p2 u6 HEB.out ⟨by omega, by omega⟩ ⟨by omega, by omega⟩).mono ?_
  rintro e u7 ⟨rfl, hb⟩
  have hs_6 := hb.size
  replace HB := Lib.hid (Below.next HB.out hb)
  replace HZ1 := Lib.hid (HZ1.out.below hb)
  replace HL1 := Lib.hid (HL1.out.below hb)
  replace HL2 := Lib.hid (HL2.out.below hb)
  replace HZ2 := Lib.hid (HZ2.out.below hb)
  replace HZ3 := Lib.hid (HZ3.out.below hb)
  clear hb
  rw [HAE.out, HAB.out]
  have bR : (R == R) = true := by simp
  have bRn : (R != R) = false := by simp
  have bN : ((N : Int) == (N : Int)) = true := by simp
  have bNn : ((N : Int) != (N : Int)) = false := by simp
  have bq : (qa == qa) = true := by simp
  have bqn : (qa != qa) = false := by simp
  have bA : (A == A) = true := by simp
  have bAn : (A != A) = false := by simp
  go_upto_if 97 with fail
  go_step
  go_step
  go_step
  go_step
  go_step
  clear bR bRn bq bqn bA bAn
  go_cut [] from 20 (fun wx => Hid (Below u7.heap.size u7 wx))
  case first =>
    have HCB : Hid (Below u7.heap.size u7 u7) := Below.refl _ _
    cases qa with
    | false =>
      try (go_wp2_with fail)
      go_meet
      exact HCB
    | true =>
    by_cases hA1 : 1 < A
    rotate_left
    · have bA1 : decide (1 < A) = false := decide_eq_false hA1
      try (go_wp2_with fail)
      go_meet
      exact HCB
    have bA1 : decide (1 < A) = true := decide_eq_true hA1
    have HALL : Hid (anT ⟨P2, Q2, G2⟩ ⟨y1, y2, y3, y4⟩ Q2.toNat = true) := by
      have hA2 : 1 < ansR ⟨P2, Q2, G2⟩ ⟨y1, y2, y3, y4⟩ p1 p2 := by rw [HAE.out]; exact hA1
      exact an_all HAB.out hA2
    have hq2 : 0 ≤ Q2 ∧ Q2 ≤ 23 := by
      obtain ⟨⟨hc, _⟩, _⟩ := ansB_parts HAB.out
      obtain ⟨k5, hg⟩ := cntB_parts hc
      exact ⟨by have h := hg.q1; have h2 : 2 ≤ Q2 := h; omega, k5⟩
    obtain ⟨K, hK⟩ := Int.eq_ofNat_of_zero_le hq2.1
    have HKE : Hid (Q2 = (K : Int)) := hK
    have HALK : Hid (anT ⟨P2, Q2, G2⟩ ⟨y1, y2, y3, y4⟩ K = true) := by have h := HALL.out; have e9 : Q2.toNat = K := (by omega); rw [e9] at h; exact h
    have hK23 : K ≤ 23 := by omega
    clear hK hA1 hq2 HALL
    go_wp2_with fail
    go_loopg [20, 21] K (fun gk mv iv wr => ∃ k : Nat, k + gk = K ∧ iv = .int .i64 (k : Int) ∧ mv = .bool (anT ⟨P2, Q2, G2⟩ ⟨y1, y2, y3, y4⟩ k) ∧ Hid (Below u7.heap.size u7 wr) ∧ Hid (BoxN wr GB 24 [.int .i64 P2, .int .i64 Q2, .int .i64 G2]) ∧ Hid (BoxN wr EB 31 [.int .i64 y1, .int .i64 y2, .int .i64 y3, .int .i64 y4]))
    case atStart => exact ⟨0, by omega, rfl, rfl, HCB, HZ2, HZ3⟩
    case round =>
      clear HCB HZ2 HZ3
      obtain ⟨k, hkg, rfl, rfl, HCB, HZ2, HZ3⟩ := hrel
      by_cases hlt : k < K
      · have b1 : decide ((k : Int) < Q2) = true := decide_eq_true (by have := HKE.out; omega)
        have hwk : IntKind.i64.wrap ((k : Int) + 1) = (k : Int) + 1 := IntWalk.i64_in _ (by omega)
        have hgk : K - (k + 1) < gk := by omega
        have hgk2 : k + 1 + (K - (k + 1)) = K := by omega
        obtain ⟨M, hM⟩ : ∃ z, anT ⟨P2, Q2, G2⟩ ⟨y1, y2, y3, y4⟩ k = z := ⟨_, rfl⟩
        rw [hM]
        have HM := Lib.hid hM
        clear hM
        obtain ⟨X, hX⟩ : ∃ z, itR ⟨P2, Q2, G2⟩ ⟨y1, y2, y3, y4⟩ (k : Int) = z := ⟨_, rfl⟩
        obtain ⟨Y, hY⟩ : ∃ z, itB ⟨P2, Q2, G2⟩ ⟨y1, y2, y3, y4⟩ (k : Int) = z := ⟨_, rfl⟩
        have HMN : Hid (anT ⟨P2, Q2, G2⟩ ⟨y1, y2, y3, y4⟩ (k + 1) = (M || (X && Y))) := by
          unfold Hid
          show (anT ⟨P2, Q2, G2⟩ ⟨y1, y2, y3, y4⟩ k || (itR ⟨P2, Q2, G2⟩ ⟨y1, y2, y3, y4⟩ (k : Int) && itB ⟨P2, Q2, G2⟩ ⟨y1, y2, y3, y4⟩ (k : Int))) = _
          rw [HM.out, hX, hY]
        have HXE := Lib.hid hX
        have HYE := Lib.hid hY
        clear hX hY
        have a0 := HZ2.out.cell (i := 0) rfl
        have a1 := HZ2.out.cell (i := 1) rfl
        have a2 := HZ2.out.cell (i := 2) rfl
        have d0 := HZ3.out.cell (i := 0) rfl
        have d1 := HZ3.out.cell (i := 1) rfl
        have d2 := HZ3.out.cell (i := 2) rfl
        have d3 := HZ3.out.cell (i := 3) rfl
        try (go_wp2_with fail)
        clear a0 a1 a2 d0 d1 d2 d3
        refine (impl_IsTrueEqual ⟨P2, Q2, G2⟩ ⟨y1, y2, y3, y4⟩ (k : Int) wr HEB.out ⟨by omega, by omega⟩).mono ?_
        rintro e w1 ⟨rfl, hb1⟩
        rw [HXE.out, HYE.out]
        have HC1 := Lib.hid (Below.next HCB.out hb1)
        have HZ21 := Lib.hid (HZ2.out.below hb1)
        have HZ31 := Lib.hid (HZ3.out.below hb1)
        clear hb1
        cases M with
        | true =>
          go_wp2_with fail
          go_roundg (K - (k + 1))
          case measure => exact hgk
          case rel => exact ⟨k + 1, hgk2, by go_num, by rw [HMN.out]; rfl, HC1, HZ21, HZ31⟩
        | false =>
          cases X with
          | false =>
            go_wp2_with fail
            go_roundg (K - (k + 1))
            case measure => exact hgk
            case rel => exact ⟨k + 1, hgk2, by go_num, by rw [HMN.out]; rfl, HC1, HZ21, HZ31⟩
          | true =>
            cases Y with
            | false =>
              go_wp2_with fail
              go_roundg (K - (k + 1))
              case measure => exact hgk
              case rel => exact ⟨k + 1, hgk2, by go_num, by rw [HMN.out]; rfl, HC1, HZ21, HZ31⟩
            | true =>
              go_wp2_with fail
              go_roundg (K - (k + 1))
              case measure => exact hgk
              case rel => exact ⟨k + 1, hgk2, by go_num, by rw [HMN.out]; rfl, HC1, HZ21, HZ31⟩
      · obtain rfl : K = k := by omega
        have b1 : decide ((K : Int) < Q2) = false := decide_eq_false (by have := HKE.out; omega)
        have a1 := HZ2.out.cell (i := 1) rfl
        rw [HALK.out]
        go_wp2_with fail
        go_meet
        exact HCB
  case rest =>
    have hct := hcut.out
    clear hcut
    have hs_7 := hct.size
    replace HB := Lib.hid (Below.next HB.out hct)
    replace HZ1 := Lib.hid (HZ1.out.below hct)
    replace HL1 := Lib.hid (HL1.out.below hct)
    replace HL2 := Lib.hid (HL2.out.below hct)
    replace HZ2 := Lib.hid (HZ2.out.below hct)
    replace HZ3 := Lib.hid (HZ3.out.below hct)
    clear hct
    cases R with
    | false =>
      try (go_wp2_with fail)
      go_ret
      exact ⟨rfl, HB.out⟩
    | true =>
    have HSA := Lib.hid (sl_all HRE.out)
    obtain ⟨Y, hY⟩ : ∃ z, exR ⟨P, Q, G⟩ b x = z := ⟨_, rfl⟩
    have HYE := Lib.hid hY
    have HYB : Hid (exB ⟨P, Q, G⟩ b x = true) := HSA.out.1.1
    have HSB : Hid (slB ⟨P, Q, G⟩ b Y = true) := by have h := HSA.out.1.2; rw [HYE.out] at h; exact h
    have HSL : Hid (slL ⟨P, Q, G⟩ b Y = L) := by have h := HSA.out.2; rw [HYE.out, HLE.out] at h; exact h
    have HY6 : Hid (I64 Y) := by
      have h := HSB.out
      unfold slB at h
      simp only [Bool.and_eq_true, List.all_cons, List.all_nil, Bool.and_true] at h
      obtain ⟨_, hg⟩ := cntB_parts h.1
      exact small_64 (elB_small hg h.2.2)
    clear hY HSA
    have z0 := HZ1.out.cell (i := 0) rfl
    have z1 := HZ1.out.cell (i := 1) rfl
    have z2 := HZ1.out.cell (i := 2) rfl
    try (go_wp2_with fail)
    clear z0 z1 z2
    refine (impl_ExpOf ⟨P, Q, G⟩ b x wc ⟨by omega, by omega⟩).mono ?_
    rintro e u8 ⟨rfl, hb⟩
    rw [HYE.out, HYB.out]
    have hs_8 := hb.size
    replace HB := Lib.hid (Below.next HB.out hb)
    replace HZ1 := Lib.hid (HZ1.out.below hb)
    replace HL1 := Lib.hid (HL1.out.below hb)
    replace HL2 := Lib.hid (HL2.out.below hb)
    replace HZ2 := Lib.hid (HZ2.out.below hb)
    replace HZ3 := Lib.hid (HZ3.out.below hb)
    clear hb
    have z0 := HZ1.out.cell (i := 0) rfl
    have z1 := HZ1.out.cell (i := 1) rfl
    have z2 := HZ1.out.cell (i := 2) rfl
    try (go_wp2_with fail)
    clear z0 z1 z2
    refine (impl_SimulatedTranscripts ⟨P, Q, G⟩ b Y u8 ⟨by omega, by omega⟩ HY6.out).mono ?_
    rintro e u9 ⟨⟨sv, rfl, hl⟩, hb⟩
    rw [HSL.out] at hl
    rw [HSB.out]
    have hs_9 := hb.size
    replace HB := Lib.hid (Below.next HB.out hb)
    replace HZ1 := Lib.hid (HZ1.out.below hb)
    replace HL1 := Lib.hid (HL1.out.below hb)
    replace HL2 := Lib.hid (HL2.out.below hb)
    replace HZ2 := Lib.hid (HZ2.out.below hb)
    replace HZ3 := Lib.hid (HZ3.out.below hb)
    clear hb
    obtain ⟨sa, sc, rfl⟩ := hl.shape
    rw [HNE.out] at hl ⊢
    have HL3 := Lib.hid hl
    clear hl
    have hN1 : N ≤ 1000 := HLN.out
    go_wp2_with fail
    clear bN bNn
    go_loopg [156] N (fun gk iv wr => ∃ k : Nat, k + gk = N ∧ iv = .int .i64 (k : Int) ∧ Hid (Below u9.heap.size u9 wr))
    case atStart => exact ⟨0, by omega, rfl, Below.refl _ _⟩
    case round =>
      obtain ⟨k, hkg, rfl, HBr⟩ := hrel
      by_cases hlt : k < N
      · have b1 : decide ((k : Int) < (N : Int)) = true := decide_eq_true (by omega)
        have hwk : IntKind.i64.wrap ((k : Int) + 1) = (k : Int) + 1 := IntWalk.i64_in _ (by omega)
        have hgk : N - (k + 1) < gk := by omega
        have hgk2 : k + 1 + (N - (k + 1)) = N := by omega
        have hkL : k < L.length := by rw [HNE.out]; exact hlt
        obtain ⟨b1a, _, e1, _, _, l0, l1, l2, _⟩ := (HL1.out.below HBr.out).get hkL
        obtain ⟨b2a, _, e2, _, _, m0, m1, m2, _⟩ := (HL2.out.below HBr.out).get hkL
        obtain ⟨b3a, _, e3, _, _, n0, n1, n2, _⟩ := (HL3.out.below HBr.out).get hkL
        rw [HNE.out] at e1 e2 e3
        cases e1
        cases e2
        cases e3
        generalize L[k] = t at l0 l1 l2 m0 m1 m2 n0 n1 n2
        have HBN := Lib.hid HBr.out
        clear hkL
        go_upto_region 29 with fail
        by_cases hb1 : b = 1
        · have bb : (b != 1) = false := by rw [bne_eq_false_iff_eq]; exact hb1
          clear hb1
          refine wp_region_noPanic ?_
          refine wp_region_P (fun w' => w'.cell? ⟨b1a, k * 3, none⟩ = some (.int .i64 t.c) ∧ w'.cell? ⟨b1a, k * 3 + 1, none⟩ = some (.int .i64 t.e) ∧ w'.cell? ⟨b1a, k * 3 + 2, none⟩ = some (.int .i64 t.z) ∧ w'.cell? ⟨b2a, k * 3, none⟩ = some (.int .i64 t.c) ∧ w'.cell? ⟨b2a, k * 3 + 1, none⟩ = some (.int .i64 t.e) ∧ w'.cell? ⟨b2a, k * 3 + 2, none⟩ = some (.int .i64 t.z) ∧ w'.cell? ⟨b3a, k * 3, none⟩ = some (.int .i64 t.c) ∧ w'.cell? ⟨b3a, k * 3 + 1, none⟩ = some (.int .i64 t.e) ∧ w'.cell? ⟨b3a, k * 3 + 2, none⟩ = some (.int .i64 t.z)) 26 [(0, []), (1, []), (2, [1, 0]), (3, [0]), (4, []), (5, []), (6, [1, 0]), (7, [0]), (8, [4, 0]), (9, [0]), (10, [0]), (11, [0, 1]), (12, [0, 2]), (13, [0]), (14, [1]), (15, [1, 0, 2]), (16, [0, 3]), (17, [4]), (18, [5]), (19, [1, 0, 6]), (20, [0, 7]), (21, [4, 0, 8]), (22, [9, 0, 12]), (23, [13, 0])] [] (by kernel_rfl) (by kernel_rfl) (by kernel_rfl) rfl (fun _ _ _ _ h => h) (fun w' h => ⟨box_at l0 h, box_at l1 h, box_at l2 h, box_at m0 h, box_at m1 h, box_at m2 h, box_at n0 h, box_at n1 h, box_at n2 h⟩) ?_
          simp only [pickP, pickN, List.getElem?_cons_zero, List.getElem?_cons_succ]
          iterate 8 (refine' chainP_read _ rfl rfl (fun w' hS' => ?_) ?_; rotate_left; · (simp only [lookP, allP, Act.put, List.getElem?_cons_zero, List.getElem?_cons_succ, List.setIfInBounds_toArray, List.set_cons_zero, List.set_cons_succ]; (try dsimp only at hS'); go_simp; (try with_reducible rfl)))
          -- 8: binOp Binneq 40 t162 t166 40
          refine chainP_read (d := (some 167)) (.bool false) rfl rfl (fun w' hS' => ?_) ?_
          · simp only [lookP, allP, Act.put, List.getElem?_cons_zero, List.getElem?_cons_succ, List.setIfInBounds_toArray, List.set_cons_zero, List.set_cons_succ]
            (try dsimp only at hS')
            go_simp
            (try with_reducible rfl)
          -- 9: move t167
          refine' chainP_read (d := (some 168)) _ rfl rfl (fun w' hS' => ?_) ?_; rotate_left
          · simp only [lookP, allP, Act.put, List.getElem?_cons_zero, List.getElem?_cons_succ, List.setIfInBounds_toArray, List.set_cons_zero, List.set_cons_succ]
            (try dsimp only at hS')
            go_simp
            (try with_reducible rfl)
          -- 10: move t6
          refine' chainP_readG (d := (some 169)) _ rfl (fun w' hS' => ?_) ?_; rotate_left
          · simp only [lookP, allP, Act.put, List.getElem?_cons_zero, List.getElem?_cons_succ, List.setIfInBounds_toArray, List.set_cons_zero, List.set_cons_succ]
            refine ⟨by kernel_rfl, ?_⟩
            (try dsimp only at hS')
            go_simp
            (try with_reducible rfl)
          -- 11: binOp Binneq 3 t169 (const (int i64 1)) 3
          refine' chainP_readG (d := (some 170)) _ rfl (fun w' hS' => ?_) ?_; rotate_left
          · simp only [lookP, allP, Act.put, List.getElem?_cons_zero, List.getElem?_cons_succ, List.setIfInBounds_toArray, List.set_cons_zero, List.set_cons_succ]
            refine ⟨by kernel_rfl, ?_⟩
            (try dsimp only at hS')
            go_simp
            (try with_reducible rfl)
          -- 12: move t170
          refine' chainP_readG (d := (some 171)) _ rfl (fun w' hS' => ?_) ?_; rotate_left
          · simp only [lookP, allP, Act.put, List.getElem?_cons_zero, List.getElem?_cons_succ, List.setIfInBounds_toArray, List.set_cons_zero, List.set_cons_succ]
            refine ⟨by kernel_rfl, ?_⟩
            (try dsimp only at hS')
            go_simp
            (try with_reducible rfl)
          -- 13: move t8
          refine chainP_skip (d := (some 172)) rfl (fun w' hS' => ?_) ?_
          · simp only [lookP, allP, Act.put, List.getElem?_cons_zero, List.getElem?_cons_succ, List.setIfInBounds_toArray, List.set_cons_zero, List.set_cons_succ]
            kernel_rfl
          -- 14: move t28
          refine chainP_skip (d := (some 173)) rfl (fun w' hS' => ?_) ?_
          · simp only [lookP, allP, Act.put, List.getElem?_cons_zero, List.getElem?_cons_succ, List.setIfInBounds_toArray, List.set_cons_zero, List.set_cons_succ]
            kernel_rfl
          -- 15: indexAddr 27 t172 t173
          refine chainP_skip (d := (some 174)) rfl (fun w' hS' => ?_) ?_
          · simp only [lookP, allP, Act.put, List.getElem?_cons_zero, List.getElem?_cons_succ, List.setIfInBounds_toArray, List.set_cons_zero, List.set_cons_succ]
            kernel_rfl
          -- 16: load 40 t174
          refine chainP_skip (d := (some 175)) rfl (fun w' hS' => ?_) ?_
          · simp only [lookP, allP, Act.put, List.getElem?_cons_zero, List.getElem?_cons_succ, List.setIfInBounds_toArray, List.set_cons_zero, List.set_cons_succ]
            kernel_rfl
          -- 17: move t26
          refine chainP_skip (d := (some 176)) rfl (fun w' hS' => ?_) ?_
          · simp only [lookP, allP, Act.put, List.getElem?_cons_zero, List.getElem?_cons_succ, List.setIfInBounds_toArray, List.set_cons_zero, List.set_cons_succ]
            kernel_rfl
          -- 18: move t28
          refine chainP_skip (d := (some 177)) rfl (fun w' hS' => ?_) ?_
          · simp only [lookP, allP, Act.put, List.getElem?_cons_zero, List.getElem?_cons_succ, List.setIfInBounds_toArray, List.set_cons_zero, List.set_cons_succ]
            kernel_rfl
          -- 19: indexAddr 27 t176 t177
          refine chainP_skip (d := (some 178)) rfl (fun w' hS' => ?_) ?_
          · simp only [lookP, allP, Act.put, List.getElem?_cons_zero, List.getElem?_cons_succ, List.setIfInBounds_toArray, List.set_cons_zero, List.set_cons_succ]
            kernel_rfl
          -- 20: load 40 t178
          refine chainP_skip (d := (some 179)) rfl (fun w' hS' => ?_) ?_
          · simp only [lookP, allP, Act.put, List.getElem?_cons_zero, List.getElem?_cons_succ, List.setIfInBounds_toArray, List.set_cons_zero, List.set_cons_succ]
            kernel_rfl
          -- 21: binOp Binneq 40 t175 t179 40
          refine chainP_skip (d := (some 180)) rfl (fun w' hS' => ?_) ?_
          · simp only [lookP, allP, Act.put, List.getElem?_cons_zero, List.getElem?_cons_succ, List.setIfInBounds_toArray, List.set_cons_zero, List.set_cons_succ]
            kernel_rfl
          -- 22: pick t171 t180 (const (bool false))
          refine' chainP_readG (d := (some 181)) _ rfl (fun w' hS' => ?_) ?_; rotate_left
          · simp only [lookP, allP, Act.put, List.getElem?_cons_zero, List.getElem?_cons_succ, List.setIfInBounds_toArray, List.set_cons_zero, List.set_cons_succ]
            refine ⟨by kernel_rfl, ?_⟩
            (try dsimp only at hS')
            go_simp
            (try with_reducible rfl)
          -- 23: pick t168 (const (bool true)) t181
          refine' chainP_read (d := (some 182)) _ rfl rfl (fun w' hS' => ?_) ?_; rotate_left
          · simp only [lookP, allP, Act.put, List.getElem?_cons_zero, List.getElem?_cons_succ, List.setIfInBounds_toArray, List.set_cons_zero, List.set_cons_succ]
            (try dsimp only at hS')
            go_simp
            (try with_reducible rfl)
          refine chainP_nil (fun wz hS' => ?_)
          simp only [allP, Act.put, List.setIfInBounds_toArray, List.set_cons_zero, List.set_cons_succ]
          have hbz := hS'.1
          clear hS' l0 l1 l2 m0 m1 m2 n0 n1 n2
          have HB9 := Lib.hid (Below.next HBN.out hbz)
          clear hbz
          go_wp2_with fail
          refine NoPanic.normal ?_
          (try (go_wp2_with fail))
          go_roundg (N - (k + 1))
          case measure => exact hgk
          case rel => exact ⟨k + 1, hgk2, by go_num, HB9⟩
        · have bb : (b != 1) = true := by rw [bne_iff_ne]; exact hb1
          clear hb1
          refine wp_region_noPanic ?_
          refine wp_region_P (fun w' => w'.cell? ⟨b1a, k * 3, none⟩ = some (.int .i64 t.c) ∧ w'.cell? ⟨b1a, k * 3 + 1, none⟩ = some (.int .i64 t.e) ∧ w'.cell? ⟨b1a, k * 3 + 2, none⟩ = some (.int .i64 t.z) ∧ w'.cell? ⟨b2a, k * 3, none⟩ = some (.int .i64 t.c) ∧ w'.cell? ⟨b2a, k * 3 + 1, none⟩ = some (.int .i64 t.e) ∧ w'.cell? ⟨b2a, k * 3 + 2, none⟩ = some (.int .i64 t.z) ∧ w'.cell? ⟨b3a, k * 3, none⟩ = some (.int .i64 t.c) ∧ w'.cell? ⟨b3a, k * 3 + 1, none⟩ = some (.int .i64 t.e) ∧ w'.cell? ⟨b3a, k * 3 + 2, none⟩ = some (.int .i64 t.z)) 26 [(0, []), (1, []), (2, [1, 0]), (3, [0]), (4, []), (5, []), (6, [1, 0]), (7, [0]), (8, [4, 0]), (9, [0]), (10, [0]), (11, [0, 1]), (12, [0, 2]), (13, [0]), (14, [1]), (15, [1, 0, 2]), (16, [0, 3]), (17, [4]), (18, [5]), (19, [1, 0, 6]), (20, [0, 7]), (21, [4, 0, 8]), (22, [9, 0, 12]), (23, [13, 0])] [] (by kernel_rfl) (by kernel_rfl) (by kernel_rfl) rfl (fun _ _ _ _ h => h) (fun w' h => ⟨box_at l0 h, box_at l1 h, box_at l2 h, box_at m0 h, box_at m1 h, box_at m2 h, box_at n0 h, box_at n1 h, box_at n2 h⟩) ?_
          simp only [pickP, pickN, List.getElem?_cons_zero, List.getElem?_cons_succ]
          iterate 8 (refine' chainP_read _ rfl rfl (fun w' hS' => ?_) ?_; rotate_left; · (simp only [lookP, allP, Act.put, List.getElem?_cons_zero, List.getElem?_cons_succ, List.setIfInBounds_toArray, List.set_cons_zero, List.set_cons_succ]; (try dsimp only at hS'); go_simp; (try with_reducible rfl)))
          -- 8: binOp Binneq 40 t162 t166 40
          refine chainP_read (d := (some 167)) (.bool false) rfl rfl (fun w' hS' => ?_) ?_
          · simp only [lookP, allP, Act.put, List.getElem?_cons_zero, List.getElem?_cons_succ, List.setIfInBounds_toArray, List.set_cons_zero, List.set_cons_succ]
            (try dsimp only at hS')
            go_simp
            (try with_reducible rfl)
          -- 9: move t167
          refine' chainP_read (d := (some 168)) _ rfl rfl (fun w' hS' => ?_) ?_; rotate_left
          · simp only [lookP, allP, Act.put, List.getElem?_cons_zero, List.getElem?_cons_succ, List.setIfInBounds_toArray, List.set_cons_zero, List.set_cons_succ]
            (try dsimp only at hS')
            go_simp
            (try with_reducible rfl)
          -- 10: move t6
          refine' chainP_readG (d := (some 169)) _ rfl (fun w' hS' => ?_) ?_; rotate_left
          · simp only [lookP, allP, Act.put, List.getElem?_cons_zero, List.getElem?_cons_succ, List.setIfInBounds_toArray, List.set_cons_zero, List.set_cons_succ]
            refine ⟨by kernel_rfl, ?_⟩
            (try dsimp only at hS')
            go_simp
            (try with_reducible rfl)
          -- 11: binOp Binneq 3 t169 (const (int i64 1)) 3
          refine' chainP_readG (d := (some 170)) _ rfl (fun w' hS' => ?_) ?_; rotate_left
          · simp only [lookP, allP, Act.put, List.getElem?_cons_zero, List.getElem?_cons_succ, List.setIfInBounds_toArray, List.set_cons_zero, List.set_cons_succ]
            refine ⟨by kernel_rfl, ?_⟩
            (try dsimp only at hS')
            go_simp
            (try with_reducible rfl)
          -- 12: move t170
          refine' chainP_readG (d := (some 171)) _ rfl (fun w' hS' => ?_) ?_; rotate_left
          · simp only [lookP, allP, Act.put, List.getElem?_cons_zero, List.getElem?_cons_succ, List.setIfInBounds_toArray, List.set_cons_zero, List.set_cons_succ]
            refine ⟨by kernel_rfl, ?_⟩
            (try dsimp only at hS')
            go_simp
            (try with_reducible rfl)
          -- 13: move t8
          refine' chainP_readG (d := (some 172)) _ rfl (fun w' hS' => ?_) ?_; rotate_left
          · simp only [lookP, allP, Act.put, List.getElem?_cons_zero, List.getElem?_cons_succ, List.setIfInBounds_toArray, List.set_cons_zero, List.set_cons_succ]
            refine ⟨by kernel_rfl, ?_⟩
            (try dsimp only at hS')
            go_simp
            (try with_reducible rfl)
          -- 14: move t28
          refine' chainP_readG (d := (some 173)) _ rfl (fun w' hS' => ?_) ?_; rotate_left
          · simp only [lookP, allP, Act.put, List.getElem?_cons_zero, List.getElem?_cons_succ, List.setIfInBounds_toArray, List.set_cons_zero, List.set_cons_succ]
            refine ⟨by kernel_rfl, ?_⟩
            (try dsimp only at hS')
            go_simp
            (try with_reducible rfl)
          -- 15: indexAddr 27 t172 t173
          refine' chainP_readG (d := (some 174)) _ rfl (fun w' hS' => ?_) ?_; rotate_left
          · simp only [lookP, allP, Act.put, List.getElem?_cons_zero, List.getElem?_cons_succ, List.setIfInBounds_toArray, List.set_cons_zero, List.set_cons_succ]
            refine ⟨by kernel_rfl, ?_⟩
            (try dsimp only at hS')
            go_simp
            (try with_reducible rfl)
          -- 16: load 40 t174
          refine' chainP_readG (d := (some 175)) _ rfl (fun w' hS' => ?_) ?_; rotate_left
          · simp only [lookP, allP, Act.put, List.getElem?_cons_zero, List.getElem?_cons_succ, List.setIfInBounds_toArray, List.set_cons_zero, List.set_cons_succ]
            refine ⟨by kernel_rfl, ?_⟩
            (try dsimp only at hS')
            go_simp
            (try with_reducible rfl)
          -- 17: move t26
          refine' chainP_readG (d := (some 176)) _ rfl (fun w' hS' => ?_) ?_; rotate_left
          · simp only [lookP, allP, Act.put, List.getElem?_cons_zero, List.getElem?_cons_succ, List.setIfInBounds_toArray, List.set_cons_zero, List.set_cons_succ]
            refine ⟨by kernel_rfl, ?_⟩
            (try dsimp only at hS')
            go_simp
            (try with_reducible rfl)
          -- 18: move t28
          refine' chainP_readG (d := (some 177)) _ rfl (fun w' hS' => ?_) ?_; rotate_left
          · simp only [lookP, allP, Act.put, List.getElem?_cons_zero, List.getElem?_cons_succ, List.setIfInBounds_toArray, List.set_cons_zero, List.set_cons_succ]
            refine ⟨by kernel_rfl, ?_⟩
            (try dsimp only at hS')
            go_simp
            (try with_reducible rfl)
          -- 19: indexAddr 27 t176 t177
          refine' chainP_readG (d := (some 178)) _ rfl (fun w' hS' => ?_) ?_; rotate_left
          · simp only [lookP, allP, Act.put, List.getElem?_cons_zero, List.getElem?_cons_succ, List.setIfInBounds_toArray, List.set_cons_zero, List.set_cons_succ]
            refine ⟨by kernel_rfl, ?_⟩
            (try dsimp only at hS')
            go_simp
            (try with_reducible rfl)
          -- 20: load 40 t178
          refine' chainP_readG (d := (some 179)) _ rfl (fun w' hS' => ?_) ?_; rotate_left
          · simp only [lookP, allP, Act.put, List.getElem?_cons_zero, List.getElem?_cons_succ, List.setIfInBounds_toArray, List.set_cons_zero, List.set_cons_succ]
            refine ⟨by kernel_rfl, ?_⟩
            (try dsimp only at hS')
            go_simp
            (try with_reducible rfl)
          -- 21: binOp Binneq 40 t175 t179 40
          refine chainP_readG (d := (some 180)) (.bool false) rfl (fun w' hS' => ?_) ?_
          · simp only [lookP, allP, Act.put, List.getElem?_cons_zero, List.getElem?_cons_succ, List.setIfInBounds_toArray, List.set_cons_zero, List.set_cons_succ]
            refine ⟨by kernel_rfl, ?_⟩
            (try dsimp only at hS')
            go_simp
            (try with_reducible rfl)
          -- 22: pick t171 t180 (const (bool false))
          refine' chainP_readG (d := (some 181)) _ rfl (fun w' hS' => ?_) ?_; rotate_left
          · simp only [lookP, allP, Act.put, List.getElem?_cons_zero, List.getElem?_cons_succ, List.setIfInBounds_toArray, List.set_cons_zero, List.set_cons_succ]
            refine ⟨by kernel_rfl, ?_⟩
            (try dsimp only at hS')
            go_simp
            (try with_reducible rfl)
          -- 23: pick t168 (const (bool true)) t181
          refine' chainP_read (d := (some 182)) _ rfl rfl (fun w' hS' => ?_) ?_; rotate_left
          · simp only [lookP, allP, Act.put, List.getElem?_cons_zero, List.getElem?_cons_succ, List.setIfInBounds_toArray, List.set_cons_zero, List.set_cons_succ]
            (try dsimp only at hS')
            go_simp
            (try with_reducible rfl)
          refine chainP_nil (fun wz hS' => ?_)
          simp only [allP, Act.put, List.setIfInBounds_toArray, List.set_cons_zero, List.set_cons_succ]
          have hbz := hS'.1
          clear hS' l0 l1 l2 m0 m1 m2 n0 n1 n2
          have HB9 := Lib.hid (Below.next HBN.out hbz)
          clear hbz
          go_wp2_with fail
          refine NoPanic.normal ?_
          (try (go_wp2_with fail))
          go_roundg (N - (k + 1))
          case measure => exact hgk
          case rel => exact ⟨k + 1, hgk2, by go_num, HB9⟩
      · obtain rfl : N = k := by omega
        have b1 : decide ((N : Int) < (N : Int)) = false := decide_eq_false (by omega)
        go_wp2_with fail
        go_ret
        exact ⟨rfl, Below.next HB.out HBr.out⟩
end Go.Proofs.Ytacpnphfopmofaa
/- From a walk of a law to its row: whatever the arguments, the law returns true and nothing that was there has turned. -/







namespace Go.Proofs.Ytacpnphfopmofaa
open Go.ChangeShapes Go.WideShapes Go.ChangeAt Go.RowKit

theorem ownKnob_none : ownKnob Try.prog.godebug = none := by kernel_rfl
theorem laid_out : laidOutB Try.prog = true := by kernel_rfl

section
variable {H : Type} {enc : TypeId × Value → H} {P : Program}

theorem trodAll_below (hl : laidOutB P = true) {W W' : World} (hb : Below W.heap.size W W') :
    ∀ (ts : List TypeId) (vs : List Value) (ds : List (DataW H)) (ps : List MemPlace), (∀ t ∈ ts, P.readableRec t = true ∧ t < P.types.size) →
      DataW.TrodAll enc P W 0 (fun _ => true) true ts vs ds ps → (∀ x ∈ ps, x.block < W.heap.size) →
      ∀ sp : Nat → Bool, (∀ p ∈ ps, sp p.block = true) → DataW.TrodAll enc P W' 0 sp true ts vs ds ps
  | [], vs, ds, ps, _, h, _, sp, _ => by
    obtain ⟨rfl, rfl, rfl⟩ := trodAll_nil h
    exact trodAll_mk0
  | t :: ts, vs, ds, ps, ht, h, hlt, sp, hsp => by
    obtain ⟨v0, vs0, d0, ds0, p0, q0, rfl, rfl, rfl, h0, r0⟩ := trodAll_cons h
    refine trodAll_cons_mk ?_ (trodAll_below hl hb ts vs0 ds0 q0 (fun t' h' => ht t' (by simp [h'])) r0 (fun x hx => hlt x (by simp [hx])) sp (fun x hx => hsp x (by simp [hx])))
    exact WideElems.Trod_stays hl (ht t (by simp)).1 (ht t (by simp)).2 h0 (fun x hx => hb.same (hlt x (by simp [hx]))) (fun x hx => hsp x (by simp [hx]))

theorem post_law {f : Func} {s : ChangeSpec} {tb : TypeId} {W W' : World} {args : Array Value} {ds gs : List (DataW H)} {before : List MemPlace}
    (hl : laidOutB P = true) (hpB : f.params.toList.all (fun t => P.readableRec t && decide (t < P.types.size)) = true) (hrt : f.resultTypes = #[tb]) (htb : P.underlying tb = some .bool)
    (hvars : s.vars = []) (hW : DataW.Whole enc P f.params.toList s.vars false W args.toList ds gs before)
    (hfn : s.fn H ds = { results := [.lit (.bool true)], args := ds }) (hb : Below W.heap.size W W') :
    s.post enc P f false true false false W args (.bool true) W' := by
  have hp : ∀ t ∈ f.params.toList, P.readableRec t = true ∧ t < P.types.size := fun t ht => by simpa using List.all_eq_true.1 hpB t ht
  have hlt : ∀ x ∈ before, x.block < W.heap.size := fun x hx => by simpa using hW.lt x hx
  have hW' := hW
  obtain ⟨p, q, hA0, hV, rfl, hfz, hnd⟩ := hW
  rw [hvars] at hV
  obtain ⟨rfl, rfl⟩ := trodVars_none hV
  have e : s.fn H (ds ++ []) = { results := [.lit (.bool true)], args := ds } := by rw [List.append_nil]; exact hfn
  have hargs := trodAll_below (enc := enc) hl hb f.params.toList args.toList ds p hp hA0 (fun x hx => hlt x (by simp [hx]))
  refine ⟨ds, [], p ++ [], [], p, [], hW', ?_, ?_, ?_, ?_, fun h => by cases h⟩
  · rw [e, hrt]
    exact trodAll_cons_mk (shut_bool htb true) trodAll_mk0
  · rw [e]
    exact hargs _ (fun x hx => by simpa using hlt x (by simp [hx]))
  · rw [e, hvars]
    rfl
  · exact hb.frame _
end


section
variable {H : Type} {enc : TypeId × Value → H} {P : Program} {w : World} {base : Nat} {spare : Nat → Bool} {held : Bool}
open Go.Joins Go.Deep
end

section
variable {H : Type} {enc : TypeId × Value → H} {w : World} {base : Nat} {spare : Nat → Bool} {held : Bool}
theorem addr_of_cell {w : World} {a : Addr} {v : Value} (h : w.cell? a = some v) : a = ⟨a.block, a.off, none⟩ := by
  obtain ⟨b, o, s⟩ := a
  cases s with
  | none => rfl
  | some x =>
    unfold World.cell? at h
    split at h <;> simp at h
end
end Go.Proofs.Ytacpnphfopmofaa
/- Arguments that are slices of structs. -/


namespace Go.Proofs.Ytacpnphfopmofaa
open Go.ChangeShapes Go.WideShapes Go.ChangeAt Go.RowKit
set_option linter.unusedVariables false

end Go.Proofs.Ytacpnphfopmofaa
/- Arguments of type laws.Proof (printed by genarg.py). -/


namespace Go.Proofs.Ytacpnphfopmofaa
open Go.ChangeShapes Go.WideShapes Go.ChangeAt Go.RowKit
set_option linter.unusedVariables false
set_option linter.unusedSimpArgs false

section
variable {H : Type} {enc : TypeId × Value → H} {w : World} {base : Nat} {spare : Nat → Bool} {held : Bool}
open Go.Joins Go.Deep
end
end Go.Proofs.Ytacpnphfopmofaa
/- Arguments of type laws.Head (printed by genarg.py). -/



namespace Go.Proofs.Ytacpnphfopmofaa
open Go.ChangeShapes Go.WideShapes Go.ChangeAt Go.RowKit
set_option linter.unusedVariables false
set_option linter.unusedSimpArgs false

section
variable {H : Type} {enc : TypeId × Value → H} {w : World} {base : Nat} {spare : Nat → Bool} {held : Bool}
open Go.Joins Go.Deep
end
end Go.Proofs.Ytacpnphfopmofaa
/- Arguments of type laws.Entry (printed by genarg.py). -/



namespace Go.Proofs.Ytacpnphfopmofaa
open Go.ChangeShapes Go.WideShapes Go.ChangeAt Go.RowKit
set_option linter.unusedVariables false
set_option linter.unusedSimpArgs false

section
variable {H : Type} {enc : TypeId × Value → H} {w : World} {base : Nat} {spare : Nat → Bool} {held : Bool}
open Go.Joins Go.Deep
end
end Go.Proofs.Ytacpnphfopmofaa
/- Arguments of type laws.Group. -/


namespace Go.Proofs.Ytacpnphfopmofaa
open Go.ChangeShapes Go.WideShapes Go.ChangeAt Go.RowKit
set_option linter.unusedVariables false

section
variable {H : Type} {enc : TypeId × Value → H} {w : World} {base : Nat} {spare : Nat → Bool} {held : Bool}
open Go.Joins Go.Deep
end
end Go.Proofs.Ytacpnphfopmofaa
namespace Go.Proofs.Ytacpnphfopmofaa
open Go.ChangeShapes Go.WideShapes Go.ChangeAt Go.RowKit
set_option linter.unusedVariables false

section
variable {H : Type} {enc : TypeId × Value → H} {w : World} {base : Nat} {spare : Nat → Bool} {held : Bool}
theorem cells_byte : Try.prog.cellsOf 5 = 1 := by kernel_rfl
theorem wf_u8 {x : Int} (h : (Lit.int .u8 x).wf = true) : 0 ≤ x ∧ x ≤ 255 := by
  simpa [Lit.wf, IntKind.min, IntKind.max, IntKind.signed, IntKind.bits] using h
set_option maxRecDepth 100000 in
theorem bytes_of_trod {n : Nat} {v : Value} {y : DataW H × List MemPlace} (h : DataW.trod enc Try.prog w base spare held n 22 [v] = some y) : Bytes w v := by
  rcases open_ints Try.underlying22 Try.underlying5 cells_byte h with ⟨hcs, _⟩ | ⟨a, len, cap, zs, hcs, _, hl, hm, hz, _, hcell, hwz⟩
  · simp at hcs; subst hcs; exact ⟨none, 0, 0, rfl, Nat.le_refl _, Nat.zero_le _, .inl rfl⟩
  · simp only [List.cons.injEq, and_true] at hcs; subst hcs
    have hle : len ≤ zs.length := by rw [hz]; split <;> omega
    refine ⟨some a, len, cap, rfl, hl, hm, ?_⟩
    rcases Nat.eq_zero_or_pos len with h0 | h0
    · exact .inl h0
    · have hc0 := hcell 0 (by omega)
      have e : a.add 0 = a := by simp [Addr.add]
      rw [e] at hc0
      have ea := addr_of_cell hc0
      refine .inr ⟨a.block, a.off, by rw [← ea], fun i hi => ?_⟩
      have h1 := hcell i (by omega)
      rw [ea, Addr.add_lit] at h1
      refine ⟨_, h1, ?_⟩
      have h2 := hwz (zs.getD i 0) (by rw [List.getD_eq_getElem?_getD, List.getElem?_eq_getElem (by omega)]; exact List.getElem_mem _)
      exact wf_u8 h2
set_option maxRecDepth 100000 in
theorem bytes_of_arg {r : Reach} {b0 : Nat} {v : Value} {d : DataW H} {p : List MemPlace} (hv : Value.okWide Try.prog w r b0 22 v) (h : DataW.Trod enc Try.prog w base spare held 22 v d p) : Bytes w v := by
  obtain ⟨a, n, c, rfl⟩ := okWide_slice Try.underlying22 hv
  obtain ⟨fuel, hf⟩ := h
  exact bytes_of_trod (by simpa [Value.cells] using hf)
end
end Go.Proofs.Ytacpnphfopmofaa
