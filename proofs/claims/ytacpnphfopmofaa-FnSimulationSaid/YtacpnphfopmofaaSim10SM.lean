/- The implementation's transcripts: made by a rule, sorted. -/
import Derived.Test.YtacpnphfopmofaaSim8SM
namespace Go.Proofs.Ytacpnphfopmofaa
open Go.RowKit
set_option linter.unusedSimpArgs false
set_option linter.unusedVariables false

/-- a function value that makes transcripts by the rule f, in every world that has grown from w -/
structure MakesT (w : World) (g : FuncId) (caps : Array Value) (f : Nat → Nat → TrD) (Q : Nat) : Prop where
  enters : ∀ args wr, (callFunc g args).run Try.prog wr = .ok (.enter g args) wr
  runs : ∀ n m wr, n < Q → m < Q → Below w.heap.size w wr → Calls Try.prog g (#[.int .i64 (n : Int), .int .i64 (m : Int)] ++ caps) wr fun e w' => e = .returned (.agg #[.int .i64 (f n m).c, .int .i64 (f n m).e, .int .i64 (f n m).z]) ∧ Below wr.heap.size wr w'
set_option maxRecDepth 100000 in
set_option maxHeartbeats 4000000 in
theorem impl_transcripts (gr : GroupD) (f : Nat → Nat → TrD) (Q : Nat) (g : FuncId) (caps : Array Value) (w : World) (hq : (Q : Int) = gr.q) (h0 : 0 < Q) (h1 : Q ≤ 23) (hm : MakesT w g caps f Q) :
    Calls Try.prog 49 #[.agg #[.int .i64 gr.p, .int .i64 gr.q, .int .i64 gr.g], .func (.func g) #[] caps] w fun e w' => (∃ v', e = .returned v' ∧ OwnT w' w.heap.size v' (trS (gnL f Q Q))) ∧ Below w.heap.size w w' := by
  have HQQ := Lib.hid hq
  clear hq
  have hent := hm.enters
  have HM := Lib.hid hm
  clear hm
  obtain ⟨W, hW⟩ : ∃ W, W = w.alloc (.cells #[.int .i64 gr.p, .int .i64 gr.q, .int .i64 gr.g] 24) := ⟨_, rfl⟩
  have hbW : Below w.heap.size w W := by rw [hW]; exact (Below.refl _ _).alloc (Nat.le_refl _) _
  have HG0 : Hid (BoxN W w.heap.size 24 [.int .i64 gr.p, .int .i64 gr.q, .int .i64 gr.g]) := by unfold Hid; rw [hW]; exact BoxN.new w [.int .i64 gr.p, .int .i64 gr.q, .int .i64 gr.g] _
  have hsW : w.heap.size < W.heap.size := by rw [hW]; simp
  obtain ⟨V, hV⟩ : ∃ V, V = W.alloc (.cells #[] 40) := ⟨_, rfl⟩
  have hbV : Below W.heap.size W V := by rw [hV]; exact (Below.refl _ _).alloc (Nat.le_refl _) _
  have HB : Hid (Below w.heap.size w V) := hbW.trans (hbV.mono (by omega))
  have HGV : Hid (BoxN V w.heap.size 24 [.int .i64 gr.p, .int .i64 gr.q, .int .i64 gr.g]) := HG0.out.below hbV
  have HO : Hid (OwnT V W.heap.size (.slice (some ⟨W.heap.size, 0, none⟩) 0 0) []) := by
    unfold Hid; rw [hV]
    exact World.ownsRow_made (e := 40) (size := 3) W #[] 0 (Nat.le_refl _) (by unfold maxLen; omega) rfl
  have hsE : W.heap.size = w.heap.size + 1 := by rw [hW]; simp
  replace HO : Hid (OwnT V (w.heap.size + 1) (.slice (some ⟨w.heap.size + 1, 0, none⟩) 0 0) []) := by unfold Hid; rw [← hsE]; exact HO.out
  clear hsE
  have hsV := hbV.size
  clear hbW hbV
  go_enter Try.func49, Try.ntmps49
  go_wp2_with fail
  rw [← hW, ← hV]
  clear hW hV
  have g1 := HGV.out.cell (i := 1) rfl
  try (go_wp2_with fail)
  clear g1
  go_loopg [5, 11] Q (fun gk ov iv wr => ∃ n : Nat, n + gk = Q ∧ iv = .int .i64 (n : Int) ∧ Hid (OwnT wr (w.heap.size + 1) ov (gnL f Q n)) ∧ Hid (Below w.heap.size w wr) ∧ Hid (BoxN wr w.heap.size 24 [.int .i64 gr.p, .int .i64 gr.q, .int .i64 gr.g]))
  case atStart => exact ⟨0, by omega, rfl, HO, HB, HGV⟩
  case round =>
    clear HO HB HGV hsV hsW HG0
    obtain ⟨n, hng, rfl, HO, HB, HGr⟩ := hrel
    obtain ⟨wO, rfl⟩ : ∃ u, u = wr := ⟨_, rfl⟩
    obtain ⟨gO, rfl⟩ : ∃ u, u = gk := ⟨_, rfl⟩
    by_cases hlt : n < Q
    · have b1 : decide ((n : Int) < gr.q) = true := decide_eq_true (by have := HQQ.out; omega)
      have hwn : IntKind.i64.wrap ((n : Int) + 1) = (n : Int) + 1 := IntWalk.i64_in _ (by omega)
      have hgO : Q - (n + 1) < gO := by omega
      have hgO2 : n + 1 + (Q - (n + 1)) = Q := by omega
      obtain ⟨oa0, oc0, hov⟩ := HO.out.shape
      subst hov
      have g1 := HGr.out.cell (i := 1) rfl
      go_wp2_with fail
      clear g1
      go_loopg [5, 16] Q (fun gk ov iv wr => ∃ k : Nat, k + gk = Q ∧ iv = .int .i64 (k : Int) ∧ Hid (OwnT wr (w.heap.size + 1) ov (gnL f Q n ++ gnR f n k)) ∧ Hid (Below w.heap.size w wr) ∧ Hid (BoxN wr w.heap.size 24 [.int .i64 gr.p, .int .i64 gr.q, .int .i64 gr.g]))
      case atStart => exact ⟨0, by omega, rfl, by unfold gnR; rw [List.append_nil]; exact HO, HB, HGr⟩
      case round =>
        clear HO HB HGr
        obtain ⟨k, hkg, rfl, HO, HB, HGr⟩ := hrel
        have hsr := HB.out.size
        have hsg := HGr.out.lt
        have HLE : Hid ((gnL f Q n ++ gnR f n k).length ≤ 1000) := by
          unfold Hid
          rw [List.length_append, gnL_len, gnR_len]
          have : n * Q ≤ 23 * 23 := Nat.mul_le_mul (by omega) h1
          omega
        obtain ⟨oa, oc, hov⟩ := HO.out.shape
        subst hov
        obtain ⟨on, hon⟩ : ∃ z, (gnL f Q n ++ gnR f n k).length = z := ⟨_, rfl⟩
        have HON := Lib.hid hon
        rw [hon] at HO ⊢
        clear hon
        by_cases hlk : k < Q
        · have b2 : decide ((k : Int) < gr.q) = true := decide_eq_true (by have := HQQ.out; omega)
          have hwk : IntKind.i64.wrap ((k : Int) + 1) = (k : Int) + 1 := IntWalk.i64_in _ (by omega)
          have hgk : Q - (k + 1) < gk := by omega
          have hgk2 : k + 1 + (Q - (k + 1)) = Q := by omega
          obtain ⟨T, hT⟩ : ∃ t, f n k = t := ⟨_, rfl⟩
          have HT := Lib.hid hT
          clear hT
          go_wp2_with fail
          refine (HM.out.runs n k wr hlt hlk HB.out).mono ?_
          rintro e w1 ⟨rfl, hb1⟩
          rw [HT.out]
          have hs1 := hb1.size
          have HO1 := Lib.hid (HO.out.below hb1)
          have HB1 := Lib.hid (HB.out.trans (hb1.mono hsr))
          have HG1 := Lib.hid (HGr.out.below hb1)
          clear hb1
          have hbN := (Below.refl w1.heap.size w1).alloc (Nat.le_refl _) (.cells #[.int .i64 T.c, .int .i64 T.e, .int .i64 T.z] 40)
          have HX := Lib.hid (BoxN.new w1 [.int .i64 T.c, .int .i64 T.e, .int .i64 T.z] 40)
          go_wp2_with (at_builtin; refine wpList_append_T rfl _ _ rfl (w.heap.size + 1) (.slice oa on oc) (gnL f Q n ++ gnR f n k) T w1.heap.size 1 (on + 1) rfl rfl (HO1.out.below hbN) (by simp; omega) HX.out (by have := HLE.out; omega) (by rw [HON.out]) ?_; intro a2 c2 w2 hT2 hg2 hbl2)
          have hb2 : Below (w.heap.size + 1) (w1.alloc (.cells #[.int .i64 T.c, .int .i64 T.e, .int .i64 T.z] 40)) w2 := (Below.refl _ _).grown hg2 (by simp; omega) (fun q hq => (HO1.out.lt q hq).1)
          have HB2 := Lib.hid ((HB1.out.trans ((Below.refl _ w1).alloc (by omega) _)).trans (hb2.mono (by omega)))
          have HG2 : Hid (BoxN w2 w.heap.size 24 [.int .i64 gr.p, .int .i64 gr.q, .int .i64 gr.g]) := (HG1.out.below hbN).grown hg2 (fun e => by have := HO1.out.lt w.heap.size e; omega)
          have HO2 : Hid (OwnT w2 (w.heap.size + 1) (.slice a2 (on + 1) c2) (gnL f Q n ++ gnR f n (k + 1))) := by
            unfold Hid
            rw [show gnL f Q n ++ gnR f n (k + 1) = (gnL f Q n ++ gnR f n k) ++ [T] by rw [← HT.out, List.append_assoc]; rfl]
            exact hT2
          clear hT2 hg2 hbl2 hb2 hbN HX
          (try (go_wp2_with fail))
          go_roundg (Q - (k + 1))
          case measure => exact hgk
          case rel => exact ⟨k + 1, hgk2, by go_num, HO2, HB2, HG2⟩
        · obtain rfl : Q = k := by omega
          have b2 : decide ((Q : Int) < gr.q) = false := decide_eq_false (by have := HQQ.out; omega)
          go_wp2_with fail
          go_roundg (Q - (n + 1))
          case measure => exact hgO
          case rel => exact ⟨n + 1, hgO2, by go_num, HO, HB, HGr⟩
    · obtain rfl : Q = n := by omega
      have b1 : decide ((Q : Int) < gr.q) = false := decide_eq_false (by have := HQQ.out; omega)
      obtain ⟨oa, oc, hov⟩ := HO.out.shape
      subst hov
      have hsr := HB.out.size
      have hsg := HGr.out.lt
      have hQQ : 0 < Q * Q := Nat.mul_pos h0 h0
      have hQ2 : Q * Q ≤ 23 * 23 := Nat.mul_le_mul h1 h1
      go_wp2_with fail
      refine (sort_T HO.out (by rw [gnL_len]; exact hQQ) (by rw [gnL_len]; omega)).mono ?_
      rintro e w1 ⟨rfl, ho1, hb1⟩
      have HO1 := Lib.hid (ho1.mono (B' := w.heap.size) (by omega))
      have HB1 := Lib.hid (HB.out.trans (hb1.mono (by omega)))
      clear ho1 hb1 hQQ hQ2
      go_wp2_with fail
      go_ret
      exact ⟨⟨_, rfl, HO1.out⟩, HB1.out⟩
end Go.Proofs.Ytacpnphfopmofaa
namespace Go.Proofs.Ytacpnphfopmofaa
open Go.RowKit
set_option linter.unusedSimpArgs false
set_option linter.unusedVariables false

noncomputable def slB (gr : GroupD) (b y : Int) : Bool := cntB gr && [b, y].all (elB gr)
noncomputable def slL (gr : GroupD) (b y : Int) : List TrD := if slB gr b y = true then trS (gnL (stF gr b y) gr.q.toNat gr.q.toNat) else []
set_option maxRecDepth 100000 in
set_option maxHeartbeats 4000000 in
theorem impl_RealTranscripts (gr : GroupD) (b x : Int) (w : World) (hb : I64 b) (hx : I64 x) :
    Calls Try.prog 8 #[.agg #[.int .i64 gr.p, .int .i64 gr.q, .int .i64 gr.g], .int .i64 b, .int .i64 x] w fun e w' => (∃ v', e = .returned (.tuple #[v', .bool (rlB gr b x)]) ∧ OwnT w' w.heap.size v' (rlL gr b x)) ∧ Below w.heap.size w w' := by
  have HB6 := Lib.hid hb
  have HX6 := Lib.hid hx
  clear hb hx
  obtain ⟨BA, hBA⟩ : ∃ z, z = w.heap.size + 1 := ⟨_, rfl⟩
  obtain ⟨XA, hXA⟩ : ∃ z, z = w.heap.size + 1 + 1 := ⟨_, rfl⟩
  obtain ⟨W, hW⟩ : ∃ W, W = ((w.alloc (.cells #[.int .i64 gr.p, .int .i64 gr.q, .int .i64 gr.g] 24)).alloc (.cells #[.int .i64 b] 3)).alloc (.cells #[.int .i64 x] 3) := ⟨_, rfl⟩
  have HB : Hid (Below w.heap.size w W) := by unfold Hid; rw [hW]; (repeat (first | exact Below.refl _ _ | assumption | refine Below.drew ?_ | refine Below.alloc ?_ (by first | (simp; done) | (simp; omega)) _ | refine Below.setCell ?_ (by first | (simp; done) | (simp; omega)) _))
  have HGB : Hid (BoxN W w.heap.size 24 [.int .i64 gr.p, .int .i64 gr.q, .int .i64 gr.g]) := by unfold Hid; rw [hW]; exact ((BoxN.new w [.int .i64 gr.p, .int .i64 gr.q, .int .i64 gr.g] _).alloc _).alloc _
  have HBB : Hid (BoxN W BA 3 [.int .i64 b]) := by
    unfold Hid; rw [hW, hBA]
    have h9 := (BoxN.new (w.alloc (.cells #[.int .i64 gr.p, .int .i64 gr.q, .int .i64 gr.g] 24)) [.int .i64 b] 3).alloc (.cells #[.int .i64 x] 3)
    rw [show (w.alloc (.cells #[.int .i64 gr.p, .int .i64 gr.q, .int .i64 gr.g] 24)).heap.size = w.heap.size + 1 by simp] at h9
    exact h9
  have HXB : Hid (BoxN W XA 3 [.int .i64 x]) := by
    unfold Hid; rw [hW, hXA]
    have h9 := BoxN.new ((w.alloc (.cells #[.int .i64 gr.p, .int .i64 gr.q, .int .i64 gr.g] 24)).alloc (.cells #[.int .i64 b] 3)) [.int .i64 x] 3
    rw [show ((w.alloc (.cells #[.int .i64 gr.p, .int .i64 gr.q, .int .i64 gr.g] 24)).alloc (.cells #[.int .i64 b] 3)).heap.size = w.heap.size + 1 + 1 by simp] at h9
    exact h9
  have hsW : w.heap.size < W.heap.size := by rw [hW]; simp; omega
  go_enter Try.func8, Try.ntmps8
  go_wp2_with fail
  rw [← hW]
  (try rw [← hXA])
  (try rw [← hBA])
  clear hW hBA hXA
  have g0 := HGB.out.cell (i := 0) rfl
  have g1 := HGB.out.cell (i := 1) rfl
  have g2 := HGB.out.cell (i := 2) rfl
  go_wp2_with fail
  clear g0 g1 g2
  refine (impl_isCounted gr W).mono ?_
  rintro e w1 ⟨rfl, hb1⟩
  have hs1 := hb1.size
  have HB1 := Lib.hid (HB.out.trans (hb1.mono HB.out.size))
  have HG1 := Lib.hid (HGB.out.below hb1)
  have HBb1 := Lib.hid (HBB.out.below hb1)
  have HXb1 := Lib.hid (HXB.out.below hb1)
  clear hb1
  obtain ⟨q, hq⟩ : ∃ q, cntB gr = q := ⟨_, rfl⟩
  rw [hq]
  have HQ0 := Lib.hid hq
  clear hq
  cases q with
  | false =>
    have HN : Hid (rlB gr b x = false) := by unfold Hid rlB; rw [HQ0.out]; rfl
    have HR : Hid (rlL gr b x = []) := by unfold Hid rlL; rw [HN.out]; rfl
    go_wp2_with fail
    go_ret2
    exact ⟨⟨_, by rw [HN.out]; rfl, by rw [HR.out]; exact OwnT.nil _ _⟩, HB1.out⟩
  | true =>
  have HCN := Lib.hid (cntB_parts HQ0.out)
  have HG : Hid (OkG gr) := HCN.out.2
  have g0 := HG1.out.cell (i := 0) rfl
  have g1 := HG1.out.cell (i := 1) rfl
  have g2 := HG1.out.cell (i := 2) rfl
  have c0 := HBb1.out.cell (i := 0) rfl
  go_wp2_with fail
  clear g0 g1 g2 c0
  refine (impl_has gr b w1 HG.out).mono ?_
  rintro e w2 ⟨rfl, hb1⟩
  have hs2 := hb1.size
  have HB2 := Lib.hid (HB1.out.trans (hb1.mono HB1.out.size))
  have HG2 := Lib.hid (HG1.out.below hb1)
  have HBb2 := Lib.hid (HBb1.out.below hb1)
  have HXb2 := Lib.hid (HXb1.out.below hb1)
  clear hb1
  obtain ⟨q, hq⟩ : ∃ q, elB gr b = q := ⟨_, rfl⟩
  rw [hq]
  have HQ1 := Lib.hid hq
  clear hq
  cases q with
  | false =>
    have HN : Hid (rlB gr b x = false) := by unfold Hid rlB; rw [HQ0.out, HQ1.out]; rfl
    have HR : Hid (rlL gr b x = []) := by unfold Hid rlL; rw [HN.out]; rfl
    go_wp2_with fail
    go_ret2
    exact ⟨⟨_, by rw [HN.out]; rfl, by rw [HR.out]; exact OwnT.nil _ _⟩, HB2.out⟩
  | true =>
  have g0 := HG2.out.cell (i := 0) rfl
  have g1 := HG2.out.cell (i := 1) rfl
  have g2 := HG2.out.cell (i := 2) rfl
  have d0 := HXb2.out.cell (i := 0) rfl
  go_wp2_with fail
  clear g0 g1 g2 d0
  refine (impl_isExp gr x w2 HG.out).mono ?_
  rintro e w3 ⟨rfl, hb1⟩
  have hs3 := hb1.size
  have HB3 := Lib.hid (HB2.out.trans (hb1.mono HB2.out.size))
  have HG3 := Lib.hid (HG2.out.below hb1)
  have HBb3 := Lib.hid (HBb2.out.below hb1)
  have HXb3 := Lib.hid (HXb2.out.below hb1)
  clear hb1
  obtain ⟨q, hq⟩ : ∃ q, expB gr x = q := ⟨_, rfl⟩
  rw [hq]
  have HQ2 := Lib.hid hq
  clear hq
  cases q with
  | false =>
    have HN : Hid (rlB gr b x = false) := by unfold Hid rlB; rw [HQ0.out, HQ1.out, HQ2.out]; rfl
    have HR : Hid (rlL gr b x = []) := by unfold Hid rlL; rw [HN.out]; rfl
    go_wp2_with fail
    go_ret2
    exact ⟨⟨_, by rw [HN.out]; rfl, by rw [HR.out]; exact OwnT.nil _ _⟩, HB3.out⟩
  | true =>
  have HN : Hid (rlB gr b x = true) := by unfold Hid rlB; rw [HQ0.out, HQ1.out, HQ2.out]; rfl
  obtain ⟨Q, hQ⟩ : ∃ Q : Nat, (Q : Int) = gr.q := ⟨gr.q.toNat, by have := HG.out.q1; omega⟩
  have HQQ := Lib.hid hQ
  have HR : Hid (rlL gr b x = trS (gnL (rtF gr b x) Q Q)) := by unfold Hid rlL; rw [HN.out, if_pos rfl, ← HQQ.out, rtL_gn]; simp
  have hQ23 : Q ≤ 23 := by have := HCN.out.1; omega
  have hQ0 : 0 < Q := by have := HG.out.q1; omega
  have HXI : Hid (0 ≤ x ∧ x ≤ 22) := by have := expB_bd HQ2.out; have := HCN.out.1; unfold Hid; omega
  clear hQ
  have HM : Hid (MakesT w3 50 #[.pointer (some ⟨w.heap.size, 0, none⟩), .pointer (some ⟨BA, 0, none⟩), .pointer (some ⟨XA, 0, none⟩)] (rtF gr b x) Q) :=
    ⟨enters_of Try.func50 (by kernel_rfl) rfl, fun n m wr hn hm hbb => impl_real1 gr b x n m w.heap.size BA XA wr HG.out HQ1.out HXI.out (by omega) (by omega) (HG3.out.below hbb) (HBb3.out.below hbb) (HXb3.out.below hbb)⟩
  have g0 := HG3.out.cell (i := 0) rfl
  have g1 := HG3.out.cell (i := 1) rfl
  have g2 := HG3.out.cell (i := 2) rfl
  go_wp2_with fail
  clear g0 g1 g2
  refine (impl_transcripts gr (rtF gr b x) Q 50 #[.pointer (some ⟨w.heap.size, 0, none⟩), .pointer (some ⟨BA, 0, none⟩), .pointer (some ⟨XA, 0, none⟩)] w3 HQQ.out hQ0 hQ23 HM.out).mono ?_
  rintro e w9 ⟨⟨v', rfl, ho⟩, hb9⟩
  have HO := Lib.hid (ho.mono HB3.out.size)
  have HB9 := Lib.hid (HB3.out.trans (hb9.mono HB3.out.size))
  clear ho hb9
  rw [← HR.out] at HO
  obtain ⟨oa, oc, rfl⟩ := HO.out.shape
  go_wp2_with fail
  go_ret2
  exact ⟨⟨_, by rw [HN.out]; rfl, HO.out⟩, HB9.out⟩
set_option maxRecDepth 100000 in
set_option maxHeartbeats 4000000 in
theorem impl_SimulatedTranscripts (gr : GroupD) (b x : Int) (w : World) (hb : I64 b) (hx : I64 x) :
    Calls Try.prog 15 #[.agg #[.int .i64 gr.p, .int .i64 gr.q, .int .i64 gr.g], .int .i64 b, .int .i64 x] w fun e w' => (∃ v', e = .returned (.tuple #[v', .bool (slB gr b x)]) ∧ OwnT w' w.heap.size v' (slL gr b x)) ∧ Below w.heap.size w w' := by
  have HB6 := Lib.hid hb
  have HX6 := Lib.hid hx
  clear hb hx
  obtain ⟨BA, hBA⟩ : ∃ z, z = w.heap.size + 1 := ⟨_, rfl⟩
  obtain ⟨XA, hXA⟩ : ∃ z, z = w.heap.size + 1 + 1 := ⟨_, rfl⟩
  obtain ⟨W, hW⟩ : ∃ W, W = ((w.alloc (.cells #[.int .i64 gr.p, .int .i64 gr.q, .int .i64 gr.g] 24)).alloc (.cells #[.int .i64 b] 3)).alloc (.cells #[.int .i64 x] 3) := ⟨_, rfl⟩
  have HB : Hid (Below w.heap.size w W) := by unfold Hid; rw [hW]; (repeat (first | exact Below.refl _ _ | assumption | refine Below.drew ?_ | refine Below.alloc ?_ (by first | (simp; done) | (simp; omega)) _ | refine Below.setCell ?_ (by first | (simp; done) | (simp; omega)) _))
  have HGB : Hid (BoxN W w.heap.size 24 [.int .i64 gr.p, .int .i64 gr.q, .int .i64 gr.g]) := by unfold Hid; rw [hW]; exact ((BoxN.new w [.int .i64 gr.p, .int .i64 gr.q, .int .i64 gr.g] _).alloc _).alloc _
  have HBB : Hid (BoxN W BA 3 [.int .i64 b]) := by
    unfold Hid; rw [hW, hBA]
    have h9 := (BoxN.new (w.alloc (.cells #[.int .i64 gr.p, .int .i64 gr.q, .int .i64 gr.g] 24)) [.int .i64 b] 3).alloc (.cells #[.int .i64 x] 3)
    rw [show (w.alloc (.cells #[.int .i64 gr.p, .int .i64 gr.q, .int .i64 gr.g] 24)).heap.size = w.heap.size + 1 by simp] at h9
    exact h9
  have HXB : Hid (BoxN W XA 3 [.int .i64 x]) := by
    unfold Hid; rw [hW, hXA]
    have h9 := BoxN.new ((w.alloc (.cells #[.int .i64 gr.p, .int .i64 gr.q, .int .i64 gr.g] 24)).alloc (.cells #[.int .i64 b] 3)) [.int .i64 x] 3
    rw [show ((w.alloc (.cells #[.int .i64 gr.p, .int .i64 gr.q, .int .i64 gr.g] 24)).alloc (.cells #[.int .i64 b] 3)).heap.size = w.heap.size + 1 + 1 by simp] at h9
    exact h9
  have hsW : w.heap.size < W.heap.size := by rw [hW]; simp; omega
  go_enter Try.func15, Try.ntmps15
  go_wp2_with fail
  rw [← hW]
  (try rw [← hXA])
  (try rw [← hBA])
  clear hW hBA hXA
  have g0 := HGB.out.cell (i := 0) rfl
  have g1 := HGB.out.cell (i := 1) rfl
  have g2 := HGB.out.cell (i := 2) rfl
  go_wp2_with fail
  clear g0 g1 g2
  refine (impl_isCounted gr W).mono ?_
  rintro e w1 ⟨rfl, hb1⟩
  have hs1 := hb1.size
  have HB1 := Lib.hid (HB.out.trans (hb1.mono HB.out.size))
  have HG1 := Lib.hid (HGB.out.below hb1)
  have HBb1 := Lib.hid (HBB.out.below hb1)
  have HXb1 := Lib.hid (HXB.out.below hb1)
  clear hb1
  obtain ⟨q, hq⟩ : ∃ q, cntB gr = q := ⟨_, rfl⟩
  rw [hq]
  have HQ0 := Lib.hid hq
  clear hq
  cases q with
  | false =>
    have HN : Hid (slB gr b x = false) := by unfold Hid slB; rw [HQ0.out]; rfl
    have HR : Hid (slL gr b x = []) := by unfold Hid slL; rw [HN.out]; rfl
    go_wp2_with fail
    go_ret2
    exact ⟨⟨_, by rw [HN.out]; rfl, by rw [HR.out]; exact OwnT.nil _ _⟩, HB1.out⟩
  | true =>
  have HCN := Lib.hid (cntB_parts HQ0.out)
  have HG : Hid (OkG gr) := HCN.out.2
  obtain ⟨w7, hw7⟩ : ∃ V, V = w1.alloc (.cells #[.int .i64 b, .int .i64 x] 3) := ⟨_, rfl⟩
  have hb7 : Below w1.heap.size w1 w7 := by rw [hw7]; exact (Below.refl _ _).alloc (Nat.le_refl _) _
  have HL7 : Hid (Ints w7 (.slice (some ⟨w1.heap.size, 0, none⟩) 2 2) [b, x]) := by
    unfold Hid; rw [hw7]
    exact (OwnI.lit (l := [b, x]) w1 (Nat.le_refl _) (by intro z hz; rcases List.mem_cons.1 hz with rfl | hz; exact HB6.out; rw [List.mem_singleton.1 hz]; exact HX6.out) rfl (by simp [maxLen]) 2 rfl).ints
  have g0 := HG1.out.cell (i := 0) rfl
  have g1 := HG1.out.cell (i := 1) rfl
  have g2 := HG1.out.cell (i := 2) rfl
  have c0 := HBb1.out.cell (i := 0) rfl
  have d0 := HXb1.out.cell (i := 0) rfl
  go_wp2_with fail
  rw [← hw7]
  clear hw7 g0 g1 g2 c0 d0
  have hs2 := hb7.size
  have HB2 := Lib.hid (HB1.out.trans (hb7.mono HB1.out.size))
  have HG2 := Lib.hid (HG1.out.below hb7)
  have HBb2 := Lib.hid (HBb1.out.below hb7)
  have HXb2 := Lib.hid (HXb1.out.below hb7)
  clear hb7
  refine (impl_hasAll gr _ [b, x] w7 HG.out HL7.out).mono ?_
  rintro e w3 ⟨rfl, hb1⟩
  clear HL7
  have hs3 := hb1.size
  have HB3 := Lib.hid (HB2.out.trans (hb1.mono HB2.out.size))
  have HG3 := Lib.hid (HG2.out.below hb1)
  have HBb3 := Lib.hid (HBb2.out.below hb1)
  have HXb3 := Lib.hid (HXb2.out.below hb1)
  clear hb1
  obtain ⟨q, hq⟩ : ∃ q, [b, x].all (elB gr) = q := ⟨_, rfl⟩
  rw [hq]
  have HQ1 := Lib.hid hq
  clear hq
  cases q with
  | false =>
    have HN : Hid (slB gr b x = false) := by unfold Hid slB; rw [HQ0.out, HQ1.out]; rfl
    have HR : Hid (slL gr b x = []) := by unfold Hid slL; rw [HN.out]; rfl
    go_wp2_with fail
    go_ret2
    exact ⟨⟨_, by rw [HN.out]; rfl, by rw [HR.out]; exact OwnT.nil _ _⟩, HB3.out⟩
  | true =>
  have HN : Hid (slB gr b x = true) := by unfold Hid slB; rw [HQ0.out, HQ1.out]; rfl
  have HEL : Hid (elB gr b = true ∧ elB gr x = true) := by have h := HQ1.out; simp only [List.all_cons, List.all_nil, Bool.and_true, Bool.and_eq_true] at h; exact h
  obtain ⟨Q, hQ⟩ : ∃ Q : Nat, (Q : Int) = gr.q := ⟨gr.q.toNat, by have := HG.out.q1; omega⟩
  have HQQ := Lib.hid hQ
  have HR : Hid (slL gr b x = trS (gnL (stF gr b x) Q Q)) := by unfold Hid slL; rw [HN.out, if_pos rfl, ← HQQ.out]; simp
  have hQ23 : Q ≤ 23 := by have := HCN.out.1; omega
  have hQ0 : 0 < Q := by have := HG.out.q1; omega
  clear hQ
  have HM : Hid (MakesT w3 69 #[.pointer (some ⟨w.heap.size, 0, none⟩), .pointer (some ⟨BA, 0, none⟩), .pointer (some ⟨XA, 0, none⟩)] (stF gr b x) Q) :=
    ⟨enters_of Try.func69 (by kernel_rfl) rfl, fun n m wr hn hm hbb => impl_sim1 gr b x n m w.heap.size BA XA wr HG.out HEL.out.1 HEL.out.2 (by omega) (by omega) (HG3.out.below hbb) (HBb3.out.below hbb) (HXb3.out.below hbb)⟩
  have g0 := HG3.out.cell (i := 0) rfl
  have g1 := HG3.out.cell (i := 1) rfl
  have g2 := HG3.out.cell (i := 2) rfl
  go_wp2_with fail
  clear g0 g1 g2
  refine (impl_transcripts gr (stF gr b x) Q 69 #[.pointer (some ⟨w.heap.size, 0, none⟩), .pointer (some ⟨BA, 0, none⟩), .pointer (some ⟨XA, 0, none⟩)] w3 HQQ.out hQ0 hQ23 HM.out).mono ?_
  rintro e w9 ⟨⟨v', rfl, ho⟩, hb9⟩
  have HO := Lib.hid (ho.mono HB3.out.size)
  have HB9 := Lib.hid (HB3.out.trans (hb9.mono HB3.out.size))
  clear ho hb9
  rw [← HR.out] at HO
  obtain ⟨oa, oc, rfl⟩ := HO.out.shape
  go_wp2_with fail
  go_ret2
  exact ⟨⟨_, by rw [HN.out]; rfl, HO.out⟩, HB9.out⟩
end Go.Proofs.Ytacpnphfopmofaa
