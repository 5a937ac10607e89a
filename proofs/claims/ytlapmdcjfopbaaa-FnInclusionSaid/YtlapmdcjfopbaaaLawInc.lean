/- The laws of Merkle trees on drawn leaves: their walks. -/
import Derived.Test.YtlapmdcjfopbaaaDrawM
import Derived.Test.YtlapmdcjfopbaaaIncl
namespace Go.Proofs.Ytlapmdcjfopbaaa
open Go.RowKit
set_option linter.unusedSimpArgs false
set_option linter.unusedVariables false
theorem pathN_digest {f : Nat} : ∀ {l : List Int} {i : Nat}, l.all digestB = true → (pathN f l i).all digestB = true := by
  induction f with
  | zero => intro l i _; rfl
  | succ f ih =>
    intro l i h
    unfold pathN
    split
    · rfl
    · split
      · rw [List.all_append, ih (all_take h _)]; simp [rootN_digest (all_drop h _)]
      · rw [List.all_append, ih (all_drop h _)]; simp [rootN_digest (all_take h _)]

theorem incN_of_inc {l : List Int} {i : Int} (h : incB l i = true) : viB (nth l i.toNat) i l.length (incL l i) (root l) = true ∧ viR (nth l i.toNat) i l.length (incL l i) (root l) = true := by
  obtain ⟨hg, hd, h0, h1⟩ := incB_parts h
  have h64 := (goodL_yes hg).1
  have hp : incL l i = pathN 65 l i.toNat := by unfold incL; rw [if_pos h]
  have hpd : (incL l i).all digestB = true := by rw [hp]; exact pathN_digest hd
  have hB : viB (nth l i.toNat) i l.length (incL l i) (root l) = true := by
    unfold viB
    rw [decide_eq_true (by omega), decide_eq_true (by omega), nth_digest hd, root_digest hd, hpd]; rfl
  refine ⟨hB, ?_⟩
  unfold viR
  rw [hB, hp, Int.toNat_natCast, incN_path 65 (by omega) h64 (by omega)]
  simp
set_option maxRecDepth 100000 in
set_option maxHeartbeats 4000000 in
theorem law_Inclusion (v1 v2 : Value) (w : World) (h1 : Bytes w v1) (h2 : Bytes w v2) :
    Calls Try.prog 9 #[v1, v2] w fun e w' => e = .returned (.bool true) ∧ Below w.heap.size w w' := by
  have H1 := Lib.hid h1; have H2 := Lib.hid h2; clear h1 h2
  have big := laws_big v1 v2 w H1.out H2.out
  go_enter Try.func9, Try.ntmps9
  go_wp2_with fail
  refine big.mono ?_
  rintro e w1 ⟨⟨b, rfl⟩, rfl⟩
  clear big
  cases b
  rotate_left
  · go_wp2_with fail
    go_ret
    exact ⟨rfl, Below.refl _ _⟩
  · go_wp2_with fail
    refine (spec_DrawInclusionPath _ _ H1.out).mono ?_
    rintro e w1 ⟨⟨v, i, rfl, l, hl, hlen, hi⟩, hb⟩
    have HB := Lib.hid hb; have HL := Lib.hid hl; have HI := Lib.hid hi
    obtain ⟨al, nl, cl, rfl⟩ := hl.shape
    have HE := Lib.hid hl.len
    have hln : nl ≤ 100 := by rw [← hl.len]; exact hlen
    clear hb hl hlen hi
    go_wp2_with fail
    refine (impl_InclusionPath _ l i _ HL.out).mono ?_
    rintro e w2 ⟨vp, rfl, hp, hb⟩
    have HP : Hid (Ints w2 vp (incL l i)) := hp.1.ints
    replace HB := Lib.hid (Below.next HB.out hb); replace HL := Lib.hid (HL.out.below hb)
    clear hb hp
    go_wp2_with fail
    refine (spec_InclusionPath _ l i _ HL.out).mono ?_
    rintro e w3 ⟨vs, rfl, hp, hb⟩
    have HS : Hid (Ints w3 vs (incL l i)) := hp.1.ints
    replace HB := Lib.hid (Below.next HB.out hb); replace HL := Lib.hid (HL.out.below hb); replace HP := Lib.hid (HP.out.below hb)
    clear hb hp
    (obtain ⟨q, h_q⟩ : ∃ q, incB l i = q := ⟨_, rfl⟩); have HQ := Lib.hid h_q; clear h_q
    rw [HQ.out]
    have tail : ∀ (u : World), Below w.heap.size w u → True := fun _ _ => trivial
    clear tail
    cases q
    · go_wp2_with fail
      refine (laws_sameInts _ _ _ _ _ HP.out HS.out).mono ?_
      rintro e w4 ⟨rfl, hb⟩
      rw [decide_eq_true rfl]
      replace HB := Lib.hid (Below.next HB.out hb)
      clear hb HP HS HL
      go_wp2_with fail
      refine (spec_DrawVerifyInclusion _ _ (H2.out.below HB.out)).mono ?_
      rintro e wa ⟨⟨x', i', n', v', r', rfl, l', hl', hx', hr'⟩, hb⟩
      have HL' := Lib.hid hl'; have HX' := Lib.hid hx'; have HR' := Lib.hid hr'
      replace HB := Lib.hid (Below.next HB.out hb)
      clear hb hl' hx' hr'
      go_wp2_with fail
      refine (impl_VerifyInclusion _ _ _ _ _ _ _ HX'.out HR'.out HL'.out).mono ?_
      rintro e wb ⟨rfl, hb⟩
      replace HB := Lib.hid (Below.next HB.out hb); replace HL' := Lib.hid (HL'.out.below hb)
      clear hb
      go_wp2_with fail
      refine (spec_VerifyInclusion _ _ _ _ _ _ _ HX'.out HR'.out HL'.out).mono ?_
      rintro e wc ⟨rfl, hb⟩
      replace HB := Lib.hid (Below.next HB.out hb)
      clear hb
      generalize viR x' i' n' l' r' = qa
      generalize viB x' i' n' l' r' = qb
      have eqa : (qa == qa) = true := by simp
      have eqb : (qb == qb) = true := by simp
      go_wp2_with fail
      go_ret
      exact ⟨rfl, HB.out⟩
    · obtain ⟨hg, hd, hi0, hi1⟩ := incB_parts HQ.out
      obtain ⟨j, rfl⟩ := Int.eq_ofNat_of_zero_le hi0
      have hj : j < nl := by have := HE.out; omega
      have HV := Lib.hid (incN_of_inc HQ.out)
      have HG := Lib.hid hg
      have HR := Lib.hid (digest_I64 (root_digest hd))
      clear hg hd hi0 hi1
      go_wp2_with fail
      refine (laws_sameInts _ _ _ _ _ HP.out HS.out).mono ?_
      rintro e w4 ⟨rfl, hb⟩
      rw [decide_eq_true rfl]
      replace HB := Lib.hid (Below.next HB.out hb); replace HL := Lib.hid (HL.out.below hb); replace HP := Lib.hid (HP.out.below hb)
      clear hb HS
      go_wp2_with fail
      refine (impl_RootOf _ l _ HL.out).mono ?_
      rintro e w5 ⟨rfl, hb⟩
      rw [HG.out, if_pos rfl]
      replace HB := Lib.hid (Below.next HB.out hb); replace HL := Lib.hid (HL.out.below hb); replace HP := Lib.hid (HP.out.below hb)
      clear hb
      obtain ⟨bk, o, rfl, hcx⟩ := HL.out.at_ (by omega)
      have hy := hcx j hj
      have HX := Lib.hid (HL.out.all.at_ j)
      have HV1 := HV.out.1
      have HV2 := HV.out.2
      rw [Int.toNat_natCast, HE.out] at HV1 HV2
      have HV3 := Lib.hid HV1; have HV4 := Lib.hid HV2
      clear hcx HV1 HV2
      generalize hn : nth l j = x at hy HX HV3 HV4
      clear hn HV
      generalize root l = r at HR HV3 HV4 ⊢
      go_wp2_with fail
      refine (impl_VerifyInclusion x j nl _ (incL l j) r _ HX.out HR.out HP.out).mono ?_
      rintro e w6 ⟨rfl, hb⟩
      rw [HV3.out, HV4.out]
      replace HB := Lib.hid (Below.next HB.out hb)
      clear hb hy
      go_wp2_with fail
      refine (spec_DrawVerifyInclusion _ _ (H2.out.below HB.out)).mono ?_
      rintro e wa ⟨⟨x', i', n', v', r', rfl, l', hl', hx', hr'⟩, hb⟩
      have HL' := Lib.hid hl'; have HX' := Lib.hid hx'; have HR' := Lib.hid hr'
      replace HB := Lib.hid (Below.next HB.out hb)
      clear hb hl' hx' hr'
      go_wp2_with fail
      refine (impl_VerifyInclusion _ _ _ _ _ _ _ HX'.out HR'.out HL'.out).mono ?_
      rintro e wb ⟨rfl, hb⟩
      replace HB := Lib.hid (Below.next HB.out hb); replace HL' := Lib.hid (HL'.out.below hb)
      clear hb
      go_wp2_with fail
      refine (spec_VerifyInclusion _ _ _ _ _ _ _ HX'.out HR'.out HL'.out).mono ?_
      rintro e wc ⟨rfl, hb⟩
      replace HB := Lib.hid (Below.next HB.out hb)
      clear hb
      generalize viR x' i' n' l' r' = qa
      generalize viB x' i' n' l' r' = qb
      have eqa : (qa == qa) = true := by simp
      have eqb : (qb == qb) = true := by simp
      go_wp2_with fail
      go_ret
      exact ⟨rfl, HB.out⟩
theorem consN_digest {f : Nat} : ∀ {m : Nat} {l : List Int} {b : Bool}, l.all digestB = true → (consN f m l b).all digestB = true := by
  induction f with
  | zero => intro m l b _; rfl
  | succ f ih =>
    intro m l b h
    unfold consN
    split
    · split
      · rfl
      · simp [rootN_digest h]
    · split
      · rw [List.all_append, ih (all_take h _)]; simp [rootN_digest (all_drop h _)]
      · rw [List.all_append, ih (all_drop h _)]; simp [rootN_digest (all_take h _)]
theorem bothN_of_con {l : List Int} {m : Int} (h : conB l m = true) : vcB m l.length (root (l.take m.toNat)) (root l) (conL l m) = true ∧ vcR m l.length (root (l.take m.toNat)) (root l) (conL l m) = true := by
  obtain ⟨hg, hd, h0, h1⟩ := conB_parts h
  have h64 := (goodL_yes hg).1
  have hp : conL l m = consN 65 m.toNat l true := by unfold conL; rw [if_pos h]
  have hpd : (conL l m).all digestB = true := by rw [hp]; exact consN_digest hd
  have hB : vcB m l.length (root (l.take m.toNat)) (root l) (conL l m) = true := by
    unfold vcB
    rw [decide_eq_true (by omega), decide_eq_true (by omega), root_digest (all_take hd _), root_digest hd, hpd]; rfl
  refine ⟨hB, ?_⟩
  unfold vcR
  rw [hB, hp, Int.toNat_natCast, bothN_cons 65 (by omega) h64 (by omega) (by omega) (fun _ => rfl)]
  simp
set_option maxRecDepth 100000 in
set_option maxHeartbeats 4000000 in
theorem law_Consistency (v1 v2 : Value) (w : World) (h1 : Bytes w v1) (h2 : Bytes w v2) :
    Calls Try.prog 10 #[v1, v2] w fun e w' => e = .returned (.bool true) ∧ Below w.heap.size w w' := by
  have H1 := Lib.hid h1; have H2 := Lib.hid h2; clear h1 h2
  have big := laws_big v1 v2 w H1.out H2.out
  go_enter Try.func10, Try.ntmps10
  go_wp2_with fail
  refine big.mono ?_
  rintro e w1 ⟨⟨b, rfl⟩, rfl⟩
  clear big
  cases b
  rotate_left
  · go_wp2_with fail
    go_ret
    exact ⟨rfl, Below.refl _ _⟩
  · go_wp2_with fail
    refine (spec_DrawConsistencyPath _ _ H1.out).mono ?_
    rintro e w1 ⟨⟨v, i, rfl, l, hl, hlen, hi⟩, hb⟩
    have HB := Lib.hid hb; have HL := Lib.hid hl; have HI := Lib.hid hi
    obtain ⟨al, nl, cl, rfl⟩ := hl.shape
    have HE := Lib.hid hl.len
    have hln : nl ≤ 100 := by rw [← hl.len]; exact hlen
    clear hb hl hlen hi
    go_wp2_with fail
    refine (impl_ConsistencyPath _ l i _ HL.out).mono ?_
    rintro e w2 ⟨vp, rfl, hp, hb⟩
    have HP : Hid (Ints w2 vp (conL l i)) := hp.1.ints
    replace HB := Lib.hid (Below.next HB.out hb); replace HL := Lib.hid (HL.out.below hb)
    clear hb hp
    go_wp2_with fail
    refine (spec_ConsistencyPath _ l i _ HL.out).mono ?_
    rintro e w3 ⟨vs, rfl, hp, hb⟩
    have HS : Hid (Ints w3 vs (conL l i)) := hp.1.ints
    replace HB := Lib.hid (Below.next HB.out hb); replace HL := Lib.hid (HL.out.below hb); replace HP := Lib.hid (HP.out.below hb)
    clear hb hp
    (obtain ⟨q, h_q⟩ : ∃ q, conB l i = q := ⟨_, rfl⟩); have HQ := Lib.hid h_q; clear h_q
    rw [HQ.out]
    cases q
    · go_wp2_with fail
      refine (laws_sameInts _ _ _ _ _ HP.out HS.out).mono ?_
      rintro e w4 ⟨rfl, hb⟩
      rw [decide_eq_true rfl]
      replace HB := Lib.hid (Below.next HB.out hb)
      clear hb HP HS HL
      go_wp2_with fail
      refine (spec_DrawVerifyConsistency _ _ (H2.out.below HB.out)).mono ?_
      rintro e wa ⟨⟨x', i', n', r', v', rfl, l', hl', hx', hr'⟩, hb⟩
      have HL' := Lib.hid hl'; have HX' := Lib.hid hx'; have HR' := Lib.hid hr'
      replace HB := Lib.hid (Below.next HB.out hb)
      clear hb hl' hx' hr'
      go_wp2_with fail
      refine (impl_VerifyConsistency _ _ _ _ _ _ _ HX'.out HR'.out HL'.out).mono ?_
      rintro e wb ⟨rfl, hb⟩
      replace HB := Lib.hid (Below.next HB.out hb); replace HL' := Lib.hid (HL'.out.below hb)
      clear hb
      go_wp2_with fail
      refine (spec_VerifyConsistency _ _ _ _ _ _ _ HX'.out HR'.out HL'.out).mono ?_
      rintro e wc ⟨rfl, hb⟩
      replace HB := Lib.hid (Below.next HB.out hb)
      clear hb
      generalize vcR x' i' n' r' l' = qa
      generalize vcB x' i' n' r' l' = qb
      have eqa : (qa == qa) = true := by simp
      have eqb : (qb == qb) = true := by simp
      go_wp2_with fail
      go_ret
      exact ⟨rfl, HB.out⟩
    · obtain ⟨hg, hd, hi0, hi1⟩ := conB_parts HQ.out
      obtain ⟨j, rfl⟩ := Int.eq_ofNat_of_zero_le (show 0 ≤ i by omega)
      have hj : j ≤ nl := by have := HE.out; omega
      have HV := Lib.hid (bothN_of_con HQ.out)
      have HG := Lib.hid hg
      have HGT : Hid (goodL (l.take j) = true) := by
        unfold Hid goodL; rw [all_take hd, decide_eq_true (by have := (goodL_yes hg).1; rw [List.length_take]; omega)]; rfl
      have HR := Lib.hid (digest_I64 (root_digest hd))
      have HRT := Lib.hid (digest_I64 (root_digest (all_take hd j)))
      clear hg hd hi0 hi1
      go_wp2_with fail
      refine (laws_sameInts _ _ _ _ _ HP.out HS.out).mono ?_
      rintro e w4 ⟨rfl, hb⟩
      rw [decide_eq_true rfl]
      replace HB := Lib.hid (Below.next HB.out hb); replace HL := Lib.hid (HL.out.below hb); replace HP := Lib.hid (HP.out.below hb)
      clear hb HS
      have hs1 := (sl_take HL.out (x := (j : Int)) (k := j) rfl hj).1
      go_wp2_with fail
      refine (impl_RootOf _ (l.take j) _ (sl_take HL.out (x := (j : Int)) (k := j) rfl hj).2).mono ?_
      rintro e w5 ⟨rfl, hb⟩
      rw [HGT.out, if_pos rfl]
      replace HB := Lib.hid (Below.next HB.out hb); replace HL := Lib.hid (HL.out.below hb); replace HP := Lib.hid (HP.out.below hb)
      clear hb hs1
      go_wp2_with fail
      refine (impl_RootOf _ l _ HL.out).mono ?_
      rintro e w5 ⟨rfl, hb⟩
      rw [HG.out, if_pos rfl]
      replace HB := Lib.hid (Below.next HB.out hb); replace HP := Lib.hid (HP.out.below hb)
      clear hb HL
      have HV1 := HV.out.1
      have HV2 := HV.out.2
      rw [Int.toNat_natCast, HE.out] at HV1 HV2
      have HV3 := Lib.hid HV1; have HV4 := Lib.hid HV2
      clear HV1 HV2 HV
      generalize root l = r at HR HV3 HV4 ⊢
      generalize root (l.take j) = x at HRT HV3 HV4 ⊢
      go_wp2_with fail
      refine (impl_VerifyConsistency j nl x r _ (conL l j) _ HRT.out HR.out HP.out).mono ?_
      rintro e w6 ⟨rfl, hb⟩
      rw [HV3.out, HV4.out]
      replace HB := Lib.hid (Below.next HB.out hb)
      clear hb
      go_wp2_with fail
      refine (spec_DrawVerifyConsistency _ _ (H2.out.below HB.out)).mono ?_
      rintro e wa ⟨⟨x', i', n', r', v', rfl, l', hl', hx', hr'⟩, hb⟩
      have HL' := Lib.hid hl'; have HX' := Lib.hid hx'; have HR' := Lib.hid hr'
      replace HB := Lib.hid (Below.next HB.out hb)
      clear hb hl' hx' hr'
      go_wp2_with fail
      refine (impl_VerifyConsistency _ _ _ _ _ _ _ HX'.out HR'.out HL'.out).mono ?_
      rintro e wb ⟨rfl, hb⟩
      replace HB := Lib.hid (Below.next HB.out hb); replace HL' := Lib.hid (HL'.out.below hb)
      clear hb
      go_wp2_with fail
      refine (spec_VerifyConsistency _ _ _ _ _ _ _ HX'.out HR'.out HL'.out).mono ?_
      rintro e wc ⟨rfl, hb⟩
      replace HB := Lib.hid (Below.next HB.out hb)
      clear hb
      generalize vcR x' i' n' r' l' = qa
      generalize vcB x' i' n' r' l' = qb
      have eqa : (qa == qa) = true := by simp
      have eqb : (qb == qb) = true := by simp
      go_wp2_with fail
      go_ret
      exact ⟨rfl, HB.out⟩
theorem frn_digest {f : Nat} : ∀ {l : List Int}, l.all digestB = true → (frnN f l).all digestB = true := by
  induction f with
  | zero => intro l _; rfl
  | succ f ih =>
    intro l h
    unfold frnN
    split
    · rfl
    · rw [List.all_cons, ih (all_drop h _), rootN_digest (all_take h _)]; rfl
theorem ones_top : ∀ j, j < 7 → ∀ r, r < 2 ^ j → onesF 7 (2 ^ j + r) = 1 + onesF 7 r := by decide +kernel
theorem frn_length (j : Nat) : ∀ {l : List Int}, j ≤ 7 → l.length < 2 ^ j → l.length ≤ 64 → (frn l).length = ones l.length := by
  induction j with
  | zero =>
    intro l _ h _
    obtain rfl := List.eq_nil_of_length_eq_zero (show l.length = 0 by simpa using h)
    rfl
  | succ j ih =>
    intro l hj h h64
    have e2 : 2 ^ (j + 1) = 2 ^ j + 2 ^ j := by rw [Nat.pow_succ]; omega
    by_cases hc : l.length < 2 ^ j
    · exact ih (by omega) hc h64
    · obtain ⟨A, r, rfl, hA⟩ : ∃ A r, l = A ++ r ∧ A.length = 2 ^ j := ⟨l.take (2 ^ j), l.drop (2 ^ j), (List.take_append_drop _ _).symm, by rw [List.length_take]; omega⟩
      rw [List.length_append] at *
      rw [frn_top (j := j) (by omega) hA (by omega) (by omega), List.length_cons, ih (by omega) (by omega) (by omega)]
      unfold ones
      rw [hA, ones_top j (by omega) r.length (by omega)]; omega
theorem ones_le7 (n : Nat) : ones n ≤ 7 := onesF_le 7 n
theorem psB_frn {l : List Int} {k : Nat} (hd : l.all digestB = true) (hl : l.length ≤ 64) (hk : k < l.length) : psB k (frn (l.take k)) (nth l k) = true ∧ psL k (frn (l.take k)) (nth l k) = frn (l.take (k + 1)) := by
  have e : (l.take k).length = k := by rw [List.length_take]; omega
  have h1 : psB k (frn (l.take k)) (nth l k) = true := by
    unfold psB
    have h2 := frn_length 7 (l := l.take k) (by omega) (by omega) (by omega)
    rw [e] at h2
    rw [Int.toNat_natCast, decide_eq_true (by omega), decide_eq_true h2, nth_digest hd, show (frn (l.take k)).all digestB = true from frn_digest (all_take hd _)]; rfl
  refine ⟨h1, ?_⟩
  unfold psL
  rw [if_pos h1, Int.toNat_natCast]
  have h3 := push_frn (l := l.take k) (x := nth l k) (by omega)
  rw [e] at h3
  rw [h3, take_succ_nth hk]
theorem fr_root {l : List Int} (hd : l.all digestB = true) (hl : l.length ≤ 64) : frB (frn l) = true ∧ frI (frn l) = root l := by
  have h1 : frB (frn l) = true := by
    unfold frB
    rw [show (frn l).all digestB = true from frn_digest hd, frn_length 7 (l := l) (by omega) (by omega) hl, decide_eq_true (ones_le7 _)]; rfl
  exact ⟨h1, by unfold frI; rw [if_pos h1, frRoot_frn_all hl]⟩
set_option maxRecDepth 100000 in
set_option maxHeartbeats 4000000 in
theorem law_Frontier (v1 v2 : Value) (w : World) (h1 : Bytes w v1) (h2 : Bytes w v2) :
    Calls Try.prog 11 #[v1, v2] w fun e w' => e = .returned (.bool true) ∧ Below w.heap.size w w' := by
  have H1 := Lib.hid h1; have H2 := Lib.hid h2; clear h1 h2
  have big := laws_big v1 v2 w H1.out H2.out
  go_enter Try.func11, Try.ntmps11
  go_wp2_with fail
  refine big.mono ?_
  rintro e w1 ⟨⟨b, rfl⟩, rfl⟩
  clear big
  cases b
  rotate_left
  · go_wp2_with fail
    go_ret
    exact ⟨rfl, Below.refl _ _⟩
  · go_wp2_with fail
    refine (spec_DrawFrontierOf _ _ H1.out).mono ?_
    rintro e w1 ⟨⟨v, rfl, l, hl, hlen⟩, hb⟩
    have HB := Lib.hid hb; have HL := Lib.hid hl
    obtain ⟨al, nl, cl, rfl⟩ := hl.shape
    have HE := Lib.hid hl.len
    have hln : nl ≤ 100 := by rw [← hl.len]; exact hlen
    clear hb hl hlen
    go_wp2_with fail
    refine (impl_FrontierOf _ l _ HL.out).mono ?_
    rintro e w2 ⟨vp, rfl, hp, hb⟩
    have HP : Hid (Ints w2 vp (foL l)) := hp.1.ints
    replace HB := Lib.hid (Below.next HB.out hb); replace HL := Lib.hid (HL.out.below hb)
    clear hb hp
    go_wp2_with fail
    refine (spec_FrontierOf _ l _ HL.out).mono ?_
    rintro e w3 ⟨vs, rfl, hp, hb⟩
    have HS : Hid (Ints w3 vs (foL l)) := hp.1.ints
    replace HB := Lib.hid (Below.next HB.out hb); replace HL := Lib.hid (HL.out.below hb); replace HP := Lib.hid (HP.out.below hb)
    clear hb hp
    (obtain ⟨q, h_q⟩ : ∃ q, goodL l = q := ⟨_, rfl⟩); have HQ := Lib.hid h_q; clear h_q
    rw [HQ.out]
    cases q
    · go_wp2_with fail
      refine (laws_sameInts _ _ _ _ _ HP.out HS.out).mono ?_
      rintro e w4 ⟨rfl, hb⟩
      rw [decide_eq_true rfl]
      replace HB := Lib.hid (Below.next HB.out hb)
      clear hb HP HS HL
      go_wp2_with fail
      refine (spec_DrawPushLeaf _ _ (H2.out.below HB.out)).mono ?_
      rintro e wa ⟨⟨n', v', x', rfl, l', hl', hx'⟩, hb⟩
      have HL' := Lib.hid hl'; have HX' := Lib.hid hx'
      replace HB := Lib.hid (Below.next HB.out hb)
      clear hb hl' hx'
      go_wp2_with fail
      refine (impl_PushLeaf _ _ _ _ _ HL'.out).mono ?_
      rintro e wb ⟨vb, rfl, hp, hb⟩
      have HPI := Lib.hid hp.1.ints
      replace HB := Lib.hid (Below.next HB.out hb); replace HL' := Lib.hid (HL'.out.below hb)
      clear hb hp
      go_wp2_with fail
      refine (spec_PushLeaf _ _ _ _ _ HL'.out).mono ?_
      rintro e wc ⟨vc, rfl, hp, hb⟩
      have HPS := Lib.hid hp.1.ints
      replace HB := Lib.hid (Below.next HB.out hb); replace HPI := Lib.hid (HPI.out.below hb)
      clear hb hp
      generalize psB n' l' x' = qb
      have eqb : (qb == qb) = true := by simp
      go_wp2_with fail
      refine (laws_sameInts _ _ _ _ _ HPI.out HPS.out).mono ?_
      rintro e wd ⟨rfl, hb⟩
      rw [decide_eq_true rfl]
      replace HB := Lib.hid (Below.next HB.out hb)
      clear hb
      go_wp2_with fail
      go_ret
      exact ⟨rfl, HB.out⟩
    · obtain ⟨h64, hd⟩ := goodL_yes HQ.out
      have HF : Hid (foL l = frn l) := by unfold Hid foL; rw [if_pos HQ.out]; rfl
      have H64 := Lib.hid h64; have HD := Lib.hid hd
      have hn64 : nl ≤ 64 := by have := HE.out; omega
      clear hd h64
      go_wp2_with fail
      refine (laws_sameInts _ _ _ _ _ HP.out HS.out).mono ?_
      rintro e w4 ⟨rfl, hb⟩
      rw [decide_eq_true rfl]
      replace HB := Lib.hid (Below.next HB.out hb); replace HL := Lib.hid (HL.out.below hb); replace HS := Lib.hid (HS.out.below hb)
      clear hb HP
      go_wp2_with fail
      go_loopg [10, 53] nl (fun g v i wr => ∃ k : Nat, k + g = nl ∧ i = .int .i64 k ∧ Ints wr v (frn (l.take k)) ∧ Below w4.heap.size w4 wr)
      case atStart => exact ⟨0, by omega, rfl, Ints.nil _, Below.refl _ _⟩
      case round =>
        obtain ⟨k, hkg, rfl, hv, hbw⟩ := hrel
        have HVV := Lib.hid hv; have HBW := Lib.hid hbw
        obtain ⟨av, nv, cv, rfl⟩ := hv.shape
        clear hv hbw
        by_cases hlt : k < nl
        · have hkl : k < l.length := by have := HE.out; omega
          obtain ⟨bk, o, rfl, hcx⟩ := (HL.out.below HBW.out).at_ (by omega)
          have hy := hcx k hlt
          have HPS := Lib.hid (psB_frn HD.out H64.out hkl)
          clear hcx hkl
          generalize nth l k = x at hy HPS
          go_wp2_with fail
          refine (impl_PushLeaf k _ (frn (l.take k)) x _ HVV.out).mono ?_
          rintro e w6 ⟨vn, rfl, hp, hb⟩
          rw [HPS.out.1]
          have HN : Hid (Ints w6 vn (frn (l.take (k + 1)))) := by unfold Hid; rw [← HPS.out.2]; exact hp.1.ints
          have HBN := Lib.hid (Below.next HBW.out hb)
          clear hp hb hy
          go_wp2_with fail
          go_roundg (nl - (k + 1))
          case measure => omega
          case rel => exact ⟨k + 1, by omega, by go_num, HN.out, HBN.out⟩
        · obtain rfl : nl = k := by omega
          have HVF : Hid (Ints wr (.slice av nv cv) (frn l)) := by have := HVV.out; rw [List.take_of_length_le (by rw [HE.out]; exact Nat.le_refl _)] at this; exact this
          have HRI := Lib.hid (fr_root HD.out H64.out)
          replace HB := Lib.hid (Below.next HB.out HBW.out)
          replace HS := Lib.hid (HS.out.below HBW.out)
          replace HL := Lib.hid (HL.out.below HBW.out)
          clear HVV HBW
          have HS' : Hid (Ints wr vs (frn l)) := by have := HS.out; rw [HF.out] at this; exact this
          clear HS
          go_wp2_with fail
          refine (impl_RootOf _ l _ HL.out).mono ?_
          rintro e w6 ⟨rfl, hb⟩
          rw [HQ.out, if_pos rfl]
          replace HB := Lib.hid (Below.next HB.out hb); replace HVF := Lib.hid (HVF.out.below hb); replace HS' := Lib.hid (HS'.out.below hb)
          clear hb HL
          go_wp2_with fail
          refine (impl_RootOfFrontier _ (frn l) _ HVF.out).mono ?_
          rintro e w7 ⟨rfl, hb⟩
          rw [HRI.out.1, HRI.out.2]
          replace HB := Lib.hid (Below.next HB.out hb); replace HVF := Lib.hid (HVF.out.below hb); replace HS' := Lib.hid (HS'.out.below hb)
          clear hb
          generalize root l = r
          have er : (r != r) = false := by simp
          go_wp2_with fail
          refine (laws_sameInts _ _ _ _ _ HVF.out HS'.out).mono ?_
          rintro e w8 ⟨rfl, hb⟩
          rw [decide_eq_true rfl]
          replace HB := Lib.hid (Below.next HB.out hb)
          clear hb er
          go_wp2_with fail
          refine (spec_DrawPushLeaf _ _ (H2.out.below HB.out)).mono ?_
          rintro e wa ⟨⟨n', v', x', rfl, l', hl', hx'⟩, hb⟩
          have HL' := Lib.hid hl'; have HX' := Lib.hid hx'
          replace HB := Lib.hid (Below.next HB.out hb)
          clear hb hl' hx'
          go_wp2_with fail
          refine (impl_PushLeaf _ _ _ _ _ HL'.out).mono ?_
          rintro e wb ⟨vb, rfl, hp, hb⟩
          have HPI := Lib.hid hp.1.ints
          replace HB := Lib.hid (Below.next HB.out hb); replace HL' := Lib.hid (HL'.out.below hb)
          clear hb hp
          go_wp2_with fail
          refine (spec_PushLeaf _ _ _ _ _ HL'.out).mono ?_
          rintro e wc ⟨vc, rfl, hp, hb⟩
          have HPS := Lib.hid hp.1.ints
          replace HB := Lib.hid (Below.next HB.out hb); replace HPI := Lib.hid (HPI.out.below hb)
          clear hb hp
          generalize psB n' l' x' = qb
          have eqb : (qb == qb) = true := by simp
          go_wp2_with fail
          refine (laws_sameInts _ _ _ _ _ HPI.out HPS.out).mono ?_
          rintro e wd ⟨rfl, hb⟩
          rw [decide_eq_true rfl]
          replace HB := Lib.hid (Below.next HB.out hb)
          clear hb
          go_wp2_with fail
          go_ret
          exact ⟨rfl, HB.out⟩
end Go.Proofs.Ytlapmdcjfopbaaa
