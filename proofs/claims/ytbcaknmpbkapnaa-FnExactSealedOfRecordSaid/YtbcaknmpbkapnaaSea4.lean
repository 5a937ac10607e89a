/- Walks: SealedRecord. -/
import Derived.Test.YtbcaknmpbkapnaaSea3
namespace Go.Proofs.Ytbcaknmpbkapnaa
open Go.RowKit
set_option linter.unusedSimpArgs false
set_option linter.unusedVariables false

theorem seaR_no {d : SealedD} (h : seaB d = false) : seaR d = [] := by unfold seaR; rw [h, if_neg (by simp)]
theorem seaR_yes {d : SealedD} (h : seaB d = true) : seaR d = joinL (seaParts d) := by unfold seaR; rw [if_pos h]
/-- one slice more -/
theorem run_append_rowsG {w : World} {lo hi a b : Nat} {v x : Value} {ds : List (List Int)} {d : List Int} (hown : OwnL 22 kInts w lo hi v ds) (hx : kInts.own w a b x d) (hab : hi ≤ a) (hbw : b ≤ w.heap.size) (hhi : hi ≤ w.heap.size) (hlo : lo ≤ hi)
    (g c : Nat) (hc : w.cell? ⟨g, 0, none⟩ = some x) (hlen : ds.length ≤ 1000000000) (ty : TypeId) :
    ∃ v' w', (Builtin.append_ #[47, 47] ty #[v, .slice (some ⟨g, 0, none⟩) 1 c]).run Try.prog w = .ok v' w' ∧ OwnL 22 kInts w' lo w'.heap.size v' (ds ++ [d]) ∧ Below lo w w' ∧ w.grownBy w' v.ownBlock ∧ (v'.ownBlock = v.ownBlock ∨ ∃ q, w.heap.size ≤ q ∧ v'.ownBlock = some q) := by
  obtain ⟨i, hi', hz, hsz, hby⟩ := info_parts info_intsA
  obtain ⟨vs, los, his, hvl, hO, hgl, hel, hd⟩ := hown
  obtain ⟨xa, xn, xc, rfl⟩ := Ints.shape (kInts.own_rd hx)
  have hnews : ∀ j u, [Value.slice xa xn xc][j]? = some u → w.cell? ((⟨g, 0, none⟩ : Addr).add j) = some u := fun j u hu => by
    cases j with
    | zero => simp at hu; subst hu; simpa [Addr.add] using hc
    | succ j => simp at hu
  obtain ⟨v', w', hr, h1, h2, _⟩ := run_append_own (P := Try.prog) w lo 47 ty 22 i (.slice none 0 0) 1 24 Try.underlying47 hi' hz hsz hby rfl (by decide) v ds.length vs hO ⟨g, 0, none⟩ 1 c [.slice xa xn xc] rfl hnews (fun u hu => by simp at hu; subst hu; rfl) (by unfold maxLen; omega) (by omega) (by omega)
  have hbl := append_block (P := Try.prog) lo 47 ty 22 i (.slice none 0 0) Try.underlying47 hi' hz (by rw [hsz]; rfl) (by omega) v ds.length vs (by rw [hsz]; exact hO) ⟨g, 0, none⟩ 1 c [.slice xa xn xc] (by rw [hsz]; rfl) hnews (fun u hu => by simp at hu; subst hu; rfl) (by unfold maxLen; omega) (by rw [hby]; omega) hr
  have hsz2 := h2.size
  have hfr : ∀ k, k < w.heap.size → (∀ q, v.ownBlock = some q → k ≠ q) → w'.heap[k]? = w.heap[k]? := fun k hk hq => h2.block k hk (fun e => hq k e.symm rfl)
  refine ⟨v', w', hr, ⟨vs ++ [.slice xa xn xc], fun i => if i = ds.length then a else los i, fun i => if i = ds.length then b else his i, by simp [hvl], by simpa using h1, fun q hq => ⟨(h1.lt q hq).2, fun j hj => ?_⟩, fun j k1 k2 => ?_, fun j k hj hk hjk => ?_⟩, ?_, h2, hbl⟩
  · simp only [List.length_append, List.length_cons, List.length_nil] at hj
    dsimp only
    by_cases hjn : j = ds.length
    · rw [if_pos hjn, if_pos hjn]
      rcases hbl with hbl | ⟨q', hq1, hq2⟩
      · rw [hbl] at hq
        left; have := (hgl q hq).1; omega
      · rw [hq2] at hq; cases hq
        right; omega
    · rw [if_neg hjn, if_neg hjn]
      rcases hbl with hbl | ⟨q', hq1, hq2⟩
      · rw [hbl] at hq
        exact (hgl q hq).2 j (by omega)
      · rw [hq2] at hq; cases hq
        right
        have := (hel j (by omega) (by omega)).2; omega
  · simp only [List.length_append, List.length_cons, List.length_nil] at k1 k2
    dsimp only
    by_cases hjn : j = ds.length
    · rw [if_pos hjn, if_pos hjn]
      have e1 : (vs ++ [Value.slice xa xn xc])[j] = .slice xa xn xc := by simp [hjn, ← hvl]
      have e2 : (ds ++ [d])[j] = d := by simp [hjn]
      rw [e1, e2]
      refine ⟨kInts.own_frame hx fun k q1 q2 q3 => hfr k q3 fun q hq => ?_, by omega, by omega⟩
      have := (hgl q hq).1; omega
    · rw [if_neg hjn, if_neg hjn]
      have hj : j < ds.length := by omega
      obtain ⟨p1, p2, p3⟩ := hel j (by omega) hj
      rw [List.getElem_append_left (by omega), List.getElem_append_left hj]
      refine ⟨kInts.own_frame p1 fun k q1 q2 q3 => hfr k q3 fun q hq => ?_, p2, by omega⟩
      have := (hgl q hq).2 j hj; omega
  · simp only [List.length_append, List.length_cons, List.length_nil] at hj hk
    dsimp only
    by_cases hjn : j = ds.length
    · rw [if_pos hjn, if_pos hjn, if_neg (by omega), if_neg (by omega)]
      have := (hel k (by omega) (by omega)).2; omega
    · rw [if_neg hjn, if_neg hjn]
      by_cases hkn : k = ds.length
      · rw [if_pos hkn, if_pos hkn]
        have := (hel j (by omega) (by omega)).2; omega
      · rw [if_neg hkn, if_neg hkn]; exact hd j k (by omega) (by omega) hjk
  · exact (Below.refl lo w).grown h2 (by omega) (fun k hk => (hO.lt k hk).1)
theorem wpList_append_rowsG {ops : Array Oper} {rest : List Oper} {o : Oper} {ac : Act} {w : World} {Q : Exit → Act → World → Prop} (hgd : o.guard = none) (s y : Operand)
    (ho : o.op = .call { callee := .builtin .append, args := #[s, y], argTypes := #[47, 47] })
    (lo hi a b : Nat) (v x : Value) (ds : List (List Int)) (d : List Int) (g c : Nat) (hs : ac.eval s = v) (hy : ac.eval y = .slice (some ⟨g, 0, none⟩) 1 c) (hown : OwnL 22 kInts w lo hi v ds) (hx : kInts.own w a b x d) (hab : hi ≤ a) (hbw : b ≤ w.heap.size) (hhi : hi ≤ w.heap.size) (hlo : lo ≤ hi)
    (hc : w.cell? ⟨g, 0, none⟩ = some x) (hlen : ds.length ≤ 1000000000)
    (hK : ∀ v' w', OwnL 22 kInts w' lo w'.heap.size v' (ds ++ [d]) → Below lo w w' → w.grownBy w' v.ownBlock → (v'.ownBlock = v.ownBlock ∨ ∃ q, w.heap.size ≤ q ∧ v'.ownBlock = some q) → wpList Try.prog ops Q rest (ac.put o.dst v') w') : wpList Try.prog ops Q (o :: rest) ac w := by
  obtain ⟨v', w', hr, h1, h2, h3, h4⟩ := run_append_rowsG hown hx hab hbw hhi hlo g c hc hlen o.type
  refine wpList_plain hgd fun K hK' => ?_
  unfold Oper.wp execOp
  simp only [ho, resolve, invoke, builtin, Sem.run_bind, Sem.run_pure, Result.andThen_ok, List.map_toArray, List.map_cons, List.map_nil, hs, hy, hr]
  exact hK' _ _ (hK v' w' h1 h2 h3 h4)
theorem BoxN.newE (w : World) (cs : List Value) (t : TypeId) : BoxN ((w.alloc (.cells cs.toArray t)).drew) w.heap.size t cs := (BoxN.new w cs t).below (Below.refl _ _).drew
theorem news_of {w : World} {g : Nat} {t : TypeId} {cs : List Value} (h : BoxN w g t cs) : ∀ j u, [cs].flatten[j]? = some u → w.cell? ((⟨g, 0, none⟩ : Addr).add j) = some u := fun j u hu => by
  rw [Addr.add_lit, Nat.zero_add]
  exact h.cell (by simpa using hu)
theorem FrR.shape' {δ : Type} {e : TypeId} {R : RowK δ} {w0 w : World} {B : Nat} {v : Value} {ds : List δ} (h : FrR e R w0 w B v ds) : ∃ a n c, v = .slice a n c ∧ ds.length = n := by
  obtain ⟨css, hl, hO, hel⟩ := h
  rcases hO.2 with ⟨rfl, h0⟩ | ⟨g, c, cur, rfl, _⟩
  · exact ⟨none, 0, 0, rfl, h0⟩
  · exact ⟨_, _, _, rfl, rfl⟩
theorem rd_row {δ : Type} {R : RowK δ} {w : World} {cs : List Value} {d : δ} (h : (kS R).rd w (.agg cs.toArray) d) : R.rd w cs d := by
  obtain ⟨vs, e, h⟩ := h
  obtain rfl : cs = vs := by have h := Value.agg.inj e; simpa using congrArg Array.toList h
  exact h
theorem rd_one {δ : Type} {R : RowK δ} {w : World} {cs : List Value} {d : δ} (h : R.rd w cs d) : ∀ i (h1 : i < [cs].length) (h2 : i < [d].length), R.rd w ([cs][i]) ([d][i]) := fun i h1 h2 => by
  have : i = 0 := by simp at h1; omega
  subst this; exact h
theorem impl_isVoter (n : Int) (w : World) : Calls Try.prog 50 #[.int .i64 n] w fun e w' => e = .returned (.bool (voterB n)) ∧ w = w' := by
  go_enter Try.func50, Try.ntmps50
  go_wp2_with (first | (go_at_call 63; refine (impl_within _ _ _ _).mono ?_; rintro e wz ⟨rfl, rfl⟩; rw [show decide (0 ≤ n ∧ n ≤ 999999) = voterB n from rfl]) | fail)
  go_ret
  exact ⟨rfl, rfl⟩
set_option maxRecDepth 100000 in
set_option maxHeartbeats 8000000 in
theorem impl_SealedRecord (v : Value) (d : SealedD) (w : World) (hz : (szSealed d : Int) ≤ 1048576) (h : (kS rSealed).rd w v d) :
    Calls Try.prog 22 #[v] w fun e w' => ∃ v', e = .returned (.tuple #[v', .bool (seaB d)]) ∧ InI w' w.heap.size w'.heap.size v' (seaR d) ∧ Below w.heap.size w w' := by
  have HZP := Lib.hid (szS_parts hz); clear hz
  (obtain ⟨q1, h_q⟩ : ∃ b_q, voterB d.voter = b_q := ⟨_, rfl⟩); have H1 := Lib.hid h_q; clear h_q
  (obtain ⟨q2, h_q⟩ : ∃ b_q, recB (cipL d.ciphers) = b_q := ⟨_, rfl⟩); have H2 := Lib.hid h_q; clear h_q
  obtain ⟨ad_1, nd_1, cd_1, ad_2, nd_2, cd_2, ad_3, nd_3, cd_3, ad_4, nd_4, cd_4, ad_5, nd_5, cd_5, rfl, jd_0, kd_1, kd_2, kd_3, kd_4, kd_5⟩ := rdSealed.1 h
  obtain ⟨W, hW⟩ : ∃ W, W = (w.alloc (.cells #[.int .i64 d.voter, .slice ad_1 nd_1 cd_1, .slice ad_2 nd_2 cd_2, .slice ad_3 nd_3 cd_3, .slice ad_4 nd_4 cd_4, .slice ad_5 nd_5 cd_5] 28)) := ⟨_, rfl⟩
  have HWB : Hid (Below w.heap.size w W) := by unfold Hid; rw [hW]; (repeat (first | exact Below.refl _ _ | assumption | refine Below.drew ?_ | refine Below.alloc ?_ (by first | (simp; done) | (simp; omega)) _ | refine Below.setCell ?_ (by first | (simp; done) | (simp; omega)) _))
  have FX : Hid (∀ W', Below W.heap.size W W' → W'.cell? ⟨w.heap.size, 0, none⟩ = some (.int .i64 d.voter) ∧ W'.cell? ⟨w.heap.size, 1, none⟩ = some (.slice ad_1 nd_1 cd_1) ∧ W'.cell? ⟨w.heap.size, 2, none⟩ = some (.slice ad_2 nd_2 cd_2) ∧ W'.cell? ⟨w.heap.size, 3, none⟩ = some (.slice ad_3 nd_3 cd_3) ∧ W'.cell? ⟨w.heap.size, 4, none⟩ = some (.slice ad_4 nd_4 cd_4) ∧ W'.cell? ⟨w.heap.size, 5, none⟩ = some (.slice ad_5 nd_5 cd_5)) := fun W' hb => by
    exact ⟨box_at (by rw [hW]; simp [go_sem]) hb, box_at (by rw [hW]; simp [go_sem]) hb, box_at (by rw [hW]; simp [go_sem]) hb, box_at (by rw [hW]; simp [go_sem]) hb, box_at (by rw [hW]; simp [go_sem]) hb, box_at (by rw [hW]; simp [go_sem]) hb⟩
  have hsW : W.heap.size = w.heap.size + 1 := by rw [hW]; simp
  have Hd := Lib.hid ((kS rSealed).rd_below h HWB.out); clear h
  have Jd_0 := Lib.hid jd_0; clear jd_0
  have F_d_ciphers := Lib.hid ((kR 75 rCipher).rd_below kd_1 HWB.out)
  have F_d_proofs := Lib.hid ((kR 26 rProof).rd_below kd_2 HWB.out)
  have F_d_sum := Lib.hid ((kS rProof).rd_below (w := w) (rdProof.2 ⟨_, _, _, _, _, _, _, _, _, rfl, kd_3, kd_4, kd_5⟩ : (kS rProof).rd w (.agg #[.slice ad_3 nd_3 cd_3, .slice ad_4 nd_4 cd_4, .slice ad_5 nd_5 cd_5]) d.sum) HWB.out)
  clear kd_1 kd_2 kd_3 kd_4 kd_5
  have HW := Lib.hid hW; clear hW
  have hel := (F_d_proofs.out : RdR _ _ _ _).len
  have HE := Lib.hid hel
  have HMC : Hid (cipL d.ciphers ∈ seaParts d) := by unfold Hid seaParts; simp
  clear hel hsW
  go_enter Try.func22, Try.ntmps22
  go_wp2_with fail
  rw [← HW.out]
  have hcum : Below W.heap.size W W := Below.refl _ _
  obtain ⟨p0_0, p0_1, p0_2, p0_3, p0_4, p0_5⟩ := FX.out _ hcum
  refine (impl_EncodeCiphers _ d.ciphers _ F_d_ciphers.out (by have := HZP.out.1; omega)).mono ?_
  rintro e w1 ⟨v1, rfl, ho1, hb1⟩
  rw [H2.out]
  have HB1 := Lib.hid hb1
  clear p0_0 p0_1 p0_2 p0_3 p0_4 p0_5 hcum
  obtain ⟨p0_0, p0_1, p0_2, p0_3, p0_4, p0_5⟩ := FX.out _ hb1
  clear hb1
  cases q2 with
  | false =>
    have HNO := Lib.hid (seaB_no HMC.out H2.out)
    have HR := Lib.hid (seaR_no HNO.out)
    clear ho1
    go_wp2_with fail
    go_ret2
    exact ⟨_, (by rw [HNO.out]; rfl), by rw [HR.out]; exact InI.of_own (OwnI.nil _ _), Below.next HWB.out HB1.out⟩
  | true =>
    have HCR : Hid (cipR d.ciphers = cipL d.ciphers) := by unfold Hid cipR; rw [H2.out, if_pos rfl]
    rw [HCR.out] at ho1
    obtain ⟨a1, m1, c1, rfl⟩ := ho1.reads.shape
    have HO1 := Lib.hid ho1
    clear ho1
    cases q1 with
    | false =>
      have HNO : Hid (seaB d = false) := by unfold Hid seaB; rw [H1.out]; rfl
      have HR := Lib.hid (seaR_no HNO.out)
      go_wp2_with (first | (go_at_call 50; refine (impl_isVoter _ _).mono ?_; rintro e wz ⟨rfl, rfl⟩; rw [H1.out]) | fail)
      go_ret2
      exact ⟨_, (by rw [HNO.out]; rfl), by rw [HR.out]; exact InI.of_own (OwnI.nil _ _), Below.next HWB.out HB1.out⟩
    | true =>
      by_cases hmany : nd_2 ≤ 400
      rotate_left
      · have HNO := Lib.hid (seaB_many (d := d) (by have := HE.out; omega))
        have HR := Lib.hid (seaR_no HNO.out)
        have hg : decide ((400 : Int) < (nd_2 : Int)) = true := decide_eq_true (by omega)
        go_wp2_with (first | (go_at_call 50; refine (impl_isVoter _ _).mono ?_; rintro e wz ⟨rfl, rfl⟩; rw [H1.out]) | fail)
        go_ret2
        exact ⟨_, (by rw [HNO.out]; rfl), by rw [HR.out]; exact InI.of_own (OwnI.nil _ _), Below.next HWB.out HB1.out⟩
      · have us := HB1.out.size
        obtain ⟨U, hU⟩ : ∃ U, U = (w1.alloc (.cells #[.int .i64 d.voter] 3)).alloc (.cells #[.slice (some ⟨w1.heap.size, 0, none⟩) 1 1, .slice a1 m1 c1] 22) := ⟨_, rfl⟩
        have hOU : OwnL 22 kInts U W.heap.size U.heap.size (.slice (some ⟨w1.heap.size + 1, 0, none⟩) 2 2) [[d.voter], cipL d.ciphers] := by
          have h1 : kInts.own (w1.alloc (.cells #[.int .i64 d.voter] 3)) w1.heap.size (w1.heap.size + 1) (.slice (some ⟨w1.heap.size, 0, none⟩) 1 1) [d.voter] := one_ints w1 Jd_0.out
          have h2 : kInts.own (w1.alloc (.cells #[.int .i64 d.voter] 3)) W.heap.size w1.heap.size (.slice a1 m1 c1) (cipL d.ciphers) := Kind.next (K := kInts) HO1.out ((Below.refl _ _).alloc (Nat.le_refl _) (.cells #[.int .i64 d.voter] 3))
          have h3 := OwnL.two (lo := W.heap.size) h1 h2 (.inr (Nat.le_refl _)) us (Nat.le_refl _) (by simp) (by simp) (by simp; omega)
          have e1 : (w1.alloc (.cells #[.int .i64 d.voter] 3)).heap.size = w1.heap.size + 1 := by simp
          rw [e1] at h3
          rw [hU]; exact h3
        have HOU := Lib.hid hOU
        have hUB : Below w1.heap.size w1 U := by rw [hU]; exact keep_a (keep_a (Below.refl _ _) _) _
        have HUW := Lib.hid (HB1.out.trans (hUB.mono us))
        have HWUB := Lib.hid (Below.next HWB.out HUW.out)
        have HWW := Lib.hid HUW.out.size
        replace p0_0 := box_at p0_0 hUB
        replace p0_2 := box_at p0_2 hUB
        replace p0_3 := box_at p0_3 hUB
        replace p0_4 := box_at p0_4 hUB
        replace p0_5 := box_at p0_5 hUB
        have HU := Lib.hid hU
        have HUS := Lib.hid HUW.out.size
        have HUZ : Hid (U.heap.size = w1.heap.size + 2) := by unfold Hid; rw [HU.out]; simp
        have HS0 : Hid (rProof.rd W [.slice ad_3 nd_3 cd_3, .slice ad_4 nd_4 cd_4, .slice ad_5 nd_5 cd_5] d.sum) := rd_row F_d_sum.out
        obtain ⟨ti, hti, htz, hts, htb⟩ := info_Proof
        clear hOU hUB us hU p0_1
        have q0_0 := (FX.out _ HB1.out).1
        have q0_2 := (FX.out _ HB1.out).2.2.1
        go_wp2_with (first | (go_at_call 50; refine (impl_isVoter _ _).mono ?_; rintro e wz ⟨rfl, rfl⟩; rw [H1.out]) | fail)
        rw [← HU.out]
        clear q0_0 q0_2
        have HPU := Lib.hid HUW.out
        have HI := Lib.hid (show _ ∧ _ ∧ _ ∧ _ from ⟨hti, htz, hts, htb⟩)
        clear hti htz hts htb
        go_region_held3 (fun w' => Below U.heap.size U w' ∧ w'.cell? ⟨w.heap.size, 2, none⟩ = some (.slice ad_2 nd_2 cd_2) ∧ w'.cell? ⟨w.heap.size, 3, none⟩ = some (.slice ad_3 nd_3 cd_3) ∧ w'.cell? ⟨w.heap.size, 4, none⟩ = some (.slice ad_4 nd_4 cd_4) ∧ w'.cell? ⟨w.heap.size, 5, none⟩ = some (.slice ad_5 nd_5 cd_5)) ((refine (fun (hbq : Below U.heap.size U _) => ⟨hbq, box_at p0_2 hbq, box_at p0_3 hbq, box_at p0_4 hbq, box_at p0_5 hbq⟩) ?_; first | exact (Below.refl _ _).drew | exact ((Below.refl _ _).alloc (Nat.le_refl _) _).drew | exact HG7.out | assumption | exact keep_a (by assumption) _ | fail)) ((first
          | (go_at_call 51; refine (slices_CloneP W _ d.proofs _ (HPU.out.trans (Below.mono (And.left (by assumption)) HUS.out)) F_d_proofs.out (by have := HE.out; omega)).mono ?_; rintro e w5 ⟨v5, rfl, ho5, hb5⟩; (have HO5 := Lib.hid ho5); clear ho5; (have hbz : Below U.heap.size U w5 := keep_b hb5 (And.left (by assumption))); (have HB5 := Lib.hid hb5); (have HBZ := Lib.hid hbz); (first | (have BB := Lib.hid (BoxN.below (BoxN.newE U [.slice ad_3 nd_3 cd_3, .slice ad_4 nd_4 cd_4, .slice ad_5 nd_5 cd_5] 26) hb5)) | skip))
          | (rw [if_pos (by rfl)]; refine oper_append_Fr (e := 26) (R := rProof) (w0 := W) (es := [d.sum]) 24 ti (.agg #[.slice none 0 0, .slice none 0 0, .slice none 0 0]) Try.underlying24 HI.out.1 HI.out.2.1 HI.out.2.2.1 HI.out.2.2.2 rfl (by decide) rfl _ _ rfl (HO5.out.below (keep_a (Below.refl _ _) _)) ⟨w5.heap.size, 0, none⟩ 1 1 [[.slice ad_3 nd_3 cd_3, .slice ad_4 nd_4 cd_4, .slice ad_5 nd_5 cd_5]] rfl rfl rfl rfl (news_of (BoxN.new w5 [.slice ad_3 nd_3 cd_3, .slice ad_4 nd_4 cd_4, .slice ad_5 nd_5 cd_5] 26)) (rd_one HS0.out) (by have := HB5.out.size; first | omega | (simp at this ⊢; done) | (simp at this ⊢; omega)) (by have := HE.out; simp only [List.length_cons, List.length_nil]; omega) ?_; intro v7 w7 ho7 hb7; (obtain ⟨a7, n7, c7, hv7, hl7⟩ := FrR.shape' ho7); subst hv7; (have HL7 := Lib.hid hl7); (have HF7 := Lib.hid ho7); clear ho7 hl7; (have HG7 : Hid (Below U.heap.size U w7) := (keep_a HBZ.out _).trans (hb7.mono (by have := HBZ.out.size; first | omega | (simp at this ⊢; done) | (simp at this ⊢; omega)))))
          | (rw [if_pos (by rfl)]; refine oper_append_Fr (e := 26) (R := rProof) (w0 := W) (es := [d.sum]) 24 ti (.agg #[.slice none 0 0, .slice none 0 0, .slice none 0 0]) Try.underlying24 HI.out.1 HI.out.2.1 HI.out.2.2.1 HI.out.2.2.2 rfl (by decide) rfl _ _ rfl HO5.out ⟨U.heap.size, 0, none⟩ 1 1 [[.slice ad_3 nd_3 cd_3, .slice ad_4 nd_4 cd_4, .slice ad_5 nd_5 cd_5]] rfl rfl rfl rfl (news_of BB.out) (rd_one HS0.out) (by have := HB5.out.size; first | omega | (simp at this ⊢; done) | (simp at this ⊢; omega)) (by have := HE.out; simp only [List.length_cons, List.length_nil]; omega) ?_; intro v7 w7 ho7 hb7; (obtain ⟨a7, n7, c7, hv7, hl7⟩ := FrR.shape' ho7); subst hv7; (have HL7 := Lib.hid hl7); (have HF7 := Lib.hid ho7); clear ho7 hl7; (have HG7 : Hid (Below U.heap.size U w7) := HBZ.out.trans (hb7.mono (by have := HBZ.out.size; first | omega | (simp at this ⊢; done) | (simp at this ⊢; omega)))))
          | fail))
        · as_aux_lemma =>
          have HFM : Hid (FrR 26 rProof W w7 U.heap.size (.slice a7 n7 c7) (d.proofs ++ [d.sum])) := FrR.mono HF7.out (by first | exact Nat.le_refl _ | simp)
          have HGL := Lib.hid (FrR.lt HFM.out)
          have hl7 := HL7.out
          simp only [List.length_append, List.length_cons, List.length_nil] at hl7
          have hn7 : n7 ≤ 401 := by have := HE.out; omega
          have hs7 := HG7.out.size
          have hsWU := HUS.out
          have HOW7 := Lib.hid (Kind.next (K := kRows) HOU.out HG7.out)
          have HW7 := Lib.hid (HUW.out.trans (HG7.out.mono hsWU))
          obtain ⟨ps, hps⟩ : ∃ ps, d.proofs ++ [d.sum] = ps := ⟨_, rfl⟩
          have HPS := Lib.hid hps
          rw [hps] at HFM HL7
          clear hps hl7 p0_0 p0_2 p0_3 p0_4 p0_5
          go_wp2_with fail
          go_loopg [6, 44] n7 (fun g out iv wr => ∃ k : Nat, k + g = n7 ∧ iv = .int .i64 k ∧ OwnL 22 kInts wr W.heap.size wr.heap.size out (seaTo d.voter d.ciphers ps k) ∧ (∀ q, out.ownBlock = some q → q < U.heap.size ∨ w7.heap.size ≤ q) ∧ FrR 26 rProof W wr U.heap.size (.slice a7 n7 c7) ps ∧ Below W.heap.size W wr ∧ w7.heap.size ≤ wr.heap.size)
          case atStart => exact ⟨0, by omega, rfl, kRows.own_mono HOW7.out (Nat.le_refl _) hs7, (fun q hq => by cases hq; exact .inl (show w1.heap.size + 1 < U.heap.size by have := HUZ.out; omega)), HFM.out, HW7.out, Nat.le_refl _⟩
          case round =>
            obtain ⟨k, hkg, rfl, hown, hqb, hfr, hb, hsz⟩ := hrel
            obtain ⟨ao, no, co, hv⟩ := (OwnL.rd hown).shape
            subst hv
            have HOW := Lib.hid hown
            have HQB := Lib.hid hqb
            have HFR := Lib.hid hfr
            have HB := Lib.hid hb
            have HALL := Lib.hid (FrR.rd hfr hb)
            clear hown hqb hfr hb
            by_cases hlt : k < n7
            · have HK : Hid (k < ps.length) := by unfold Hid; rw [HL7.out]; exact hlt
              have HS := Lib.hid (seaTo_succ (v := d.voter) (cs := d.ciphers) HK.out)
              have HM := Lib.hid (List.getElem_mem HK.out)
              have hbr : Below wr.heap.size wr wr := Below.refl _ _
              obtain ⟨b_x, o_x, rfl, hcx⟩ := HALL.out.at_ (by omega)
              obtain ⟨us, hcell, hrd⟩ := hcx k HK.out
              clear hcx
              generalize ps[k]'HK.out = x at hrd HS HM
              obtain ⟨ax_0, nx_0, cx_0, ax_1, nx_1, cx_1, ax_2, nx_2, cx_2, ers, kx_0, kx_1, kx_2⟩ := rdProof.1 ⟨us, rfl, hrd⟩
              obtain rfl : us = [.slice ax_0 nx_0 cx_0, .slice ax_1 nx_1 cx_1, .slice ax_2 nx_2 cx_2] := by have h := Value.agg.inj ers; simpa using congrArg Array.toList h
              clear ers hrd
              have y_x_0 : wr.cell? ⟨b_x, o_x + k * 3, none⟩ = some (.slice ax_0 nx_0 cx_0) := box_at (hcell 0 (by decide)) hbr
              have y_x_1 : wr.cell? ⟨b_x, o_x + k * 3 + 1, none⟩ = some (.slice ax_1 nx_1 cx_1) := box_at (hcell 1 (by decide)) hbr
              have y_x_2 : wr.cell? ⟨b_x, o_x + k * 3 + 2, none⟩ = some (.slice ax_2 nx_2 cx_2) := box_at (hcell 2 (by decide)) hbr
              clear hcell
              have HR_x := Lib.hid ((kS rProof).rd_below (rdProof.2 ⟨_, _, _, _, _, _, _, _, _, rfl, kx_0, kx_1, kx_2⟩ : (kS rProof).rd wr (.agg #[.slice ax_0 nx_0 cx_0, .slice ax_1 nx_1 cx_1, .slice ax_2 nx_2 cx_2]) x) hbr)
              have F_x_c := Lib.hid (sInts.rd_below kx_0 hbr)
              have F_x_h := Lib.hid (sInts.rd_below kx_1 hbr)
              have F_x_r := Lib.hid (sInts.rd_below kx_2 hbr)
              clear kx_0 kx_1 kx_2
              have hwk : IntKind.i64.wrap ((k : Int) + 1) = (k : Int) + 1 := IntWalk.i64_in _ (by omega)
              clear hbr
              have HMP : Hid (epL x ∈ seaParts d) := by
                unfold Hid seaParts
                rw [HPS.out]
                exact List.mem_cons_of_mem _ (List.mem_cons_of_mem _ (List.mem_map.2 ⟨x, HM.out, rfl⟩))
              have HCN : Hid (szProof x ≤ 2097152) := by
                have h1 := sz_mem HM.out
                rw [← HPS.out, List.map_append, List.sum_append] at h1
                simp only [List.map_cons, List.map_nil, List.sum_cons, List.sum_nil] at h1
                have := HZP.out.2.2.1; have := HZP.out.2.2.2
                unfold Hid; omega
              (obtain ⟨qe, h_q⟩ : ∃ b_q, epB x = b_q := ⟨_, rfl⟩); have HQE := Lib.hid h_q; clear h_q
              go_wp2_with fail
              obtain ⟨V, hV⟩ : ∃ V, V = wr.alloc (.cells #[.slice ax_0 nx_0 cx_0, .slice ax_1 nx_1 cx_1, .slice ax_2 nx_2 cx_2] 26) := ⟨_, rfl⟩
              rw [← hV]
              have HV : Hid (Below wr.heap.size wr V) := by unfold Hid; rw [hV]; exact (Below.refl _ _).alloc (Nat.le_refl _) _
              have hsV : V.heap.size = wr.heap.size + 1 := by rw [hV]; simp
              have x_x_0 : V.cell? ⟨wr.heap.size, 0, none⟩ = some (.slice ax_0 nx_0 cx_0) := by rw [hV]; simp [go_sem]
              have x_x_1 : V.cell? ⟨wr.heap.size, 1, none⟩ = some (.slice ax_1 nx_1 cx_1) := by rw [hV]; simp [go_sem]
              have x_x_2 : V.cell? ⟨wr.heap.size, 2, none⟩ = some (.slice ax_2 nx_2 cx_2) := by rw [hV]; simp [go_sem]
              have HRV_x := Lib.hid ((kS rProof).rd_below HR_x.out HV.out)
              clear hV
              go_wp2_with fail
              refine (impl_EncodeProof _ x _ (show ((szProof x : Nat) : Int) ≤ 1000000000 by have := HCN.out; omega) (rdP_of HRV_x.out)).mono ?_
              rintro e w2 ⟨v2, rfl, ho2, hb2⟩
              rw [HQE.out]
              have hsw := HB.out.size
              have HWV := Lib.hid ((HB.out.trans (HV.out.mono hsw)).trans (hb2.mono (by omega)))
              have HRV2 := Lib.hid (HV.out.trans (hb2.mono (by omega)))
              cases qe with
              | false =>
                as_aux_lemma =>
                  have HNO := Lib.hid (seaB_no HMP.out HQE.out)
                  have HR := Lib.hid (seaR_no HNO.out)
                  clear ho2 hb2
                  go_wp2_with fail
                  go_ret2
                  exact ⟨_, (by rw [HNO.out]; rfl), by rw [HR.out]; exact InI.of_own (OwnI.nil _ _), Below.next HWB.out HWV.out⟩
              | true =>
                as_aux_lemma =>
                  have HER : Hid (epR x = epL x) := by unfold Hid epR; rw [HQE.out, if_pos rfl]
                  rw [HER.out] at ho2
                  obtain ⟨a2, n2, c2, rfl⟩ := ho2.reads.shape
                  have HO2 := Lib.hid ho2
                  have HB2 := Lib.hid hb2
                  have hs2 := hb2.size
                  clear ho2 hb2
                  go_wp2_with (at_builtin; refine wpList_append_rowsG rfl _ _ rfl W.heap.size wr.heap.size V.heap.size w2.heap.size (.slice ao no co) (.slice a2 n2 c2) (seaTo d.voter d.ciphers ps k) (epL x) w2.heap.size 1 rfl rfl (Kind.next (K := kRows) (Kind.next (K := kRows) (Kind.next (K := kRows) HOW.out HV.out) HB2.out) ((Below.refl _ _).alloc (Nat.le_refl _) _)) (Kind.next (K := kInts) HO2.out ((Below.refl _ _).alloc (Nat.le_refl _) _)) (by omega) (by simp) (by first | (simp; done) | (simp; omega) | omega) hsw (by simp [go_sem]) (by have h1 := seaTo_length (v := d.voter) (cs := d.ciphers) (ps := ps) (k := k) (by have := HL7.out; omega); omega) ?_; intro v' w4 hO4 hb4 hg4 hq4)
                  have HO4 := Lib.hid hO4
                  have HAL : Hid (Below wr.heap.size wr (w2.alloc (.cells #[.slice a2 n2 c2] 22))) := HRV2.out.alloc (by omega) _
                  have HB4 : Hid (Below W.heap.size W w4) := (HB.out.trans (HAL.out.mono hsw)).trans hb4
                  have HF4 : Hid (FrR 26 rProof W w4 U.heap.size (.slice (some ⟨b_x, o_x, none⟩) n7 c7) ps) := FrR.frame HFR.out fun g hg => by
                    have h1 := HGL.out g hg
                    have h2 := HAL.out.size
                    rw [hg4.block g (by omega) (fun e => by have := HQB.out g e.symm; omega)]
                    exact HAL.out.block g (by omega)
                  have HQ4 : Hid (∀ q, v'.ownBlock = some q → q < U.heap.size ∨ w7.heap.size ≤ q) := fun q hq => by
                    rcases hq4 with h1 | ⟨q', h1, h2⟩
                    · exact HQB.out q (by rw [← h1]; exact hq)
                    · rw [hq] at h2; cases h2
                      have h3 := HAL.out.size
                      exact .inr (by omega)
                  have HS4 : Hid (w7.heap.size ≤ w4.heap.size) := by
                    have h3 := HAL.out.size; have h4 := hg4.size
                    unfold Hid; omega
                  clear hO4 hb4 hg4 hq4
                  go_wp2_with fail
                  go_roundg (n7 - (k + 1))
                  case measure => omega
                  case rel => exact ⟨k + 1, by omega, by go_num, by rw [HS.out]; exact HO4.out, HQ4.out, HF4.out, HB4.out, HS4.out⟩
            · as_aux_lemma =>
              obtain rfl : n7 = k := by omega
              have HPP : Hid (seaTo d.voter d.ciphers ps n7 = seaParts d) := by
                unfold Hid; rw [← seaTo_all, HPS.out, HL7.out]
              rw [HPP.out] at HOW
              have HTT : Hid (((seaParts d).length : Int) + total (seaParts d) ≤ 1000000000) := by
                unfold Hid
                rw [← seaTo_all, seaTo_length (Nat.le_refl _)]
                have := seaTo_total (v := d.voter) (cs := d.ciphers) (ps := d.proofs ++ [d.sum]) (Nat.le_refl _)
                rw [List.map_append, List.sum_append] at this
                simp only [List.length_append, List.length_cons, List.length_nil, List.map_cons, List.map_nil, List.sum_cons, List.sum_nil] at this ⊢
                have := HZP.out.1; have := HZP.out.2.1; have := HZP.out.2.2.1; have := HZP.out.2.2.2
                omega
              have HJB : Hid (seaB d = jrB (seaParts d)) := by unfold Hid seaB jrB; rw [H1.out, Bool.true_and]
              have HJR : Hid (seaR d = jrL (seaParts d)) := by unfold Hid seaR jrL; rw [HJB.out]
              have hsw := HB.out.size
              have hsw2 := HWB.out.size
              go_wp2_with fail
              refine (impl_JoinRecords _ (seaParts d) _ HTT.out (OwnL.rd HOW.out)).mono ?_
              rintro e w8 ⟨v8, rfl, ho8, hb8⟩
              have HO8 := Lib.hid ho8
              have HB8 := Lib.hid (Below.next HWB.out (HB.out.trans (hb8.mono hsw)))
              clear ho8 hb8
              go_wp2_with fail
              go_ret2
              exact ⟨_, (by rw [HJB.out]; rfl), by rw [HJR.out]; exact kInts.own_mono HO8.out (by omega) (Nat.le_refl _), HB8.out⟩
        · as_aux_lemma =>
          have HFM : Hid (FrR 26 rProof W w7 U.heap.size (.slice a7 n7 c7) (d.proofs ++ [d.sum])) := FrR.mono HF7.out (by first | exact Nat.le_refl _ | simp)
          have HGL := Lib.hid (FrR.lt HFM.out)
          have hl7 := HL7.out
          simp only [List.length_append, List.length_cons, List.length_nil] at hl7
          have hn7 : n7 ≤ 401 := by have := HE.out; omega
          have hs7 := HG7.out.size
          have hsWU := HUS.out
          have HOW7 := Lib.hid (Kind.next (K := kRows) HOU.out HG7.out)
          have HW7 := Lib.hid (HUW.out.trans (HG7.out.mono hsWU))
          obtain ⟨ps, hps⟩ : ∃ ps, d.proofs ++ [d.sum] = ps := ⟨_, rfl⟩
          have HPS := Lib.hid hps
          rw [hps] at HFM HL7
          clear hps hl7 p0_0 p0_2 p0_3 p0_4 p0_5
          go_wp2_with fail
          go_loopg [6, 44] n7 (fun g out iv wr => ∃ k : Nat, k + g = n7 ∧ iv = .int .i64 k ∧ OwnL 22 kInts wr W.heap.size wr.heap.size out (seaTo d.voter d.ciphers ps k) ∧ (∀ q, out.ownBlock = some q → q < U.heap.size ∨ w7.heap.size ≤ q) ∧ FrR 26 rProof W wr U.heap.size (.slice a7 n7 c7) ps ∧ Below W.heap.size W wr ∧ w7.heap.size ≤ wr.heap.size)
          case atStart => exact ⟨0, by omega, rfl, kRows.own_mono HOW7.out (Nat.le_refl _) hs7, (fun q hq => by cases hq; exact .inl (show w1.heap.size + 1 < U.heap.size by have := HUZ.out; omega)), HFM.out, HW7.out, Nat.le_refl _⟩
          case round =>
            obtain ⟨k, hkg, rfl, hown, hqb, hfr, hb, hsz⟩ := hrel
            obtain ⟨ao, no, co, hv⟩ := (OwnL.rd hown).shape
            subst hv
            have HOW := Lib.hid hown
            have HQB := Lib.hid hqb
            have HFR := Lib.hid hfr
            have HB := Lib.hid hb
            have HALL := Lib.hid (FrR.rd hfr hb)
            clear hown hqb hfr hb
            by_cases hlt : k < n7
            · have HK : Hid (k < ps.length) := by unfold Hid; rw [HL7.out]; exact hlt
              have HS := Lib.hid (seaTo_succ (v := d.voter) (cs := d.ciphers) HK.out)
              have HM := Lib.hid (List.getElem_mem HK.out)
              have hbr : Below wr.heap.size wr wr := Below.refl _ _
              obtain ⟨b_x, o_x, rfl, hcx⟩ := HALL.out.at_ (by omega)
              obtain ⟨us, hcell, hrd⟩ := hcx k HK.out
              clear hcx
              generalize ps[k]'HK.out = x at hrd HS HM
              obtain ⟨ax_0, nx_0, cx_0, ax_1, nx_1, cx_1, ax_2, nx_2, cx_2, ers, kx_0, kx_1, kx_2⟩ := rdProof.1 ⟨us, rfl, hrd⟩
              obtain rfl : us = [.slice ax_0 nx_0 cx_0, .slice ax_1 nx_1 cx_1, .slice ax_2 nx_2 cx_2] := by have h := Value.agg.inj ers; simpa using congrArg Array.toList h
              clear ers hrd
              have y_x_0 : wr.cell? ⟨b_x, o_x + k * 3, none⟩ = some (.slice ax_0 nx_0 cx_0) := box_at (hcell 0 (by decide)) hbr
              have y_x_1 : wr.cell? ⟨b_x, o_x + k * 3 + 1, none⟩ = some (.slice ax_1 nx_1 cx_1) := box_at (hcell 1 (by decide)) hbr
              have y_x_2 : wr.cell? ⟨b_x, o_x + k * 3 + 2, none⟩ = some (.slice ax_2 nx_2 cx_2) := box_at (hcell 2 (by decide)) hbr
              clear hcell
              have HR_x := Lib.hid ((kS rProof).rd_below (rdProof.2 ⟨_, _, _, _, _, _, _, _, _, rfl, kx_0, kx_1, kx_2⟩ : (kS rProof).rd wr (.agg #[.slice ax_0 nx_0 cx_0, .slice ax_1 nx_1 cx_1, .slice ax_2 nx_2 cx_2]) x) hbr)
              have F_x_c := Lib.hid (sInts.rd_below kx_0 hbr)
              have F_x_h := Lib.hid (sInts.rd_below kx_1 hbr)
              have F_x_r := Lib.hid (sInts.rd_below kx_2 hbr)
              clear kx_0 kx_1 kx_2
              have hwk : IntKind.i64.wrap ((k : Int) + 1) = (k : Int) + 1 := IntWalk.i64_in _ (by omega)
              clear hbr
              have HMP : Hid (epL x ∈ seaParts d) := by
                unfold Hid seaParts
                rw [HPS.out]
                exact List.mem_cons_of_mem _ (List.mem_cons_of_mem _ (List.mem_map.2 ⟨x, HM.out, rfl⟩))
              have HCN : Hid (szProof x ≤ 2097152) := by
                have h1 := sz_mem HM.out
                rw [← HPS.out, List.map_append, List.sum_append] at h1
                simp only [List.map_cons, List.map_nil, List.sum_cons, List.sum_nil] at h1
                have := HZP.out.2.2.1; have := HZP.out.2.2.2
                unfold Hid; omega
              (obtain ⟨qe, h_q⟩ : ∃ b_q, epB x = b_q := ⟨_, rfl⟩); have HQE := Lib.hid h_q; clear h_q
              go_wp2_with fail
              obtain ⟨V, hV⟩ : ∃ V, V = wr.alloc (.cells #[.slice ax_0 nx_0 cx_0, .slice ax_1 nx_1 cx_1, .slice ax_2 nx_2 cx_2] 26) := ⟨_, rfl⟩
              rw [← hV]
              have HV : Hid (Below wr.heap.size wr V) := by unfold Hid; rw [hV]; exact (Below.refl _ _).alloc (Nat.le_refl _) _
              have hsV : V.heap.size = wr.heap.size + 1 := by rw [hV]; simp
              have x_x_0 : V.cell? ⟨wr.heap.size, 0, none⟩ = some (.slice ax_0 nx_0 cx_0) := by rw [hV]; simp [go_sem]
              have x_x_1 : V.cell? ⟨wr.heap.size, 1, none⟩ = some (.slice ax_1 nx_1 cx_1) := by rw [hV]; simp [go_sem]
              have x_x_2 : V.cell? ⟨wr.heap.size, 2, none⟩ = some (.slice ax_2 nx_2 cx_2) := by rw [hV]; simp [go_sem]
              have HRV_x := Lib.hid ((kS rProof).rd_below HR_x.out HV.out)
              clear hV
              go_wp2_with fail
              refine (impl_EncodeProof _ x _ (show ((szProof x : Nat) : Int) ≤ 1000000000 by have := HCN.out; omega) (rdP_of HRV_x.out)).mono ?_
              rintro e w2 ⟨v2, rfl, ho2, hb2⟩
              rw [HQE.out]
              have hsw := HB.out.size
              have HWV := Lib.hid ((HB.out.trans (HV.out.mono hsw)).trans (hb2.mono (by omega)))
              have HRV2 := Lib.hid (HV.out.trans (hb2.mono (by omega)))
              cases qe with
              | false =>
                as_aux_lemma =>
                  have HNO := Lib.hid (seaB_no HMP.out HQE.out)
                  have HR := Lib.hid (seaR_no HNO.out)
                  clear ho2 hb2
                  go_wp2_with fail
                  go_ret2
                  exact ⟨_, (by rw [HNO.out]; rfl), by rw [HR.out]; exact InI.of_own (OwnI.nil _ _), Below.next HWB.out HWV.out⟩
              | true =>
                as_aux_lemma =>
                  have HER : Hid (epR x = epL x) := by unfold Hid epR; rw [HQE.out, if_pos rfl]
                  rw [HER.out] at ho2
                  obtain ⟨a2, n2, c2, rfl⟩ := ho2.reads.shape
                  have HO2 := Lib.hid ho2
                  have HB2 := Lib.hid hb2
                  have hs2 := hb2.size
                  clear ho2 hb2
                  go_wp2_with (at_builtin; refine wpList_append_rowsG rfl _ _ rfl W.heap.size wr.heap.size V.heap.size w2.heap.size (.slice ao no co) (.slice a2 n2 c2) (seaTo d.voter d.ciphers ps k) (epL x) w2.heap.size 1 rfl rfl (Kind.next (K := kRows) (Kind.next (K := kRows) (Kind.next (K := kRows) HOW.out HV.out) HB2.out) ((Below.refl _ _).alloc (Nat.le_refl _) _)) (Kind.next (K := kInts) HO2.out ((Below.refl _ _).alloc (Nat.le_refl _) _)) (by omega) (by simp) (by first | (simp; done) | (simp; omega) | omega) hsw (by simp [go_sem]) (by have h1 := seaTo_length (v := d.voter) (cs := d.ciphers) (ps := ps) (k := k) (by have := HL7.out; omega); omega) ?_; intro v' w4 hO4 hb4 hg4 hq4)
                  have HO4 := Lib.hid hO4
                  have HAL : Hid (Below wr.heap.size wr (w2.alloc (.cells #[.slice a2 n2 c2] 22))) := HRV2.out.alloc (by omega) _
                  have HB4 : Hid (Below W.heap.size W w4) := (HB.out.trans (HAL.out.mono hsw)).trans hb4
                  have HF4 : Hid (FrR 26 rProof W w4 U.heap.size (.slice (some ⟨b_x, o_x, none⟩) n7 c7) ps) := FrR.frame HFR.out fun g hg => by
                    have h1 := HGL.out g hg
                    have h2 := HAL.out.size
                    rw [hg4.block g (by omega) (fun e => by have := HQB.out g e.symm; omega)]
                    exact HAL.out.block g (by omega)
                  have HQ4 : Hid (∀ q, v'.ownBlock = some q → q < U.heap.size ∨ w7.heap.size ≤ q) := fun q hq => by
                    rcases hq4 with h1 | ⟨q', h1, h2⟩
                    · exact HQB.out q (by rw [← h1]; exact hq)
                    · rw [hq] at h2; cases h2
                      have h3 := HAL.out.size
                      exact .inr (by omega)
                  have HS4 : Hid (w7.heap.size ≤ w4.heap.size) := by
                    have h3 := HAL.out.size; have h4 := hg4.size
                    unfold Hid; omega
                  clear hO4 hb4 hg4 hq4
                  go_wp2_with fail
                  go_roundg (n7 - (k + 1))
                  case measure => omega
                  case rel => exact ⟨k + 1, by omega, by go_num, by rw [HS.out]; exact HO4.out, HQ4.out, HF4.out, HB4.out, HS4.out⟩
            · as_aux_lemma =>
              obtain rfl : n7 = k := by omega
              have HPP : Hid (seaTo d.voter d.ciphers ps n7 = seaParts d) := by
                unfold Hid; rw [← seaTo_all, HPS.out, HL7.out]
              rw [HPP.out] at HOW
              have HTT : Hid (((seaParts d).length : Int) + total (seaParts d) ≤ 1000000000) := by
                unfold Hid
                rw [← seaTo_all, seaTo_length (Nat.le_refl _)]
                have := seaTo_total (v := d.voter) (cs := d.ciphers) (ps := d.proofs ++ [d.sum]) (Nat.le_refl _)
                rw [List.map_append, List.sum_append] at this
                simp only [List.length_append, List.length_cons, List.length_nil, List.map_cons, List.map_nil, List.sum_cons, List.sum_nil] at this ⊢
                have := HZP.out.1; have := HZP.out.2.1; have := HZP.out.2.2.1; have := HZP.out.2.2.2
                omega
              have HJB : Hid (seaB d = jrB (seaParts d)) := by unfold Hid seaB jrB; rw [H1.out, Bool.true_and]
              have HJR : Hid (seaR d = jrL (seaParts d)) := by unfold Hid seaR jrL; rw [HJB.out]
              have hsw := HB.out.size
              have hsw2 := HWB.out.size
              go_wp2_with fail
              refine (impl_JoinRecords _ (seaParts d) _ HTT.out (OwnL.rd HOW.out)).mono ?_
              rintro e w8 ⟨v8, rfl, ho8, hb8⟩
              have HO8 := Lib.hid ho8
              have HB8 := Lib.hid (Below.next HWB.out (HB.out.trans (hb8.mono hsw)))
              clear ho8 hb8
              go_wp2_with fail
              go_ret2
              exact ⟨_, (by rw [HJB.out]; rfl), by rw [HJR.out]; exact kInts.own_mono HO8.out (by omega) (Nat.le_refl _), HB8.out⟩
end Go.Proofs.Ytbcaknmpbkapnaa
