/- Walks: FrontierOf and PushLeaf. -/
import Derived.Test.YtlapmdcjfopbaaaMerkle4
namespace Go.Proofs.Ytlapmdcjfopbaaa
open Go.RowKit
set_option linter.unusedSimpArgs false
set_option linter.unusedVariables false

theorem keep_B {B : Nat} {w wa w' : World} (hB : B ≤ w.heap.size) (hb : Below wa.heap.size wa w') (h : Below B w wa) : Below B w w' := h.trans (hb.mono (Nat.le_trans hB h.size))
theorem keep_aB {B : Nat} {w wa : World} (hB : B ≤ w.heap.size) (h : Below B w wa) (o : Obj) : Below B w (wa.alloc o) := h.alloc (Nat.le_trans hB h.size) o
/-- the roots of the parts of leaves -/
def frnN : Nat → List Int → List Int
  | 0, _ => []
  | f + 1, l => if l.length = 0 then [] else rootN 65 (l.take (splitN (l.length + 1))) :: frnN f (l.drop (splitN (l.length + 1)))
theorem frnN_length {f : Nat} : ∀ {l : List Int}, (frnN f l).length ≤ f := by
  induction f with
  | zero => intro l; exact Nat.le_refl _
  | succ f ih =>
    intro l; unfold frnN; split
    · simp
    · simp; exact ih
def foL (l : List Int) : List Int := if goodL l = true then frnN 65 l else []
theorem foL_length (l : List Int) : (foL l).length ≤ 65 := by
  unfold foL; split
  · exact frnN_length
  · simp
theorem OwnI.take' {w : World} {B n c k : Nat} {a : Option Addr} {l : List Int} (h : OwnI w B (.slice a n c) l) (hk : k ≤ n) (hn : l.length = n) : OwnI w B (.slice a k c) (l.take k) := by
  obtain ⟨h1, h2, h3⟩ := h
  refine ⟨h1.take k, ?_, ?_⟩
  · simp
  · rcases h3 with ⟨h3, h4⟩ | ⟨g, cap, cur, h3, hb, hg, hnc, hcm, hcs, ht⟩
    · cases h3
      obtain rfl : k = 0 := by omega
      exact .inl ⟨rfl, by simp⟩
    · cases h3
      refine .inr ⟨g, c, cur, ?_, hb, hg, by simp; omega, hcm, hcs, ?_⟩
      · rw [List.length_take, Nat.min_eq_left (by omega)]
      · rw [List.map_take, ← ht, List.take_take, List.length_take, Nat.mul_one, Nat.mul_one, Nat.min_eq_left (by omega)]
set_option maxRecDepth 100000 in
set_option maxHeartbeats 2000000 in
theorem spec_kFrontier (v : Value) (l : List Int) (w : World) (h : Ints w v l) (hl : l.length ≤ 64) (hd : l.all digestB = true) :
    Calls Try.prog 169 #[v] w fun e w' => ∃ v', e = .returned v' ∧ OwnI w' w.heap.size v' (frnN 65 l) ∧ Below w.heap.size w w' := by
  obtain ⟨T, hT⟩ : ∃ T, frnN 65 l = T := ⟨_, rfl⟩
  have HT := Lib.hid hT
  rw [hT]; clear hT
  have H := Lib.hid h; clear h
  have HD := Lib.hid hd; clear hd
  go_enter Try.func169, Try.ntmps169
  go_wp2_with fail
  go_loopg [0, 3] l.length (fun g r ov wr => ∃ (rl ol : List Int) (f : Nat), Ints w r rl ∧ rl.length = g ∧ Hid (rl.all digestB = true) ∧ g < f ∧ f ≤ 65 ∧ OwnI wr w.heap.size ov ol ∧ ol.length + f ≤ 65 ∧ Hid (ol ++ frnN f rl = T) ∧ Below w.heap.size w wr)
  case atStart => exact ⟨l, [], 65, H.out, rfl, HD.out, by omega, by omega, OwnI.nil _ _, by simp, HT.out, Below.refl _ _⟩
  case round =>
    obtain ⟨rl, ol, f, hr, hg, hrd, hf, hf65, ho, hol, hTT, hb⟩ := hrel
    have HO := Lib.hid ho; clear ho
    have hB := hb.size
    by_cases h0 : gk = 0
    · have HF : Hid (ol = T) := by
        have := hTT.out
        cases f with
        | zero => omega
        | succ f => rw [frnN, if_pos (by omega), List.append_nil] at this; exact this
      obtain ⟨a, n, c, rfl⟩ := hr.shape
      have e := hr.len
      obtain rfl : n = 0 := by omega
      subst h0
      clear hr e hg
      go_wp2_with fail
      go_ret
      exact ⟨_, rfl, by have := HO.out; rw [HF.out] at this; exact this, hb⟩
    · obtain ⟨a, n, c, rfl⟩ := hr.shape
      have e := hr.len
      obtain ⟨k1, k2⟩ := hr.capMax
      unfold maxLen at k2
      rw [e] at hg
      subst hg
      obtain ⟨s1, s2, s3⟩ := splitN_bd (n + 1) (by omega) (by omega)
      obtain ⟨f, rfl⟩ : ∃ f', f = f' + 1 := ⟨f - 1, by omega⟩
      have HF : Hid ((ol ++ [rootN 65 (rl.take (splitN (n + 1)))]) ++ frnN f (rl.drop (splitN (n + 1))) = T) := by
        have := hTT.out
        rw [frnN, if_neg (by omega), e] at this
        unfold Hid
        rw [← this, List.append_assoc]; rfl
      have HR := Lib.hid hr; clear hr
      have HE := Lib.hid e; clear e hTT
      go_wp2_with fail
      refine (spec_kSplit (n + 1) _ (by omega) (by omega)).mono ?_
      rintro e w' ⟨rfl, rfl⟩
      generalize hsn : splitN (n + 1) = sn at *
      have HSN := Lib.hid hsn; clear hsn
      have z1 : (0 : Int) ≤ (sn : Int) := by omega
      have z2 : (sn : Int) ≤ (c : Int) := by omega
      have z3 : (sn : Int) ≤ (n : Int) := by omega
      go_wp2_with fail
      refine (spec_kRoot 65 _ (rl.take sn) _ ((HR.out.take (by omega)).below hb) (by simp [HE.out]; omega) (by simp [HE.out]; omega) (all_take hrd.out _)).mono ?_
      rintro e w2 ⟨rfl, hb2⟩
      go_wp2_with (at_builtin; refine wpList_append_ints rfl _ _ rfl w.heap.size _ _ ol [rootN 65 (rl.take sn)] rfl ((HO.out.below hb2).alloc _) rfl (Ints.lit1 _ (digest_I64 (rootN_digest (all_take hrd.out _)))) (by simp; omega) (by have := hb2.size; simp; omega) ?_; intro v3 w3 hown3 hgr3)
      all_goals
        have hb3 : Below w.heap.size w w3 := ((keep_b hb2 hb).alloc (by have := hb2.size; omega) _).trans (((HO.out.below hb2).alloc _).grown hgr3 (by have := hb2.size; simp; omega))
        have hdr := HR.out.drop (k := sn) (by omega)
        go_roundg (n - sn)
        case measure => omega
        case rel =>
          refine ⟨rl.drop sn, _, f, ?_, by simp [HE.out], all_drop hrd.out _, by omega, by omega, hown3, by simp; omega, HF.out, hb3⟩
          by_cases hcs : c = sn
          · rw [if_pos hcs, show c - sn = 0 by omega] at hdr; first | exact hdr | (exfalso; omega)
          · rw [if_neg hcs] at hdr; first | exact hdr | (exfalso; omega)
theorem shl_half : ∀ n, n < 65 → 1 ≤ n → wrap64 (2 ^ (Lib.bitLen n - 1)) = ((splitN (n + 1) : Nat) : Int) := by decide +kernel
set_option maxRecDepth 100000 in
set_option maxHeartbeats 2000000 in
theorem impl_FrontierOf (v : Value) (l : List Int) (w : World) (h : Ints w v l) :
    Calls Try.prog 66 #[v] w fun e w' => ∃ v', e = .returned (.tuple #[v', .bool (goodL l)]) ∧ InI w' w.heap.size w'.heap.size v' (foL l) ∧ Below w.heap.size w w' := by
  have H := Lib.hid h; clear h
  cases hg : goodL l with
  | false =>
    have HL : Hid (foL l = []) := by unfold Hid foL; rw [hg, if_neg (by simp)]
    have HG := Lib.hid hg; clear hg
    go_enter Try.func66, Try.ntmps66
    go_wp2_with fail
    refine (impl_areLeaves _ l _ H.out).mono ?_; rintro e w1 ⟨rfl, hb1⟩
    rw [HG.out]
    go_wp2_with fail
    go_ret2
    exact ⟨.slice none 0 0, rfl, by rw [HL.out]; exact InI.of_own (OwnI.nil _ _), hb1⟩
  | true =>
    obtain ⟨g1, g2⟩ := goodL_yes hg
    obtain ⟨T, hT⟩ : ∃ T, frnN 65 l = T := ⟨_, rfl⟩
    have HL : Hid (foL l = T) := by unfold Hid foL; rw [hg, if_pos rfl, hT]
    have HG := Lib.hid hg; clear hg
    have HD := Lib.hid g2; clear g2
    have HT := Lib.hid hT; clear hT
    go_enter Try.func66, Try.ntmps66
    go_wp2_with fail
    refine (impl_areLeaves _ l _ H.out).mono ?_; rintro e w1 ⟨rfl, hb1⟩
    rw [HG.out]
    have hO0 : Hid (OwnI (w1.alloc (.cells #[] 3)) w.heap.size (.slice (some ⟨w1.heap.size, 0, none⟩) 0 0) []) :=
      OwnI.lit w1 hb1.size AllI64.nil rfl (by simp) 0 rfl
    go_wp2_with fail
    go_loopg [4, 5] l.length (fun g ov r wr => ∃ (rl ol : List Int) (f : Nat), Ints w r rl ∧ rl.length = g ∧ Hid (rl.all digestB = true) ∧ g < f ∧ f ≤ 65 ∧ OwnI wr w.heap.size ov ol ∧ ol.length + f ≤ 65 ∧ Hid (ol ++ frnN f rl = T) ∧ Below w.heap.size w wr)
    case atStart => exact ⟨l, [], 65, H.out, rfl, HD.out, by omega, by omega, hO0.out, by simp, HT.out, hb1.alloc hb1.size _⟩
    case round =>
      obtain ⟨rl, ol, f, hr, hg, hrd, hf, hf65, ho, hol, hTT, hb⟩ := hrel
      have HO := Lib.hid ho; clear ho
      have hB := hb.size
      by_cases h0 : gk = 0
      · have HF : Hid (ol = T) := by
          have := hTT.out
          cases f with
          | zero => omega
          | succ f => rw [frnN, if_pos (by omega), List.append_nil] at this; exact this
        obtain ⟨a, n, c, rfl⟩ := hr.shape
        have e := hr.len
        obtain rfl : n = 0 := by omega
        subst h0
        clear hr e hg
        go_wp2_with fail
        go_ret2
        exact ⟨_, rfl, by have := HO.out; rw [HF.out] at this; rw [HL.out]; exact InI.of_own this, hb⟩
      · obtain ⟨a, n, c, rfl⟩ := hr.shape
        have e := hr.len
        obtain ⟨k1, k2⟩ := hr.capMax
        unfold maxLen at k2
        rw [e] at hg
        subst hg
        obtain ⟨s1, s2, s3⟩ := splitN_bd (n + 1) (by omega) (by omega)
        obtain ⟨f, rfl⟩ : ∃ f', f = f' + 1 := ⟨f - 1, by omega⟩
        have HF : Hid ((ol ++ [rootN 65 (rl.take (splitN (n + 1)))]) ++ frnN f (rl.drop (splitN (n + 1))) = T) := by
          have := hTT.out
          rw [frnN, if_neg (by omega), e] at this
          unfold Hid
          rw [← this, List.append_assoc]; rfl
        have HR := Lib.hid hr; clear hr
        have HE := Lib.hid e; clear e hTT
        have hbl := bitLen_bd n (by omega) (by omega)
        have hsh := shl_half n (by omega) (by omega)
        go_wp2_with fail
        refine (bits_Len _ _ (by omega) (by omega)).mono ?_
        rintro e w' ⟨rfl, rfl⟩
        rw [Int.toNat_natCast]
        generalize Lib.bitLen n = b at *
        have q1 : (b : Int) - 1 < 64 := by omega
        generalize hsn : splitN (n + 1) = sn at *
        have HSN := Lib.hid hsn; clear hsn
        have z1 : (0 : Int) ≤ (sn : Int) := by omega
        have z2 : (sn : Int) ≤ (c : Int) := by omega
        have z3 : (sn : Int) ≤ (n : Int) := by omega
        go_wp2_with fail
        by_cases hcs : c = sn
        all_goals try (have hcs' : sn = c := hcs.symm; subst hcs')
        all_goals
          go_region_held3 (fun w' => Below w.heap.size w w') (first | exact hb.drew | exact keep_a (by assumption) _ | exact keep_b (by assumption) (by assumption) | exact keep_t (by assumption) (by assumption)) ((first | (refine step_append_ints rfl _ _ rfl w.heap.size _ _ ol [rootN 65 (rl.take sn)] rfl (((HO.out.below (Below.refl _ _).drew).below hb2).alloc _) rfl (Ints.lit1 _ (digest_I64 (rootN_digest (all_take hrd.out _)))) (by simp; omega) (by have := (‹Below w.heap.size w _› : Below w.heap.size w _).size; simp at this ⊢; omega) ?_; intro v3 w3 hown3 hb3) | (go_at_call 153; (with_reducible refine (impl_rootOf 65 (.slice a sn _) (rl.take sn) _ ((HR.out.take (by omega)).below (by assumption)) (by simp [HE.out]; omega) (by simp [HE.out]; omega) (all_take hrd.out _)).mono ?_); rintro e w2 ⟨rfl, hb2⟩)))
          go_wp2_with fail
          have hdr := HR.out.drop (k := sn) (by omega)
          go_roundg (n - sn)
          case measure => omega
          case rel =>
            refine ⟨rl.drop sn, _, f, ?_, by simp [HE.out], all_drop hrd.out _, by omega, by omega, hown3, by simp; omega, HF.out, by assumption⟩
            first | (rw [if_neg hcs] at hdr; exact hdr) | (rw [if_pos rfl, Nat.sub_self, show n - sn = 0 by omega] at hdr; exact hdr)
set_option maxHeartbeats 1000000 in
theorem spec_FrontierOf (v : Value) (l : List Int) (w : World) (h : Ints w v l) :
    Calls Try.prog 67 #[v] w fun e w' => ∃ v', e = .returned (.tuple #[v', .bool (goodL l)]) ∧ InI w' w.heap.size w'.heap.size v' (foL l) ∧ Below w.heap.size w w' := by
  have H := Lib.hid h; clear h
  cases hg : goodL l with
  | false =>
    have HL : Hid (foL l = []) := by unfold Hid foL; rw [hg, if_neg (by simp)]
    have HG := Lib.hid hg; clear hg
    go_enter Try.func67, Try.ntmps67
    go_wp2_with fail
    refine (spec_kGood _ l _ H.out).mono ?_; rintro e w1 ⟨rfl, hb1⟩
    rw [HG.out]
    go_wp2_with fail
    go_ret2
    exact ⟨.slice none 0 0, rfl, by rw [HL.out]; exact InI.of_own (OwnI.nil _ _), hb1⟩
  | true =>
    obtain ⟨g1, g2⟩ := goodL_yes hg
    have HL : Hid (foL l = frnN 65 l) := by unfold Hid foL; rw [hg, if_pos rfl]
    have HG := Lib.hid hg; clear hg
    have HD := Lib.hid g2; clear g2
    go_enter Try.func67, Try.ntmps67
    go_wp2_with fail
    refine (spec_kGood _ l _ H.out).mono ?_; rintro e w1 ⟨rfl, hb1⟩
    rw [HG.out]
    go_wp2_with fail
    refine (spec_kFrontier _ l _ (H.out.below hb1) g1 HD.out).mono ?_
    rintro e w2 ⟨v', rfl, hO, hb2⟩
    go_wp2_with fail
    go_ret2
    exact ⟨v', rfl, by rw [HL.out]; exact InI.of_own (hO.mono hb1.size), keep_b hb2 hb1⟩
end Go.Proofs.Ytlapmdcjfopbaaa
