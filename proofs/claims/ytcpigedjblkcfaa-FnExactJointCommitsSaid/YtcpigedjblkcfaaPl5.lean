/- Plans of elections: coins. -/
import Derived.Test.YtcpigedjblkcfaaPl4
import Derived.Test.YtcpigedjblkcfaaRegT
namespace Go.Proofs.Ytcpigedjblkcfaa
open Go.RowKit
set_option linter.unusedSimpArgs false
set_option linter.unusedVariables false

/-- the exponents for a label are wanted rightly -/
noncomputable def coiB (d : PlanD) (s : ByteArray) (i n : Int) : Bool := planB d && (decide ((s.size : Int) ≤ 40) && (digestB i && decide (0 ≤ n ∧ n ≤ 200)))
noncomputable def coiR (d : PlanD) (s : ByteArray) (i n : Int) : List Int := if coiB d s i n = true then coinL d s i n.toNat else []
theorem coiR_length (d : PlanD) (s : ByteArray) (i n : Int) : (coiR d s i n).length ≤ 200 := by
  unfold coiR
  split
  · rename_i h
    unfold coiB at h
    simp only [Bool.and_eq_true, decide_eq_true_iff] at h
    rw [coinL_length]; omega
  · simp
set_option maxRecDepth 100000 in
set_option maxHeartbeats 4000000 in
theorem impl_coins (p q g k o l m pt th tr mx vt sd : Int) (s : ByteArray) (i : Int) (n : Nat) (w : World) (h : OkPl ⟨p, q, g, k, o, l, m, pt, th, tr, mx, vt, sd⟩) (hs : s.size ≤ 40) (hi : digestB i = true) (hn : n ≤ 200) :
    Calls Try.prog 84 #[.agg #[.int .i64 p, .int .i64 q, .int .i64 g, .int .i64 k, .int .i64 o, .int .i64 l, .int .i64 m, .int .i64 pt, .int .i64 th, .int .i64 tr, .int .i64 mx, .int .i64 vt, .int .i64 sd], .string s, .int .i64 i, .int .i64 n] w fun e w' => ∃ v', e = .returned v' ∧ OwnI w' w.heap.size v' (coinL ⟨p, q, g, k, o, l, m, pt, th, tr, mx, vt, sd⟩ s i n) ∧ Below w.heap.size w w' := by
  have HSD : Hid (I64 sd) := digest_I64 h.sd
  have HSB := Lib.hid h.sd
  have HII : Hid (I64 i) := digest_I64 hi
  have HID := Lib.hid hi
  have hq8 := h.q8
  obtain ⟨hq2, _⟩ := h.q2
  simp only [] at hq8 hq2 HSB
  clear h hi
  obtain ⟨W, hW⟩ : ∃ W, W = w.alloc (.cells #[.int .i64 p, .int .i64 q, .int .i64 g, .int .i64 k, .int .i64 o, .int .i64 l, .int .i64 m, .int .i64 pt, .int .i64 th, .int .i64 tr, .int .i64 mx, .int .i64 vt, .int .i64 sd] 33) := ⟨_, rfl⟩
  have HB : Hid (Below w.heap.size w W) := by unfold Hid; rw [hW]; exact (Below.refl _ _).alloc (Nat.le_refl _) _
  have HX : Hid (BoxN W w.heap.size 33 [.int .i64 p, .int .i64 q, .int .i64 g, .int .i64 k, .int .i64 o, .int .i64 l, .int .i64 m, .int .i64 pt, .int .i64 th, .int .i64 tr, .int .i64 mx, .int .i64 vt, .int .i64 sd]) := by unfold Hid; rw [hW]; exact BoxN.new w _ _
  have HSW : Hid (W.heap.size = w.heap.size + 1) := by unfold Hid; rw [hW]; simp
  have HWW := Lib.hid hW; clear hW
  have HO0 : Hid (OwnI (W.alloc (.cells #[] 3)) W.heap.size (.slice (some ⟨W.heap.size, 0, none⟩) 0 0) []) := OwnI.lit W (Nat.le_refl _) AllI64.nil rfl (by simp) 0 rfl
  have HBA : Hid (Below W.heap.size W (W.alloc (.cells #[] 3))) := (Below.refl _ _).alloc (Nat.le_refl _) _
  go_enter Try.func84, Try.ntmps84
  go_wp2_with fail
  rw [← HWW.out]
  try rw [← HSW.out]
  clear HWW HSW
  try (go_wp2_with fail)
  go_loopg [9, 15] n (fun gg ov kv wr => ∃ c : Nat, c + gg = n ∧ kv = .int .i64 c ∧ OwnI wr W.heap.size ov (coinL ⟨p, q, g, k, o, l, m, pt, th, tr, mx, vt, sd⟩ s i c) ∧ Below W.heap.size W wr)
  case atStart => exact ⟨0, by omega, rfl, HO0.out, HBA.out⟩
  case round =>
    obtain ⟨c, hkg, rfl, hO, hb⟩ := hrel
    by_cases hlt : c < n
    · skip
      have HXr := Lib.hid (HX.out.below hb)
      have i1 := HXr.out.cell (i := 1) rfl
      have i12 := HXr.out.cell (i := 12) rfl
      have HS := Lib.hid (coinL_succ ⟨p, q, g, k, o, l, m, pt, th, tr, mx, vt, sd⟩ s i c)
      have HLN := Lib.hid (coinL_length ⟨p, q, g, k, o, l, m, pt, th, tr, mx, vt, sd⟩ s i c)
      have HCO : Hid (coinI ⟨p, q, g, k, o, l, m, pt, th, tr, mx, vt, sd⟩ s i c = hashOf (lab s ++ [sd, i, (c : Int)]) % q) := rfl
      have HKD := Lib.hid (digest_sm (i := (c : Int)) (by omega) (by omega))
      obtain ⟨hLB, hLH⟩ := lab3_ok (s := s) hs HSB.out HID.out HKD.out
      have HLB := Lib.hid hLB
      have HLH := Lib.hid hLH
      have HAL : Hid ([sd, i, (c : Int)].all digestB = true) := by unfold Hid; rw [List.all_cons, List.all_cons, List.all_cons, HSB.out, HID.out, HKD.out]; rfl
      clear hLB hLH
      have hwk : IntKind.i64.wrap ((c : Int) + 1) = (c : Int) + 1 := IntWalk.i64_in _ (by omega)
      obtain ⟨dg, hdg⟩ : ∃ dg, hashOf (lab s ++ [sd, i, (c : Int)]) = dg := ⟨_, rfl⟩
      have HDG := Lib.hid hdg
      obtain ⟨hd0, hd1⟩ := hashOf_bd (lab s ++ [sd, i, (c : Int)])
      rw [hdg] at hd0 hd1 HCO
      clear hdg
      have hr0 : 0 ≤ dg % q := Int.emod_nonneg _ (by omega)
      have hr1 : dg % q < q := Int.emod_lt_of_pos _ (by omega)
      have hsr := hb.size
      have HB2 := Lib.hid hb; clear hb
      go_wp2_with fail
      refine (impl_HashLabelled s _ _ _ (Ints.trio _ HSD.out HII.out ⟨by omega, by omega⟩) (by omega) (by simp)).mono ?_
      rintro e w3 ⟨rfl, hb3⟩
      rw [HLB.out, HLH.out, HDG.out]
      have hbb : Below wr.heap.size wr w3 := Below.next ((Below.refl _ _).alloc (Nat.le_refl _) _) hb3
      have HO3 := Lib.hid (hO.below hbb)
      have HB3 := Lib.hid (HB2.out.trans (hbb.mono hsr))
      have hs3 := hbb.size
      have HX3 := Lib.hid (HXr.out.below hbb)
      clear hb3 hbb hO i1 i12
      have i1 := HX3.out.cell (i := 1) rfl
      obtain ⟨ao, co, rfl⟩ := HO3.out.shape
      have hlen := HLN.out
      rw [hlen] at HO3 ⊢
      clear hlen
      go_wp2_with (at_builtin; refine wpList_append_ints rfl _ _ rfl W.heap.size _ _ (coinL ⟨p, q, g, k, o, l, m, pt, th, tr, mx, vt, sd⟩ s i c) [dg % q] rfl (HO3.out.alloc _) rfl (Ints.lit1 _ ⟨by omega, by omega⟩) (by rw [HLN.out]; simp; omega) (by simp; omega) ?_; intro v5 w5 hown5 hgr5)
      have hb5 := (HO3.out.alloc _).grown hgr5 (by simp; omega)
      have hb6 : Below W.heap.size W w5 := (HB3.out.alloc (by omega) _).trans hb5
      go_roundg (n - (c + 1))
      case measure => omega
      case rel => exact ⟨c + 1, by omega, by go_num, by rw [HS.out, HCO.out]; exact hown5, hb6⟩
    · obtain rfl : n = c := by omega
      go_wp2_with fail
      go_ret
      exact ⟨_, rfl, hO.mono HB.out.size, Below.next HB.out hb⟩
set_option maxRecDepth 100000 in
set_option maxHeartbeats 4000000 in
theorem spec_nCoins (p q g k o l m pt th tr mx vt sd : Int) (s : ByteArray) (i : Int) (n : Nat) (w : World) (h : OkPl ⟨p, q, g, k, o, l, m, pt, th, tr, mx, vt, sd⟩) (hs : s.size ≤ 40) (hi : digestB i = true) (hn : n ≤ 200) :
    Calls Try.prog 81 #[.agg #[.int .i64 p, .int .i64 q, .int .i64 g, .int .i64 k, .int .i64 o, .int .i64 l, .int .i64 m, .int .i64 pt, .int .i64 th, .int .i64 tr, .int .i64 mx, .int .i64 vt, .int .i64 sd], .string s, .int .i64 i, .int .i64 n] w fun e w' => ∃ v', e = .returned v' ∧ OwnI w' w.heap.size v' (coinL ⟨p, q, g, k, o, l, m, pt, th, tr, mx, vt, sd⟩ s i n) ∧ Below w.heap.size w w' := by
  have HSD : Hid (I64 sd) := digest_I64 h.sd
  have HSB := Lib.hid h.sd
  have HII : Hid (I64 i) := digest_I64 hi
  have HID := Lib.hid hi
  have hq8 := h.q8
  obtain ⟨hq2, _⟩ := h.q2
  simp only [] at hq8 hq2 HSB
  clear h hi
  obtain ⟨W, hW⟩ : ∃ W, W = w.alloc (.cells #[.int .i64 p, .int .i64 q, .int .i64 g, .int .i64 k, .int .i64 o, .int .i64 l, .int .i64 m, .int .i64 pt, .int .i64 th, .int .i64 tr, .int .i64 mx, .int .i64 vt, .int .i64 sd] 33) := ⟨_, rfl⟩
  have HB : Hid (Below w.heap.size w W) := by unfold Hid; rw [hW]; exact (Below.refl _ _).alloc (Nat.le_refl _) _
  have HX : Hid (BoxN W w.heap.size 33 [.int .i64 p, .int .i64 q, .int .i64 g, .int .i64 k, .int .i64 o, .int .i64 l, .int .i64 m, .int .i64 pt, .int .i64 th, .int .i64 tr, .int .i64 mx, .int .i64 vt, .int .i64 sd]) := by unfold Hid; rw [hW]; exact BoxN.new w _ _
  have HSW : Hid (W.heap.size = w.heap.size + 1) := by unfold Hid; rw [hW]; simp
  have HWW := Lib.hid hW; clear hW
  have HO0 : Hid (∀ u, OwnI u W.heap.size (.slice none 0 0) []) := fun u => OwnI.nil u _
  go_enter Try.func81, Try.ntmps81
  go_wp2_with fail
  rw [← HWW.out]
  try rw [← HSW.out]
  clear HWW HSW
  try (go_wp2_with fail)
  go_loopg [9, 10] n (fun gg ov kv wr => ∃ c : Nat, c + gg = n ∧ kv = .int .i64 c ∧ OwnI wr W.heap.size ov (coinL ⟨p, q, g, k, o, l, m, pt, th, tr, mx, vt, sd⟩ s i c) ∧ Below W.heap.size W wr)
  case atStart => exact ⟨0, by omega, rfl, HO0.out _, Below.refl _ _⟩
  case round =>
    obtain ⟨c, hkg, rfl, hO, hb⟩ := hrel
    by_cases hlt : c < n
    · skip
      have HXr := Lib.hid (HX.out.below hb)
      have i1 := HXr.out.cell (i := 1) rfl
      have i12 := HXr.out.cell (i := 12) rfl
      have HS := Lib.hid (coinL_succ ⟨p, q, g, k, o, l, m, pt, th, tr, mx, vt, sd⟩ s i c)
      have HLN := Lib.hid (coinL_length ⟨p, q, g, k, o, l, m, pt, th, tr, mx, vt, sd⟩ s i c)
      have HCO : Hid (coinI ⟨p, q, g, k, o, l, m, pt, th, tr, mx, vt, sd⟩ s i c = hashOf (lab s ++ [sd, i, (c : Int)]) % q) := rfl
      have HKD := Lib.hid (digest_sm (i := (c : Int)) (by omega) (by omega))
      obtain ⟨hLB, hLH⟩ := lab3_ok (s := s) hs HSB.out HID.out HKD.out
      have HLB := Lib.hid hLB
      have HLH := Lib.hid hLH
      have HAL : Hid ([sd, i, (c : Int)].all digestB = true) := by unfold Hid; rw [List.all_cons, List.all_cons, List.all_cons, HSB.out, HID.out, HKD.out]; rfl
      clear hLB hLH
      have hwk : IntKind.i64.wrap ((c : Int) + 1) = (c : Int) + 1 := IntWalk.i64_in _ (by omega)
      obtain ⟨dg, hdg⟩ : ∃ dg, hashOf (lab s ++ [sd, i, (c : Int)]) = dg := ⟨_, rfl⟩
      have HDG := Lib.hid hdg
      obtain ⟨hd0, hd1⟩ := hashOf_bd (lab s ++ [sd, i, (c : Int)])
      rw [hdg] at hd0 hd1 HCO
      clear hdg
      have hr0 : 0 ≤ dg % q := Int.emod_nonneg _ (by omega)
      have hr1 : dg % q < q := Int.emod_lt_of_pos _ (by omega)
      have hsr := hb.size
      have HB2 := Lib.hid hb; clear hb
      have et : Int.tmod dg q = dg % q := Int.tmod_eq_emod_of_nonneg hd0
      have ew2 : IntKind.i64.wrap (dg % q) = dg % q := IntWalk.i64_in _ (by omega)
      have hpz : ¬ q = 0 := by omega
      have hpz2 : (q == 0) = false := by rw [beq_eq_false_iff_ne]; omega
      obtain ⟨ao, co, rfl⟩ := hO.shape
      have hlen := HLN.out
      rw [hlen] at hO ⊢
      clear hlen
      have HO := Lib.hid hO; clear hO
      go_wp2_with fail
      refine wp_region_noPanic ?_
      refine wp_region_take (fun w' => Below wr.heap.size wr w' ∧ w'.cell? ⟨w.heap.size, 1, none⟩ = some (.int .i64 q) ∧ w'.cell? ⟨w.heap.size, 12, none⟩ = some (.int .i64 sd)) 16 [(true, 0), (true, 1), (true, 2), (true, 3), (true, 4), (true, 5), (true, 8), (true, 9), (true, 10), (false, 6), (false, 7), (true, 11), (false, 12)] [13, 14] (by kernel_rfl) (by kernel_rfl) rfl (fun _ _ _ _ _ h => h) ⟨(Below.refl _ _).drew, i1, i12⟩ ?_
      simp only [pickL, pickN, List.getElem?_cons_zero, List.getElem?_cons_succ]
      repeat (refine' wpTake_read _ (by rfl) (fun w' hS' => ?_) ?_; rotate_left; · ((try dsimp only at hS'); go_simp; (try with_reducible rfl)); (try simp only [Act.put, List.setIfInBounds_toArray, List.set_cons_zero, List.set_cons_succ]))
      refine wpTake_do (by rfl) (fun K hK => ?_)
      go_simp
      have hba : Below wr.heap.size wr ((wr.alloc (.cells #[.int .i64 sd, .int .i64 i, .int .i64 (c : Int)] 3)).drew) := ((Below.refl _ _).alloc (Nat.le_refl _) _).drew
      refine hK.out _ _ ⟨hba, box_at i1 hba, box_at i12 hba⟩ (fun _ => ?_)
      clear hK K
      try simp only [Act.put, List.setIfInBounds_toArray, List.set_cons_zero, List.set_cons_succ]
      repeat (refine' wpTake_read _ (by rfl) (fun w' hS' => ?_) ?_; rotate_left; · ((try dsimp only at hS'); go_simp; (try with_reducible rfl)); (try simp only [Act.put, List.setIfInBounds_toArray, List.set_cons_zero, List.set_cons_succ]))
      refine wpTake_do (by rfl) (fun K hK => ?_)
      go_simp
      go_at_call 175
      refine (spec_hLabelled s _ [sd, i, (c : Int)] _ (Ints.trio _ HSD.out HII.out ⟨by omega, by omega⟩).drew (by omega) (by simp) HAL.out).mono ?_
      rintro e w4 ⟨rfl, hb4⟩
      rw [HDG.out]
      have hbb := keep_b hb4 hba
      refine hK.out _ _ ⟨hbb, box_at i1 hbb, box_at i12 hbb⟩ (fun _ => ?_)
      clear hK K
      try simp only [Act.put, List.setIfInBounds_toArray, List.set_cons_zero, List.set_cons_succ]
      repeat (refine' wpTake_read _ (by rfl) (fun w' hS' => ?_) ?_; rotate_left; · ((try dsimp only at hS'); go_simp; (try with_reducible rfl)); (try simp only [Act.put, List.setIfInBounds_toArray, List.set_cons_zero, List.set_cons_succ]))
      refine wpTake_do (by rfl) (fun K hK => ?_)
      go_simp
      have hbc : Below wr.heap.size wr (w4.alloc (.cells #[.int .i64 (dg % q)] 3)) := hbb.alloc hbb.size _
      refine hK.out _ _ ⟨hbc, box_at i1 hbc, box_at i12 hbc⟩ (fun _ => ?_)
      clear hK K
      try simp only [Act.put, List.setIfInBounds_toArray, List.set_cons_zero, List.set_cons_succ]
      refine wpTake_nil ?_
      have hbs := hbc.size
      have HOC := Lib.hid (HO.out.below hbc)
      have HBC := Lib.hid (HB2.out.trans (hbc.mono hsr))
      clear hba hbb hbc hb4 HO
      refine wpList_append_ints rfl _ _ rfl W.heap.size (.slice ao c co) (.slice (some ⟨w4.heap.size, 0, none⟩) 1 1) (coinL ⟨p, q, g, k, o, l, m, pt, th, tr, mx, vt, sd⟩ s i c) [dg % q] rfl HOC.out rfl (Ints.lit1 w4 ⟨by omega, by omega⟩) (by rw [HLN.out]; simp; omega) (by omega) ?_
      intro v7 w7 ho7 hg7
      have HB7 := Lib.hid (HBC.out.trans (HOC.out.grown hg7 (by omega)))
      have HO7 := Lib.hid ho7
      clear ho7 hg7
      go_wp2_with fail
      refine NoPanic.normal ?_
      go_wp2_with fail
      go_roundg (n - (c + 1))
      case measure => omega
      case rel => exact ⟨c + 1, by omega, by go_num, by rw [HS.out, HCO.out]; exact HO7.out, HB7.out⟩
    · obtain rfl : n = c := by omega
      go_wp2_with fail
      go_ret
      exact ⟨_, rfl, hO.mono HB.out.size, Below.next HB.out hb⟩
theorem impl_coinsI (p q g k o l m pt th tr mx vt sd : Int) (s : ByteArray) (i n : Int) (w : World) (h : OkPl ⟨p, q, g, k, o, l, m, pt, th, tr, mx, vt, sd⟩) (hs : s.size ≤ 40) (hi : digestB i = true) (hn : 0 ≤ n ∧ n ≤ 200) :
    Calls Try.prog 84 #[.agg #[.int .i64 p, .int .i64 q, .int .i64 g, .int .i64 k, .int .i64 o, .int .i64 l, .int .i64 m, .int .i64 pt, .int .i64 th, .int .i64 tr, .int .i64 mx, .int .i64 vt, .int .i64 sd], .string s, .int .i64 i, .int .i64 n] w fun e w' => ∃ v', e = .returned v' ∧ OwnI w' w.heap.size v' (coinL ⟨p, q, g, k, o, l, m, pt, th, tr, mx, vt, sd⟩ s i n.toNat) ∧ Below w.heap.size w w' := by
  obtain ⟨N, rfl⟩ : ∃ N : Nat, n = N := ⟨n.toNat, by omega⟩
  exact impl_coins p q g k o l m pt th tr mx vt sd s i N w h hs hi (by omega)
theorem spec_nCoinsI (p q g k o l m pt th tr mx vt sd : Int) (s : ByteArray) (i n : Int) (w : World) (h : OkPl ⟨p, q, g, k, o, l, m, pt, th, tr, mx, vt, sd⟩) (hs : s.size ≤ 40) (hi : digestB i = true) (hn : 0 ≤ n ∧ n ≤ 200) :
    Calls Try.prog 81 #[.agg #[.int .i64 p, .int .i64 q, .int .i64 g, .int .i64 k, .int .i64 o, .int .i64 l, .int .i64 m, .int .i64 pt, .int .i64 th, .int .i64 tr, .int .i64 mx, .int .i64 vt, .int .i64 sd], .string s, .int .i64 i, .int .i64 n] w fun e w' => ∃ v', e = .returned v' ∧ OwnI w' w.heap.size v' (coinL ⟨p, q, g, k, o, l, m, pt, th, tr, mx, vt, sd⟩ s i n.toNat) ∧ Below w.heap.size w w' := by
  obtain ⟨N, rfl⟩ : ∃ N : Nat, n = N := ⟨n.toNat, by omega⟩
  exact spec_nCoins p q g k o l m pt th tr mx vt sd s i N w h hs hi (by omega)
theorem impl_isLabelP (s : ByteArray) (w : World) (hs : s.size ≤ 1048576) :
    Calls Try.prog 82 #[.string s] w fun e w' => e = .returned (.bool (decide ((s.size : Int) ≤ 40))) ∧ w = w' := by
  go_enter Try.func82, Try.ntmps82
  go_wp2_with fail
  go_ret
  exact ⟨rfl, rfl⟩
set_option maxRecDepth 100000 in
set_option maxHeartbeats 2000000 in
theorem impl_CoinsFor (p q g k o l m pt th tr mx vt sd : Int) (s : ByteArray) (i n : Int) (w : World) (hsz : s.size ≤ 1048576) :
    Calls Try.prog 19 #[.agg #[.int .i64 p, .int .i64 q, .int .i64 g, .int .i64 k, .int .i64 o, .int .i64 l, .int .i64 m, .int .i64 pt, .int .i64 th, .int .i64 tr, .int .i64 mx, .int .i64 vt, .int .i64 sd], .string s, .int .i64 i, .int .i64 n] w fun e w' => ∃ v', e = .returned (.tuple #[v', .bool (coiB ⟨p, q, g, k, o, l, m, pt, th, tr, mx, vt, sd⟩ s i n)]) ∧ InI w' w.heap.size w'.heap.size v' (coiR ⟨p, q, g, k, o, l, m, pt, th, tr, mx, vt, sd⟩ s i n) ∧ Below w.heap.size w w' := by
  obtain ⟨W, hW⟩ : ∃ W, W = w.alloc (.cells #[.int .i64 p, .int .i64 q, .int .i64 g, .int .i64 k, .int .i64 o, .int .i64 l, .int .i64 m, .int .i64 pt, .int .i64 th, .int .i64 tr, .int .i64 mx, .int .i64 vt, .int .i64 sd] 33) := ⟨_, rfl⟩
  have HB : Hid (Below w.heap.size w W) := by unfold Hid; rw [hW]; exact (Below.refl _ _).alloc (Nat.le_refl _) _
  have HX : Hid (BoxN W w.heap.size 33 [.int .i64 p, .int .i64 q, .int .i64 g, .int .i64 k, .int .i64 o, .int .i64 l, .int .i64 m, .int .i64 pt, .int .i64 th, .int .i64 tr, .int .i64 mx, .int .i64 vt, .int .i64 sd]) := by unfold Hid; rw [hW]; exact BoxN.new w _ _
  have HSW : Hid (W.heap.size = w.heap.size + 1) := by unfold Hid; rw [hW]; simp
  have HWW := Lib.hid hW; clear hW
  cases hP : planB ⟨p, q, g, k, o, l, m, pt, th, tr, mx, vt, sd⟩ with
  | false =>
    have HP := Lib.hid hP
    have HR : Hid (coiB ⟨p, q, g, k, o, l, m, pt, th, tr, mx, vt, sd⟩ s i n = false) := by unfold Hid coiB; (try simp only [hP, Bool.and_false, Bool.false_and, Bool.true_and]) <;> (try rfl)
    have HL : Hid (coiR ⟨p, q, g, k, o, l, m, pt, th, tr, mx, vt, sd⟩ s i n = []) := by unfold Hid coiR; rw [HR.out]; rfl
    rw [HR.out, HL.out]
    clear hP
    go_enter Try.func19, Try.ntmps19
    go_wp2_with fail
    rw [← HWW.out]
    try rw [← HSW.out]
    clear HWW HSW
    have i0 := HX.out.cell (i := 0) rfl
    have i1 := HX.out.cell (i := 1) rfl
    have i2 := HX.out.cell (i := 2) rfl
    have i3 := HX.out.cell (i := 3) rfl
    have i4 := HX.out.cell (i := 4) rfl
    have i5 := HX.out.cell (i := 5) rfl
    have i6 := HX.out.cell (i := 6) rfl
    have i7 := HX.out.cell (i := 7) rfl
    have i8 := HX.out.cell (i := 8) rfl
    have i9 := HX.out.cell (i := 9) rfl
    have i10 := HX.out.cell (i := 10) rfl
    have i11 := HX.out.cell (i := 11) rfl
    have i12 := HX.out.cell (i := 12) rfl
    go_wp2_with fail
    refine (impl_IsValidPlan p q g k o l m pt th tr mx vt sd _).mono ?_
    rintro e w1 ⟨rfl, hb1⟩
    rw [HP.out]
    have HX1 : Hid (BoxN w1 w.heap.size 33 [.int .i64 p, .int .i64 q, .int .i64 g, .int .i64 k, .int .i64 o, .int .i64 l, .int .i64 m, .int .i64 pt, .int .i64 th, .int .i64 tr, .int .i64 mx, .int .i64 vt, .int .i64 sd]) := HX.out.below hb1
    have HB1 := Lib.hid (Below.next HB.out hb1)
    clear hb1 HX
    clear i0 i1 i2 i3 i4 i5 i6 i7 i8 i9 i10 i11 i12
    have i0 := HX1.out.cell (i := 0) rfl
    have i1 := HX1.out.cell (i := 1) rfl
    have i2 := HX1.out.cell (i := 2) rfl
    have i3 := HX1.out.cell (i := 3) rfl
    have i4 := HX1.out.cell (i := 4) rfl
    have i5 := HX1.out.cell (i := 5) rfl
    have i6 := HX1.out.cell (i := 6) rfl
    have i7 := HX1.out.cell (i := 7) rfl
    have i8 := HX1.out.cell (i := 8) rfl
    have i9 := HX1.out.cell (i := 9) rfl
    have i10 := HX1.out.cell (i := 10) rfl
    have i11 := HX1.out.cell (i := 11) rfl
    have i12 := HX1.out.cell (i := 12) rfl
    go_wp2_with (first
      | (go_at_call 83; refine (impl_isDigest _ _).mono ?_; rintro e w2 ⟨rfl, rfl⟩; rw [H2.out])
      | (go_at_call 78; refine (impl_within _ _ _ _).mono ?_; rintro e w2 ⟨rfl, rfl⟩; rw [H3.out])
      | fail)
    go_ret2
    exact ⟨_, rfl, InI.of_own (OwnI.nil _ _), HB1.out⟩
  | true =>
  have HP := Lib.hid hP
  have HOK := Lib.hid (planB_ok hP)
  cases h1 : decide ((s.size : Int) ≤ 40) with
  | false =>
    have h1' : decide (40 < (s.size : Int)) = true := by have := of_decide_eq_false h1; exact decide_eq_true (by omega)
    have H1 := Lib.hid h1
    have HR : Hid (coiB ⟨p, q, g, k, o, l, m, pt, th, tr, mx, vt, sd⟩ s i n = false) := by unfold Hid coiB; (try simp only [hP, h1, Bool.and_false, Bool.false_and, Bool.true_and]) <;> (try rfl)
    have HL : Hid (coiR ⟨p, q, g, k, o, l, m, pt, th, tr, mx, vt, sd⟩ s i n = []) := by unfold Hid coiR; rw [HR.out]; rfl
    rw [HR.out, HL.out]
    clear hP h1
    go_enter Try.func19, Try.ntmps19
    go_wp2_with fail
    rw [← HWW.out]
    try rw [← HSW.out]
    clear HWW HSW
    have i0 := HX.out.cell (i := 0) rfl
    have i1 := HX.out.cell (i := 1) rfl
    have i2 := HX.out.cell (i := 2) rfl
    have i3 := HX.out.cell (i := 3) rfl
    have i4 := HX.out.cell (i := 4) rfl
    have i5 := HX.out.cell (i := 5) rfl
    have i6 := HX.out.cell (i := 6) rfl
    have i7 := HX.out.cell (i := 7) rfl
    have i8 := HX.out.cell (i := 8) rfl
    have i9 := HX.out.cell (i := 9) rfl
    have i10 := HX.out.cell (i := 10) rfl
    have i11 := HX.out.cell (i := 11) rfl
    have i12 := HX.out.cell (i := 12) rfl
    go_wp2_with fail
    refine (impl_IsValidPlan p q g k o l m pt th tr mx vt sd _).mono ?_
    rintro e w1 ⟨rfl, hb1⟩
    rw [HP.out]
    have HX1 : Hid (BoxN w1 w.heap.size 33 [.int .i64 p, .int .i64 q, .int .i64 g, .int .i64 k, .int .i64 o, .int .i64 l, .int .i64 m, .int .i64 pt, .int .i64 th, .int .i64 tr, .int .i64 mx, .int .i64 vt, .int .i64 sd]) := HX.out.below hb1
    have HB1 := Lib.hid (Below.next HB.out hb1)
    clear hb1 HX
    clear i0 i1 i2 i3 i4 i5 i6 i7 i8 i9 i10 i11 i12
    have i0 := HX1.out.cell (i := 0) rfl
    have i1 := HX1.out.cell (i := 1) rfl
    have i2 := HX1.out.cell (i := 2) rfl
    have i3 := HX1.out.cell (i := 3) rfl
    have i4 := HX1.out.cell (i := 4) rfl
    have i5 := HX1.out.cell (i := 5) rfl
    have i6 := HX1.out.cell (i := 6) rfl
    have i7 := HX1.out.cell (i := 7) rfl
    have i8 := HX1.out.cell (i := 8) rfl
    have i9 := HX1.out.cell (i := 9) rfl
    have i10 := HX1.out.cell (i := 10) rfl
    have i11 := HX1.out.cell (i := 11) rfl
    have i12 := HX1.out.cell (i := 12) rfl
    go_wp2_with (first
      | (go_at_call 83; refine (impl_isDigest _ _).mono ?_; rintro e w2 ⟨rfl, rfl⟩; rw [H2.out])
      | (go_at_call 78; refine (impl_within _ _ _ _).mono ?_; rintro e w2 ⟨rfl, rfl⟩; rw [H3.out])
      | (go_at_call 82; refine (impl_isLabelP s _ hsz).mono ?_; rintro e w2 ⟨rfl, rfl⟩; rw [H1.out]) | fail)
    go_ret2
    exact ⟨_, rfl, InI.of_own (OwnI.nil _ _), HB1.out⟩
  | true =>
  have h1' : decide (40 < (s.size : Int)) = false := by have := of_decide_eq_true h1; exact decide_eq_false (by omega)
  have H1 := Lib.hid h1
  cases h2 : digestB i with
  | false =>
    have H2 := Lib.hid h2
    have HR : Hid (coiB ⟨p, q, g, k, o, l, m, pt, th, tr, mx, vt, sd⟩ s i n = false) := by unfold Hid coiB; (try simp only [hP, h1, h2, Bool.and_false, Bool.false_and, Bool.true_and]) <;> (try rfl)
    have HL : Hid (coiR ⟨p, q, g, k, o, l, m, pt, th, tr, mx, vt, sd⟩ s i n = []) := by unfold Hid coiR; rw [HR.out]; rfl
    rw [HR.out, HL.out]
    clear hP h1 h2
    go_enter Try.func19, Try.ntmps19
    go_wp2_with fail
    rw [← HWW.out]
    try rw [← HSW.out]
    clear HWW HSW
    have i0 := HX.out.cell (i := 0) rfl
    have i1 := HX.out.cell (i := 1) rfl
    have i2 := HX.out.cell (i := 2) rfl
    have i3 := HX.out.cell (i := 3) rfl
    have i4 := HX.out.cell (i := 4) rfl
    have i5 := HX.out.cell (i := 5) rfl
    have i6 := HX.out.cell (i := 6) rfl
    have i7 := HX.out.cell (i := 7) rfl
    have i8 := HX.out.cell (i := 8) rfl
    have i9 := HX.out.cell (i := 9) rfl
    have i10 := HX.out.cell (i := 10) rfl
    have i11 := HX.out.cell (i := 11) rfl
    have i12 := HX.out.cell (i := 12) rfl
    go_wp2_with fail
    refine (impl_IsValidPlan p q g k o l m pt th tr mx vt sd _).mono ?_
    rintro e w1 ⟨rfl, hb1⟩
    rw [HP.out]
    have HX1 : Hid (BoxN w1 w.heap.size 33 [.int .i64 p, .int .i64 q, .int .i64 g, .int .i64 k, .int .i64 o, .int .i64 l, .int .i64 m, .int .i64 pt, .int .i64 th, .int .i64 tr, .int .i64 mx, .int .i64 vt, .int .i64 sd]) := HX.out.below hb1
    have HB1 := Lib.hid (Below.next HB.out hb1)
    clear hb1 HX
    clear i0 i1 i2 i3 i4 i5 i6 i7 i8 i9 i10 i11 i12
    have i0 := HX1.out.cell (i := 0) rfl
    have i1 := HX1.out.cell (i := 1) rfl
    have i2 := HX1.out.cell (i := 2) rfl
    have i3 := HX1.out.cell (i := 3) rfl
    have i4 := HX1.out.cell (i := 4) rfl
    have i5 := HX1.out.cell (i := 5) rfl
    have i6 := HX1.out.cell (i := 6) rfl
    have i7 := HX1.out.cell (i := 7) rfl
    have i8 := HX1.out.cell (i := 8) rfl
    have i9 := HX1.out.cell (i := 9) rfl
    have i10 := HX1.out.cell (i := 10) rfl
    have i11 := HX1.out.cell (i := 11) rfl
    have i12 := HX1.out.cell (i := 12) rfl
    go_wp2_with (first
      | (go_at_call 83; refine (impl_isDigest _ _).mono ?_; rintro e w2 ⟨rfl, rfl⟩; rw [H2.out])
      | (go_at_call 78; refine (impl_within _ _ _ _).mono ?_; rintro e w2 ⟨rfl, rfl⟩; rw [H3.out])
      | (go_at_call 82; refine (impl_isLabelP s _ hsz).mono ?_; rintro e w2 ⟨rfl, rfl⟩; rw [H1.out]) | fail)
    go_ret2
    exact ⟨_, rfl, InI.of_own (OwnI.nil _ _), HB1.out⟩
  | true =>
  have H2 := Lib.hid h2
  cases h3 : decide (0 ≤ n ∧ n ≤ 200) with
  | false =>
    have H3 := Lib.hid h3
    have HR : Hid (coiB ⟨p, q, g, k, o, l, m, pt, th, tr, mx, vt, sd⟩ s i n = false) := by unfold Hid coiB; (try simp only [hP, h1, h2, h3, Bool.and_false, Bool.false_and, Bool.true_and]) <;> (try rfl)
    have HL : Hid (coiR ⟨p, q, g, k, o, l, m, pt, th, tr, mx, vt, sd⟩ s i n = []) := by unfold Hid coiR; rw [HR.out]; rfl
    rw [HR.out, HL.out]
    clear hP h1 h2 h3
    go_enter Try.func19, Try.ntmps19
    go_wp2_with fail
    rw [← HWW.out]
    try rw [← HSW.out]
    clear HWW HSW
    have i0 := HX.out.cell (i := 0) rfl
    have i1 := HX.out.cell (i := 1) rfl
    have i2 := HX.out.cell (i := 2) rfl
    have i3 := HX.out.cell (i := 3) rfl
    have i4 := HX.out.cell (i := 4) rfl
    have i5 := HX.out.cell (i := 5) rfl
    have i6 := HX.out.cell (i := 6) rfl
    have i7 := HX.out.cell (i := 7) rfl
    have i8 := HX.out.cell (i := 8) rfl
    have i9 := HX.out.cell (i := 9) rfl
    have i10 := HX.out.cell (i := 10) rfl
    have i11 := HX.out.cell (i := 11) rfl
    have i12 := HX.out.cell (i := 12) rfl
    go_wp2_with fail
    refine (impl_IsValidPlan p q g k o l m pt th tr mx vt sd _).mono ?_
    rintro e w1 ⟨rfl, hb1⟩
    rw [HP.out]
    have HX1 : Hid (BoxN w1 w.heap.size 33 [.int .i64 p, .int .i64 q, .int .i64 g, .int .i64 k, .int .i64 o, .int .i64 l, .int .i64 m, .int .i64 pt, .int .i64 th, .int .i64 tr, .int .i64 mx, .int .i64 vt, .int .i64 sd]) := HX.out.below hb1
    have HB1 := Lib.hid (Below.next HB.out hb1)
    clear hb1 HX
    clear i0 i1 i2 i3 i4 i5 i6 i7 i8 i9 i10 i11 i12
    have i0 := HX1.out.cell (i := 0) rfl
    have i1 := HX1.out.cell (i := 1) rfl
    have i2 := HX1.out.cell (i := 2) rfl
    have i3 := HX1.out.cell (i := 3) rfl
    have i4 := HX1.out.cell (i := 4) rfl
    have i5 := HX1.out.cell (i := 5) rfl
    have i6 := HX1.out.cell (i := 6) rfl
    have i7 := HX1.out.cell (i := 7) rfl
    have i8 := HX1.out.cell (i := 8) rfl
    have i9 := HX1.out.cell (i := 9) rfl
    have i10 := HX1.out.cell (i := 10) rfl
    have i11 := HX1.out.cell (i := 11) rfl
    have i12 := HX1.out.cell (i := 12) rfl
    go_wp2_with (first
      | (go_at_call 83; refine (impl_isDigest _ _).mono ?_; rintro e w2 ⟨rfl, rfl⟩; rw [H2.out])
      | (go_at_call 78; refine (impl_within _ _ _ _).mono ?_; rintro e w2 ⟨rfl, rfl⟩; rw [H3.out])
      | (go_at_call 82; refine (impl_isLabelP s _ hsz).mono ?_; rintro e w2 ⟨rfl, rfl⟩; rw [H1.out]) | fail)
    go_ret2
    exact ⟨_, rfl, InI.of_own (OwnI.nil _ _), HB1.out⟩
  | true =>
  have H3 := Lib.hid h3
  have HR : Hid (coiB ⟨p, q, g, k, o, l, m, pt, th, tr, mx, vt, sd⟩ s i n = true) := by unfold Hid coiB; simp only [hP, h1, h2, h3, Bool.and_self]
  obtain ⟨n0, n1⟩ := of_decide_eq_true h3
  have hs40 : s.size ≤ 40 := by have := of_decide_eq_true h1; omega
  obtain ⟨N, rfl⟩ : ∃ N : Nat, n = N := ⟨n.toNat, by omega⟩
  have HL : Hid (coiR ⟨p, q, g, k, o, l, m, pt, th, tr, mx, vt, sd⟩ s i N = coinL ⟨p, q, g, k, o, l, m, pt, th, tr, mx, vt, sd⟩ s i N) := by unfold Hid coiR; rw [if_pos HR.out]; rfl
  rw [HR.out, HL.out]
  clear hP h1 h2 h3
  go_enter Try.func19, Try.ntmps19
  go_wp2_with fail
  rw [← HWW.out]
  try rw [← HSW.out]
  clear HWW HSW
  have i0 := HX.out.cell (i := 0) rfl
  have i1 := HX.out.cell (i := 1) rfl
  have i2 := HX.out.cell (i := 2) rfl
  have i3 := HX.out.cell (i := 3) rfl
  have i4 := HX.out.cell (i := 4) rfl
  have i5 := HX.out.cell (i := 5) rfl
  have i6 := HX.out.cell (i := 6) rfl
  have i7 := HX.out.cell (i := 7) rfl
  have i8 := HX.out.cell (i := 8) rfl
  have i9 := HX.out.cell (i := 9) rfl
  have i10 := HX.out.cell (i := 10) rfl
  have i11 := HX.out.cell (i := 11) rfl
  have i12 := HX.out.cell (i := 12) rfl
  go_wp2_with fail
  refine (impl_IsValidPlan p q g k o l m pt th tr mx vt sd _).mono ?_
  rintro e w1 ⟨rfl, hb1⟩
  rw [HP.out]
  have HX1 : Hid (BoxN w1 w.heap.size 33 [.int .i64 p, .int .i64 q, .int .i64 g, .int .i64 k, .int .i64 o, .int .i64 l, .int .i64 m, .int .i64 pt, .int .i64 th, .int .i64 tr, .int .i64 mx, .int .i64 vt, .int .i64 sd]) := HX.out.below hb1
  have HB1 := Lib.hid (Below.next HB.out hb1)
  clear hb1 HX
  clear i0 i1 i2 i3 i4 i5 i6 i7 i8 i9 i10 i11 i12
  have i0 := HX1.out.cell (i := 0) rfl
  have i1 := HX1.out.cell (i := 1) rfl
  have i2 := HX1.out.cell (i := 2) rfl
  have i3 := HX1.out.cell (i := 3) rfl
  have i4 := HX1.out.cell (i := 4) rfl
  have i5 := HX1.out.cell (i := 5) rfl
  have i6 := HX1.out.cell (i := 6) rfl
  have i7 := HX1.out.cell (i := 7) rfl
  have i8 := HX1.out.cell (i := 8) rfl
  have i9 := HX1.out.cell (i := 9) rfl
  have i10 := HX1.out.cell (i := 10) rfl
  have i11 := HX1.out.cell (i := 11) rfl
  have i12 := HX1.out.cell (i := 12) rfl
  go_wp2_with (first
    | (go_at_call 83; refine (impl_isDigest _ _).mono ?_; rintro e w2 ⟨rfl, rfl⟩; rw [H2.out])
    | (go_at_call 78; refine (impl_within _ _ _ _).mono ?_; rintro e w2 ⟨rfl, rfl⟩; rw [H3.out])
    | (go_at_call 82; refine (impl_isLabelP s _ hsz).mono ?_; rintro e w2 ⟨rfl, rfl⟩; rw [H1.out]) | fail)
  refine (impl_coins p q g k o l m pt th tr mx vt sd s i N _ HOK.out hs40 H2.out (by omega)).mono ?_
  rintro e w3 ⟨v', rfl, hO, hb3⟩
  have HB3 := Lib.hid (Below.next HB1.out hb3)
  have HO := Lib.hid (hO.mono HB1.out.size)
  clear hb3 hO
  clear i0 i1 i2 i3 i4 i5 i6 i7 i8 i9 i10 i11 i12
  go_wp2_with fail
  go_ret2
  exact ⟨_, rfl, InI.of_own HO.out, HB3.out⟩
set_option maxRecDepth 100000 in
set_option maxHeartbeats 2000000 in
theorem spec_CoinsFor (p q g k o l m pt th tr mx vt sd : Int) (s : ByteArray) (i n : Int) (w : World) (hsz : s.size ≤ 1048576) :
    Calls Try.prog 18 #[.agg #[.int .i64 p, .int .i64 q, .int .i64 g, .int .i64 k, .int .i64 o, .int .i64 l, .int .i64 m, .int .i64 pt, .int .i64 th, .int .i64 tr, .int .i64 mx, .int .i64 vt, .int .i64 sd], .string s, .int .i64 i, .int .i64 n] w fun e w' => ∃ v', e = .returned (.tuple #[v', .bool (coiB ⟨p, q, g, k, o, l, m, pt, th, tr, mx, vt, sd⟩ s i n)]) ∧ InI w' w.heap.size w'.heap.size v' (coiR ⟨p, q, g, k, o, l, m, pt, th, tr, mx, vt, sd⟩ s i n) ∧ Below w.heap.size w w' := by
  obtain ⟨W, hW⟩ : ∃ W, W = w.alloc (.cells #[.int .i64 p, .int .i64 q, .int .i64 g, .int .i64 k, .int .i64 o, .int .i64 l, .int .i64 m, .int .i64 pt, .int .i64 th, .int .i64 tr, .int .i64 mx, .int .i64 vt, .int .i64 sd] 33) := ⟨_, rfl⟩
  have HB : Hid (Below w.heap.size w W) := by unfold Hid; rw [hW]; exact (Below.refl _ _).alloc (Nat.le_refl _) _
  have HX : Hid (BoxN W w.heap.size 33 [.int .i64 p, .int .i64 q, .int .i64 g, .int .i64 k, .int .i64 o, .int .i64 l, .int .i64 m, .int .i64 pt, .int .i64 th, .int .i64 tr, .int .i64 mx, .int .i64 vt, .int .i64 sd]) := by unfold Hid; rw [hW]; exact BoxN.new w _ _
  have HSW : Hid (W.heap.size = w.heap.size + 1) := by unfold Hid; rw [hW]; simp
  have HWW := Lib.hid hW; clear hW
  cases hP : planB ⟨p, q, g, k, o, l, m, pt, th, tr, mx, vt, sd⟩ with
  | false =>
    have HP := Lib.hid hP
    have HR : Hid (coiB ⟨p, q, g, k, o, l, m, pt, th, tr, mx, vt, sd⟩ s i n = false) := by unfold Hid coiB; (try simp only [hP, Bool.and_false, Bool.false_and, Bool.true_and]) <;> (try rfl)
    have HL : Hid (coiR ⟨p, q, g, k, o, l, m, pt, th, tr, mx, vt, sd⟩ s i n = []) := by unfold Hid coiR; rw [HR.out]; rfl
    rw [HR.out, HL.out]
    clear hP
    go_enter Try.func18, Try.ntmps18
    go_wp2_with fail
    rw [← HWW.out]
    try rw [← HSW.out]
    clear HWW HSW
    have i0 := HX.out.cell (i := 0) rfl
    have i1 := HX.out.cell (i := 1) rfl
    have i2 := HX.out.cell (i := 2) rfl
    have i3 := HX.out.cell (i := 3) rfl
    have i4 := HX.out.cell (i := 4) rfl
    have i5 := HX.out.cell (i := 5) rfl
    have i6 := HX.out.cell (i := 6) rfl
    have i7 := HX.out.cell (i := 7) rfl
    have i8 := HX.out.cell (i := 8) rfl
    have i9 := HX.out.cell (i := 9) rfl
    have i10 := HX.out.cell (i := 10) rfl
    have i11 := HX.out.cell (i := 11) rfl
    have i12 := HX.out.cell (i := 12) rfl
    go_wp2_with fail
    refine (spec_nPlan p q g k o l m pt th tr mx vt sd _).mono ?_
    rintro e w1 ⟨rfl, hb1⟩
    rw [HP.out]
    have HX1 : Hid (BoxN w1 w.heap.size 33 [.int .i64 p, .int .i64 q, .int .i64 g, .int .i64 k, .int .i64 o, .int .i64 l, .int .i64 m, .int .i64 pt, .int .i64 th, .int .i64 tr, .int .i64 mx, .int .i64 vt, .int .i64 sd]) := HX.out.below hb1
    have HB1 := Lib.hid (Below.next HB.out hb1)
    clear hb1 HX
    clear i0 i1 i2 i3 i4 i5 i6 i7 i8 i9 i10 i11 i12
    have i0 := HX1.out.cell (i := 0) rfl
    have i1 := HX1.out.cell (i := 1) rfl
    have i2 := HX1.out.cell (i := 2) rfl
    have i3 := HX1.out.cell (i := 3) rfl
    have i4 := HX1.out.cell (i := 4) rfl
    have i5 := HX1.out.cell (i := 5) rfl
    have i6 := HX1.out.cell (i := 6) rfl
    have i7 := HX1.out.cell (i := 7) rfl
    have i8 := HX1.out.cell (i := 8) rfl
    have i9 := HX1.out.cell (i := 9) rfl
    have i10 := HX1.out.cell (i := 10) rfl
    have i11 := HX1.out.cell (i := 11) rfl
    have i12 := HX1.out.cell (i := 12) rfl
    go_wp2_with (first
      | (go_at_call 80; refine (spec_l3Digest _ _).mono ?_; rintro e w2 ⟨rfl, rfl⟩; rw [H2.out])
      | (go_at_call 76; refine (spec_l1In _ _ _ _).mono ?_; rintro e w2 ⟨rfl, rfl⟩; rw [H3.out])
      | fail)
    go_ret2
    exact ⟨_, rfl, InI.of_own (OwnI.nil _ _), HB1.out⟩
  | true =>
  have HP := Lib.hid hP
  have HOK := Lib.hid (planB_ok hP)
  cases h1 : decide ((s.size : Int) ≤ 40) with
  | false =>
    have h1' : decide (40 < (s.size : Int)) = true := by have := of_decide_eq_false h1; exact decide_eq_true (by omega)
    have H1 := Lib.hid h1
    have HR : Hid (coiB ⟨p, q, g, k, o, l, m, pt, th, tr, mx, vt, sd⟩ s i n = false) := by unfold Hid coiB; (try simp only [hP, h1, Bool.and_false, Bool.false_and, Bool.true_and]) <;> (try rfl)
    have HL : Hid (coiR ⟨p, q, g, k, o, l, m, pt, th, tr, mx, vt, sd⟩ s i n = []) := by unfold Hid coiR; rw [HR.out]; rfl
    rw [HR.out, HL.out]
    clear hP h1
    go_enter Try.func18, Try.ntmps18
    go_wp2_with fail
    rw [← HWW.out]
    try rw [← HSW.out]
    clear HWW HSW
    have i0 := HX.out.cell (i := 0) rfl
    have i1 := HX.out.cell (i := 1) rfl
    have i2 := HX.out.cell (i := 2) rfl
    have i3 := HX.out.cell (i := 3) rfl
    have i4 := HX.out.cell (i := 4) rfl
    have i5 := HX.out.cell (i := 5) rfl
    have i6 := HX.out.cell (i := 6) rfl
    have i7 := HX.out.cell (i := 7) rfl
    have i8 := HX.out.cell (i := 8) rfl
    have i9 := HX.out.cell (i := 9) rfl
    have i10 := HX.out.cell (i := 10) rfl
    have i11 := HX.out.cell (i := 11) rfl
    have i12 := HX.out.cell (i := 12) rfl
    go_wp2_with fail
    refine (spec_nPlan p q g k o l m pt th tr mx vt sd _).mono ?_
    rintro e w1 ⟨rfl, hb1⟩
    rw [HP.out]
    have HX1 : Hid (BoxN w1 w.heap.size 33 [.int .i64 p, .int .i64 q, .int .i64 g, .int .i64 k, .int .i64 o, .int .i64 l, .int .i64 m, .int .i64 pt, .int .i64 th, .int .i64 tr, .int .i64 mx, .int .i64 vt, .int .i64 sd]) := HX.out.below hb1
    have HB1 := Lib.hid (Below.next HB.out hb1)
    clear hb1 HX
    clear i0 i1 i2 i3 i4 i5 i6 i7 i8 i9 i10 i11 i12
    have i0 := HX1.out.cell (i := 0) rfl
    have i1 := HX1.out.cell (i := 1) rfl
    have i2 := HX1.out.cell (i := 2) rfl
    have i3 := HX1.out.cell (i := 3) rfl
    have i4 := HX1.out.cell (i := 4) rfl
    have i5 := HX1.out.cell (i := 5) rfl
    have i6 := HX1.out.cell (i := 6) rfl
    have i7 := HX1.out.cell (i := 7) rfl
    have i8 := HX1.out.cell (i := 8) rfl
    have i9 := HX1.out.cell (i := 9) rfl
    have i10 := HX1.out.cell (i := 10) rfl
    have i11 := HX1.out.cell (i := 11) rfl
    have i12 := HX1.out.cell (i := 12) rfl
    go_wp2_with (first
      | (go_at_call 80; refine (spec_l3Digest _ _).mono ?_; rintro e w2 ⟨rfl, rfl⟩; rw [H2.out])
      | (go_at_call 76; refine (spec_l1In _ _ _ _).mono ?_; rintro e w2 ⟨rfl, rfl⟩; rw [H3.out])
      | fail)
    go_ret2
    exact ⟨_, rfl, InI.of_own (OwnI.nil _ _), HB1.out⟩
  | true =>
  have h1' : decide (40 < (s.size : Int)) = false := by have := of_decide_eq_true h1; exact decide_eq_false (by omega)
  have H1 := Lib.hid h1
  cases h2 : digestB i with
  | false =>
    have H2 := Lib.hid h2
    have HR : Hid (coiB ⟨p, q, g, k, o, l, m, pt, th, tr, mx, vt, sd⟩ s i n = false) := by unfold Hid coiB; (try simp only [hP, h1, h2, Bool.and_false, Bool.false_and, Bool.true_and]) <;> (try rfl)
    have HL : Hid (coiR ⟨p, q, g, k, o, l, m, pt, th, tr, mx, vt, sd⟩ s i n = []) := by unfold Hid coiR; rw [HR.out]; rfl
    rw [HR.out, HL.out]
    clear hP h1 h2
    go_enter Try.func18, Try.ntmps18
    go_wp2_with fail
    rw [← HWW.out]
    try rw [← HSW.out]
    clear HWW HSW
    have i0 := HX.out.cell (i := 0) rfl
    have i1 := HX.out.cell (i := 1) rfl
    have i2 := HX.out.cell (i := 2) rfl
    have i3 := HX.out.cell (i := 3) rfl
    have i4 := HX.out.cell (i := 4) rfl
    have i5 := HX.out.cell (i := 5) rfl
    have i6 := HX.out.cell (i := 6) rfl
    have i7 := HX.out.cell (i := 7) rfl
    have i8 := HX.out.cell (i := 8) rfl
    have i9 := HX.out.cell (i := 9) rfl
    have i10 := HX.out.cell (i := 10) rfl
    have i11 := HX.out.cell (i := 11) rfl
    have i12 := HX.out.cell (i := 12) rfl
    go_wp2_with fail
    refine (spec_nPlan p q g k o l m pt th tr mx vt sd _).mono ?_
    rintro e w1 ⟨rfl, hb1⟩
    rw [HP.out]
    have HX1 : Hid (BoxN w1 w.heap.size 33 [.int .i64 p, .int .i64 q, .int .i64 g, .int .i64 k, .int .i64 o, .int .i64 l, .int .i64 m, .int .i64 pt, .int .i64 th, .int .i64 tr, .int .i64 mx, .int .i64 vt, .int .i64 sd]) := HX.out.below hb1
    have HB1 := Lib.hid (Below.next HB.out hb1)
    clear hb1 HX
    clear i0 i1 i2 i3 i4 i5 i6 i7 i8 i9 i10 i11 i12
    have i0 := HX1.out.cell (i := 0) rfl
    have i1 := HX1.out.cell (i := 1) rfl
    have i2 := HX1.out.cell (i := 2) rfl
    have i3 := HX1.out.cell (i := 3) rfl
    have i4 := HX1.out.cell (i := 4) rfl
    have i5 := HX1.out.cell (i := 5) rfl
    have i6 := HX1.out.cell (i := 6) rfl
    have i7 := HX1.out.cell (i := 7) rfl
    have i8 := HX1.out.cell (i := 8) rfl
    have i9 := HX1.out.cell (i := 9) rfl
    have i10 := HX1.out.cell (i := 10) rfl
    have i11 := HX1.out.cell (i := 11) rfl
    have i12 := HX1.out.cell (i := 12) rfl
    go_wp2_with (first
      | (go_at_call 80; refine (spec_l3Digest _ _).mono ?_; rintro e w2 ⟨rfl, rfl⟩; rw [H2.out])
      | (go_at_call 76; refine (spec_l1In _ _ _ _).mono ?_; rintro e w2 ⟨rfl, rfl⟩; rw [H3.out])
      | fail)
    go_ret2
    exact ⟨_, rfl, InI.of_own (OwnI.nil _ _), HB1.out⟩
  | true =>
  have H2 := Lib.hid h2
  cases h3 : decide (0 ≤ n ∧ n ≤ 200) with
  | false =>
    have H3 := Lib.hid h3
    have HR : Hid (coiB ⟨p, q, g, k, o, l, m, pt, th, tr, mx, vt, sd⟩ s i n = false) := by unfold Hid coiB; (try simp only [hP, h1, h2, h3, Bool.and_false, Bool.false_and, Bool.true_and]) <;> (try rfl)
    have HL : Hid (coiR ⟨p, q, g, k, o, l, m, pt, th, tr, mx, vt, sd⟩ s i n = []) := by unfold Hid coiR; rw [HR.out]; rfl
    rw [HR.out, HL.out]
    clear hP h1 h2 h3
    go_enter Try.func18, Try.ntmps18
    go_wp2_with fail
    rw [← HWW.out]
    try rw [← HSW.out]
    clear HWW HSW
    have i0 := HX.out.cell (i := 0) rfl
    have i1 := HX.out.cell (i := 1) rfl
    have i2 := HX.out.cell (i := 2) rfl
    have i3 := HX.out.cell (i := 3) rfl
    have i4 := HX.out.cell (i := 4) rfl
    have i5 := HX.out.cell (i := 5) rfl
    have i6 := HX.out.cell (i := 6) rfl
    have i7 := HX.out.cell (i := 7) rfl
    have i8 := HX.out.cell (i := 8) rfl
    have i9 := HX.out.cell (i := 9) rfl
    have i10 := HX.out.cell (i := 10) rfl
    have i11 := HX.out.cell (i := 11) rfl
    have i12 := HX.out.cell (i := 12) rfl
    go_wp2_with fail
    refine (spec_nPlan p q g k o l m pt th tr mx vt sd _).mono ?_
    rintro e w1 ⟨rfl, hb1⟩
    rw [HP.out]
    have HX1 : Hid (BoxN w1 w.heap.size 33 [.int .i64 p, .int .i64 q, .int .i64 g, .int .i64 k, .int .i64 o, .int .i64 l, .int .i64 m, .int .i64 pt, .int .i64 th, .int .i64 tr, .int .i64 mx, .int .i64 vt, .int .i64 sd]) := HX.out.below hb1
    have HB1 := Lib.hid (Below.next HB.out hb1)
    clear hb1 HX
    clear i0 i1 i2 i3 i4 i5 i6 i7 i8 i9 i10 i11 i12
    have i0 := HX1.out.cell (i := 0) rfl
    have i1 := HX1.out.cell (i := 1) rfl
    have i2 := HX1.out.cell (i := 2) rfl
    have i3 := HX1.out.cell (i := 3) rfl
    have i4 := HX1.out.cell (i := 4) rfl
    have i5 := HX1.out.cell (i := 5) rfl
    have i6 := HX1.out.cell (i := 6) rfl
    have i7 := HX1.out.cell (i := 7) rfl
    have i8 := HX1.out.cell (i := 8) rfl
    have i9 := HX1.out.cell (i := 9) rfl
    have i10 := HX1.out.cell (i := 10) rfl
    have i11 := HX1.out.cell (i := 11) rfl
    have i12 := HX1.out.cell (i := 12) rfl
    go_wp2_with (first
      | (go_at_call 80; refine (spec_l3Digest _ _).mono ?_; rintro e w2 ⟨rfl, rfl⟩; rw [H2.out])
      | (go_at_call 76; refine (spec_l1In _ _ _ _).mono ?_; rintro e w2 ⟨rfl, rfl⟩; rw [H3.out])
      | fail)
    go_ret2
    exact ⟨_, rfl, InI.of_own (OwnI.nil _ _), HB1.out⟩
  | true =>
  have H3 := Lib.hid h3
  have HR : Hid (coiB ⟨p, q, g, k, o, l, m, pt, th, tr, mx, vt, sd⟩ s i n = true) := by unfold Hid coiB; simp only [hP, h1, h2, h3, Bool.and_self]
  obtain ⟨n0, n1⟩ := of_decide_eq_true h3
  have hs40 : s.size ≤ 40 := by have := of_decide_eq_true h1; omega
  obtain ⟨N, rfl⟩ : ∃ N : Nat, n = N := ⟨n.toNat, by omega⟩
  have HL : Hid (coiR ⟨p, q, g, k, o, l, m, pt, th, tr, mx, vt, sd⟩ s i N = coinL ⟨p, q, g, k, o, l, m, pt, th, tr, mx, vt, sd⟩ s i N) := by unfold Hid coiR; rw [if_pos HR.out]; rfl
  rw [HR.out, HL.out]
  clear hP h1 h2 h3
  go_enter Try.func18, Try.ntmps18
  go_wp2_with fail
  rw [← HWW.out]
  try rw [← HSW.out]
  clear HWW HSW
  have i0 := HX.out.cell (i := 0) rfl
  have i1 := HX.out.cell (i := 1) rfl
  have i2 := HX.out.cell (i := 2) rfl
  have i3 := HX.out.cell (i := 3) rfl
  have i4 := HX.out.cell (i := 4) rfl
  have i5 := HX.out.cell (i := 5) rfl
  have i6 := HX.out.cell (i := 6) rfl
  have i7 := HX.out.cell (i := 7) rfl
  have i8 := HX.out.cell (i := 8) rfl
  have i9 := HX.out.cell (i := 9) rfl
  have i10 := HX.out.cell (i := 10) rfl
  have i11 := HX.out.cell (i := 11) rfl
  have i12 := HX.out.cell (i := 12) rfl
  go_wp2_with fail
  refine (spec_nPlan p q g k o l m pt th tr mx vt sd _).mono ?_
  rintro e w1 ⟨rfl, hb1⟩
  rw [HP.out]
  have HX1 : Hid (BoxN w1 w.heap.size 33 [.int .i64 p, .int .i64 q, .int .i64 g, .int .i64 k, .int .i64 o, .int .i64 l, .int .i64 m, .int .i64 pt, .int .i64 th, .int .i64 tr, .int .i64 mx, .int .i64 vt, .int .i64 sd]) := HX.out.below hb1
  have HB1 := Lib.hid (Below.next HB.out hb1)
  clear hb1 HX
  clear i0 i1 i2 i3 i4 i5 i6 i7 i8 i9 i10 i11 i12
  have i0 := HX1.out.cell (i := 0) rfl
  have i1 := HX1.out.cell (i := 1) rfl
  have i2 := HX1.out.cell (i := 2) rfl
  have i3 := HX1.out.cell (i := 3) rfl
  have i4 := HX1.out.cell (i := 4) rfl
  have i5 := HX1.out.cell (i := 5) rfl
  have i6 := HX1.out.cell (i := 6) rfl
  have i7 := HX1.out.cell (i := 7) rfl
  have i8 := HX1.out.cell (i := 8) rfl
  have i9 := HX1.out.cell (i := 9) rfl
  have i10 := HX1.out.cell (i := 10) rfl
  have i11 := HX1.out.cell (i := 11) rfl
  have i12 := HX1.out.cell (i := 12) rfl
  go_wp2_with (first
    | (go_at_call 80; refine (spec_l3Digest _ _).mono ?_; rintro e w2 ⟨rfl, rfl⟩; rw [H2.out])
    | (go_at_call 76; refine (spec_l1In _ _ _ _).mono ?_; rintro e w2 ⟨rfl, rfl⟩; rw [H3.out])
    | fail)
  refine (spec_nCoins p q g k o l m pt th tr mx vt sd s i N _ HOK.out hs40 H2.out (by omega)).mono ?_
  rintro e w3 ⟨v', rfl, hO, hb3⟩
  have HB3 := Lib.hid (Below.next HB1.out hb3)
  have HO := Lib.hid (hO.mono HB1.out.size)
  clear hb3 hO
  clear i0 i1 i2 i3 i4 i5 i6 i7 i8 i9 i10 i11 i12
  go_wp2_with fail
  go_ret2
  exact ⟨_, rfl, InI.of_own HO.out, HB3.out⟩
end Go.Proofs.Ytcpigedjblkcfaa
