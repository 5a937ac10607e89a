/- Plans of elections: joint commitments. -/
import Derived.Test.YtcpigedjblkcfaaPl6
import Derived.Test.YtcpigedjblkcfaaRep
namespace Go.Proofs.Ytcpigedjblkcfaa
open Go.RowKit
set_option linter.unusedSimpArgs false
set_option linter.unusedVariables false

/-- one of the joint commitments of the first dealers -/
def jK (d : PlanD) (k : Nat) : Nat → Int
  | 0 => 1
  | n + 1 => mulL ⟨d.p, d.q, d.g⟩ [jK d k n, powE ⟨d.p, d.q, d.g⟩ d.g (nth (dealL d (n + 1)) k)]
/-- the joint commitments of the first dealers -/
def jL (d : PlanD) (n : Nat) : List Int := tab d.th.toNat fun k => jK d k n
/-- the first of them with one dealer more -/
def jM (d : PlanD) (n k : Nat) : List Int := (jL d (n + 1)).take k ++ (jL d n).drop k
theorem jL_length (d : PlanD) (n : Nat) : (jL d n).length = d.th.toNat := tab_length _ _
theorem dealL_length (d : PlanD) (n : Nat) : (dealL d n).length = d.th.toNat := coinL_length _ _ _ _
theorem jM_zero (d : PlanD) (n : Nat) : jM d n 0 = jL d n := by simp [jM]
theorem jM_all (d : PlanD) (n : Nat) : jM d n d.th.toNat = jL d (n + 1) := by
  have h1 := jL_length d (n + 1)
  have h2 := jL_length d n
  rw [jM, List.take_of_length_le (by omega), List.drop_of_length_le (by omega), List.append_nil]
theorem jM_length (d : PlanD) (n k : Nat) : (jM d n k).length = d.th.toNat := by
  have h1 := jL_length d (n + 1)
  have h2 := jL_length d n
  simp [jM, h1, h2]; omega
theorem nth_tab {n : Nat} {f : Nat → Int} {k : Nat} (h : k < n) : nth (tab n f) k = f k := by
  rw [nth_eq (by rw [tab_length]; exact h)]; simp [tab]
theorem nth_app {a b : List Int} {k : Nat} : nth (a ++ b) k = if k < a.length then nth a k else nth b (k - a.length) := by
  simp [nth, List.getD, List.getElem?_append]
  split <;> rfl
theorem jM_nth {d : PlanD} (n : Nat) {k : Nat} (h : k < d.th.toNat) : nth (jM d n k) k = jK d k n := by
  have h1 := jL_length d (n + 1)
  have h2 : ((jL d (n + 1)).take k).length = k := by rw [List.length_take]; omega
  rw [jM, nth_app, h2, if_neg (by omega), Nat.sub_self, nth_drop, Nat.add_zero, jL, nth_tab h]
theorem jM_succ {d : PlanD} (n : Nat) {k : Nat} (h : k < d.th.toNat) : jM d n (k + 1) = (jM d n k).set k (jK d k (n + 1)) := by
  have h1 := jL_length d (n + 1)
  have h2 := jL_length d n
  refine eq_of_nth (by rw [List.length_set, jM_length, jM_length]) (fun i hi => ?_)
  rw [jM_length] at hi
  rw [nth_set (by rw [jM_length]; exact h)]
  have e1 : ((jL d (n + 1)).take (k + 1)).length = k + 1 := by rw [List.length_take]; omega
  have e2 : ((jL d (n + 1)).take k).length = k := by rw [List.length_take]; omega
  rw [jM, jM, nth_app, nth_app, e1, e2, nth_drop, nth_drop]
  by_cases hik : i = k
  · subst hik
    rw [if_pos (by omega), if_pos rfl, nth_take (by omega), jL, nth_tab h]
  · rw [if_neg hik]
    by_cases hlt : i < k
    · rw [if_pos (by omega), if_pos hlt, nth_take (by omega), nth_take (by omega)]
    · rw [if_neg (by omega), if_neg hlt, show k + 1 + (i - (k + 1)) = i by omega, show k + (i - k) = i by omega]
theorem jK_bd {d : PlanD} (hg : OkG ⟨d.p, d.q, d.g⟩) (k n : Nat) : 0 ≤ jK d k n ∧ jK d k n < d.p := by
  cases n with
  | zero => have := hg.p1; simp only [] at this; exact ⟨by show (0 : Int) ≤ 1; decide, by show (1 : Int) < _; omega⟩
  | succ n => exact mulL_bd hg _
theorem jL_zero (d : PlanD) : jL d 0 = List.replicate d.th.toNat 1 := by
  unfold jL tab
  have : (fun k => jK d k 0) = fun _ => (1 : Int) := rfl
  rw [this, List.map_const', List.length_range]
theorem jL_one {d : PlanD} (hg : OkG ⟨d.p, d.q, d.g⟩) : jL d 1 = (dealL d 1).map fun x => powE ⟨d.p, d.q, d.g⟩ d.g x := by
  refine eq_of_nth (by rw [List.length_map, jL_length, dealL_length]) (fun i hi => ?_)
  rw [jL_length] at hi
  rw [jL, nth_tab hi, nth_eq (by rw [List.length_map, dealL_length]; exact hi), List.getElem_map]
  show mulL _ [1, powE _ _ (nth (dealL d (0 + 1)) i)] = _
  rw [nth_eq (by rw [dealL_length]; exact hi)]
  obtain ⟨h0, h1⟩ := powE_bd hg d.g ((dealL d 1)[i]'(by rw [dealL_length]; exact hi))
  have hp := hg.p1
  simp only [] at hp h1
  show 1 * 1 % d.p * _ % d.p = _
  rw [show (1 : Int) * 1 % d.p = 1 from Int.emod_eq_of_lt (by omega) (by omega), Int.one_mul]
  exact Int.emod_eq_of_lt h0 h1
noncomputable def jntR (d : PlanD) : List Int := if planB d = true then jL d d.tr.toNat else []
theorem jntR_length (d : PlanD) : (jntR d).length ≤ 4 := by
  unfold jntR
  split
  · rename_i h
    have h := planB_ok h
    have := h.th; have := h.tr
    rw [jL_length]; omega
  · simp
theorem small2 {a b : Int} (ha : Small a) (hb : Small b) : AllSmall [a, b] := fun x hx => by
  rcases List.mem_cons.1 hx with rfl | hx
  · exact ha
  · rw [List.mem_singleton.1 hx]; exact hb
set_option maxRecDepth 100000 in
set_option maxHeartbeats 4000000 in
theorem spec_nDealt (p q g k o l m pt th tr mx vt sd i : Int) (w : World) (h : OkPl ⟨p, q, g, k, o, l, m, pt, th, tr, mx, vt, sd⟩) (hi : digestB i = true) :
    Calls Try.prog 180 #[.agg #[.int .i64 p, .int .i64 q, .int .i64 g, .int .i64 k, .int .i64 o, .int .i64 l, .int .i64 m, .int .i64 pt, .int .i64 th, .int .i64 tr, .int .i64 mx, .int .i64 vt, .int .i64 sd], .int .i64 i] w fun e w' => ∃ v', e = .returned v' ∧ OwnI w' w.heap.size v' ((coinL ⟨p, q, g, k, o, l, m, pt, th, tr, mx, vt, sd⟩ sDeal i th.toNat).map fun x => powE ⟨p, q, g⟩ g x) ∧ Below w.heap.size w w' := by
  have hq8 := h.q8
  obtain ⟨hq2, hp2⟩ := h.q2
  have htr := h.tr
  have hth := h.th
  have HOK := Lib.hid h
  have HG := Lib.hid (goodG_ok h.gd)
  have hgb1 := HG.out.g1
  have hgb2 := HG.out.g2
  have hpb := HG.out.p1
  simp only [] at hq8 hq2 hp2 htr hth hgb1 hgb2 hpb
  obtain ⟨tr0, tr1⟩ := htr
  obtain ⟨th0, th1⟩ := hth
  clear h
  have HDQ : Hid (∀ s, ∀ y ∈ dealL ⟨p, q, g, k, o, l, m, pt, th, tr, mx, vt, sd⟩ s, 0 ≤ y ∧ y < q) := fun s => dealL_bd (d := ⟨p, q, g, k, o, l, m, pt, th, tr, mx, vt, sd⟩) (by show 0 < q; omega) s
  have HJB : Hid (∀ j n, 0 ≤ jK ⟨p, q, g, k, o, l, m, pt, th, tr, mx, vt, sd⟩ j n ∧ jK ⟨p, q, g, k, o, l, m, pt, th, tr, mx, vt, sd⟩ j n < p) := fun j n => jK_bd (d := ⟨p, q, g, k, o, l, m, pt, th, tr, mx, vt, sd⟩) HG.out j n
  have HPB : Hid (∀ x, 0 ≤ powE ⟨p, q, g⟩ g x ∧ powE ⟨p, q, g⟩ g x < p) := fun x => powE_bd HG.out g x
  obtain ⟨NT, hNT⟩ : ∃ N : Nat, th.toNat = N := ⟨_, rfl⟩
  have hnt : 1 ≤ NT ∧ NT ≤ 4 := by omega
  obtain ⟨nt0, nt1⟩ := hnt
  have HLJ : Hid (∀ n, (jL ⟨p, q, g, k, o, l, m, pt, th, tr, mx, vt, sd⟩ n).length = NT) := fun n => (jL_length _ n).trans hNT
  have HLM : Hid (∀ n j, (jM ⟨p, q, g, k, o, l, m, pt, th, tr, mx, vt, sd⟩ n j).length = NT) := fun n j => (jM_length _ n j).trans hNT
  have HLD : Hid (∀ n, (dealL ⟨p, q, g, k, o, l, m, pt, th, tr, mx, vt, sd⟩ n).length = NT) := fun n => (dealL_length _ n).trans hNT
  have HMN : Hid (∀ n j, j < NT → nth (jM ⟨p, q, g, k, o, l, m, pt, th, tr, mx, vt, sd⟩ n j) j = jK ⟨p, q, g, k, o, l, m, pt, th, tr, mx, vt, sd⟩ j n) := fun n j hk => jM_nth n (by show j < th.toNat; omega)
  have HMS : Hid (∀ n j, j < NT → jM ⟨p, q, g, k, o, l, m, pt, th, tr, mx, vt, sd⟩ n (j + 1) = (jM ⟨p, q, g, k, o, l, m, pt, th, tr, mx, vt, sd⟩ n j).set j (jK ⟨p, q, g, k, o, l, m, pt, th, tr, mx, vt, sd⟩ j (n + 1))) := fun n j hk => jM_succ n (by show j < th.toNat; omega)
  have HM0 : Hid (∀ n, jM ⟨p, q, g, k, o, l, m, pt, th, tr, mx, vt, sd⟩ n 0 = jL ⟨p, q, g, k, o, l, m, pt, th, tr, mx, vt, sd⟩ n) := fun n => jM_zero _ n
  have HMA : Hid (∀ n, jM ⟨p, q, g, k, o, l, m, pt, th, tr, mx, vt, sd⟩ n NT = jL ⟨p, q, g, k, o, l, m, pt, th, tr, mx, vt, sd⟩ (n + 1)) := fun n => by rw [← hNT]; exact jM_all _ n
  have HNT := Lib.hid hNT; clear hNT
  have HID := Lib.hid hi; clear hi
  have hLB : ∀ y ∈ coinL ⟨p, q, g, k, o, l, m, pt, th, tr, mx, vt, sd⟩ sDeal i th.toNat, 0 ≤ y ∧ y < q := fun y hy => by
    obtain ⟨j, _, rfl⟩ := tab_mem hy
    exact coinI_bd (d := ⟨p, q, g, k, o, l, m, pt, th, tr, mx, vt, sd⟩) (by show 0 < q; omega) _ _ _
  have hLL : (coinL ⟨p, q, g, k, o, l, m, pt, th, tr, mx, vt, sd⟩ sDeal i th.toNat).length = NT := (coinL_length _ _ _ _).trans HNT.out
  obtain ⟨W, hW⟩ : ∃ W, W = w.alloc (.cells #[.int .i64 p, .int .i64 q, .int .i64 g, .int .i64 k, .int .i64 o, .int .i64 l, .int .i64 m, .int .i64 pt, .int .i64 th, .int .i64 tr, .int .i64 mx, .int .i64 vt, .int .i64 sd] 33) := ⟨_, rfl⟩
  have HB : Hid (Below w.heap.size w W) := by unfold Hid; rw [hW]; exact (Below.refl _ _).alloc (Nat.le_refl _) _
  have HX : Hid (BoxN W w.heap.size 33 [.int .i64 p, .int .i64 q, .int .i64 g, .int .i64 k, .int .i64 o, .int .i64 l, .int .i64 m, .int .i64 pt, .int .i64 th, .int .i64 tr, .int .i64 mx, .int .i64 vt, .int .i64 sd]) := by unfold Hid; rw [hW]; exact BoxN.new w _ _
  have HSW : Hid (W.heap.size = w.heap.size + 1) := by unfold Hid; rw [hW]; simp
  have HWW := Lib.hid hW; clear hW
  have HO0 : Hid (∀ u B, OwnI u B (.slice none 0 0) []) := fun u B => OwnI.nil u _
  go_enter Try.func180, Try.ntmps180
  go_wp2_with fail
  rw [← HWW.out]
  try rw [← HSW.out]
  clear HWW HSW
  refine (spec_nCoefs p q g k o l m pt th tr mx vt sd i _ HOK.out HID.out).mono ?_
  rintro e w4 ⟨v4, rfl, hO4, hb4⟩
  obtain ⟨L, hL⟩ : ∃ L, coinL ⟨p, q, g, k, o, l, m, pt, th, tr, mx, vt, sd⟩ sDeal i th.toNat = L := ⟨_, rfl⟩
  rw [hL] at hO4 hLB hLL
  have HL := Lib.hid hL
  clear hL
  obtain ⟨a4, c4, rfl⟩ := hO4.shape
  have H4 := Lib.hid hO4.ints
  rw [hLL] at H4 ⊢
  have HLL := Lib.hid hLL
  have HLB := Lib.hid hLB
  clear hLL hLB hO4
  have hs4 := hb4.size
  have HX4 := Lib.hid (HX.out.below hb4)
  have HB4 := Lib.hid hb4; clear hb4
  go_wp2_with fail
  go_loopg [5, 12] NT (fun gg ov kv wr => ∃ c : Nat, c + gg = NT ∧ kv = .int .i64 c ∧ OwnI wr w4.heap.size ov ((L.take c).map fun x => powE ⟨p, q, g⟩ g x) ∧ Below w4.heap.size w4 wr)
  case atStart => exact ⟨0, by omega, rfl, HO0.out _ _, Below.refl _ _⟩
  case round =>
    obtain ⟨c, hkg, rfl, hO, hb⟩ := hrel
    by_cases hlt : c < NT
    · have HK : Hid (c < L.length) := by unfold Hid; rw [HLL.out]; exact hlt
      have HXr := Lib.hid (HX4.out.below hb)
      have i0 := HXr.out.cell (i := 0) rfl
      have i1 := HXr.out.cell (i := 1) rfl
      have i2 := HXr.out.cell (i := 2) rfl
      have i3 := HXr.out.cell (i := 3) rfl
      have i4 := HXr.out.cell (i := 4) rfl
      have i5 := HXr.out.cell (i := 5) rfl
      have i6 := HXr.out.cell (i := 6) rfl
      have i7 := HXr.out.cell (i := 7) rfl
      have i8 := HXr.out.cell (i := 8) rfl
      have i9 := HXr.out.cell (i := 9) rfl
      have i10 := HXr.out.cell (i := 10) rfl
      have i11 := HXr.out.cell (i := 11) rfl
      have i12 := HXr.out.cell (i := 12) rfl
      obtain ⟨bk, oo, rfl, hcx⟩ := (H4.out.below hb).at_ (by omega)
      have hy := hcx c hlt
      have hxb : 0 ≤ nth L c ∧ nth L c < q := by rw [nth_eq HK.out]; exact HLB.out _ (List.getElem_mem _)
      have HS : Hid ((L.take (c + 1)).map (fun x => powE ⟨p, q, g⟩ g x) = (L.take c).map (fun x => powE ⟨p, q, g⟩ g x) ++ [powE ⟨p, q, g⟩ g (nth L c)]) := by unfold Hid; rw [take_succ_nth HK.out, List.map_append]; rfl
      have HLN : Hid (((L.take c).map fun x => powE ⟨p, q, g⟩ g x).length = c) := by unfold Hid; rw [List.length_map, List.length_take]; have := HK.out; omega
      have HPX := HPB.out (nth L c)
      clear hcx
      obtain ⟨x, hx⟩ : ∃ x, nth L c = x := ⟨_, rfl⟩
      rw [hx] at hy hxb HS HPX
      clear hx
      obtain ⟨x0, x1⟩ := hxb
      obtain ⟨y, hyy⟩ : ∃ y, powE ⟨p, q, g⟩ g x = y := ⟨_, rfl⟩
      rw [hyy] at HS HPX
      have HY := Lib.hid hyy; clear hyy
      obtain ⟨y0, y1⟩ := HPX
      obtain ⟨R, hR⟩ : ∃ R, (L.take c).map (fun x => powE ⟨p, q, g⟩ g x) = R := ⟨_, rfl⟩
      rw [hR] at hO HS HLN
      clear hR
      have hwk : IntKind.i64.wrap ((c : Int) + 1) = (c : Int) + 1 := IntWalk.i64_in _ (by omega)
      obtain ⟨ao, co, rfl⟩ := hO.shape
      have hsr := hb.size
      have hlen := HLN.out
      rw [hlen] at hO ⊢
      clear hlen
      have HO := Lib.hid hO
      have HBR := Lib.hid hb
      clear hb hO
      go_wp2_with fail
      refine (spec_gExp ⟨p, q, g⟩ g x _ HG.out ⟨by omega, by omega⟩ ⟨by omega, by omega⟩).mono ?_
      rintro e w5 ⟨rfl, hb5⟩
      rw [HY.out]
      have hs5 := hb5.size
      have HO5 := Lib.hid (HO.out.below hb5)
      have HB5 := Lib.hid (HBR.out.trans (hb5.mono hsr))
      clear hb5 HO i0 i1 i2 i3 i4 i5 i6 i7 i8 i9 i10 i11 i12 hy
      go_wp2_with (at_builtin; refine wpList_append_ints rfl _ _ rfl w4.heap.size _ _ R [y] rfl (HO5.out.alloc _) rfl (Ints.lit1 _ ⟨by omega, by omega⟩) (by rw [HLN.out]; simp; omega) (by simp; omega) ?_; intro v6 w6 hown6 hgr6)
      have hb6 : Below w4.heap.size w4 w6 := (HB5.out.alloc (by omega) _).trans ((HO5.out.alloc _).grown hgr6 (by simp; omega))
      go_roundg (NT - (c + 1))
      case measure => omega
      case rel => exact ⟨c + 1, by omega, by go_num, by rw [HS.out]; exact hown6, hb6⟩
    · obtain rfl : c = NT := by omega
      have HR : Hid (L.take c = L) := List.take_of_length_le (by rw [HLL.out]; exact Nat.le_refl _)
      rw [HR.out] at hO
      have HO := Lib.hid hO
      have HBR := Lib.hid hb
      clear hO hb
      go_wp2_with fail
      go_ret
      rw [HL.out]
      exact ⟨_, rfl, HO.out.mono (Nat.le_trans HB.out.size hs4), (Below.next HB.out HB4.out).trans (HBR.out.mono (Nat.le_trans HB.out.size hs4))⟩
set_option maxRecDepth 100000 in
set_option maxHeartbeats 8000000 in
theorem impl_commits (p q g k o l m pt th tr mx vt sd : Int) (w : World) (h : OkPl ⟨p, q, g, k, o, l, m, pt, th, tr, mx, vt, sd⟩) :
    Calls Try.prog 88 #[.agg #[.int .i64 p, .int .i64 q, .int .i64 g, .int .i64 k, .int .i64 o, .int .i64 l, .int .i64 m, .int .i64 pt, .int .i64 th, .int .i64 tr, .int .i64 mx, .int .i64 vt, .int .i64 sd]] w fun e w' => ∃ v', e = .returned v' ∧ OwnI w' w.heap.size v' (jL ⟨p, q, g, k, o, l, m, pt, th, tr, mx, vt, sd⟩ tr.toNat) ∧ Below w.heap.size w w' := by
  have hq8 := h.q8
  obtain ⟨hq2, hp2⟩ := h.q2
  have htr := h.tr
  have hth := h.th
  have HOK := Lib.hid h
  have HG := Lib.hid (goodG_ok h.gd)
  have hgb1 := HG.out.g1
  have hgb2 := HG.out.g2
  have hpb := HG.out.p1
  simp only [] at hq8 hq2 hp2 htr hth hgb1 hgb2 hpb
  obtain ⟨tr0, tr1⟩ := htr
  obtain ⟨th0, th1⟩ := hth
  clear h
  have HDQ : Hid (∀ s, ∀ y ∈ dealL ⟨p, q, g, k, o, l, m, pt, th, tr, mx, vt, sd⟩ s, 0 ≤ y ∧ y < q) := fun s => dealL_bd (d := ⟨p, q, g, k, o, l, m, pt, th, tr, mx, vt, sd⟩) (by show 0 < q; omega) s
  have HJB : Hid (∀ j n, 0 ≤ jK ⟨p, q, g, k, o, l, m, pt, th, tr, mx, vt, sd⟩ j n ∧ jK ⟨p, q, g, k, o, l, m, pt, th, tr, mx, vt, sd⟩ j n < p) := fun j n => jK_bd (d := ⟨p, q, g, k, o, l, m, pt, th, tr, mx, vt, sd⟩) HG.out j n
  have HPB : Hid (∀ x, 0 ≤ powE ⟨p, q, g⟩ g x ∧ powE ⟨p, q, g⟩ g x < p) := fun x => powE_bd HG.out g x
  obtain ⟨NT, hNT⟩ : ∃ N : Nat, th.toNat = N := ⟨_, rfl⟩
  have hnt : 1 ≤ NT ∧ NT ≤ 4 := by omega
  obtain ⟨nt0, nt1⟩ := hnt
  have HLJ : Hid (∀ n, (jL ⟨p, q, g, k, o, l, m, pt, th, tr, mx, vt, sd⟩ n).length = NT) := fun n => (jL_length _ n).trans hNT
  have HLM : Hid (∀ n j, (jM ⟨p, q, g, k, o, l, m, pt, th, tr, mx, vt, sd⟩ n j).length = NT) := fun n j => (jM_length _ n j).trans hNT
  have HLD : Hid (∀ n, (dealL ⟨p, q, g, k, o, l, m, pt, th, tr, mx, vt, sd⟩ n).length = NT) := fun n => (dealL_length _ n).trans hNT
  have HMN : Hid (∀ n j, j < NT → nth (jM ⟨p, q, g, k, o, l, m, pt, th, tr, mx, vt, sd⟩ n j) j = jK ⟨p, q, g, k, o, l, m, pt, th, tr, mx, vt, sd⟩ j n) := fun n j hk => jM_nth n (by show j < th.toNat; omega)
  have HMS : Hid (∀ n j, j < NT → jM ⟨p, q, g, k, o, l, m, pt, th, tr, mx, vt, sd⟩ n (j + 1) = (jM ⟨p, q, g, k, o, l, m, pt, th, tr, mx, vt, sd⟩ n j).set j (jK ⟨p, q, g, k, o, l, m, pt, th, tr, mx, vt, sd⟩ j (n + 1))) := fun n j hk => jM_succ n (by show j < th.toNat; omega)
  have HM0 : Hid (∀ n, jM ⟨p, q, g, k, o, l, m, pt, th, tr, mx, vt, sd⟩ n 0 = jL ⟨p, q, g, k, o, l, m, pt, th, tr, mx, vt, sd⟩ n) := fun n => jM_zero _ n
  have HMA : Hid (∀ n, jM ⟨p, q, g, k, o, l, m, pt, th, tr, mx, vt, sd⟩ n NT = jL ⟨p, q, g, k, o, l, m, pt, th, tr, mx, vt, sd⟩ (n + 1)) := fun n => by rw [← hNT]; exact jM_all _ n
  have HNT := Lib.hid hNT; clear hNT
  have HJ0 : Hid (List.replicate th.toNat 1 = jL ⟨p, q, g, k, o, l, m, pt, th, tr, mx, vt, sd⟩ 0) := (jL_zero ⟨p, q, g, k, o, l, m, pt, th, tr, mx, vt, sd⟩).symm
  have HDL : Hid (∀ c : Nat, coinL ⟨p, q, g, k, o, l, m, pt, th, tr, mx, vt, sd⟩ sDeal ((c : Int) + 1) th.toNat = dealL ⟨p, q, g, k, o, l, m, pt, th, tr, mx, vt, sd⟩ (c + 1)) := fun c => by unfold dealL; rw [show ((c + 1 : Nat) : Int) = (c : Int) + 1 by omega]
  have HJS : Hid (∀ j n, jK ⟨p, q, g, k, o, l, m, pt, th, tr, mx, vt, sd⟩ j (n + 1) = mulL ⟨p, q, g⟩ [jK ⟨p, q, g, k, o, l, m, pt, th, tr, mx, vt, sd⟩ j n, powE ⟨p, q, g⟩ g (nth (dealL ⟨p, q, g, k, o, l, m, pt, th, tr, mx, vt, sd⟩ (n + 1)) j)]) := fun _ _ => rfl
  obtain ⟨W, hW⟩ : ∃ W, W = w.alloc (.cells #[.int .i64 p, .int .i64 q, .int .i64 g, .int .i64 k, .int .i64 o, .int .i64 l, .int .i64 m, .int .i64 pt, .int .i64 th, .int .i64 tr, .int .i64 mx, .int .i64 vt, .int .i64 sd] 33) := ⟨_, rfl⟩
  have HB : Hid (Below w.heap.size w W) := by unfold Hid; rw [hW]; exact (Below.refl _ _).alloc (Nat.le_refl _) _
  have HX : Hid (BoxN W w.heap.size 33 [.int .i64 p, .int .i64 q, .int .i64 g, .int .i64 k, .int .i64 o, .int .i64 l, .int .i64 m, .int .i64 pt, .int .i64 th, .int .i64 tr, .int .i64 mx, .int .i64 vt, .int .i64 sd]) := by unfold Hid; rw [hW]; exact BoxN.new w _ _
  have HSW : Hid (W.heap.size = w.heap.size + 1) := by unfold Hid; rw [hW]; simp
  have HWW := Lib.hid hW; clear hW
  go_enter Try.func88, Try.ntmps88
  go_wp2_with fail
  rw [← HWW.out]
  try rw [← HSW.out]
  clear HWW HSW
  refine (slices_Repeat1 _ th _ (Ints.lit1 _ ⟨by decide, by decide⟩) ⟨by omega, by omega⟩).mono ?_
  rintro e w1 ⟨v1, rfl, hO1, hb1⟩
  rw [HJ0.out] at hO1
  replace hO1 := hO1.mono (B' := W.heap.size) (by simp)
  have HB1 : Hid (Below W.heap.size W w1) := Below.next ((Below.refl _ _).alloc (Nat.le_refl _) _) hb1
  clear hb1
  obtain ⟨ao, co, rfl⟩ := hO1.shape
  obtain ⟨g0, rfl, hgB, hml, _⟩ := hO1.at_ (by rw [HLJ.out]; omega)
  rw [HLJ.out] at hO1 ⊢
  clear hml
  have HGB := Lib.hid hgB; clear hgB
  have HO1 := Lib.hid hO1; clear hO1
  go_wp2_with fail
  go_loopg [4] tr.toNat (fun gg tv wr => ∃ c : Nat, c + gg = tr.toNat ∧ tv = .int .i64 ((c : Int) + 1) ∧ Hid (OwnI wr W.heap.size (.slice (some ⟨g0, 0, none⟩) NT co) (jL ⟨p, q, g, k, o, l, m, pt, th, tr, mx, vt, sd⟩ c)) ∧ Hid (Below W.heap.size W wr))
  case atStart => exact ⟨0, by omega, rfl, HO1, HB1⟩
  case round =>
    obtain ⟨c, hcg, rfl, HOR, HBR⟩ := hrel
    obtain ⟨wA, rfl⟩ : ∃ u, u = wr := ⟨_, rfl⟩
    have HXr := Lib.hid (HX.out.below HBR.out)
    have i0 := HXr.out.cell (i := 0) rfl
    have i1 := HXr.out.cell (i := 1) rfl
    have i2 := HXr.out.cell (i := 2) rfl
    have i3 := HXr.out.cell (i := 3) rfl
    have i4 := HXr.out.cell (i := 4) rfl
    have i5 := HXr.out.cell (i := 5) rfl
    have i6 := HXr.out.cell (i := 6) rfl
    have i7 := HXr.out.cell (i := 7) rfl
    have i8 := HXr.out.cell (i := 8) rfl
    have i9 := HXr.out.cell (i := 9) rfl
    have i10 := HXr.out.cell (i := 10) rfl
    have i11 := HXr.out.cell (i := 11) rfl
    have i12 := HXr.out.cell (i := 12) rfl
    by_cases hlt : c < tr.toNat
    · have hle : (c : Int) + 1 ≤ tr := by omega
      have ewc : IntKind.i64.wrap ((c : Int) + 1 + 1) = (c : Int) + 1 + 1 := IntWalk.i64_in _ (by omega)
      have HKD := Lib.hid (digest_sm (i := (c : Int) + 1) (by omega) (by omega))
      have HDC := Lib.hid (HDL.out c)
      have hgA : g0 < wA.heap.size := (HOR.out.lt g0 rfl).2
      go_wp2_with fail
      refine (impl_coinsI p q g k o l m pt th tr mx vt sd sDeal ((c : Int) + 1) th _ HOK.out sDeal_size HKD.out ⟨by omega, by omega⟩).mono ?_
      rintro e w4 ⟨v4, rfl, hO4, hb4⟩
      rw [HDC.out] at hO4
      have hLB := HDQ.out (c + 1)
      have hLL := HLD.out (c + 1)
      have hJS : ∀ j, jK ⟨p, q, g, k, o, l, m, pt, th, tr, mx, vt, sd⟩ j (c + 1) = mulL ⟨p, q, g⟩ [jK ⟨p, q, g, k, o, l, m, pt, th, tr, mx, vt, sd⟩ j c, powE ⟨p, q, g⟩ g (nth (dealL ⟨p, q, g, k, o, l, m, pt, th, tr, mx, vt, sd⟩ (c + 1)) j)] := fun j => HJS.out j c
      obtain ⟨L, hL⟩ : ∃ L, dealL ⟨p, q, g, k, o, l, m, pt, th, tr, mx, vt, sd⟩ (c + 1) = L := ⟨_, rfl⟩
      rw [hL] at hO4 hLB hLL hJS
      have HJC := Lib.hid hJS
      clear hL hJS HDC
      obtain ⟨a4, c4, rfl⟩ := hO4.shape
      rw [hLL] at hO4 ⊢
      have HLL := Lib.hid hLL
      have HLB := Lib.hid hLB
      clear hLL hLB
      have hI4 := InI.of_own hO4
      have HI4 := Lib.hid hI4
      have HO4 : Hid (OwnI w4 W.heap.size (.slice (some ⟨g0, 0, none⟩) NT co) (jM ⟨p, q, g, k, o, l, m, pt, th, tr, mx, vt, sd⟩ c 0)) := by unfold Hid; rw [HM0.out]; exact HOR.out.below hb4
      have HB4 := Lib.hid (HBR.out.trans (hb4.mono HBR.out.size))
      have hs4 := hb4.size
      clear hb4 hO4 hI4 HOR
      clear i0 i1 i2 i3 i4 i5 i6 i7 i8 i9 i10 i11 i12
      go_wp2_with fail
      go_loopg [23] NT (fun gg kv wr => ∃ k' : Nat, k' + gg = NT ∧ kv = .int .i64 k' ∧ Hid (OwnI wr W.heap.size (.slice (some ⟨g0, 0, none⟩) NT co) (jM ⟨p, q, g, k, o, l, m, pt, th, tr, mx, vt, sd⟩ c k')) ∧ Hid (InI wr wA.heap.size w4.heap.size (.slice a4 NT c4) L) ∧ Hid (Below W.heap.size W wr) ∧ w4.heap.size ≤ wr.heap.size)
      case atStart => exact ⟨0, by omega, rfl, HO4, HI4, HB4, Nat.le_refl _⟩
      case round =>
        obtain ⟨k', hkg, rfl, HO5, HI5, HB5, hs5⟩ := hrel
        clear HO4 HI4 HB4
        obtain ⟨wB, rfl⟩ : ∃ u, u = wr := ⟨_, rfl⟩
        by_cases hlt : k' < NT
        · skip
          have HKK : Hid (k' < NT) := hlt
          have HXr := Lib.hid (HX.out.below HB5.out)
          have i0 := HXr.out.cell (i := 0) rfl
          have i1 := HXr.out.cell (i := 1) rfl
          have i2 := HXr.out.cell (i := 2) rfl
          have i3 := HXr.out.cell (i := 3) rfl
          have i4 := HXr.out.cell (i := 4) rfl
          have i5 := HXr.out.cell (i := 5) rfl
          have i6 := HXr.out.cell (i := 6) rfl
          have i7 := HXr.out.cell (i := 7) rfl
          have i8 := HXr.out.cell (i := 8) rfl
          have i9 := HXr.out.cell (i := 9) rfl
          have i10 := HXr.out.cell (i := 10) rfl
          have i11 := HXr.out.cell (i := 11) rfl
          have i12 := HXr.out.cell (i := 12) rfl
          obtain ⟨bk, oo, rfl, hcx⟩ := HI5.out.reads.at_ (by omega)
          have hy := hcx k' hlt
          have hzz := HO5.out.at_ (by rw [HLM.out]; omega)
          obtain ⟨g1, hg1, _, _, hcz⟩ := hzz
          obtain ⟨hz, _⟩ := hcz k' hlt
          cases hg1
          rw [HMN.out _ _ hlt] at hz
          have HSU := Lib.hid (HMS.out c k' hlt)
          have hub := HJB.out k' c
          have huc := HJB.out k' (c + 1)
          clear hcx hcz
          have HK : Hid (k' < L.length) := by unfold Hid; rw [HLL.out]; exact hlt
          have hxb : 0 ≤ nth L k' ∧ nth L k' < q := by rw [nth_eq HK.out]; exact HLB.out _ (List.getElem_mem _)
          have hjs := HJC.out k'
          have hpx := HPB.out (nth L k')
          obtain ⟨x, hx⟩ : ∃ x, nth L k' = x := ⟨_, rfl⟩
          rw [hx] at hy hxb hjs hpx
          clear hx
          obtain ⟨x0, x1⟩ := hxb
          obtain ⟨y, hyy⟩ : ∃ y, powE ⟨p, q, g⟩ g x = y := ⟨_, rfl⟩
          rw [hyy] at hjs hpx
          have HY := Lib.hid hyy; clear hyy
          obtain ⟨y0, y1⟩ := hpx
          obtain ⟨u, hu⟩ : ∃ u, jK ⟨p, q, g, k, o, l, m, pt, th, tr, mx, vt, sd⟩ k' c = u := ⟨_, rfl⟩
          rw [hu] at hz hjs hub
          clear hu
          obtain ⟨u0, u1⟩ := hub
          obtain ⟨zz, hzq⟩ : ∃ z, jK ⟨p, q, g, k, o, l, m, pt, th, tr, mx, vt, sd⟩ k' (c + 1) = z := ⟨_, rfl⟩
          rw [hzq] at hjs huc HSU
          clear hzq
          have HZ := Lib.hid hjs; clear hjs
          obtain ⟨z0, z1⟩ := huc
          have hwk : IntKind.i64.wrap ((k' : Int) + 1) = (k' : Int) + 1 := IntWalk.i64_in _ (by omega)
          have k0 : (0 : Int) ≤ (k' : Int) := by omega
          have k1 : (k' : Int) < (NT : Int) := by omega
          go_wp2_with fail
          refine wp_region_noPanic ?_
          refine wp_region_take (fun w' => Below wB.heap.size wB w' ∧ w'.cell? ⟨g0, k', none⟩ = some (.int .i64 u) ∧ w'.cell? ⟨w.heap.size, 0, none⟩ = some (.int .i64 p) ∧ w'.cell? ⟨w.heap.size, 1, none⟩ = some (.int .i64 q) ∧ w'.cell? ⟨w.heap.size, 2, none⟩ = some (.int .i64 g) ∧ w'.cell? ⟨w.heap.size, 3, none⟩ = some (.int .i64 k) ∧ w'.cell? ⟨w.heap.size, 4, none⟩ = some (.int .i64 o) ∧ w'.cell? ⟨w.heap.size, 5, none⟩ = some (.int .i64 l) ∧ w'.cell? ⟨w.heap.size, 6, none⟩ = some (.int .i64 m) ∧ w'.cell? ⟨w.heap.size, 7, none⟩ = some (.int .i64 pt) ∧ w'.cell? ⟨w.heap.size, 8, none⟩ = some (.int .i64 th) ∧ w'.cell? ⟨w.heap.size, 9, none⟩ = some (.int .i64 tr) ∧ w'.cell? ⟨w.heap.size, 10, none⟩ = some (.int .i64 mx) ∧ w'.cell? ⟨w.heap.size, 11, none⟩ = some (.int .i64 vt) ∧ w'.cell? ⟨w.heap.size, 12, none⟩ = some (.int .i64 sd)) 20 [(true, 0), (true, 1), (true, 2), (true, 3), (true, 4), (true, 5), (true, 6), (true, 7), (true, 8), (true, 9), (true, 10), (true, 11), (true, 12), (true, 13), (false, 14), (false, 15), (false, 16)] [17, 18] (by kernel_rfl) (by kernel_rfl) rfl (fun _ _ _ _ _ h => h) ⟨(Below.refl _ _).drew, hz, i0, i1, i2, i3, i4, i5, i6, i7, i8, i9, i10, i11, i12⟩ ?_
          simp only [pickL, pickN, List.getElem?_cons_zero, List.getElem?_cons_succ]
          have hbz : Below wB.heap.size wB wB.drew := (Below.refl _ _).drew
          repeat (refine' wpTake_read _ (by rfl) (fun w' hS' => ?_) ?_; rotate_left; · ((try dsimp only at hS'); go_simp; (try with_reducible rfl)); (try simp only [Act.put, List.setIfInBounds_toArray, List.set_cons_zero, List.set_cons_succ]))
          refine wpTake_do (by rfl) (fun K hK => ?_)
          go_simp
          go_at_call 147
          refine (impl_pow ⟨p, q, g⟩ g x _ HG.out ⟨by omega, by omega⟩ ⟨by omega, by omega⟩).mono ?_
          rintro e w6 ⟨rfl, hb6⟩
          rw [HY.out]
          have hbb := keep_b hb6 hbz
          refine hK.out _ _ ⟨hbb, box_at hz hbb, box_at i0 hbb, box_at i1 hbb, box_at i2 hbb, box_at i3 hbb, box_at i4 hbb, box_at i5 hbb, box_at i6 hbb, box_at i7 hbb, box_at i8 hbb, box_at i9 hbb, box_at i10 hbb, box_at i11 hbb, box_at i12 hbb⟩ (fun _ => ?_)
          clear hK K hb6 hbz
          try simp only [Act.put, List.setIfInBounds_toArray, List.set_cons_zero, List.set_cons_succ]
          refine wpTake_do (by rfl) (fun K hK => ?_)
          go_simp
          have hbc : Below wB.heap.size wB (w6.alloc (.cells #[.int .i64 u, .int .i64 y] 3)) := hbb.alloc hbb.size _
          refine hK.out _ _ ⟨hbc, box_at hz hbc, box_at i0 hbc, box_at i1 hbc, box_at i2 hbc, box_at i3 hbc, box_at i4 hbc, box_at i5 hbc, box_at i6 hbc, box_at i7 hbc, box_at i8 hbc, box_at i9 hbc, box_at i10 hbc, box_at i11 hbc, box_at i12 hbc⟩ (fun _ => ?_)
          clear hK K hbb
          try simp only [Act.put, List.setIfInBounds_toArray, List.set_cons_zero, List.set_cons_succ]
          refine wpTake_do (by rfl) (fun K hK => ?_)
          go_simp
          go_at_call 148
          refine (impl_mul ⟨p, q, g⟩ _ [u, y] _ HG.out (Ints.lit2 _ ⟨by omega, by omega⟩ ⟨by omega, by omega⟩) (small2 ⟨by omega, by omega⟩ ⟨by omega, by omega⟩)).mono ?_
          rintro e w7 ⟨rfl, hb7⟩
          rw [← HZ.out]
          have hbd := keep_b hb7 hbc
          refine hK.out _ _ ⟨hbd, box_at hz hbd, box_at i0 hbd, box_at i1 hbd, box_at i2 hbd, box_at i3 hbd, box_at i4 hbd, box_at i5 hbd, box_at i6 hbd, box_at i7 hbd, box_at i8 hbd, box_at i9 hbd, box_at i10 hbd, box_at i11 hbd, box_at i12 hbd⟩ (fun _ => ?_)
          clear hK K hb7 hbc
          try simp only [Act.put, List.setIfInBounds_toArray, List.set_cons_zero, List.set_cons_succ]
          refine wpTake_nil ?_
          have HO7 := Lib.hid (HO5.out.below hbd)
          have HI7 := Lib.hid (HI5.out.next hbd)
          have HB7 := Lib.hid (HB5.out.trans (hbd.mono HB5.out.size))
          have hs7 := hbd.size
          have hzz := HO7.out.at_ (by rw [HLM.out]; omega)
          obtain ⟨g1, hg1, _, _, hcz⟩ := hzz
          obtain ⟨hz7, hf7⟩ := hcz k' hlt
          cases hg1
          clear hbd hcz hz
          clear i0 i1 i2 i3 i4 i5 i6 i7 i8 i9 i10 i11 i12
          have hst := HO7.out.stored (HLM.out _ _) k' (x := zz) ⟨by omega, by omega⟩
          have HT := Lib.hid hst.1
          clear hst
          rw [← HSU.out] at HT
          go_wp2_with fail
          refine NoPanic.normal ?_
          have HI8 := Lib.hid (HI7.out.kept (((Within.refl g0 (g0 + 1) w7).setCell (Nat.le_refl _) (Nat.lt_succ_self _) k' (.int .i64 zz))) (.inr (by omega)))
          have HB8 : Hid (Below W.heap.size W (w7.setCell ⟨g0, k', none⟩ (.int .i64 zz))) := HB7.out.setCell (by have := HGB.out; show W.heap.size ≤ g0; omega) _
          clear hz7 hf7 k0 k1
          go_wp2_with fail
          go_roundg (NT - (k' + 1))
          case measure => omega
          case rel => exact ⟨k' + 1, by omega, by go_num, HT, HI8, HB8, by simp; omega⟩
        · obtain rfl : k' = NT := by omega
          rw [HMA.out] at HO5
          go_wp2_with fail
          go_roundg (tr.toNat - (c + 1))
          case measure => omega
          case rel => exact ⟨c + 1, by omega, by go_num, HO5, HB5⟩
    · obtain rfl : c = tr.toNat := by omega
      have hle : ¬ (tr.toNat : Int) + 1 ≤ tr := by omega
      go_wp2_with fail
      go_ret
      exact ⟨_, rfl, HOR.out.mono HB.out.size, Below.next HB.out HBR.out⟩
set_option maxRecDepth 100000 in
set_option maxHeartbeats 8000000 in
theorem spec_nJoint (p q g k o l m pt th tr mx vt sd : Int) (w : World) (h : OkPl ⟨p, q, g, k, o, l, m, pt, th, tr, mx, vt, sd⟩) :
    Calls Try.prog 87 #[.agg #[.int .i64 p, .int .i64 q, .int .i64 g, .int .i64 k, .int .i64 o, .int .i64 l, .int .i64 m, .int .i64 pt, .int .i64 th, .int .i64 tr, .int .i64 mx, .int .i64 vt, .int .i64 sd]] w fun e w' => ∃ v', e = .returned v' ∧ OwnI w' w.heap.size v' (jL ⟨p, q, g, k, o, l, m, pt, th, tr, mx, vt, sd⟩ tr.toNat) ∧ Below w.heap.size w w' := by
  have hq8 := h.q8
  obtain ⟨hq2, hp2⟩ := h.q2
  have htr := h.tr
  have hth := h.th
  have HOK := Lib.hid h
  have HG := Lib.hid (goodG_ok h.gd)
  have hgb1 := HG.out.g1
  have hgb2 := HG.out.g2
  have hpb := HG.out.p1
  simp only [] at hq8 hq2 hp2 htr hth hgb1 hgb2 hpb
  obtain ⟨tr0, tr1⟩ := htr
  obtain ⟨th0, th1⟩ := hth
  clear h
  have HDQ : Hid (∀ s, ∀ y ∈ dealL ⟨p, q, g, k, o, l, m, pt, th, tr, mx, vt, sd⟩ s, 0 ≤ y ∧ y < q) := fun s => dealL_bd (d := ⟨p, q, g, k, o, l, m, pt, th, tr, mx, vt, sd⟩) (by show 0 < q; omega) s
  have HJB : Hid (∀ j n, 0 ≤ jK ⟨p, q, g, k, o, l, m, pt, th, tr, mx, vt, sd⟩ j n ∧ jK ⟨p, q, g, k, o, l, m, pt, th, tr, mx, vt, sd⟩ j n < p) := fun j n => jK_bd (d := ⟨p, q, g, k, o, l, m, pt, th, tr, mx, vt, sd⟩) HG.out j n
  have HPB : Hid (∀ x, 0 ≤ powE ⟨p, q, g⟩ g x ∧ powE ⟨p, q, g⟩ g x < p) := fun x => powE_bd HG.out g x
  obtain ⟨NT, hNT⟩ : ∃ N : Nat, th.toNat = N := ⟨_, rfl⟩
  have hnt : 1 ≤ NT ∧ NT ≤ 4 := by omega
  obtain ⟨nt0, nt1⟩ := hnt
  have HLJ : Hid (∀ n, (jL ⟨p, q, g, k, o, l, m, pt, th, tr, mx, vt, sd⟩ n).length = NT) := fun n => (jL_length _ n).trans hNT
  have HLM : Hid (∀ n j, (jM ⟨p, q, g, k, o, l, m, pt, th, tr, mx, vt, sd⟩ n j).length = NT) := fun n j => (jM_length _ n j).trans hNT
  have HLD : Hid (∀ n, (dealL ⟨p, q, g, k, o, l, m, pt, th, tr, mx, vt, sd⟩ n).length = NT) := fun n => (dealL_length _ n).trans hNT
  have HMN : Hid (∀ n j, j < NT → nth (jM ⟨p, q, g, k, o, l, m, pt, th, tr, mx, vt, sd⟩ n j) j = jK ⟨p, q, g, k, o, l, m, pt, th, tr, mx, vt, sd⟩ j n) := fun n j hk => jM_nth n (by show j < th.toNat; omega)
  have HMS : Hid (∀ n j, j < NT → jM ⟨p, q, g, k, o, l, m, pt, th, tr, mx, vt, sd⟩ n (j + 1) = (jM ⟨p, q, g, k, o, l, m, pt, th, tr, mx, vt, sd⟩ n j).set j (jK ⟨p, q, g, k, o, l, m, pt, th, tr, mx, vt, sd⟩ j (n + 1))) := fun n j hk => jM_succ n (by show j < th.toNat; omega)
  have HM0 : Hid (∀ n, jM ⟨p, q, g, k, o, l, m, pt, th, tr, mx, vt, sd⟩ n 0 = jL ⟨p, q, g, k, o, l, m, pt, th, tr, mx, vt, sd⟩ n) := fun n => jM_zero _ n
  have HMA : Hid (∀ n, jM ⟨p, q, g, k, o, l, m, pt, th, tr, mx, vt, sd⟩ n NT = jL ⟨p, q, g, k, o, l, m, pt, th, tr, mx, vt, sd⟩ (n + 1)) := fun n => by rw [← hNT]; exact jM_all _ n
  have HNT := Lib.hid hNT; clear hNT
  have HJ0 : Hid (((coinL ⟨p, q, g, k, o, l, m, pt, th, tr, mx, vt, sd⟩ sDeal 1 th.toNat).map fun x => powE ⟨p, q, g⟩ g x) = jL ⟨p, q, g, k, o, l, m, pt, th, tr, mx, vt, sd⟩ 1) := (jL_one (d := ⟨p, q, g, k, o, l, m, pt, th, tr, mx, vt, sd⟩) HG.out).symm
  have HDL : Hid (∀ c : Nat, coinL ⟨p, q, g, k, o, l, m, pt, th, tr, mx, vt, sd⟩ sDeal ((c : Int) + 2) th.toNat = dealL ⟨p, q, g, k, o, l, m, pt, th, tr, mx, vt, sd⟩ (c + 1 + 1)) := fun c => by unfold dealL; rw [show ((c + 1 + 1 : Nat) : Int) = (c : Int) + 2 by omega]
  have HJS : Hid (∀ j n, jK ⟨p, q, g, k, o, l, m, pt, th, tr, mx, vt, sd⟩ j (n + 1) = mulL ⟨p, q, g⟩ [jK ⟨p, q, g, k, o, l, m, pt, th, tr, mx, vt, sd⟩ j n, powE ⟨p, q, g⟩ g (nth (dealL ⟨p, q, g, k, o, l, m, pt, th, tr, mx, vt, sd⟩ (n + 1)) j)]) := fun _ _ => rfl
  obtain ⟨W, hW⟩ : ∃ W, W = w.alloc (.cells #[.int .i64 p, .int .i64 q, .int .i64 g, .int .i64 k, .int .i64 o, .int .i64 l, .int .i64 m, .int .i64 pt, .int .i64 th, .int .i64 tr, .int .i64 mx, .int .i64 vt, .int .i64 sd] 33) := ⟨_, rfl⟩
  have HB : Hid (Below w.heap.size w W) := by unfold Hid; rw [hW]; exact (Below.refl _ _).alloc (Nat.le_refl _) _
  have HX : Hid (BoxN W w.heap.size 33 [.int .i64 p, .int .i64 q, .int .i64 g, .int .i64 k, .int .i64 o, .int .i64 l, .int .i64 m, .int .i64 pt, .int .i64 th, .int .i64 tr, .int .i64 mx, .int .i64 vt, .int .i64 sd]) := by unfold Hid; rw [hW]; exact BoxN.new w _ _
  have HSW : Hid (W.heap.size = w.heap.size + 1) := by unfold Hid; rw [hW]; simp
  have HWW := Lib.hid hW; clear hW
  go_enter Try.func87, Try.ntmps87
  go_wp2_with fail
  rw [← HWW.out]
  try rw [← HSW.out]
  clear HWW HSW
  refine (spec_nDealt p q g k o l m pt th tr mx vt sd 1 _ HOK.out (by decide)).mono ?_
  rintro e w1 ⟨v1, rfl, hO1, hb1⟩
  rw [HJ0.out] at hO1
  have HB1 : Hid (Below W.heap.size W w1) := hb1
  clear hb1
  obtain ⟨ao, co, rfl⟩ := hO1.shape
  obtain ⟨g0, rfl, hgB, hml, _⟩ := hO1.at_ (by rw [HLJ.out]; omega)
  rw [HLJ.out] at hO1 ⊢
  clear hml
  have HGB := Lib.hid hgB; clear hgB
  have HO1 := Lib.hid hO1; clear hO1
  go_wp2_with fail
  go_loopg [4] (tr.toNat - 1) (fun gg tv wr => ∃ c : Nat, c + gg = tr.toNat - 1 ∧ tv = .int .i64 ((c : Int) + 2) ∧ Hid (OwnI wr W.heap.size (.slice (some ⟨g0, 0, none⟩) NT co) (jL ⟨p, q, g, k, o, l, m, pt, th, tr, mx, vt, sd⟩ (c + 1))) ∧ Hid (Below W.heap.size W wr))
  case atStart => exact ⟨0, by omega, rfl, HO1, HB1⟩
  case round =>
    obtain ⟨c, hcg, rfl, HOR, HBR⟩ := hrel
    obtain ⟨wA, rfl⟩ : ∃ u, u = wr := ⟨_, rfl⟩
    have HXr := Lib.hid (HX.out.below HBR.out)
    have i0 := HXr.out.cell (i := 0) rfl
    have i1 := HXr.out.cell (i := 1) rfl
    have i2 := HXr.out.cell (i := 2) rfl
    have i3 := HXr.out.cell (i := 3) rfl
    have i4 := HXr.out.cell (i := 4) rfl
    have i5 := HXr.out.cell (i := 5) rfl
    have i6 := HXr.out.cell (i := 6) rfl
    have i7 := HXr.out.cell (i := 7) rfl
    have i8 := HXr.out.cell (i := 8) rfl
    have i9 := HXr.out.cell (i := 9) rfl
    have i10 := HXr.out.cell (i := 10) rfl
    have i11 := HXr.out.cell (i := 11) rfl
    have i12 := HXr.out.cell (i := 12) rfl
    by_cases hlt : c < tr.toNat - 1
    · have hle : (c : Int) + 2 ≤ tr := by omega
      have ewc : IntKind.i64.wrap ((c : Int) + 2 + 1) = (c : Int) + 2 + 1 := IntWalk.i64_in _ (by omega)
      have HKD := Lib.hid (digest_sm (i := (c : Int) + 2) (by omega) (by omega))
      have HDC := Lib.hid (HDL.out c)
      have hgA : g0 < wA.heap.size := (HOR.out.lt g0 rfl).2
      go_wp2_with fail
      refine (spec_nDealt p q g k o l m pt th tr mx vt sd ((c : Int) + 2) _ HOK.out HKD.out).mono ?_
      rintro e w4 ⟨v4, rfl, hO4, hb4⟩
      rw [HDC.out] at hO4
      have hLL : ((dealL ⟨p, q, g, k, o, l, m, pt, th, tr, mx, vt, sd⟩ (c + 1 + 1)).map fun x => powE ⟨p, q, g⟩ g x).length = NT := by rw [List.length_map]; exact HLD.out (c + 1 + 1)
      have hLB : ∀ j, j < NT → 0 ≤ nth ((dealL ⟨p, q, g, k, o, l, m, pt, th, tr, mx, vt, sd⟩ (c + 1 + 1)).map fun x => powE ⟨p, q, g⟩ g x) j ∧ nth ((dealL ⟨p, q, g, k, o, l, m, pt, th, tr, mx, vt, sd⟩ (c + 1 + 1)).map fun x => powE ⟨p, q, g⟩ g x) j < p := fun j hj => by
        rw [nth_eq (by rw [hLL]; exact hj), List.getElem_map]; exact HPB.out _
      have hJS : ∀ j, j < NT → jK ⟨p, q, g, k, o, l, m, pt, th, tr, mx, vt, sd⟩ j (c + 1 + 1) = mulL ⟨p, q, g⟩ [jK ⟨p, q, g, k, o, l, m, pt, th, tr, mx, vt, sd⟩ j (c + 1), nth ((dealL ⟨p, q, g, k, o, l, m, pt, th, tr, mx, vt, sd⟩ (c + 1 + 1)).map fun x => powE ⟨p, q, g⟩ g x) j] := fun j hj => by
        rw [HJS.out j (c + 1), nth_eq (l := (dealL ⟨p, q, g, k, o, l, m, pt, th, tr, mx, vt, sd⟩ (c + 1 + 1)).map _) (by rw [hLL]; exact hj), List.getElem_map, nth_eq (l := dealL ⟨p, q, g, k, o, l, m, pt, th, tr, mx, vt, sd⟩ (c + 1 + 1)) (by rw [HLD.out]; exact hj)]
      obtain ⟨L, hL⟩ : ∃ L, ((dealL ⟨p, q, g, k, o, l, m, pt, th, tr, mx, vt, sd⟩ (c + 1 + 1)).map fun x => powE ⟨p, q, g⟩ g x) = L := ⟨_, rfl⟩
      rw [hL] at hO4 hLB hLL hJS
      have HJC := Lib.hid hJS
      clear hL hJS HDC
      obtain ⟨a4, c4, rfl⟩ := hO4.shape
      rw [hLL] at hO4 ⊢
      have HLL := Lib.hid hLL
      have HLB := Lib.hid hLB
      clear hLL hLB
      have hI4 := InI.of_own hO4
      have HI4 := Lib.hid hI4
      have HO4 : Hid (OwnI w4 W.heap.size (.slice (some ⟨g0, 0, none⟩) NT co) (jM ⟨p, q, g, k, o, l, m, pt, th, tr, mx, vt, sd⟩ (c + 1) 0)) := by unfold Hid; rw [HM0.out]; exact HOR.out.below hb4
      have HB4 := Lib.hid (HBR.out.trans (hb4.mono HBR.out.size))
      have hs4 := hb4.size
      clear hb4 hO4 hI4 HOR
      clear i0 i1 i2 i3 i4 i5 i6 i7 i8 i9 i10 i11 i12
      go_wp2_with fail
      go_loopg [19] NT (fun gg kv wr => ∃ k' : Nat, k' + gg = NT ∧ kv = .int .i64 k' ∧ Hid (OwnI wr W.heap.size (.slice (some ⟨g0, 0, none⟩) NT co) (jM ⟨p, q, g, k, o, l, m, pt, th, tr, mx, vt, sd⟩ (c + 1) k')) ∧ Hid (InI wr wA.heap.size w4.heap.size (.slice a4 NT c4) L) ∧ Hid (Below W.heap.size W wr) ∧ w4.heap.size ≤ wr.heap.size)
      case atStart => exact ⟨0, by omega, rfl, HO4, HI4, HB4, Nat.le_refl _⟩
      case round =>
        obtain ⟨k', hkg, rfl, HO5, HI5, HB5, hs5⟩ := hrel
        clear HO4 HI4 HB4
        obtain ⟨wB, rfl⟩ : ∃ u, u = wr := ⟨_, rfl⟩
        by_cases hlt : k' < NT
        · skip
          have HKK : Hid (k' < NT) := hlt
          have HXr := Lib.hid (HX.out.below HB5.out)
          have i0 := HXr.out.cell (i := 0) rfl
          have i1 := HXr.out.cell (i := 1) rfl
          have i2 := HXr.out.cell (i := 2) rfl
          have i3 := HXr.out.cell (i := 3) rfl
          have i4 := HXr.out.cell (i := 4) rfl
          have i5 := HXr.out.cell (i := 5) rfl
          have i6 := HXr.out.cell (i := 6) rfl
          have i7 := HXr.out.cell (i := 7) rfl
          have i8 := HXr.out.cell (i := 8) rfl
          have i9 := HXr.out.cell (i := 9) rfl
          have i10 := HXr.out.cell (i := 10) rfl
          have i11 := HXr.out.cell (i := 11) rfl
          have i12 := HXr.out.cell (i := 12) rfl
          obtain ⟨bk, oo, rfl, hcx⟩ := HI5.out.reads.at_ (by omega)
          have hy := hcx k' hlt
          have hzz := HO5.out.at_ (by rw [HLM.out]; omega)
          obtain ⟨g1, hg1, _, _, hcz⟩ := hzz
          obtain ⟨hz, _⟩ := hcz k' hlt
          cases hg1
          rw [HMN.out _ _ hlt] at hz
          have HSU := Lib.hid (HMS.out (c + 1) k' hlt)
          have hub := HJB.out k' (c + 1)
          have huc := HJB.out k' ((c + 1) + 1)
          clear hcx hcz
          have hxb := HLB.out k' hlt
          have hjs := HJC.out k' hlt
          obtain ⟨y, hyy⟩ : ∃ y, nth L k' = y := ⟨_, rfl⟩
          rw [hyy] at hy hxb hjs
          clear hyy
          obtain ⟨y0, y1⟩ := hxb
          obtain ⟨u, hu⟩ : ∃ u, jK ⟨p, q, g, k, o, l, m, pt, th, tr, mx, vt, sd⟩ k' (c + 1) = u := ⟨_, rfl⟩
          rw [hu] at hz hjs hub
          clear hu
          obtain ⟨u0, u1⟩ := hub
          obtain ⟨zz, hzq⟩ : ∃ z, jK ⟨p, q, g, k, o, l, m, pt, th, tr, mx, vt, sd⟩ k' (c + 1 + 1) = z := ⟨_, rfl⟩
          rw [hzq] at hjs huc HSU
          clear hzq
          have HZ := Lib.hid hjs; clear hjs
          obtain ⟨z0, z1⟩ := huc
          have hwk : IntKind.i64.wrap ((k' : Int) + 1) = (k' : Int) + 1 := IntWalk.i64_in _ (by omega)
          have k0 : (0 : Int) ≤ (k' : Int) := by omega
          have k1 : (k' : Int) < (NT : Int) := by omega
          go_wp2_with fail
          refine wp_region_noPanic ?_
          refine wp_region_take (fun w' => Below wB.heap.size wB w' ∧ w'.cell? ⟨g0, k', none⟩ = some (.int .i64 u) ∧ w'.cell? ⟨w.heap.size, 0, none⟩ = some (.int .i64 p) ∧ w'.cell? ⟨w.heap.size, 1, none⟩ = some (.int .i64 q) ∧ w'.cell? ⟨w.heap.size, 2, none⟩ = some (.int .i64 g) ∧ w'.cell? ⟨w.heap.size, 3, none⟩ = some (.int .i64 k) ∧ w'.cell? ⟨w.heap.size, 4, none⟩ = some (.int .i64 o) ∧ w'.cell? ⟨w.heap.size, 5, none⟩ = some (.int .i64 l) ∧ w'.cell? ⟨w.heap.size, 6, none⟩ = some (.int .i64 m) ∧ w'.cell? ⟨w.heap.size, 7, none⟩ = some (.int .i64 pt) ∧ w'.cell? ⟨w.heap.size, 8, none⟩ = some (.int .i64 th) ∧ w'.cell? ⟨w.heap.size, 9, none⟩ = some (.int .i64 tr) ∧ w'.cell? ⟨w.heap.size, 10, none⟩ = some (.int .i64 mx) ∧ w'.cell? ⟨w.heap.size, 11, none⟩ = some (.int .i64 vt) ∧ w'.cell? ⟨w.heap.size, 12, none⟩ = some (.int .i64 sd)) 20 [(true, 0), (true, 1), (true, 2), (true, 3), (true, 4), (true, 5), (true, 6), (true, 7), (true, 8), (false, 9), (false, 10)] [11, 12] (by kernel_rfl) (by kernel_rfl) rfl (fun _ _ _ _ _ h => h) ⟨(Below.refl _ _).drew, hz, i0, i1, i2, i3, i4, i5, i6, i7, i8, i9, i10, i11, i12⟩ ?_
          simp only [pickL, pickN, List.getElem?_cons_zero, List.getElem?_cons_succ]
          have hbz : Below wB.heap.size wB wB.drew := (Below.refl _ _).drew
          repeat (refine' wpTake_read _ (by rfl) (fun w' hS' => ?_) ?_; rotate_left; · ((try dsimp only at hS'); go_simp; (try with_reducible rfl)); (try simp only [Act.put, List.setIfInBounds_toArray, List.set_cons_zero, List.set_cons_succ]))
          refine wpTake_do (by rfl) (fun K hK => ?_)
          go_simp
          have hbc : Below wB.heap.size wB ((wB.alloc (.cells #[.int .i64 u, .int .i64 y] 3)).drew) := ((Below.refl _ _).alloc (Nat.le_refl _) _).drew
          refine hK.out _ _ ⟨hbc, box_at hz hbc, box_at i0 hbc, box_at i1 hbc, box_at i2 hbc, box_at i3 hbc, box_at i4 hbc, box_at i5 hbc, box_at i6 hbc, box_at i7 hbc, box_at i8 hbc, box_at i9 hbc, box_at i10 hbc, box_at i11 hbc, box_at i12 hbc⟩ (fun _ => ?_)
          clear hK K hbz
          try simp only [Act.put, List.setIfInBounds_toArray, List.set_cons_zero, List.set_cons_succ]
          refine wpTake_do (by rfl) (fun K hK => ?_)
          go_simp
          go_at_call 181
          refine (spec_gMul ⟨p, q, g⟩ _ [u, y] _ HG.out (Ints.lit2 _ ⟨by omega, by omega⟩ ⟨by omega, by omega⟩).drew (small2 ⟨by omega, by omega⟩ ⟨by omega, by omega⟩)).mono ?_
          rintro e w7 ⟨rfl, hb7⟩
          rw [← HZ.out]
          have hbd := keep_b hb7 hbc
          refine hK.out _ _ ⟨hbd, box_at hz hbd, box_at i0 hbd, box_at i1 hbd, box_at i2 hbd, box_at i3 hbd, box_at i4 hbd, box_at i5 hbd, box_at i6 hbd, box_at i7 hbd, box_at i8 hbd, box_at i9 hbd, box_at i10 hbd, box_at i11 hbd, box_at i12 hbd⟩ (fun _ => ?_)
          clear hK K hb7 hbc
          try simp only [Act.put, List.setIfInBounds_toArray, List.set_cons_zero, List.set_cons_succ]
          refine wpTake_nil ?_
          have HO7 := Lib.hid (HO5.out.below hbd)
          have HI7 := Lib.hid (HI5.out.next hbd)
          have HB7 := Lib.hid (HB5.out.trans (hbd.mono HB5.out.size))
          have hs7 := hbd.size
          have hzz := HO7.out.at_ (by rw [HLM.out]; omega)
          obtain ⟨g1, hg1, _, _, hcz⟩ := hzz
          obtain ⟨hz7, hf7⟩ := hcz k' hlt
          cases hg1
          clear hbd hcz hz
          clear i0 i1 i2 i3 i4 i5 i6 i7 i8 i9 i10 i11 i12
          have hst := HO7.out.stored (HLM.out _ _) k' (x := zz) ⟨by omega, by omega⟩
          have HT := Lib.hid hst.1
          clear hst
          rw [← HSU.out] at HT
          go_wp2_with fail
          refine NoPanic.normal ?_
          have HI8 := Lib.hid (HI7.out.kept (((Within.refl g0 (g0 + 1) w7).setCell (Nat.le_refl _) (Nat.lt_succ_self _) k' (.int .i64 zz))) (.inr (by omega)))
          have HB8 : Hid (Below W.heap.size W (w7.setCell ⟨g0, k', none⟩ (.int .i64 zz))) := HB7.out.setCell (by have := HGB.out; show W.heap.size ≤ g0; omega) _
          clear hz7 hf7 k0 k1
          go_wp2_with fail
          go_roundg (NT - (k' + 1))
          case measure => omega
          case rel => exact ⟨k' + 1, by omega, by go_num, HT, HI8, HB8, by simp; omega⟩
        · obtain rfl : k' = NT := by omega
          rw [HMA.out] at HO5
          go_wp2_with fail
          go_roundg (tr.toNat - 1 - (c + 1))
          case measure => omega
          case rel => exact ⟨c + 1, by omega, by go_num, HO5, HB5⟩
    · have hle : ¬ (c : Int) + 2 ≤ tr := by omega
      have HCE : Hid (c + 1 = tr.toNat) := by unfold Hid; omega
      rw [HCE.out] at HOR
      go_wp2_with fail
      go_ret
      exact ⟨_, rfl, HOR.out.mono HB.out.size, Below.next HB.out HBR.out⟩
set_option maxRecDepth 100000 in
set_option maxHeartbeats 2000000 in
theorem impl_JointCommits (p q g k o l m pt th tr mx vt sd : Int) (w : World) :
    Calls Try.prog 26 #[.agg #[.int .i64 p, .int .i64 q, .int .i64 g, .int .i64 k, .int .i64 o, .int .i64 l, .int .i64 m, .int .i64 pt, .int .i64 th, .int .i64 tr, .int .i64 mx, .int .i64 vt, .int .i64 sd]] w fun e w' => ∃ v', e = .returned (.tuple #[v', .bool (planB ⟨p, q, g, k, o, l, m, pt, th, tr, mx, vt, sd⟩)]) ∧ InI w' w.heap.size w'.heap.size v' (jntR ⟨p, q, g, k, o, l, m, pt, th, tr, mx, vt, sd⟩) ∧ Below w.heap.size w w' := by
  obtain ⟨W, hW⟩ : ∃ W, W = w.alloc (.cells #[.int .i64 p, .int .i64 q, .int .i64 g, .int .i64 k, .int .i64 o, .int .i64 l, .int .i64 m, .int .i64 pt, .int .i64 th, .int .i64 tr, .int .i64 mx, .int .i64 vt, .int .i64 sd] 33) := ⟨_, rfl⟩
  have HB : Hid (Below w.heap.size w W) := by unfold Hid; rw [hW]; exact (Below.refl _ _).alloc (Nat.le_refl _) _
  have HX : Hid (BoxN W w.heap.size 33 [.int .i64 p, .int .i64 q, .int .i64 g, .int .i64 k, .int .i64 o, .int .i64 l, .int .i64 m, .int .i64 pt, .int .i64 th, .int .i64 tr, .int .i64 mx, .int .i64 vt, .int .i64 sd]) := by unfold Hid; rw [hW]; exact BoxN.new w _ _
  have HSW : Hid (W.heap.size = w.heap.size + 1) := by unfold Hid; rw [hW]; simp
  have HWW := Lib.hid hW; clear hW
  cases hP : planB ⟨p, q, g, k, o, l, m, pt, th, tr, mx, vt, sd⟩ with
  | false =>
    have HV : Hid (jntR ⟨p, q, g, k, o, l, m, pt, th, tr, mx, vt, sd⟩ = []) := by unfold Hid jntR; rw [if_neg (by rw [hP]; decide)]
    rw [HV.out]
    have HP := Lib.hid hP
    clear hP
    go_enter Try.func26, Try.ntmps26
    go_wp2_with fail
    rw [← HWW.out]
    try rw [← HSW.out]
    clear HWW HSW
    have i0 := HX.out.cell (i := 0) rfl
    have i1 := HX.out.cell (i := 1) rfl
    have i2 := HX.out.cell (i := 2) rfl
    have i3 := HX.out.cell (i := 3) rfl
    have i4 := HX.out.cell (i := 4) rfl
    have i5 := HX.out.cell (i := 5) rfl
    have i6 := HX.out.cell (i := 6) rfl
    have i7 := HX.out.cell (i := 7) rfl
    have i8 := HX.out.cell (i := 8) rfl
    have i9 := HX.out.cell (i := 9) rfl
    have i10 := HX.out.cell (i := 10) rfl
    have i11 := HX.out.cell (i := 11) rfl
    have i12 := HX.out.cell (i := 12) rfl
    go_wp2_with fail
    refine (impl_IsValidPlan p q g k o l m pt th tr mx vt sd _).mono ?_
    rintro e w1 ⟨rfl, hb1⟩
    rw [HP.out]
    have HX1 : Hid (BoxN w1 w.heap.size 33 [.int .i64 p, .int .i64 q, .int .i64 g, .int .i64 k, .int .i64 o, .int .i64 l, .int .i64 m, .int .i64 pt, .int .i64 th, .int .i64 tr, .int .i64 mx, .int .i64 vt, .int .i64 sd]) := HX.out.below hb1
    have HB1 := Lib.hid (Below.next HB.out hb1)
    clear hb1 HX
    clear i0 i1 i2 i3 i4 i5 i6 i7 i8 i9 i10 i11 i12
    have i0 := HX1.out.cell (i := 0) rfl
    have i1 := HX1.out.cell (i := 1) rfl
    have i2 := HX1.out.cell (i := 2) rfl
    have i3 := HX1.out.cell (i := 3) rfl
    have i4 := HX1.out.cell (i := 4) rfl
    have i5 := HX1.out.cell (i := 5) rfl
    have i6 := HX1.out.cell (i := 6) rfl
    have i7 := HX1.out.cell (i := 7) rfl
    have i8 := HX1.out.cell (i := 8) rfl
    have i9 := HX1.out.cell (i := 9) rfl
    have i10 := HX1.out.cell (i := 10) rfl
    have i11 := HX1.out.cell (i := 11) rfl
    have i12 := HX1.out.cell (i := 12) rfl
    go_wp2_with fail
    go_ret2
    exact ⟨_, rfl, InI.of_own (OwnI.nil _ _), HB1.out⟩
  | true =>
    have HP := Lib.hid hP
    have HOK := Lib.hid (planB_ok hP)
    have HV : Hid (jntR ⟨p, q, g, k, o, l, m, pt, th, tr, mx, vt, sd⟩ = jL ⟨p, q, g, k, o, l, m, pt, th, tr, mx, vt, sd⟩ tr.toNat) := by unfold Hid jntR; rw [if_pos hP]
    rw [HV.out]
    clear hP
    go_enter Try.func26, Try.ntmps26
    go_wp2_with fail
    rw [← HWW.out]
    try rw [← HSW.out]
    clear HWW HSW
    have i0 := HX.out.cell (i := 0) rfl
    have i1 := HX.out.cell (i := 1) rfl
    have i2 := HX.out.cell (i := 2) rfl
    have i3 := HX.out.cell (i := 3) rfl
    have i4 := HX.out.cell (i := 4) rfl
    have i5 := HX.out.cell (i := 5) rfl
    have i6 := HX.out.cell (i := 6) rfl
    have i7 := HX.out.cell (i := 7) rfl
    have i8 := HX.out.cell (i := 8) rfl
    have i9 := HX.out.cell (i := 9) rfl
    have i10 := HX.out.cell (i := 10) rfl
    have i11 := HX.out.cell (i := 11) rfl
    have i12 := HX.out.cell (i := 12) rfl
    go_wp2_with fail
    refine (impl_IsValidPlan p q g k o l m pt th tr mx vt sd _).mono ?_
    rintro e w1 ⟨rfl, hb1⟩
    rw [HP.out]
    have HX1 : Hid (BoxN w1 w.heap.size 33 [.int .i64 p, .int .i64 q, .int .i64 g, .int .i64 k, .int .i64 o, .int .i64 l, .int .i64 m, .int .i64 pt, .int .i64 th, .int .i64 tr, .int .i64 mx, .int .i64 vt, .int .i64 sd]) := HX.out.below hb1
    have HB1 := Lib.hid (Below.next HB.out hb1)
    clear hb1 HX
    clear i0 i1 i2 i3 i4 i5 i6 i7 i8 i9 i10 i11 i12
    have i0 := HX1.out.cell (i := 0) rfl
    have i1 := HX1.out.cell (i := 1) rfl
    have i2 := HX1.out.cell (i := 2) rfl
    have i3 := HX1.out.cell (i := 3) rfl
    have i4 := HX1.out.cell (i := 4) rfl
    have i5 := HX1.out.cell (i := 5) rfl
    have i6 := HX1.out.cell (i := 6) rfl
    have i7 := HX1.out.cell (i := 7) rfl
    have i8 := HX1.out.cell (i := 8) rfl
    have i9 := HX1.out.cell (i := 9) rfl
    have i10 := HX1.out.cell (i := 10) rfl
    have i11 := HX1.out.cell (i := 11) rfl
    have i12 := HX1.out.cell (i := 12) rfl
    go_wp2_with fail
    refine (impl_commits p q g k o l m pt th tr mx vt sd _ HOK.out).mono ?_
    rintro e w3 ⟨v', rfl, hO, hb3⟩
    have HB3 := Lib.hid (Below.next HB1.out hb3)
    have HO := Lib.hid (hO.mono HB1.out.size)
    clear hb3 hO
    clear i0 i1 i2 i3 i4 i5 i6 i7 i8 i9 i10 i11 i12
    go_wp2_with fail
    go_ret2
    exact ⟨_, rfl, InI.of_own HO.out, HB3.out⟩
set_option maxRecDepth 100000 in
set_option maxHeartbeats 2000000 in
theorem spec_JointCommits (p q g k o l m pt th tr mx vt sd : Int) (w : World) :
    Calls Try.prog 25 #[.agg #[.int .i64 p, .int .i64 q, .int .i64 g, .int .i64 k, .int .i64 o, .int .i64 l, .int .i64 m, .int .i64 pt, .int .i64 th, .int .i64 tr, .int .i64 mx, .int .i64 vt, .int .i64 sd]] w fun e w' => ∃ v', e = .returned (.tuple #[v', .bool (planB ⟨p, q, g, k, o, l, m, pt, th, tr, mx, vt, sd⟩)]) ∧ InI w' w.heap.size w'.heap.size v' (jntR ⟨p, q, g, k, o, l, m, pt, th, tr, mx, vt, sd⟩) ∧ Below w.heap.size w w' := by
  obtain ⟨W, hW⟩ : ∃ W, W = w.alloc (.cells #[.int .i64 p, .int .i64 q, .int .i64 g, .int .i64 k, .int .i64 o, .int .i64 l, .int .i64 m, .int .i64 pt, .int .i64 th, .int .i64 tr, .int .i64 mx, .int .i64 vt, .int .i64 sd] 33) := ⟨_, rfl⟩
  have HB : Hid (Below w.heap.size w W) := by unfold Hid; rw [hW]; exact (Below.refl _ _).alloc (Nat.le_refl _) _
  have HX : Hid (BoxN W w.heap.size 33 [.int .i64 p, .int .i64 q, .int .i64 g, .int .i64 k, .int .i64 o, .int .i64 l, .int .i64 m, .int .i64 pt, .int .i64 th, .int .i64 tr, .int .i64 mx, .int .i64 vt, .int .i64 sd]) := by unfold Hid; rw [hW]; exact BoxN.new w _ _
  have HSW : Hid (W.heap.size = w.heap.size + 1) := by unfold Hid; rw [hW]; simp
  have HWW := Lib.hid hW; clear hW
  cases hP : planB ⟨p, q, g, k, o, l, m, pt, th, tr, mx, vt, sd⟩ with
  | false =>
    have HV : Hid (jntR ⟨p, q, g, k, o, l, m, pt, th, tr, mx, vt, sd⟩ = []) := by unfold Hid jntR; rw [if_neg (by rw [hP]; decide)]
    rw [HV.out]
    have HP := Lib.hid hP
    clear hP
    go_enter Try.func25, Try.ntmps25
    go_wp2_with fail
    rw [← HWW.out]
    try rw [← HSW.out]
    clear HWW HSW
    have i0 := HX.out.cell (i := 0) rfl
    have i1 := HX.out.cell (i := 1) rfl
    have i2 := HX.out.cell (i := 2) rfl
    have i3 := HX.out.cell (i := 3) rfl
    have i4 := HX.out.cell (i := 4) rfl
    have i5 := HX.out.cell (i := 5) rfl
    have i6 := HX.out.cell (i := 6) rfl
    have i7 := HX.out.cell (i := 7) rfl
    have i8 := HX.out.cell (i := 8) rfl
    have i9 := HX.out.cell (i := 9) rfl
    have i10 := HX.out.cell (i := 10) rfl
    have i11 := HX.out.cell (i := 11) rfl
    have i12 := HX.out.cell (i := 12) rfl
    go_wp2_with fail
    refine (spec_nPlan p q g k o l m pt th tr mx vt sd _).mono ?_
    rintro e w1 ⟨rfl, hb1⟩
    rw [HP.out]
    have HX1 : Hid (BoxN w1 w.heap.size 33 [.int .i64 p, .int .i64 q, .int .i64 g, .int .i64 k, .int .i64 o, .int .i64 l, .int .i64 m, .int .i64 pt, .int .i64 th, .int .i64 tr, .int .i64 mx, .int .i64 vt, .int .i64 sd]) := HX.out.below hb1
    have HB1 := Lib.hid (Below.next HB.out hb1)
    clear hb1 HX
    clear i0 i1 i2 i3 i4 i5 i6 i7 i8 i9 i10 i11 i12
    have i0 := HX1.out.cell (i := 0) rfl
    have i1 := HX1.out.cell (i := 1) rfl
    have i2 := HX1.out.cell (i := 2) rfl
    have i3 := HX1.out.cell (i := 3) rfl
    have i4 := HX1.out.cell (i := 4) rfl
    have i5 := HX1.out.cell (i := 5) rfl
    have i6 := HX1.out.cell (i := 6) rfl
    have i7 := HX1.out.cell (i := 7) rfl
    have i8 := HX1.out.cell (i := 8) rfl
    have i9 := HX1.out.cell (i := 9) rfl
    have i10 := HX1.out.cell (i := 10) rfl
    have i11 := HX1.out.cell (i := 11) rfl
    have i12 := HX1.out.cell (i := 12) rfl
    go_wp2_with fail
    go_ret2
    exact ⟨_, rfl, InI.of_own (OwnI.nil _ _), HB1.out⟩
  | true =>
    have HP := Lib.hid hP
    have HOK := Lib.hid (planB_ok hP)
    have HV : Hid (jntR ⟨p, q, g, k, o, l, m, pt, th, tr, mx, vt, sd⟩ = jL ⟨p, q, g, k, o, l, m, pt, th, tr, mx, vt, sd⟩ tr.toNat) := by unfold Hid jntR; rw [if_pos hP]
    rw [HV.out]
    clear hP
    go_enter Try.func25, Try.ntmps25
    go_wp2_with fail
    rw [← HWW.out]
    try rw [← HSW.out]
    clear HWW HSW
    have i0 := HX.out.cell (i := 0) rfl
    have i1 := HX.out.cell (i := 1) rfl
    have i2 := HX.out.cell (i := 2) rfl
    have i3 := HX.out.cell (i := 3) rfl
    have i4 := HX.out.cell (i := 4) rfl
    have i5 := HX.out.cell (i := 5) rfl
    have i6 := HX.out.cell (i := 6) rfl
    have i7 := HX.out.cell (i := 7) rfl
    have i8 := HX.out.cell (i := 8) rfl
    have i9 := HX.out.cell (i := 9) rfl
    have i10 := HX.out.cell (i := 10) rfl
    have i11 := HX.out.cell (i := 11) rfl
    have i12 := HX.out.cell (i := 12) rfl
    go_wp2_with fail
    refine (spec_nPlan p q g k o l m pt th tr mx vt sd _).mono ?_
    rintro e w1 ⟨rfl, hb1⟩
    rw [HP.out]
    have HX1 : Hid (BoxN w1 w.heap.size 33 [.int .i64 p, .int .i64 q, .int .i64 g, .int .i64 k, .int .i64 o, .int .i64 l, .int .i64 m, .int .i64 pt, .int .i64 th, .int .i64 tr, .int .i64 mx, .int .i64 vt, .int .i64 sd]) := HX.out.below hb1
    have HB1 := Lib.hid (Below.next HB.out hb1)
    clear hb1 HX
    clear i0 i1 i2 i3 i4 i5 i6 i7 i8 i9 i10 i11 i12
    have i0 := HX1.out.cell (i := 0) rfl
    have i1 := HX1.out.cell (i := 1) rfl
    have i2 := HX1.out.cell (i := 2) rfl
    have i3 := HX1.out.cell (i := 3) rfl
    have i4 := HX1.out.cell (i := 4) rfl
    have i5 := HX1.out.cell (i := 5) rfl
    have i6 := HX1.out.cell (i := 6) rfl
    have i7 := HX1.out.cell (i := 7) rfl
    have i8 := HX1.out.cell (i := 8) rfl
    have i9 := HX1.out.cell (i := 9) rfl
    have i10 := HX1.out.cell (i := 10) rfl
    have i11 := HX1.out.cell (i := 11) rfl
    have i12 := HX1.out.cell (i := 12) rfl
    go_wp2_with fail
    refine (spec_nJoint p q g k o l m pt th tr mx vt sd _ HOK.out).mono ?_
    rintro e w3 ⟨v', rfl, hO, hb3⟩
    have HB3 := Lib.hid (Below.next HB1.out hb3)
    have HO := Lib.hid (hO.mono HB1.out.size)
    clear hb3 hO
    clear i0 i1 i2 i3 i4 i5 i6 i7 i8 i9 i10 i11 i12
    go_wp2_with fail
    go_ret2
    exact ⟨_, rfl, InI.of_own HO.out, HB3.out⟩
end Go.Proofs.Ytcpigedjblkcfaa
