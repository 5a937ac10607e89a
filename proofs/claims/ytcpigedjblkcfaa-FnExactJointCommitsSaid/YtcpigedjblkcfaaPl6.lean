/- Plans of elections: shares. -/
import Derived.Test.YtcpigedjblkcfaaPl5
import Derived.Deep.QuietTactic
import Derived.BigQuiet
namespace Go.Proofs.Ytcpigedjblkcfaa
open Go.RowKit
set_option linter.unusedSimpArgs false
set_option linter.unusedVariables false

/-- a polynomial's value -/
def hornI (q t : Int) (l : List Int) : Int := l.foldr (fun a y => (y * t + a) % q) 0
theorem hornI_drop {q t : Int} {l : List Int} {k : Nat} (h : k < l.length) : hornI q t (l.drop k) = (hornI q t (l.drop (k + 1)) * t + nth l k) % q := by
  rw [← List.getElem_cons_drop h, nth_eq h]; rfl
theorem hornI_bd {q : Int} (hq : 0 < q) (t : Int) (l : List Int) : 0 ≤ hornI q t l ∧ hornI q t l < q := by
  cases l with
  | nil => exact ⟨Int.le_refl _, hq⟩
  | cons a l => exact ⟨Int.emod_nonneg _ (by omega), Int.emod_lt_of_pos _ hq⟩
/-- the exponents of a dealer -/
def dealL (d : PlanD) (s : Nat) : List Int := coinL d sDeal s d.th.toNat
theorem sDeal_size : sDeal.size ≤ 40 := by decide
theorem dealL_bd {d : PlanD} (h : 0 < d.q) (s : Nat) : ∀ x ∈ dealL d s, 0 ≤ x ∧ x < d.q := fun x hx => by
  obtain ⟨i, _, rfl⟩ := tab_mem hx
  exact coinI_bd h _ _ _
/-- the sum of the values of the first polynomials -/
def shaT (d : PlanD) (t : Int) : Nat → Int
  | 0 => 0
  | n + 1 => (shaT d t n + hornI d.q t (dealL d (n + 1))) % d.q
theorem shaT_bd {d : PlanD} (h : 0 < d.q) (t : Int) (n : Nat) : 0 ≤ shaT d t n ∧ shaT d t n < d.q := by
  cases n with
  | zero => exact ⟨Int.le_refl _, h⟩
  | succ n => exact ⟨Int.emod_nonneg _ (by omega), Int.emod_lt_of_pos _ h⟩
noncomputable def shaB (d : PlanD) (t : Int) : Bool := planB d && decide (1 ≤ t ∧ t ≤ d.tr)
noncomputable def shaR (d : PlanD) (t : Int) : Int := if shaB d t = true then shaT d t d.tr.toNat else 0
set_option maxHeartbeats 2000000 in
theorem impl_evalPoly (q : Int) (v : Value) (L : List Int) (x : Int) (w : World) (hq : 2 ≤ q ∧ q ≤ 2000000000) (h : Ints w v L) (hL : ∀ y ∈ L, 0 ≤ y ∧ y < q) (hx : 0 ≤ x ∧ x ≤ 1000) :
    Calls Try.prog 179 #[.int .i64 q, v, .int .i64 x] w fun e w' => e = .returned (.int .i64 (hornI q x L)) ∧ Below w.heap.size w w' := by
  obtain ⟨hq1, hq2⟩ := hq
  obtain ⟨hx0, hx1⟩ := hx
  obtain ⟨a, n, c, rfl⟩ := h.shape
  have e := h.len
  obtain ⟨k1, k2⟩ := h.capMax
  unfold maxLen at k2
  have HE := Lib.hid e
  have HL := Lib.hid hL; clear hL
  have H := Lib.hid h; clear h
  have e1 : IntKind.i64.wrap ((n : Int) - 1) = (n : Int) - 1 := IntWalk.i64_in _ (by omega)
  have HN : Hid (hornI q x (L.drop n) = 0) := by unfold Hid; rw [← e, List.drop_length]; rfl
  clear e
  go_enter Try.func179, Try.ntmps179
  go_wp2_with fail
  go_loopg [7, 8] n (fun gg ov iv wr => ∃ (j : Nat) (o : Int), j = gg ∧ j ≤ n ∧ iv = .int .i64 ((j : Int) - 1) ∧ ov = .int .i64 o ∧ Hid (hornI q x (L.drop j) = o) ∧ 0 ≤ o ∧ o < q ∧ Below w.heap.size w wr)
  case atStart => exact ⟨n, 0, rfl, Nat.le_refl _, rfl, rfl, HN.out, by omega, by omega, Below.refl _ _⟩
  case round =>
    obtain ⟨j, o, hjg, hjn, rfl, rfl, HO, ho0, ho1, hb⟩ := hrel
    cases j with
    | zero =>
      have HR : Hid (hornI q x L = o) := HO.out
      have HB := Lib.hid hb; clear hb
      go_wp2_with fail
      go_ret
      exact ⟨ret_int HR.out.symm, HB.out⟩
    | succ j =>
      have ej : ((j + 1 : Nat) : Int) - 1 = (j : Int) := by omega
      rw [ej]
      clear ej
      have HK : Hid (j < L.length) := by unfold Hid; rw [HE.out]; omega
      obtain ⟨bk, oo, rfl, hcx⟩ := (H.out.below hb).at_ (by omega)
      have hy := hcx j (by omega)
      have hyb : 0 ≤ nth L j ∧ nth L j < q := by rw [nth_eq HK.out]; exact HL.out _ (List.getElem_mem _)
      have HS : Hid (hornI q x (L.drop j) = (o * x + nth L j) % q) := by unfold Hid; rw [hornI_drop HK.out, HO.out]
      clear hcx
      obtain ⟨y, hyy⟩ : ∃ y, nth L j = y := ⟨_, rfl⟩
      rw [hyy] at hy hyb HS
      clear hyy
      obtain ⟨y0, y1⟩ := hyb
      obtain ⟨m0, m1⟩ := mul_bd ho0 (show o ≤ 2000000000 by omega) hx0 hx1
      have r0 : 0 ≤ o * x % q := Int.emod_nonneg _ (by omega)
      have r1 : o * x % q < q := Int.emod_lt_of_pos _ (by omega)
      have s0 : 0 ≤ (o * x + y) % q := Int.emod_nonneg _ (by omega)
      have s1 : (o * x + y) % q < q := Int.emod_lt_of_pos _ (by omega)
      have et1 : Int.tmod (o * x) q = o * x % q := Int.tmod_eq_emod_of_nonneg m0
      have et2 : Int.tmod (o * x % q + y) q = (o * x + y) % q := by rw [Int.tmod_eq_emod_of_nonneg (by omega), Int.emod_add_emod]
      have ew1 : IntKind.i64.wrap (o * x) = o * x := IntWalk.i64_in _ (by omega)
      have ew2 : IntKind.i64.wrap (o * x % q) = o * x % q := IntWalk.i64_in _ (by omega)
      have ew3 : IntKind.i64.wrap (o * x % q + y) = o * x % q + y := IntWalk.i64_in _ (by omega)
      have ew4 : IntKind.i64.wrap ((o * x + y) % q) = (o * x + y) % q := IntWalk.i64_in _ (by omega)
      have ew5 : IntKind.i64.wrap ((j : Int) - 1) = (j : Int) - 1 := IntWalk.i64_in _ (by omega)
      have hpz : ¬ q = 0 := by omega
      have hpz2 : (q == 0) = false := by rw [beq_eq_false_iff_ne]; omega
      have hj0 : (0 : Int) ≤ (j : Int) := by omega
      have hj1 : (j : Int) < (n : Int) := by omega
      have HB := Lib.hid hb; clear hb
      go_wp2_with fail
      go_quiet (fail)
      go_wp2_with fail
      go_roundg j
      case measure => omega
      case rel => exact ⟨j, _, rfl, by omega, by go_num, rfl, HS.out, s0, s1, below_drewN HB.out _⟩
set_option maxRecDepth 100000 in
set_option maxHeartbeats 4000000 in
theorem impl_share (p q g k o l m pt th tr mx vt sd t : Int) (w : World) (h : OkPl ⟨p, q, g, k, o, l, m, pt, th, tr, mx, vt, sd⟩) (ht : 1 ≤ t ∧ t ≤ 4) :
    Calls Try.prog 86 #[.agg #[.int .i64 p, .int .i64 q, .int .i64 g, .int .i64 k, .int .i64 o, .int .i64 l, .int .i64 m, .int .i64 pt, .int .i64 th, .int .i64 tr, .int .i64 mx, .int .i64 vt, .int .i64 sd], .int .i64 t] w fun e w' => e = .returned (.int .i64 (shaT ⟨p, q, g, k, o, l, m, pt, th, tr, mx, vt, sd⟩ t tr.toNat)) ∧ Below w.heap.size w w' := by
  have hq8 := h.q8
  obtain ⟨hq2, _⟩ := h.q2
  have htr := h.tr
  have hth := h.th
  have HOK := Lib.hid h
  have HG := Lib.hid (goodG_ok h.gd)
  simp only [] at hq8 hq2 htr hth
  obtain ⟨tr0, tr1⟩ := htr
  obtain ⟨th0, th1⟩ := hth
  obtain ⟨t0, t1⟩ := ht
  clear h
  have HDQ : Hid (∀ s, ∀ y ∈ dealL ⟨p, q, g, k, o, l, m, pt, th, tr, mx, vt, sd⟩ s, 0 ≤ y ∧ y < q) := fun s => dealL_bd (d := ⟨p, q, g, k, o, l, m, pt, th, tr, mx, vt, sd⟩) (by show 0 < q; omega) s
  have HSB : Hid (∀ n, 0 ≤ shaT ⟨p, q, g, k, o, l, m, pt, th, tr, mx, vt, sd⟩ t n ∧ shaT ⟨p, q, g, k, o, l, m, pt, th, tr, mx, vt, sd⟩ t n < q) := fun n => shaT_bd (d := ⟨p, q, g, k, o, l, m, pt, th, tr, mx, vt, sd⟩) (by show 0 < q; omega) t n
  have HSS : Hid (∀ n, shaT ⟨p, q, g, k, o, l, m, pt, th, tr, mx, vt, sd⟩ t (n + 1) = (shaT ⟨p, q, g, k, o, l, m, pt, th, tr, mx, vt, sd⟩ t n + hornI q t (dealL ⟨p, q, g, k, o, l, m, pt, th, tr, mx, vt, sd⟩ (n + 1))) % q) := fun n => rfl
  have HTB : Hid (∀ l, 0 ≤ hornI q t l ∧ hornI q t l < q) := fun l => hornI_bd (by omega) t l
  have HDL : Hid (∀ c : Nat, coinL ⟨p, q, g, k, o, l, m, pt, th, tr, mx, vt, sd⟩ sDeal ((c : Int) + 1) th.toNat = dealL ⟨p, q, g, k, o, l, m, pt, th, tr, mx, vt, sd⟩ (c + 1)) := fun c => by unfold dealL; rw [show ((c + 1 : Nat) : Int) = (c : Int) + 1 by omega]
  obtain ⟨W, hW⟩ : ∃ W, W = w.alloc (.cells #[.int .i64 p, .int .i64 q, .int .i64 g, .int .i64 k, .int .i64 o, .int .i64 l, .int .i64 m, .int .i64 pt, .int .i64 th, .int .i64 tr, .int .i64 mx, .int .i64 vt, .int .i64 sd] 33) := ⟨_, rfl⟩
  have HB : Hid (Below w.heap.size w W) := by unfold Hid; rw [hW]; exact (Below.refl _ _).alloc (Nat.le_refl _) _
  have HX : Hid (BoxN W w.heap.size 33 [.int .i64 p, .int .i64 q, .int .i64 g, .int .i64 k, .int .i64 o, .int .i64 l, .int .i64 m, .int .i64 pt, .int .i64 th, .int .i64 tr, .int .i64 mx, .int .i64 vt, .int .i64 sd]) := by unfold Hid; rw [hW]; exact BoxN.new w _ _
  have HSW : Hid (W.heap.size = w.heap.size + 1) := by unfold Hid; rw [hW]; simp
  have HWW := Lib.hid hW; clear hW
  go_enter Try.func86, Try.ntmps86
  go_wp2_with fail
  rw [← HWW.out]
  try rw [← HSW.out]
  clear HWW HSW
  try (go_wp2_with fail)
  go_loopg [5, 6] tr.toNat (fun gg ov sv wr => ∃ c : Nat, c + gg = tr.toNat ∧ sv = .int .i64 ((c : Int) + 1) ∧ ov = .int .i64 (shaT ⟨p, q, g, k, o, l, m, pt, th, tr, mx, vt, sd⟩ t c) ∧ Below W.heap.size W wr)
  case atStart => exact ⟨0, by omega, rfl, rfl, Below.refl _ _⟩
  case round =>
    obtain ⟨c, hcg, rfl, rfl, hb⟩ := hrel
    have HXr := Lib.hid (HX.out.below hb)
    have hsr := hb.size
    have HBR := Lib.hid hb; clear hb
    have i0 := HXr.out.cell (i := 0) rfl
    have i1 := HXr.out.cell (i := 1) rfl
    have i2 := HXr.out.cell (i := 2) rfl
    have i3 := HXr.out.cell (i := 3) rfl
    have i4 := HXr.out.cell (i := 4) rfl
    have i5 := HXr.out.cell (i := 5) rfl
    have i6 := HXr.out.cell (i := 6) rfl
    have i7 := HXr.out.cell (i := 7) rfl
    have i8 := HXr.out.cell (i := 8) rfl
    have i9 := HXr.out.cell (i := 9) rfl
    have i10 := HXr.out.cell (i := 10) rfl
    have i11 := HXr.out.cell (i := 11) rfl
    have i12 := HXr.out.cell (i := 12) rfl
    by_cases hlt : c < tr.toNat
    · skip
      have hle : (c : Int) + 1 ≤ tr := by omega
      have HKD := Lib.hid (digest_sm (i := (c : Int) + 1) (by omega) (by omega))
      have HDC := Lib.hid (HDL.out c)
      obtain ⟨b0, b1⟩ := HSB.out c
      have HSC := Lib.hid (HSS.out c)
      obtain ⟨y0, y1⟩ := HTB.out (dealL ⟨p, q, g, k, o, l, m, pt, th, tr, mx, vt, sd⟩ (c + 1))
      obtain ⟨u, hu⟩ : ∃ u, shaT ⟨p, q, g, k, o, l, m, pt, th, tr, mx, vt, sd⟩ t c = u := ⟨_, rfl⟩
      rw [hu] at b0 b1 HSC ⊢
      clear hu
      obtain ⟨y, hy⟩ : ∃ y, hornI q t (dealL ⟨p, q, g, k, o, l, m, pt, th, tr, mx, vt, sd⟩ (c + 1)) = y := ⟨_, rfl⟩
      rw [hy] at y0 y1 HSC
      have HY := Lib.hid hy; clear hy
      have ew1 : IntKind.i64.wrap (u + y) = u + y := IntWalk.i64_in _ (by omega)
      have ew2 : IntKind.i64.wrap ((c : Int) + 1 + 1) = (c : Int) + 1 + 1 := IntWalk.i64_in _ (by omega)
      go_wp2_with fail
      refine wp_region_noPanic ?_
      refine wp_region_take (fun w' => Below wr.heap.size wr w' ∧ w'.cell? ⟨w.heap.size, 0, none⟩ = some (.int .i64 p) ∧ w'.cell? ⟨w.heap.size, 1, none⟩ = some (.int .i64 q) ∧ w'.cell? ⟨w.heap.size, 2, none⟩ = some (.int .i64 g) ∧ w'.cell? ⟨w.heap.size, 3, none⟩ = some (.int .i64 k) ∧ w'.cell? ⟨w.heap.size, 4, none⟩ = some (.int .i64 o) ∧ w'.cell? ⟨w.heap.size, 5, none⟩ = some (.int .i64 l) ∧ w'.cell? ⟨w.heap.size, 6, none⟩ = some (.int .i64 m) ∧ w'.cell? ⟨w.heap.size, 7, none⟩ = some (.int .i64 pt) ∧ w'.cell? ⟨w.heap.size, 8, none⟩ = some (.int .i64 th) ∧ w'.cell? ⟨w.heap.size, 9, none⟩ = some (.int .i64 tr) ∧ w'.cell? ⟨w.heap.size, 10, none⟩ = some (.int .i64 mx) ∧ w'.cell? ⟨w.heap.size, 11, none⟩ = some (.int .i64 vt) ∧ w'.cell? ⟨w.heap.size, 12, none⟩ = some (.int .i64 sd)) 16 [(true, 0), (true, 1), (true, 2), (true, 3), (true, 4), (true, 5), (true, 6), (true, 7), (true, 8), (true, 9), (true, 11), (false, 10), (false, 12), (true, 13), (false, 14)] [15] (by kernel_rfl) (by kernel_rfl) rfl (fun _ _ _ _ _ h => h) ⟨(Below.refl _ _).drew, i0, i1, i2, i3, i4, i5, i6, i7, i8, i9, i10, i11, i12⟩ ?_
      simp only [pickL, pickN, List.getElem?_cons_zero, List.getElem?_cons_succ]
      have hbz : Below wr.heap.size wr wr.drew := (Below.refl _ _).drew
      repeat (refine' wpTake_read _ (by rfl) (fun w' hS' => ?_) ?_; rotate_left; · ((try dsimp only at hS'); go_simp; (try with_reducible rfl)); (try simp only [Act.put, List.setIfInBounds_toArray, List.set_cons_zero, List.set_cons_succ]))
      refine wpTake_do (by rfl) (fun K hK => ?_)
      go_simp
      go_at_call 84
      refine (impl_coinsI p q g k o l m pt th tr mx vt sd sDeal ((c : Int) + 1) th _ HOK.out sDeal_size HKD.out (by omega)).mono ?_
      rintro e w4 ⟨v4, rfl, hO4, hb4⟩
      rw [HDC.out] at hO4
      obtain ⟨a4, c4, rfl⟩ := hO4.shape
      have hbb := keep_b hb4 hbz
      refine hK.out _ _ ⟨hbb, box_at i0 hbb, box_at i1 hbb, box_at i2 hbb, box_at i3 hbb, box_at i4 hbb, box_at i5 hbb, box_at i6 hbb, box_at i7 hbb, box_at i8 hbb, box_at i9 hbb, box_at i10 hbb, box_at i11 hbb, box_at i12 hbb⟩ (fun _ => ?_)
      clear hK K hb4 hbz
      try simp only [Act.put, List.setIfInBounds_toArray, List.set_cons_zero, List.set_cons_succ]
      repeat (refine' wpTake_read _ (by rfl) (fun w' hS' => ?_) ?_; rotate_left; · ((try dsimp only at hS'); go_simp; (try with_reducible rfl)); (try simp only [Act.put, List.setIfInBounds_toArray, List.set_cons_zero, List.set_cons_succ]))
      refine wpTake_do (by rfl) (fun K hK => ?_)
      go_simp
      go_at_call 179
      refine (impl_evalPoly q _ (dealL ⟨p, q, g, k, o, l, m, pt, th, tr, mx, vt, sd⟩ (c + 1)) t _ (by omega) hO4.ints (HDQ.out (c + 1)) (by omega)).mono ?_
      rintro e w5 ⟨rfl, hb5⟩
      rw [HY.out]
      have hbc := keep_b hb5 hbb
      refine hK.out _ _ ⟨hbc, box_at i0 hbc, box_at i1 hbc, box_at i2 hbc, box_at i3 hbc, box_at i4 hbc, box_at i5 hbc, box_at i6 hbc, box_at i7 hbc, box_at i8 hbc, box_at i9 hbc, box_at i10 hbc, box_at i11 hbc, box_at i12 hbc⟩ (fun _ => ?_)
      clear hK K hb5 hbb hO4
      try simp only [Act.put, List.setIfInBounds_toArray, List.set_cons_zero, List.set_cons_succ]
      repeat (refine' wpTake_read _ (by rfl) (fun w' hS' => ?_) ?_; rotate_left; · ((try dsimp only at hS'); go_simp; (try with_reducible rfl)); (try simp only [Act.put, List.setIfInBounds_toArray, List.set_cons_zero, List.set_cons_succ]))
      refine wpTake_do (by rfl) (fun K hK => ?_)
      go_simp
      go_at_call 178
      refine (impl_exp ⟨p, q, g⟩ (u + y) _ HG.out ⟨by omega, by omega⟩).mono ?_
      rintro e w6 ⟨rfl, hb6⟩
      rw [← HSC.out]
      have hbd := keep_b hb6 hbc
      refine hK.out _ _ ⟨hbd, box_at i0 hbd, box_at i1 hbd, box_at i2 hbd, box_at i3 hbd, box_at i4 hbd, box_at i5 hbd, box_at i6 hbd, box_at i7 hbd, box_at i8 hbd, box_at i9 hbd, box_at i10 hbd, box_at i11 hbd, box_at i12 hbd⟩ (fun _ => ?_)
      clear hK K hb6 hbc
      try simp only [Act.put, List.setIfInBounds_toArray, List.set_cons_zero, List.set_cons_succ]
      refine wpTake_nil ?_
      have HBD := Lib.hid (HBR.out.trans (hbd.mono hsr))
      clear hbd
      clear i0 i1 i2 i3 i4 i5 i6 i7 i8 i9 i10 i11 i12
      go_wp2_with fail
      refine NoPanic.normal ?_
      go_wp2_with fail
      go_roundg (tr.toNat - (c + 1))
      case measure => omega
      case rel => exact ⟨c + 1, by omega, by go_num, rfl, HBD.out⟩
    · obtain rfl : c = tr.toNat := by omega
      have hle : ¬ (tr.toNat : Int) + 1 ≤ tr := by omega
      go_wp2_with fail
      go_ret
      exact ⟨rfl, Below.next HB.out HBR.out⟩
set_option maxRecDepth 100000 in
set_option maxHeartbeats 1000000 in
theorem spec_nCoefs (p q g k o l m pt th tr mx vt sd i : Int) (w : World) (h : OkPl ⟨p, q, g, k, o, l, m, pt, th, tr, mx, vt, sd⟩) (hi : digestB i = true) :
    Calls Try.prog 177 #[.agg #[.int .i64 p, .int .i64 q, .int .i64 g, .int .i64 k, .int .i64 o, .int .i64 l, .int .i64 m, .int .i64 pt, .int .i64 th, .int .i64 tr, .int .i64 mx, .int .i64 vt, .int .i64 sd], .int .i64 i] w fun e w' => ∃ v', e = .returned v' ∧ OwnI w' w.heap.size v' (coinL ⟨p, q, g, k, o, l, m, pt, th, tr, mx, vt, sd⟩ sDeal i th.toNat) ∧ Below w.heap.size w w' := by
  obtain ⟨th0, th1⟩ := h.th
  obtain ⟨tr0, tr1⟩ := h.tr
  simp only [] at th0 th1 tr0 tr1
  have HOK := Lib.hid h; clear h
  have HID := Lib.hid hi; clear hi
  obtain ⟨W, hW⟩ : ∃ W, W = w.alloc (.cells #[.int .i64 p, .int .i64 q, .int .i64 g, .int .i64 k, .int .i64 o, .int .i64 l, .int .i64 m, .int .i64 pt, .int .i64 th, .int .i64 tr, .int .i64 mx, .int .i64 vt, .int .i64 sd] 33) := ⟨_, rfl⟩
  have HB : Hid (Below w.heap.size w W) := by unfold Hid; rw [hW]; exact (Below.refl _ _).alloc (Nat.le_refl _) _
  have HX : Hid (BoxN W w.heap.size 33 [.int .i64 p, .int .i64 q, .int .i64 g, .int .i64 k, .int .i64 o, .int .i64 l, .int .i64 m, .int .i64 pt, .int .i64 th, .int .i64 tr, .int .i64 mx, .int .i64 vt, .int .i64 sd]) := by unfold Hid; rw [hW]; exact BoxN.new w _ _
  have HSW : Hid (W.heap.size = w.heap.size + 1) := by unfold Hid; rw [hW]; simp
  have HWW := Lib.hid hW; clear hW
  go_enter Try.func177, Try.ntmps177
  go_wp2_with fail
  rw [← HWW.out]
  try rw [← HSW.out]
  clear HWW HSW
  have i0 := HX.out.cell (i := 0) rfl
  have i1 := HX.out.cell (i := 1) rfl
  have i2 := HX.out.cell (i := 2) rfl
  have i3 := HX.out.cell (i := 3) rfl
  have i4 := HX.out.cell (i := 4) rfl
  have i5 := HX.out.cell (i := 5) rfl
  have i6 := HX.out.cell (i := 6) rfl
  have i7 := HX.out.cell (i := 7) rfl
  have i8 := HX.out.cell (i := 8) rfl
  have i9 := HX.out.cell (i := 9) rfl
  have i10 := HX.out.cell (i := 10) rfl
  have i11 := HX.out.cell (i := 11) rfl
  have i12 := HX.out.cell (i := 12) rfl
  go_wp2_with fail
  refine (spec_nCoinsI p q g k o l m pt th tr mx vt sd sDeal i th _ HOK.out sDeal_size HID.out (by omega)).mono ?_
  rintro e w1 ⟨v', rfl, hO, hb1⟩
  have HB1 := Lib.hid (Below.next HB.out hb1)
  have HO := Lib.hid (hO.mono HB.out.size)
  clear hO hb1
  clear i0 i1 i2 i3 i4 i5 i6 i7 i8 i9 i10 i11 i12
  go_wp2_with fail
  go_ret
  exact ⟨_, rfl, HO.out, HB1.out⟩
set_option maxRecDepth 100000 in
set_option maxHeartbeats 4000000 in
theorem spec_nShare (p q g k o l m pt th tr mx vt sd t : Int) (w : World) (h : OkPl ⟨p, q, g, k, o, l, m, pt, th, tr, mx, vt, sd⟩) (ht : 1 ≤ t ∧ t ≤ 4) :
    Calls Try.prog 85 #[.agg #[.int .i64 p, .int .i64 q, .int .i64 g, .int .i64 k, .int .i64 o, .int .i64 l, .int .i64 m, .int .i64 pt, .int .i64 th, .int .i64 tr, .int .i64 mx, .int .i64 vt, .int .i64 sd], .int .i64 t] w fun e w' => e = .returned (.int .i64 (shaT ⟨p, q, g, k, o, l, m, pt, th, tr, mx, vt, sd⟩ t tr.toNat)) ∧ Below w.heap.size w w' := by
  have hq8 := h.q8
  obtain ⟨hq2, _⟩ := h.q2
  have htr := h.tr
  have hth := h.th
  have HOK := Lib.hid h
  have HG := Lib.hid (goodG_ok h.gd)
  simp only [] at hq8 hq2 htr hth
  obtain ⟨tr0, tr1⟩ := htr
  obtain ⟨th0, th1⟩ := hth
  obtain ⟨t0, t1⟩ := ht
  clear h
  have HDQ : Hid (∀ s, ∀ y ∈ dealL ⟨p, q, g, k, o, l, m, pt, th, tr, mx, vt, sd⟩ s, 0 ≤ y ∧ y < q) := fun s => dealL_bd (d := ⟨p, q, g, k, o, l, m, pt, th, tr, mx, vt, sd⟩) (by show 0 < q; omega) s
  have HSB : Hid (∀ n, 0 ≤ shaT ⟨p, q, g, k, o, l, m, pt, th, tr, mx, vt, sd⟩ t n ∧ shaT ⟨p, q, g, k, o, l, m, pt, th, tr, mx, vt, sd⟩ t n < q) := fun n => shaT_bd (d := ⟨p, q, g, k, o, l, m, pt, th, tr, mx, vt, sd⟩) (by show 0 < q; omega) t n
  have HSS : Hid (∀ n, shaT ⟨p, q, g, k, o, l, m, pt, th, tr, mx, vt, sd⟩ t (n + 1) = (shaT ⟨p, q, g, k, o, l, m, pt, th, tr, mx, vt, sd⟩ t n + hornI q t (dealL ⟨p, q, g, k, o, l, m, pt, th, tr, mx, vt, sd⟩ (n + 1))) % q) := fun n => rfl
  have HTB : Hid (∀ l, 0 ≤ hornI q t l ∧ hornI q t l < q) := fun l => hornI_bd (by omega) t l
  have HDL : Hid (∀ c : Nat, coinL ⟨p, q, g, k, o, l, m, pt, th, tr, mx, vt, sd⟩ sDeal ((c : Int) + 1) th.toNat = dealL ⟨p, q, g, k, o, l, m, pt, th, tr, mx, vt, sd⟩ (c + 1)) := fun c => by unfold dealL; rw [show ((c + 1 : Nat) : Int) = (c : Int) + 1 by omega]
  obtain ⟨W, hW⟩ : ∃ W, W = w.alloc (.cells #[.int .i64 p, .int .i64 q, .int .i64 g, .int .i64 k, .int .i64 o, .int .i64 l, .int .i64 m, .int .i64 pt, .int .i64 th, .int .i64 tr, .int .i64 mx, .int .i64 vt, .int .i64 sd] 33) := ⟨_, rfl⟩
  have HB : Hid (Below w.heap.size w W) := by unfold Hid; rw [hW]; exact (Below.refl _ _).alloc (Nat.le_refl _) _
  have HX : Hid (BoxN W w.heap.size 33 [.int .i64 p, .int .i64 q, .int .i64 g, .int .i64 k, .int .i64 o, .int .i64 l, .int .i64 m, .int .i64 pt, .int .i64 th, .int .i64 tr, .int .i64 mx, .int .i64 vt, .int .i64 sd]) := by unfold Hid; rw [hW]; exact BoxN.new w _ _
  have HSW : Hid (W.heap.size = w.heap.size + 1) := by unfold Hid; rw [hW]; simp
  have HWW := Lib.hid hW; clear hW
  go_enter Try.func85, Try.ntmps85
  go_wp2_with fail
  rw [← HWW.out]
  try rw [← HSW.out]
  clear HWW HSW
  try (go_wp2_with fail)
  go_loopg [5, 6] tr.toNat (fun gg ov sv wr => ∃ c : Nat, c + gg = tr.toNat ∧ sv = .int .i64 ((c : Int) + 1) ∧ ov = .int .i64 (shaT ⟨p, q, g, k, o, l, m, pt, th, tr, mx, vt, sd⟩ t c) ∧ Below W.heap.size W wr)
  case atStart => exact ⟨0, by omega, rfl, rfl, Below.refl _ _⟩
  case round =>
    obtain ⟨c, hcg, rfl, rfl, hb⟩ := hrel
    have HXr := Lib.hid (HX.out.below hb)
    have hsr := hb.size
    have HBR := Lib.hid hb; clear hb
    have i0 := HXr.out.cell (i := 0) rfl
    have i1 := HXr.out.cell (i := 1) rfl
    have i2 := HXr.out.cell (i := 2) rfl
    have i3 := HXr.out.cell (i := 3) rfl
    have i4 := HXr.out.cell (i := 4) rfl
    have i5 := HXr.out.cell (i := 5) rfl
    have i6 := HXr.out.cell (i := 6) rfl
    have i7 := HXr.out.cell (i := 7) rfl
    have i8 := HXr.out.cell (i := 8) rfl
    have i9 := HXr.out.cell (i := 9) rfl
    have i10 := HXr.out.cell (i := 10) rfl
    have i11 := HXr.out.cell (i := 11) rfl
    have i12 := HXr.out.cell (i := 12) rfl
    by_cases hlt : c < tr.toNat
    · skip
      have hle : (c : Int) + 1 ≤ tr := by omega
      have HKD := Lib.hid (digest_sm (i := (c : Int) + 1) (by omega) (by omega))
      have HDC := Lib.hid (HDL.out c)
      obtain ⟨b0, b1⟩ := HSB.out c
      have HSC := Lib.hid (HSS.out c)
      obtain ⟨y0, y1⟩ := HTB.out (dealL ⟨p, q, g, k, o, l, m, pt, th, tr, mx, vt, sd⟩ (c + 1))
      obtain ⟨u, hu⟩ : ∃ u, shaT ⟨p, q, g, k, o, l, m, pt, th, tr, mx, vt, sd⟩ t c = u := ⟨_, rfl⟩
      rw [hu] at b0 b1 HSC ⊢
      clear hu
      obtain ⟨y, hy⟩ : ∃ y, hornI q t (dealL ⟨p, q, g, k, o, l, m, pt, th, tr, mx, vt, sd⟩ (c + 1)) = y := ⟨_, rfl⟩
      rw [hy] at y0 y1 HSC
      have HY := Lib.hid hy; clear hy
      have ew1 : IntKind.i64.wrap (u + y) = u + y := IntWalk.i64_in _ (by omega)
      have ew2 : IntKind.i64.wrap ((c : Int) + 1 + 1) = (c : Int) + 1 + 1 := IntWalk.i64_in _ (by omega)
      go_wp2_with fail
      refine (spec_nCoefs p q g k o l m pt th tr mx vt sd ((c : Int) + 1) _ HOK.out HKD.out).mono ?_
      rintro e w4 ⟨v4, rfl, hO4, hb4⟩
      rw [HDC.out] at hO4
      have hLB := HDQ.out (c + 1)
      obtain ⟨L, hL⟩ : ∃ L, dealL ⟨p, q, g, k, o, l, m, pt, th, tr, mx, vt, sd⟩ (c + 1) = L := ⟨_, rfl⟩
      rw [hL] at hO4 hLB HY
      clear hL
      obtain ⟨a4, c4, rfl⟩ := hO4.shape
      obtain ⟨n, hn⟩ : ∃ n, L.length = n := ⟨_, rfl⟩
      have H4 : Hid (Ints w4 (.slice a4 L.length c4) L) := hO4.ints
      rw [hn] at H4 ⊢
      have HE := Lib.hid hn; clear hn hO4
      obtain ⟨k1, k2⟩ := H4.out.capMax
      unfold maxLen at k2
      have HX4 := Lib.hid (HXr.out.below hb4)
      have HB4 := Lib.hid (HBR.out.trans (hb4.mono hsr))
      have hs4 := hb4.size
      have HQL := Lib.hid hLB; clear hLB
      clear hb4
      clear i0 i1 i2 i3 i4 i5 i6 i7 i8 i9 i10 i11 i12
      have i0 := HX4.out.cell (i := 0) rfl
      have i1 := HX4.out.cell (i := 1) rfl
      have i2 := HX4.out.cell (i := 2) rfl
      have i3 := HX4.out.cell (i := 3) rfl
      have i4 := HX4.out.cell (i := 4) rfl
      have i5 := HX4.out.cell (i := 5) rfl
      have i6 := HX4.out.cell (i := 6) rfl
      have i7 := HX4.out.cell (i := 7) rfl
      have i8 := HX4.out.cell (i := 8) rfl
      have i9 := HX4.out.cell (i := 9) rfl
      have i10 := HX4.out.cell (i := 10) rfl
      have i11 := HX4.out.cell (i := 11) rfl
      have i12 := HX4.out.cell (i := 12) rfl
      have HN : Hid (hornI q t (L.drop n) = 0) := by unfold Hid; rw [← HE.out, List.drop_length]; rfl
      have e1 : IntKind.i64.wrap ((n : Int) - 1) = (n : Int) - 1 := IntWalk.i64_in _ (by omega)
      go_wp2_with fail
      go_loopg [8, 9] n (fun gg ov iv wz => ∃ (j : Nat) (z : Int), j = gg ∧ j ≤ n ∧ iv = .int .i64 ((j : Int) - 1) ∧ ov = .int .i64 z ∧ Hid (hornI q t (L.drop j) = z) ∧ 0 ≤ z ∧ z < q ∧ Below w4.heap.size w4 wz)
      case atStart => exact ⟨n, 0, rfl, Nat.le_refl _, rfl, rfl, HN.out, by omega, by omega, Below.refl _ _⟩
      case round =>
        obtain ⟨j, z, hjg, hjn, rfl, rfl, HO, z0, z1, hbz⟩ := hrel
        have HXz := Lib.hid (HX4.out.below hbz)
        have HBZ := Lib.hid (HB4.out.trans (hbz.mono HB4.out.size))
        clear i0 i1 i2 i3 i4 i5 i6 i7 i8 i9 i10 i11 i12
        have i0 := HXz.out.cell (i := 0) rfl
        have i1 := HXz.out.cell (i := 1) rfl
        have i2 := HXz.out.cell (i := 2) rfl
        have i3 := HXz.out.cell (i := 3) rfl
        have i4 := HXz.out.cell (i := 4) rfl
        have i5 := HXz.out.cell (i := 5) rfl
        have i6 := HXz.out.cell (i := 6) rfl
        have i7 := HXz.out.cell (i := 7) rfl
        have i8 := HXz.out.cell (i := 8) rfl
        have i9 := HXz.out.cell (i := 9) rfl
        have i10 := HXz.out.cell (i := 10) rfl
        have i11 := HXz.out.cell (i := 11) rfl
        have i12 := HXz.out.cell (i := 12) rfl
        have hpz : ¬ q = 0 := by omega
        have hpz2 : (q == 0) = false := by rw [beq_eq_false_iff_ne]; omega
        cases j with
        | zero =>
          obtain rfl : z = y := by
            have h1 := HO.out
            have h2 := HY.out
            rw [List.drop_zero] at h1
            rw [← h1, h2]
          have et : Int.tmod (u + z) q = (u + z) % q := Int.tmod_eq_emod_of_nonneg (by omega)
          have s0 : 0 ≤ (u + z) % q := Int.emod_nonneg _ (by omega)
          have s1 : (u + z) % q < q := Int.emod_lt_of_pos _ (by omega)
          have ew4 : IntKind.i64.wrap ((u + z) % q) = (u + z) % q := IntWalk.i64_in _ (by omega)
          clear hbz hjg hjn
          go_wp2_with fail
          go_roundg (tr.toNat - (c + 1))
          case measure => omega
          case rel => exact ⟨c + 1, by omega, by go_num, by rw [HSC.out], HBZ.out⟩
        | succ j =>
          have ej : ((j + 1 : Nat) : Int) - 1 = (j : Int) := by omega
          rw [ej]
          clear ej
          have HK : Hid (j < L.length) := by unfold Hid; rw [HE.out]; omega
          obtain ⟨bk, oo, rfl, hcx⟩ := (H4.out.below hbz).at_ (by omega)
          have hy := hcx j (by omega)
          have hyb : 0 ≤ nth L j ∧ nth L j < q := by rw [nth_eq HK.out]; exact HQL.out _ (List.getElem_mem _)
          have HS : Hid (hornI q t (L.drop j) = (z * t + nth L j) % q) := by unfold Hid; rw [hornI_drop HK.out, HO.out]
          clear hcx
          obtain ⟨x, hxx⟩ : ∃ x, nth L j = x := ⟨_, rfl⟩
          rw [hxx] at hy hyb HS
          clear hxx
          obtain ⟨x0, x1⟩ := hyb
          obtain ⟨m0, m1⟩ := mul_bd z0 (show z ≤ 2000000000 by omega) (show 0 ≤ t by omega) (show t ≤ 4 by omega)
          have s0 : 0 ≤ (z * t + x) % q := Int.emod_nonneg _ (by omega)
          have s1 : (z * t + x) % q < q := Int.emod_lt_of_pos _ (by omega)
          have et2 : Int.tmod (z * t + x) q = (z * t + x) % q := Int.tmod_eq_emod_of_nonneg (by omega)
          have ew1' : IntKind.i64.wrap (z * t) = z * t := IntWalk.i64_in _ (by omega)
          have ew3 : IntKind.i64.wrap (z * t + x) = z * t + x := IntWalk.i64_in _ (by omega)
          have ew4 : IntKind.i64.wrap ((z * t + x) % q) = (z * t + x) % q := IntWalk.i64_in _ (by omega)
          have ew5 : IntKind.i64.wrap ((j : Int) - 1) = (j : Int) - 1 := IntWalk.i64_in _ (by omega)
          have hj0 : (0 : Int) ≤ (j : Int) := by omega
          have hj1 : (j : Int) < (n : Int) := by omega
          have HZ := Lib.hid hbz; clear hbz
          go_wp2_with fail
          go_quiet (fail)
          go_wp2_with fail
          go_roundg j
          case measure => omega
          case rel => exact ⟨j, _, rfl, by omega, by go_num, rfl, HS.out, s0, s1, below_drewN HZ.out _⟩
    · obtain rfl : c = tr.toNat := by omega
      have hle : ¬ (tr.toNat : Int) + 1 ≤ tr := by omega
      go_wp2_with fail
      go_ret
      exact ⟨rfl, Below.next HB.out HBR.out⟩
set_option maxRecDepth 100000 in
set_option maxHeartbeats 2000000 in
theorem impl_TrusteeShare (p q g k o l m pt th tr mx vt sd i : Int) (w : World) :
    Calls Try.prog 24 #[.agg #[.int .i64 p, .int .i64 q, .int .i64 g, .int .i64 k, .int .i64 o, .int .i64 l, .int .i64 m, .int .i64 pt, .int .i64 th, .int .i64 tr, .int .i64 mx, .int .i64 vt, .int .i64 sd], .int .i64 i] w fun e w' => e = .returned (.tuple #[.int .i64 (shaR ⟨p, q, g, k, o, l, m, pt, th, tr, mx, vt, sd⟩ i), .bool (shaB ⟨p, q, g, k, o, l, m, pt, th, tr, mx, vt, sd⟩ i)]) ∧ Below w.heap.size w w' := by
  obtain ⟨W, hW⟩ : ∃ W, W = w.alloc (.cells #[.int .i64 p, .int .i64 q, .int .i64 g, .int .i64 k, .int .i64 o, .int .i64 l, .int .i64 m, .int .i64 pt, .int .i64 th, .int .i64 tr, .int .i64 mx, .int .i64 vt, .int .i64 sd] 33) := ⟨_, rfl⟩
  have HB : Hid (Below w.heap.size w W) := by unfold Hid; rw [hW]; exact (Below.refl _ _).alloc (Nat.le_refl _) _
  have HX : Hid (BoxN W w.heap.size 33 [.int .i64 p, .int .i64 q, .int .i64 g, .int .i64 k, .int .i64 o, .int .i64 l, .int .i64 m, .int .i64 pt, .int .i64 th, .int .i64 tr, .int .i64 mx, .int .i64 vt, .int .i64 sd]) := by unfold Hid; rw [hW]; exact BoxN.new w _ _
  have HSW : Hid (W.heap.size = w.heap.size + 1) := by unfold Hid; rw [hW]; simp
  have HWW := Lib.hid hW; clear hW
  cases hP : planB ⟨p, q, g, k, o, l, m, pt, th, tr, mx, vt, sd⟩ with
  | false =>
    have HR : Hid (shaB ⟨p, q, g, k, o, l, m, pt, th, tr, mx, vt, sd⟩ i = false) := by unfold Hid shaB; rw [hP]; rfl
    have HV : Hid (shaR ⟨p, q, g, k, o, l, m, pt, th, tr, mx, vt, sd⟩ i = 0) := by unfold Hid shaR; rw [HR.out]; rfl
    rw [HR.out, HV.out]
    have HP := Lib.hid hP
    clear hP
    go_enter Try.func24, Try.ntmps24
    go_wp2_with fail
    rw [← HWW.out]
    try rw [← HSW.out]
    clear HWW HSW
    have i0 := HX.out.cell (i := 0) rfl
    have i1 := HX.out.cell (i := 1) rfl
    have i2 := HX.out.cell (i := 2) rfl
    have i3 := HX.out.cell (i := 3) rfl
    have i4 := HX.out.cell (i := 4) rfl
    have i5 := HX.out.cell (i := 5) rfl
    have i6 := HX.out.cell (i := 6) rfl
    have i7 := HX.out.cell (i := 7) rfl
    have i8 := HX.out.cell (i := 8) rfl
    have i9 := HX.out.cell (i := 9) rfl
    have i10 := HX.out.cell (i := 10) rfl
    have i11 := HX.out.cell (i := 11) rfl
    have i12 := HX.out.cell (i := 12) rfl
    go_wp2_with fail
    refine (impl_IsValidPlan p q g k o l m pt th tr mx vt sd _).mono ?_
    rintro e w1 ⟨rfl, hb1⟩
    rw [HP.out]
    have HX1 : Hid (BoxN w1 w.heap.size 33 [.int .i64 p, .int .i64 q, .int .i64 g, .int .i64 k, .int .i64 o, .int .i64 l, .int .i64 m, .int .i64 pt, .int .i64 th, .int .i64 tr, .int .i64 mx, .int .i64 vt, .int .i64 sd]) := HX.out.below hb1
    have HB1 := Lib.hid (Below.next HB.out hb1)
    clear hb1 HX
    clear i0 i1 i2 i3 i4 i5 i6 i7 i8 i9 i10 i11 i12
    have i0 := HX1.out.cell (i := 0) rfl
    have i1 := HX1.out.cell (i := 1) rfl
    have i2 := HX1.out.cell (i := 2) rfl
    have i3 := HX1.out.cell (i := 3) rfl
    have i4 := HX1.out.cell (i := 4) rfl
    have i5 := HX1.out.cell (i := 5) rfl
    have i6 := HX1.out.cell (i := 6) rfl
    have i7 := HX1.out.cell (i := 7) rfl
    have i8 := HX1.out.cell (i := 8) rfl
    have i9 := HX1.out.cell (i := 9) rfl
    have i10 := HX1.out.cell (i := 10) rfl
    have i11 := HX1.out.cell (i := 11) rfl
    have i12 := HX1.out.cell (i := 12) rfl
    go_wp2_with fail
    go_ret2
    exact ⟨rfl, HB1.out⟩
  | true =>
    have HP := Lib.hid hP
    have HOK := Lib.hid (planB_ok hP)
    cases hI : decide (1 ≤ i ∧ i ≤ tr) with
    | false =>
      have HI := Lib.hid hI
      have HR : Hid (shaB ⟨p, q, g, k, o, l, m, pt, th, tr, mx, vt, sd⟩ i = false) := by unfold Hid shaB; rw [hP, hI]; rfl
      have HV : Hid (shaR ⟨p, q, g, k, o, l, m, pt, th, tr, mx, vt, sd⟩ i = 0) := by unfold Hid shaR; rw [HR.out]; rfl
      rw [HR.out, HV.out]
      clear hP hI
      go_enter Try.func24, Try.ntmps24
      go_wp2_with fail
      rw [← HWW.out]
      try rw [← HSW.out]
      clear HWW HSW
      have i0 := HX.out.cell (i := 0) rfl
      have i1 := HX.out.cell (i := 1) rfl
      have i2 := HX.out.cell (i := 2) rfl
      have i3 := HX.out.cell (i := 3) rfl
      have i4 := HX.out.cell (i := 4) rfl
      have i5 := HX.out.cell (i := 5) rfl
      have i6 := HX.out.cell (i := 6) rfl
      have i7 := HX.out.cell (i := 7) rfl
      have i8 := HX.out.cell (i := 8) rfl
      have i9 := HX.out.cell (i := 9) rfl
      have i10 := HX.out.cell (i := 10) rfl
      have i11 := HX.out.cell (i := 11) rfl
      have i12 := HX.out.cell (i := 12) rfl
      go_wp2_with fail
      refine (impl_IsValidPlan p q g k o l m pt th tr mx vt sd _).mono ?_
      rintro e w1 ⟨rfl, hb1⟩
      rw [HP.out]
      have HX1 : Hid (BoxN w1 w.heap.size 33 [.int .i64 p, .int .i64 q, .int .i64 g, .int .i64 k, .int .i64 o, .int .i64 l, .int .i64 m, .int .i64 pt, .int .i64 th, .int .i64 tr, .int .i64 mx, .int .i64 vt, .int .i64 sd]) := HX.out.below hb1
      have HB1 := Lib.hid (Below.next HB.out hb1)
      clear hb1 HX
      clear i0 i1 i2 i3 i4 i5 i6 i7 i8 i9 i10 i11 i12
      have i0 := HX1.out.cell (i := 0) rfl
      have i1 := HX1.out.cell (i := 1) rfl
      have i2 := HX1.out.cell (i := 2) rfl
      have i3 := HX1.out.cell (i := 3) rfl
      have i4 := HX1.out.cell (i := 4) rfl
      have i5 := HX1.out.cell (i := 5) rfl
      have i6 := HX1.out.cell (i := 6) rfl
      have i7 := HX1.out.cell (i := 7) rfl
      have i8 := HX1.out.cell (i := 8) rfl
      have i9 := HX1.out.cell (i := 9) rfl
      have i10 := HX1.out.cell (i := 10) rfl
      have i11 := HX1.out.cell (i := 11) rfl
      have i12 := HX1.out.cell (i := 12) rfl
      go_wp2_with fail
      refine (impl_within _ _ _ _).mono ?_
      rintro e w3 ⟨rfl, rfl⟩
      rw [HI.out]
      go_wp2_with fail
      go_ret2
      exact ⟨rfl, HB1.out⟩
    | true =>
      have HI := Lib.hid hI
      have HD : Hid (1 ≤ i ∧ i ≤ 4) := by obtain ⟨_, _⟩ := of_decide_eq_true hI; have := HOK.out.tr; simp only [] at this; unfold Hid; omega
      have HR : Hid (shaB ⟨p, q, g, k, o, l, m, pt, th, tr, mx, vt, sd⟩ i = true) := by unfold Hid shaB; rw [hP, hI]; rfl
      have HV : Hid (shaR ⟨p, q, g, k, o, l, m, pt, th, tr, mx, vt, sd⟩ i = shaT ⟨p, q, g, k, o, l, m, pt, th, tr, mx, vt, sd⟩ i tr.toNat) := by unfold Hid shaR; rw [if_pos HR.out]
      rw [HR.out, HV.out]
      clear hP hI
      go_enter Try.func24, Try.ntmps24
      go_wp2_with fail
      rw [← HWW.out]
      try rw [← HSW.out]
      clear HWW HSW
      have i0 := HX.out.cell (i := 0) rfl
      have i1 := HX.out.cell (i := 1) rfl
      have i2 := HX.out.cell (i := 2) rfl
      have i3 := HX.out.cell (i := 3) rfl
      have i4 := HX.out.cell (i := 4) rfl
      have i5 := HX.out.cell (i := 5) rfl
      have i6 := HX.out.cell (i := 6) rfl
      have i7 := HX.out.cell (i := 7) rfl
      have i8 := HX.out.cell (i := 8) rfl
      have i9 := HX.out.cell (i := 9) rfl
      have i10 := HX.out.cell (i := 10) rfl
      have i11 := HX.out.cell (i := 11) rfl
      have i12 := HX.out.cell (i := 12) rfl
      go_wp2_with fail
      refine (impl_IsValidPlan p q g k o l m pt th tr mx vt sd _).mono ?_
      rintro e w1 ⟨rfl, hb1⟩
      rw [HP.out]
      have HX1 : Hid (BoxN w1 w.heap.size 33 [.int .i64 p, .int .i64 q, .int .i64 g, .int .i64 k, .int .i64 o, .int .i64 l, .int .i64 m, .int .i64 pt, .int .i64 th, .int .i64 tr, .int .i64 mx, .int .i64 vt, .int .i64 sd]) := HX.out.below hb1
      have HB1 := Lib.hid (Below.next HB.out hb1)
      clear hb1 HX
      clear i0 i1 i2 i3 i4 i5 i6 i7 i8 i9 i10 i11 i12
      have i0 := HX1.out.cell (i := 0) rfl
      have i1 := HX1.out.cell (i := 1) rfl
      have i2 := HX1.out.cell (i := 2) rfl
      have i3 := HX1.out.cell (i := 3) rfl
      have i4 := HX1.out.cell (i := 4) rfl
      have i5 := HX1.out.cell (i := 5) rfl
      have i6 := HX1.out.cell (i := 6) rfl
      have i7 := HX1.out.cell (i := 7) rfl
      have i8 := HX1.out.cell (i := 8) rfl
      have i9 := HX1.out.cell (i := 9) rfl
      have i10 := HX1.out.cell (i := 10) rfl
      have i11 := HX1.out.cell (i := 11) rfl
      have i12 := HX1.out.cell (i := 12) rfl
      go_wp2_with fail
      refine (impl_within _ _ _ _).mono ?_
      rintro e w3 ⟨rfl, rfl⟩
      rw [HI.out]
      go_wp2_with fail
      refine (impl_share p q g k o l m pt th tr mx vt sd i _ HOK.out HD.out).mono ?_
      rintro e w4 ⟨rfl, hb4⟩
      have HB4 := Lib.hid (Below.next HB1.out hb4)
      clear hb4
      clear i0 i1 i2 i3 i4 i5 i6 i7 i8 i9 i10 i11 i12
      go_wp2_with fail
      go_ret2
      exact ⟨rfl, HB4.out⟩
set_option maxRecDepth 100000 in
set_option maxHeartbeats 2000000 in
theorem spec_TrusteeShare (p q g k o l m pt th tr mx vt sd i : Int) (w : World) :
    Calls Try.prog 23 #[.agg #[.int .i64 p, .int .i64 q, .int .i64 g, .int .i64 k, .int .i64 o, .int .i64 l, .int .i64 m, .int .i64 pt, .int .i64 th, .int .i64 tr, .int .i64 mx, .int .i64 vt, .int .i64 sd], .int .i64 i] w fun e w' => e = .returned (.tuple #[.int .i64 (shaR ⟨p, q, g, k, o, l, m, pt, th, tr, mx, vt, sd⟩ i), .bool (shaB ⟨p, q, g, k, o, l, m, pt, th, tr, mx, vt, sd⟩ i)]) ∧ Below w.heap.size w w' := by
  obtain ⟨W, hW⟩ : ∃ W, W = w.alloc (.cells #[.int .i64 p, .int .i64 q, .int .i64 g, .int .i64 k, .int .i64 o, .int .i64 l, .int .i64 m, .int .i64 pt, .int .i64 th, .int .i64 tr, .int .i64 mx, .int .i64 vt, .int .i64 sd] 33) := ⟨_, rfl⟩
  have HB : Hid (Below w.heap.size w W) := by unfold Hid; rw [hW]; exact (Below.refl _ _).alloc (Nat.le_refl _) _
  have HX : Hid (BoxN W w.heap.size 33 [.int .i64 p, .int .i64 q, .int .i64 g, .int .i64 k, .int .i64 o, .int .i64 l, .int .i64 m, .int .i64 pt, .int .i64 th, .int .i64 tr, .int .i64 mx, .int .i64 vt, .int .i64 sd]) := by unfold Hid; rw [hW]; exact BoxN.new w _ _
  have HSW : Hid (W.heap.size = w.heap.size + 1) := by unfold Hid; rw [hW]; simp
  have HWW := Lib.hid hW; clear hW
  cases hP : planB ⟨p, q, g, k, o, l, m, pt, th, tr, mx, vt, sd⟩ with
  | false =>
    have HR : Hid (shaB ⟨p, q, g, k, o, l, m, pt, th, tr, mx, vt, sd⟩ i = false) := by unfold Hid shaB; rw [hP]; rfl
    have HV : Hid (shaR ⟨p, q, g, k, o, l, m, pt, th, tr, mx, vt, sd⟩ i = 0) := by unfold Hid shaR; rw [HR.out]; rfl
    rw [HR.out, HV.out]
    have HP := Lib.hid hP
    clear hP
    go_enter Try.func23, Try.ntmps23
    go_wp2_with fail
    rw [← HWW.out]
    try rw [← HSW.out]
    clear HWW HSW
    have i0 := HX.out.cell (i := 0) rfl
    have i1 := HX.out.cell (i := 1) rfl
    have i2 := HX.out.cell (i := 2) rfl
    have i3 := HX.out.cell (i := 3) rfl
    have i4 := HX.out.cell (i := 4) rfl
    have i5 := HX.out.cell (i := 5) rfl
    have i6 := HX.out.cell (i := 6) rfl
    have i7 := HX.out.cell (i := 7) rfl
    have i8 := HX.out.cell (i := 8) rfl
    have i9 := HX.out.cell (i := 9) rfl
    have i10 := HX.out.cell (i := 10) rfl
    have i11 := HX.out.cell (i := 11) rfl
    have i12 := HX.out.cell (i := 12) rfl
    go_wp2_with fail
    refine (spec_nPlan p q g k o l m pt th tr mx vt sd _).mono ?_
    rintro e w1 ⟨rfl, hb1⟩
    rw [HP.out]
    have HX1 : Hid (BoxN w1 w.heap.size 33 [.int .i64 p, .int .i64 q, .int .i64 g, .int .i64 k, .int .i64 o, .int .i64 l, .int .i64 m, .int .i64 pt, .int .i64 th, .int .i64 tr, .int .i64 mx, .int .i64 vt, .int .i64 sd]) := HX.out.below hb1
    have HB1 := Lib.hid (Below.next HB.out hb1)
    clear hb1 HX
    clear i0 i1 i2 i3 i4 i5 i6 i7 i8 i9 i10 i11 i12
    have i0 := HX1.out.cell (i := 0) rfl
    have i1 := HX1.out.cell (i := 1) rfl
    have i2 := HX1.out.cell (i := 2) rfl
    have i3 := HX1.out.cell (i := 3) rfl
    have i4 := HX1.out.cell (i := 4) rfl
    have i5 := HX1.out.cell (i := 5) rfl
    have i6 := HX1.out.cell (i := 6) rfl
    have i7 := HX1.out.cell (i := 7) rfl
    have i8 := HX1.out.cell (i := 8) rfl
    have i9 := HX1.out.cell (i := 9) rfl
    have i10 := HX1.out.cell (i := 10) rfl
    have i11 := HX1.out.cell (i := 11) rfl
    have i12 := HX1.out.cell (i := 12) rfl
    go_wp2_with fail
    go_ret2
    exact ⟨rfl, HB1.out⟩
  | true =>
    have HP := Lib.hid hP
    have HOK := Lib.hid (planB_ok hP)
    cases hI : decide (1 ≤ i ∧ i ≤ tr) with
    | false =>
      have HI := Lib.hid hI
      have HR : Hid (shaB ⟨p, q, g, k, o, l, m, pt, th, tr, mx, vt, sd⟩ i = false) := by unfold Hid shaB; rw [hP, hI]; rfl
      have HV : Hid (shaR ⟨p, q, g, k, o, l, m, pt, th, tr, mx, vt, sd⟩ i = 0) := by unfold Hid shaR; rw [HR.out]; rfl
      rw [HR.out, HV.out]
      clear hP hI
      go_enter Try.func23, Try.ntmps23
      go_wp2_with fail
      rw [← HWW.out]
      try rw [← HSW.out]
      clear HWW HSW
      have i0 := HX.out.cell (i := 0) rfl
      have i1 := HX.out.cell (i := 1) rfl
      have i2 := HX.out.cell (i := 2) rfl
      have i3 := HX.out.cell (i := 3) rfl
      have i4 := HX.out.cell (i := 4) rfl
      have i5 := HX.out.cell (i := 5) rfl
      have i6 := HX.out.cell (i := 6) rfl
      have i7 := HX.out.cell (i := 7) rfl
      have i8 := HX.out.cell (i := 8) rfl
      have i9 := HX.out.cell (i := 9) rfl
      have i10 := HX.out.cell (i := 10) rfl
      have i11 := HX.out.cell (i := 11) rfl
      have i12 := HX.out.cell (i := 12) rfl
      go_wp2_with fail
      refine (spec_nPlan p q g k o l m pt th tr mx vt sd _).mono ?_
      rintro e w1 ⟨rfl, hb1⟩
      rw [HP.out]
      have HX1 : Hid (BoxN w1 w.heap.size 33 [.int .i64 p, .int .i64 q, .int .i64 g, .int .i64 k, .int .i64 o, .int .i64 l, .int .i64 m, .int .i64 pt, .int .i64 th, .int .i64 tr, .int .i64 mx, .int .i64 vt, .int .i64 sd]) := HX.out.below hb1
      have HB1 := Lib.hid (Below.next HB.out hb1)
      clear hb1 HX
      clear i0 i1 i2 i3 i4 i5 i6 i7 i8 i9 i10 i11 i12
      have i0 := HX1.out.cell (i := 0) rfl
      have i1 := HX1.out.cell (i := 1) rfl
      have i2 := HX1.out.cell (i := 2) rfl
      have i3 := HX1.out.cell (i := 3) rfl
      have i4 := HX1.out.cell (i := 4) rfl
      have i5 := HX1.out.cell (i := 5) rfl
      have i6 := HX1.out.cell (i := 6) rfl
      have i7 := HX1.out.cell (i := 7) rfl
      have i8 := HX1.out.cell (i := 8) rfl
      have i9 := HX1.out.cell (i := 9) rfl
      have i10 := HX1.out.cell (i := 10) rfl
      have i11 := HX1.out.cell (i := 11) rfl
      have i12 := HX1.out.cell (i := 12) rfl
      go_wp2_with fail
      refine (spec_l1In _ _ _ _).mono ?_
      rintro e w3 ⟨rfl, rfl⟩
      rw [HI.out]
      go_wp2_with fail
      go_ret2
      exact ⟨rfl, HB1.out⟩
    | true =>
      have HI := Lib.hid hI
      have HD : Hid (1 ≤ i ∧ i ≤ 4) := by obtain ⟨_, _⟩ := of_decide_eq_true hI; have := HOK.out.tr; simp only [] at this; unfold Hid; omega
      have HR : Hid (shaB ⟨p, q, g, k, o, l, m, pt, th, tr, mx, vt, sd⟩ i = true) := by unfold Hid shaB; rw [hP, hI]; rfl
      have HV : Hid (shaR ⟨p, q, g, k, o, l, m, pt, th, tr, mx, vt, sd⟩ i = shaT ⟨p, q, g, k, o, l, m, pt, th, tr, mx, vt, sd⟩ i tr.toNat) := by unfold Hid shaR; rw [if_pos HR.out]
      rw [HR.out, HV.out]
      clear hP hI
      go_enter Try.func23, Try.ntmps23
      go_wp2_with fail
      rw [← HWW.out]
      try rw [← HSW.out]
      clear HWW HSW
      have i0 := HX.out.cell (i := 0) rfl
      have i1 := HX.out.cell (i := 1) rfl
      have i2 := HX.out.cell (i := 2) rfl
      have i3 := HX.out.cell (i := 3) rfl
      have i4 := HX.out.cell (i := 4) rfl
      have i5 := HX.out.cell (i := 5) rfl
      have i6 := HX.out.cell (i := 6) rfl
      have i7 := HX.out.cell (i := 7) rfl
      have i8 := HX.out.cell (i := 8) rfl
      have i9 := HX.out.cell (i := 9) rfl
      have i10 := HX.out.cell (i := 10) rfl
      have i11 := HX.out.cell (i := 11) rfl
      have i12 := HX.out.cell (i := 12) rfl
      go_wp2_with fail
      refine (spec_nPlan p q g k o l m pt th tr mx vt sd _).mono ?_
      rintro e w1 ⟨rfl, hb1⟩
      rw [HP.out]
      have HX1 : Hid (BoxN w1 w.heap.size 33 [.int .i64 p, .int .i64 q, .int .i64 g, .int .i64 k, .int .i64 o, .int .i64 l, .int .i64 m, .int .i64 pt, .int .i64 th, .int .i64 tr, .int .i64 mx, .int .i64 vt, .int .i64 sd]) := HX.out.below hb1
      have HB1 := Lib.hid (Below.next HB.out hb1)
      clear hb1 HX
      clear i0 i1 i2 i3 i4 i5 i6 i7 i8 i9 i10 i11 i12
      have i0 := HX1.out.cell (i := 0) rfl
      have i1 := HX1.out.cell (i := 1) rfl
      have i2 := HX1.out.cell (i := 2) rfl
      have i3 := HX1.out.cell (i := 3) rfl
      have i4 := HX1.out.cell (i := 4) rfl
      have i5 := HX1.out.cell (i := 5) rfl
      have i6 := HX1.out.cell (i := 6) rfl
      have i7 := HX1.out.cell (i := 7) rfl
      have i8 := HX1.out.cell (i := 8) rfl
      have i9 := HX1.out.cell (i := 9) rfl
      have i10 := HX1.out.cell (i := 10) rfl
      have i11 := HX1.out.cell (i := 11) rfl
      have i12 := HX1.out.cell (i := 12) rfl
      go_wp2_with fail
      refine (spec_l1In _ _ _ _).mono ?_
      rintro e w3 ⟨rfl, rfl⟩
      rw [HI.out]
      go_wp2_with fail
      refine (spec_nShare p q g k o l m pt th tr mx vt sd i _ HOK.out HD.out).mono ?_
      rintro e w4 ⟨rfl, hb4⟩
      have HB4 := Lib.hid (Below.next HB1.out hb4)
      clear hb4
      clear i0 i1 i2 i3 i4 i5 i6 i7 i8 i9 i10 i11 i12
      go_wp2_with fail
      go_ret2
      exact ⟨rfl, HB4.out⟩
end Go.Proofs.Ytcpigedjblkcfaa
