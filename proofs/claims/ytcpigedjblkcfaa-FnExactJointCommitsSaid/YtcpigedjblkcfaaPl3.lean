/- Plans of elections: authors, secrets, coins: plain laws, walks. -/
import Derived.Test.YtcpigedjblkcfaaPl2
import Derived.Test.YtcpigedjblkcfaaHashS
namespace Go.Proofs.Ytcpigedjblkcfaa
open Go.RowKit
set_option linter.unusedSimpArgs false
set_option linter.unusedVariables false

/-- "author" -/
def sAuth : ByteArray := { data := #[97, 117, 116, 104, 111, 114] }
/-- "deal" -/
def sDeal : ByteArray := { data := #[100, 101, 97, 108] }
/-- the number of a plan's authors -/
def authI (d : PlanD) : Int := 1 + d.tr + d.mx + d.vt
/-- the number of a valid plan's authors, else nought -/
noncomputable def autR (d : PlanD) : Int := if planB d = true then authI d else 0
/-- what a valid plan's numbers keep to -/
structure OkPl (d : PlanD) : Prop where
  gd : goodG ⟨d.p, d.q, d.g⟩ = true
  q8 : 7 < d.q
  tr : 1 ≤ d.tr ∧ d.tr ≤ 4
  th : 1 ≤ d.th ∧ d.th ≤ d.tr
  mx : 0 ≤ d.mx ∧ d.mx ≤ 3
  vt : 1 ≤ d.vt ∧ d.vt ≤ 12
  sd : digestB d.sd = true
theorem planB_ok {d : PlanD} (h : planB d = true) : OkPl d := by
  unfold planB at h
  simp only [Bool.and_eq_true, Bool.not_eq_true', decide_eq_true_iff, decide_eq_false_iff_not] at h
  obtain ⟨h1, h2, h3, h4, h5, h6, h7, _, _⟩ := h
  exact ⟨(sealB_good h1).1, by omega, h3, h4, h5, h6, h7⟩
/-- an author's secret -/
def secI (d : PlanD) (i : Int) : Int := hashOf (lab sAuth ++ [d.sd, i]) % d.q
/-- one of the exponents for a label -/
def coinI (d : PlanD) (s : ByteArray) (i : Int) (k : Nat) : Int := hashOf (lab s ++ [d.sd, i, (k : Int)]) % d.q
/-- the exponents for a label -/
def coinL (d : PlanD) (s : ByteArray) (i : Int) (n : Nat) : List Int := tab n fun k => coinI d s i k
theorem coinL_length (d : PlanD) (s : ByteArray) (i : Int) (n : Nat) : (coinL d s i n).length = n := tab_length _ _
theorem coinL_succ (d : PlanD) (s : ByteArray) (i : Int) (n : Nat) : coinL d s i (n + 1) = coinL d s i n ++ [coinI d s i n] := tab_succ _ _
theorem coinI_bd {d : PlanD} (h : 0 < d.q) (s : ByteArray) (i : Int) (k : Nat) : 0 ≤ coinI d s i k ∧ coinI d s i k < d.q := ⟨Int.emod_nonneg _ (by omega), Int.emod_lt_of_pos _ h⟩
theorem lab2_ok {s : ByteArray} {a b : Int} (hs : s.size ≤ 40) (ha : digestB a = true) (hb : digestB b = true) : labelledB s [a, b] = true ∧ labelledI s [a, b] = hashOf (lab s ++ [a, b]) := by
  have h : labelledB s [a, b] = true := by rw [← l3B_labelled]; unfold l3B; simp [ha, hb]; omega
  exact ⟨h, by unfold labelledI; rw [if_pos h]⟩
theorem lab3_ok {s : ByteArray} {a b c : Int} (hs : s.size ≤ 40) (ha : digestB a = true) (hb : digestB b = true) (hc : digestB c = true) : labelledB s [a, b, c] = true ∧ labelledI s [a, b, c] = hashOf (lab s ++ [a, b, c]) := by
  have h : labelledB s [a, b, c] = true := by rw [← l3B_labelled]; unfold l3B; simp [ha, hb, hc]; omega
  exact ⟨h, by unfold labelledI; rw [if_pos h]⟩
theorem impl_authors (p q g k o l m pt th tr mx vt sd : Int) (w : World) (h : OkPl ⟨p, q, g, k, o, l, m, pt, th, tr, mx, vt, sd⟩) :
    Calls Try.prog 75 #[.agg #[.int .i64 p, .int .i64 q, .int .i64 g, .int .i64 k, .int .i64 o, .int .i64 l, .int .i64 m, .int .i64 pt, .int .i64 th, .int .i64 tr, .int .i64 mx, .int .i64 vt, .int .i64 sd]] w fun e w' => e = .returned (.int .i64 (authI ⟨p, q, g, k, o, l, m, pt, th, tr, mx, vt, sd⟩)) ∧ Below w.heap.size w w' := by
  have HA : Hid (authI ⟨p, q, g, k, o, l, m, pt, th, tr, mx, vt, sd⟩ = 1 + tr + mx + vt) := rfl
  rw [HA.out]
  obtain ⟨_, _, ⟨t1, t2⟩, _, ⟨m1, m2⟩, ⟨v1, v2⟩, _⟩ := h
  simp only [] at t1 t2 m1 m2 v1 v2
  obtain ⟨W, hW⟩ : ∃ W, W = w.alloc (.cells #[.int .i64 p, .int .i64 q, .int .i64 g, .int .i64 k, .int .i64 o, .int .i64 l, .int .i64 m, .int .i64 pt, .int .i64 th, .int .i64 tr, .int .i64 mx, .int .i64 vt, .int .i64 sd] 33) := ⟨_, rfl⟩
  have HB : Hid (Below w.heap.size w W) := by unfold Hid; rw [hW]; exact (Below.refl _ _).alloc (Nat.le_refl _) _
  have HX : Hid (BoxN W w.heap.size 33 [.int .i64 p, .int .i64 q, .int .i64 g, .int .i64 k, .int .i64 o, .int .i64 l, .int .i64 m, .int .i64 pt, .int .i64 th, .int .i64 tr, .int .i64 mx, .int .i64 vt, .int .i64 sd]) := by unfold Hid; rw [hW]; exact BoxN.new w _ _
  have HSW : Hid (W.heap.size = w.heap.size + 1) := by unfold Hid; rw [hW]; simp
  have HWW := Lib.hid hW; clear hW
  go_enter Try.func75, Try.ntmps75
  go_wp2_with fail
  rw [← HWW.out]
  try rw [← HSW.out]
  clear HWW HSW
  have i0 := HX.out.cell (i := 0) rfl
  have i1 := HX.out.cell (i := 1) rfl
  have i2 := HX.out.cell (i := 2) rfl
  have i3 := HX.out.cell (i := 3) rfl
  have i4 := HX.out.cell (i := 4) rfl
  have i5 := HX.out.cell (i := 5) rfl
  have i6 := HX.out.cell (i := 6) rfl
  have i7 := HX.out.cell (i := 7) rfl
  have i8 := HX.out.cell (i := 8) rfl
  have i9 := HX.out.cell (i := 9) rfl
  have i10 := HX.out.cell (i := 10) rfl
  have i11 := HX.out.cell (i := 11) rfl
  have i12 := HX.out.cell (i := 12) rfl
  go_wp2_with fail
  go_ret
  exact ⟨rfl, HB.out⟩
theorem spec_nAuthors (p q g k o l m pt th tr mx vt sd : Int) (w : World) (h : OkPl ⟨p, q, g, k, o, l, m, pt, th, tr, mx, vt, sd⟩) :
    Calls Try.prog 72 #[.agg #[.int .i64 p, .int .i64 q, .int .i64 g, .int .i64 k, .int .i64 o, .int .i64 l, .int .i64 m, .int .i64 pt, .int .i64 th, .int .i64 tr, .int .i64 mx, .int .i64 vt, .int .i64 sd]] w fun e w' => e = .returned (.int .i64 (authI ⟨p, q, g, k, o, l, m, pt, th, tr, mx, vt, sd⟩)) ∧ Below w.heap.size w w' := by
  have HA : Hid (authI ⟨p, q, g, k, o, l, m, pt, th, tr, mx, vt, sd⟩ = 1 + tr + mx + vt) := rfl
  rw [HA.out]
  obtain ⟨_, _, ⟨t1, t2⟩, _, ⟨m1, m2⟩, ⟨v1, v2⟩, _⟩ := h
  simp only [] at t1 t2 m1 m2 v1 v2
  obtain ⟨W, hW⟩ : ∃ W, W = w.alloc (.cells #[.int .i64 p, .int .i64 q, .int .i64 g, .int .i64 k, .int .i64 o, .int .i64 l, .int .i64 m, .int .i64 pt, .int .i64 th, .int .i64 tr, .int .i64 mx, .int .i64 vt, .int .i64 sd] 33) := ⟨_, rfl⟩
  have HB : Hid (Below w.heap.size w W) := by unfold Hid; rw [hW]; exact (Below.refl _ _).alloc (Nat.le_refl _) _
  have HX : Hid (BoxN W w.heap.size 33 [.int .i64 p, .int .i64 q, .int .i64 g, .int .i64 k, .int .i64 o, .int .i64 l, .int .i64 m, .int .i64 pt, .int .i64 th, .int .i64 tr, .int .i64 mx, .int .i64 vt, .int .i64 sd]) := by unfold Hid; rw [hW]; exact BoxN.new w _ _
  have HSW : Hid (W.heap.size = w.heap.size + 1) := by unfold Hid; rw [hW]; simp
  have HWW := Lib.hid hW; clear hW
  go_enter Try.func72, Try.ntmps72
  go_wp2_with fail
  rw [← HWW.out]
  try rw [← HSW.out]
  clear HWW HSW
  have i0 := HX.out.cell (i := 0) rfl
  have i1 := HX.out.cell (i := 1) rfl
  have i2 := HX.out.cell (i := 2) rfl
  have i3 := HX.out.cell (i := 3) rfl
  have i4 := HX.out.cell (i := 4) rfl
  have i5 := HX.out.cell (i := 5) rfl
  have i6 := HX.out.cell (i := 6) rfl
  have i7 := HX.out.cell (i := 7) rfl
  have i8 := HX.out.cell (i := 8) rfl
  have i9 := HX.out.cell (i := 9) rfl
  have i10 := HX.out.cell (i := 10) rfl
  have i11 := HX.out.cell (i := 11) rfl
  have i12 := HX.out.cell (i := 12) rfl
  go_wp2_with fail
  go_ret
  exact ⟨rfl, HB.out⟩
set_option maxRecDepth 100000 in
set_option maxHeartbeats 2000000 in
theorem impl_AuthorsOf (p q g k o l m pt th tr mx vt sd : Int) (w : World) :
    Calls Try.prog 15 #[.agg #[.int .i64 p, .int .i64 q, .int .i64 g, .int .i64 k, .int .i64 o, .int .i64 l, .int .i64 m, .int .i64 pt, .int .i64 th, .int .i64 tr, .int .i64 mx, .int .i64 vt, .int .i64 sd]] w fun e w' => e = .returned (.tuple #[.int .i64 (autR ⟨p, q, g, k, o, l, m, pt, th, tr, mx, vt, sd⟩), .bool (planB ⟨p, q, g, k, o, l, m, pt, th, tr, mx, vt, sd⟩)]) ∧ Below w.heap.size w w' := by
  obtain ⟨W, hW⟩ : ∃ W, W = w.alloc (.cells #[.int .i64 p, .int .i64 q, .int .i64 g, .int .i64 k, .int .i64 o, .int .i64 l, .int .i64 m, .int .i64 pt, .int .i64 th, .int .i64 tr, .int .i64 mx, .int .i64 vt, .int .i64 sd] 33) := ⟨_, rfl⟩
  have HB : Hid (Below w.heap.size w W) := by unfold Hid; rw [hW]; exact (Below.refl _ _).alloc (Nat.le_refl _) _
  have HX : Hid (BoxN W w.heap.size 33 [.int .i64 p, .int .i64 q, .int .i64 g, .int .i64 k, .int .i64 o, .int .i64 l, .int .i64 m, .int .i64 pt, .int .i64 th, .int .i64 tr, .int .i64 mx, .int .i64 vt, .int .i64 sd]) := by unfold Hid; rw [hW]; exact BoxN.new w _ _
  have HSW : Hid (W.heap.size = w.heap.size + 1) := by unfold Hid; rw [hW]; simp
  have HWW := Lib.hid hW; clear hW
  cases hP : planB ⟨p, q, g, k, o, l, m, pt, th, tr, mx, vt, sd⟩ with
  | false =>
    have HV : Hid (autR ⟨p, q, g, k, o, l, m, pt, th, tr, mx, vt, sd⟩ = 0) := by unfold Hid autR; rw [if_neg (by rw [hP]; decide)]
    rw [HV.out]
    have HP := Lib.hid hP
    clear hP
    go_enter Try.func15, Try.ntmps15
    go_wp2_with fail
    rw [← HWW.out]
    try rw [← HSW.out]
    clear HWW HSW
    have i0 := HX.out.cell (i := 0) rfl
    have i1 := HX.out.cell (i := 1) rfl
    have i2 := HX.out.cell (i := 2) rfl
    have i3 := HX.out.cell (i := 3) rfl
    have i4 := HX.out.cell (i := 4) rfl
    have i5 := HX.out.cell (i := 5) rfl
    have i6 := HX.out.cell (i := 6) rfl
    have i7 := HX.out.cell (i := 7) rfl
    have i8 := HX.out.cell (i := 8) rfl
    have i9 := HX.out.cell (i := 9) rfl
    have i10 := HX.out.cell (i := 10) rfl
    have i11 := HX.out.cell (i := 11) rfl
    have i12 := HX.out.cell (i := 12) rfl
    go_wp2_with fail
    refine (impl_IsValidPlan p q g k o l m pt th tr mx vt sd _).mono ?_
    rintro e w1 ⟨rfl, hb1⟩
    rw [HP.out]
    have HX1 : Hid (BoxN w1 w.heap.size 33 [.int .i64 p, .int .i64 q, .int .i64 g, .int .i64 k, .int .i64 o, .int .i64 l, .int .i64 m, .int .i64 pt, .int .i64 th, .int .i64 tr, .int .i64 mx, .int .i64 vt, .int .i64 sd]) := HX.out.below hb1
    have HB1 := Lib.hid (Below.next HB.out hb1)
    clear hb1 HX
    clear i0 i1 i2 i3 i4 i5 i6 i7 i8 i9 i10 i11 i12
    have i0 := HX1.out.cell (i := 0) rfl
    have i1 := HX1.out.cell (i := 1) rfl
    have i2 := HX1.out.cell (i := 2) rfl
    have i3 := HX1.out.cell (i := 3) rfl
    have i4 := HX1.out.cell (i := 4) rfl
    have i5 := HX1.out.cell (i := 5) rfl
    have i6 := HX1.out.cell (i := 6) rfl
    have i7 := HX1.out.cell (i := 7) rfl
    have i8 := HX1.out.cell (i := 8) rfl
    have i9 := HX1.out.cell (i := 9) rfl
    have i10 := HX1.out.cell (i := 10) rfl
    have i11 := HX1.out.cell (i := 11) rfl
    have i12 := HX1.out.cell (i := 12) rfl
    go_wp2_with fail
    go_ret2
    exact ⟨rfl, HB1.out⟩
  | true =>
    have HP := Lib.hid hP
    have HOK := Lib.hid (planB_ok hP)
    have HV : Hid (autR ⟨p, q, g, k, o, l, m, pt, th, tr, mx, vt, sd⟩ = authI ⟨p, q, g, k, o, l, m, pt, th, tr, mx, vt, sd⟩) := by unfold Hid autR; rw [if_pos hP]
    rw [HV.out]
    clear hP
    go_enter Try.func15, Try.ntmps15
    go_wp2_with fail
    rw [← HWW.out]
    try rw [← HSW.out]
    clear HWW HSW
    have i0 := HX.out.cell (i := 0) rfl
    have i1 := HX.out.cell (i := 1) rfl
    have i2 := HX.out.cell (i := 2) rfl
    have i3 := HX.out.cell (i := 3) rfl
    have i4 := HX.out.cell (i := 4) rfl
    have i5 := HX.out.cell (i := 5) rfl
    have i6 := HX.out.cell (i := 6) rfl
    have i7 := HX.out.cell (i := 7) rfl
    have i8 := HX.out.cell (i := 8) rfl
    have i9 := HX.out.cell (i := 9) rfl
    have i10 := HX.out.cell (i := 10) rfl
    have i11 := HX.out.cell (i := 11) rfl
    have i12 := HX.out.cell (i := 12) rfl
    go_wp2_with fail
    refine (impl_IsValidPlan p q g k o l m pt th tr mx vt sd _).mono ?_
    rintro e w1 ⟨rfl, hb1⟩
    rw [HP.out]
    have HX1 : Hid (BoxN w1 w.heap.size 33 [.int .i64 p, .int .i64 q, .int .i64 g, .int .i64 k, .int .i64 o, .int .i64 l, .int .i64 m, .int .i64 pt, .int .i64 th, .int .i64 tr, .int .i64 mx, .int .i64 vt, .int .i64 sd]) := HX.out.below hb1
    have HB1 := Lib.hid (Below.next HB.out hb1)
    clear hb1 HX
    clear i0 i1 i2 i3 i4 i5 i6 i7 i8 i9 i10 i11 i12
    have i0 := HX1.out.cell (i := 0) rfl
    have i1 := HX1.out.cell (i := 1) rfl
    have i2 := HX1.out.cell (i := 2) rfl
    have i3 := HX1.out.cell (i := 3) rfl
    have i4 := HX1.out.cell (i := 4) rfl
    have i5 := HX1.out.cell (i := 5) rfl
    have i6 := HX1.out.cell (i := 6) rfl
    have i7 := HX1.out.cell (i := 7) rfl
    have i8 := HX1.out.cell (i := 8) rfl
    have i9 := HX1.out.cell (i := 9) rfl
    have i10 := HX1.out.cell (i := 10) rfl
    have i11 := HX1.out.cell (i := 11) rfl
    have i12 := HX1.out.cell (i := 12) rfl
    go_wp2_with fail
    refine (impl_authors p q g k o l m pt th tr mx vt sd _ HOK.out).mono ?_
    rintro e w2 ⟨rfl, hb2⟩
    have HB2 := Lib.hid (Below.next HB1.out hb2)
    clear hb2
    clear i0 i1 i2 i3 i4 i5 i6 i7 i8 i9 i10 i11 i12
    go_wp2_with fail
    go_ret2
    exact ⟨rfl, HB2.out⟩
set_option maxRecDepth 100000 in
set_option maxHeartbeats 2000000 in
theorem spec_AuthorsOf (p q g k o l m pt th tr mx vt sd : Int) (w : World) :
    Calls Try.prog 13 #[.agg #[.int .i64 p, .int .i64 q, .int .i64 g, .int .i64 k, .int .i64 o, .int .i64 l, .int .i64 m, .int .i64 pt, .int .i64 th, .int .i64 tr, .int .i64 mx, .int .i64 vt, .int .i64 sd]] w fun e w' => e = .returned (.tuple #[.int .i64 (autR ⟨p, q, g, k, o, l, m, pt, th, tr, mx, vt, sd⟩), .bool (planB ⟨p, q, g, k, o, l, m, pt, th, tr, mx, vt, sd⟩)]) ∧ Below w.heap.size w w' := by
  obtain ⟨W, hW⟩ : ∃ W, W = w.alloc (.cells #[.int .i64 p, .int .i64 q, .int .i64 g, .int .i64 k, .int .i64 o, .int .i64 l, .int .i64 m, .int .i64 pt, .int .i64 th, .int .i64 tr, .int .i64 mx, .int .i64 vt, .int .i64 sd] 33) := ⟨_, rfl⟩
  have HB : Hid (Below w.heap.size w W) := by unfold Hid; rw [hW]; exact (Below.refl _ _).alloc (Nat.le_refl _) _
  have HX : Hid (BoxN W w.heap.size 33 [.int .i64 p, .int .i64 q, .int .i64 g, .int .i64 k, .int .i64 o, .int .i64 l, .int .i64 m, .int .i64 pt, .int .i64 th, .int .i64 tr, .int .i64 mx, .int .i64 vt, .int .i64 sd]) := by unfold Hid; rw [hW]; exact BoxN.new w _ _
  have HSW : Hid (W.heap.size = w.heap.size + 1) := by unfold Hid; rw [hW]; simp
  have HWW := Lib.hid hW; clear hW
  cases hP : planB ⟨p, q, g, k, o, l, m, pt, th, tr, mx, vt, sd⟩ with
  | false =>
    have HV : Hid (autR ⟨p, q, g, k, o, l, m, pt, th, tr, mx, vt, sd⟩ = 0) := by unfold Hid autR; rw [if_neg (by rw [hP]; decide)]
    rw [HV.out]
    have HP := Lib.hid hP
    clear hP
    go_enter Try.func13, Try.ntmps13
    go_wp2_with fail
    rw [← HWW.out]
    try rw [← HSW.out]
    clear HWW HSW
    have i0 := HX.out.cell (i := 0) rfl
    have i1 := HX.out.cell (i := 1) rfl
    have i2 := HX.out.cell (i := 2) rfl
    have i3 := HX.out.cell (i := 3) rfl
    have i4 := HX.out.cell (i := 4) rfl
    have i5 := HX.out.cell (i := 5) rfl
    have i6 := HX.out.cell (i := 6) rfl
    have i7 := HX.out.cell (i := 7) rfl
    have i8 := HX.out.cell (i := 8) rfl
    have i9 := HX.out.cell (i := 9) rfl
    have i10 := HX.out.cell (i := 10) rfl
    have i11 := HX.out.cell (i := 11) rfl
    have i12 := HX.out.cell (i := 12) rfl
    go_wp2_with fail
    refine (spec_nPlan p q g k o l m pt th tr mx vt sd _).mono ?_
    rintro e w1 ⟨rfl, hb1⟩
    rw [HP.out]
    have HX1 : Hid (BoxN w1 w.heap.size 33 [.int .i64 p, .int .i64 q, .int .i64 g, .int .i64 k, .int .i64 o, .int .i64 l, .int .i64 m, .int .i64 pt, .int .i64 th, .int .i64 tr, .int .i64 mx, .int .i64 vt, .int .i64 sd]) := HX.out.below hb1
    have HB1 := Lib.hid (Below.next HB.out hb1)
    clear hb1 HX
    clear i0 i1 i2 i3 i4 i5 i6 i7 i8 i9 i10 i11 i12
    have i0 := HX1.out.cell (i := 0) rfl
    have i1 := HX1.out.cell (i := 1) rfl
    have i2 := HX1.out.cell (i := 2) rfl
    have i3 := HX1.out.cell (i := 3) rfl
    have i4 := HX1.out.cell (i := 4) rfl
    have i5 := HX1.out.cell (i := 5) rfl
    have i6 := HX1.out.cell (i := 6) rfl
    have i7 := HX1.out.cell (i := 7) rfl
    have i8 := HX1.out.cell (i := 8) rfl
    have i9 := HX1.out.cell (i := 9) rfl
    have i10 := HX1.out.cell (i := 10) rfl
    have i11 := HX1.out.cell (i := 11) rfl
    have i12 := HX1.out.cell (i := 12) rfl
    go_wp2_with fail
    go_ret2
    exact ⟨rfl, HB1.out⟩
  | true =>
    have HP := Lib.hid hP
    have HOK := Lib.hid (planB_ok hP)
    have HV : Hid (autR ⟨p, q, g, k, o, l, m, pt, th, tr, mx, vt, sd⟩ = authI ⟨p, q, g, k, o, l, m, pt, th, tr, mx, vt, sd⟩) := by unfold Hid autR; rw [if_pos hP]
    rw [HV.out]
    clear hP
    go_enter Try.func13, Try.ntmps13
    go_wp2_with fail
    rw [← HWW.out]
    try rw [← HSW.out]
    clear HWW HSW
    have i0 := HX.out.cell (i := 0) rfl
    have i1 := HX.out.cell (i := 1) rfl
    have i2 := HX.out.cell (i := 2) rfl
    have i3 := HX.out.cell (i := 3) rfl
    have i4 := HX.out.cell (i := 4) rfl
    have i5 := HX.out.cell (i := 5) rfl
    have i6 := HX.out.cell (i := 6) rfl
    have i7 := HX.out.cell (i := 7) rfl
    have i8 := HX.out.cell (i := 8) rfl
    have i9 := HX.out.cell (i := 9) rfl
    have i10 := HX.out.cell (i := 10) rfl
    have i11 := HX.out.cell (i := 11) rfl
    have i12 := HX.out.cell (i := 12) rfl
    go_wp2_with fail
    refine (spec_nPlan p q g k o l m pt th tr mx vt sd _).mono ?_
    rintro e w1 ⟨rfl, hb1⟩
    rw [HP.out]
    have HX1 : Hid (BoxN w1 w.heap.size 33 [.int .i64 p, .int .i64 q, .int .i64 g, .int .i64 k, .int .i64 o, .int .i64 l, .int .i64 m, .int .i64 pt, .int .i64 th, .int .i64 tr, .int .i64 mx, .int .i64 vt, .int .i64 sd]) := HX.out.below hb1
    have HB1 := Lib.hid (Below.next HB.out hb1)
    clear hb1 HX
    clear i0 i1 i2 i3 i4 i5 i6 i7 i8 i9 i10 i11 i12
    have i0 := HX1.out.cell (i := 0) rfl
    have i1 := HX1.out.cell (i := 1) rfl
    have i2 := HX1.out.cell (i := 2) rfl
    have i3 := HX1.out.cell (i := 3) rfl
    have i4 := HX1.out.cell (i := 4) rfl
    have i5 := HX1.out.cell (i := 5) rfl
    have i6 := HX1.out.cell (i := 6) rfl
    have i7 := HX1.out.cell (i := 7) rfl
    have i8 := HX1.out.cell (i := 8) rfl
    have i9 := HX1.out.cell (i := 9) rfl
    have i10 := HX1.out.cell (i := 10) rfl
    have i11 := HX1.out.cell (i := 11) rfl
    have i12 := HX1.out.cell (i := 12) rfl
    go_wp2_with fail
    refine (spec_nAuthors p q g k o l m pt th tr mx vt sd _ HOK.out).mono ?_
    rintro e w2 ⟨rfl, hb2⟩
    have HB2 := Lib.hid (Below.next HB1.out hb2)
    clear hb2
    clear i0 i1 i2 i3 i4 i5 i6 i7 i8 i9 i10 i11 i12
    go_wp2_with fail
    go_ret2
    exact ⟨rfl, HB2.out⟩
end Go.Proofs.Ytcpigedjblkcfaa
