/- Proofs (three slices of integers) as a kind. -/
import Derived.Test.YtlkhkoemfmjloaaKinds
namespace Go.Proofs.Ytlkhkoemfmjloaa
open Go.RowKit
set_option linter.unusedSimpArgs false
set_option linter.unusedVariables false

structure ProofD where
  c : List Int
  h : List Int
  r : List Int
deriving DecidableEq
def ProofD.cnt (d : ProofD) : Nat := d.c.length + d.h.length + d.r.length
theorem ProofD.ext_iff' {a b : ProofD} : a = b ↔ a.c = b.c ∧ a.h = b.h ∧ a.r = b.r := by
  cases a; cases b; simp
def RdP (w : World) (v : Value) (d : ProofD) : Prop := ∃ a b c, v = .agg #[a, b, c] ∧ Ints w a d.c ∧ Ints w b d.h ∧ Ints w c d.r
def OwnP (w : World) (lo hi : Nat) (v : Value) (d : ProofD) : Prop :=
  ∃ a b c l1 h1 l2 h2 l3 h3, v = .agg #[a, b, c] ∧ InI w l1 h1 a d.c ∧ InI w l2 h2 b d.h ∧ InI w l3 h3 c d.r ∧
    (lo ≤ l1 ∧ h1 ≤ hi) ∧ (lo ≤ l2 ∧ h2 ≤ hi) ∧ (lo ≤ l3 ∧ h3 ≤ hi) ∧ (h1 ≤ l2 ∨ h2 ≤ l1) ∧ (h1 ≤ l3 ∨ h3 ≤ l1) ∧ (h2 ≤ l3 ∨ h3 ≤ l2)
def kProof : Kind ProofD where
  rd := RdP
  own := OwnP
  rd_below := by
    rintro w w' v d ⟨a, b, c, e, h1, h2, h3⟩ hb
    exact ⟨a, b, c, e, h1.below hb, h2.below hb, h3.below hb⟩
  own_rd := by
    rintro w lo hi v d ⟨a, b, c, _, _, _, _, _, _, e, h1, h2, h3, _⟩
    exact ⟨a, b, c, e, h1.reads, h2.reads, h3.reads⟩
  own_frame := by
    rintro w w' lo hi v d ⟨a, b, c, l1, h1, l2, h2, l3, h3, e, k1, k2, k3, p1, p2, p3, r⟩ hf
    exact ⟨a, b, c, l1, h1, l2, h2, l3, h3, e, kInts.own_frame k1 (fun k q1 q2 q3 => hf k (by omega) (by omega) q3), kInts.own_frame k2 (fun k q1 q2 q3 => hf k (by omega) (by omega) q3), kInts.own_frame k3 (fun k q1 q2 q3 => hf k (by omega) (by omega) q3), p1, p2, p3, r⟩
  own_mono := by
    rintro w lo hi lo' hi' v d ⟨a, b, c, l1, h1, l2, h2, l3, h3, e, k1, k2, k3, p1, p2, p3, r⟩ q1 q2
    exact ⟨a, b, c, l1, h1, l2, h2, l3, h3, e, k1, k2, k3, by omega, by omega, by omega, r⟩
theorem OwnP.shape {w : World} {lo hi : Nat} {v : Value} {d : ProofD} (h : OwnP w lo hi v d) : ∃ a1 a2 a3 b1 b2 b3 c1 c2 c3, v = .agg #[.slice a1 a2 a3, .slice b1 b2 b3, .slice c1 c2 c3] := by
  obtain ⟨a, b, c, _, _, _, _, _, _, e, h1, h2, h3, _⟩ := h
  obtain ⟨a1, a2, a3, rfl⟩ := Ints.shape h1.reads
  obtain ⟨b1, b2, b3, rfl⟩ := Ints.shape h2.reads
  obtain ⟨c1, c2, c3, rfl⟩ := Ints.shape h3.reads
  exact ⟨_, _, _, _, _, _, _, _, _, e⟩
theorem sz_I64 {w : World} {v : Value} {l : List Int} {left : Int} (h : Ints w v l) (h0 : 0 ≤ left) (h1 : left ≤ 1000000000) : I64 (left - l.length) := by
  have := h.len64
  unfold I64 at *; omega
set_option maxHeartbeats 1000000 in
theorem laws_szProof (v : Value) (d : ProofD) (left : Int) (w : World) (h : RdP w v d) (h0 : 0 ≤ left) (h1 : left ≤ 1000000000) :
    Calls Try.prog 24 #[v, .int .i64 left] w fun e w' => (∃ r : Int, e = .returned (.int .i64 r) ∧ I64 r ∧ (0 ≤ r → (d.cnt : Int) ≤ left ∧ r ≤ left)) ∧ Below w.heap.size w w' := by
  obtain ⟨a, b, c, rfl, ha, hb, hc⟩ := h
  have A := Lib.hid ha; clear ha
  have B := Lib.hid hb; clear hb
  have C := Lib.hid hc; clear hc
  have HB : Hid (Below w.heap.size w (w.alloc (.cells #[a, b, c] 43))) := (Below.refl _ _).alloc (Nat.le_refl _) _
  obtain ⟨a1, na, ca, rfl⟩ := Ints.shape A.out
  obtain ⟨b1, nb, cb, rfl⟩ := Ints.shape B.out
  obtain ⟨c1, nc, cc, rfl⟩ := Ints.shape C.out
  go_enter Try.func24, Try.ntmps24
  go_wp2_with fail
  refine (laws_szIntS _ d.c left _ (A.out.alloc _) (sz_I64 A.out h0 h1)).mono ?_
  rintro e w1 ⟨rfl, rfl⟩
  by_cases n1 : left - (d.c.length : Int) < 0
  · rw [if_pos n1]
    go_wp2_with fail
    go_ret
    exact ⟨⟨_, rfl, ⟨by decide, by decide⟩, fun h => by omega⟩, HB.out⟩
  rw [if_neg n1]
  obtain ⟨z, hz⟩ : ∃ z, left - (d.c.length : Int) = z := ⟨_, rfl⟩
  rw [hz] at n1 ⊢
  have hz1 : z ≤ left := by omega
  have HZ := Lib.hid hz; clear hz
  go_wp2_with fail
  refine (laws_szIntS _ d.h z _ (B.out.alloc _) (sz_I64 B.out (by omega) (by omega))).mono ?_
  rintro e w1 ⟨rfl, rfl⟩
  by_cases n2 : z - (d.h.length : Int) < 0
  · rw [if_pos n2]
    go_wp2_with fail
    go_ret
    exact ⟨⟨_, rfl, ⟨by decide, by decide⟩, fun h => by omega⟩, HB.out⟩
  rw [if_neg n2]
  obtain ⟨y, hy⟩ : ∃ y, z - (d.h.length : Int) = y := ⟨_, rfl⟩
  rw [hy] at n2 ⊢
  have hy1 : y ≤ left := by omega
  have HY := Lib.hid hy; clear hy
  go_wp2_with fail
  refine (laws_szIntS _ d.r y _ (C.out.alloc _) (sz_I64 C.out (by omega) (by omega))).mono ?_
  rintro e w1 ⟨rfl, rfl⟩
  by_cases n3 : y - (d.r.length : Int) < 0
  · rw [if_pos n3]
    go_wp2_with fail
    go_ret
    exact ⟨⟨_, rfl, ⟨by decide, by decide⟩, fun h => by omega⟩, HB.out⟩
  rw [if_neg n3]
  obtain ⟨x, hx⟩ : ∃ x, y - (d.r.length : Int) = x := ⟨_, rfl⟩
  rw [hx] at n3 ⊢
  have HX := Lib.hid hx; clear hx
  have hx1 : x ≤ left := by have := HX.out; omega
  go_wp2_with fail
  go_ret
  refine ⟨⟨_, rfl, ⟨by omega, by omega⟩, fun h => ?_⟩, HB.out⟩
  have := HX.out; have := HY.out; have := HZ.out
  unfold ProofD.cnt
  omega
set_option maxHeartbeats 1000000 in
theorem laws_eqProof (v1 v2 : Value) (d1 d2 : ProofD) (w : World) (h1 : RdP w v1 d1) (h2 : RdP w v2 d2) :
    Calls Try.prog 28 #[v1, v2] w fun e w' => e = .returned (.bool (decide (d1 = d2))) ∧ Below w.heap.size w w' := by
  obtain ⟨a, b, c, rfl, ha, hb, hc⟩ := h1
  obtain ⟨a2, b2, c2, rfl, ha2, hb2, hc2⟩ := h2
  have A := Lib.hid (ha.alloc (.cells #[a, b, c] 46) |>.alloc (.cells #[a2, b2, c2] 46)); clear ha
  have B := Lib.hid (hb.alloc (.cells #[a, b, c] 46) |>.alloc (.cells #[a2, b2, c2] 46)); clear hb
  have C := Lib.hid (hc.alloc (.cells #[a, b, c] 46) |>.alloc (.cells #[a2, b2, c2] 46)); clear hc
  have A2 := Lib.hid (ha2.alloc (.cells #[a, b, c] 46) |>.alloc (.cells #[a2, b2, c2] 46)); clear ha2
  have B2 := Lib.hid (hb2.alloc (.cells #[a, b, c] 46) |>.alloc (.cells #[a2, b2, c2] 46)); clear hb2
  have C2 := Lib.hid (hc2.alloc (.cells #[a, b, c] 46) |>.alloc (.cells #[a2, b2, c2] 46)); clear hc2
  have HB : Hid (Below w.heap.size w ((w.alloc (.cells #[a, b, c] 46)).alloc (.cells #[a2, b2, c2] 46))) := by unfold Hid; (repeat (first | exact Below.refl _ _ | assumption | refine Below.drew ?_ | refine Below.alloc ?_ (by first | (simp; done) | (simp; omega)) _ | refine Below.setCell ?_ (by first | (simp; done) | (simp; omega)) _))
  obtain ⟨a1, na, ca, rfl⟩ := Ints.shape A.out
  obtain ⟨b1, nb, cb, rfl⟩ := Ints.shape B.out
  obtain ⟨c1, nc, cc, rfl⟩ := Ints.shape C.out
  obtain ⟨a3, na2, ca2, rfl⟩ := Ints.shape A2.out
  obtain ⟨b3, nb2, cb2, rfl⟩ := Ints.shape B2.out
  obtain ⟨c3, nc2, cc2, rfl⟩ := Ints.shape C2.out
  cases hq1 : decide (d1.c = d2.c) with
  | false =>
    have HR : Hid (decide (d1 = d2) = false) := decide_eq_false fun h => of_decide_eq_false hq1 (by rw [h])
    have Q1 := Lib.hid hq1; clear hq1
    go_enter Try.func28, Try.ntmps28
    go_wp2_with fail
    refine (laws_eqIntS _ _ d1.c d2.c _ A.out A2.out).mono ?_
    rintro e w1 ⟨rfl, m1, rfl⟩
    rw [Q1.out]
    go_wp2_with fail
    go_ret
    exact ⟨ret_bool (by first | (rw [HR.out]; done) | (rw [HR.out]; rfl) | exact HR.out.symm), below_drewN HB.out _⟩
  | true =>
  have Q1 := Lib.hid hq1; clear hq1
  cases hq2 : decide (d1.h = d2.h) with
  | false =>
    have HR : Hid (decide (d1 = d2) = false) := decide_eq_false fun h => of_decide_eq_false hq2 (by rw [h])
    have Q2 := Lib.hid hq2; clear hq2
    go_enter Try.func28, Try.ntmps28
    go_wp2_with fail
    refine (laws_eqIntS _ _ d1.c d2.c _ A.out A2.out).mono ?_
    rintro e w1 ⟨rfl, m1, rfl⟩
    rw [Q1.out]
    go_wp2_with fail
    refine (laws_eqIntS _ _ d1.h d2.h _ (B.out.drewN _) (B2.out.drewN _)).mono ?_
    rintro e w1 ⟨rfl, m2, rfl⟩
    rw [Q2.out]
    go_wp2_with fail
    go_ret
    exact ⟨ret_bool (by first | (rw [HR.out]; done) | (rw [HR.out]; rfl) | exact HR.out.symm), below_drewN HB.out _⟩
  | true =>
  have Q2 := Lib.hid hq2; clear hq2
  have HR : Hid (decide (d1 = d2) = decide (d1.r = d2.r)) := by
    unfold Hid
    rw [decide_eq_decide, ProofD.ext_iff']
    exact ⟨fun h => h.2.2, fun h => ⟨of_decide_eq_true Q1.out, of_decide_eq_true Q2.out, h⟩⟩
  cases hq3 : decide (d1.r = d2.r) with
  | false =>
    have Q3 := Lib.hid hq3
    rw [hq3] at HR; clear hq3
    go_enter Try.func28, Try.ntmps28
    go_wp2_with fail
    refine (laws_eqIntS _ _ d1.c d2.c _ A.out A2.out).mono ?_
    rintro e w1 ⟨rfl, m1, rfl⟩
    rw [Q1.out]
    go_wp2_with fail
    refine (laws_eqIntS _ _ d1.h d2.h _ (B.out.drewN _) (B2.out.drewN _)).mono ?_
    rintro e w1 ⟨rfl, m2, rfl⟩
    rw [Q2.out]
    go_wp2_with fail
    refine (laws_eqIntS _ _ d1.r d2.r _ (C.out.drewN _) (C2.out.drewN _)).mono ?_
    rintro e w1 ⟨rfl, m3, rfl⟩
    rw [Q3.out]
    go_wp2_with fail
    go_ret
    exact ⟨ret_bool (by first | (rw [HR.out]; done) | (rw [HR.out]; rfl) | exact HR.out.symm), below_drewN HB.out _⟩
  | true =>
    have Q3 := Lib.hid hq3
    rw [hq3] at HR; clear hq3
    go_enter Try.func28, Try.ntmps28
    go_wp2_with fail
    refine (laws_eqIntS _ _ d1.c d2.c _ A.out A2.out).mono ?_
    rintro e w1 ⟨rfl, m1, rfl⟩
    rw [Q1.out]
    go_wp2_with fail
    refine (laws_eqIntS _ _ d1.h d2.h _ (B.out.drewN _) (B2.out.drewN _)).mono ?_
    rintro e w1 ⟨rfl, m2, rfl⟩
    rw [Q2.out]
    go_wp2_with fail
    refine (laws_eqIntS _ _ d1.r d2.r _ (C.out.drewN _) (C2.out.drewN _)).mono ?_
    rintro e w1 ⟨rfl, m3, rfl⟩
    rw [Q3.out]
    go_wp2_with fail
    go_ret
    exact ⟨ret_bool (by first | (rw [HR.out]; done) | (rw [HR.out]; rfl) | exact HR.out.symm), below_drewN HB.out _⟩
def proofMarks (k0 : Nat) (d : ProofD) : ProofD := ⟨marks k0 d.c.length, marks (k0 + d.c.length) d.h.length, marks (k0 + d.c.length + d.h.length) d.r.length⟩
theorem proofMarks_cnt (k0 : Nat) (d : ProofD) : (proofMarks k0 d).cnt = d.cnt := by simp [proofMarks, ProofD.cnt, marks_length]
/-- a new block is not one of the old ones -/
theorem Within.alloc {lo hi : Nat} {w w' : World} (h : Within lo hi w w') (o : Obj) : Within lo hi w (w'.alloc o) :=
  h.trans (Within.of_below ((Below.refl _ _).alloc (Nat.le_refl _) o))
set_option maxHeartbeats 1000000 in
theorem laws_markProof (lo hi : Nat) (v : Value) (k0 : Nat) (d : ProofD) (w : World) (h : OwnP w lo hi v d) (hk : k0 + d.cnt ≤ 9223372036854775806) (hhi : hi ≤ w.heap.size) :
    Calls Try.prog 29 #[v, .int .i64 k0] w fun e w' => e = .returned (.int .i64 (k0 + d.cnt : Nat)) ∧ OwnP w' lo hi v (proofMarks k0 d) ∧ Within lo hi w w' := by
  obtain ⟨a, b, c, l1, h1, l2, h2, l3, h3, rfl, o1, o2, o3, p1, p2, p3, d12, d13, d23⟩ := h
  have HK : Hid (k0 + d.cnt ≤ 9223372036854775806) := hk
  unfold ProofD.cnt at hk
  obtain ⟨W, hW⟩ : ∃ W, W = w.alloc (.cells #[a, b, c] 46) := ⟨_, rfl⟩
  have hWb : Below w.heap.size w W := by rw [hW]; exact (Below.refl _ _).alloc (Nat.le_refl _) _
  have HO1 : Hid (InI W l1 h1 a d.c) := o1.next hWb
  have HO2 : Hid (InI W l2 h2 b d.h) := o2.next hWb
  have HO3 : Hid (InI W l3 h3 c d.r) := o3.next hWb
  have hsz : W.heap.size = w.heap.size + 1 := by rw [hW]; simp
  have hc0 : W.cell? ⟨w.heap.size, 0, none⟩ = some a := by rw [hW]; simp [go_sem]
  have hc1 : W.cell? ⟨w.heap.size, 1, none⟩ = some b := by rw [hW]; simp [go_sem]
  have hc2 : W.cell? ⟨w.heap.size, 2, none⟩ = some c := by rw [hW]; simp [go_sem]
  obtain ⟨a1, na, ca, rfl⟩ := Ints.shape o1.reads
  obtain ⟨b1, nb, cb, rfl⟩ := Ints.shape o2.reads
  obtain ⟨c1, nc, cc, rfl⟩ := Ints.shape o3.reads
  have HWB := Lib.hid hWb
  clear o1 o2 o3 hWb
  go_enter Try.func29, Try.ntmps29
  go_wp2_with fail
  rw [← hW]
  refine (laws_markIntS_own l1 h1 _ k0 d.c W HO1.out (by omega)).mono ?_
  rintro e w1 ⟨rfl, q1, g1⟩
  have gc : ∀ (j : Nat), w1.cell? ⟨w.heap.size, j, none⟩ = W.cell? ⟨w.heap.size, j, none⟩ := fun j => by
    have := g1.block w.heap.size (by omega) (.inr (by omega))
    simp [World.cell?, this]
  have e1 := gc 1
  have e2 := gc 2
  rw [hc1] at e1; rw [hc2] at e2
  clear gc
  have Q1 := Lib.hid q1; clear q1
  have s1 := g1.size
  have G1 := Lib.hid g1; clear g1
  go_wp2_with fail
  refine (laws_markIntS_own l2 h2 _ (k0 + d.c.length) d.h w1 (kInts.own_frame HO2.out fun k _ _ hk => G1.out.block k hk (by omega)) (by omega)).mono ?_
  rintro e w2 ⟨rfl, q2, g2⟩
  have gc : ∀ (j : Nat), w2.cell? ⟨w.heap.size, j, none⟩ = w1.cell? ⟨w.heap.size, j, none⟩ := fun j => by
    have := g2.block w.heap.size (by omega) (.inr (by omega))
    simp [World.cell?, this]
  have e3 := gc 2
  rw [e2] at e3
  clear gc
  have Q2 := Lib.hid q2; clear q2
  have s2 := g2.size
  have G2 := Lib.hid g2; clear g2
  go_wp2_with fail
  refine (laws_markIntS_own l3 h3 _ (k0 + d.c.length + d.h.length) d.r w2 (kInts.own_frame (kInts.own_frame HO3.out fun k _ _ hk => G1.out.block k hk (by omega)) fun k _ _ hk => G2.out.block k hk (by omega)) (by omega)).mono ?_
  rintro e w3 ⟨rfl, q3, g3⟩
  have Q3 := Lib.hid q3; clear q3
  have s3 := g3.size
  have G3 := Lib.hid g3; clear g3
  go_wp2_with fail
  go_ret
  refine ⟨ret_int (by unfold ProofD.cnt; congr 1; omega), ⟨_, _, _, l1, h1, l2, h2, l3, h3, rfl, ?_, ?_, Q3.out, p1, p2, p3, d12, d13, d23⟩, ?_⟩
  · exact kInts.own_frame (kInts.own_frame Q1.out fun k _ _ hk => G2.out.block k hk (by omega)) fun k _ _ hk => G3.out.block k hk (by omega)
  · exact kInts.own_frame Q2.out fun k _ _ hk => G3.out.block k hk (by omega)
  · exact (Within.of_below HWB.out).trans (((G1.out.mono (by omega) (by omega)).trans (G2.out.mono (by omega) (by omega))).trans (G3.out.mono (by omega) (by omega)))
theorem sc_ne {w : World} {b j b' j' : Nat} {u : Value} (h : b' ≠ b ∨ j' ≠ j) : (w.setCell ⟨b', j', none⟩ u).cell? ⟨b, j, none⟩ = w.cell? ⟨b, j, none⟩ := by
  have h' : (⟨b', j', none⟩ : Addr) ≠ ⟨b, j, none⟩ := fun e => by simp at e; omega
  first | exact World.cell?_setCell_other h' | exact World.cell?_setCell_other _ h' | exact World.cell?_setCell_other _ _ h' | exact World.cell?_setCell_other _ _ _ h' | exact World.cell?_setCell_other _ _ _ _ h'
theorem sc_eq {w : World} {p : Addr} {x u : Value} (h : w.cell? p = some x) : (w.setCell p u).cell? p = some u := by
  first | exact World.cell?_setCell_same h | exact World.cell?_setCell_same _ h | exact World.cell?_setCell_same _ _ h | exact World.cell?_setCell_same _ _ _ h
theorem size_setCell {w : World} {p : Addr} {u : Value} : (w.setCell p u).heap.size = w.heap.size := by simp [World.setCell]
set_option maxHeartbeats 2000000 in
theorem laws_toProof (v : Value) (d : ProofD) (w : World) (h : RdP w v d) (hl : (d.cnt : Int) ≤ 1000000000) :
    Calls Try.prog 26 #[v] w fun e w' => ∃ v', e = .returned v' ∧ OwnP w' w.heap.size w'.heap.size v' d ∧ Below w.heap.size w w' := by
  obtain ⟨a, b, c, rfl, ha, hb, hc⟩ := h
  unfold ProofD.cnt at hl
  have L1 : Hid (d.c.length ≤ 1000000000) := by unfold Hid; omega
  have L2 : Hid (d.h.length ≤ 1000000000) := by unfold Hid; omega
  have L3 : Hid (d.r.length ≤ 1000000000) := by unfold Hid; omega
  clear hl
  have A := Lib.hid ha; clear ha
  have B := Lib.hid hb; clear hb
  have C := Lib.hid hc; clear hc
  obtain ⟨a1, na, ca, rfl⟩ := Ints.shape A.out
  obtain ⟨b1', nb, cb, rfl⟩ := Ints.shape B.out
  obtain ⟨c1, nc, cc, rfl⟩ := Ints.shape C.out
  obtain ⟨W, hW⟩ : ∃ W, W = ((w.alloc (.cells #[.slice a1 na ca, .slice b1' nb cb, .slice c1 nc cc] 43)).alloc (.cells #[.slice none 0 0, .slice none 0 0, .slice none 0 0] 46)).alloc (.cells #[.slice none 0 0, .slice none 0 0, .slice none 0 0] 46) := ⟨_, rfl⟩
  have hWb : Below w.heap.size w W := by rw [hW]; (repeat (first | exact Below.refl _ _ | assumption | refine Below.drew ?_ | refine Below.alloc ?_ (by first | (simp; done) | (simp; omega)) _ | refine Below.setCell ?_ (by first | (simp; done) | (simp; omega)) _))
  have hsz : W.heap.size = w.heap.size + 3 := by rw [hW]; simp
  have hp1 : W.cell? ⟨w.heap.size, 1, none⟩ = some (.slice b1' nb cb) := by rw [hW]; simp [go_sem]
  have hp2 : W.cell? ⟨w.heap.size, 2, none⟩ = some (.slice c1 nc cc) := by rw [hW]; simp [go_sem]
  have hr : ∀ j, j < 3 → W.cell? ⟨w.heap.size + 1, j, none⟩ = some (.slice none 0 0) := fun j hj => by
    rw [hW]; rcases (by omega : j = 0 ∨ j = 1 ∨ j = 2) with rfl | rfl | rfl <;> simp [go_sem]
  have hq : ∀ j, j < 3 → W.cell? ⟨w.heap.size + 2, j, none⟩ = some (.slice none 0 0) := fun j hj => by
    rw [hW]; rcases (by omega : j = 0 ∨ j = 1 ∨ j = 2) with rfl | rfl | rfl <;> simp [go_sem]
  have hfr : ∀ k j, k < 3 → W.frozen? ⟨w.heap.size + k, j, none⟩ = false := fun k j hj => by
    rw [hW]; rcases (by omega : k = 0 ∨ k = 1 ∨ k = 2) with rfl | rfl | rfl <;> simp [go_sem]
  have HW := Lib.hid hW
  have HWB := Lib.hid hWb
  have HP1 := Lib.hid hp1; have HP2 := Lib.hid hp2; have HRR := Lib.hid hr; have HQQ := Lib.hid hq; have HFR := Lib.hid hfr
  clear hp1 hp2 hr hq hfr hWb
  go_enter Try.func26, Try.ntmps26
  go_wp2_with fail
  rw [← HW.out]
  refine (laws_toIntS _ d.c W (A.out.below HWB.out) L1.out).mono ?_
  rintro e w1 ⟨v1, rfl, x1, b1⟩
  obtain ⟨y1, m1, z1, rfl⟩ := Ints.shape x1.ints
  have X1 := Lib.hid x1; clear x1
  have t0 : w.heap.size < w1.heap.size := by have := b1.size; omega
  have t1 : w.heap.size + 1 < w1.heap.size := by have := b1.size; omega
  have t2 : w.heap.size + 1 + 1 < w1.heap.size := by have := b1.size; omega
  have cc1 : ∀ b j, b < W.heap.size → w1.cell? ⟨b, j, none⟩ = W.cell? ⟨b, j, none⟩ := fun b j h => b1.cell (p := ⟨b, j, none⟩) h
  have ff1 : ∀ b j, b < W.heap.size → w1.frozen? ⟨b, j, none⟩ = W.frozen? ⟨b, j, none⟩ := fun b j h => b1.frozen (p := ⟨b, j, none⟩) h
  have p11 := (cc1 w.heap.size 1 (by omega)).trans HP1.out
  have p12 := (cc1 w.heap.size 2 (by omega)).trans HP2.out
  have r10 := (cc1 (w.heap.size + 1) 0 (by omega)).trans (HRR.out 0 (by omega))
  have r11 := (cc1 (w.heap.size + 1) 1 (by omega)).trans (HRR.out 1 (by omega))
  have r12 := (cc1 (w.heap.size + 1) 2 (by omega)).trans (HRR.out 2 (by omega))
  have q10 := (cc1 (w.heap.size + 1 + 1) 0 (by omega)).trans (HQQ.out 0 (by omega))
  have q11 := (cc1 (w.heap.size + 1 + 1) 1 (by omega)).trans (HQQ.out 1 (by omega))
  have q12 := (cc1 (w.heap.size + 1 + 1) 2 (by omega)).trans (HQQ.out 2 (by omega))
  have fr1 : ∀ j, w1.frozen? ⟨w.heap.size + 1, j, none⟩ = false := fun j => (ff1 (w.heap.size + 1) j (by omega)).trans (HFR.out 1 j (by omega))
  have fq1 : ∀ j, w1.frozen? ⟨w.heap.size + 1 + 1, j, none⟩ = false := fun j => (ff1 (w.heap.size + 1 + 1) j (by omega)).trans (HFR.out 2 j (by omega))
  have B1 := Lib.hid b1
  clear cc1 ff1 b1
  go_wp2_with fail
  obtain ⟨U1, hU1⟩ : ∃ U, U = w1.setCell ⟨w.heap.size + 1 + 1, 0, none⟩ (.slice y1 m1 z1) := ⟨_, rfl⟩
  rw [← hU1]
  have us1 : U1.heap.size = w1.heap.size := by rw [hU1]; exact size_setCell
  have BU1 : Hid (Below w.heap.size w U1) := by
    unfold Hid; rw [hU1]; exact (HWB.out.trans (B1.out.mono (by omega))).setCell (by simp; omega) _
  have u12 : U1.cell? ⟨w.heap.size, 2, none⟩ = some (.slice c1 nc cc) := by rw [hU1, sc_ne (by omega)]; exact p12
  have ur0 : U1.cell? ⟨w.heap.size + 1, 0, none⟩ = some (.slice none 0 0) := by rw [hU1, sc_ne (by omega)]; exact r10
  have ur1 : U1.cell? ⟨w.heap.size + 1, 1, none⟩ = some (.slice none 0 0) := by rw [hU1, sc_ne (by omega)]; exact r11
  have ur2 : U1.cell? ⟨w.heap.size + 1, 2, none⟩ = some (.slice none 0 0) := by rw [hU1, sc_ne (by omega)]; exact r12
  have uq0 : U1.cell? ⟨w.heap.size + 1 + 1, 0, none⟩ = some (.slice y1 m1 z1) := by rw [hU1]; exact sc_eq q10
  have uq1 : U1.cell? ⟨w.heap.size + 1 + 1, 1, none⟩ = some (.slice none 0 0) := by rw [hU1, sc_ne (by omega)]; exact q11
  have uq2 : U1.cell? ⟨w.heap.size + 1 + 1, 2, none⟩ = some (.slice none 0 0) := by rw [hU1, sc_ne (by omega)]; exact q12
  have ufr : ∀ j, U1.frozen? ⟨w.heap.size + 1, j, none⟩ = false := fun j => by rw [hU1, World.frozen?_setCell]; exact fr1 j
  have ufq : ∀ j, U1.frozen? ⟨w.heap.size + 1 + 1, j, none⟩ = false := fun j => by rw [hU1, World.frozen?_setCell]; exact fq1 j
  have XU1 : Hid (InI U1 W.heap.size U1.heap.size (.slice y1 m1 z1) d.c) := by
    unfold Hid; rw [us1]
    exact kInts.own_frame (InI.of_own X1.out) fun k q1 q2 q3 => by rw [hU1]; exact heap_setCell_other _ _ _ _ (by simp; omega)
  have HU1 := Lib.hid hU1
  clear p11 p12 r10 r11 r12 q10 q11 q12 fr1 fq1 t0 t1 t2 hU1
  refine (laws_toIntS _ d.h U1 (B.out.below BU1.out) L2.out).mono ?_
  rintro e w2 ⟨v2, rfl, x2, b2⟩
  obtain ⟨y2, m2, z2, rfl⟩ := Ints.shape x2.ints
  have X2 := Lib.hid x2; clear x2
  have t0 : w.heap.size < w2.heap.size := by have := b2.size; have := B1.out.size; omega
  have t1 : w.heap.size + 1 < w2.heap.size := by have := b2.size; have := B1.out.size; omega
  have t2 : w.heap.size + 1 + 1 < w2.heap.size := by have := b2.size; have := B1.out.size; omega
  have tt : w.heap.size + 1 + 1 < U1.heap.size := by have := B1.out.size; omega
  have cc2 : ∀ b j, b < U1.heap.size → w2.cell? ⟨b, j, none⟩ = U1.cell? ⟨b, j, none⟩ := fun b j h => b2.cell (p := ⟨b, j, none⟩) h
  have ff2 : ∀ b j, b < U1.heap.size → w2.frozen? ⟨b, j, none⟩ = U1.frozen? ⟨b, j, none⟩ := fun b j h => b2.frozen (p := ⟨b, j, none⟩) h
  have p22 := (cc2 w.heap.size 2 (by omega)).trans u12
  have r20 := (cc2 (w.heap.size + 1) 0 (by omega)).trans ur0
  have r21 := (cc2 (w.heap.size + 1) 1 (by omega)).trans ur1
  have r22 := (cc2 (w.heap.size + 1) 2 (by omega)).trans ur2
  have q20 := (cc2 (w.heap.size + 1 + 1) 0 (by omega)).trans uq0
  have q21 := (cc2 (w.heap.size + 1 + 1) 1 (by omega)).trans uq1
  have q22 := (cc2 (w.heap.size + 1 + 1) 2 (by omega)).trans uq2
  have fr2 : ∀ j, w2.frozen? ⟨w.heap.size + 1, j, none⟩ = false := fun j => (ff2 (w.heap.size + 1) j (by omega)).trans (ufr j)
  have fq2 : ∀ j, w2.frozen? ⟨w.heap.size + 1 + 1, j, none⟩ = false := fun j => (ff2 (w.heap.size + 1 + 1) j (by omega)).trans (ufq j)
  have s12 := b2.size
  have B2 := Lib.hid b2
  clear cc2 ff2 b2 u12 ur0 ur1 ur2 uq0 uq1 uq2 ufr ufq
  go_wp2_with fail
  obtain ⟨U2, hU2⟩ : ∃ U, U = w2.setCell ⟨w.heap.size + 1 + 1, 1, none⟩ (.slice y2 m2 z2) := ⟨_, rfl⟩
  rw [← hU2]
  have us2 : U2.heap.size = w2.heap.size := by rw [hU2]; exact size_setCell
  have BU2 : Hid (Below w.heap.size w U2) := by
    unfold Hid; rw [hU2]; exact (BU1.out.trans (B2.out.mono (by omega))).setCell (by simp; omega) _
  have ur0 : U2.cell? ⟨w.heap.size + 1, 0, none⟩ = some (.slice none 0 0) := by rw [hU2, sc_ne (by omega)]; exact r20
  have ur1 : U2.cell? ⟨w.heap.size + 1, 1, none⟩ = some (.slice none 0 0) := by rw [hU2, sc_ne (by omega)]; exact r21
  have ur2 : U2.cell? ⟨w.heap.size + 1, 2, none⟩ = some (.slice none 0 0) := by rw [hU2, sc_ne (by omega)]; exact r22
  have uq0 : U2.cell? ⟨w.heap.size + 1 + 1, 0, none⟩ = some (.slice y1 m1 z1) := by rw [hU2, sc_ne (by omega)]; exact q20
  have uq1 : U2.cell? ⟨w.heap.size + 1 + 1, 1, none⟩ = some (.slice y2 m2 z2) := by rw [hU2]; exact sc_eq q21
  have uq2 : U2.cell? ⟨w.heap.size + 1 + 1, 2, none⟩ = some (.slice none 0 0) := by rw [hU2, sc_ne (by omega)]; exact q22
  have ufr : ∀ j, U2.frozen? ⟨w.heap.size + 1, j, none⟩ = false := fun j => by rw [hU2, World.frozen?_setCell]; exact fr2 j
  have ufq : ∀ j, U2.frozen? ⟨w.heap.size + 1 + 1, j, none⟩ = false := fun j => by rw [hU2, World.frozen?_setCell]; exact fq2 j
  have XV1 : Hid (InI U2 W.heap.size U1.heap.size (.slice y1 m1 z1) d.c) :=
    kInts.own_frame (XU1.out.next B2.out) fun k q1 q2 q3 => by rw [hU2]; exact heap_setCell_other _ _ _ _ (by simp; omega)
  have XU2 : Hid (InI U2 U1.heap.size U2.heap.size (.slice y2 m2 z2) d.h) := by
    unfold Hid; rw [us2]
    exact kInts.own_frame (InI.of_own X2.out) fun k q1 q2 q3 => by rw [hU2]; exact heap_setCell_other _ _ _ _ (by simp; omega)
  have HU2 := Lib.hid hU2
  clear p22 r20 r21 r22 q20 q21 q22 fr2 fq2 t0 t1 t2 hU2
  refine (laws_toIntS _ d.r U2 (C.out.below BU2.out) L3.out).mono ?_
  rintro e w3 ⟨v3, rfl, x3, b3⟩
  obtain ⟨y3, m3, z3, rfl⟩ := Ints.shape x3.ints
  have X3 := Lib.hid x3; clear x3
  have t0 : w.heap.size < w3.heap.size := by have := b3.size; omega
  have t1 : w.heap.size + 1 < w3.heap.size := by have := b3.size; omega
  have t2 : w.heap.size + 1 + 1 < w3.heap.size := by have := b3.size; omega
  have cc3 : ∀ b j, b < U2.heap.size → w3.cell? ⟨b, j, none⟩ = U2.cell? ⟨b, j, none⟩ := fun b j h => b3.cell (p := ⟨b, j, none⟩) h
  have ff3 : ∀ b j, b < U2.heap.size → w3.frozen? ⟨b, j, none⟩ = U2.frozen? ⟨b, j, none⟩ := fun b j h => b3.frozen (p := ⟨b, j, none⟩) h
  have r30 := (cc3 (w.heap.size + 1) 0 (by omega)).trans ur0
  have r31 := (cc3 (w.heap.size + 1) 1 (by omega)).trans ur1
  have r32 := (cc3 (w.heap.size + 1) 2 (by omega)).trans ur2
  have q30 := (cc3 (w.heap.size + 1 + 1) 0 (by omega)).trans uq0
  have q31 := (cc3 (w.heap.size + 1 + 1) 1 (by omega)).trans uq1
  have q32 := (cc3 (w.heap.size + 1 + 1) 2 (by omega)).trans uq2
  have fr3 : ∀ j, w3.frozen? ⟨w.heap.size + 1, j, none⟩ = false := fun j => (ff3 (w.heap.size + 1) j (by omega)).trans (ufr j)
  have fq3 : ∀ j, w3.frozen? ⟨w.heap.size + 1 + 1, j, none⟩ = false := fun j => (ff3 (w.heap.size + 1 + 1) j (by omega)).trans (ufq j)
  have s23 := b3.size
  have B3 := Lib.hid b3
  clear cc3 ff3 b3 ur0 ur1 ur2 uq0 uq1 uq2 ufr ufq
  go_wp2_with fail
  have hV : Hid (∀ k, W.heap.size ≤ k → ((((w3.setCell ⟨w.heap.size + 1 + 1, 2, none⟩ (.slice y3 m3 z3)).setCell ⟨w.heap.size + 1, 0, none⟩ (.slice y1 m1 z1)).setCell ⟨w.heap.size + 1, 1, none⟩ (.slice y2 m2 z2)).setCell ⟨w.heap.size + 1, 2, none⟩ (.slice y3 m3 z3)).heap[k]? = w3.heap[k]?) := fun k hk => by
    rw [heap_setCell_other _ _ _ _ (by simp; omega), heap_setCell_other _ _ _ _ (by simp; omega), heap_setCell_other _ _ _ _ (by simp; omega), heap_setCell_other _ _ _ _ (by simp; omega)]
  refine bodyPost_ret (v := .agg #[.slice y1 m1 z1, .slice y2 m2 z2, .slice y3 m3 z3]) (by simp [results, Try.results26, go_sem, r30, r31, r32]) rfl ⟨_, rfl, ⟨_, _, _, W.heap.size, U1.heap.size, U1.heap.size, U2.heap.size, U2.heap.size, w3.heap.size, rfl, ?_, ?_, ?_, ⟨by omega, ?_⟩, ⟨by omega, ?_⟩, ⟨by omega, ?_⟩, by omega, by omega, by omega⟩, ?_⟩
  · exact kInts.own_frame (XV1.out.next B3.out) fun k q1 q2 q3 => hV.out k (by omega)
  · exact kInts.own_frame (XU2.out.next B3.out) fun k q1 q2 q3 => hV.out k (by omega)
  · exact kInts.own_frame (InI.of_own X3.out) fun k q1 q2 q3 => hV.out k (by omega)
  · simp only [size_setCell]; omega
  · simp only [size_setCell]; omega
  · simp only [size_setCell]; omega
  · exact ((((BU2.out.trans (B3.out.mono (by omega))).setCell (by simp; omega) _).setCell (by simp) _).setCell (by simp) _).setCell (by simp) _
end Go.Proofs.Ytlkhkoemfmjloaa
