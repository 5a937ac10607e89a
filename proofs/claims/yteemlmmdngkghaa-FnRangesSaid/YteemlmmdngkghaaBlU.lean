/- Proofs of ranges and of intervals are accepted: plain laws. -/
import Derived.Test.YteemlmmdngkghaaRan3U
import Derived.Test.YteemlmmdngkghaaDer5U
import Derived.Test.YteemlmmdngkghaaDrN2U
import Derived.Deep.Cut
import Derived.Test.YteemlmmdngkghaaBaU
import Derived.WalkKit
import Derived.ProofKit
import Derived.OpenShut
import Derived.JoinedCond
import Derived.Lib.SmallJoins
import Derived.Deep.Fields
import Derived.Test.YteemlmmdngkghaaRegVU
import Derived.Test.YteemlmmdngkghaaBgU
namespace Go.Proofs.Yteemlmmdngkghaa
open Go.RowKit
set_option linter.unusedSimpArgs false
set_option linter.unusedVariables false

theorem prB_parts {gr : GroupD} {bh m r n : Int} {bl cs : List Int} (h : prB gr bh bl m r n cs = true) : baB gr bh bl = true ∧ rnB gr n = true ∧ (0 ≤ m ∧ m ≤ 2 ^ n.toNat - 1) ∧ expB gr r = true ∧ (cs.length : Int) = 4 * n - 1 ∧ cs.all (expB gr) = true := by
  unfold prB at h
  simp only [Bool.and_eq_true, decide_eq_true_iff] at h
  obtain ⟨h1, h2, h3, h4, h5, h6⟩ := h
  exact ⟨h1, h2, h3, h4, h5, h6⟩
theorem prB_small {gr : GroupD} {bh m r n : Int} {bl cs : List Int} (h : prB gr bh bl m r n cs = true) : 0 ≤ m ∧ m < gr.q ∧ m ≤ 65535 ∧ (1 ≤ n ∧ n ≤ 16) := by
  obtain ⟨h1, h2, h3, _⟩ := prB_parts h
  obtain ⟨h4, h5⟩ := rnB_parts h2
  obtain ⟨k, rfl⟩ : ∃ k : Nat, n = (k : Int) := ⟨n.toNat, by omega⟩
  rw [Int.toNat_natCast] at h3 h5
  have := powR_bd k (by omega)
  exact ⟨h3.1, by omega, by omega, h4⟩
theorem exp_in {gr : GroupD} {x : Int} (h0 : 0 ≤ x) (h1 : x < gr.q) : expB gr x = true := by
  unfold expB; rw [decide_eq_true_iff]; exact ⟨h0, by omega⟩
theorem range_tail {gr : GroupD} {s : ByteArray} {bh m r n : Int} {bl cs : List Int} (h : prB gr bh bl m r n cs = true) :
    cmB gr bh bl m r = true ∧ vrR gr s bh bl (cmR gr bh bl m r) n (prR gr s bh bl m r n cs) = true ∧ vrA gr bh bl (cmR gr bh bl m r) n = true ∧ ((prR gr s bh bl m r n cs).b.length : Int) = n := by
  obtain ⟨h1, h2, h3, h4, h5, h6⟩ := prB_parts h
  obtain ⟨m0, m1, _, hn⟩ := prB_small h
  obtain ⟨hgd, hh, _⟩ := baB_parts h1
  have hm := exp_in m0 m1
  have hc : cmB gr bh bl m r = true := by unfold cmB; rw [h1, hm, h4]; rfl
  have hC : cmR gr bh bl m r = coM gr bh m r := by unfold cmR; rw [if_pos hc]
  have hA : vrA gr bh bl (cmR gr bh bl m r) n = true := by unfold vrA; rw [h1, hC, elT_coM hgd hh, h2]; rfl
  have hP : prR gr s bh bl m r n cs = rgD gr s bh m r n.toNat cs := by unfold prR; rw [if_pos h]
  refine ⟨hc, ?_, hA, ?_⟩
  · unfold vrR
    rw [hA, hP, hC, range_right hgd hh hn h3 h4 h5 h6]; rfl
  · rw [hP]
    show ((rgB gr bh m (rgL gr.q r cs n.toNat) n.toNat).length : Int) = n
    unfold rgB; rw [List.length_map, List.length_range]; omega
theorem piB_parts {gr : GroupD} {bh m r lo hi n : Int} {bl cs : List Int} (h : piB gr bh bl m r lo hi n cs = true) : baB gr bh bl = true ∧ rnB gr n = true ∧ (expB gr m = true ∧ expB gr r = true ∧ expB gr lo = true ∧ expB gr hi = true) ∧ (0 ≤ m - lo ∧ m - lo ≤ 2 ^ n.toNat - 1) ∧ (0 ≤ hi - m ∧ hi - m ≤ 2 ^ n.toNat - 1) ∧ (cs.length : Int) = 8 * n - 2 ∧ cs.all (expB gr) = true := by
  unfold piB at h
  simp only [Bool.and_eq_true, decide_eq_true_iff, List.all_cons, List.all_nil, Bool.and_true] at h
  obtain ⟨h1, h2, ⟨h3, h4, h5, h6⟩, h7, h8, h9, h10⟩ := h
  exact ⟨h1, h2, ⟨h3, h4, h5, h6⟩, h7, h8, h9, h10⟩
theorem interval_tail {gr : GroupD} {s : ByteArray} {bh m r lo hi n : Int} {bl cs : List Int} (h : piB gr bh bl m r lo hi n cs = true) :
    cmB gr bh bl m r = true ∧ viR gr s bh bl (cmR gr bh bl m r) lo hi n (piR gr s bh bl m r lo hi n cs) (piS gr s bh bl m r lo hi n cs) = true ∧ viA gr bh bl (cmR gr bh bl m r) lo hi n = true := by
  obtain ⟨h1, h2, ⟨hm, hr, hlo, hhi⟩, h7, h8, h9, h10⟩ := piB_parts h
  obtain ⟨hn, _⟩ := rnB_parts h2
  obtain ⟨hgd, hh, _⟩ := baB_parts h1
  have hg := goodG_ok hgd
  have hgg := elT_gen hgd
  have hc : cmB gr bh bl m r = true := by unfold cmB; rw [h1, hm, hr]; rfl
  have hC : cmR gr bh bl m r = coM gr bh m r := by unfold cmR; rw [if_pos hc]
  have hA : viA gr bh bl (cmR gr bh bl m r) lo hi n = true := by unfold viA; rw [h1, hC, elT_coM hgd hh, h2]; simp [hlo, hhi]
  have hP : piR gr s bh bl m r lo hi n cs = rgD gr s bh (m - lo) r n.toNat (cs.take (4 * n - 1).toNat) := by unfold piR; rw [if_pos h]
  have hS : piS gr s bh bl m r lo hi n cs = rgD gr s bh (hi - m) (-r % gr.q) n.toNat (cs.drop (4 * n - 1).toNat) := by unfold piS; rw [if_pos h]
  refine ⟨hc, ?_, hA⟩
  unfold viR
  have e1 : mulL gr [coM gr bh m r, powE gr gr.g (-lo)] = coM gr bh (m - lo) r := by
    rw [mulT, coM_eq, coM_eq, show m - lo = m + -lo by omega, powE_add hg hgg, emod_mul_left, emod_mul_left]
    congr 1
    simp only [Int.mul_assoc, Int.mul_comm, Int.mul_left_comm]
  have e2 : mulL gr [powE gr gr.g hi, powE gr (coM gr bh m r) (-1)] = coM gr bh (hi - m) (-r % gr.q) := by
    rw [mulT, powE_coM hgd hh, coM_eq, coM_eq, powE_emod, show m * -1 = -m by omega, show r * -1 = -r by omega, show hi - m = hi + -m by omega, powE_add hg hgg, emod_mul_right, emod_mul_left, Int.mul_assoc]
  have hl1 : ((cs.take (4 * n - 1).toNat).length : Int) = 4 * n - 1 := by rw [List.length_take]; omega
  have hl2 : ((cs.drop (4 * n - 1).toNat).length : Int) = 4 * n - 1 := by rw [List.length_drop]; omega
  rw [hA, hP, hS, hC, e1, e2, range_right hgd hh hn h7 hr hl1 (take_all _ h10), range_right hgd hh hn h8 (expT hg _) hl2 (drop_all _ h10)]
  rfl
end Go.Proofs.Yteemlmmdngkghaa
namespace Go.Proofs.Yteemlmmdngkghaa
open Go.RowKit
set_option linter.unusedSimpArgs false
set_option linter.unusedVariables false

def lateR (P : Program) (o : Oper) (s : SpecP) (w : World) (a : Act) : Prop := o.guard = none ∧ ∃ v, (∀ w', (execOp a.eval o).run P w' = .ok (.value v) w') ∧ s.holds v w
def obR (P : Program) (ops : Array Oper) (Q : Exit → Act → World → Prop) (G : World → World → Prop) (S1 : World → Prop) (b : Bool) (o : Oper) (s : SpecP) (w : World) (a : Act) : Prop := if b = true then lateR P o s w a else stepQ P ops Q G S1 o s w a
def chainR (P : Program) (ops : Array Oper) (Q : Exit → Act → World → Prop) (G : World → World → Prop) (S : Nat → World → Prop) (M : Nat) (K : Act → World → Prop) (a0 : Act) : List (Option Tmp × SpecP) → List (Oper × List Nat × Bool) → Prop
  | env, [] => ∀ w, S M w → allP w (fun a => K a w) env a0
  | env, (o, deps, b) :: r => ∃ s : SpecP, MonoQ G s ∧ (∀ m w, m < M → S m w → allP w (obR P ops Q G (S (m + 1)) b o s w) (lookP env deps) a0) ∧ chainR P ops Q G S M K a0 ((o.dst, s) :: env) r
section
variable {P : Program} {ops : Array Oper} {Q : Exit → Act → World → Prop} {G : World → World → Prop} {S : Nat → World → Prop} {M : Nat} {K : Act → World → Prop} {a0 : Act}
end
/-! ### worlds that only grow -/
section
variable {P : Program} {ops : Array Oper} {Q : Exit → Act → World → Prop} {W : World} {C : World → Prop} {M : Nat} {K : Act → World → Prop} {a0 : Act}
end
attribute [irreducible] chainR
end Go.Proofs.Yteemlmmdngkghaa
namespace Go.Proofs.Yteemlmmdngkghaa
open Go.RowKit
set_option linter.unusedSimpArgs false
set_option linter.unusedVariables false
def bigB (m m' : Nat) : Bool := decide ((1048576 : Int) < (m : Int)) || decide ((1048576 : Int) - (m : Int) < (m' : Int))
theorem laws_big (a a' : Option Addr) (m c m' c' : Nat) (w : World) (hm : (m : Int) ≤ 9223372036854775807) :
    Calls Try.prog 12 #[.slice a m c, .slice a' m' c'] w fun e w' => e = .returned (.bool (bigB m m')) ∧ w = w' := by
  have ew : IntKind.i64.wrap ((1048576 : Int) - (m : Int)) = (1048576 : Int) - (m : Int) := IntWalk.i64_in _ (by omega)
  by_cases h : (1048576 : Int) < (m : Int)
  · have HB : Hid (bigB m m' = true) := by unfold Hid bigB; rw [decide_eq_true h]; rfl
    rw [HB.out]
    have hd : decide ((1048576 : Int) < (m : Int)) = true := decide_eq_true h
    go_enter Try.func12, Try.ntmps12
    go_wp2_with fail
    go_ret
    exact ⟨rfl, rfl⟩
  · obtain ⟨q, hq⟩ : ∃ q, decide ((1048576 : Int) - (m : Int) < (m' : Int)) = q := ⟨_, rfl⟩
    have HB : Hid (bigB m m' = q) := by unfold Hid bigB; rw [decide_eq_false h, hq]; rfl
    rw [HB.out]
    have hd : decide ((1048576 : Int) < (m : Int)) = false := decide_eq_false h
    have HQ := Lib.hid hq
    clear hq
    go_enter Try.func12, Try.ntmps12
    go_wp2_with fail
    go_ret
    exact ⟨ret_bool HQ.out, rfl⟩
set_option maxRecDepth 100000 in
set_option maxHeartbeats 8000000 in
theorem law_Ranges (va vb : Value) (w : World) (h1 : Bytes w va) (h2 : Bytes w vb) :
    Calls Try.prog 3 #[va, vb] w fun e w' => e = .returned (.bool true) ∧ Below w.heap.size w w' := by
  obtain ⟨a, m, c, rfl, k1, k2, hv⟩ := h1
  obtain ⟨a', m', c', rfl, k3, k4, hv'⟩ := h2
  have H1 : Hid (Bytes w (.slice a m c)) := ⟨a, m, c, rfl, k1, k2, hv⟩
  have H2 : Hid (Bytes w (.slice a' m' c')) := ⟨a', m', c', rfl, k3, k4, hv'⟩
  clear hv hv'
  unfold maxLen at k2 k4
  rcases (by cases bigB m m' <;> simp : bigB m m' = true ∨ bigB m m' = false) with hbig | hbig
  · go_enter Try.func3, Try.ntmps3
    go_wp2_with fail
    refine (laws_big _ _ _ _ _ _ _ (by omega)).mono ?_
    rintro e w1 ⟨rfl, rfl⟩
    rw [hbig]
    go_wp2_with fail
    go_ret
    exact ⟨rfl, Below.refl _ _⟩
  have HBG := Lib.hid hbig
  clear hbig
  have HB : Hid (Below w.heap.size w w) := Below.refl _ _
  go_enter Try.func3, Try.ntmps3
  go_wp2_with fail
  refine (laws_big _ _ _ _ _ _ _ (by omega)).mono ?_
  rintro e w1 ⟨rfl, rfl⟩
  rw [HBG.out]
  clear HBG
  go_wp2_with fail
  try (go_wp2_with fail)
  refine (spec_DrawProveRange _ _ (H1.out.below HB.out)).mono ?_
  rintro e u1 ⟨⟨P1a, Q1a, G1a, h1b, v1b, l1b, x1c, x1d, x1e, v1f, l1f, rfl, hgr1a, ⟨⟨h1bl, h1bu⟩, hs1b, hl1b⟩, ⟨x1cl, x1cu⟩, ⟨x1dl, x1du⟩, ⟨x1el, x1eu⟩, ⟨hs1f, hl1f⟩⟩, hb⟩
  clear hgr1a
  have HL1b := Lib.hid hs1b
  obtain ⟨a1b, n1b, c1b, rfl⟩ := hs1b.shape
  have HE1b := Lib.hid hs1b.len
  clear hs1b
  have HL1f := Lib.hid hs1f
  obtain ⟨a1f, n1f, c1f, rfl⟩ := hs1f.shape
  have HE1f := Lib.hid hs1f.len
  clear hs1f
  replace HB := Lib.hid (Below.next HB.out hb)
  clear hb
  obtain ⟨V2, hV⟩ : ∃ V, V = (u1.alloc (.cells #[.int .i64 P1a, .int .i64 Q1a, .int .i64 G1a] 25)).alloc (.cells #[.int .i64 h1b, .slice a1b n1b c1b] 28) := ⟨_, rfl⟩
  have hbV : Below u1.heap.size u1 V2 := by rw [hV]; (repeat (first | exact Below.refl _ _ | assumption | refine Below.drew ?_ | refine Below.alloc ?_ (by first | (simp; done) | (simp; omega)) _ | refine Below.setCell ?_ (by first | (simp; done) | (simp; omega)) _))
  have HZ1 : Hid (BoxN V2 u1.heap.size 25 [.int .i64 P1a, .int .i64 Q1a, .int .i64 G1a]) := by unfold Hid; rw [hV]; have h := ((BoxN.new u1 [.int .i64 P1a, .int .i64 Q1a, .int .i64 G1a] 25).alloc (.cells #[.int .i64 h1b, .slice a1b n1b c1b] 28)); simpa using h
  have HZ2 : Hid (BoxN V2 (u1.heap.size + 1) 28 [.int .i64 h1b, .slice a1b n1b c1b]) := by unfold Hid; rw [hV]; have h := (BoxN.new (u1.alloc (.cells #[.int .i64 P1a, .int .i64 Q1a, .int .i64 G1a] 25)) [.int .i64 h1b, .slice a1b n1b c1b] 28); simpa using h
  try (go_wp2_with fail)
  rw [← hV]
  clear hV
  replace HB := Lib.hid (Below.next HB.out hbV)
  replace HL1b := Lib.hid (HL1b.out.below hbV)
  replace HL1f := Lib.hid (HL1f.out.below hbV)
  clear hbV
  have z_0_0 := HZ1.out.cell (i := 0) rfl
  have z_0_1 := HZ1.out.cell (i := 1) rfl
  have z_0_2 := HZ1.out.cell (i := 2) rfl
  have z_1_0 := HZ2.out.cell (i := 0) rfl
  have z_1_1 := HZ2.out.cell (i := 1) rfl
  try (go_wp2_with fail)
  clear z_0_0 z_0_1 z_0_2 z_1_0 z_1_1
  refine (impl_ProveRange ⟨P1a, Q1a, G1a⟩ h1b _ l1b x1c x1d x1e _ l1f _ HL1b.out ⟨by omega, by omega⟩ ⟨by omega, by omega⟩ ⟨by omega, by omega⟩ ⟨by omega, by omega⟩ HL1f.out).mono ?_
  rintro e u3 ⟨⟨v3b, v3p, rfl, o3b, o3p⟩, hb⟩
  obtain ⟨D3, hD3⟩ : ∃ d, prR ⟨P1a, Q1a, G1a⟩ sBit h1b l1b x1c x1d x1e l1f = d := ⟨_, rfl⟩
  have HD3 := Lib.hid hD3
  rw [hD3] at o3b o3p
  clear hD3
  have hs3b := o3b.ints
  have hs3p := o3p.rd
  clear o3b o3p
  have HL3b := Lib.hid hs3b
  obtain ⟨a3b, n3b, c3b, rfl⟩ := hs3b.shape
  have HE3b := Lib.hid hs3b.len
  clear hs3b
  have HL3p := Lib.hid hs3p
  obtain ⟨a3p, n3p, c3p, rfl⟩ := hs3p.shape
  have HE3p := Lib.hid hs3p.len
  clear hs3p
  obtain ⟨q3, hq3⟩ : ∃ r, prB ⟨P1a, Q1a, G1a⟩ h1b l1b x1c x1d x1e l1f = r := ⟨_, rfl⟩
  have Hq3 := Lib.hid hq3
  rw [hq3]
  clear hq3
  replace HB := Lib.hid (Below.next HB.out hb)
  replace HZ1 := Lib.hid (HZ1.out.below hb)
  replace HZ2 := Lib.hid (HZ2.out.below hb)
  replace HL1b := Lib.hid (HL1b.out.below hb)
  replace HL1f := Lib.hid (HL1f.out.below hb)
  clear hb
  have z_0_0 := HZ1.out.cell (i := 0) rfl
  have z_0_1 := HZ1.out.cell (i := 1) rfl
  have z_0_2 := HZ1.out.cell (i := 2) rfl
  have z_1_0 := HZ2.out.cell (i := 0) rfl
  have z_1_1 := HZ2.out.cell (i := 1) rfl
  have lt_HZ1 := HZ1.out.lt
  have lt_HZ2 := HZ2.out.lt
  obtain ⟨V4, hV⟩ : ∃ V, V = u3.alloc (.cells #[.slice a3b n3b c3b, .slice a3p n3p c3p] 33) := ⟨_, rfl⟩
  have hbV : Below u3.heap.size u3 V4 := by rw [hV]; (repeat (first | exact Below.refl _ _ | assumption | refine Below.drew ?_ | refine Below.alloc ?_ (by first | (simp; done) | (simp; omega)) _ | refine Below.setCell ?_ (by first | (simp; done) | (simp; omega)) _))
  have HZ3 : Hid (BoxN V4 u3.heap.size 33 [.slice a3b n3b c3b, .slice a3p n3p c3p]) := by unfold Hid; rw [hV]; have h := (BoxN.new u3 [.slice a3b n3b c3b, .slice a3p n3p c3p] 33); simpa using h
  try (go_wp2_with fail)
  rw [← hV]
  clear hV
  clear lt_HZ1
  clear lt_HZ2
  clear z_0_0 z_0_1 z_0_2 z_1_0 z_1_1
  replace HB := Lib.hid (Below.next HB.out hbV)
  replace HZ1 := Lib.hid (HZ1.out.below hbV)
  replace HZ2 := Lib.hid (HZ2.out.below hbV)
  replace HL1b := Lib.hid (HL1b.out.below hbV)
  replace HL1f := Lib.hid (HL1f.out.below hbV)
  replace HL3b := Lib.hid (HL3b.out.below hbV)
  replace HL3p := Lib.hid (HL3p.out.below hbV)
  clear hbV
  have z_0_0 := HZ1.out.cell (i := 0) rfl
  have z_0_1 := HZ1.out.cell (i := 1) rfl
  have z_0_2 := HZ1.out.cell (i := 2) rfl
  have z_1_0 := HZ2.out.cell (i := 0) rfl
  have z_1_1 := HZ2.out.cell (i := 1) rfl
  have z_2_0 := HZ3.out.cell (i := 0) rfl
  have z_2_1 := HZ3.out.cell (i := 1) rfl
  try (go_wp2_with fail)
  clear z_0_0 z_0_1 z_0_2 z_1_0 z_1_1 z_2_0 z_2_1
  refine (spec_ProveRange ⟨P1a, Q1a, G1a⟩ h1b _ l1b x1c x1d x1e _ l1f _ HL1b.out ⟨by omega, by omega⟩ ⟨by omega, by omega⟩ ⟨by omega, by omega⟩ ⟨by omega, by omega⟩ HL1f.out).mono ?_
  rintro e u5 ⟨⟨v5b, v5p, rfl, o5b, o5p⟩, hb⟩
  rw [HD3.out] at o5b o5p
  have hs5b := o5b.ints
  have hs5p := o5p.rd
  clear o5b o5p
  have HL5b := Lib.hid hs5b
  obtain ⟨a5b, n5b, c5b, rfl⟩ := hs5b.shape
  have HE5b := Lib.hid hs5b.len
  clear hs5b
  have HL5p := Lib.hid hs5p
  obtain ⟨a5p, n5p, c5p, rfl⟩ := hs5p.shape
  have HE5p := Lib.hid hs5p.len
  clear hs5p
  rw [Hq3.out]
  replace HB := Lib.hid (Below.next HB.out hb)
  replace HZ1 := Lib.hid (HZ1.out.below hb)
  replace HZ2 := Lib.hid (HZ2.out.below hb)
  replace HZ3 := Lib.hid (HZ3.out.below hb)
  replace HL1b := Lib.hid (HL1b.out.below hb)
  replace HL1f := Lib.hid (HL1f.out.below hb)
  replace HL3b := Lib.hid (HL3b.out.below hb)
  replace HL3p := Lib.hid (HL3p.out.below hb)
  clear hb
  have eq_q3 : (q3 == q3) = true := by simp
  have z_0_0 := HZ1.out.cell (i := 0) rfl
  have z_0_1 := HZ1.out.cell (i := 1) rfl
  have z_0_2 := HZ1.out.cell (i := 2) rfl
  have z_1_0 := HZ2.out.cell (i := 0) rfl
  have z_1_1 := HZ2.out.cell (i := 1) rfl
  have z_2_0 := HZ3.out.cell (i := 0) rfl
  have z_2_1 := HZ3.out.cell (i := 1) rfl
  have lt_HZ1 := HZ1.out.lt
  have lt_HZ2 := HZ2.out.lt
  have lt_HZ3 := HZ3.out.lt
  obtain ⟨V6, hV⟩ : ∃ V, V = u5.alloc (.cells #[.slice a5b n5b c5b, .slice a5p n5p c5p] 33) := ⟨_, rfl⟩
  have hbV : Below u5.heap.size u5 V6 := by rw [hV]; (repeat (first | exact Below.refl _ _ | assumption | refine Below.drew ?_ | refine Below.alloc ?_ (by first | (simp; done) | (simp; omega)) _ | refine Below.setCell ?_ (by first | (simp; done) | (simp; omega)) _))
  have HZ4 : Hid (BoxN V6 u5.heap.size 33 [.slice a5b n5b c5b, .slice a5p n5p c5p]) := by unfold Hid; rw [hV]; have h := (BoxN.new u5 [.slice a5b n5b c5b, .slice a5p n5p c5p] 33); simpa using h
  go_upto_if 72 with fail
  rw [← hV]
  clear hV
  clear lt_HZ1
  clear lt_HZ2
  clear lt_HZ3
  clear z_0_0 z_0_1 z_0_2 z_1_0 z_1_1 z_2_0 z_2_1
  replace HB := Lib.hid (Below.next HB.out hbV)
  replace HZ1 := Lib.hid (HZ1.out.below hbV)
  replace HZ2 := Lib.hid (HZ2.out.below hbV)
  replace HZ3 := Lib.hid (HZ3.out.below hbV)
  replace HL1b := Lib.hid (HL1b.out.below hbV)
  replace HL1f := Lib.hid (HL1f.out.below hbV)
  replace HL3b := Lib.hid (HL3b.out.below hbV)
  replace HL3p := Lib.hid (HL3p.out.below hbV)
  replace HL5b := Lib.hid (HL5b.out.below hbV)
  replace HL5p := Lib.hid (HL5p.out.below hbV)
  clear hbV
  go_cut [] from 37 (fun wx => Hid (Below V6.heap.size V6 wx))
  case first =>
    have HCB : Hid (Below V6.heap.size V6 V6) := Below.refl _ _
    cases q3 with
    | false =>
      have z_0_0 := HZ1.out.cell (i := 0) rfl
      have z_0_1 := HZ1.out.cell (i := 1) rfl
      have z_0_2 := HZ1.out.cell (i := 2) rfl
      have z_1_0 := HZ2.out.cell (i := 0) rfl
      have z_1_1 := HZ2.out.cell (i := 1) rfl
      have z_2_0 := HZ3.out.cell (i := 0) rfl
      have z_2_1 := HZ3.out.cell (i := 1) rfl
      have z_3_0 := HZ4.out.cell (i := 0) rfl
      have z_3_1 := HZ4.out.cell (i := 1) rfl
      try (go_wp2_with fail)
      clear z_0_0 z_0_1 z_0_2 z_1_0 z_1_1 z_2_0 z_2_1 z_3_0 z_3_1
      go_meet
      exact HCB
    | true =>
      have ht := range_tail (s := sBit) Hq3.out
      rw [HD3.out] at ht
      obtain ⟨C0, hC0⟩ : ∃ c, cmR ⟨P1a, Q1a, G1a⟩ h1b l1b x1c x1d = c := ⟨_, rfl⟩
      rw [hC0] at ht
      have HC0 := Lib.hid hC0
      have iC0 : I64 C0 := by rw [← hC0]; have h := @cmR_bd ⟨P1a, Q1a, G1a⟩ h1b l1b x1c x1d; exact ⟨by omega, by omega⟩
      have HT := Lib.hid ht
      clear ht hC0
      have HSM := Lib.hid (prB_small Hq3.out)
      have z_0_0 := HZ1.out.cell (i := 0) rfl
      have z_0_1 := HZ1.out.cell (i := 1) rfl
      have z_0_2 := HZ1.out.cell (i := 2) rfl
      have z_1_0 := HZ2.out.cell (i := 0) rfl
      have z_1_1 := HZ2.out.cell (i := 1) rfl
      have z_2_0 := HZ3.out.cell (i := 0) rfl
      have z_2_1 := HZ3.out.cell (i := 1) rfl
      have z_3_0 := HZ4.out.cell (i := 0) rfl
      have z_3_1 := HZ4.out.cell (i := 1) rfl
      try (go_wp2_with fail)
      clear z_0_0 z_0_1 z_0_2 z_1_0 z_1_1 z_2_0 z_2_1 z_3_0 z_3_1
      have c0 := HZ1.out.cell (i := 0) rfl
      have c1 := HZ1.out.cell (i := 1) rfl
      have c2 := HZ1.out.cell (i := 2) rfl
      have d0 := HZ2.out.cell (i := 0) rfl
      have d1 := HZ2.out.cell (i := 1) rfl
      have hm0 : 0 ≤ x1c := HSM.out.1
      have hm1 : x1c < Q1a := HSM.out.2.1
      have hqz : ¬ Q1a = 0 := by omega
      have hqz2 : (Q1a == 0) = false := by rw [beq_eq_false_iff_ne]; omega
      have et1 : Int.tmod x1c Q1a = x1c := by rw [Int.tmod_eq_emod_of_nonneg hm0]; exact Int.emod_eq_of_lt hm0 hm1
      have ew1 : IntKind.i64.wrap x1c = x1c := IntWalk.i64_in _ (by omega)
      have hc : Below V6.heap.size V6 V6 := Below.refl _ _
      go_wp2_with fail
      try (go_wp2_with fail)
      refine wp_region_noPanic ?_
      refine wp_region_P (fun w' => w'.cell? ⟨u1.heap.size, 0, none⟩ = some (.int .i64 P1a) ∧ w'.cell? ⟨u1.heap.size, 1, none⟩ = some (.int .i64 Q1a) ∧ w'.cell? ⟨u1.heap.size, 2, none⟩ = some (.int .i64 G1a) ∧ w'.cell? ⟨u1.heap.size + 1, 0, none⟩ = some (.int .i64 h1b) ∧ w'.cell? ⟨u1.heap.size + 1, 1, none⟩ = some (.slice a1b n1b c1b)) 15 [(0, []), (1, []), (2, []), (3, []), (4, [0]), (5, [2, 0]), (6, []), (7, [6, 5, 1, 0]), (8, [0]), (9, [0]), (10, [1]), (11, [1]), (12, [1])] [] (by kernel_rfl) (by kernel_rfl) (by kernel_rfl) rfl (fun _ _ _ _ h => h) (fun w' h => ⟨box_at c0 h, box_at c1 h, box_at c2 h, box_at d0 h, box_at d1 h⟩) ?_
      simp only [pickP, pickN, List.getElem?_cons_zero, List.getElem?_cons_succ]
      iterate 7 (refine' chainP_read _ rfl rfl (fun w' hS' => ?_) ?_; rotate_left; · (simp only [lookP, allP, Act.put, List.getElem?_cons_zero, List.getElem?_cons_succ, List.setIfInBounds_toArray, List.set_cons_zero, List.set_cons_succ]; (try dsimp only at hS'); go_simp; (try with_reducible rfl)))
      -- 7: call { callee := value (func 16), args := #[t74, t75, t79, t80], argTypes := #[25, 28, 3, 3] }
      refine chainP_call (d := (some 81)) (.tuple #[.int .i64 C0, .bool true]) rfl rfl (fun w' hS' => ?_) ?_
      · simp only [lookP, allP, Act.put, List.getElem?_cons_zero, List.getElem?_cons_succ, List.setIfInBounds_toArray, List.set_cons_zero, List.set_cons_succ]
        intro K hK
        go_simp
        go_at_call 16
        refine (spec_Commit ⟨P1a, Q1a, G1a⟩ h1b _ l1b x1c x1d _ (HL1b.out.below hS'.1) ⟨by omega, by omega⟩ ⟨by omega, by omega⟩ ⟨by omega, by omega⟩).mono ?_
        rintro e u ⟨rfl, hq⟩
        rw [HC0.out, HT.out.1]
        exact hK.out _ hq
      iterate 5 (refine' chainP_read _ rfl rfl (fun w' hS' => ?_) ?_; rotate_left; · (simp only [lookP, allP, Act.put, List.getElem?_cons_zero, List.getElem?_cons_succ, List.setIfInBounds_toArray, List.set_cons_zero, List.set_cons_succ]; (try dsimp only at hS'); go_simp; (try with_reducible rfl)))
      refine chainP_nil (fun ux hS' => ?_)
      simp only [allP, Act.put, List.setIfInBounds_toArray, List.set_cons_zero, List.set_cons_succ]
      have hq1 := hS'.1
      clear hS'
      replace hc := Below.next hc hq1
      replace c0 := box_at c0 hq1
      replace c1 := box_at c1 hq1
      replace c2 := box_at c2 hq1
      replace d0 := box_at d0 hq1
      replace d1 := box_at d1 hq1
      clear hq1
      clear c0 c1 c2 d0 d1
      replace HB := Lib.hid (Below.next HB.out hc)
      replace HCB := Lib.hid (Below.next HCB.out hc)
      replace HZ1 := Lib.hid (HZ1.out.below hc)
      replace HZ2 := Lib.hid (HZ2.out.below hc)
      replace HZ3 := Lib.hid (HZ3.out.below hc)
      replace HZ4 := Lib.hid (HZ4.out.below hc)
      replace HL1b := Lib.hid (HL1b.out.below hc)
      replace HL1f := Lib.hid (HL1f.out.below hc)
      replace HL3b := Lib.hid (HL3b.out.below hc)
      replace HL3p := Lib.hid (HL3p.out.below hc)
      replace HL5b := Lib.hid (HL5b.out.below hc)
      replace HL5p := Lib.hid (HL5p.out.below hc)
      clear hc
      go_wp2_with fail
      refine NoPanic.normal ?_
      have z_0_0 := HZ1.out.cell (i := 0) rfl
      have z_0_1 := HZ1.out.cell (i := 1) rfl
      have z_0_2 := HZ1.out.cell (i := 2) rfl
      have z_1_0 := HZ2.out.cell (i := 0) rfl
      have z_1_1 := HZ2.out.cell (i := 1) rfl
      have z_2_0 := HZ3.out.cell (i := 0) rfl
      have z_2_1 := HZ3.out.cell (i := 1) rfl
      have z_3_0 := HZ4.out.cell (i := 0) rfl
      have z_3_1 := HZ4.out.cell (i := 1) rfl
      try (go_wp2_with fail)
      clear z_0_0 z_0_1 z_0_2 z_1_0 z_1_1 z_2_0 z_2_1 z_3_0 z_3_1
      refine (impl_VerifyRange ⟨P1a, Q1a, G1a⟩ h1b _ l1b C0 x1e _ _ D3 _ HL1b.out ⟨by omega, by omega⟩ iC0 ⟨by omega, by omega⟩ HL3b.out HL3p.out).mono ?_
      rintro e u7 ⟨rfl, hb⟩
      rw [HT.out.2.1, HT.out.2.2.1]
      have hne : ((n3b : Int) != x1e) = false := by rw [bne_eq_false_iff_eq]; have h1 := HE3b.out; have h2 := HT.out.2.2.2; omega
      replace HB := Lib.hid (Below.next HB.out hb)
      replace HCB := Lib.hid (Below.next HCB.out hb)
      replace HZ1 := Lib.hid (HZ1.out.below hb)
      replace HZ2 := Lib.hid (HZ2.out.below hb)
      replace HZ3 := Lib.hid (HZ3.out.below hb)
      replace HZ4 := Lib.hid (HZ4.out.below hb)
      replace HL1b := Lib.hid (HL1b.out.below hb)
      replace HL1f := Lib.hid (HL1f.out.below hb)
      replace HL3b := Lib.hid (HL3b.out.below hb)
      replace HL3p := Lib.hid (HL3p.out.below hb)
      replace HL5b := Lib.hid (HL5b.out.below hb)
      replace HL5p := Lib.hid (HL5p.out.below hb)
      clear hb
      have z_0_0 := HZ1.out.cell (i := 0) rfl
      have z_0_1 := HZ1.out.cell (i := 1) rfl
      have z_0_2 := HZ1.out.cell (i := 2) rfl
      have z_1_0 := HZ2.out.cell (i := 0) rfl
      have z_1_1 := HZ2.out.cell (i := 1) rfl
      have z_2_0 := HZ3.out.cell (i := 0) rfl
      have z_2_1 := HZ3.out.cell (i := 1) rfl
      have z_3_0 := HZ4.out.cell (i := 0) rfl
      have z_3_1 := HZ4.out.cell (i := 1) rfl
      try (go_wp2_with fail)
      clear z_0_0 z_0_1 z_0_2 z_1_0 z_1_1 z_2_0 z_2_1 z_3_0 z_3_1
      go_meet
      exact HCB
  case rest =>
    have hct := hcut.out
    clear hcut
    replace HB := Lib.hid (Below.next HB.out hct)
    replace HZ1 := Lib.hid (HZ1.out.below hct)
    replace HZ2 := Lib.hid (HZ2.out.below hct)
    replace HZ3 := Lib.hid (HZ3.out.below hct)
    replace HZ4 := Lib.hid (HZ4.out.below hct)
    replace HL1b := Lib.hid (HL1b.out.below hct)
    replace HL1f := Lib.hid (HL1f.out.below hct)
    replace HL3b := Lib.hid (HL3b.out.below hct)
    replace HL3p := Lib.hid (HL3p.out.below hct)
    replace HL5b := Lib.hid (HL5b.out.below hct)
    replace HL5p := Lib.hid (HL5p.out.below hct)
    clear hct
    have z_0_0 := HZ1.out.cell (i := 0) rfl
    have z_0_1 := HZ1.out.cell (i := 1) rfl
    have z_0_2 := HZ1.out.cell (i := 2) rfl
    have z_1_0 := HZ2.out.cell (i := 0) rfl
    have z_1_1 := HZ2.out.cell (i := 1) rfl
    have z_2_0 := HZ3.out.cell (i := 0) rfl
    have z_2_1 := HZ3.out.cell (i := 1) rfl
    have z_3_0 := HZ4.out.cell (i := 0) rfl
    have z_3_1 := HZ4.out.cell (i := 1) rfl
    try (go_wp2_with fail)
    clear z_0_0 z_0_1 z_0_2 z_1_0 z_1_1 z_2_0 z_2_1 z_3_0 z_3_1
    refine (spec_DrawProveInterval _ _ (H2.out.below HB.out)).mono ?_
    rintro e u7 ⟨⟨P7a, Q7a, G7a, h7b, v7b, l7b, x7c, x7d, x7e, x7f, x7g, v7h, l7h, rfl, hgr7a, ⟨⟨h7bl, h7bu⟩, hs7b, hl7b⟩, ⟨x7cl, x7cu⟩, ⟨x7dl, x7du⟩, ⟨x7el, x7eu⟩, ⟨x7fl, x7fu⟩, ⟨x7gl, x7gu⟩, ⟨hs7h, hl7h⟩⟩, hb⟩
    clear hgr7a
    have HL7b := Lib.hid hs7b
    obtain ⟨a7b, n7b, c7b, rfl⟩ := hs7b.shape
    have HE7b := Lib.hid hs7b.len
    clear hs7b
    have HL7h := Lib.hid hs7h
    obtain ⟨a7h, n7h, c7h, rfl⟩ := hs7h.shape
    have HE7h := Lib.hid hs7h.len
    clear hs7h
    replace HB := Lib.hid (Below.next HB.out hb)
    replace HZ1 := Lib.hid (HZ1.out.below hb)
    replace HZ2 := Lib.hid (HZ2.out.below hb)
    replace HZ3 := Lib.hid (HZ3.out.below hb)
    replace HZ4 := Lib.hid (HZ4.out.below hb)
    replace HL1b := Lib.hid (HL1b.out.below hb)
    replace HL1f := Lib.hid (HL1f.out.below hb)
    replace HL3b := Lib.hid (HL3b.out.below hb)
    replace HL3p := Lib.hid (HL3p.out.below hb)
    replace HL5b := Lib.hid (HL5b.out.below hb)
    replace HL5p := Lib.hid (HL5p.out.below hb)
    clear hb
    have z_0_0 := HZ1.out.cell (i := 0) rfl
    have z_0_1 := HZ1.out.cell (i := 1) rfl
    have z_0_2 := HZ1.out.cell (i := 2) rfl
    have z_1_0 := HZ2.out.cell (i := 0) rfl
    have z_1_1 := HZ2.out.cell (i := 1) rfl
    have z_2_0 := HZ3.out.cell (i := 0) rfl
    have z_2_1 := HZ3.out.cell (i := 1) rfl
    have z_3_0 := HZ4.out.cell (i := 0) rfl
    have z_3_1 := HZ4.out.cell (i := 1) rfl
    have lt_HZ1 := HZ1.out.lt
    have lt_HZ2 := HZ2.out.lt
    have lt_HZ3 := HZ3.out.lt
    have lt_HZ4 := HZ4.out.lt
    obtain ⟨V8, hV⟩ : ∃ V, V = (u7.alloc (.cells #[.int .i64 P7a, .int .i64 Q7a, .int .i64 G7a] 25)).alloc (.cells #[.int .i64 h7b, .slice a7b n7b c7b] 28) := ⟨_, rfl⟩
    have hbV : Below u7.heap.size u7 V8 := by rw [hV]; (repeat (first | exact Below.refl _ _ | assumption | refine Below.drew ?_ | refine Below.alloc ?_ (by first | (simp; done) | (simp; omega)) _ | refine Below.setCell ?_ (by first | (simp; done) | (simp; omega)) _))
    have HZ5 : Hid (BoxN V8 u7.heap.size 25 [.int .i64 P7a, .int .i64 Q7a, .int .i64 G7a]) := by unfold Hid; rw [hV]; have h := ((BoxN.new u7 [.int .i64 P7a, .int .i64 Q7a, .int .i64 G7a] 25).alloc (.cells #[.int .i64 h7b, .slice a7b n7b c7b] 28)); simpa using h
    have HZ6 : Hid (BoxN V8 (u7.heap.size + 1) 28 [.int .i64 h7b, .slice a7b n7b c7b]) := by unfold Hid; rw [hV]; have h := (BoxN.new (u7.alloc (.cells #[.int .i64 P7a, .int .i64 Q7a, .int .i64 G7a] 25)) [.int .i64 h7b, .slice a7b n7b c7b] 28); simpa using h
    try (go_wp2_with fail)
    rw [← hV]
    clear hV
    clear lt_HZ1
    clear lt_HZ2
    clear lt_HZ3
    clear lt_HZ4
    clear z_0_0 z_0_1 z_0_2 z_1_0 z_1_1 z_2_0 z_2_1 z_3_0 z_3_1
    replace HB := Lib.hid (Below.next HB.out hbV)
    replace HZ1 := Lib.hid (HZ1.out.below hbV)
    replace HZ2 := Lib.hid (HZ2.out.below hbV)
    replace HZ3 := Lib.hid (HZ3.out.below hbV)
    replace HZ4 := Lib.hid (HZ4.out.below hbV)
    replace HL1b := Lib.hid (HL1b.out.below hbV)
    replace HL1f := Lib.hid (HL1f.out.below hbV)
    replace HL3b := Lib.hid (HL3b.out.below hbV)
    replace HL3p := Lib.hid (HL3p.out.below hbV)
    replace HL5b := Lib.hid (HL5b.out.below hbV)
    replace HL5p := Lib.hid (HL5p.out.below hbV)
    replace HL7b := Lib.hid (HL7b.out.below hbV)
    replace HL7h := Lib.hid (HL7h.out.below hbV)
    clear hbV
    have z_0_0 := HZ1.out.cell (i := 0) rfl
    have z_0_1 := HZ1.out.cell (i := 1) rfl
    have z_0_2 := HZ1.out.cell (i := 2) rfl
    have z_1_0 := HZ2.out.cell (i := 0) rfl
    have z_1_1 := HZ2.out.cell (i := 1) rfl
    have z_2_0 := HZ3.out.cell (i := 0) rfl
    have z_2_1 := HZ3.out.cell (i := 1) rfl
    have z_3_0 := HZ4.out.cell (i := 0) rfl
    have z_3_1 := HZ4.out.cell (i := 1) rfl
    have z_4_0 := HZ5.out.cell (i := 0) rfl
    have z_4_1 := HZ5.out.cell (i := 1) rfl
    have z_4_2 := HZ5.out.cell (i := 2) rfl
    have z_5_0 := HZ6.out.cell (i := 0) rfl
    have z_5_1 := HZ6.out.cell (i := 1) rfl
    try (go_wp2_with fail)
    clear z_0_0 z_0_1 z_0_2 z_1_0 z_1_1 z_2_0 z_2_1 z_3_0 z_3_1 z_4_0 z_4_1 z_4_2 z_5_0 z_5_1
    refine (impl_ProveInterval ⟨P7a, Q7a, G7a⟩ h7b _ l7b x7c x7d x7e x7f x7g _ l7h _ HL7b.out ⟨by omega, by omega⟩ ⟨by omega, by omega⟩ ⟨by omega, by omega⟩ ⟨by omega, by omega⟩ ⟨by omega, by omega⟩ ⟨by omega, by omega⟩ HL7h.out).mono ?_
    rintro e u9 ⟨⟨v9xb, v9xp, v9yb, v9yp, rfl, ⟨o9xb, o9xp⟩, ⟨o9yb, o9yp⟩⟩, hb⟩
    obtain ⟨D9x, hD9x⟩ : ∃ d, piR ⟨P7a, Q7a, G7a⟩ sBit h7b l7b x7c x7d x7e x7f x7g l7h = d := ⟨_, rfl⟩
    have HD9x := Lib.hid hD9x
    rw [hD9x] at o9xb o9xp
    clear hD9x
    obtain ⟨D9y, hD9y⟩ : ∃ d, piS ⟨P7a, Q7a, G7a⟩ sBit h7b l7b x7c x7d x7e x7f x7g l7h = d := ⟨_, rfl⟩
    have HD9y := Lib.hid hD9y
    rw [hD9y] at o9yb o9yp
    clear hD9y
    have hs9xb := o9xb.ints
    have hs9xp := o9xp.rd
    clear o9xb o9xp
    have HL9xb := Lib.hid hs9xb
    obtain ⟨a9xb, n9xb, c9xb, rfl⟩ := hs9xb.shape
    have HE9xb := Lib.hid hs9xb.len
    clear hs9xb
    have HL9xp := Lib.hid hs9xp
    obtain ⟨a9xp, n9xp, c9xp, rfl⟩ := hs9xp.shape
    have HE9xp := Lib.hid hs9xp.len
    clear hs9xp
    have hs9yb := o9yb.ints
    have hs9yp := o9yp.rd
    clear o9yb o9yp
    have HL9yb := Lib.hid hs9yb
    obtain ⟨a9yb, n9yb, c9yb, rfl⟩ := hs9yb.shape
    have HE9yb := Lib.hid hs9yb.len
    clear hs9yb
    have HL9yp := Lib.hid hs9yp
    obtain ⟨a9yp, n9yp, c9yp, rfl⟩ := hs9yp.shape
    have HE9yp := Lib.hid hs9yp.len
    clear hs9yp
    obtain ⟨q9, hq9⟩ : ∃ r, piB ⟨P7a, Q7a, G7a⟩ h7b l7b x7c x7d x7e x7f x7g l7h = r := ⟨_, rfl⟩
    have Hq9 := Lib.hid hq9
    rw [hq9]
    clear hq9
    replace HB := Lib.hid (Below.next HB.out hb)
    replace HZ1 := Lib.hid (HZ1.out.below hb)
    replace HZ2 := Lib.hid (HZ2.out.below hb)
    replace HZ3 := Lib.hid (HZ3.out.below hb)
    replace HZ4 := Lib.hid (HZ4.out.below hb)
    replace HZ5 := Lib.hid (HZ5.out.below hb)
    replace HZ6 := Lib.hid (HZ6.out.below hb)
    replace HL1b := Lib.hid (HL1b.out.below hb)
    replace HL1f := Lib.hid (HL1f.out.below hb)
    replace HL3b := Lib.hid (HL3b.out.below hb)
    replace HL3p := Lib.hid (HL3p.out.below hb)
    replace HL5b := Lib.hid (HL5b.out.below hb)
    replace HL5p := Lib.hid (HL5p.out.below hb)
    replace HL7b := Lib.hid (HL7b.out.below hb)
    replace HL7h := Lib.hid (HL7h.out.below hb)
    clear hb
    have z_0_0 := HZ1.out.cell (i := 0) rfl
    have z_0_1 := HZ1.out.cell (i := 1) rfl
    have z_0_2 := HZ1.out.cell (i := 2) rfl
    have z_1_0 := HZ2.out.cell (i := 0) rfl
    have z_1_1 := HZ2.out.cell (i := 1) rfl
    have z_2_0 := HZ3.out.cell (i := 0) rfl
    have z_2_1 := HZ3.out.cell (i := 1) rfl
    have z_3_0 := HZ4.out.cell (i := 0) rfl
    have z_3_1 := HZ4.out.cell (i := 1) rfl
    have z_4_0 := HZ5.out.cell (i := 0) rfl
    have z_4_1 := HZ5.out.cell (i := 1) rfl
    have z_4_2 := HZ5.out.cell (i := 2) rfl
    have z_5_0 := HZ6.out.cell (i := 0) rfl
    have z_5_1 := HZ6.out.cell (i := 1) rfl
    have lt_HZ1 := HZ1.out.lt
    have lt_HZ2 := HZ2.out.lt
    have lt_HZ3 := HZ3.out.lt
    have lt_HZ4 := HZ4.out.lt
    have lt_HZ5 := HZ5.out.lt
    have lt_HZ6 := HZ6.out.lt
    obtain ⟨V10, hV⟩ : ∃ V, V = (u9.alloc (.cells #[.slice a9xb n9xb c9xb, .slice a9xp n9xp c9xp] 33)).alloc (.cells #[.slice a9yb n9yb c9yb, .slice a9yp n9yp c9yp] 33) := ⟨_, rfl⟩
    have hbV : Below u9.heap.size u9 V10 := by rw [hV]; (repeat (first | exact Below.refl _ _ | assumption | refine Below.drew ?_ | refine Below.alloc ?_ (by first | (simp; done) | (simp; omega)) _ | refine Below.setCell ?_ (by first | (simp; done) | (simp; omega)) _))
    have HZ7 : Hid (BoxN V10 u9.heap.size 33 [.slice a9xb n9xb c9xb, .slice a9xp n9xp c9xp]) := by unfold Hid; rw [hV]; have h := ((BoxN.new u9 [.slice a9xb n9xb c9xb, .slice a9xp n9xp c9xp] 33).alloc (.cells #[.slice a9yb n9yb c9yb, .slice a9yp n9yp c9yp] 33)); simpa using h
    have HZ8 : Hid (BoxN V10 (u9.heap.size + 1) 33 [.slice a9yb n9yb c9yb, .slice a9yp n9yp c9yp]) := by unfold Hid; rw [hV]; have h := (BoxN.new (u9.alloc (.cells #[.slice a9xb n9xb c9xb, .slice a9xp n9xp c9xp] 33)) [.slice a9yb n9yb c9yb, .slice a9yp n9yp c9yp] 33); simpa using h
    try (go_wp2_with fail)
    rw [← hV]
    clear hV
    clear lt_HZ1
    clear lt_HZ2
    clear lt_HZ3
    clear lt_HZ4
    clear lt_HZ5
    clear lt_HZ6
    clear z_0_0 z_0_1 z_0_2 z_1_0 z_1_1 z_2_0 z_2_1 z_3_0 z_3_1 z_4_0 z_4_1 z_4_2 z_5_0 z_5_1
    replace HB := Lib.hid (Below.next HB.out hbV)
    replace HZ1 := Lib.hid (HZ1.out.below hbV)
    replace HZ2 := Lib.hid (HZ2.out.below hbV)
    replace HZ3 := Lib.hid (HZ3.out.below hbV)
    replace HZ4 := Lib.hid (HZ4.out.below hbV)
    replace HZ5 := Lib.hid (HZ5.out.below hbV)
    replace HZ6 := Lib.hid (HZ6.out.below hbV)
    replace HL1b := Lib.hid (HL1b.out.below hbV)
    replace HL1f := Lib.hid (HL1f.out.below hbV)
    replace HL3b := Lib.hid (HL3b.out.below hbV)
    replace HL3p := Lib.hid (HL3p.out.below hbV)
    replace HL5b := Lib.hid (HL5b.out.below hbV)
    replace HL5p := Lib.hid (HL5p.out.below hbV)
    replace HL7b := Lib.hid (HL7b.out.below hbV)
    replace HL7h := Lib.hid (HL7h.out.below hbV)
    replace HL9xb := Lib.hid (HL9xb.out.below hbV)
    replace HL9xp := Lib.hid (HL9xp.out.below hbV)
    replace HL9yb := Lib.hid (HL9yb.out.below hbV)
    replace HL9yp := Lib.hid (HL9yp.out.below hbV)
    clear hbV
    have z_0_0 := HZ1.out.cell (i := 0) rfl
    have z_0_1 := HZ1.out.cell (i := 1) rfl
    have z_0_2 := HZ1.out.cell (i := 2) rfl
    have z_1_0 := HZ2.out.cell (i := 0) rfl
    have z_1_1 := HZ2.out.cell (i := 1) rfl
    have z_2_0 := HZ3.out.cell (i := 0) rfl
    have z_2_1 := HZ3.out.cell (i := 1) rfl
    have z_3_0 := HZ4.out.cell (i := 0) rfl
    have z_3_1 := HZ4.out.cell (i := 1) rfl
    have z_4_0 := HZ5.out.cell (i := 0) rfl
    have z_4_1 := HZ5.out.cell (i := 1) rfl
    have z_4_2 := HZ5.out.cell (i := 2) rfl
    have z_5_0 := HZ6.out.cell (i := 0) rfl
    have z_5_1 := HZ6.out.cell (i := 1) rfl
    have z_6_0 := HZ7.out.cell (i := 0) rfl
    have z_6_1 := HZ7.out.cell (i := 1) rfl
    have z_7_0 := HZ8.out.cell (i := 0) rfl
    have z_7_1 := HZ8.out.cell (i := 1) rfl
    try (go_wp2_with fail)
    clear z_0_0 z_0_1 z_0_2 z_1_0 z_1_1 z_2_0 z_2_1 z_3_0 z_3_1 z_4_0 z_4_1 z_4_2 z_5_0 z_5_1 z_6_0 z_6_1 z_7_0 z_7_1
    refine (spec_ProveInterval ⟨P7a, Q7a, G7a⟩ h7b _ l7b x7c x7d x7e x7f x7g _ l7h _ HL7b.out ⟨by omega, by omega⟩ ⟨by omega, by omega⟩ ⟨by omega, by omega⟩ ⟨by omega, by omega⟩ ⟨by omega, by omega⟩ ⟨by omega, by omega⟩ HL7h.out).mono ?_
    rintro e u11 ⟨⟨v11xb, v11xp, v11yb, v11yp, rfl, ⟨o11xb, o11xp⟩, ⟨o11yb, o11yp⟩⟩, hb⟩
    rw [HD9x.out] at o11xb o11xp
    rw [HD9y.out] at o11yb o11yp
    have hs11xb := o11xb.ints
    have hs11xp := o11xp.rd
    clear o11xb o11xp
    have HL11xb := Lib.hid hs11xb
    obtain ⟨a11xb, n11xb, c11xb, rfl⟩ := hs11xb.shape
    have HE11xb := Lib.hid hs11xb.len
    clear hs11xb
    have HL11xp := Lib.hid hs11xp
    obtain ⟨a11xp, n11xp, c11xp, rfl⟩ := hs11xp.shape
    have HE11xp := Lib.hid hs11xp.len
    clear hs11xp
    have hs11yb := o11yb.ints
    have hs11yp := o11yp.rd
    clear o11yb o11yp
    have HL11yb := Lib.hid hs11yb
    obtain ⟨a11yb, n11yb, c11yb, rfl⟩ := hs11yb.shape
    have HE11yb := Lib.hid hs11yb.len
    clear hs11yb
    have HL11yp := Lib.hid hs11yp
    obtain ⟨a11yp, n11yp, c11yp, rfl⟩ := hs11yp.shape
    have HE11yp := Lib.hid hs11yp.len
    clear hs11yp
    rw [Hq9.out]
    replace HB := Lib.hid (Below.next HB.out hb)
    replace HZ1 := Lib.hid (HZ1.out.below hb)
    replace HZ2 := Lib.hid (HZ2.out.below hb)
    replace HZ3 := Lib.hid (HZ3.out.below hb)
    replace HZ4 := Lib.hid (HZ4.out.below hb)
    replace HZ5 := Lib.hid (HZ5.out.below hb)
    replace HZ6 := Lib.hid (HZ6.out.below hb)
    replace HZ7 := Lib.hid (HZ7.out.below hb)
    replace HZ8 := Lib.hid (HZ8.out.below hb)
    replace HL1b := Lib.hid (HL1b.out.below hb)
    replace HL1f := Lib.hid (HL1f.out.below hb)
    replace HL3b := Lib.hid (HL3b.out.below hb)
    replace HL3p := Lib.hid (HL3p.out.below hb)
    replace HL5b := Lib.hid (HL5b.out.below hb)
    replace HL5p := Lib.hid (HL5p.out.below hb)
    replace HL7b := Lib.hid (HL7b.out.below hb)
    replace HL7h := Lib.hid (HL7h.out.below hb)
    replace HL9xb := Lib.hid (HL9xb.out.below hb)
    replace HL9xp := Lib.hid (HL9xp.out.below hb)
    replace HL9yb := Lib.hid (HL9yb.out.below hb)
    replace HL9yp := Lib.hid (HL9yp.out.below hb)
    clear hb
    have eq_q9 : (q9 == q9) = true := by simp
    cases q9 with
    | false =>
      have z_0_0 := HZ1.out.cell (i := 0) rfl
      have z_0_1 := HZ1.out.cell (i := 1) rfl
      have z_0_2 := HZ1.out.cell (i := 2) rfl
      have z_1_0 := HZ2.out.cell (i := 0) rfl
      have z_1_1 := HZ2.out.cell (i := 1) rfl
      have z_2_0 := HZ3.out.cell (i := 0) rfl
      have z_2_1 := HZ3.out.cell (i := 1) rfl
      have z_3_0 := HZ4.out.cell (i := 0) rfl
      have z_3_1 := HZ4.out.cell (i := 1) rfl
      have z_4_0 := HZ5.out.cell (i := 0) rfl
      have z_4_1 := HZ5.out.cell (i := 1) rfl
      have z_4_2 := HZ5.out.cell (i := 2) rfl
      have z_5_0 := HZ6.out.cell (i := 0) rfl
      have z_5_1 := HZ6.out.cell (i := 1) rfl
      have z_6_0 := HZ7.out.cell (i := 0) rfl
      have z_6_1 := HZ7.out.cell (i := 1) rfl
      have z_7_0 := HZ8.out.cell (i := 0) rfl
      have z_7_1 := HZ8.out.cell (i := 1) rfl
      have lt_HZ1 := HZ1.out.lt
      have lt_HZ2 := HZ2.out.lt
      have lt_HZ3 := HZ3.out.lt
      have lt_HZ4 := HZ4.out.lt
      have lt_HZ5 := HZ5.out.lt
      have lt_HZ6 := HZ6.out.lt
      have lt_HZ7 := HZ7.out.lt
      have lt_HZ8 := HZ8.out.lt
      obtain ⟨V12, hV⟩ : ∃ V, V = (u11.alloc (.cells #[.slice a11xb n11xb c11xb, .slice a11xp n11xp c11xp] 33)).alloc (.cells #[.slice a11yb n11yb c11yb, .slice a11yp n11yp c11yp] 33) := ⟨_, rfl⟩
      have hbV : Below u11.heap.size u11 V12 := by rw [hV]; (repeat (first | exact Below.refl _ _ | assumption | refine Below.drew ?_ | refine Below.alloc ?_ (by first | (simp; done) | (simp; omega)) _ | refine Below.setCell ?_ (by first | (simp; done) | (simp; omega)) _))
      have HZ9 : Hid (BoxN V12 u11.heap.size 33 [.slice a11xb n11xb c11xb, .slice a11xp n11xp c11xp]) := by unfold Hid; rw [hV]; have h := ((BoxN.new u11 [.slice a11xb n11xb c11xb, .slice a11xp n11xp c11xp] 33).alloc (.cells #[.slice a11yb n11yb c11yb, .slice a11yp n11yp c11yp] 33)); simpa using h
      have HZ10 : Hid (BoxN V12 (u11.heap.size + 1) 33 [.slice a11yb n11yb c11yb, .slice a11yp n11yp c11yp]) := by unfold Hid; rw [hV]; have h := (BoxN.new (u11.alloc (.cells #[.slice a11xb n11xb c11xb, .slice a11xp n11xp c11xp] 33)) [.slice a11yb n11yb c11yb, .slice a11yp n11yp c11yp] 33); simpa using h
      try (go_wp2_with fail)
      rw [← hV]
      clear hV
      clear lt_HZ1
      clear lt_HZ2
      clear lt_HZ3
      clear lt_HZ4
      clear lt_HZ5
      clear lt_HZ6
      clear lt_HZ7
      clear lt_HZ8
      clear z_0_0 z_0_1 z_0_2 z_1_0 z_1_1 z_2_0 z_2_1 z_3_0 z_3_1 z_4_0 z_4_1 z_4_2 z_5_0 z_5_1 z_6_0 z_6_1 z_7_0 z_7_1
      replace HB := Lib.hid (Below.next HB.out hbV)
      replace HZ1 := Lib.hid (HZ1.out.below hbV)
      replace HZ2 := Lib.hid (HZ2.out.below hbV)
      replace HZ3 := Lib.hid (HZ3.out.below hbV)
      replace HZ4 := Lib.hid (HZ4.out.below hbV)
      replace HZ5 := Lib.hid (HZ5.out.below hbV)
      replace HZ6 := Lib.hid (HZ6.out.below hbV)
      replace HZ7 := Lib.hid (HZ7.out.below hbV)
      replace HZ8 := Lib.hid (HZ8.out.below hbV)
      replace HL1b := Lib.hid (HL1b.out.below hbV)
      replace HL1f := Lib.hid (HL1f.out.below hbV)
      replace HL3b := Lib.hid (HL3b.out.below hbV)
      replace HL3p := Lib.hid (HL3p.out.below hbV)
      replace HL5b := Lib.hid (HL5b.out.below hbV)
      replace HL5p := Lib.hid (HL5p.out.below hbV)
      replace HL7b := Lib.hid (HL7b.out.below hbV)
      replace HL7h := Lib.hid (HL7h.out.below hbV)
      replace HL9xb := Lib.hid (HL9xb.out.below hbV)
      replace HL9xp := Lib.hid (HL9xp.out.below hbV)
      replace HL9yb := Lib.hid (HL9yb.out.below hbV)
      replace HL9yp := Lib.hid (HL9yp.out.below hbV)
      replace HL11xb := Lib.hid (HL11xb.out.below hbV)
      replace HL11xp := Lib.hid (HL11xp.out.below hbV)
      replace HL11yb := Lib.hid (HL11yb.out.below hbV)
      replace HL11yp := Lib.hid (HL11yp.out.below hbV)
      clear hbV
      have z_0_0 := HZ1.out.cell (i := 0) rfl
      have z_0_1 := HZ1.out.cell (i := 1) rfl
      have z_0_2 := HZ1.out.cell (i := 2) rfl
      have z_1_0 := HZ2.out.cell (i := 0) rfl
      have z_1_1 := HZ2.out.cell (i := 1) rfl
      have z_2_0 := HZ3.out.cell (i := 0) rfl
      have z_2_1 := HZ3.out.cell (i := 1) rfl
      have z_3_0 := HZ4.out.cell (i := 0) rfl
      have z_3_1 := HZ4.out.cell (i := 1) rfl
      have z_4_0 := HZ5.out.cell (i := 0) rfl
      have z_4_1 := HZ5.out.cell (i := 1) rfl
      have z_4_2 := HZ5.out.cell (i := 2) rfl
      have z_5_0 := HZ6.out.cell (i := 0) rfl
      have z_5_1 := HZ6.out.cell (i := 1) rfl
      have z_6_0 := HZ7.out.cell (i := 0) rfl
      have z_6_1 := HZ7.out.cell (i := 1) rfl
      have z_7_0 := HZ8.out.cell (i := 0) rfl
      have z_7_1 := HZ8.out.cell (i := 1) rfl
      have z_8_0 := HZ9.out.cell (i := 0) rfl
      have z_8_1 := HZ9.out.cell (i := 1) rfl
      have z_9_0 := HZ10.out.cell (i := 0) rfl
      have z_9_1 := HZ10.out.cell (i := 1) rfl
      try (go_wp2_with fail)
      clear z_0_0 z_0_1 z_0_2 z_1_0 z_1_1 z_2_0 z_2_1 z_3_0 z_3_1 z_4_0 z_4_1 z_4_2 z_5_0 z_5_1 z_6_0 z_6_1 z_7_0 z_7_1 z_8_0 z_8_1 z_9_0 z_9_1
      go_ret
      exact ⟨rfl, HB.out⟩
    | true =>
      have ht := interval_tail (s := sBit) Hq9.out
      rw [HD9x.out] at ht
      rw [HD9y.out] at ht
      obtain ⟨C0, hC0⟩ : ∃ c, cmR ⟨P7a, Q7a, G7a⟩ h7b l7b x7c x7d = c := ⟨_, rfl⟩
      rw [hC0] at ht
      have HC0 := Lib.hid hC0
      have iC0 : I64 C0 := by rw [← hC0]; have h := @cmR_bd ⟨P7a, Q7a, G7a⟩ h7b l7b x7c x7d; exact ⟨by omega, by omega⟩
      have HT := Lib.hid ht
      clear ht hC0
      have z_0_0 := HZ1.out.cell (i := 0) rfl
      have z_0_1 := HZ1.out.cell (i := 1) rfl
      have z_0_2 := HZ1.out.cell (i := 2) rfl
      have z_1_0 := HZ2.out.cell (i := 0) rfl
      have z_1_1 := HZ2.out.cell (i := 1) rfl
      have z_2_0 := HZ3.out.cell (i := 0) rfl
      have z_2_1 := HZ3.out.cell (i := 1) rfl
      have z_3_0 := HZ4.out.cell (i := 0) rfl
      have z_3_1 := HZ4.out.cell (i := 1) rfl
      have z_4_0 := HZ5.out.cell (i := 0) rfl
      have z_4_1 := HZ5.out.cell (i := 1) rfl
      have z_4_2 := HZ5.out.cell (i := 2) rfl
      have z_5_0 := HZ6.out.cell (i := 0) rfl
      have z_5_1 := HZ6.out.cell (i := 1) rfl
      have z_6_0 := HZ7.out.cell (i := 0) rfl
      have z_6_1 := HZ7.out.cell (i := 1) rfl
      have z_7_0 := HZ8.out.cell (i := 0) rfl
      have z_7_1 := HZ8.out.cell (i := 1) rfl
      have lt_HZ1 := HZ1.out.lt
      have lt_HZ2 := HZ2.out.lt
      have lt_HZ3 := HZ3.out.lt
      have lt_HZ4 := HZ4.out.lt
      have lt_HZ5 := HZ5.out.lt
      have lt_HZ6 := HZ6.out.lt
      have lt_HZ7 := HZ7.out.lt
      have lt_HZ8 := HZ8.out.lt
      obtain ⟨V12, hV⟩ : ∃ V, V = (u11.alloc (.cells #[.slice a11xb n11xb c11xb, .slice a11xp n11xp c11xp] 33)).alloc (.cells #[.slice a11yb n11yb c11yb, .slice a11yp n11yp c11yp] 33) := ⟨_, rfl⟩
      have hbV : Below u11.heap.size u11 V12 := by rw [hV]; (repeat (first | exact Below.refl _ _ | assumption | refine Below.drew ?_ | refine Below.alloc ?_ (by first | (simp; done) | (simp; omega)) _ | refine Below.setCell ?_ (by first | (simp; done) | (simp; omega)) _))
      have HZ9 : Hid (BoxN V12 u11.heap.size 33 [.slice a11xb n11xb c11xb, .slice a11xp n11xp c11xp]) := by unfold Hid; rw [hV]; have h := ((BoxN.new u11 [.slice a11xb n11xb c11xb, .slice a11xp n11xp c11xp] 33).alloc (.cells #[.slice a11yb n11yb c11yb, .slice a11yp n11yp c11yp] 33)); simpa using h
      have HZ10 : Hid (BoxN V12 (u11.heap.size + 1) 33 [.slice a11yb n11yb c11yb, .slice a11yp n11yp c11yp]) := by unfold Hid; rw [hV]; have h := (BoxN.new (u11.alloc (.cells #[.slice a11xb n11xb c11xb, .slice a11xp n11xp c11xp] 33)) [.slice a11yb n11yb c11yb, .slice a11yp n11yp c11yp] 33); simpa using h
      try (go_wp2_with fail)
      rw [← hV]
      clear hV
      clear lt_HZ1
      clear lt_HZ2
      clear lt_HZ3
      clear lt_HZ4
      clear lt_HZ5
      clear lt_HZ6
      clear lt_HZ7
      clear lt_HZ8
      clear z_0_0 z_0_1 z_0_2 z_1_0 z_1_1 z_2_0 z_2_1 z_3_0 z_3_1 z_4_0 z_4_1 z_4_2 z_5_0 z_5_1 z_6_0 z_6_1 z_7_0 z_7_1
      replace HB := Lib.hid (Below.next HB.out hbV)
      replace HZ1 := Lib.hid (HZ1.out.below hbV)
      replace HZ2 := Lib.hid (HZ2.out.below hbV)
      replace HZ3 := Lib.hid (HZ3.out.below hbV)
      replace HZ4 := Lib.hid (HZ4.out.below hbV)
      replace HZ5 := Lib.hid (HZ5.out.below hbV)
      replace HZ6 := Lib.hid (HZ6.out.below hbV)
      replace HZ7 := Lib.hid (HZ7.out.below hbV)
      replace HZ8 := Lib.hid (HZ8.out.below hbV)
      replace HL1b := Lib.hid (HL1b.out.below hbV)
      replace HL1f := Lib.hid (HL1f.out.below hbV)
      replace HL3b := Lib.hid (HL3b.out.below hbV)
      replace HL3p := Lib.hid (HL3p.out.below hbV)
      replace HL5b := Lib.hid (HL5b.out.below hbV)
      replace HL5p := Lib.hid (HL5p.out.below hbV)
      replace HL7b := Lib.hid (HL7b.out.below hbV)
      replace HL7h := Lib.hid (HL7h.out.below hbV)
      replace HL9xb := Lib.hid (HL9xb.out.below hbV)
      replace HL9xp := Lib.hid (HL9xp.out.below hbV)
      replace HL9yb := Lib.hid (HL9yb.out.below hbV)
      replace HL9yp := Lib.hid (HL9yp.out.below hbV)
      replace HL11xb := Lib.hid (HL11xb.out.below hbV)
      replace HL11xp := Lib.hid (HL11xp.out.below hbV)
      replace HL11yb := Lib.hid (HL11yb.out.below hbV)
      replace HL11yp := Lib.hid (HL11yp.out.below hbV)
      clear hbV
      have z_0_0 := HZ1.out.cell (i := 0) rfl
      have z_0_1 := HZ1.out.cell (i := 1) rfl
      have z_0_2 := HZ1.out.cell (i := 2) rfl
      have z_1_0 := HZ2.out.cell (i := 0) rfl
      have z_1_1 := HZ2.out.cell (i := 1) rfl
      have z_2_0 := HZ3.out.cell (i := 0) rfl
      have z_2_1 := HZ3.out.cell (i := 1) rfl
      have z_3_0 := HZ4.out.cell (i := 0) rfl
      have z_3_1 := HZ4.out.cell (i := 1) rfl
      have z_4_0 := HZ5.out.cell (i := 0) rfl
      have z_4_1 := HZ5.out.cell (i := 1) rfl
      have z_4_2 := HZ5.out.cell (i := 2) rfl
      have z_5_0 := HZ6.out.cell (i := 0) rfl
      have z_5_1 := HZ6.out.cell (i := 1) rfl
      have z_6_0 := HZ7.out.cell (i := 0) rfl
      have z_6_1 := HZ7.out.cell (i := 1) rfl
      have z_7_0 := HZ8.out.cell (i := 0) rfl
      have z_7_1 := HZ8.out.cell (i := 1) rfl
      have z_8_0 := HZ9.out.cell (i := 0) rfl
      have z_8_1 := HZ9.out.cell (i := 1) rfl
      have z_9_0 := HZ10.out.cell (i := 0) rfl
      have z_9_1 := HZ10.out.cell (i := 1) rfl
      try (go_wp2_with fail)
      clear z_0_0 z_0_1 z_0_2 z_1_0 z_1_1 z_2_0 z_2_1 z_3_0 z_3_1 z_4_0 z_4_1 z_4_2 z_5_0 z_5_1 z_6_0 z_6_1 z_7_0 z_7_1 z_8_0 z_8_1 z_9_0 z_9_1
      refine (spec_Commit ⟨P7a, Q7a, G7a⟩ h7b _ l7b x7c x7d _ HL7b.out ⟨by omega, by omega⟩ ⟨by omega, by omega⟩ ⟨by omega, by omega⟩).mono ?_
      rintro e u13 ⟨rfl, hb⟩
      rw [HC0.out, HT.out.1]
      replace HB := Lib.hid (Below.next HB.out hb)
      replace HZ1 := Lib.hid (HZ1.out.below hb)
      replace HZ2 := Lib.hid (HZ2.out.below hb)
      replace HZ3 := Lib.hid (HZ3.out.below hb)
      replace HZ4 := Lib.hid (HZ4.out.below hb)
      replace HZ5 := Lib.hid (HZ5.out.below hb)
      replace HZ6 := Lib.hid (HZ6.out.below hb)
      replace HZ7 := Lib.hid (HZ7.out.below hb)
      replace HZ8 := Lib.hid (HZ8.out.below hb)
      replace HZ9 := Lib.hid (HZ9.out.below hb)
      replace HZ10 := Lib.hid (HZ10.out.below hb)
      replace HL1b := Lib.hid (HL1b.out.below hb)
      replace HL1f := Lib.hid (HL1f.out.below hb)
      replace HL3b := Lib.hid (HL3b.out.below hb)
      replace HL3p := Lib.hid (HL3p.out.below hb)
      replace HL5b := Lib.hid (HL5b.out.below hb)
      replace HL5p := Lib.hid (HL5p.out.below hb)
      replace HL7b := Lib.hid (HL7b.out.below hb)
      replace HL7h := Lib.hid (HL7h.out.below hb)
      replace HL9xb := Lib.hid (HL9xb.out.below hb)
      replace HL9xp := Lib.hid (HL9xp.out.below hb)
      replace HL9yb := Lib.hid (HL9yb.out.below hb)
      replace HL9yp := Lib.hid (HL9yp.out.below hb)
      replace HL11xb := Lib.hid (HL11xb.out.below hb)
      replace HL11xp := Lib.hid (HL11xp.out.below hb)
      replace HL11yb := Lib.hid (HL11yb.out.below hb)
      replace HL11yp := Lib.hid (HL11yp.out.below hb)
      clear hb
      have z_0_0 := HZ1.out.cell (i := 0) rfl
      have z_0_1 := HZ1.out.cell (i := 1) rfl
      have z_0_2 := HZ1.out.cell (i := 2) rfl
      have z_1_0 := HZ2.out.cell (i := 0) rfl
      have z_1_1 := HZ2.out.cell (i := 1) rfl
      have z_2_0 := HZ3.out.cell (i := 0) rfl
      have z_2_1 := HZ3.out.cell (i := 1) rfl
      have z_3_0 := HZ4.out.cell (i := 0) rfl
      have z_3_1 := HZ4.out.cell (i := 1) rfl
      have z_4_0 := HZ5.out.cell (i := 0) rfl
      have z_4_1 := HZ5.out.cell (i := 1) rfl
      have z_4_2 := HZ5.out.cell (i := 2) rfl
      have z_5_0 := HZ6.out.cell (i := 0) rfl
      have z_5_1 := HZ6.out.cell (i := 1) rfl
      have z_6_0 := HZ7.out.cell (i := 0) rfl
      have z_6_1 := HZ7.out.cell (i := 1) rfl
      have z_7_0 := HZ8.out.cell (i := 0) rfl
      have z_7_1 := HZ8.out.cell (i := 1) rfl
      have z_8_0 := HZ9.out.cell (i := 0) rfl
      have z_8_1 := HZ9.out.cell (i := 1) rfl
      have z_9_0 := HZ10.out.cell (i := 0) rfl
      have z_9_1 := HZ10.out.cell (i := 1) rfl
      try (go_wp2_with fail)
      clear z_0_0 z_0_1 z_0_2 z_1_0 z_1_1 z_2_0 z_2_1 z_3_0 z_3_1 z_4_0 z_4_1 z_4_2 z_5_0 z_5_1 z_6_0 z_6_1 z_7_0 z_7_1 z_8_0 z_8_1 z_9_0 z_9_1
      refine (impl_VerifyInterval ⟨P7a, Q7a, G7a⟩ h7b _ l7b C0 x7e x7f x7g _ _ D9x _ _ D9y _ HL7b.out ⟨by omega, by omega⟩ iC0 ⟨by omega, by omega⟩ ⟨by omega, by omega⟩ ⟨by omega, by omega⟩ HL9xb.out HL9xp.out HL9yb.out HL9yp.out).mono ?_
      rintro e u14 ⟨rfl, hb⟩
      rw [HT.out.2.1, HT.out.2.2]
      replace HB := Lib.hid (Below.next HB.out hb)
      replace HZ1 := Lib.hid (HZ1.out.below hb)
      replace HZ2 := Lib.hid (HZ2.out.below hb)
      replace HZ3 := Lib.hid (HZ3.out.below hb)
      replace HZ4 := Lib.hid (HZ4.out.below hb)
      replace HZ5 := Lib.hid (HZ5.out.below hb)
      replace HZ6 := Lib.hid (HZ6.out.below hb)
      replace HZ7 := Lib.hid (HZ7.out.below hb)
      replace HZ8 := Lib.hid (HZ8.out.below hb)
      replace HZ9 := Lib.hid (HZ9.out.below hb)
      replace HZ10 := Lib.hid (HZ10.out.below hb)
      replace HL1b := Lib.hid (HL1b.out.below hb)
      replace HL1f := Lib.hid (HL1f.out.below hb)
      replace HL3b := Lib.hid (HL3b.out.below hb)
      replace HL3p := Lib.hid (HL3p.out.below hb)
      replace HL5b := Lib.hid (HL5b.out.below hb)
      replace HL5p := Lib.hid (HL5p.out.below hb)
      replace HL7b := Lib.hid (HL7b.out.below hb)
      replace HL7h := Lib.hid (HL7h.out.below hb)
      replace HL9xb := Lib.hid (HL9xb.out.below hb)
      replace HL9xp := Lib.hid (HL9xp.out.below hb)
      replace HL9yb := Lib.hid (HL9yb.out.below hb)
      replace HL9yp := Lib.hid (HL9yp.out.below hb)
      replace HL11xb := Lib.hid (HL11xb.out.below hb)
      replace HL11xp := Lib.hid (HL11xp.out.below hb)
      replace HL11yb := Lib.hid (HL11yb.out.below hb)
      replace HL11yp := Lib.hid (HL11yp.out.below hb)
      clear hb
      have z_0_0 := HZ1.out.cell (i := 0) rfl
      have z_0_1 := HZ1.out.cell (i := 1) rfl
      have z_0_2 := HZ1.out.cell (i := 2) rfl
      have z_1_0 := HZ2.out.cell (i := 0) rfl
      have z_1_1 := HZ2.out.cell (i := 1) rfl
      have z_2_0 := HZ3.out.cell (i := 0) rfl
      have z_2_1 := HZ3.out.cell (i := 1) rfl
      have z_3_0 := HZ4.out.cell (i := 0) rfl
      have z_3_1 := HZ4.out.cell (i := 1) rfl
      have z_4_0 := HZ5.out.cell (i := 0) rfl
      have z_4_1 := HZ5.out.cell (i := 1) rfl
      have z_4_2 := HZ5.out.cell (i := 2) rfl
      have z_5_0 := HZ6.out.cell (i := 0) rfl
      have z_5_1 := HZ6.out.cell (i := 1) rfl
      have z_6_0 := HZ7.out.cell (i := 0) rfl
      have z_6_1 := HZ7.out.cell (i := 1) rfl
      have z_7_0 := HZ8.out.cell (i := 0) rfl
      have z_7_1 := HZ8.out.cell (i := 1) rfl
      have z_8_0 := HZ9.out.cell (i := 0) rfl
      have z_8_1 := HZ9.out.cell (i := 1) rfl
      have z_9_0 := HZ10.out.cell (i := 0) rfl
      have z_9_1 := HZ10.out.cell (i := 1) rfl
      try (go_wp2_with fail)
      clear z_0_0 z_0_1 z_0_2 z_1_0 z_1_1 z_2_0 z_2_1 z_3_0 z_3_1 z_4_0 z_4_1 z_4_2 z_5_0 z_5_1 z_6_0 z_6_1 z_7_0 z_7_1 z_8_0 z_8_1 z_9_0 z_9_1
      go_ret
      exact ⟨rfl, HB.out⟩
end Go.Proofs.Yteemlmmdngkghaa
/- From a walk of a law to its row: whatever the arguments, the law returns true and nothing that was there has turned. -/







namespace Go.Proofs.Yteemlmmdngkghaa
open Go.ChangeShapes Go.WideShapes Go.ChangeAt Go.RowKit

theorem ownKnob_none : ownKnob Try.prog.godebug = none := by kernel_rfl
theorem laid_out : laidOutB Try.prog = true := by kernel_rfl

section
variable {H : Type} {enc : TypeId × Value → H} {P : Program}

theorem trodAll_below (hl : laidOutB P = true) {W W' : World} (hb : Below W.heap.size W W') :
    ∀ (ts : List TypeId) (vs : List Value) (ds : List (DataW H)) (ps : List MemPlace), (∀ t ∈ ts, P.readableRec t = true ∧ t < P.types.size) →
      DataW.TrodAll enc P W 0 (fun _ => true) true ts vs ds ps → (∀ x ∈ ps, x.block < W.heap.size) →
      ∀ sp : Nat → Bool, (∀ p ∈ ps, sp p.block = true) → DataW.TrodAll enc P W' 0 sp true ts vs ds ps
  | [], vs, ds, ps, _, h, _, sp, _ => by
    obtain ⟨rfl, rfl, rfl⟩ := trodAll_nil h
    exact trodAll_mk0
  | t :: ts, vs, ds, ps, ht, h, hlt, sp, hsp => by
    obtain ⟨v0, vs0, d0, ds0, p0, q0, rfl, rfl, rfl, h0, r0⟩ := trodAll_cons h
    refine trodAll_cons_mk ?_ (trodAll_below hl hb ts vs0 ds0 q0 (fun t' h' => ht t' (by simp [h'])) r0 (fun x hx => hlt x (by simp [hx])) sp (fun x hx => hsp x (by simp [hx])))
    exact WideElems.Trod_stays hl (ht t (by simp)).1 (ht t (by simp)).2 h0 (fun x hx => hb.same (hlt x (by simp [hx]))) (fun x hx => hsp x (by simp [hx]))

theorem post_law {f : Func} {s : ChangeSpec} {tb : TypeId} {W W' : World} {args : Array Value} {ds gs : List (DataW H)} {before : List MemPlace}
    (hl : laidOutB P = true) (hpB : f.params.toList.all (fun t => P.readableRec t && decide (t < P.types.size)) = true) (hrt : f.resultTypes = #[tb]) (htb : P.underlying tb = some .bool)
    (hvars : s.vars = []) (hW : DataW.Whole enc P f.params.toList s.vars false W args.toList ds gs before)
    (hfn : s.fn H ds = { results := [.lit (.bool true)], args := ds }) (hb : Below W.heap.size W W') :
    s.post enc P f false true false false W args (.bool true) W' := by
  have hp : ∀ t ∈ f.params.toList, P.readableRec t = true ∧ t < P.types.size := fun t ht => by simpa using List.all_eq_true.1 hpB t ht
  have hlt : ∀ x ∈ before, x.block < W.heap.size := fun x hx => by simpa using hW.lt x hx
  have hW' := hW
  obtain ⟨p, q, hA0, hV, rfl, hfz, hnd⟩ := hW
  rw [hvars] at hV
  obtain ⟨rfl, rfl⟩ := trodVars_none hV
  have e : s.fn H (ds ++ []) = { results := [.lit (.bool true)], args := ds } := by rw [List.append_nil]; exact hfn
  have hargs := trodAll_below (enc := enc) hl hb f.params.toList args.toList ds p hp hA0 (fun x hx => hlt x (by simp [hx]))
  refine ⟨ds, [], p ++ [], [], p, [], hW', ?_, ?_, ?_, ?_, fun h => by cases h⟩
  · rw [e, hrt]
    exact trodAll_cons_mk (shut_bool htb true) trodAll_mk0
  · rw [e]
    exact hargs _ (fun x hx => by simpa using hlt x (by simp [hx]))
  · rw [e, hvars]
    rfl
  · exact hb.frame _
end


section
variable {H : Type} {enc : TypeId × Value → H} {P : Program} {w : World} {base : Nat} {spare : Nat → Bool} {held : Bool}
open Go.Joins Go.Deep
end

section
variable {H : Type} {enc : TypeId × Value → H} {w : World} {base : Nat} {spare : Nat → Bool} {held : Bool}
theorem addr_of_cell {w : World} {a : Addr} {v : Value} (h : w.cell? a = some v) : a = ⟨a.block, a.off, none⟩ := by
  obtain ⟨b, o, s⟩ := a
  cases s with
  | none => rfl
  | some x =>
    unfold World.cell? at h
    split at h <;> simp at h
end
end Go.Proofs.Yteemlmmdngkghaa
/- Arguments that are slices of structs. -/


namespace Go.Proofs.Yteemlmmdngkghaa
open Go.ChangeShapes Go.WideShapes Go.ChangeAt Go.RowKit
set_option linter.unusedVariables false

end Go.Proofs.Yteemlmmdngkghaa
/- Arguments of type laws.Proof (printed by genarg.py). -/


namespace Go.Proofs.Yteemlmmdngkghaa
open Go.ChangeShapes Go.WideShapes Go.ChangeAt Go.RowKit
set_option linter.unusedVariables false
set_option linter.unusedSimpArgs false

section
variable {H : Type} {enc : TypeId × Value → H} {w : World} {base : Nat} {spare : Nat → Bool} {held : Bool}
open Go.Joins Go.Deep
end
end Go.Proofs.Yteemlmmdngkghaa
/- Arguments of type laws.Head (printed by genarg.py). -/



namespace Go.Proofs.Yteemlmmdngkghaa
open Go.ChangeShapes Go.WideShapes Go.ChangeAt Go.RowKit
set_option linter.unusedVariables false
set_option linter.unusedSimpArgs false

section
variable {H : Type} {enc : TypeId × Value → H} {w : World} {base : Nat} {spare : Nat → Bool} {held : Bool}
open Go.Joins Go.Deep
end
end Go.Proofs.Yteemlmmdngkghaa
/- Arguments of type laws.Entry (printed by genarg.py). -/



namespace Go.Proofs.Yteemlmmdngkghaa
open Go.ChangeShapes Go.WideShapes Go.ChangeAt Go.RowKit
set_option linter.unusedVariables false
set_option linter.unusedSimpArgs false

section
variable {H : Type} {enc : TypeId × Value → H} {w : World} {base : Nat} {spare : Nat → Bool} {held : Bool}
open Go.Joins Go.Deep
end
end Go.Proofs.Yteemlmmdngkghaa
/- Arguments of type laws.Group. -/


namespace Go.Proofs.Yteemlmmdngkghaa
open Go.ChangeShapes Go.WideShapes Go.ChangeAt Go.RowKit
set_option linter.unusedVariables false

section
variable {H : Type} {enc : TypeId × Value → H} {w : World} {base : Nat} {spare : Nat → Bool} {held : Bool}
open Go.Joins Go.Deep
end
end Go.Proofs.Yteemlmmdngkghaa
