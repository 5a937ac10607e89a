/- Walks: impl.listReader, impl.SplitRecords. -/
import Derived.Test.YtbcaknmpbkapnaaSplit
namespace Go.Proofs.Ytbcaknmpbkapnaa
open Go.RowKit
set_option linter.unusedSimpArgs false
set_option linter.unusedVariables false

/-- the reader in block g: what is left (memory of the world w0), and whether all was right -/
def RdB (w0 w : World) (g : Nat) (s : List Int × Bool) : Prop := w0.heap.size ≤ g ∧ ∃ v, Box2 w g 69 v (.bool s.2) ∧ Ints w0 v s.1
theorem RdB.kept {w0 w w' : World} {g : Nat} {s : List Int × Bool} (h : RdB w0 w g s) (hf : w'.heap[g]? = w.heap[g]?) : RdB w0 w' g s := by
  obtain ⟨h1, v, h2, h3⟩ := h
  exact ⟨h1, v, hf.trans h2, h3⟩
theorem grown_some {w : World} {g : Nat} : w.grownBy w (some g) := World.grownBy.refl _ _
theorem below_grown {w0 w w' : World} {g : Nat} (hb : Below w0.heap.size w0 w) (hg : w0.heap.size ≤ g) (h : w.grownBy w' (some g)) : Below w0.heap.size w0 w' :=
  hb.grown h hb.size (fun k hk => by cases hk; exact hg)
set_option maxHeartbeats 1000000 in
theorem impl_next (w0 : World) (g : Nat) (s : List Int × Bool) (w : World) (h : RdB w0 w g s) (hb : Below w0.heap.size w0 w) :
    Calls Try.prog 45 #[.pointer (some ⟨g, 0, none⟩)] w fun e w' => e = .returned (.int .i64 (nextR s).1) ∧ RdB w0 w' g (nextR s).2 ∧ w.grownBy w' (some g) := by
  obtain ⟨hg, v, hB, hI⟩ := h
  obtain ⟨a, n, c, rfl⟩ := hI.shape
  obtain ⟨l, ok⟩ := s
  have e := hI.len
  obtain ⟨k1, k2⟩ := hI.capMax
  unfold maxLen at k2
  have c0 := hB.cell0
  have c1 := hB.cell1
  have f0 := hB.frozen 0
  have f1 := hB.frozen 1
  have HB := Lib.hid hB; clear hB
  have HI := Lib.hid hI; clear hI
  cases l with
  | nil =>
    obtain rfl : n = 0 := by simpa using e.symm
    clear e
    go_enter Try.func45, Try.ntmps45
    go_wp2_with fail
    go_ret
    exact ⟨rfl, ⟨hg, _, HB.out.set1 _, HI.out⟩, grownBy_setCell _ _ _ _⟩
  | cons x l =>
    have hn : 0 < n := by simp only [List.length_cons] at e; omega
    clear e
    obtain ⟨b, o, rfl, hcx⟩ := HI.out.at_ hn
    have y0 := box_at (hcx 0 hn) hb
    rw [Nat.add_zero] at y0
    have hx : nth (x :: l) 0 = x := rfl
    rw [hx] at y0
    have z0 : ¬ (n : Int) = 0 := by omega
    have z1 : (0 : Int) < (n : Int) := by omega
    obtain ⟨a1, hs1, HI1⟩ := sl_drop HI.out (x := 1) (k := 1) rfl (by omega)
    have HD := Lib.hid HI1; clear HI1 hcx hx
    go_enter Try.func45, Try.ntmps45
    go_wp2_with fail
    go_ret
    exact ⟨rfl, ⟨hg, _, HB.out.set0 _, HD.out⟩, grownBy_setCell _ _ _ _⟩
set_option maxHeartbeats 1000000 in
theorem impl_list (w0 : World) (g : Nat) (s : List Int × Bool) (w : World) (h : RdB w0 w g s) (hb : Below w0.heap.size w0 w) (hl : s.1.length ≤ 1000000000) (hgw : g < w.heap.size) :
    Calls Try.prog 46 #[.pointer (some ⟨g, 0, none⟩)] w fun e w' => ∃ v', e = .returned v' ∧ OwnI w' w.heap.size v' (listR s).1 ∧ RdB w0 w' g (listR s).2 ∧ w.grownBy w' (some g) := by
  have hl2 := nextR_len s
  obtain ⟨x, t, hx⟩ : ∃ x t, nextR s = (x, t) := ⟨_, _, rfl⟩
  rw [hx] at hl2
  have HX := Lib.hid hx; clear hx
  have H := Lib.hid h; clear h
  go_enter Try.func46, Try.ntmps46
  go_wp2_with fail
  refine (impl_next w0 g s w H.out hb).mono ?_
  rintro e w1 ⟨rfl, hR, hG⟩
  rw [HX.out] at hR ⊢
  have hb1 := below_grown hb H.out.1 hG
  obtain ⟨hg, v, hB, hI⟩ := hR
  obtain ⟨a, n, c, rfl⟩ := hI.shape
  obtain ⟨l, ok⟩ := t
  have e := hI.len
  dsimp only at hl2 hB hI e
  obtain ⟨k1, k2⟩ := hI.capMax
  unfold maxLen at k2
  have c0 := hB.cell0
  have c1 := hB.cell1
  have f0 := hB.frozen 0
  have f1 := hB.frozen 1
  have HB := Lib.hid hB; clear hB
  have HI := Lib.hid hI; clear hI
  have HG := Lib.hid hG; clear hG
  have hs1 := HG.out.size
  by_cases hc : 0 ≤ x ∧ x ≤ (n : Int)
  · have HQ : Hid (listR s = (l.take x.toNat, (l.drop x.toNat, ok))) := by unfold Hid listR; rw [HX.out]; dsimp only; rw [if_pos ⟨hc.1, by omega⟩]
    obtain ⟨j, rfl⟩ : ∃ j : Nat, x = j := ⟨x.toNat, by omega⟩
    rw [Int.toNat_natCast] at HQ
    obtain ⟨hs2, HI2⟩ := sl_take HI.out (x := (j : Int)) (k := j) rfl (by omega)
    obtain ⟨a1, hs3, HI3⟩ := sl_drop HI.out (x := (j : Int)) (k := j) rfl (by omega)
    have HT := Lib.hid HI2; have HD := Lib.hid HI3
    clear HI2 HI3
    have HLL : Hid ((l.take j).length ≤ 1000000000) := by unfold Hid; rw [List.length_take]; omega
    have HW := Lib.hid (decide_eq_true hc)
    clear hc e
    go_wp2_with (first
      | (go_at_call 63; refine (impl_within _ _ _ _).mono ?_; rintro e w2 ⟨rfl, rfl⟩; rw [HW.out])
      | (go_at_call 64; refine (slices_Clone _ (l.take j) _ (HT.out.below hb1) HLL.out).mono ?_; rintro e w2 ⟨v2, rfl, hO, hb2⟩; have HO := Lib.hid hO; clear hO; have hs4 := hb2.size; have HB2 := Lib.hid (HB.out.below hb2); have c2 := HB2.out.cell0; have f2 := HB2.out.frozen 0)
      | fail)
    go_ret
    rw [HQ.out]
    refine ⟨_, rfl, ?_, ⟨hg, _, HB2.out.set0 _, HD.out⟩, ?_⟩
    · refine ⟨HO.out.1, ownsRow_mono (ownsRow_frame HO.out.2 fun k hk => ?_) hs1⟩
      have := HO.out.lt k hk
      exact heap_setCell_other _ _ _ _ (by simp; omega)
    · exact grownBy_trans (grownBy_trans HG.out (grownBy_of_below hb2)) (grownBy_setCell _ _ _ _)
  · have HQ : Hid (listR s = ([], (l, false))) := by
      unfold Hid listR; rw [HX.out]; dsimp only; rw [if_neg (fun h => hc ⟨h.1, by omega⟩)]
    have HW := Lib.hid (decide_eq_false hc)
    clear hc e
    go_wp2_with (first
      | (go_at_call 63; refine (impl_within _ _ _ _).mono ?_; rintro e w2 ⟨rfl, rfl⟩; rw [HW.out])
      | fail)
    go_ret
    rw [HQ.out]
    exact ⟨_, rfl, OwnI.nil _ _, ⟨hg, _, HB.out.set1 _, HI.out⟩, grownBy_trans HG.out (grownBy_setCell _ _ _ _)⟩
set_option maxHeartbeats 1000000 in
theorem impl_ends (w0 : World) (g : Nat) (s : List Int × Bool) (w : World) (h : RdB w0 w g s) :
    Calls Try.prog 48 #[.pointer (some ⟨g, 0, none⟩)] w fun e w' => e = .returned (.bool (s.2 && decide (s.1.length = 0))) ∧ w = w' := by
  obtain ⟨hg, v, hB, hI⟩ := h
  obtain ⟨a, n, c, rfl⟩ := hI.shape
  obtain ⟨l, ok⟩ := s
  have e := hI.len
  have c0 := hB.cell0
  have c1 := hB.cell1
  dsimp only at e c0 c1 ⊢
  rw [e]
  clear e hB hI
  cases ok
  · go_enter Try.func48, Try.ntmps48
    go_wp2_with fail
    go_ret
    exact ⟨rfl, rfl⟩
  · by_cases hn : n = 0
    · subst hn
      go_enter Try.func48, Try.ntmps48
      go_wp2_with fail
      go_ret
      exact ⟨rfl, rfl⟩
    · have z : ¬ (n : Int) = 0 := by omega
      go_enter Try.func48, Try.ntmps48
      go_wp2_with fail
      go_ret
      exact ⟨ret_bool (by simp [hn]), rfl⟩
theorem splitK_le (l : List Int) : splitK l ≤ l.length := by unfold splitK; omega
set_option maxHeartbeats 4000000 in
theorem impl_SplitRecords (v : Value) (l : List Int) (w : World) (hl : l.length ≤ 400000000) (h : Ints w v l) :
    Calls Try.prog 19 #[v] w fun e w' => ∃ v', e = .returned (.tuple #[v', .bool (splitB l)]) ∧ OwnL 22 kInts w' w.heap.size w'.heap.size v' (splitL l) ∧ Below w.heap.size w w' := by
  obtain ⟨a, n, c, rfl⟩ := h.shape
  have e := h.len
  obtain ⟨k1, k2⟩ := h.capMax
  unfold maxLen at k2
  have HE := Lib.hid e
  rw [← goodS_eq]
  have hkl := splitK_le l
  obtain ⟨K, hK⟩ : ∃ K, splitK l = K := ⟨_, rfl⟩
  obtain ⟨x, s0, hx⟩ : ∃ x s0, nextR (l, recB l) = (x, s0) := ⟨_, _, rfl⟩
  have hKx : (min x (n : Int)).toNat = K := by rw [← hK]; unfold splitK; rw [hx, e]
  have HS : Hid (splitS l = listsR K s0) := by unfold Hid splitS; rw [hK, hx]
  have hs0 : s0.1.length ≤ n := by have := nextR_len (l, recB l); rw [hx] at this; dsimp only at this; omega
  have HX := Lib.hid hx
  rw [hK, e] at hkl
  rw [e] at hl
  clear e hK hx
  obtain ⟨q, hq⟩ : ∃ q, recB l = q := ⟨_, rfl⟩
  have HQ := Lib.hid hq; clear hq
  rw [HQ.out] at HX
  have H := Lib.hid h; clear h
  go_enter Try.func19, Try.ntmps19
  go_wp2_with (first | (go_at_call 44; refine (impl_isRecord _ l _ H.out).mono ?_; rintro e w1 ⟨rfl, hb1⟩; rw [HQ.out]) | fail)
  obtain ⟨W, hW⟩ : ∃ W, W = ((w1.alloc (.cells #[.slice a n c, .bool q] 69)).alloc (.cells #[] 22)) := ⟨_, rfl⟩
  rw [← hW]
  have hWB : Below w1.heap.size w1 W := by rw [hW]; (repeat (first | exact Below.refl _ _ | assumption | refine Below.drew ?_ | refine Below.alloc ?_ (by first | (simp; done) | (simp; omega)) _ | refine Below.setCell ?_ (by first | (simp; done) | (simp; omega)) _))
  have hWs : W.heap.size = w1.heap.size + 2 := by rw [hW]; simp
  have hBx : Box2 W w1.heap.size 69 (.slice a n c) (.bool q) := by
    rw [hW]; exact (heap_alloc_old _ _ (by simp)).trans (heap_alloc_new _ _)
  have HR0 : Hid (RdB w W w1.heap.size (l, q)) := ⟨hb1.size, _, hBx, H.out⟩
  have HO0 : Hid (OwnL 22 kInts W (w1.heap.size + 1) W.heap.size (.slice (some ⟨w1.heap.size + 1, 0, none⟩) 0 0) []) := by
    unfold Hid
    have := OwnL.lit0 (w1.alloc (.cells #[.slice a n c, .bool q] 69)) (w1.heap.size + 1) (by simp)
    rw [← hW] at this
    simpa using this
  have HWB : Hid (Below w.heap.size w W) := hb1.trans (hWB.mono hb1.size)
  have hlt1 := hb1.size
  clear hb1 hWB hBx hW
  refine (impl_next w w1.heap.size (l, q) W HR0.out HWB.out).mono ?_
  rintro e w2 ⟨rfl, hR, hG⟩
  rw [HX.out] at hR ⊢
  have HRN := Lib.hid hR; clear hR
  have HB2 := Lib.hid (below_grown HWB.out hlt1 hG)
  have hs2 := hG.size
  have HO1 : Hid (OwnL 22 kInts w2 (w1.heap.size + 1) w2.heap.size (.slice (some ⟨w1.heap.size + 1, 0, none⟩) 0 0) []) :=
    kRows.own_mono (kRows.own_frame HO0.out fun k q1 q2 q3 => hG.block k q3 (by simp; omega)) (Nat.le_refl _) hs2
  clear hG
  go_wp2_with fail
  all_goals
    go_loopg [5, 19] K (fun g v5 i wr => ∃ k : Nat, k + g = K ∧ i = .int .i64 k ∧ OwnL 22 kInts wr (w1.heap.size + 1) wr.heap.size v5 (listsR k s0).1 ∧ RdB w wr w1.heap.size (listsR k s0).2 ∧ w1.heap.size + 2 ≤ wr.heap.size ∧ Below w.heap.size w wr)
    case atStart => exact ⟨0, by omega, rfl, HO1.out, HRN.out, by omega, HB2.out⟩
    case round =>
      obtain ⟨k, hkg, rfl, hO, hR, hsz, hb⟩ := hrel
      have hll := listsR_total k s0
      have hlk : Hid ((listsR k s0).1.length = k) := listsR_length k s0
      obtain ⟨a4, n4, c4, rfl⟩ := hO.rd.shape
      have HO := Lib.hid hO; have HR := Lib.hid hR
      clear hO hR
      have HLL : Hid (((listsR k s0).2.1).length ≤ 1000000000) := by unfold Hid; omega
      have HTT : Hid (total (listsR k s0).1 ≤ 400000000) := by unfold Hid; omega
      clear hll
      by_cases hlt : k < K
      · have t1 : (k : Int) < x := by omega
        have t2 : (k : Int) < (n : Int) := by omega
        have t3 : k < n := by omega
        go_wp2_with fail
        refine (impl_list w w1.heap.size (listsR k s0).2 wr HR.out hb HLL.out (by omega)).mono ?_
        rintro e w3 ⟨v3, rfl, hX, hR3, hG3⟩
        obtain ⟨a6, n6, c6, hv3⟩ := hX.ints.shape
        subst hv3
        have HX3 := Lib.hid hX; have HR3 := Lib.hid hR3
        have hb3 := below_grown hb hlt1 hG3
        have hs3 := hG3.size
        have HO3 : Hid (OwnL 22 kInts w3 (w1.heap.size + 1) wr.heap.size (.slice a4 n4 c4) (listsR k s0).1) :=
          kRows.own_frame HO.out fun k q1 q2 q3 => hG3.block k q3 (by simp; omega)
        have HG3 := Lib.hid hG3
        clear hX hR3 hG3
        go_wp2_with (first
          | (at_builtin; refine wpList_append_rows rfl _ _ rfl (w1.heap.size + 1) wr.heap.size wr.heap.size w3.heap.size (.slice a4 n4 c4) (.slice a6 n6 c6) (listsR k s0).1 (listR (listsR k s0).2).1 w3.heap.size 1 rfl rfl (Kind.next (K := kRows) HO3.out ((Below.refl _ _).alloc (Nat.le_refl _) _)) (Kind.next (K := kInts) (InI.of_own HX3.out) ((Below.refl _ _).alloc (Nat.le_refl _) _)) (Nat.le_refl _) (by simp) (by simp; omega) (by omega) (by simp [go_sem]) (by rw [hlk.out]; omega) ?_; intro v' w4 hO4 hb4)
          | fail)
        go_roundg (K - (k + 1))
        case measure => omega
        case rel =>
          refine ⟨k + 1, by omega, by go_num, hO4, ?_, ?_, ?_⟩
          · refine (HR3.out.kept (w' := w4) ?_)
            rw [hb4.block _ (by omega)]
            exact heap_alloc_old _ _ (by omega)
          · have := hb4.size; simp at this; omega
          · exact (hb3.alloc hb3.size _).trans (hb4.mono (by omega))
      · obtain rfl : K = k := by omega
        first
          | (have t1 : ¬ (K : Int) < x := by omega)
          | ((have t1 : ¬ (K : Int) < (n : Int) := (by omega)); (have t2 : ¬ K < n := (by omega)))
        go_wp2_with fail
        refine (impl_JoinRecords _ (listsR K s0).1 wr (by have := HTT.out; rw [hlk.out]; omega) HO.out.rd).mono ?_
        rintro e w5 ⟨v5, rfl, hJ, hb5⟩
        obtain ⟨q1, hq1⟩ : ∃ q, jrB (listsR K s0).1 = q := ⟨_, rfl⟩
        obtain ⟨q2, hq2⟩ : ∃ q, ((listsR K s0).2.2 && decide ((listsR K s0).2.1.length = 0)) = q := ⟨_, rfl⟩
        obtain ⟨q3, hq3⟩ : ∃ q, decide (jrL (listsR K s0).1 = l) = q := ⟨_, rfl⟩
        have hG : goodS l = (q2 && (q1 && q3)) := by unfold goodS; rw [HS.out, hq2, hq1, hq3]
        have hL1 : q2 = true → q1 = true → q3 = true → splitL l = (listsR K s0).1 := fun e1 e2 e3 => by
          rw [← HS.out]; exact splitL_yes (by rw [hG, e1, e2, e3]; rfl)
        have hL0 : (q2 && (q1 && q3)) = false → splitL l = [] := fun e => splitL_no (by rw [hG, e])
        have HL1 := Lib.hid hL1; have HL0 := Lib.hid hL0
        have HGG := Lib.hid hG
        rw [hq1]
        have HQ1 := Lib.hid hq1; have HQ2 := Lib.hid hq2; have HQ3 := Lib.hid hq3
        have HJ := Lib.hid hJ
        have HR5 : Hid (RdB w w5 w1.heap.size (listsR K s0).2) := HR.out.kept (hb5.block _ (by omega))
        have hbw := hb.trans (hb5.mono hb.size)
        have HO5 := Lib.hid (Kind.next (K := kRows) HO.out hb5)
        have hs5 := hb5.size
        clear hq1 hq2 hq3 hL1 hL0 hG hJ
        cases q2 <;> cases q1 <;> cases q3
        all_goals
          go_wp2_with (first
            | (go_at_call 48; refine (impl_ends w w1.heap.size (listsR K s0).2 _ HR5.out).mono ?_; rintro e w6 ⟨rfl, rfl⟩; rw [HQ2.out])
            | (go_at_call 23; refine (slices_Equal _ _ (jrL (listsR K s0).1) l _ HJ.out.reads (H.out.below hbw)).mono ?_; rintro e w6 ⟨rfl, m6, rfl⟩; rw [HQ3.out])
            | fail)
          go_ret2
          rw [HGG.out]
          first
            | (rw [HL0.out (by trivial)]; exact ⟨_, rfl, OwnL.nil _ _ _ _ _, hbw⟩)
            | (rw [HL0.out (by trivial)]; exact ⟨_, rfl, OwnL.nil _ _ _ _ _, below_drewN hbw _⟩)
            | (rw [HL1.out (by trivial) (by trivial) (by trivial)]; refine ⟨_, rfl, kRows.own_mono (Kind.next (K := kRows) HO5.out (below_drewN (Below.refl _ _) _)) ?_ ?_, below_drewN hbw _⟩; omega; exact hs5)
end Go.Proofs.Ytbcaknmpbkapnaa
