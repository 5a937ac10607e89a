/- Walks: stages out of records, the program's (printed by gen_dec6.py). -/
import Derived.Test.YtbcaknmpbkapnaaDec2
import Derived.Test.YtbcaknmpbkapnaaKSeaG
import Derived.Test.YtbcaknmpbkapnaaStg5
import Derived.Test.YtbcaknmpbkapnaaRegV
namespace Go.Proofs.Ytbcaknmpbkapnaa
open Go.RowKit
set_option linter.unusedSimpArgs false
set_option linter.unusedVariables false

/-- own rows of integers, one by one -/
theorem OwnL.parts {w : World} {lo hi n c : Nat} {a : Option Addr} {ds : List (List Int)} (h : OwnL 22 kInts w lo hi (.slice a n c) ds) (hn : 0 < n) :
    ∃ (g : Nat) (los his : Nat → Nat), a = some ⟨g, 0, none⟩ ∧ (∀ k, k < n → ∃ x m y, w.cell? ⟨g, k, none⟩ = some (.slice x m y) ∧ kInts.own w (los k) (his k) (.slice x m y) (rwA ds k) ∧ (rwA ds k).length = m ∧ lo ≤ los k ∧ his k ≤ hi) ∧ (∀ i j, i < n → j < n → i ≠ j → his i ≤ los j ∨ his j ≤ los i) := by
  have hlen : ds.length = n := h.rd.len
  obtain ⟨vs, los, his, hl, hO, hg, hel, hd⟩ := h
  have hO' := hO
  obtain ⟨hx, ⟨h1, h2⟩ | ⟨g, cap, cur, hv, hb, hgg, hnc, hcm, hcs, ht⟩⟩ := hO
  · omega
  · cases hv
    refine ⟨g, los, his, rfl, fun k hk => ?_, fun i j hi hj hij => hd i j (by omega) (by omega) hij⟩
    have hk1 : k < vs.length := by omega
    have hk2 : k < ds.length := by omega
    obtain ⟨h3, h4⟩ := hel k hk1 hk2
    obtain ⟨x, m, y, e⟩ := Ints.shape (kInts.own_rd h3)
    have hc := World.ownsRow.cellAt hO' k (by omega)
    rw [List.getElem?_eq_getElem hk1, e] at hc
    rw [e] at h3
    rw [rwA_eq hk2]
    exact ⟨x, m, y, hc, h3, (Ints.len (kInts.own_rd h3)), h4⟩
theorem OwnTG.zero (w : World) {lo hi : Nat} (h : lo ≤ hi) : kStageG.own w lo hi (.agg #[.int .i64 0, .slice none 0 0, .slice none 0 0, .slice none 0 0, .slice none 0 0, .slice none 0 0, .slice none 0 0, .slice none 0 0, .slice none 0 0, .slice none 0 0, .slice none 0 0, .slice none 0 0, .slice none 0 0]) ⟨0, [], zeroM, zeroO⟩ := by
  have n1 : OwnR 75 rCipher w lo lo (.slice none 0 0) [] := OwnR.nil _ _ _ _ _
  have n2 : sInts.own w lo lo (.slice none 0 0) [] := ⟨OwnI.nil _ _, fun k hk => by cases hk⟩
  exact ⟨_, _, _, _, _, _, _, _, fun _ => lo, fun _ => lo, rfl, ⟨by decide, by decide⟩, n1, n2, n2, own0 w (Nat.le_refl _), n2, n2, n2, own0 w (Nat.le_refl _), fun _ _ => ⟨Nat.le_refl _, h⟩, fun _ _ _ _ _ => .inl (Nat.le_refl _)⟩
theorem stD_no {l : List Int} (h : stB l = false) : stD l = ⟨0, [], zeroM, zeroO⟩ := by unfold stD; rw [if_neg (by rw [h]; simp)]
theorem stD_yes {l : List Int} (h : stB l = true) : stD l = stX l := by unfold stD; rw [if_pos h]
theorem stB_c {l : List Int} (h : stC l = false) : stB l = false := by unfold stB; rw [h]; rfl
theorem stB_f {l : List Int} (h : stF l = false) : stB l = false := by unfold stB; rw [h]; simp
theorem row3t {w : World} {lo hi : Nat} {vs : List Value} {d : ProofD} (h : rProof.own w lo hi vs d) : ∃ a1 n1 c1 a2 n2 c2 a3 n3 c3, vs = [.slice a1 n1 c1, .slice a2 n2 c2, .slice a3 n3 c3] := by
  obtain ⟨_, _, rfl, k3, ⟨_, _, rfl, k4, ⟨_, _, rfl, k5, rfl⟩⟩⟩ := rProof.own_rd h
  obtain ⟨_, _, _, rfl⟩ := sInts.sl k3
  obtain ⟨_, _, _, rfl⟩ := sInts.sl k4
  obtain ⟨_, _, _, rfl⟩ := sInts.sl k5
  exact ⟨_, _, _, _, _, _, _, _, _, rfl⟩
theorem nth_64t {l : List Int} (h : AllI64 l) (i : Nat) : I64 (nth l i) := by
  by_cases hi : i < l.length
  · rw [nth_eq hi]; exact h _ (List.getElem_mem hi)
  · simp only [nth, List.getD, List.getElem?_eq_none (Nat.le_of_not_lt hi), Option.getD_none]; exact ⟨by decide, by decide⟩
/-- a matrix's stage, piece by piece -/
theorem OwnTG.matrix {w : World} {lo hi A B C l2 h2 l3 h3 : Nat} {v1 a1 a2 : Value} {us : List Value} {out : List CipherD} {c2 c3 : List Int} {pi : ProofD} {vo : Int} (hv : vo = 1) (o0 : (kR 75 rCipher).own w A B v1 out) (o1 : kInts.own w l2 h2 a1 c2) (o2 : kInts.own w l3 h3 a2 c3) (o3 : rProof.own w B C us pi)
    (q1 : lo ≤ l2) (q2 : h2 ≤ A) (q3 : lo ≤ l3) (q4 : h3 ≤ A) (q5 : A ≤ B) (q6 : B ≤ C) (q7 : C ≤ hi) (q8 : lo ≤ A) (d : h2 ≤ l3 ∨ h3 ≤ l2) :
    kStageG.own w lo hi (.agg (.int .i64 vo :: v1 :: ((a1 :: a2 :: us) ++ [.slice none 0 0, .slice none 0 0, .slice none 0 0, .slice none 0 0, .slice none 0 0, .slice none 0 0])).toArray) ⟨1, out, ⟨c2, c3, pi⟩, zeroO⟩ := by
  subst hv
  have n2 : sInts.own w C C (.slice none 0 0) [] := ⟨OwnI.nil _ _, fun k hk => by cases hk⟩
  refine ⟨v1, a1, a2, us, _, _, _, _, fun i => match i with | 0 => A | 1 => l2 | 2 => l3 | 3 => B | _ => C, fun i => match i with | 0 => B | 1 => h2 | 2 => h3 | 3 => C | _ => C, rfl, (show I64 1 from ⟨by decide, by decide⟩), o0, o1, o2, o3, n2, n2, n2, own0 w (Nat.le_refl _), ?_, ?_⟩
  · intro i hi
    match i with
    | 0 => exact ⟨q8, by show B ≤ _; omega⟩
    | 1 => exact ⟨q1, by show h2 ≤ _; omega⟩
    | 2 => exact ⟨q3, by show h3 ≤ _; omega⟩
    | 3 => exact ⟨by show _ ≤ B; omega, q7⟩
    | _ + 4 => exact ⟨by show _ ≤ C; omega, q7⟩
  · intro i j hi hj hij
    match i, j with
    | 0, 0 => exact absurd rfl hij
    | 1, 1 => exact absurd rfl hij
    | 2, 2 => exact absurd rfl hij
    | 3, 3 => exact absurd rfl hij
    | 0, 1 => exact .inr q2
    | 0, 2 => exact .inr q4
    | 0, 3 => exact .inl (Nat.le_refl _)
    | 1, 0 => exact .inl q2
    | 2, 0 => exact .inl q4
    | 3, 0 => exact .inr (Nat.le_refl _)
    | 1, 2 => exact d
    | 2, 1 => exact d.symm
    | 1, 3 => exact .inl (by show h2 ≤ B; omega)
    | 2, 3 => exact .inl (by show h3 ≤ B; omega)
    | 3, 1 => exact .inr (by show h2 ≤ B; omega)
    | 3, 2 => exact .inr (by show h3 ≤ B; omega)
    | 0, _ + 4 => exact .inl (by show B ≤ C; omega)
    | 1, _ + 4 => exact .inl (by show h2 ≤ C; omega)
    | 2, _ + 4 => exact .inl (by show h3 ≤ C; omega)
    | 3, _ + 4 => exact .inl (Nat.le_refl _)
    | _ + 4, 0 => exact .inr (by show B ≤ C; omega)
    | _ + 4, 1 => exact .inr (by show h2 ≤ C; omega)
    | _ + 4, 2 => exact .inr (by show h3 ≤ C; omega)
    | _ + 4, 3 => exact .inr (Nat.le_refl _)
    | _ + 4, _ + 4 => exact .inl (Nat.le_refl _)
theorem OwnTG.poly {w : World} {lo hi A B C l2 h2 l3 h3 l4 h4 : Nat} {v1 a1 a2 a3 : Value} {us : List Value} {out : List CipherD} {c2 c3 c4 : List Int} {pi : ProofD} {vo : Int} (hv : vo = 2) (o0 : (kR 75 rCipher).own w A B v1 out) (o1 : kInts.own w l2 h2 a1 c2) (o2 : kInts.own w l3 h3 a2 c3) (o4 : kInts.own w l4 h4 a3 c4) (o3 : rProof.own w B C us pi)
    (q1 : lo ≤ l2) (q2 : h2 ≤ A) (q3 : lo ≤ l3) (q4 : h3 ≤ A) (r1 : lo ≤ l4) (r2 : h4 ≤ A) (q5 : A ≤ B) (q6 : B ≤ C) (q7 : C ≤ hi) (q8 : lo ≤ A) (d : h2 ≤ l3 ∨ h3 ≤ l2) (d2 : h2 ≤ l4 ∨ h4 ≤ l2) (d3 : h3 ≤ l4 ∨ h4 ≤ l3) :
    kStageG.own w lo hi (.agg (.int .i64 vo :: v1 :: ([.slice none 0 0, .slice none 0 0, .slice none 0 0, .slice none 0 0, .slice none 0 0] ++ (a1 :: a2 :: a3 :: us))).toArray) ⟨2, out, zeroM, ⟨c2, c3, c4, pi⟩⟩ := by
  subst hv
  have n2 : sInts.own w C C (.slice none 0 0) [] := ⟨OwnI.nil _ _, fun k hk => by cases hk⟩
  refine ⟨v1, _, _, _, a1, a2, a3, us, fun i => match i with | 0 => A | 4 => l2 | 5 => l3 | 6 => l4 | 7 => B | _ => C, fun i => match i with | 0 => B | 4 => h2 | 5 => h3 | 6 => h4 | 7 => C | _ => C, rfl, (show I64 2 from ⟨by decide, by decide⟩), o0, n2, n2, own0 w (Nat.le_refl _), o1, o2, o4, o3, ?_, ?_⟩
  · intro i hi
    match i with
    | 0 => exact ⟨q8, by show B ≤ _; omega⟩
    | 1 => exact ⟨by show _ ≤ C; omega, q7⟩
    | 2 => exact ⟨by show _ ≤ C; omega, q7⟩
    | 3 => exact ⟨by show _ ≤ C; omega, q7⟩
    | 4 => exact ⟨q1, by show h2 ≤ _; omega⟩
    | 5 => exact ⟨q3, by show h3 ≤ _; omega⟩
    | 6 => exact ⟨r1, by show h4 ≤ _; omega⟩
    | 7 => exact ⟨by show _ ≤ B; omega, q7⟩
    | _ + 8 => omega
  · intro i j hi hj hij
    match i, j with
    | 0, 0 => exact absurd rfl hij
    | 0, 1 => exact (show B ≤ C ∨ C ≤ A by omega)
    | 0, 2 => exact (show B ≤ C ∨ C ≤ A by omega)
    | 0, 3 => exact (show B ≤ C ∨ C ≤ A by omega)
    | 0, 4 => exact (show B ≤ l2 ∨ h2 ≤ A by omega)
    | 0, 5 => exact (show B ≤ l3 ∨ h3 ≤ A by omega)
    | 0, 6 => exact (show B ≤ l4 ∨ h4 ≤ A by omega)
    | 0, 7 => exact (show B ≤ B ∨ C ≤ A by omega)
    | 1, 0 => exact (show C ≤ A ∨ B ≤ C by omega)
    | 1, 1 => exact absurd rfl hij
    | 1, 2 => exact (show C ≤ C ∨ C ≤ C by omega)
    | 1, 3 => exact (show C ≤ C ∨ C ≤ C by omega)
    | 1, 4 => exact (show C ≤ l2 ∨ h2 ≤ C by omega)
    | 1, 5 => exact (show C ≤ l3 ∨ h3 ≤ C by omega)
    | 1, 6 => exact (show C ≤ l4 ∨ h4 ≤ C by omega)
    | 1, 7 => exact (show C ≤ B ∨ C ≤ C by omega)
    | 2, 0 => exact (show C ≤ A ∨ B ≤ C by omega)
    | 2, 1 => exact (show C ≤ C ∨ C ≤ C by omega)
    | 2, 2 => exact absurd rfl hij
    | 2, 3 => exact (show C ≤ C ∨ C ≤ C by omega)
    | 2, 4 => exact (show C ≤ l2 ∨ h2 ≤ C by omega)
    | 2, 5 => exact (show C ≤ l3 ∨ h3 ≤ C by omega)
    | 2, 6 => exact (show C ≤ l4 ∨ h4 ≤ C by omega)
    | 2, 7 => exact (show C ≤ B ∨ C ≤ C by omega)
    | 3, 0 => exact (show C ≤ A ∨ B ≤ C by omega)
    | 3, 1 => exact (show C ≤ C ∨ C ≤ C by omega)
    | 3, 2 => exact (show C ≤ C ∨ C ≤ C by omega)
    | 3, 3 => exact absurd rfl hij
    | 3, 4 => exact (show C ≤ l2 ∨ h2 ≤ C by omega)
    | 3, 5 => exact (show C ≤ l3 ∨ h3 ≤ C by omega)
    | 3, 6 => exact (show C ≤ l4 ∨ h4 ≤ C by omega)
    | 3, 7 => exact (show C ≤ B ∨ C ≤ C by omega)
    | 4, 0 => exact (show h2 ≤ A ∨ B ≤ l2 by omega)
    | 4, 1 => exact (show h2 ≤ C ∨ C ≤ l2 by omega)
    | 4, 2 => exact (show h2 ≤ C ∨ C ≤ l2 by omega)
    | 4, 3 => exact (show h2 ≤ C ∨ C ≤ l2 by omega)
    | 4, 4 => exact absurd rfl hij
    | 4, 5 => exact (show h2 ≤ l3 ∨ h3 ≤ l2 by omega)
    | 4, 6 => exact (show h2 ≤ l4 ∨ h4 ≤ l2 by omega)
    | 4, 7 => exact (show h2 ≤ B ∨ C ≤ l2 by omega)
    | 5, 0 => exact (show h3 ≤ A ∨ B ≤ l3 by omega)
    | 5, 1 => exact (show h3 ≤ C ∨ C ≤ l3 by omega)
    | 5, 2 => exact (show h3 ≤ C ∨ C ≤ l3 by omega)
    | 5, 3 => exact (show h3 ≤ C ∨ C ≤ l3 by omega)
    | 5, 4 => exact (show h3 ≤ l2 ∨ h2 ≤ l3 by omega)
    | 5, 5 => exact absurd rfl hij
    | 5, 6 => exact (show h3 ≤ l4 ∨ h4 ≤ l3 by omega)
    | 5, 7 => exact (show h3 ≤ B ∨ C ≤ l3 by omega)
    | 6, 0 => exact (show h4 ≤ A ∨ B ≤ l4 by omega)
    | 6, 1 => exact (show h4 ≤ C ∨ C ≤ l4 by omega)
    | 6, 2 => exact (show h4 ≤ C ∨ C ≤ l4 by omega)
    | 6, 3 => exact (show h4 ≤ C ∨ C ≤ l4 by omega)
    | 6, 4 => exact (show h4 ≤ l2 ∨ h2 ≤ l4 by omega)
    | 6, 5 => exact (show h4 ≤ l3 ∨ h3 ≤ l4 by omega)
    | 6, 6 => exact absurd rfl hij
    | 6, 7 => exact (show h4 ≤ B ∨ C ≤ l4 by omega)
    | 7, 0 => exact (show C ≤ A ∨ B ≤ B by omega)
    | 7, 1 => exact (show C ≤ C ∨ C ≤ B by omega)
    | 7, 2 => exact (show C ≤ C ∨ C ≤ B by omega)
    | 7, 3 => exact (show C ≤ C ∨ C ≤ B by omega)
    | 7, 4 => exact (show C ≤ l2 ∨ h2 ≤ B by omega)
    | 7, 5 => exact (show C ≤ l3 ∨ h3 ≤ B by omega)
    | 7, 6 => exact (show C ≤ l4 ∨ h4 ≤ B by omega)
    | 7, 7 => exact absurd rfl hij
    | _ + 8, _ => omega
    | _, _ + 8 => omega
set_option maxRecDepth 100000 in
set_option maxHeartbeats 8000000 in
theorem impl_StageOfRecord (v : Value) (l : List Int) (w : World) (hl : l.length ≤ 1048576) (h : Ints w v l) :
    Calls Try.prog 14 #[v] w fun e w' => ∃ v', e = .returned (.tuple #[v', .bool (stB l)]) ∧ kStageG.own w' w.heap.size w'.heap.size v' (stD l) ∧ Below w.heap.size w w' := by
  obtain ⟨a, n, c, rfl⟩ := h.shape
  have H := Lib.hid h; clear h
  obtain ⟨W, hW⟩ : ∃ W, W = w.alloc (.cells #[.int .i64 0, .slice none 0 0, .slice none 0 0, .slice none 0 0, .slice none 0 0, .slice none 0 0, .slice none 0 0, .slice none 0 0, .slice none 0 0, .slice none 0 0, .slice none 0 0, .slice none 0 0, .slice none 0 0] 42) := ⟨_, rfl⟩
  have HB : Hid (Below w.heap.size w W) := by unfold Hid; rw [hW]; (repeat (first | exact Below.refl _ _ | assumption | refine Below.drew ?_ | refine Below.alloc ?_ (by first | (simp; done) | (simp; omega)) _ | refine Below.setCell ?_ (by first | (simp; done) | (simp; omega)) _))
  have HR : Hid (BoxN W w.heap.size 42 [.int .i64 0, .slice none 0 0, .slice none 0 0, .slice none 0 0, .slice none 0 0, .slice none 0 0, .slice none 0 0, .slice none 0 0, .slice none 0 0, .slice none 0 0, .slice none 0 0, .slice none 0 0, .slice none 0 0]) := by unfold Hid; rw [hW]; exact BoxN.new w [.int .i64 0, .slice none 0 0, .slice none 0 0, .slice none 0 0, .slice none 0 0, .slice none 0 0, .slice none 0 0, .slice none 0 0, .slice none 0 0, .slice none 0 0, .slice none 0 0, .slice none 0 0, .slice none 0 0] _
  have hsW : w.heap.size < W.heap.size := by rw [hW]; simp
  go_enter Try.func14, Try.ntmps14
  go_wp2_with fail
  rw [← hW]
  clear hW
  refine (impl_SplitRecords _ l _ (by omega) (H.out.below HB.out)).mono ?_
  rintro e w1 ⟨v1, rfl, hP, hb1⟩
  have hs1 := hb1.size
  have HBX := Lib.hid (HB.out.trans (hb1.mono HB.out.size))
  have HRX := Lib.hid (HR.out.below hb1)
  obtain ⟨_, _, _, hsh⟩ := hP.rd.shape
  subst hsh
  clear hb1 HR
  obtain ⟨q, hq⟩ : ∃ q, splitB l = q := ⟨_, rfl⟩
  rw [hq]
  have HQ := Lib.hid hq; clear hq
  cases q with
  | false =>
    clear hP
    have HBQ : Hid (stB l = false) := stB_c (by unfold stC; rw [HQ.out]; rfl)
    have HV := Lib.hid (stD_no HBQ.out)
    have r0 := HRX.out.cell (i := 0) rfl
    have r1 := HRX.out.cell (i := 1) rfl
    have r2 := HRX.out.cell (i := 2) rfl
    have r3 := HRX.out.cell (i := 3) rfl
    have r4 := HRX.out.cell (i := 4) rfl
    have r5 := HRX.out.cell (i := 5) rfl
    have r6 := HRX.out.cell (i := 6) rfl
    have r7 := HRX.out.cell (i := 7) rfl
    have r8 := HRX.out.cell (i := 8) rfl
    have r9 := HRX.out.cell (i := 9) rfl
    have r10 := HRX.out.cell (i := 10) rfl
    have r11 := HRX.out.cell (i := 11) rfl
    have r12 := HRX.out.cell (i := 12) rfl
    have fr := fun j => HRX.out.frozen j
    go_wp2_with fail
    have HRF := Lib.hid (((((((((((((HRX.out.set 0 (.int .i64 0)).set 1 (.slice none 0 0)).set 2 (.slice none 0 0)).set 3 (.slice none 0 0)).set 4 (.slice none 0 0)).set 5 (.slice none 0 0)).set 6 (.slice none 0 0)).set 7 (.slice none 0 0)).set 8 (.slice none 0 0)).set 9 (.slice none 0 0)).set 10 (.slice none 0 0)).set 11 (.slice none 0 0)).set 12 (.slice none 0 0))
    have HBF := Lib.hid (((((((((((((HBX.out.setCell (p := ⟨w.heap.size, 0, none⟩) (Nat.le_refl _) (.int .i64 0)).setCell (p := ⟨w.heap.size, 1, none⟩) (Nat.le_refl _) (.slice none 0 0)).setCell (p := ⟨w.heap.size, 2, none⟩) (Nat.le_refl _) (.slice none 0 0)).setCell (p := ⟨w.heap.size, 3, none⟩) (Nat.le_refl _) (.slice none 0 0)).setCell (p := ⟨w.heap.size, 4, none⟩) (Nat.le_refl _) (.slice none 0 0)).setCell (p := ⟨w.heap.size, 5, none⟩) (Nat.le_refl _) (.slice none 0 0)).setCell (p := ⟨w.heap.size, 6, none⟩) (Nat.le_refl _) (.slice none 0 0)).setCell (p := ⟨w.heap.size, 7, none⟩) (Nat.le_refl _) (.slice none 0 0)).setCell (p := ⟨w.heap.size, 8, none⟩) (Nat.le_refl _) (.slice none 0 0)).setCell (p := ⟨w.heap.size, 9, none⟩) (Nat.le_refl _) (.slice none 0 0)).setCell (p := ⟨w.heap.size, 10, none⟩) (Nat.le_refl _) (.slice none 0 0)).setCell (p := ⟨w.heap.size, 11, none⟩) (Nat.le_refl _) (.slice none 0 0)).setCell (p := ⟨w.heap.size, 12, none⟩) (Nat.le_refl _) (.slice none 0 0))
    clear r0 r1 r2 r3 r4 r5 r6 r7 r8 r9 r10 r11 r12 fr
    have t0 := HRF.out.cell (i := 0) rfl
    have t1 := HRF.out.cell (i := 1) rfl
    have t2 := HRF.out.cell (i := 2) rfl
    have t3 := HRF.out.cell (i := 3) rfl
    have t4 := HRF.out.cell (i := 4) rfl
    have t5 := HRF.out.cell (i := 5) rfl
    have t6 := HRF.out.cell (i := 6) rfl
    have t7 := HRF.out.cell (i := 7) rfl
    have t8 := HRF.out.cell (i := 8) rfl
    have t9 := HRF.out.cell (i := 9) rfl
    have t10 := HRF.out.cell (i := 10) rfl
    have t11 := HRF.out.cell (i := 11) rfl
    have t12 := HRF.out.cell (i := 12) rfl
    try (go_wp2_with fail)
    refine bodyPost_ret (v := .tuple #[.agg #[.int .i64 0, .slice none 0 0, .slice none 0 0, .slice none 0 0, .slice none 0 0, .slice none 0 0, .slice none 0 0, .slice none 0 0, .slice none 0 0, .slice none 0 0, .slice none 0 0, .slice none 0 0, .slice none 0 0], .bool false]) (by simp [results, Try.results14, go_sem, t0, t1, t2, t3, t4, t5, t6, t7, t8, t9, t10, t11, t12]) rfl ⟨_, by rw [HBQ.out], ?_, HBF.out⟩
    rw [HV.out]
    exact OwnTG.zero _ HBF.out.size

  | true =>
  rename_i a1 n1 c1
  have HN1 : Hid (stN l = n1) := hP.rd.len
  by_cases hn5 : n1 < 5
  · have t1 : (n1 : Int) < 5 := by omega
    have HBQ : Hid (stB l = false) := stB_c (by unfold stC; rw [decide_eq_false (p := 5 ≤ stN l) (by have := HN1.out; omega)]; simp)
    have HV := Lib.hid (stD_no HBQ.out)
    have r0 := HRX.out.cell (i := 0) rfl
    have r1 := HRX.out.cell (i := 1) rfl
    have r2 := HRX.out.cell (i := 2) rfl
    have r3 := HRX.out.cell (i := 3) rfl
    have r4 := HRX.out.cell (i := 4) rfl
    have r5 := HRX.out.cell (i := 5) rfl
    have r6 := HRX.out.cell (i := 6) rfl
    have r7 := HRX.out.cell (i := 7) rfl
    have r8 := HRX.out.cell (i := 8) rfl
    have r9 := HRX.out.cell (i := 9) rfl
    have r10 := HRX.out.cell (i := 10) rfl
    have r11 := HRX.out.cell (i := 11) rfl
    have r12 := HRX.out.cell (i := 12) rfl
    have fr := fun j => HRX.out.frozen j
    go_wp2_with fail
    have HRF := Lib.hid (((((((((((((HRX.out.set 0 (.int .i64 0)).set 1 (.slice none 0 0)).set 2 (.slice none 0 0)).set 3 (.slice none 0 0)).set 4 (.slice none 0 0)).set 5 (.slice none 0 0)).set 6 (.slice none 0 0)).set 7 (.slice none 0 0)).set 8 (.slice none 0 0)).set 9 (.slice none 0 0)).set 10 (.slice none 0 0)).set 11 (.slice none 0 0)).set 12 (.slice none 0 0))
    have HBF := Lib.hid (((((((((((((HBX.out.setCell (p := ⟨w.heap.size, 0, none⟩) (Nat.le_refl _) (.int .i64 0)).setCell (p := ⟨w.heap.size, 1, none⟩) (Nat.le_refl _) (.slice none 0 0)).setCell (p := ⟨w.heap.size, 2, none⟩) (Nat.le_refl _) (.slice none 0 0)).setCell (p := ⟨w.heap.size, 3, none⟩) (Nat.le_refl _) (.slice none 0 0)).setCell (p := ⟨w.heap.size, 4, none⟩) (Nat.le_refl _) (.slice none 0 0)).setCell (p := ⟨w.heap.size, 5, none⟩) (Nat.le_refl _) (.slice none 0 0)).setCell (p := ⟨w.heap.size, 6, none⟩) (Nat.le_refl _) (.slice none 0 0)).setCell (p := ⟨w.heap.size, 7, none⟩) (Nat.le_refl _) (.slice none 0 0)).setCell (p := ⟨w.heap.size, 8, none⟩) (Nat.le_refl _) (.slice none 0 0)).setCell (p := ⟨w.heap.size, 9, none⟩) (Nat.le_refl _) (.slice none 0 0)).setCell (p := ⟨w.heap.size, 10, none⟩) (Nat.le_refl _) (.slice none 0 0)).setCell (p := ⟨w.heap.size, 11, none⟩) (Nat.le_refl _) (.slice none 0 0)).setCell (p := ⟨w.heap.size, 12, none⟩) (Nat.le_refl _) (.slice none 0 0))
    clear r0 r1 r2 r3 r4 r5 r6 r7 r8 r9 r10 r11 r12 fr
    have t0 := HRF.out.cell (i := 0) rfl
    have t1 := HRF.out.cell (i := 1) rfl
    have t2 := HRF.out.cell (i := 2) rfl
    have t3 := HRF.out.cell (i := 3) rfl
    have t4 := HRF.out.cell (i := 4) rfl
    have t5 := HRF.out.cell (i := 5) rfl
    have t6 := HRF.out.cell (i := 6) rfl
    have t7 := HRF.out.cell (i := 7) rfl
    have t8 := HRF.out.cell (i := 8) rfl
    have t9 := HRF.out.cell (i := 9) rfl
    have t10 := HRF.out.cell (i := 10) rfl
    have t11 := HRF.out.cell (i := 11) rfl
    have t12 := HRF.out.cell (i := 12) rfl
    try (go_wp2_with fail)
    refine bodyPost_ret (v := .tuple #[.agg #[.int .i64 0, .slice none 0 0, .slice none 0 0, .slice none 0 0, .slice none 0 0, .slice none 0 0, .slice none 0 0, .slice none 0 0, .slice none 0 0, .slice none 0 0, .slice none 0 0, .slice none 0 0, .slice none 0 0], .bool false]) (by simp [results, Try.results14, go_sem, t0, t1, t2, t3, t4, t5, t6, t7, t8, t9, t10, t11, t12]) rfl ⟨_, by rw [HBQ.out], ?_, HBF.out⟩
    rw [HV.out]
    exact OwnTG.zero _ HBF.out.size

  have t1 : ¬ (n1 : Int) < 5 := by omega
  have t1b : decide ((n1 : Int) < 5) = false := decide_eq_false t1
  obtain ⟨bp, los, his, hba, hK, hD⟩ := OwnL.parts hP (by omega)
  subst hba
  have HKK := Lib.hid hK
  have HD := Lib.hid hD
  clear hK hD hP
  obtain ⟨x0, m0, y0, kc0, ki0, kl0, kb0⟩ := HKK.out 0 (by omega)
  obtain ⟨x1, m1, y1, kc1, ki1, kl1, kb1⟩ := HKK.out 1 (by omega)
  obtain ⟨x2, m2, y2, kc2, ki2, kl2, kb2⟩ := HKK.out 2 (by omega)
  obtain ⟨x3, m3, y3, kc3, ki3, kl3, kb3⟩ := HKK.out 3 (by omega)
  obtain ⟨x4, m4, y4, kc4, ki4, kl4, kb4⟩ := HKK.out 4 (by omega)
  have KC0 := Lib.hid kc0
  have KI0 := Lib.hid ki0
  have KB0 := Lib.hid kb0
  have KC1 := Lib.hid kc1
  have KI1 := Lib.hid ki1
  have KB1 := Lib.hid kb1
  have KC2 := Lib.hid kc2
  have KI2 := Lib.hid ki2
  have KB2 := Lib.hid kb2
  have KC3 := Lib.hid kc3
  have KI3 := Lib.hid ki3
  have KB3 := Lib.hid kb3
  have KC4 := Lib.hid kc4
  have KI4 := Lib.hid ki4
  have KB4 := Lib.hid kb4
  have KL0 := Lib.hid kl0
  have KL1 := Lib.hid kl1
  clear kc1 kc2 kc3 kc4 ki0 ki1 ki2 ki3 ki4 kl0 kl1 kl2 kl3 kl4 kb0 kb1 kb2 kb3 kb4
  have u0 : (0 : Int) < (n1 : Int) := by omega
  have u1 : (1 : Int) < (n1 : Int) := by omega
  have u2 : (2 : Int) < (n1 : Int) := by omega
  have u3 : (3 : Int) < (n1 : Int) := by omega
  by_cases hm0 : m0 = 1
  rotate_left
  · have t2 : ¬ (m0 : Int) = 1 := by omega
    have HBQ : Hid (stB l = false) := stB_c (by unfold stC; rw [decide_eq_false (p := (rwA (splitL l) 0).length = 1) (by have := KL0.out; omega)]; simp)
    have HV := Lib.hid (stD_no HBQ.out)
    have r0 := HRX.out.cell (i := 0) rfl
    have r1 := HRX.out.cell (i := 1) rfl
    have r2 := HRX.out.cell (i := 2) rfl
    have r3 := HRX.out.cell (i := 3) rfl
    have r4 := HRX.out.cell (i := 4) rfl
    have r5 := HRX.out.cell (i := 5) rfl
    have r6 := HRX.out.cell (i := 6) rfl
    have r7 := HRX.out.cell (i := 7) rfl
    have r8 := HRX.out.cell (i := 8) rfl
    have r9 := HRX.out.cell (i := 9) rfl
    have r10 := HRX.out.cell (i := 10) rfl
    have r11 := HRX.out.cell (i := 11) rfl
    have r12 := HRX.out.cell (i := 12) rfl
    have fr := fun j => HRX.out.frozen j
    go_wp2_with fail
    have HRF := Lib.hid (((((((((((((HRX.out.set 0 (.int .i64 0)).set 1 (.slice none 0 0)).set 2 (.slice none 0 0)).set 3 (.slice none 0 0)).set 4 (.slice none 0 0)).set 5 (.slice none 0 0)).set 6 (.slice none 0 0)).set 7 (.slice none 0 0)).set 8 (.slice none 0 0)).set 9 (.slice none 0 0)).set 10 (.slice none 0 0)).set 11 (.slice none 0 0)).set 12 (.slice none 0 0))
    have HBF := Lib.hid (((((((((((((HBX.out.setCell (p := ⟨w.heap.size, 0, none⟩) (Nat.le_refl _) (.int .i64 0)).setCell (p := ⟨w.heap.size, 1, none⟩) (Nat.le_refl _) (.slice none 0 0)).setCell (p := ⟨w.heap.size, 2, none⟩) (Nat.le_refl _) (.slice none 0 0)).setCell (p := ⟨w.heap.size, 3, none⟩) (Nat.le_refl _) (.slice none 0 0)).setCell (p := ⟨w.heap.size, 4, none⟩) (Nat.le_refl _) (.slice none 0 0)).setCell (p := ⟨w.heap.size, 5, none⟩) (Nat.le_refl _) (.slice none 0 0)).setCell (p := ⟨w.heap.size, 6, none⟩) (Nat.le_refl _) (.slice none 0 0)).setCell (p := ⟨w.heap.size, 7, none⟩) (Nat.le_refl _) (.slice none 0 0)).setCell (p := ⟨w.heap.size, 8, none⟩) (Nat.le_refl _) (.slice none 0 0)).setCell (p := ⟨w.heap.size, 9, none⟩) (Nat.le_refl _) (.slice none 0 0)).setCell (p := ⟨w.heap.size, 10, none⟩) (Nat.le_refl _) (.slice none 0 0)).setCell (p := ⟨w.heap.size, 11, none⟩) (Nat.le_refl _) (.slice none 0 0)).setCell (p := ⟨w.heap.size, 12, none⟩) (Nat.le_refl _) (.slice none 0 0))
    clear r0 r1 r2 r3 r4 r5 r6 r7 r8 r9 r10 r11 r12 fr
    have t0 := HRF.out.cell (i := 0) rfl
    have t1 := HRF.out.cell (i := 1) rfl
    have t2 := HRF.out.cell (i := 2) rfl
    have t3 := HRF.out.cell (i := 3) rfl
    have t4 := HRF.out.cell (i := 4) rfl
    have t5 := HRF.out.cell (i := 5) rfl
    have t6 := HRF.out.cell (i := 6) rfl
    have t7 := HRF.out.cell (i := 7) rfl
    have t8 := HRF.out.cell (i := 8) rfl
    have t9 := HRF.out.cell (i := 9) rfl
    have t10 := HRF.out.cell (i := 10) rfl
    have t11 := HRF.out.cell (i := 11) rfl
    have t12 := HRF.out.cell (i := 12) rfl
    try (go_wp2_with fail)
    refine bodyPost_ret (v := .tuple #[.agg #[.int .i64 0, .slice none 0 0, .slice none 0 0, .slice none 0 0, .slice none 0 0, .slice none 0 0, .slice none 0 0, .slice none 0 0, .slice none 0 0, .slice none 0 0, .slice none 0 0, .slice none 0 0, .slice none 0 0], .bool false]) (by simp [results, Try.results14, go_sem, t0, t1, t2, t3, t4, t5, t6, t7, t8, t9, t10, t11, t12]) rfl ⟨_, by rw [HBQ.out], ?_, HBF.out⟩
    rw [HV.out]
    exact OwnTG.zero _ HBF.out.size

  subst hm0
  obtain ⟨bv, ov, hx0, hcv⟩ := Ints.at_ (kInts.own_rd KI0.out) (by omega)
  subst hx0
  have kv := hcv 0 (by omega)
  rw [Nat.add_zero] at kv
  obtain ⟨vo, hvo⟩ : ∃ vo, nth (rwA (splitL l) 0) 0 = vo := ⟨_, rfl⟩
  rw [hvo] at kv
  have HVO : Hid (stA l = vo) := hvo
  have KV := Lib.hid kv
  have HVI : Hid (I64 vo) := by unfold Hid; rw [← hvo]; exact nth_64t (Ints.all (kInts.own_rd KI0.out)) 0
  clear hvo hcv
  have HSC : Hid (stC l = true) := by
    unfold Hid stC; rw [HQ.out, decide_eq_true (by have := HN1.out; omega), decide_eq_true KL0.out]; rfl
  obtain ⟨m, hm⟩ : ∃ m, n1 = m + 1 := ⟨n1 - 1, by omega⟩
  obtain ⟨xl, ml, yl, kcl, kil, kll, kbl⟩ := HKK.out m (by omega)
  have KCL := Lib.hid kcl
  have KIL := Lib.hid kil
  have KLL := Lib.hid kll
  clear kcl kil kll kbl
  have HMN : Hid (stN l - 1 = m) := by unfold Hid; rw [HN1.out, hm]; rfl
  have w1m : IntKind.i64.wrap ((n1 : Int) - 1) = (m : Int) := by rw [hm]; exact (IntWalk.i64_in _ (by have := splitL_len l; have := HN1.out; unfold stN at this; omega)).trans (by omega)
  have u4 : (0 : Int) ≤ (m : Int) := by omega
  have u5 : (m : Int) < (n1 : Int) := by omega
  have u6 : m < n1 := by omega
  have HM := Lib.hid hm
  clear hm
  have kc1 := KC1.out
  go_wp2_with fail
  clear kc0 kc1 kv
  refine (impl_DecodeCiphers _ (rwA (splitL l) 1) w1 (by have := row_len l 1; omega) (kInts.own_rd KI1.out)).mono ?_
  rintro e w2 ⟨vc, rfl, hO, hb2⟩
  obtain ⟨ca, cn, cc, rfl⟩ := (kR 75 rCipher).sl ((kR 75 rCipher).own_rd hO)
  have HOC := Lib.hid hO
  have HB2 := Lib.hid hb2
  have hs2 := hb2.size
  clear hO hb2
  obtain ⟨q0, hq0⟩ : ∃ q, dcB (rwA (splitL l) 1) = q := ⟨_, rfl⟩
  rw [hq0]
  have HQ0 := Lib.hid hq0; clear hq0
  have kl2 := box_at KCL.out HB2.out
  go_wp2_with fail
  clear kl2
  refine (impl_DecodeProof _ (rwA (splitL l) m) w2 (by have := row_len l m; omega) ((Ints.below (kInts.own_rd KIL.out)) HB2.out)).mono ?_
  rintro e w3 ⟨us, rfl, hown, hb3⟩
  obtain ⟨d1, e1, f1, d2, e2, f2, d3, e3, f3, rfl⟩ := row3t hown
  have HOW := Lib.hid hown
  have HB3 : Hid (Below w1.heap.size w1 w3) := HB2.out.trans (hb3.mono hs2)
  have HB23 := Lib.hid hb3
  have hs3 := hb3.size
  clear hown hb3
  obtain ⟨qp, hqp⟩ : ∃ q, dpB (rwA (splitL l) m) = q := ⟨_, rfl⟩
  rw [hqp]
  have HQP := Lib.hid hqp; clear hqp
  obtain ⟨V, hV⟩ : ∃ V, V = (w3.alloc (.cells #[.slice d1 e1 f1, .slice d2 e2 f2, .slice d3 e3 f3] 26)).alloc (.cells #[.int .i64 vo, .slice ca cn cc, .slice none 0 0, .slice none 0 0, .slice none 0 0, .slice none 0 0, .slice none 0 0, .slice none 0 0, .slice none 0 0, .slice none 0 0, .slice none 0 0, .slice none 0 0, .slice none 0 0] 42) := ⟨_, rfl⟩
  have hbV : Below w3.heap.size w3 V := by rw [hV]; exact Below.next ((Below.refl _ _).alloc (Nat.le_refl _) _) ((Below.refl _ _).alloc (Nat.le_refl _) _)
  obtain ⟨B8, hB8⟩ : ∃ b, b = w3.heap.size := ⟨_, rfl⟩
  obtain ⟨X0, hX0⟩ : ∃ b, b = w3.heap.size + 1 := ⟨_, rfl⟩
  have hsV : X0 < V.heap.size := by rw [hV, hX0]; simp
  have HPV : Hid (BoxN V B8 26 [.slice d1 e1 f1, .slice d2 e2 f2, .slice d3 e3 f3]) := by unfold Hid; rw [hV, hB8]; exact (BoxN.new w3 [.slice d1 e1 f1, .slice d2 e2 f2, .slice d3 e3 f3] _).alloc _
  have HXV : Hid (BoxN V X0 42 [.int .i64 vo, .slice ca cn cc, .slice none 0 0, .slice none 0 0, .slice none 0 0, .slice none 0 0, .slice none 0 0, .slice none 0 0, .slice none 0 0, .slice none 0 0, .slice none 0 0, .slice none 0 0, .slice none 0 0]) := by
    unfold Hid; rw [hV, hX0]
    have h9 := BoxN.new (w3.alloc (.cells #[.slice d1 e1 f1, .slice d2 e2 f2, .slice d3 e3 f3] 26)) [.int .i64 vo, .slice ca cn cc, .slice none 0 0, .slice none 0 0, .slice none 0 0, .slice none 0 0, .slice none 0 0, .slice none 0 0, .slice none 0 0, .slice none 0 0, .slice none 0 0, .slice none 0 0, .slice none 0 0] 42
    rw [show (w3.alloc (.cells #[.slice d1 e1 f1, .slice d2 e2 f2, .slice d3 e3 f3] 26)).heap.size = w3.heap.size + 1 by simp] at h9
    exact h9
  have kz := box_at KC0.out HB3.out
  have kw := box_at KV.out HB3.out
  have kzl := World.block_lt_of_cell? _ _ kz
  have kwl := World.block_lt_of_cell? _ _ kw
  go_upto_region 8 with fail
  rw [← hX0, ← hB8, ← hV]
  have HFV : Hid (Below w1.heap.size w1 V) := HB3.out.trans (hbV.mono (by omega))
  have HRV := Lib.hid (HRX.out.below HFV.out)
  have HBV : Hid (Below w.heap.size w V) := HBX.out.trans (HFV.out.mono HBX.out.size)
  have HCV : Hid ((kR 75 rCipher).own V w1.heap.size w2.heap.size (.slice ca cn cc) (dcD (rwA (splitL l) 1))) := Kind.next (K := (kR 75 rCipher).toKind) (Kind.next (K := (kR 75 rCipher).toKind) HOC.out HB23.out) hbV
  have HIV : Hid (rProof.own V w2.heap.size w3.heap.size [.slice d1 e1 f1, .slice d2 e2 f2, .slice d3 e3 f3] (dpD (rwA (splitL l) m))) := RowK.next HOW.out hbV
  have hxx : w3.heap.size < X0 := by omega
  clear hV hbV kz kw kzl kwl hB8 hX0
  have z0 := HXV.out.cell (i := 0) rfl
  by_cases hf : (vo = 1 ∧ n1 = 5) ∨ (vo = 2 ∧ n1 = 6)
  rotate_left
  · have HFF : Hid (stF l = false) := by
      unfold Hid stF; rw [HVO.out, HN1.out]
      simp only [Bool.or_eq_false_iff, Bool.and_eq_false_iff, decide_eq_false_iff_not]
      omega
    have HRX9 := HRV
    have HBX9 := HBV
    have hcs : (vo = 1 ∧ ¬ n1 = 5) ∨ (vo = 2 ∧ ¬ n1 = 6) ∨ (¬ vo = 1 ∧ ¬ vo = 2) := by omega
    rcases hcs with ⟨h1, h2⟩ | ⟨h1, h2⟩ | ⟨h1, h2⟩
    · have v1b : (vo == 1) = true := by rw [h1]; rfl
      have v2b : (vo == 2) = false := by rw [h1]; rfl
      have h3 : ¬ (n1 : Int) = 5 := by omega
      clear h1
      have hwx : w.heap.size ≠ X0 := by omega
      have HBQ : Hid (stB l = false) := stB_f HFF.out
      have HV := Lib.hid (stD_no HBQ.out)
      have r0 := HRX9.out.cell (i := 0) rfl
      have r1 := HRX9.out.cell (i := 1) rfl
      have r2 := HRX9.out.cell (i := 2) rfl
      have r3 := HRX9.out.cell (i := 3) rfl
      have r4 := HRX9.out.cell (i := 4) rfl
      have r5 := HRX9.out.cell (i := 5) rfl
      have r6 := HRX9.out.cell (i := 6) rfl
      have r7 := HRX9.out.cell (i := 7) rfl
      have r8 := HRX9.out.cell (i := 8) rfl
      have r9 := HRX9.out.cell (i := 9) rfl
      have r10 := HRX9.out.cell (i := 10) rfl
      have r11 := HRX9.out.cell (i := 11) rfl
      have r12 := HRX9.out.cell (i := 12) rfl
      have fr := fun j => HRX9.out.frozen j
      go_wp2_with fail
      have HRF := Lib.hid (((((((((((((HRX9.out.set 0 (.int .i64 0)).set 1 (.slice none 0 0)).set 2 (.slice none 0 0)).set 3 (.slice none 0 0)).set 4 (.slice none 0 0)).set 5 (.slice none 0 0)).set 6 (.slice none 0 0)).set 7 (.slice none 0 0)).set 8 (.slice none 0 0)).set 9 (.slice none 0 0)).set 10 (.slice none 0 0)).set 11 (.slice none 0 0)).set 12 (.slice none 0 0))
      have HBF := Lib.hid (((((((((((((HBX9.out.setCell (p := ⟨w.heap.size, 0, none⟩) (Nat.le_refl _) (.int .i64 0)).setCell (p := ⟨w.heap.size, 1, none⟩) (Nat.le_refl _) (.slice none 0 0)).setCell (p := ⟨w.heap.size, 2, none⟩) (Nat.le_refl _) (.slice none 0 0)).setCell (p := ⟨w.heap.size, 3, none⟩) (Nat.le_refl _) (.slice none 0 0)).setCell (p := ⟨w.heap.size, 4, none⟩) (Nat.le_refl _) (.slice none 0 0)).setCell (p := ⟨w.heap.size, 5, none⟩) (Nat.le_refl _) (.slice none 0 0)).setCell (p := ⟨w.heap.size, 6, none⟩) (Nat.le_refl _) (.slice none 0 0)).setCell (p := ⟨w.heap.size, 7, none⟩) (Nat.le_refl _) (.slice none 0 0)).setCell (p := ⟨w.heap.size, 8, none⟩) (Nat.le_refl _) (.slice none 0 0)).setCell (p := ⟨w.heap.size, 9, none⟩) (Nat.le_refl _) (.slice none 0 0)).setCell (p := ⟨w.heap.size, 10, none⟩) (Nat.le_refl _) (.slice none 0 0)).setCell (p := ⟨w.heap.size, 11, none⟩) (Nat.le_refl _) (.slice none 0 0)).setCell (p := ⟨w.heap.size, 12, none⟩) (Nat.le_refl _) (.slice none 0 0))
      clear r0 r1 r2 r3 r4 r5 r6 r7 r8 r9 r10 r11 r12 fr
      have t0 := HRF.out.cell (i := 0) rfl
      have t1 := HRF.out.cell (i := 1) rfl
      have t2 := HRF.out.cell (i := 2) rfl
      have t3 := HRF.out.cell (i := 3) rfl
      have t4 := HRF.out.cell (i := 4) rfl
      have t5 := HRF.out.cell (i := 5) rfl
      have t6 := HRF.out.cell (i := 6) rfl
      have t7 := HRF.out.cell (i := 7) rfl
      have t8 := HRF.out.cell (i := 8) rfl
      have t9 := HRF.out.cell (i := 9) rfl
      have t10 := HRF.out.cell (i := 10) rfl
      have t11 := HRF.out.cell (i := 11) rfl
      have t12 := HRF.out.cell (i := 12) rfl
      try (go_wp2_with fail)
      refine bodyPost_ret (v := .tuple #[.agg #[.int .i64 0, .slice none 0 0, .slice none 0 0, .slice none 0 0, .slice none 0 0, .slice none 0 0, .slice none 0 0, .slice none 0 0, .slice none 0 0, .slice none 0 0, .slice none 0 0, .slice none 0 0, .slice none 0 0], .bool false]) (by simp [results, Try.results14, go_sem, t0, t1, t2, t3, t4, t5, t6, t7, t8, t9, t10, t11, t12]) rfl ⟨_, by rw [HBQ.out], ?_, HBF.out⟩
      rw [HV.out]
      exact OwnTG.zero _ HBF.out.size
    · have v1b : (vo == 1) = false := by rw [h1]; rfl
      have v2b : (vo == 2) = true := by rw [h1]; rfl
      have h3 : ¬ (n1 : Int) = 6 := by omega
      clear h1
      have hwx : w.heap.size ≠ X0 := by omega
      have HBQ : Hid (stB l = false) := stB_f HFF.out
      have HV := Lib.hid (stD_no HBQ.out)
      have r0 := HRX9.out.cell (i := 0) rfl
      have r1 := HRX9.out.cell (i := 1) rfl
      have r2 := HRX9.out.cell (i := 2) rfl
      have r3 := HRX9.out.cell (i := 3) rfl
      have r4 := HRX9.out.cell (i := 4) rfl
      have r5 := HRX9.out.cell (i := 5) rfl
      have r6 := HRX9.out.cell (i := 6) rfl
      have r7 := HRX9.out.cell (i := 7) rfl
      have r8 := HRX9.out.cell (i := 8) rfl
      have r9 := HRX9.out.cell (i := 9) rfl
      have r10 := HRX9.out.cell (i := 10) rfl
      have r11 := HRX9.out.cell (i := 11) rfl
      have r12 := HRX9.out.cell (i := 12) rfl
      have fr := fun j => HRX9.out.frozen j
      go_wp2_with fail
      have HRF := Lib.hid (((((((((((((HRX9.out.set 0 (.int .i64 0)).set 1 (.slice none 0 0)).set 2 (.slice none 0 0)).set 3 (.slice none 0 0)).set 4 (.slice none 0 0)).set 5 (.slice none 0 0)).set 6 (.slice none 0 0)).set 7 (.slice none 0 0)).set 8 (.slice none 0 0)).set 9 (.slice none 0 0)).set 10 (.slice none 0 0)).set 11 (.slice none 0 0)).set 12 (.slice none 0 0))
      have HBF := Lib.hid (((((((((((((HBX9.out.setCell (p := ⟨w.heap.size, 0, none⟩) (Nat.le_refl _) (.int .i64 0)).setCell (p := ⟨w.heap.size, 1, none⟩) (Nat.le_refl _) (.slice none 0 0)).setCell (p := ⟨w.heap.size, 2, none⟩) (Nat.le_refl _) (.slice none 0 0)).setCell (p := ⟨w.heap.size, 3, none⟩) (Nat.le_refl _) (.slice none 0 0)).setCell (p := ⟨w.heap.size, 4, none⟩) (Nat.le_refl _) (.slice none 0 0)).setCell (p := ⟨w.heap.size, 5, none⟩) (Nat.le_refl _) (.slice none 0 0)).setCell (p := ⟨w.heap.size, 6, none⟩) (Nat.le_refl _) (.slice none 0 0)).setCell (p := ⟨w.heap.size, 7, none⟩) (Nat.le_refl _) (.slice none 0 0)).setCell (p := ⟨w.heap.size, 8, none⟩) (Nat.le_refl _) (.slice none 0 0)).setCell (p := ⟨w.heap.size, 9, none⟩) (Nat.le_refl _) (.slice none 0 0)).setCell (p := ⟨w.heap.size, 10, none⟩) (Nat.le_refl _) (.slice none 0 0)).setCell (p := ⟨w.heap.size, 11, none⟩) (Nat.le_refl _) (.slice none 0 0)).setCell (p := ⟨w.heap.size, 12, none⟩) (Nat.le_refl _) (.slice none 0 0))
      clear r0 r1 r2 r3 r4 r5 r6 r7 r8 r9 r10 r11 r12 fr
      have t0 := HRF.out.cell (i := 0) rfl
      have t1 := HRF.out.cell (i := 1) rfl
      have t2 := HRF.out.cell (i := 2) rfl
      have t3 := HRF.out.cell (i := 3) rfl
      have t4 := HRF.out.cell (i := 4) rfl
      have t5 := HRF.out.cell (i := 5) rfl
      have t6 := HRF.out.cell (i := 6) rfl
      have t7 := HRF.out.cell (i := 7) rfl
      have t8 := HRF.out.cell (i := 8) rfl
      have t9 := HRF.out.cell (i := 9) rfl
      have t10 := HRF.out.cell (i := 10) rfl
      have t11 := HRF.out.cell (i := 11) rfl
      have t12 := HRF.out.cell (i := 12) rfl
      try (go_wp2_with fail)
      refine bodyPost_ret (v := .tuple #[.agg #[.int .i64 0, .slice none 0 0, .slice none 0 0, .slice none 0 0, .slice none 0 0, .slice none 0 0, .slice none 0 0, .slice none 0 0, .slice none 0 0, .slice none 0 0, .slice none 0 0, .slice none 0 0, .slice none 0 0], .bool false]) (by simp [results, Try.results14, go_sem, t0, t1, t2, t3, t4, t5, t6, t7, t8, t9, t10, t11, t12]) rfl ⟨_, by rw [HBQ.out], ?_, HBF.out⟩
      rw [HV.out]
      exact OwnTG.zero _ HBF.out.size
    · have v1b : (vo == 1) = false := by rw [beq_eq_false_iff_ne]; exact h1
      have v2b : (vo == 2) = false := by rw [beq_eq_false_iff_ne]; exact h2
      have hwx : w.heap.size ≠ X0 := by omega
      have HBQ : Hid (stB l = false) := stB_f HFF.out
      have HV := Lib.hid (stD_no HBQ.out)
      have r0 := HRX9.out.cell (i := 0) rfl
      have r1 := HRX9.out.cell (i := 1) rfl
      have r2 := HRX9.out.cell (i := 2) rfl
      have r3 := HRX9.out.cell (i := 3) rfl
      have r4 := HRX9.out.cell (i := 4) rfl
      have r5 := HRX9.out.cell (i := 5) rfl
      have r6 := HRX9.out.cell (i := 6) rfl
      have r7 := HRX9.out.cell (i := 7) rfl
      have r8 := HRX9.out.cell (i := 8) rfl
      have r9 := HRX9.out.cell (i := 9) rfl
      have r10 := HRX9.out.cell (i := 10) rfl
      have r11 := HRX9.out.cell (i := 11) rfl
      have r12 := HRX9.out.cell (i := 12) rfl
      have fr := fun j => HRX9.out.frozen j
      go_wp2_with fail
      have HRF := Lib.hid (((((((((((((HRX9.out.set 0 (.int .i64 0)).set 1 (.slice none 0 0)).set 2 (.slice none 0 0)).set 3 (.slice none 0 0)).set 4 (.slice none 0 0)).set 5 (.slice none 0 0)).set 6 (.slice none 0 0)).set 7 (.slice none 0 0)).set 8 (.slice none 0 0)).set 9 (.slice none 0 0)).set 10 (.slice none 0 0)).set 11 (.slice none 0 0)).set 12 (.slice none 0 0))
      have HBF := Lib.hid (((((((((((((HBX9.out.setCell (p := ⟨w.heap.size, 0, none⟩) (Nat.le_refl _) (.int .i64 0)).setCell (p := ⟨w.heap.size, 1, none⟩) (Nat.le_refl _) (.slice none 0 0)).setCell (p := ⟨w.heap.size, 2, none⟩) (Nat.le_refl _) (.slice none 0 0)).setCell (p := ⟨w.heap.size, 3, none⟩) (Nat.le_refl _) (.slice none 0 0)).setCell (p := ⟨w.heap.size, 4, none⟩) (Nat.le_refl _) (.slice none 0 0)).setCell (p := ⟨w.heap.size, 5, none⟩) (Nat.le_refl _) (.slice none 0 0)).setCell (p := ⟨w.heap.size, 6, none⟩) (Nat.le_refl _) (.slice none 0 0)).setCell (p := ⟨w.heap.size, 7, none⟩) (Nat.le_refl _) (.slice none 0 0)).setCell (p := ⟨w.heap.size, 8, none⟩) (Nat.le_refl _) (.slice none 0 0)).setCell (p := ⟨w.heap.size, 9, none⟩) (Nat.le_refl _) (.slice none 0 0)).setCell (p := ⟨w.heap.size, 10, none⟩) (Nat.le_refl _) (.slice none 0 0)).setCell (p := ⟨w.heap.size, 11, none⟩) (Nat.le_refl _) (.slice none 0 0)).setCell (p := ⟨w.heap.size, 12, none⟩) (Nat.le_refl _) (.slice none 0 0))
      clear r0 r1 r2 r3 r4 r5 r6 r7 r8 r9 r10 r11 r12 fr
      have t0 := HRF.out.cell (i := 0) rfl
      have t1 := HRF.out.cell (i := 1) rfl
      have t2 := HRF.out.cell (i := 2) rfl
      have t3 := HRF.out.cell (i := 3) rfl
      have t4 := HRF.out.cell (i := 4) rfl
      have t5 := HRF.out.cell (i := 5) rfl
      have t6 := HRF.out.cell (i := 6) rfl
      have t7 := HRF.out.cell (i := 7) rfl
      have t8 := HRF.out.cell (i := 8) rfl
      have t9 := HRF.out.cell (i := 9) rfl
      have t10 := HRF.out.cell (i := 10) rfl
      have t11 := HRF.out.cell (i := 11) rfl
      have t12 := HRF.out.cell (i := 12) rfl
      try (go_wp2_with fail)
      refine bodyPost_ret (v := .tuple #[.agg #[.int .i64 0, .slice none 0 0, .slice none 0 0, .slice none 0 0, .slice none 0 0, .slice none 0 0, .slice none 0 0, .slice none 0 0, .slice none 0 0, .slice none 0 0, .slice none 0 0, .slice none 0 0, .slice none 0 0], .bool false]) (by simp [results, Try.results14, go_sem, t0, t1, t2, t3, t4, t5, t6, t7, t8, t9, t10, t11, t12]) rfl ⟨_, by rw [HBQ.out], ?_, HBF.out⟩
      rw [HV.out]
      exact OwnTG.zero _ HBF.out.size
  have HFT : Hid (stF l = true) := by
    unfold Hid stF; rw [HVO.out, HN1.out]
    simp only [Bool.or_eq_true, Bool.and_eq_true, decide_eq_true_eq]
    exact hf
  obtain ⟨CC, hCC⟩ : ∃ c, c = w3.heap.size := ⟨_, rfl⟩
  have hC1 : CC ≤ w3.heap.size := Nat.le_of_eq hCC
  have hC2 : w3.heap.size ≤ CC := Nat.le_of_eq hCC.symm
  clear hCC
  rcases hf with ⟨hv9, hn9⟩ | ⟨hv9, hn9⟩
  · subst hn9
    have HV9 := Lib.hid hv9
    have v1b : (vo == 1) = true := by rw [hv9]; rfl
    clear hv9
    have kc2 := box_at KC2.out HFV.out
    have kc3 := box_at KC3.out HFV.out
    have p0 := HPV.out.cell (i := 0) rfl
    have p1 := HPV.out.cell (i := 1) rfl
    have p2 := HPV.out.cell (i := 2) rfl
    go_wp2_with fail
    refine wp_region_noPanic ?_
    refine wp_region_P (fun w' => w'.cell? ⟨bp, 2, none⟩ = some (.slice x2 m2 y2) ∧ w'.cell? ⟨bp, 3, none⟩ = some (.slice x3 m3 y3) ∧ w'.cell? ⟨B8, 0, none⟩ = some (.slice d1 e1 f1) ∧ w'.cell? ⟨B8, 1, none⟩ = some (.slice d2 e2 f2) ∧ w'.cell? ⟨B8, 2, none⟩ = some (.slice d3 e3 f3)) 12 [(0, []), (1, [0]), (2, [0]), (3, []), (4, [0]), (5, [0]), (6, []), (7, [4, 1, 0]), (8, [])] [9] (by kernel_rfl) (by kernel_rfl) (by kernel_rfl) rfl (fun _ _ _ _ h => h) (fun w' h => ⟨box_at kc2 h, box_at kc3 h, box_at p0 h, box_at p1 h, box_at p2 h⟩) ?_
    simp only [pickP, pickN, List.getElem?_cons_zero, List.getElem?_cons_succ]
    iterate 9 (refine' chainP_read _ rfl rfl (fun w' hS' => ?_) ?_; rotate_left; · (simp only [lookP, allP, Act.put, List.getElem?_cons_zero, List.getElem?_cons_succ, List.setIfInBounds_toArray, List.set_cons_zero, List.set_cons_succ]; (try dsimp only at hS'); go_simp; (try with_reducible rfl)))
    refine chainP_nil (fun u1 hS' => ?_)
    simp only [allP, Act.put, List.setIfInBounds_toArray, List.set_cons_zero, List.set_cons_succ]
    have hV1 := hS'.1
    clear hS' kc2 kc3 p0 p1 p2
    have HV1 := Lib.hid hV1
    have HX1 := Lib.hid (HXV.out.below hV1)
    have hsV1 := hV1.size
    clear hV1
    have g2 := HX1.out.cell (i := 2) rfl
    have g3 := HX1.out.cell (i := 3) rfl
    have g4 := HX1.out.cell (i := 4) rfl
    have g5 := HX1.out.cell (i := 5) rfl
    have g6 := HX1.out.cell (i := 6) rfl
    have gf := fun j => HX1.out.frozen j
    go_wp2_with fail
    refine NoPanic.normal ?_
    clear g2 g3 g4 g5 g6 gf
    obtain ⟨Y, hY⟩ : ∃ Y, Y = ((((u1.setCell ⟨X0, 2, none⟩ (.slice x2 m2 y2)).setCell ⟨X0, 3, none⟩ (.slice x3 m3 y3)).setCell ⟨X0, 4, none⟩ (.slice d1 e1 f1)).setCell ⟨X0, 5, none⟩ (.slice d2 e2 f2)).setCell ⟨X0, 6, none⟩ (.slice d3 e3 f3) := ⟨_, rfl⟩
    rw [← hY]
    have HWY : Hid (Within X0 (X0 + 1) u1 Y) := by unfold Hid; rw [hY]; exact ((((((Within.refl X0 (X0 + 1) u1).setCell (Nat.le_refl _) (by omega) 2 (.slice x2 m2 y2)).setCell (Nat.le_refl _) (by omega) 3 (.slice x3 m3 y3)).setCell (Nat.le_refl _) (by omega) 4 (.slice d1 e1 f1)).setCell (Nat.le_refl _) (by omega) 5 (.slice d2 e2 f2)).setCell (Nat.le_refl _) (by omega) 6 (.slice d3 e3 f3))
    have HXY : Hid (BoxN Y X0 42 [.int .i64 vo, .slice ca cn cc, .slice x2 m2 y2, .slice x3 m3 y3, .slice d1 e1 f1, .slice d2 e2 f2, .slice d3 e3 f3, .slice none 0 0, .slice none 0 0, .slice none 0 0, .slice none 0 0, .slice none 0 0, .slice none 0 0]) := by unfold Hid; rw [hY]; exact (((((HX1.out.set 2 (.slice x2 m2 y2)).set 3 (.slice x3 m3 y3)).set 4 (.slice d1 e1 f1)).set 5 (.slice d2 e2 f2)).set 6 (.slice d3 e3 f3))
    clear hY
    have hsY := HWY.out.size
    have HRY := Lib.hid ((HRV.out.below HV1.out).kept HWY.out (.inl (by omega)))
    have HBY : Hid (Below w.heap.size w Y) := (HBV.out.trans (HV1.out.mono HBV.out.size)).trans (HWY.out.below (by have := HBV.out.size; omega) (by omega))
    have HSX : Hid (stX l = ⟨1, dcD (rwA (splitL l) 1), ⟨rwA (splitL l) 2, rwA (splitL l) 3, dpD (rwA (splitL l) m)⟩, zeroO⟩) := by
      unfold Hid stX
      rw [if_pos (by rw [HVO.out]; exact HV9.out), HMN.out]
    have HSG : Hid (kStageG.own Y W.heap.size CC (.agg #[.int .i64 vo, .slice ca cn cc, .slice x2 m2 y2, .slice x3 m3 y3, .slice d1 e1 f1, .slice d2 e2 f2, .slice d3 e3 f3, .slice none 0 0, .slice none 0 0, .slice none 0 0, .slice none 0 0, .slice none 0 0, .slice none 0 0]) (stX l)) := by
      unfold Hid
      rw [HSX.out]
      have o0 := Kind.kept (K := (kR 75 rCipher).toKind) (Kind.next (K := (kR 75 rCipher).toKind) HCV.out HV1.out) HWY.out (.inl (by omega))
      have b2 := KB2.out
      have o2 := Kind.kept (K := kInts) (Kind.next (K := kInts) (Kind.next (K := kInts) KI2.out HFV.out) HV1.out) HWY.out (.inl (by omega))
      have b3 := KB3.out
      have o3 := Kind.kept (K := kInts) (Kind.next (K := kInts) (Kind.next (K := kInts) KI3.out HFV.out) HV1.out) HWY.out (.inl (by omega))
      have o9 := RowK.kept (RowK.next HIV.out HV1.out) HWY.out (.inl (by omega))
      exact OwnTG.matrix HV9.out o0 o2 o3 o9 b2.1 (by omega) b3.1 (by omega) (by omega) (by omega) (by omega) (by omega) (HD.out 2 3 (by omega) (by omega) (by decide))
    have z0 := HXY.out.cell (i := 0) rfl
    have z1 := HXY.out.cell (i := 1) rfl
    have z2 := HXY.out.cell (i := 2) rfl
    have z3 := HXY.out.cell (i := 3) rfl
    have z4 := HXY.out.cell (i := 4) rfl
    have z5 := HXY.out.cell (i := 5) rfl
    have z6 := HXY.out.cell (i := 6) rfl
    have z7 := HXY.out.cell (i := 7) rfl
    have z8 := HXY.out.cell (i := 8) rfl
    have z9 := HXY.out.cell (i := 9) rfl
    have z10 := HXY.out.cell (i := 10) rfl
    have z11 := HXY.out.cell (i := 11) rfl
    have z12 := HXY.out.cell (i := 12) rfl
    have hY1 := HXY.out.lt
    go_wp2_with fail
    clear z0 z1 z2 z3 z4 z5 z6 z7 z8 z9 z10 z11 z12
    refine (impl_StageRecord _ (stX l) Y (by have := st_sz l; omega) (kStageG.own_rd HSG.out)).mono ?_
    rintro e w7 ⟨v7, rfl, hJ, hb7⟩
    have HJ := Lib.hid hJ
    have HSG7 := Lib.hid (Kind.next (K := kStageG) HSG.out hb7)
    have HXR := Lib.hid (HXY.out.below hb7)
    have HRX := Lib.hid (HRY.out.below hb7)
    have HBX := Lib.hid (HBY.out.trans (hb7.mono HBY.out.size))
    have hs7 := hb7.size
    clear hJ hb7
    have HSO := Lib.hid (st_impl HSC.out HFT.out)
    have HOK : Hid (stOk l = (q0 && qp)) := by unfold Hid stOk; rw [HMN.out, HQ0.out, HQP.out]
    obtain ⟨qs, hqs⟩ : ∃ q, stgB (stX l) = q := ⟨_, rfl⟩
    obtain ⟨qe, hqe⟩ : ∃ q, decide (stgR (stX l) = l) = q := ⟨_, rfl⟩
    rw [hqs] at HSO ⊢
    rw [hqe, HOK.out] at HSO
    have HQE := Lib.hid hqe
    clear hqs hqe
    obtain ⟨j1, j2, j3, rfl⟩ := HJ.out.reads.shape
    have hcs : q0 = false ∨ (q0 = true ∧ qp = false) ∨ (q0 = true ∧ qp = true ∧ qs = false) ∨ (q0 = true ∧ qp = true ∧ qs = true ∧ qe = false) ∨ (q0 = true ∧ qp = true ∧ qs = true ∧ qe = true) := by cases q0 <;> cases qp <;> cases qs <;> cases qe <;> simp
    rcases hcs with rfl | ⟨rfl, rfl⟩ | ⟨rfl, rfl, rfl⟩ | ⟨rfl, rfl, rfl, rfl⟩ | ⟨rfl, rfl, rfl, rfl⟩
    · have HBQ : Hid (stB l = false) := by have h9 := HSO.out; unfold Hid; simpa using h9.symm
      have HV := Lib.hid (stD_no HBQ.out)
      have r0 := HRX.out.cell (i := 0) rfl
      have r1 := HRX.out.cell (i := 1) rfl
      have r2 := HRX.out.cell (i := 2) rfl
      have r3 := HRX.out.cell (i := 3) rfl
      have r4 := HRX.out.cell (i := 4) rfl
      have r5 := HRX.out.cell (i := 5) rfl
      have r6 := HRX.out.cell (i := 6) rfl
      have r7 := HRX.out.cell (i := 7) rfl
      have r8 := HRX.out.cell (i := 8) rfl
      have r9 := HRX.out.cell (i := 9) rfl
      have r10 := HRX.out.cell (i := 10) rfl
      have r11 := HRX.out.cell (i := 11) rfl
      have r12 := HRX.out.cell (i := 12) rfl
      have fr := fun j => HRX.out.frozen j
      go_wp2_with fail
      have HRF := Lib.hid (((((((((((((HRX.out.set 0 (.int .i64 0)).set 1 (.slice none 0 0)).set 2 (.slice none 0 0)).set 3 (.slice none 0 0)).set 4 (.slice none 0 0)).set 5 (.slice none 0 0)).set 6 (.slice none 0 0)).set 7 (.slice none 0 0)).set 8 (.slice none 0 0)).set 9 (.slice none 0 0)).set 10 (.slice none 0 0)).set 11 (.slice none 0 0)).set 12 (.slice none 0 0))
      have HBF := Lib.hid (((((((((((((HBX.out.setCell (p := ⟨w.heap.size, 0, none⟩) (Nat.le_refl _) (.int .i64 0)).setCell (p := ⟨w.heap.size, 1, none⟩) (Nat.le_refl _) (.slice none 0 0)).setCell (p := ⟨w.heap.size, 2, none⟩) (Nat.le_refl _) (.slice none 0 0)).setCell (p := ⟨w.heap.size, 3, none⟩) (Nat.le_refl _) (.slice none 0 0)).setCell (p := ⟨w.heap.size, 4, none⟩) (Nat.le_refl _) (.slice none 0 0)).setCell (p := ⟨w.heap.size, 5, none⟩) (Nat.le_refl _) (.slice none 0 0)).setCell (p := ⟨w.heap.size, 6, none⟩) (Nat.le_refl _) (.slice none 0 0)).setCell (p := ⟨w.heap.size, 7, none⟩) (Nat.le_refl _) (.slice none 0 0)).setCell (p := ⟨w.heap.size, 8, none⟩) (Nat.le_refl _) (.slice none 0 0)).setCell (p := ⟨w.heap.size, 9, none⟩) (Nat.le_refl _) (.slice none 0 0)).setCell (p := ⟨w.heap.size, 10, none⟩) (Nat.le_refl _) (.slice none 0 0)).setCell (p := ⟨w.heap.size, 11, none⟩) (Nat.le_refl _) (.slice none 0 0)).setCell (p := ⟨w.heap.size, 12, none⟩) (Nat.le_refl _) (.slice none 0 0))
      clear r0 r1 r2 r3 r4 r5 r6 r7 r8 r9 r10 r11 r12 fr
      have t0 := HRF.out.cell (i := 0) rfl
      have t1 := HRF.out.cell (i := 1) rfl
      have t2 := HRF.out.cell (i := 2) rfl
      have t3 := HRF.out.cell (i := 3) rfl
      have t4 := HRF.out.cell (i := 4) rfl
      have t5 := HRF.out.cell (i := 5) rfl
      have t6 := HRF.out.cell (i := 6) rfl
      have t7 := HRF.out.cell (i := 7) rfl
      have t8 := HRF.out.cell (i := 8) rfl
      have t9 := HRF.out.cell (i := 9) rfl
      have t10 := HRF.out.cell (i := 10) rfl
      have t11 := HRF.out.cell (i := 11) rfl
      have t12 := HRF.out.cell (i := 12) rfl
      try (go_wp2_with fail)
      refine bodyPost_ret (v := .tuple #[.agg #[.int .i64 0, .slice none 0 0, .slice none 0 0, .slice none 0 0, .slice none 0 0, .slice none 0 0, .slice none 0 0, .slice none 0 0, .slice none 0 0, .slice none 0 0, .slice none 0 0, .slice none 0 0, .slice none 0 0], .bool false]) (by simp [results, Try.results14, go_sem, t0, t1, t2, t3, t4, t5, t6, t7, t8, t9, t10, t11, t12]) rfl ⟨_, by rw [HBQ.out], ?_, HBF.out⟩
      rw [HV.out]
      exact OwnTG.zero _ HBF.out.size
    · have HBQ : Hid (stB l = false) := by have h9 := HSO.out; unfold Hid; simpa using h9.symm
      have HV := Lib.hid (stD_no HBQ.out)
      have r0 := HRX.out.cell (i := 0) rfl
      have r1 := HRX.out.cell (i := 1) rfl
      have r2 := HRX.out.cell (i := 2) rfl
      have r3 := HRX.out.cell (i := 3) rfl
      have r4 := HRX.out.cell (i := 4) rfl
      have r5 := HRX.out.cell (i := 5) rfl
      have r6 := HRX.out.cell (i := 6) rfl
      have r7 := HRX.out.cell (i := 7) rfl
      have r8 := HRX.out.cell (i := 8) rfl
      have r9 := HRX.out.cell (i := 9) rfl
      have r10 := HRX.out.cell (i := 10) rfl
      have r11 := HRX.out.cell (i := 11) rfl
      have r12 := HRX.out.cell (i := 12) rfl
      have fr := fun j => HRX.out.frozen j
      go_wp2_with fail
      have HRF := Lib.hid (((((((((((((HRX.out.set 0 (.int .i64 0)).set 1 (.slice none 0 0)).set 2 (.slice none 0 0)).set 3 (.slice none 0 0)).set 4 (.slice none 0 0)).set 5 (.slice none 0 0)).set 6 (.slice none 0 0)).set 7 (.slice none 0 0)).set 8 (.slice none 0 0)).set 9 (.slice none 0 0)).set 10 (.slice none 0 0)).set 11 (.slice none 0 0)).set 12 (.slice none 0 0))
      have HBF := Lib.hid (((((((((((((HBX.out.setCell (p := ⟨w.heap.size, 0, none⟩) (Nat.le_refl _) (.int .i64 0)).setCell (p := ⟨w.heap.size, 1, none⟩) (Nat.le_refl _) (.slice none 0 0)).setCell (p := ⟨w.heap.size, 2, none⟩) (Nat.le_refl _) (.slice none 0 0)).setCell (p := ⟨w.heap.size, 3, none⟩) (Nat.le_refl _) (.slice none 0 0)).setCell (p := ⟨w.heap.size, 4, none⟩) (Nat.le_refl _) (.slice none 0 0)).setCell (p := ⟨w.heap.size, 5, none⟩) (Nat.le_refl _) (.slice none 0 0)).setCell (p := ⟨w.heap.size, 6, none⟩) (Nat.le_refl _) (.slice none 0 0)).setCell (p := ⟨w.heap.size, 7, none⟩) (Nat.le_refl _) (.slice none 0 0)).setCell (p := ⟨w.heap.size, 8, none⟩) (Nat.le_refl _) (.slice none 0 0)).setCell (p := ⟨w.heap.size, 9, none⟩) (Nat.le_refl _) (.slice none 0 0)).setCell (p := ⟨w.heap.size, 10, none⟩) (Nat.le_refl _) (.slice none 0 0)).setCell (p := ⟨w.heap.size, 11, none⟩) (Nat.le_refl _) (.slice none 0 0)).setCell (p := ⟨w.heap.size, 12, none⟩) (Nat.le_refl _) (.slice none 0 0))
      clear r0 r1 r2 r3 r4 r5 r6 r7 r8 r9 r10 r11 r12 fr
      have t0 := HRF.out.cell (i := 0) rfl
      have t1 := HRF.out.cell (i := 1) rfl
      have t2 := HRF.out.cell (i := 2) rfl
      have t3 := HRF.out.cell (i := 3) rfl
      have t4 := HRF.out.cell (i := 4) rfl
      have t5 := HRF.out.cell (i := 5) rfl
      have t6 := HRF.out.cell (i := 6) rfl
      have t7 := HRF.out.cell (i := 7) rfl
      have t8 := HRF.out.cell (i := 8) rfl
      have t9 := HRF.out.cell (i := 9) rfl
      have t10 := HRF.out.cell (i := 10) rfl
      have t11 := HRF.out.cell (i := 11) rfl
      have t12 := HRF.out.cell (i := 12) rfl
      try (go_wp2_with fail)
      refine bodyPost_ret (v := .tuple #[.agg #[.int .i64 0, .slice none 0 0, .slice none 0 0, .slice none 0 0, .slice none 0 0, .slice none 0 0, .slice none 0 0, .slice none 0 0, .slice none 0 0, .slice none 0 0, .slice none 0 0, .slice none 0 0, .slice none 0 0], .bool false]) (by simp [results, Try.results14, go_sem, t0, t1, t2, t3, t4, t5, t6, t7, t8, t9, t10, t11, t12]) rfl ⟨_, by rw [HBQ.out], ?_, HBF.out⟩
      rw [HV.out]
      exact OwnTG.zero _ HBF.out.size
    · have HBQ : Hid (stB l = false) := by have h9 := HSO.out; unfold Hid; simpa using h9.symm
      have HV := Lib.hid (stD_no HBQ.out)
      have r0 := HRX.out.cell (i := 0) rfl
      have r1 := HRX.out.cell (i := 1) rfl
      have r2 := HRX.out.cell (i := 2) rfl
      have r3 := HRX.out.cell (i := 3) rfl
      have r4 := HRX.out.cell (i := 4) rfl
      have r5 := HRX.out.cell (i := 5) rfl
      have r6 := HRX.out.cell (i := 6) rfl
      have r7 := HRX.out.cell (i := 7) rfl
      have r8 := HRX.out.cell (i := 8) rfl
      have r9 := HRX.out.cell (i := 9) rfl
      have r10 := HRX.out.cell (i := 10) rfl
      have r11 := HRX.out.cell (i := 11) rfl
      have r12 := HRX.out.cell (i := 12) rfl
      have fr := fun j => HRX.out.frozen j
      go_wp2_with fail
      have HRF := Lib.hid (((((((((((((HRX.out.set 0 (.int .i64 0)).set 1 (.slice none 0 0)).set 2 (.slice none 0 0)).set 3 (.slice none 0 0)).set 4 (.slice none 0 0)).set 5 (.slice none 0 0)).set 6 (.slice none 0 0)).set 7 (.slice none 0 0)).set 8 (.slice none 0 0)).set 9 (.slice none 0 0)).set 10 (.slice none 0 0)).set 11 (.slice none 0 0)).set 12 (.slice none 0 0))
      have HBF := Lib.hid (((((((((((((HBX.out.setCell (p := ⟨w.heap.size, 0, none⟩) (Nat.le_refl _) (.int .i64 0)).setCell (p := ⟨w.heap.size, 1, none⟩) (Nat.le_refl _) (.slice none 0 0)).setCell (p := ⟨w.heap.size, 2, none⟩) (Nat.le_refl _) (.slice none 0 0)).setCell (p := ⟨w.heap.size, 3, none⟩) (Nat.le_refl _) (.slice none 0 0)).setCell (p := ⟨w.heap.size, 4, none⟩) (Nat.le_refl _) (.slice none 0 0)).setCell (p := ⟨w.heap.size, 5, none⟩) (Nat.le_refl _) (.slice none 0 0)).setCell (p := ⟨w.heap.size, 6, none⟩) (Nat.le_refl _) (.slice none 0 0)).setCell (p := ⟨w.heap.size, 7, none⟩) (Nat.le_refl _) (.slice none 0 0)).setCell (p := ⟨w.heap.size, 8, none⟩) (Nat.le_refl _) (.slice none 0 0)).setCell (p := ⟨w.heap.size, 9, none⟩) (Nat.le_refl _) (.slice none 0 0)).setCell (p := ⟨w.heap.size, 10, none⟩) (Nat.le_refl _) (.slice none 0 0)).setCell (p := ⟨w.heap.size, 11, none⟩) (Nat.le_refl _) (.slice none 0 0)).setCell (p := ⟨w.heap.size, 12, none⟩) (Nat.le_refl _) (.slice none 0 0))
      clear r0 r1 r2 r3 r4 r5 r6 r7 r8 r9 r10 r11 r12 fr
      have t0 := HRF.out.cell (i := 0) rfl
      have t1 := HRF.out.cell (i := 1) rfl
      have t2 := HRF.out.cell (i := 2) rfl
      have t3 := HRF.out.cell (i := 3) rfl
      have t4 := HRF.out.cell (i := 4) rfl
      have t5 := HRF.out.cell (i := 5) rfl
      have t6 := HRF.out.cell (i := 6) rfl
      have t7 := HRF.out.cell (i := 7) rfl
      have t8 := HRF.out.cell (i := 8) rfl
      have t9 := HRF.out.cell (i := 9) rfl
      have t10 := HRF.out.cell (i := 10) rfl
      have t11 := HRF.out.cell (i := 11) rfl
      have t12 := HRF.out.cell (i := 12) rfl
      try (go_wp2_with fail)
      refine bodyPost_ret (v := .tuple #[.agg #[.int .i64 0, .slice none 0 0, .slice none 0 0, .slice none 0 0, .slice none 0 0, .slice none 0 0, .slice none 0 0, .slice none 0 0, .slice none 0 0, .slice none 0 0, .slice none 0 0, .slice none 0 0, .slice none 0 0], .bool false]) (by simp [results, Try.results14, go_sem, t0, t1, t2, t3, t4, t5, t6, t7, t8, t9, t10, t11, t12]) rfl ⟨_, by rw [HBQ.out], ?_, HBF.out⟩
      rw [HV.out]
      exact OwnTG.zero _ HBF.out.size
    · go_wp2_with (first | (go_at_call 23; refine (slices_Equal _ _ (stgR (stX l)) l _ HJ.out.reads (H.out.below HBX.out)).mono ?_; rintro e w8 ⟨rfl, m8, hw8⟩; have hb8 := Below.drewOf hw8; clear hw8; rw [HQE.out]; have HRW8 := Lib.hid (HRX.out.below hb8); have HBW8 := Lib.hid (HBX.out.trans (hb8.mono HBX.out.size)); have HSGF := Lib.hid (Kind.next (K := kStageG) HSG7.out hb8); have HXQ8 := Lib.hid (HXR.out.below hb8); have hs8 := hb8.size; clear hb8; have r0 := HRW8.out.cell (i := 0) rfl; have r1 := HRW8.out.cell (i := 1) rfl; have r2 := HRW8.out.cell (i := 2) rfl; have r3 := HRW8.out.cell (i := 3) rfl; have r4 := HRW8.out.cell (i := 4) rfl; have r5 := HRW8.out.cell (i := 5) rfl; have r6 := HRW8.out.cell (i := 6) rfl; have r7 := HRW8.out.cell (i := 7) rfl; have r8 := HRW8.out.cell (i := 8) rfl; have r9 := HRW8.out.cell (i := 9) rfl; have r10 := HRW8.out.cell (i := 10) rfl; have r11 := HRW8.out.cell (i := 11) rfl; have r12 := HRW8.out.cell (i := 12) rfl; have fr := fun j => HRW8.out.frozen j) | fail)
      have HBQ : Hid (stB l = false) := by have h9 := HSO.out; unfold Hid; simpa using h9.symm
      have HV := Lib.hid (stD_no HBQ.out)
      have HRF := Lib.hid (((((((((((((HRW8.out.set 0 (.int .i64 0)).set 1 (.slice none 0 0)).set 2 (.slice none 0 0)).set 3 (.slice none 0 0)).set 4 (.slice none 0 0)).set 5 (.slice none 0 0)).set 6 (.slice none 0 0)).set 7 (.slice none 0 0)).set 8 (.slice none 0 0)).set 9 (.slice none 0 0)).set 10 (.slice none 0 0)).set 11 (.slice none 0 0)).set 12 (.slice none 0 0))
      have HBF := Lib.hid (((((((((((((HBW8.out.setCell (p := ⟨w.heap.size, 0, none⟩) (Nat.le_refl _) (.int .i64 0)).setCell (p := ⟨w.heap.size, 1, none⟩) (Nat.le_refl _) (.slice none 0 0)).setCell (p := ⟨w.heap.size, 2, none⟩) (Nat.le_refl _) (.slice none 0 0)).setCell (p := ⟨w.heap.size, 3, none⟩) (Nat.le_refl _) (.slice none 0 0)).setCell (p := ⟨w.heap.size, 4, none⟩) (Nat.le_refl _) (.slice none 0 0)).setCell (p := ⟨w.heap.size, 5, none⟩) (Nat.le_refl _) (.slice none 0 0)).setCell (p := ⟨w.heap.size, 6, none⟩) (Nat.le_refl _) (.slice none 0 0)).setCell (p := ⟨w.heap.size, 7, none⟩) (Nat.le_refl _) (.slice none 0 0)).setCell (p := ⟨w.heap.size, 8, none⟩) (Nat.le_refl _) (.slice none 0 0)).setCell (p := ⟨w.heap.size, 9, none⟩) (Nat.le_refl _) (.slice none 0 0)).setCell (p := ⟨w.heap.size, 10, none⟩) (Nat.le_refl _) (.slice none 0 0)).setCell (p := ⟨w.heap.size, 11, none⟩) (Nat.le_refl _) (.slice none 0 0)).setCell (p := ⟨w.heap.size, 12, none⟩) (Nat.le_refl _) (.slice none 0 0))
      clear r0 r1 r2 r3 r4 r5 r6 r7 r8 r9 r10 r11 r12 fr
      have t0 := HRF.out.cell (i := 0) rfl
      have t1 := HRF.out.cell (i := 1) rfl
      have t2 := HRF.out.cell (i := 2) rfl
      have t3 := HRF.out.cell (i := 3) rfl
      have t4 := HRF.out.cell (i := 4) rfl
      have t5 := HRF.out.cell (i := 5) rfl
      have t6 := HRF.out.cell (i := 6) rfl
      have t7 := HRF.out.cell (i := 7) rfl
      have t8 := HRF.out.cell (i := 8) rfl
      have t9 := HRF.out.cell (i := 9) rfl
      have t10 := HRF.out.cell (i := 10) rfl
      have t11 := HRF.out.cell (i := 11) rfl
      have t12 := HRF.out.cell (i := 12) rfl
      try (go_wp2_with fail)
      refine bodyPost_ret (v := .tuple #[.agg #[.int .i64 0, .slice none 0 0, .slice none 0 0, .slice none 0 0, .slice none 0 0, .slice none 0 0, .slice none 0 0, .slice none 0 0, .slice none 0 0, .slice none 0 0, .slice none 0 0, .slice none 0 0, .slice none 0 0], .bool false]) (by simp [results, Try.results14, go_sem, t0, t1, t2, t3, t4, t5, t6, t7, t8, t9, t10, t11, t12]) rfl ⟨_, by rw [HBQ.out], ?_, HBF.out⟩
      rw [HV.out]
      exact OwnTG.zero _ HBF.out.size
    · go_wp2_with (first | (go_at_call 23; refine (slices_Equal _ _ (stgR (stX l)) l _ HJ.out.reads (H.out.below HBX.out)).mono ?_; rintro e w8 ⟨rfl, m8, hw8⟩; have hb8 := Below.drewOf hw8; clear hw8; rw [HQE.out]; have HRW8 := Lib.hid (HRX.out.below hb8); have HBW8 := Lib.hid (HBX.out.trans (hb8.mono HBX.out.size)); have HSGF := Lib.hid (Kind.next (K := kStageG) HSG7.out hb8); have HXQ8 := Lib.hid (HXR.out.below hb8); have hs8 := hb8.size; clear hb8; have r0 := HRW8.out.cell (i := 0) rfl; have r1 := HRW8.out.cell (i := 1) rfl; have r2 := HRW8.out.cell (i := 2) rfl; have r3 := HRW8.out.cell (i := 3) rfl; have r4 := HRW8.out.cell (i := 4) rfl; have r5 := HRW8.out.cell (i := 5) rfl; have r6 := HRW8.out.cell (i := 6) rfl; have r7 := HRW8.out.cell (i := 7) rfl; have r8 := HRW8.out.cell (i := 8) rfl; have r9 := HRW8.out.cell (i := 9) rfl; have r10 := HRW8.out.cell (i := 10) rfl; have r11 := HRW8.out.cell (i := 11) rfl; have r12 := HRW8.out.cell (i := 12) rfl; have fr := fun j => HRW8.out.frozen j; have z0 := HXQ8.out.cell (i := 0) rfl; have z1 := HXQ8.out.cell (i := 1) rfl; have z2 := HXQ8.out.cell (i := 2) rfl; have z3 := HXQ8.out.cell (i := 3) rfl; have z4 := HXQ8.out.cell (i := 4) rfl; have z5 := HXQ8.out.cell (i := 5) rfl; have z6 := HXQ8.out.cell (i := 6) rfl; have z7 := HXQ8.out.cell (i := 7) rfl; have z8 := HXQ8.out.cell (i := 8) rfl; have z9 := HXQ8.out.cell (i := 9) rfl; have z10 := HXQ8.out.cell (i := 10) rfl; have z11 := HXQ8.out.cell (i := 11) rfl; have z12 := HXQ8.out.cell (i := 12) rfl) | fail)
      have HBQ : Hid (stB l = true) := by have h9 := HSO.out; unfold Hid; simpa using h9.symm
      clear z0 z1 z2 z3 z4 z5 z6 z7 z8 z9 z10 z11 z12 r0 r1 r2 r3 r4 r5 r6 r7 r8 r9 r10 r11 r12 fr
      have HV := Lib.hid (stD_yes HBQ.out)
      have HRF := Lib.hid (((((((((((((HRW8.out.set 0 (.int .i64 vo)).set 1 (.slice ca cn cc)).set 2 (.slice x2 m2 y2)).set 3 (.slice x3 m3 y3)).set 4 (.slice d1 e1 f1)).set 5 (.slice d2 e2 f2)).set 6 (.slice d3 e3 f3)).set 7 (.slice none 0 0)).set 8 (.slice none 0 0)).set 9 (.slice none 0 0)).set 10 (.slice none 0 0)).set 11 (.slice none 0 0)).set 12 (.slice none 0 0))
      have HBF := Lib.hid (((((((((((((HBW8.out.setCell (p := ⟨w.heap.size, 0, none⟩) (Nat.le_refl _) (.int .i64 vo)).setCell (p := ⟨w.heap.size, 1, none⟩) (Nat.le_refl _) (.slice ca cn cc)).setCell (p := ⟨w.heap.size, 2, none⟩) (Nat.le_refl _) (.slice x2 m2 y2)).setCell (p := ⟨w.heap.size, 3, none⟩) (Nat.le_refl _) (.slice x3 m3 y3)).setCell (p := ⟨w.heap.size, 4, none⟩) (Nat.le_refl _) (.slice d1 e1 f1)).setCell (p := ⟨w.heap.size, 5, none⟩) (Nat.le_refl _) (.slice d2 e2 f2)).setCell (p := ⟨w.heap.size, 6, none⟩) (Nat.le_refl _) (.slice d3 e3 f3)).setCell (p := ⟨w.heap.size, 7, none⟩) (Nat.le_refl _) (.slice none 0 0)).setCell (p := ⟨w.heap.size, 8, none⟩) (Nat.le_refl _) (.slice none 0 0)).setCell (p := ⟨w.heap.size, 9, none⟩) (Nat.le_refl _) (.slice none 0 0)).setCell (p := ⟨w.heap.size, 10, none⟩) (Nat.le_refl _) (.slice none 0 0)).setCell (p := ⟨w.heap.size, 11, none⟩) (Nat.le_refl _) (.slice none 0 0)).setCell (p := ⟨w.heap.size, 12, none⟩) (Nat.le_refl _) (.slice none 0 0))
      have t0 := HRF.out.cell (i := 0) rfl
      have t1 := HRF.out.cell (i := 1) rfl
      have t2 := HRF.out.cell (i := 2) rfl
      have t3 := HRF.out.cell (i := 3) rfl
      have t4 := HRF.out.cell (i := 4) rfl
      have t5 := HRF.out.cell (i := 5) rfl
      have t6 := HRF.out.cell (i := 6) rfl
      have t7 := HRF.out.cell (i := 7) rfl
      have t8 := HRF.out.cell (i := 8) rfl
      have t9 := HRF.out.cell (i := 9) rfl
      have t10 := HRF.out.cell (i := 10) rfl
      have t11 := HRF.out.cell (i := 11) rfl
      have t12 := HRF.out.cell (i := 12) rfl
      try (go_wp2_with fail)
      have hwF : Within w.heap.size (w.heap.size + 1) w8 (((((((((((((w8.setCell ⟨w.heap.size, 0, none⟩ (.int .i64 vo)).setCell ⟨w.heap.size, 1, none⟩ (.slice ca cn cc)).setCell ⟨w.heap.size, 2, none⟩ (.slice x2 m2 y2)).setCell ⟨w.heap.size, 3, none⟩ (.slice x3 m3 y3)).setCell ⟨w.heap.size, 4, none⟩ (.slice d1 e1 f1)).setCell ⟨w.heap.size, 5, none⟩ (.slice d2 e2 f2)).setCell ⟨w.heap.size, 6, none⟩ (.slice d3 e3 f3)).setCell ⟨w.heap.size, 7, none⟩ (.slice none 0 0)).setCell ⟨w.heap.size, 8, none⟩ (.slice none 0 0)).setCell ⟨w.heap.size, 9, none⟩ (.slice none 0 0)).setCell ⟨w.heap.size, 10, none⟩ (.slice none 0 0)).setCell ⟨w.heap.size, 11, none⟩ (.slice none 0 0)).setCell ⟨w.heap.size, 12, none⟩ (.slice none 0 0)) := ((((((((((((((Within.refl w.heap.size (w.heap.size + 1) w8).setCell (Nat.le_refl _) (by omega) 0 (.int .i64 vo)).setCell (Nat.le_refl _) (by omega) 1 (.slice ca cn cc)).setCell (Nat.le_refl _) (by omega) 2 (.slice x2 m2 y2)).setCell (Nat.le_refl _) (by omega) 3 (.slice x3 m3 y3)).setCell (Nat.le_refl _) (by omega) 4 (.slice d1 e1 f1)).setCell (Nat.le_refl _) (by omega) 5 (.slice d2 e2 f2)).setCell (Nat.le_refl _) (by omega) 6 (.slice d3 e3 f3)).setCell (Nat.le_refl _) (by omega) 7 (.slice none 0 0)).setCell (Nat.le_refl _) (by omega) 8 (.slice none 0 0)).setCell (Nat.le_refl _) (by omega) 9 (.slice none 0 0)).setCell (Nat.le_refl _) (by omega) 10 (.slice none 0 0)).setCell (Nat.le_refl _) (by omega) 11 (.slice none 0 0)).setCell (Nat.le_refl _) (by omega) 12 (.slice none 0 0))
      refine bodyPost_ret (v := .tuple #[.agg #[.int .i64 vo, .slice ca cn cc, .slice x2 m2 y2, .slice x3 m3 y3, .slice d1 e1 f1, .slice d2 e2 f2, .slice d3 e3 f3, .slice none 0 0, .slice none 0 0, .slice none 0 0, .slice none 0 0, .slice none 0 0, .slice none 0 0], .bool true]) (by simp [results, Try.results14, go_sem, t0, t1, t2, t3, t4, t5, t6, t7, t8, t9, t10, t11, t12]) rfl ⟨_, by rw [HBQ.out], ?_, HBF.out⟩
      rw [HV.out]
      have h9 := Kind.kept (K := kStageG) HSGF.out hwF (.inr (by omega))
      exact kStageG.own_mono h9 (by omega) (by simp only [size_setC]; omega)
  · subst hn9
    have HV9 := Lib.hid hv9
    have v1b : (vo == 1) = false := by rw [hv9]; rfl
    have v2b : (vo == 2) = true := by rw [hv9]; rfl
    clear hv9
    have kc2 := box_at KC2.out HFV.out
    have kc3 := box_at KC3.out HFV.out
    have kc4 := box_at KC4.out HFV.out
    have p0 := HPV.out.cell (i := 0) rfl
    have p1 := HPV.out.cell (i := 1) rfl
    have p2 := HPV.out.cell (i := 2) rfl
    go_wp2_with fail
    refine wp_region_noPanic ?_
    refine wp_region_P (fun w' => w'.cell? ⟨bp, 2, none⟩ = some (.slice x2 m2 y2) ∧ w'.cell? ⟨bp, 3, none⟩ = some (.slice x3 m3 y3) ∧ w'.cell? ⟨bp, 4, none⟩ = some (.slice x4 m4 y4) ∧ w'.cell? ⟨B8, 0, none⟩ = some (.slice d1 e1 f1) ∧ w'.cell? ⟨B8, 1, none⟩ = some (.slice d2 e2 f2) ∧ w'.cell? ⟨B8, 2, none⟩ = some (.slice d3 e3 f3)) 15 [(0, []), (1, [0]), (2, [0]), (3, []), (4, [0]), (5, [0]), (6, []), (7, [0]), (8, [0]), (9, []), (10, [7, 4, 1, 0]), (11, [])] [12] (by kernel_rfl) (by kernel_rfl) (by kernel_rfl) rfl (fun _ _ _ _ h => h) (fun w' h => ⟨box_at kc2 h, box_at kc3 h, box_at kc4 h, box_at p0 h, box_at p1 h, box_at p2 h⟩) ?_
    simp only [pickP, pickN, List.getElem?_cons_zero, List.getElem?_cons_succ]
    iterate 12 (refine' chainP_read _ rfl rfl (fun w' hS' => ?_) ?_; rotate_left; · (simp only [lookP, allP, Act.put, List.getElem?_cons_zero, List.getElem?_cons_succ, List.setIfInBounds_toArray, List.set_cons_zero, List.set_cons_succ]; (try dsimp only at hS'); go_simp; (try with_reducible rfl)))
    refine chainP_nil (fun u1 hS' => ?_)
    simp only [allP, Act.put, List.setIfInBounds_toArray, List.set_cons_zero, List.set_cons_succ]
    have hV1 := hS'.1
    clear hS' kc2 kc3 kc4 p0 p1 p2
    have HV1 := Lib.hid hV1
    have HX1 := Lib.hid (HXV.out.below hV1)
    have hsV1 := hV1.size
    clear hV1
    have g7 := HX1.out.cell (i := 7) rfl
    have g8 := HX1.out.cell (i := 8) rfl
    have g9 := HX1.out.cell (i := 9) rfl
    have g10 := HX1.out.cell (i := 10) rfl
    have g11 := HX1.out.cell (i := 11) rfl
    have g12 := HX1.out.cell (i := 12) rfl
    have gf := fun j => HX1.out.frozen j
    go_wp2_with fail
    refine NoPanic.normal ?_
    clear g7 g8 g9 g10 g11 g12 gf
    obtain ⟨Y, hY⟩ : ∃ Y, Y = (((((u1.setCell ⟨X0, 7, none⟩ (.slice x2 m2 y2)).setCell ⟨X0, 8, none⟩ (.slice x3 m3 y3)).setCell ⟨X0, 9, none⟩ (.slice x4 m4 y4)).setCell ⟨X0, 10, none⟩ (.slice d1 e1 f1)).setCell ⟨X0, 11, none⟩ (.slice d2 e2 f2)).setCell ⟨X0, 12, none⟩ (.slice d3 e3 f3) := ⟨_, rfl⟩
    rw [← hY]
    have HWY : Hid (Within X0 (X0 + 1) u1 Y) := by unfold Hid; rw [hY]; exact (((((((Within.refl X0 (X0 + 1) u1).setCell (Nat.le_refl _) (by omega) 7 (.slice x2 m2 y2)).setCell (Nat.le_refl _) (by omega) 8 (.slice x3 m3 y3)).setCell (Nat.le_refl _) (by omega) 9 (.slice x4 m4 y4)).setCell (Nat.le_refl _) (by omega) 10 (.slice d1 e1 f1)).setCell (Nat.le_refl _) (by omega) 11 (.slice d2 e2 f2)).setCell (Nat.le_refl _) (by omega) 12 (.slice d3 e3 f3))
    have HXY : Hid (BoxN Y X0 42 [.int .i64 vo, .slice ca cn cc, .slice none 0 0, .slice none 0 0, .slice none 0 0, .slice none 0 0, .slice none 0 0, .slice x2 m2 y2, .slice x3 m3 y3, .slice x4 m4 y4, .slice d1 e1 f1, .slice d2 e2 f2, .slice d3 e3 f3]) := by unfold Hid; rw [hY]; exact ((((((HX1.out.set 7 (.slice x2 m2 y2)).set 8 (.slice x3 m3 y3)).set 9 (.slice x4 m4 y4)).set 10 (.slice d1 e1 f1)).set 11 (.slice d2 e2 f2)).set 12 (.slice d3 e3 f3))
    clear hY
    have hsY := HWY.out.size
    have HRY := Lib.hid ((HRV.out.below HV1.out).kept HWY.out (.inl (by omega)))
    have HBY : Hid (Below w.heap.size w Y) := (HBV.out.trans (HV1.out.mono HBV.out.size)).trans (HWY.out.below (by have := HBV.out.size; omega) (by omega))
    have HSX : Hid (stX l = ⟨2, dcD (rwA (splitL l) 1), zeroM, ⟨rwA (splitL l) 2, rwA (splitL l) 3, rwA (splitL l) 4, dpD (rwA (splitL l) m)⟩⟩) := by
      unfold Hid stX
      rw [if_neg (by rw [HVO.out, HV9.out]; decide), HMN.out]
    have HSG : Hid (kStageG.own Y W.heap.size CC (.agg #[.int .i64 vo, .slice ca cn cc, .slice none 0 0, .slice none 0 0, .slice none 0 0, .slice none 0 0, .slice none 0 0, .slice x2 m2 y2, .slice x3 m3 y3, .slice x4 m4 y4, .slice d1 e1 f1, .slice d2 e2 f2, .slice d3 e3 f3]) (stX l)) := by
      unfold Hid
      rw [HSX.out]
      have o0 := Kind.kept (K := (kR 75 rCipher).toKind) (Kind.next (K := (kR 75 rCipher).toKind) HCV.out HV1.out) HWY.out (.inl (by omega))
      have b2 := KB2.out
      have o2 := Kind.kept (K := kInts) (Kind.next (K := kInts) (Kind.next (K := kInts) KI2.out HFV.out) HV1.out) HWY.out (.inl (by omega))
      have b3 := KB3.out
      have o3 := Kind.kept (K := kInts) (Kind.next (K := kInts) (Kind.next (K := kInts) KI3.out HFV.out) HV1.out) HWY.out (.inl (by omega))
      have b4 := KB4.out
      have o4 := Kind.kept (K := kInts) (Kind.next (K := kInts) (Kind.next (K := kInts) KI4.out HFV.out) HV1.out) HWY.out (.inl (by omega))
      have o9 := RowK.kept (RowK.next HIV.out HV1.out) HWY.out (.inl (by omega))
      exact OwnTG.poly HV9.out o0 o2 o3 o4 o9 b2.1 (by omega) b3.1 (by omega) b4.1 (by omega) (by omega) (by omega) (by omega) (by omega) (HD.out 2 3 (by omega) (by omega) (by decide)) (HD.out 2 4 (by omega) (by omega) (by decide)) (HD.out 3 4 (by omega) (by omega) (by decide))
    have z0 := HXY.out.cell (i := 0) rfl
    have z1 := HXY.out.cell (i := 1) rfl
    have z2 := HXY.out.cell (i := 2) rfl
    have z3 := HXY.out.cell (i := 3) rfl
    have z4 := HXY.out.cell (i := 4) rfl
    have z5 := HXY.out.cell (i := 5) rfl
    have z6 := HXY.out.cell (i := 6) rfl
    have z7 := HXY.out.cell (i := 7) rfl
    have z8 := HXY.out.cell (i := 8) rfl
    have z9 := HXY.out.cell (i := 9) rfl
    have z10 := HXY.out.cell (i := 10) rfl
    have z11 := HXY.out.cell (i := 11) rfl
    have z12 := HXY.out.cell (i := 12) rfl
    have hY1 := HXY.out.lt
    go_wp2_with fail
    clear z0 z1 z2 z3 z4 z5 z6 z7 z8 z9 z10 z11 z12
    refine (impl_StageRecord _ (stX l) Y (by have := st_sz l; omega) (kStageG.own_rd HSG.out)).mono ?_
    rintro e w7 ⟨v7, rfl, hJ, hb7⟩
    have HJ := Lib.hid hJ
    have HSG7 := Lib.hid (Kind.next (K := kStageG) HSG.out hb7)
    have HXR := Lib.hid (HXY.out.below hb7)
    have HRX := Lib.hid (HRY.out.below hb7)
    have HBX := Lib.hid (HBY.out.trans (hb7.mono HBY.out.size))
    have hs7 := hb7.size
    clear hJ hb7
    have HSO := Lib.hid (st_impl HSC.out HFT.out)
    have HOK : Hid (stOk l = (q0 && qp)) := by unfold Hid stOk; rw [HMN.out, HQ0.out, HQP.out]
    obtain ⟨qs, hqs⟩ : ∃ q, stgB (stX l) = q := ⟨_, rfl⟩
    obtain ⟨qe, hqe⟩ : ∃ q, decide (stgR (stX l) = l) = q := ⟨_, rfl⟩
    rw [hqs] at HSO ⊢
    rw [hqe, HOK.out] at HSO
    have HQE := Lib.hid hqe
    clear hqs hqe
    obtain ⟨j1, j2, j3, rfl⟩ := HJ.out.reads.shape
    have hcs : q0 = false ∨ (q0 = true ∧ qp = false) ∨ (q0 = true ∧ qp = true ∧ qs = false) ∨ (q0 = true ∧ qp = true ∧ qs = true ∧ qe = false) ∨ (q0 = true ∧ qp = true ∧ qs = true ∧ qe = true) := by cases q0 <;> cases qp <;> cases qs <;> cases qe <;> simp
    rcases hcs with rfl | ⟨rfl, rfl⟩ | ⟨rfl, rfl, rfl⟩ | ⟨rfl, rfl, rfl, rfl⟩ | ⟨rfl, rfl, rfl, rfl⟩
    · have HBQ : Hid (stB l = false) := by have h9 := HSO.out; unfold Hid; simpa using h9.symm
      have HV := Lib.hid (stD_no HBQ.out)
      have r0 := HRX.out.cell (i := 0) rfl
      have r1 := HRX.out.cell (i := 1) rfl
      have r2 := HRX.out.cell (i := 2) rfl
      have r3 := HRX.out.cell (i := 3) rfl
      have r4 := HRX.out.cell (i := 4) rfl
      have r5 := HRX.out.cell (i := 5) rfl
      have r6 := HRX.out.cell (i := 6) rfl
      have r7 := HRX.out.cell (i := 7) rfl
      have r8 := HRX.out.cell (i := 8) rfl
      have r9 := HRX.out.cell (i := 9) rfl
      have r10 := HRX.out.cell (i := 10) rfl
      have r11 := HRX.out.cell (i := 11) rfl
      have r12 := HRX.out.cell (i := 12) rfl
      have fr := fun j => HRX.out.frozen j
      go_wp2_with fail
      have HRF := Lib.hid (((((((((((((HRX.out.set 0 (.int .i64 0)).set 1 (.slice none 0 0)).set 2 (.slice none 0 0)).set 3 (.slice none 0 0)).set 4 (.slice none 0 0)).set 5 (.slice none 0 0)).set 6 (.slice none 0 0)).set 7 (.slice none 0 0)).set 8 (.slice none 0 0)).set 9 (.slice none 0 0)).set 10 (.slice none 0 0)).set 11 (.slice none 0 0)).set 12 (.slice none 0 0))
      have HBF := Lib.hid (((((((((((((HBX.out.setCell (p := ⟨w.heap.size, 0, none⟩) (Nat.le_refl _) (.int .i64 0)).setCell (p := ⟨w.heap.size, 1, none⟩) (Nat.le_refl _) (.slice none 0 0)).setCell (p := ⟨w.heap.size, 2, none⟩) (Nat.le_refl _) (.slice none 0 0)).setCell (p := ⟨w.heap.size, 3, none⟩) (Nat.le_refl _) (.slice none 0 0)).setCell (p := ⟨w.heap.size, 4, none⟩) (Nat.le_refl _) (.slice none 0 0)).setCell (p := ⟨w.heap.size, 5, none⟩) (Nat.le_refl _) (.slice none 0 0)).setCell (p := ⟨w.heap.size, 6, none⟩) (Nat.le_refl _) (.slice none 0 0)).setCell (p := ⟨w.heap.size, 7, none⟩) (Nat.le_refl _) (.slice none 0 0)).setCell (p := ⟨w.heap.size, 8, none⟩) (Nat.le_refl _) (.slice none 0 0)).setCell (p := ⟨w.heap.size, 9, none⟩) (Nat.le_refl _) (.slice none 0 0)).setCell (p := ⟨w.heap.size, 10, none⟩) (Nat.le_refl _) (.slice none 0 0)).setCell (p := ⟨w.heap.size, 11, none⟩) (Nat.le_refl _) (.slice none 0 0)).setCell (p := ⟨w.heap.size, 12, none⟩) (Nat.le_refl _) (.slice none 0 0))
      clear r0 r1 r2 r3 r4 r5 r6 r7 r8 r9 r10 r11 r12 fr
      have t0 := HRF.out.cell (i := 0) rfl
      have t1 := HRF.out.cell (i := 1) rfl
      have t2 := HRF.out.cell (i := 2) rfl
      have t3 := HRF.out.cell (i := 3) rfl
      have t4 := HRF.out.cell (i := 4) rfl
      have t5 := HRF.out.cell (i := 5) rfl
      have t6 := HRF.out.cell (i := 6) rfl
      have t7 := HRF.out.cell (i := 7) rfl
      have t8 := HRF.out.cell (i := 8) rfl
      have t9 := HRF.out.cell (i := 9) rfl
      have t10 := HRF.out.cell (i := 10) rfl
      have t11 := HRF.out.cell (i := 11) rfl
      have t12 := HRF.out.cell (i := 12) rfl
      try (go_wp2_with fail)
      refine bodyPost_ret (v := .tuple #[.agg #[.int .i64 0, .slice none 0 0, .slice none 0 0, .slice none 0 0, .slice none 0 0, .slice none 0 0, .slice none 0 0, .slice none 0 0, .slice none 0 0, .slice none 0 0, .slice none 0 0, .slice none 0 0, .slice none 0 0], .bool false]) (by simp [results, Try.results14, go_sem, t0, t1, t2, t3, t4, t5, t6, t7, t8, t9, t10, t11, t12]) rfl ⟨_, by rw [HBQ.out], ?_, HBF.out⟩
      rw [HV.out]
      exact OwnTG.zero _ HBF.out.size
    · have HBQ : Hid (stB l = false) := by have h9 := HSO.out; unfold Hid; simpa using h9.symm
      have HV := Lib.hid (stD_no HBQ.out)
      have r0 := HRX.out.cell (i := 0) rfl
      have r1 := HRX.out.cell (i := 1) rfl
      have r2 := HRX.out.cell (i := 2) rfl
      have r3 := HRX.out.cell (i := 3) rfl
      have r4 := HRX.out.cell (i := 4) rfl
      have r5 := HRX.out.cell (i := 5) rfl
      have r6 := HRX.out.cell (i := 6) rfl
      have r7 := HRX.out.cell (i := 7) rfl
      have r8 := HRX.out.cell (i := 8) rfl
      have r9 := HRX.out.cell (i := 9) rfl
      have r10 := HRX.out.cell (i := 10) rfl
      have r11 := HRX.out.cell (i := 11) rfl
      have r12 := HRX.out.cell (i := 12) rfl
      have fr := fun j => HRX.out.frozen j
      go_wp2_with fail
      have HRF := Lib.hid (((((((((((((HRX.out.set 0 (.int .i64 0)).set 1 (.slice none 0 0)).set 2 (.slice none 0 0)).set 3 (.slice none 0 0)).set 4 (.slice none 0 0)).set 5 (.slice none 0 0)).set 6 (.slice none 0 0)).set 7 (.slice none 0 0)).set 8 (.slice none 0 0)).set 9 (.slice none 0 0)).set 10 (.slice none 0 0)).set 11 (.slice none 0 0)).set 12 (.slice none 0 0))
      have HBF := Lib.hid (((((((((((((HBX.out.setCell (p := ⟨w.heap.size, 0, none⟩) (Nat.le_refl _) (.int .i64 0)).setCell (p := ⟨w.heap.size, 1, none⟩) (Nat.le_refl _) (.slice none 0 0)).setCell (p := ⟨w.heap.size, 2, none⟩) (Nat.le_refl _) (.slice none 0 0)).setCell (p := ⟨w.heap.size, 3, none⟩) (Nat.le_refl _) (.slice none 0 0)).setCell (p := ⟨w.heap.size, 4, none⟩) (Nat.le_refl _) (.slice none 0 0)).setCell (p := ⟨w.heap.size, 5, none⟩) (Nat.le_refl _) (.slice none 0 0)).setCell (p := ⟨w.heap.size, 6, none⟩) (Nat.le_refl _) (.slice none 0 0)).setCell (p := ⟨w.heap.size, 7, none⟩) (Nat.le_refl _) (.slice none 0 0)).setCell (p := ⟨w.heap.size, 8, none⟩) (Nat.le_refl _) (.slice none 0 0)).setCell (p := ⟨w.heap.size, 9, none⟩) (Nat.le_refl _) (.slice none 0 0)).setCell (p := ⟨w.heap.size, 10, none⟩) (Nat.le_refl _) (.slice none 0 0)).setCell (p := ⟨w.heap.size, 11, none⟩) (Nat.le_refl _) (.slice none 0 0)).setCell (p := ⟨w.heap.size, 12, none⟩) (Nat.le_refl _) (.slice none 0 0))
      clear r0 r1 r2 r3 r4 r5 r6 r7 r8 r9 r10 r11 r12 fr
      have t0 := HRF.out.cell (i := 0) rfl
      have t1 := HRF.out.cell (i := 1) rfl
      have t2 := HRF.out.cell (i := 2) rfl
      have t3 := HRF.out.cell (i := 3) rfl
      have t4 := HRF.out.cell (i := 4) rfl
      have t5 := HRF.out.cell (i := 5) rfl
      have t6 := HRF.out.cell (i := 6) rfl
      have t7 := HRF.out.cell (i := 7) rfl
      have t8 := HRF.out.cell (i := 8) rfl
      have t9 := HRF.out.cell (i := 9) rfl
      have t10 := HRF.out.cell (i := 10) rfl
      have t11 := HRF.out.cell (i := 11) rfl
      have t12 := HRF.out.cell (i := 12) rfl
      try (go_wp2_with fail)
      refine bodyPost_ret (v := .tuple #[.agg #[.int .i64 0, .slice none 0 0, .slice none 0 0, .slice none 0 0, .slice none 0 0, .slice none 0 0, .slice none 0 0, .slice none 0 0, .slice none 0 0, .slice none 0 0, .slice none 0 0, .slice none 0 0, .slice none 0 0], .bool false]) (by simp [results, Try.results14, go_sem, t0, t1, t2, t3, t4, t5, t6, t7, t8, t9, t10, t11, t12]) rfl ⟨_, by rw [HBQ.out], ?_, HBF.out⟩
      rw [HV.out]
      exact OwnTG.zero _ HBF.out.size
    · have HBQ : Hid (stB l = false) := by have h9 := HSO.out; unfold Hid; simpa using h9.symm
      have HV := Lib.hid (stD_no HBQ.out)
      have r0 := HRX.out.cell (i := 0) rfl
      have r1 := HRX.out.cell (i := 1) rfl
      have r2 := HRX.out.cell (i := 2) rfl
      have r3 := HRX.out.cell (i := 3) rfl
      have r4 := HRX.out.cell (i := 4) rfl
      have r5 := HRX.out.cell (i := 5) rfl
      have r6 := HRX.out.cell (i := 6) rfl
      have r7 := HRX.out.cell (i := 7) rfl
      have r8 := HRX.out.cell (i := 8) rfl
      have r9 := HRX.out.cell (i := 9) rfl
      have r10 := HRX.out.cell (i := 10) rfl
      have r11 := HRX.out.cell (i := 11) rfl
      have r12 := HRX.out.cell (i := 12) rfl
      have fr := fun j => HRX.out.frozen j
      go_wp2_with fail
      have HRF := Lib.hid (((((((((((((HRX.out.set 0 (.int .i64 0)).set 1 (.slice none 0 0)).set 2 (.slice none 0 0)).set 3 (.slice none 0 0)).set 4 (.slice none 0 0)).set 5 (.slice none 0 0)).set 6 (.slice none 0 0)).set 7 (.slice none 0 0)).set 8 (.slice none 0 0)).set 9 (.slice none 0 0)).set 10 (.slice none 0 0)).set 11 (.slice none 0 0)).set 12 (.slice none 0 0))
      have HBF := Lib.hid (((((((((((((HBX.out.setCell (p := ⟨w.heap.size, 0, none⟩) (Nat.le_refl _) (.int .i64 0)).setCell (p := ⟨w.heap.size, 1, none⟩) (Nat.le_refl _) (.slice none 0 0)).setCell (p := ⟨w.heap.size, 2, none⟩) (Nat.le_refl _) (.slice none 0 0)).setCell (p := ⟨w.heap.size, 3, none⟩) (Nat.le_refl _) (.slice none 0 0)).setCell (p := ⟨w.heap.size, 4, none⟩) (Nat.le_refl _) (.slice none 0 0)).setCell (p := ⟨w.heap.size, 5, none⟩) (Nat.le_refl _) (.slice none 0 0)).setCell (p := ⟨w.heap.size, 6, none⟩) (Nat.le_refl _) (.slice none 0 0)).setCell (p := ⟨w.heap.size, 7, none⟩) (Nat.le_refl _) (.slice none 0 0)).setCell (p := ⟨w.heap.size, 8, none⟩) (Nat.le_refl _) (.slice none 0 0)).setCell (p := ⟨w.heap.size, 9, none⟩) (Nat.le_refl _) (.slice none 0 0)).setCell (p := ⟨w.heap.size, 10, none⟩) (Nat.le_refl _) (.slice none 0 0)).setCell (p := ⟨w.heap.size, 11, none⟩) (Nat.le_refl _) (.slice none 0 0)).setCell (p := ⟨w.heap.size, 12, none⟩) (Nat.le_refl _) (.slice none 0 0))
      clear r0 r1 r2 r3 r4 r5 r6 r7 r8 r9 r10 r11 r12 fr
      have t0 := HRF.out.cell (i := 0) rfl
      have t1 := HRF.out.cell (i := 1) rfl
      have t2 := HRF.out.cell (i := 2) rfl
      have t3 := HRF.out.cell (i := 3) rfl
      have t4 := HRF.out.cell (i := 4) rfl
      have t5 := HRF.out.cell (i := 5) rfl
      have t6 := HRF.out.cell (i := 6) rfl
      have t7 := HRF.out.cell (i := 7) rfl
      have t8 := HRF.out.cell (i := 8) rfl
      have t9 := HRF.out.cell (i := 9) rfl
      have t10 := HRF.out.cell (i := 10) rfl
      have t11 := HRF.out.cell (i := 11) rfl
      have t12 := HRF.out.cell (i := 12) rfl
      try (go_wp2_with fail)
      refine bodyPost_ret (v := .tuple #[.agg #[.int .i64 0, .slice none 0 0, .slice none 0 0, .slice none 0 0, .slice none 0 0, .slice none 0 0, .slice none 0 0, .slice none 0 0, .slice none 0 0, .slice none 0 0, .slice none 0 0, .slice none 0 0, .slice none 0 0], .bool false]) (by simp [results, Try.results14, go_sem, t0, t1, t2, t3, t4, t5, t6, t7, t8, t9, t10, t11, t12]) rfl ⟨_, by rw [HBQ.out], ?_, HBF.out⟩
      rw [HV.out]
      exact OwnTG.zero _ HBF.out.size
    · go_wp2_with (first | (go_at_call 23; refine (slices_Equal _ _ (stgR (stX l)) l _ HJ.out.reads (H.out.below HBX.out)).mono ?_; rintro e w8 ⟨rfl, m8, hw8⟩; have hb8 := Below.drewOf hw8; clear hw8; rw [HQE.out]; have HRW8 := Lib.hid (HRX.out.below hb8); have HBW8 := Lib.hid (HBX.out.trans (hb8.mono HBX.out.size)); have HSGF := Lib.hid (Kind.next (K := kStageG) HSG7.out hb8); have HXQ8 := Lib.hid (HXR.out.below hb8); have hs8 := hb8.size; clear hb8; have r0 := HRW8.out.cell (i := 0) rfl; have r1 := HRW8.out.cell (i := 1) rfl; have r2 := HRW8.out.cell (i := 2) rfl; have r3 := HRW8.out.cell (i := 3) rfl; have r4 := HRW8.out.cell (i := 4) rfl; have r5 := HRW8.out.cell (i := 5) rfl; have r6 := HRW8.out.cell (i := 6) rfl; have r7 := HRW8.out.cell (i := 7) rfl; have r8 := HRW8.out.cell (i := 8) rfl; have r9 := HRW8.out.cell (i := 9) rfl; have r10 := HRW8.out.cell (i := 10) rfl; have r11 := HRW8.out.cell (i := 11) rfl; have r12 := HRW8.out.cell (i := 12) rfl; have fr := fun j => HRW8.out.frozen j) | fail)
      have HBQ : Hid (stB l = false) := by have h9 := HSO.out; unfold Hid; simpa using h9.symm
      have HV := Lib.hid (stD_no HBQ.out)
      have HRF := Lib.hid (((((((((((((HRW8.out.set 0 (.int .i64 0)).set 1 (.slice none 0 0)).set 2 (.slice none 0 0)).set 3 (.slice none 0 0)).set 4 (.slice none 0 0)).set 5 (.slice none 0 0)).set 6 (.slice none 0 0)).set 7 (.slice none 0 0)).set 8 (.slice none 0 0)).set 9 (.slice none 0 0)).set 10 (.slice none 0 0)).set 11 (.slice none 0 0)).set 12 (.slice none 0 0))
      have HBF := Lib.hid (((((((((((((HBW8.out.setCell (p := ⟨w.heap.size, 0, none⟩) (Nat.le_refl _) (.int .i64 0)).setCell (p := ⟨w.heap.size, 1, none⟩) (Nat.le_refl _) (.slice none 0 0)).setCell (p := ⟨w.heap.size, 2, none⟩) (Nat.le_refl _) (.slice none 0 0)).setCell (p := ⟨w.heap.size, 3, none⟩) (Nat.le_refl _) (.slice none 0 0)).setCell (p := ⟨w.heap.size, 4, none⟩) (Nat.le_refl _) (.slice none 0 0)).setCell (p := ⟨w.heap.size, 5, none⟩) (Nat.le_refl _) (.slice none 0 0)).setCell (p := ⟨w.heap.size, 6, none⟩) (Nat.le_refl _) (.slice none 0 0)).setCell (p := ⟨w.heap.size, 7, none⟩) (Nat.le_refl _) (.slice none 0 0)).setCell (p := ⟨w.heap.size, 8, none⟩) (Nat.le_refl _) (.slice none 0 0)).setCell (p := ⟨w.heap.size, 9, none⟩) (Nat.le_refl _) (.slice none 0 0)).setCell (p := ⟨w.heap.size, 10, none⟩) (Nat.le_refl _) (.slice none 0 0)).setCell (p := ⟨w.heap.size, 11, none⟩) (Nat.le_refl _) (.slice none 0 0)).setCell (p := ⟨w.heap.size, 12, none⟩) (Nat.le_refl _) (.slice none 0 0))
      clear r0 r1 r2 r3 r4 r5 r6 r7 r8 r9 r10 r11 r12 fr
      have t0 := HRF.out.cell (i := 0) rfl
      have t1 := HRF.out.cell (i := 1) rfl
      have t2 := HRF.out.cell (i := 2) rfl
      have t3 := HRF.out.cell (i := 3) rfl
      have t4 := HRF.out.cell (i := 4) rfl
      have t5 := HRF.out.cell (i := 5) rfl
      have t6 := HRF.out.cell (i := 6) rfl
      have t7 := HRF.out.cell (i := 7) rfl
      have t8 := HRF.out.cell (i := 8) rfl
      have t9 := HRF.out.cell (i := 9) rfl
      have t10 := HRF.out.cell (i := 10) rfl
      have t11 := HRF.out.cell (i := 11) rfl
      have t12 := HRF.out.cell (i := 12) rfl
      try (go_wp2_with fail)
      refine bodyPost_ret (v := .tuple #[.agg #[.int .i64 0, .slice none 0 0, .slice none 0 0, .slice none 0 0, .slice none 0 0, .slice none 0 0, .slice none 0 0, .slice none 0 0, .slice none 0 0, .slice none 0 0, .slice none 0 0, .slice none 0 0, .slice none 0 0], .bool false]) (by simp [results, Try.results14, go_sem, t0, t1, t2, t3, t4, t5, t6, t7, t8, t9, t10, t11, t12]) rfl ⟨_, by rw [HBQ.out], ?_, HBF.out⟩
      rw [HV.out]
      exact OwnTG.zero _ HBF.out.size
    · go_wp2_with (first | (go_at_call 23; refine (slices_Equal _ _ (stgR (stX l)) l _ HJ.out.reads (H.out.below HBX.out)).mono ?_; rintro e w8 ⟨rfl, m8, hw8⟩; have hb8 := Below.drewOf hw8; clear hw8; rw [HQE.out]; have HRW8 := Lib.hid (HRX.out.below hb8); have HBW8 := Lib.hid (HBX.out.trans (hb8.mono HBX.out.size)); have HSGF := Lib.hid (Kind.next (K := kStageG) HSG7.out hb8); have HXQ8 := Lib.hid (HXR.out.below hb8); have hs8 := hb8.size; clear hb8; have r0 := HRW8.out.cell (i := 0) rfl; have r1 := HRW8.out.cell (i := 1) rfl; have r2 := HRW8.out.cell (i := 2) rfl; have r3 := HRW8.out.cell (i := 3) rfl; have r4 := HRW8.out.cell (i := 4) rfl; have r5 := HRW8.out.cell (i := 5) rfl; have r6 := HRW8.out.cell (i := 6) rfl; have r7 := HRW8.out.cell (i := 7) rfl; have r8 := HRW8.out.cell (i := 8) rfl; have r9 := HRW8.out.cell (i := 9) rfl; have r10 := HRW8.out.cell (i := 10) rfl; have r11 := HRW8.out.cell (i := 11) rfl; have r12 := HRW8.out.cell (i := 12) rfl; have fr := fun j => HRW8.out.frozen j; have z0 := HXQ8.out.cell (i := 0) rfl; have z1 := HXQ8.out.cell (i := 1) rfl; have z2 := HXQ8.out.cell (i := 2) rfl; have z3 := HXQ8.out.cell (i := 3) rfl; have z4 := HXQ8.out.cell (i := 4) rfl; have z5 := HXQ8.out.cell (i := 5) rfl; have z6 := HXQ8.out.cell (i := 6) rfl; have z7 := HXQ8.out.cell (i := 7) rfl; have z8 := HXQ8.out.cell (i := 8) rfl; have z9 := HXQ8.out.cell (i := 9) rfl; have z10 := HXQ8.out.cell (i := 10) rfl; have z11 := HXQ8.out.cell (i := 11) rfl; have z12 := HXQ8.out.cell (i := 12) rfl) | fail)
      have HBQ : Hid (stB l = true) := by have h9 := HSO.out; unfold Hid; simpa using h9.symm
      clear z0 z1 z2 z3 z4 z5 z6 z7 z8 z9 z10 z11 z12 r0 r1 r2 r3 r4 r5 r6 r7 r8 r9 r10 r11 r12 fr
      have HV := Lib.hid (stD_yes HBQ.out)
      have HRF := Lib.hid (((((((((((((HRW8.out.set 0 (.int .i64 vo)).set 1 (.slice ca cn cc)).set 2 (.slice none 0 0)).set 3 (.slice none 0 0)).set 4 (.slice none 0 0)).set 5 (.slice none 0 0)).set 6 (.slice none 0 0)).set 7 (.slice x2 m2 y2)).set 8 (.slice x3 m3 y3)).set 9 (.slice x4 m4 y4)).set 10 (.slice d1 e1 f1)).set 11 (.slice d2 e2 f2)).set 12 (.slice d3 e3 f3))
      have HBF := Lib.hid (((((((((((((HBW8.out.setCell (p := ⟨w.heap.size, 0, none⟩) (Nat.le_refl _) (.int .i64 vo)).setCell (p := ⟨w.heap.size, 1, none⟩) (Nat.le_refl _) (.slice ca cn cc)).setCell (p := ⟨w.heap.size, 2, none⟩) (Nat.le_refl _) (.slice none 0 0)).setCell (p := ⟨w.heap.size, 3, none⟩) (Nat.le_refl _) (.slice none 0 0)).setCell (p := ⟨w.heap.size, 4, none⟩) (Nat.le_refl _) (.slice none 0 0)).setCell (p := ⟨w.heap.size, 5, none⟩) (Nat.le_refl _) (.slice none 0 0)).setCell (p := ⟨w.heap.size, 6, none⟩) (Nat.le_refl _) (.slice none 0 0)).setCell (p := ⟨w.heap.size, 7, none⟩) (Nat.le_refl _) (.slice x2 m2 y2)).setCell (p := ⟨w.heap.size, 8, none⟩) (Nat.le_refl _) (.slice x3 m3 y3)).setCell (p := ⟨w.heap.size, 9, none⟩) (Nat.le_refl _) (.slice x4 m4 y4)).setCell (p := ⟨w.heap.size, 10, none⟩) (Nat.le_refl _) (.slice d1 e1 f1)).setCell (p := ⟨w.heap.size, 11, none⟩) (Nat.le_refl _) (.slice d2 e2 f2)).setCell (p := ⟨w.heap.size, 12, none⟩) (Nat.le_refl _) (.slice d3 e3 f3))
      have t0 := HRF.out.cell (i := 0) rfl
      have t1 := HRF.out.cell (i := 1) rfl
      have t2 := HRF.out.cell (i := 2) rfl
      have t3 := HRF.out.cell (i := 3) rfl
      have t4 := HRF.out.cell (i := 4) rfl
      have t5 := HRF.out.cell (i := 5) rfl
      have t6 := HRF.out.cell (i := 6) rfl
      have t7 := HRF.out.cell (i := 7) rfl
      have t8 := HRF.out.cell (i := 8) rfl
      have t9 := HRF.out.cell (i := 9) rfl
      have t10 := HRF.out.cell (i := 10) rfl
      have t11 := HRF.out.cell (i := 11) rfl
      have t12 := HRF.out.cell (i := 12) rfl
      try (go_wp2_with fail)
      have hwF : Within w.heap.size (w.heap.size + 1) w8 (((((((((((((w8.setCell ⟨w.heap.size, 0, none⟩ (.int .i64 vo)).setCell ⟨w.heap.size, 1, none⟩ (.slice ca cn cc)).setCell ⟨w.heap.size, 2, none⟩ (.slice none 0 0)).setCell ⟨w.heap.size, 3, none⟩ (.slice none 0 0)).setCell ⟨w.heap.size, 4, none⟩ (.slice none 0 0)).setCell ⟨w.heap.size, 5, none⟩ (.slice none 0 0)).setCell ⟨w.heap.size, 6, none⟩ (.slice none 0 0)).setCell ⟨w.heap.size, 7, none⟩ (.slice x2 m2 y2)).setCell ⟨w.heap.size, 8, none⟩ (.slice x3 m3 y3)).setCell ⟨w.heap.size, 9, none⟩ (.slice x4 m4 y4)).setCell ⟨w.heap.size, 10, none⟩ (.slice d1 e1 f1)).setCell ⟨w.heap.size, 11, none⟩ (.slice d2 e2 f2)).setCell ⟨w.heap.size, 12, none⟩ (.slice d3 e3 f3)) := ((((((((((((((Within.refl w.heap.size (w.heap.size + 1) w8).setCell (Nat.le_refl _) (by omega) 0 (.int .i64 vo)).setCell (Nat.le_refl _) (by omega) 1 (.slice ca cn cc)).setCell (Nat.le_refl _) (by omega) 2 (.slice none 0 0)).setCell (Nat.le_refl _) (by omega) 3 (.slice none 0 0)).setCell (Nat.le_refl _) (by omega) 4 (.slice none 0 0)).setCell (Nat.le_refl _) (by omega) 5 (.slice none 0 0)).setCell (Nat.le_refl _) (by omega) 6 (.slice none 0 0)).setCell (Nat.le_refl _) (by omega) 7 (.slice x2 m2 y2)).setCell (Nat.le_refl _) (by omega) 8 (.slice x3 m3 y3)).setCell (Nat.le_refl _) (by omega) 9 (.slice x4 m4 y4)).setCell (Nat.le_refl _) (by omega) 10 (.slice d1 e1 f1)).setCell (Nat.le_refl _) (by omega) 11 (.slice d2 e2 f2)).setCell (Nat.le_refl _) (by omega) 12 (.slice d3 e3 f3))
      refine bodyPost_ret (v := .tuple #[.agg #[.int .i64 vo, .slice ca cn cc, .slice none 0 0, .slice none 0 0, .slice none 0 0, .slice none 0 0, .slice none 0 0, .slice x2 m2 y2, .slice x3 m3 y3, .slice x4 m4 y4, .slice d1 e1 f1, .slice d2 e2 f2, .slice d3 e3 f3], .bool true]) (by simp [results, Try.results14, go_sem, t0, t1, t2, t3, t4, t5, t6, t7, t8, t9, t10, t11, t12]) rfl ⟨_, by rw [HBQ.out], ?_, HBF.out⟩
      rw [HV.out]
      have h9 := Kind.kept (K := kStageG) HSGF.out hwF (.inr (by omega))
      exact kStageG.own_mono h9 (by omega) (by simp only [size_setC]; omega)
end Go.Proofs.Ytbcaknmpbkapnaa
