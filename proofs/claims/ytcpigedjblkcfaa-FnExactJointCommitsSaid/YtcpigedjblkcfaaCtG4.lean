/- The greatest code of a contest: walks of the reference. -/
import Derived.Test.YtcpigedjblkcfaaCtG3
namespace Go.Proofs.Ytcpigedjblkcfaa
open Go.RowKit
set_option linter.unusedSimpArgs false
set_option linter.unusedVariables false

theorem addL_tab (a : Int) (n : Nat) (f : Nat → Int) : addL a (tab n f) = tab n (fun i => f i + a) := by simp [addL, tab]
theorem ctGr_one {o m : Nat} {p : Int} (ho : o ≤ 8) (hm : m ≤ o) : codeL 2 (markL o (tab m (fun i => (o : Int) - m + i))) = ctGr 1 o m p := by
  rw [markL_tab ho hm, ctGr_eq]; rfl
theorem ctGr_three {o m : Nat} {p : Int} : codeL ((o : Int) + 1) (addL 1 (tab m (fun i => (o : Int) - m + i))) = ctGr 3 o m p := by
  rw [addL_tab, ctGr_eq]
  have e : (fun i : Nat => (o : Int) - m + i + 1) = (fun i : Nat => (o : Int) - m + 1 + i) := funext fun i => by omega
  rw [e]; rfl
theorem ctGr_four {o m : Nat} {p : Int} : codeL 27 (addL 0 (tab m (fun _ => 26))) = ctGr 4 o m p := by rw [addL_zero, ctGr_eq]; rfl
theorem ctGr_two {o m : Nat} {p : Int} : codeL (p + 1) (addL 0 (scoreL p o m)) = ctGr 2 o m p := by rw [addL_zero, ctGr_eq]; rfl
theorem dig3 {o m : Nat} {p : Int} (h : CtN 3 o m p) : Digs (addL 1 (tab m (fun i => (o : Int) - m + i))) := by
  have e : addL 1 (tab m (fun i => (o : Int) - m + i)) = grD 3 o m p := by
    rw [addL_tab]
    have e : (fun i : Nat => (o : Int) - m + i + 1) = (fun i : Nat => (o : Int) - m + 1 + i) := funext fun i => by omega
    rw [e]; rfl
  rw [e]; exact h.digs
set_option maxHeartbeats 1000000 in
theorem spec_great1 (o m : Nat) (l p : Int) (w : World) (hN : CtN 1 o m p) :
    Calls Try.prog 223 #[.agg #[.int .i64 1, .int .i64 o, .int .i64 l, .int .i64 m, .int .i64 p]] w fun e w' => e = .returned (.int .i64 (ctGr 1 o m p)) ∧ Below w.heap.size w w' := by
  have HN := Lib.hid hN
  have ho8 := hN.o8; have hp0 := hN.p0; have hp5 := hN.p5; have hm40 := hN.m40
  have hmo : m ≤ o := hN.mo (by decide)
  have HDG := Lib.hid hN.digs
  have HBS := Lib.hid hN.base
  have HGR := Lib.hid (ctGr_eq 1 p o m)
  clear hN
  obtain ⟨W, hW⟩ : ∃ W, W = w.alloc (.cells #[.int .i64 1, .int .i64 o, .int .i64 l, .int .i64 m, .int .i64 p] 31) := ⟨_, rfl⟩
  have hsW : W.heap.size = w.heap.size + 1 := by rw [hW]; simp
  have HWB : Hid (Below w.heap.size w W) := by unfold Hid; rw [hW]; exact (Below.refl _ _).alloc (Nat.le_refl _) _
  have c0 : W.cell? ⟨w.heap.size, 0, none⟩ = some (.int .i64 1) := by rw [hW]; simp [go_sem]
  have c1 : W.cell? ⟨w.heap.size, 1, none⟩ = some (.int .i64 o) := by rw [hW]; simp [go_sem]
  have c2 : W.cell? ⟨w.heap.size, 2, none⟩ = some (.int .i64 l) := by rw [hW]; simp [go_sem]
  have c3 : W.cell? ⟨w.heap.size, 3, none⟩ = some (.int .i64 m) := by rw [hW]; simp [go_sem]
  have c4 : W.cell? ⟨w.heap.size, 4, none⟩ = some (.int .i64 p) := by rw [hW]; simp [go_sem]
  have hgW : w.heap.size < W.heap.size := by omega
  have HO0 : Hid (OwnI W W.heap.size (.slice none 0 0) []) := OwnI.nil _ _
  have e1 : IntKind.i64.wrap ((o : Int) - m) = (o : Int) - m := IntWalk.i64_in _ (by omega)
  go_enter Try.func223, Try.ntmps223
  go_wp2_with fail
  rw [← hW]
  clear hW
  go_wp2_with fail
  go_loopg [3, 4] m (fun g ov i wr => ∃ (t : Nat) (x : Int), t + g = m ∧ x = (o : Int) - m + t ∧ i = .int .i64 x ∧ OwnI wr W.heap.size ov (tab t (fun i => (o : Int) - m + i)) ∧ Below W.heap.size W wr)
  case atStart => exact ⟨0, (o : Int) - m, by omega, by omega, rfl, by rw [tab_zero]; exact HO0.out, Below.refl _ _⟩
  case round =>
    obtain ⟨t, x, hkg, hx, rfl, hO, hb⟩ := hrel
    replace c0 := cat_cell c0 hb hgW
    replace c1 := cat_cell c1 hb hgW
    replace c2 := cat_cell c2 hb hgW
    replace c3 := cat_cell c3 hb hgW
    replace c4 := cat_cell c4 hb hgW
    have hsr := hb.size
    by_cases hlt : t < m
    · have HS := Lib.hid (tab_succ t (fun i => (o : Int) - m + i))
      have HLN := Lib.hid (tab_length t (fun i => (o : Int) - m + i))
      obtain ⟨ao, co, rfl⟩ := hO.shape
      rw [HLN.out] at hO ⊢
      have HO := Lib.hid hO; clear hO
      have HX := Lib.hid hx
      have hwk : IntKind.i64.wrap (x + 1) = x + 1 := IntWalk.i64_in _ (by omega)
      have htest : decide (x < (o : Int)) = true := decide_eq_true (by omega)
      have hxb : -100 ≤ x ∧ x ≤ 100 := by omega
      clear hx
      go_wp2_with (at_builtin; refine wpList_append_ints rfl _ _ rfl W.heap.size _ _ (tab t (fun i => (o : Int) - m + i)) [x] rfl (HO.out.alloc _) rfl (Ints.lit1 _ ⟨by omega, by omega⟩) (by rw [HLN.out]; simp; omega) (by simp; omega) ?_; intro v5 w5 hown5 hgr5)
      have hb5 := (HO.out.alloc _).grown hgr5 (by simp; omega)
      have hb6 : Below W.heap.size W w5 := (hb.alloc hsr _).trans hb5
      go_roundg (m - (t + 1))
      case measure => omega
      case rel => exact ⟨t + 1, x + 1, by omega, by have := HX.out; omega, rfl, by rw [HS.out]; rw [← HX.out]; exact hown5, hb6⟩
    · obtain rfl : m = t := by omega
      have htest : decide (x < (o : Int)) = false := decide_eq_false (by omega)
      obtain ⟨ao, co, rfl⟩ := hO.shape
      have HO := Lib.hid hO; clear hO
      have HB := Lib.hid hb; clear hb
      clear hx
      go_wp2_with fail
      refine (spec_vCode1 o l m p _ (tab m (fun i => (o : Int) - m + i)) _ ho8 HO.out.ints (fun x hx => by obtain ⟨i, hi, rfl⟩ := tab_mem hx; omega)).mono ?_
      rintro e w1 ⟨rfl, hb1⟩
      go_wp2_with fail
      go_ret
      exact ⟨ret_int (ctGr_one ho8 hmo), Below.next HWB.out (HB.out.trans (hb1.mono hsr))⟩
set_option maxHeartbeats 1000000 in
theorem spec_great3 (o m : Nat) (l p : Int) (w : World) (hN : CtN 3 o m p) :
    Calls Try.prog 223 #[.agg #[.int .i64 3, .int .i64 o, .int .i64 l, .int .i64 m, .int .i64 p]] w fun e w' => e = .returned (.int .i64 (ctGr 3 o m p)) ∧ Below w.heap.size w w' := by
  have HN := Lib.hid hN
  have ho8 := hN.o8; have hp0 := hN.p0; have hp5 := hN.p5; have hm40 := hN.m40
  have hmo : m ≤ o := hN.mo (by decide)
  have HDG := Lib.hid hN.digs
  have HBS := Lib.hid hN.base
  have HGR := Lib.hid (ctGr_eq 3 p o m)
  clear hN
  obtain ⟨W, hW⟩ : ∃ W, W = w.alloc (.cells #[.int .i64 3, .int .i64 o, .int .i64 l, .int .i64 m, .int .i64 p] 31) := ⟨_, rfl⟩
  have hsW : W.heap.size = w.heap.size + 1 := by rw [hW]; simp
  have HWB : Hid (Below w.heap.size w W) := by unfold Hid; rw [hW]; exact (Below.refl _ _).alloc (Nat.le_refl _) _
  have c0 : W.cell? ⟨w.heap.size, 0, none⟩ = some (.int .i64 3) := by rw [hW]; simp [go_sem]
  have c1 : W.cell? ⟨w.heap.size, 1, none⟩ = some (.int .i64 o) := by rw [hW]; simp [go_sem]
  have c2 : W.cell? ⟨w.heap.size, 2, none⟩ = some (.int .i64 l) := by rw [hW]; simp [go_sem]
  have c3 : W.cell? ⟨w.heap.size, 3, none⟩ = some (.int .i64 m) := by rw [hW]; simp [go_sem]
  have c4 : W.cell? ⟨w.heap.size, 4, none⟩ = some (.int .i64 p) := by rw [hW]; simp [go_sem]
  have hgW : w.heap.size < W.heap.size := by omega
  have HO0 : Hid (OwnI W W.heap.size (.slice none 0 0) []) := OwnI.nil _ _
  have e1 : IntKind.i64.wrap ((o : Int) - m) = (o : Int) - m := IntWalk.i64_in _ (by omega)
  go_enter Try.func223, Try.ntmps223
  go_wp2_with fail
  rw [← hW]
  clear hW
  go_wp2_with fail
  go_loopg [3, 7] m (fun g ov i wr => ∃ (t : Nat) (x : Int), t + g = m ∧ x = (o : Int) - m + t ∧ i = .int .i64 x ∧ OwnI wr W.heap.size ov (tab t (fun i => (o : Int) - m + i)) ∧ Below W.heap.size W wr)
  case atStart => exact ⟨0, (o : Int) - m, by omega, by omega, rfl, by rw [tab_zero]; exact HO0.out, Below.refl _ _⟩
  case round =>
    obtain ⟨t, x, hkg, hx, rfl, hO, hb⟩ := hrel
    replace c0 := cat_cell c0 hb hgW
    replace c1 := cat_cell c1 hb hgW
    replace c2 := cat_cell c2 hb hgW
    replace c3 := cat_cell c3 hb hgW
    replace c4 := cat_cell c4 hb hgW
    have hsr := hb.size
    by_cases hlt : t < m
    · have HS := Lib.hid (tab_succ t (fun i => (o : Int) - m + i))
      have HLN := Lib.hid (tab_length t (fun i => (o : Int) - m + i))
      obtain ⟨ao, co, rfl⟩ := hO.shape
      rw [HLN.out] at hO ⊢
      have HO := Lib.hid hO; clear hO
      have HX := Lib.hid hx
      have hwk : IntKind.i64.wrap (x + 1) = x + 1 := IntWalk.i64_in _ (by omega)
      have htest : decide (x < (o : Int)) = true := decide_eq_true (by omega)
      have hxb : -100 ≤ x ∧ x ≤ 100 := by omega
      clear hx
      go_wp2_with (at_builtin; refine wpList_append_ints rfl _ _ rfl W.heap.size _ _ (tab t (fun i => (o : Int) - m + i)) [x] rfl (HO.out.alloc _) rfl (Ints.lit1 _ ⟨by omega, by omega⟩) (by rw [HLN.out]; simp; omega) (by simp; omega) ?_; intro v5 w5 hown5 hgr5)
      have hb5 := (HO.out.alloc _).grown hgr5 (by simp; omega)
      have hb6 : Below W.heap.size W w5 := (hb.alloc hsr _).trans hb5
      go_roundg (m - (t + 1))
      case measure => omega
      case rel => exact ⟨t + 1, x + 1, by omega, by have := HX.out; omega, rfl, by rw [HS.out]; rw [← HX.out]; exact hown5, hb6⟩
    · obtain rfl : m = t := by omega
      have htest : decide (x < (o : Int)) = false := decide_eq_false (by omega)
      obtain ⟨ao, co, rfl⟩ := hO.shape
      have HO := Lib.hid hO; clear hO
      have HB := Lib.hid hb; clear hb
      clear hx
      go_wp2_with fail
      refine (spec_vCode3 o l m p _ (tab m (fun i => (o : Int) - m + i)) _ ho8 hp0 hp5 HO.out.ints (fun x hx => by obtain ⟨i, hi, rfl⟩ := tab_mem hx; omega) (dig3 HN.out)).mono ?_
      rintro e w1 ⟨rfl, hb1⟩
      go_wp2_with fail
      go_ret
      exact ⟨ret_int ctGr_three, Below.next HWB.out (HB.out.trans (hb1.mono hsr))⟩
set_option maxHeartbeats 1000000 in
theorem spec_great4 (o m : Nat) (l p : Int) (w : World) (hN : CtN 4 o m p) :
    Calls Try.prog 223 #[.agg #[.int .i64 4, .int .i64 o, .int .i64 l, .int .i64 m, .int .i64 p]] w fun e w' => e = .returned (.int .i64 (ctGr 4 o m p)) ∧ Below w.heap.size w w' := by
  have HN := Lib.hid hN
  have ho8 := hN.o8; have hp0 := hN.p0; have hp5 := hN.p5; have hm40 := hN.m40
  have hmo : m ≤ 5 := hN.m4 rfl
  have HDG := Lib.hid hN.digs
  have HBS := Lib.hid hN.base
  have HGR := Lib.hid (ctGr_eq 4 p o m)
  clear hN
  obtain ⟨W, hW⟩ : ∃ W, W = w.alloc (.cells #[.int .i64 4, .int .i64 o, .int .i64 l, .int .i64 m, .int .i64 p] 31) := ⟨_, rfl⟩
  have hsW : W.heap.size = w.heap.size + 1 := by rw [hW]; simp
  have HWB : Hid (Below w.heap.size w W) := by unfold Hid; rw [hW]; exact (Below.refl _ _).alloc (Nat.le_refl _) _
  have c0 : W.cell? ⟨w.heap.size, 0, none⟩ = some (.int .i64 4) := by rw [hW]; simp [go_sem]
  have c1 : W.cell? ⟨w.heap.size, 1, none⟩ = some (.int .i64 o) := by rw [hW]; simp [go_sem]
  have c2 : W.cell? ⟨w.heap.size, 2, none⟩ = some (.int .i64 l) := by rw [hW]; simp [go_sem]
  have c3 : W.cell? ⟨w.heap.size, 3, none⟩ = some (.int .i64 m) := by rw [hW]; simp [go_sem]
  have c4 : W.cell? ⟨w.heap.size, 4, none⟩ = some (.int .i64 p) := by rw [hW]; simp [go_sem]
  have hgW : w.heap.size < W.heap.size := by omega
  have HO0 : Hid (OwnI W W.heap.size (.slice none 0 0) []) := OwnI.nil _ _
  have e1 : IntKind.i64.wrap ((o : Int) - m) = (o : Int) - m := IntWalk.i64_in _ (by omega)
  go_enter Try.func223, Try.ntmps223
  go_wp2_with fail
  rw [← hW]
  clear hW
  go_wp2_with fail
  go_loopg [3, 8] m (fun g ov i wr => ∃ (t : Nat) (x : Int), t + g = m ∧ x = t ∧ i = .int .i64 x ∧ OwnI wr W.heap.size ov (tab t (fun _ => 26)) ∧ Below W.heap.size W wr)
  case atStart => exact ⟨0, 0, by omega, by omega, rfl, by rw [tab_zero]; exact HO0.out, Below.refl _ _⟩
  case round =>
    obtain ⟨t, x, hkg, hx, rfl, hO, hb⟩ := hrel
    replace c0 := cat_cell c0 hb hgW
    replace c1 := cat_cell c1 hb hgW
    replace c2 := cat_cell c2 hb hgW
    replace c3 := cat_cell c3 hb hgW
    replace c4 := cat_cell c4 hb hgW
    have hsr := hb.size
    by_cases hlt : t < m
    · have HS := Lib.hid (tab_succ t (fun _ => 26))
      have HLN := Lib.hid (tab_length t (fun _ => 26))
      obtain ⟨ao, co, rfl⟩ := hO.shape
      rw [HLN.out] at hO ⊢
      have HO := Lib.hid hO; clear hO
      have HX := Lib.hid hx
      have hwk : IntKind.i64.wrap (x + 1) = x + 1 := IntWalk.i64_in _ (by omega)
      have htest : decide (x < (m : Int)) = true := decide_eq_true (by omega)
      have hxb : -100 ≤ x ∧ x ≤ 100 := by omega
      clear hx
      go_wp2_with (at_builtin; refine wpList_append_ints rfl _ _ rfl W.heap.size _ _ (tab t (fun _ => 26)) [26] rfl (HO.out.alloc _) rfl (Ints.lit1 _ ⟨by omega, by omega⟩) (by rw [HLN.out]; simp; omega) (by simp; omega) ?_; intro v5 w5 hown5 hgr5)
      have hb5 := (HO.out.alloc _).grown hgr5 (by simp; omega)
      have hb6 : Below W.heap.size W w5 := (hb.alloc hsr _).trans hb5
      go_roundg (m - (t + 1))
      case measure => omega
      case rel => exact ⟨t + 1, x + 1, by omega, by have := HX.out; omega, rfl, by rw [HS.out]; exact hown5, hb6⟩
    · obtain rfl : m = t := by omega
      have htest : decide (x < (m : Int)) = false := decide_eq_false (by omega)
      obtain ⟨ao, co, rfl⟩ := hO.shape
      have HO := Lib.hid hO; clear hO
      have HB := Lib.hid hb; clear hb
      clear hx
      go_wp2_with fail
      refine (spec_vCode4 o l m p _ (tab m (fun _ => 26)) _ ho8 hp0 hp5 HO.out.ints (fun x hx => by obtain ⟨i, hi, rfl⟩ := tab_mem hx; omega) (by rw [addL_zero]; exact HN.out.digs)).mono ?_
      rintro e w1 ⟨rfl, hb1⟩
      go_wp2_with fail
      go_ret
      exact ⟨ret_int ctGr_four, Below.next HWB.out (HB.out.trans (hb1.mono hsr))⟩
set_option maxHeartbeats 1000000 in
theorem spec_great2 (o m : Nat) (l p : Int) (w : World) (hN : CtN 2 o m p) :
    Calls Try.prog 223 #[.agg #[.int .i64 2, .int .i64 o, .int .i64 l, .int .i64 m, .int .i64 p]] w fun e w' => e = .returned (.int .i64 (ctGr 2 o m p)) ∧ Below w.heap.size w w' := by
  have HN := Lib.hid hN
  have ho8 := hN.o8; have hp0 := hN.p0; have hp5 := hN.p5; have hm40 := hN.m40
  have hmo : m ≤ 40 := hN.m40
  have HDG := Lib.hid hN.digs
  have HBS := Lib.hid hN.base
  have HGR := Lib.hid (ctGr_eq 2 p o m)
  clear hN
  obtain ⟨W, hW⟩ : ∃ W, W = w.alloc (.cells #[.int .i64 2, .int .i64 o, .int .i64 l, .int .i64 m, .int .i64 p] 31) := ⟨_, rfl⟩
  have hsW : W.heap.size = w.heap.size + 1 := by rw [hW]; simp
  have HWB : Hid (Below w.heap.size w W) := by unfold Hid; rw [hW]; exact (Below.refl _ _).alloc (Nat.le_refl _) _
  have c0 : W.cell? ⟨w.heap.size, 0, none⟩ = some (.int .i64 2) := by rw [hW]; simp [go_sem]
  have c1 : W.cell? ⟨w.heap.size, 1, none⟩ = some (.int .i64 o) := by rw [hW]; simp [go_sem]
  have c2 : W.cell? ⟨w.heap.size, 2, none⟩ = some (.int .i64 l) := by rw [hW]; simp [go_sem]
  have c3 : W.cell? ⟨w.heap.size, 3, none⟩ = some (.int .i64 m) := by rw [hW]; simp [go_sem]
  have c4 : W.cell? ⟨w.heap.size, 4, none⟩ = some (.int .i64 p) := by rw [hW]; simp [go_sem]
  have hgW : w.heap.size < W.heap.size := by omega
  have hmk := fun u => run_make_row' (P := Try.prog) 38 3 (.int .i64 0) 8 Try.underlying38 info_int rfl .i64 .i64 o (by omega) (by omega) u
  have HEQ : Hid (scoreL p o m = grD 2 o m p) := by unfold Hid grD; rfl
  obtain ⟨V, hV⟩ : ∃ V, V = W := ⟨_, rfl⟩
  have hsV : V.heap.size = w.heap.size + 1 := by rw [hV]; simp [hsW]
  have HVB : Hid (Below W.heap.size W V) := by unfold Hid; rw [hV]; exact Below.refl _ _
  have H0 : Hid (OwnI (V.alloc (.cells (madeCells #[.int .i64 0] o) 3)) V.heap.size (.slice (some ⟨V.heap.size, 0, none⟩) o o) (List.replicate o 0)) := zeros_own V o (by omega)
  have e1 : IntKind.i64.wrap ((o : Int) - 1) = (o : Int) - 1 := IntWalk.i64_in _ (by omega)
  go_enter Try.func223, Try.ntmps223
  go_wp2_with fail
  rw [← hW]
  clear hW
  go_wp2_with fail
  rw [← hV]
  go_wp2_with fail
  go_loopg [5, 6] o (fun g rv i wr => ∃ (t : Nat) (x r : Int) (S : List Int), t = g ∧ t ≤ o ∧ x = (t : Int) - 1 ∧ i = .int .i64 x ∧ rv = .int .i64 r ∧ 0 ≤ r ∧ r ≤ 40 ∧ OwnI wr V.heap.size (.slice (some ⟨V.heap.size, 0, none⟩) o o) (List.replicate t 0 ++ S) ∧ Hid (scoreL p t r ++ S = scoreL p o m) ∧ Below V.heap.size V wr)
  case atStart =>
    refine ⟨o, (o : Int) - 1, m, [], rfl, Nat.le_refl _, rfl, rfl, rfl, by omega, by omega, ?_, by unfold Hid; simp, by first | exact (Below.refl _ _).alloc (Nat.le_refl _) _⟩
    rw [List.append_nil]
    exact H0.out
  case round =>
    obtain ⟨t, x, r, S, htg, hto, hx, rfl, rfl, hr0, hr1, hO, HF, hb⟩ := hrel
    have HBW : Hid (Below W.heap.size W wr) := HVB.out.trans (hb.mono HVB.out.size)
    replace c0 := cat_cell c0 HBW.out hgW
    replace c1 := cat_cell c1 HBW.out hgW
    replace c2 := cat_cell c2 HBW.out hgW
    replace c3 := cat_cell c3 HBW.out hgW
    replace c4 := cat_cell c4 HBW.out hgW
    have hsr := hb.size
    clear hmk
    rcases t with _ | j
    · obtain rfl : x = -1 := by omega
      clear htg hx
      have HSX : Hid (S = grD 2 o m p) := by have := HF.out; rw [scoreL, List.nil_append, HEQ.out] at this; exact this
      rw [List.replicate_zero, List.nil_append, HSX.out, hsV] at hO
      have HO := Lib.hid hO; clear hO
      have HB := HBW; clear hb
      have hsB := HB.out.size
      go_wp2_with fail
      refine (spec_vCode2 o l m p _ (grD 2 o m p) _ ho8 hp0 hp5 HO.out.ints (fun x hx => (HDG.out.2 x hx).1) (by rw [addL_zero]; exact HDG.out)).mono ?_
      rintro e w1 ⟨rfl, hb1⟩
      go_wp2_with fail
      go_ret
      exact ⟨ret_int (by rw [← HEQ.out]; exact ctGr_two), Below.next HWB.out (HB.out.trans (hb1.mono hsB))⟩
    · obtain rfl : x = (j : Int) := by omega
      have HJG : Hid (j < _) := Nat.lt_of_succ_le (Nat.le_of_eq htg)
      clear htg hx
      have hSl : S.length + (j + 1) = o := by
        have := congrArg List.length HF.out
        rw [List.length_append, scoreL_length, scoreL_length] at this; omega
      obtain ⟨y, hy⟩ : ∃ y, y = min r p := ⟨_, rfl⟩
      have hy0 : 0 ≤ y := by omega
      have hy1 : y ≤ r := by omega
      have HS : Hid (scoreL p j (r - y) ++ (y :: S) = scoreL p o m) := by
        have := HF.out; unfold Hid; rw [scoreL, ← hy, List.append_assoc] at this; exact this
      have hset : (List.replicate (j + 1) 0 ++ S).set j y = List.replicate j 0 ++ (y :: S) := by
        rw [List.replicate_succ', List.append_assoc, List.set_append, if_neg (by simp)]; simp
      obtain ⟨g', hg', hgB, hml, hc⟩ := hO.at_ (by simp; omega)
      obtain ⟨hz, hf⟩ := hc j (by omega)
      cases hg'
      have hst := hO.stored hml j (x := y) ⟨by omega, by omega⟩
      rw [hset] at hst
      have HT := Lib.hid hst
      have e3 : IntKind.i64.wrap ((j : Int) - 1) = (j : Int) - 1 := IntWalk.i64_in _ (by omega)
      generalize nth (List.replicate (j + 1) 0 ++ S) j = z at hz
      rw [hsV] at hz hf
      clear hc hst hml hO hset HF
      have HY := Lib.hid hy; clear hy
      have e2 : IntKind.i64.wrap (r - y) = r - y := IntWalk.i64_in _ (by omega)
      go_wp2_with fail
      refine (spec_l1Least r p _).mono ?_
      rintro e w1 ⟨rfl, rfl⟩
      rw [← HY.out]
      go_wp2_with fail
      go_roundg j
      case measure => exact HJG.out
      case rel =>
        refine ⟨j, (j : Int) - 1, r - y, y :: S, rfl, by omega, by omega, rfl, rfl, by omega, by omega, ?_, HS.out, ?_⟩
        · rw [← hsV]; exact HT.out.1
        · rw [← hsV]; exact hb.setCell (Nat.le_refl _) _
end Go.Proofs.Ytcpigedjblkcfaa
