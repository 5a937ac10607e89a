/- The greatest code of a contest: walks of the program and of the reference. -/
import Derived.Test.YtcpigedjblkcfaaCtG2
namespace Go.Proofs.Ytcpigedjblkcfaa
open Go.RowKit
set_option linter.unusedSimpArgs false
set_option linter.unusedVariables false

theorem cat_cell {w w' : World} {B b o : Nat} {x : Value} (h : w.cell? ⟨b, o, none⟩ = some x) (hb : Below B w w') (hB : b < B) : w'.cell? ⟨b, o, none⟩ = some x := by
  rw [(bcell hb).1 b o hB]; exact h
set_option maxHeartbeats 1000000 in
theorem impl_great1 (o m : Nat) (l p : Int) (w : World) (hN : CtN 1 o m p) :
    Calls Try.prog 227 #[.agg #[.int .i64 1, .int .i64 o, .int .i64 l, .int .i64 m, .int .i64 p]] w fun e w' => e = .returned (.int .i64 (ctGr 1 o m p)) ∧ Below w.heap.size w w' := by
  have HN := Lib.hid hN
  have ho8 := hN.o8; have hp0 := hN.p0; have hp5 := hN.p5; have hm40 := hN.m40
  have hmo : m ≤ o := hN.mo (by decide)
  have HDG := Lib.hid hN.digs
  have HBS := Lib.hid hN.base
  have HGR := Lib.hid (ctGr_eq 1 p o m)
  clear hN
  obtain ⟨W, hW⟩ : ∃ W, W = w.alloc (.cells #[.int .i64 1, .int .i64 o, .int .i64 l, .int .i64 m, .int .i64 p] 31) := ⟨_, rfl⟩
  have hsW : W.heap.size = w.heap.size + 1 := by rw [hW]; simp
  have HWB : Hid (Below w.heap.size w W) := by unfold Hid; rw [hW]; exact (Below.refl _ _).alloc (Nat.le_refl _) _
  have c0 : W.cell? ⟨w.heap.size, 0, none⟩ = some (.int .i64 1) := by rw [hW]; simp [go_sem]
  have c1 : W.cell? ⟨w.heap.size, 1, none⟩ = some (.int .i64 o) := by rw [hW]; simp [go_sem]
  have c2 : W.cell? ⟨w.heap.size, 2, none⟩ = some (.int .i64 l) := by rw [hW]; simp [go_sem]
  have c3 : W.cell? ⟨w.heap.size, 3, none⟩ = some (.int .i64 m) := by rw [hW]; simp [go_sem]
  have c4 : W.cell? ⟨w.heap.size, 4, none⟩ = some (.int .i64 p) := by rw [hW]; simp [go_sem]
  have hgW : w.heap.size < W.heap.size := by omega
  have HO0 : Hid (OwnI (W.alloc (.cells #[] 3)) W.heap.size (.slice (some ⟨W.heap.size, 0, none⟩) 0 0) []) := OwnI.lit W (Nat.le_refl _) AllI64.nil rfl (by simp) 0 rfl
  have HEQ : Hid (tab o (fun i => if (o : Int) - m ≤ i then 1 else 0) = grD 1 o m p) := by unfold Hid grD; rfl
  have e1 : IntKind.i64.wrap ((o : Int) - m) = (o : Int) - m := IntWalk.i64_in _ (by omega)
  have e2 : IntKind.i64.wrap ((o : Int) - m + 1) = (o : Int) - m + 1 := IntWalk.i64_in _ (by omega)
  go_enter Try.func227, Try.ntmps227
  go_wp2_with fail
  rw [← hW]
  clear hW
  go_wp2_with fail
  go_loopg [3, 24] o (fun g ov i wr => ∃ t : Nat, t + g = o ∧ i = .int .i64 t ∧ OwnI wr W.heap.size ov (tab t (fun i => if (o : Int) - m ≤ i then 1 else 0)) ∧ Below W.heap.size W wr)
  case atStart => exact ⟨0, by omega, rfl, by rw [tab_zero, ← hsW]; exact HO0.out, (Below.refl _ _).alloc (Nat.le_refl _) _⟩
  case round =>
    obtain ⟨t, hkg, rfl, hO, hb⟩ := hrel
    replace c0 := cat_cell c0 hb hgW
    replace c1 := cat_cell c1 hb hgW
    replace c2 := cat_cell c2 hb hgW
    replace c3 := cat_cell c3 hb hgW
    replace c4 := cat_cell c4 hb hgW
    have hsr := hb.size
    by_cases hlt : t < o
    · have HS := Lib.hid (tab_succ t (fun i => if (o : Int) - m ≤ i then 1 else 0))
      have HLN := Lib.hid (tab_length t (fun i => if (o : Int) - m ≤ i then 1 else 0))
      obtain ⟨ao, co, rfl⟩ := hO.shape
      rw [HLN.out] at hO ⊢
      have HO := Lib.hid hO; clear hO
      have hwk : IntKind.i64.wrap ((t : Int) + 1) = (t : Int) + 1 := IntWalk.i64_in _ (by omega)
      by_cases hc : (o : Int) - m ≤ t
      · have HI : Hid ((if (o : Int) - m ≤ ((t : Nat) : Int) then (1 : Int) else 0) = 1) := if_pos hc
        go_wp2_with (at_builtin; refine wpList_append_ints rfl _ _ rfl W.heap.size _ _ (tab t (fun i => if (o : Int) - m ≤ i then 1 else 0)) [1] rfl (HO.out.alloc _) rfl (Ints.lit1 _ ⟨by omega, by omega⟩) (by rw [HLN.out]; simp; omega) (by simp; omega) ?_; intro v5 w5 hown5 hgr5)
        have hb5 := (HO.out.alloc _).grown hgr5 (by simp; omega)
        have hb6 : Below W.heap.size W w5 := (hb.alloc hsr _).trans hb5
        go_roundg (o - (t + 1))
        case measure => omega
        case rel => exact ⟨t + 1, by omega, by go_num, by rw [HS.out, HI.out]; exact hown5, hb6⟩
      · have HI : Hid ((if (o : Int) - m ≤ ((t : Nat) : Int) then (1 : Int) else 0) = 0) := if_neg hc
        go_wp2_with (at_builtin; refine wpList_append_ints rfl _ _ rfl W.heap.size _ _ (tab t (fun i => if (o : Int) - m ≤ i then 1 else 0)) [0] rfl (HO.out.alloc _) rfl (Ints.lit1 _ ⟨by omega, by omega⟩) (by rw [HLN.out]; simp; omega) (by simp; omega) ?_; intro v5 w5 hown5 hgr5)
        have hb5 := (HO.out.alloc _).grown hgr5 (by simp; omega)
        have hb6 : Below W.heap.size W w5 := (hb.alloc hsr _).trans hb5
        go_roundg (o - (t + 1))
        case measure => omega
        case rel => exact ⟨t + 1, by omega, by go_num, by rw [HS.out, HI.out]; exact hown5, hb6⟩
    · obtain rfl : o = t := by omega
      rw [HEQ.out] at hO
      obtain ⟨ao, co, rfl⟩ := hO.shape
      have HO := Lib.hid hO; clear hO
      have HB := Lib.hid hb; clear hb
      go_wp2_with fail
      refine (impl_base 1 o l m p _ (by omega) (by omega) hp0 hp5).mono ?_
      rintro e w1 ⟨rfl, hb1⟩
      go_wp2_with fail
      refine (impl_codeOf _ _ _ _ (HO.out.ints.below hb1) HDG.out (fun x hx => (HDG.out.2 x hx).1) HBS.out.1 HBS.out.2).mono ?_
      rintro e w2 ⟨rfl, rfl⟩
      go_wp2_with fail
      go_ret
      exact ⟨ret_int HGR.out.symm, Below.next HWB.out (HB.out.trans (hb1.mono hsr))⟩
set_option maxHeartbeats 1000000 in
theorem impl_great3 (o m : Nat) (l p : Int) (w : World) (hN : CtN 3 o m p) :
    Calls Try.prog 227 #[.agg #[.int .i64 3, .int .i64 o, .int .i64 l, .int .i64 m, .int .i64 p]] w fun e w' => e = .returned (.int .i64 (ctGr 3 o m p)) ∧ Below w.heap.size w w' := by
  have HN := Lib.hid hN
  have ho8 := hN.o8; have hp0 := hN.p0; have hp5 := hN.p5; have hm40 := hN.m40
  have hmo : m ≤ o := hN.mo (by decide)
  have HDG := Lib.hid hN.digs
  have HBS := Lib.hid hN.base
  have HGR := Lib.hid (ctGr_eq 3 p o m)
  clear hN
  obtain ⟨W, hW⟩ : ∃ W, W = w.alloc (.cells #[.int .i64 3, .int .i64 o, .int .i64 l, .int .i64 m, .int .i64 p] 31) := ⟨_, rfl⟩
  have hsW : W.heap.size = w.heap.size + 1 := by rw [hW]; simp
  have HWB : Hid (Below w.heap.size w W) := by unfold Hid; rw [hW]; exact (Below.refl _ _).alloc (Nat.le_refl _) _
  have c0 : W.cell? ⟨w.heap.size, 0, none⟩ = some (.int .i64 3) := by rw [hW]; simp [go_sem]
  have c1 : W.cell? ⟨w.heap.size, 1, none⟩ = some (.int .i64 o) := by rw [hW]; simp [go_sem]
  have c2 : W.cell? ⟨w.heap.size, 2, none⟩ = some (.int .i64 l) := by rw [hW]; simp [go_sem]
  have c3 : W.cell? ⟨w.heap.size, 3, none⟩ = some (.int .i64 m) := by rw [hW]; simp [go_sem]
  have c4 : W.cell? ⟨w.heap.size, 4, none⟩ = some (.int .i64 p) := by rw [hW]; simp [go_sem]
  have hgW : w.heap.size < W.heap.size := by omega
  have HO0 : Hid (OwnI (W.alloc (.cells #[] 3)) W.heap.size (.slice (some ⟨W.heap.size, 0, none⟩) 0 0) []) := OwnI.lit W (Nat.le_refl _) AllI64.nil rfl (by simp) 0 rfl
  have HEQ : Hid (tab m (fun i => (o : Int) - m + 1 + i) = grD 3 o m p) := by unfold Hid grD; rfl
  have e1 : IntKind.i64.wrap ((o : Int) - m) = (o : Int) - m := IntWalk.i64_in _ (by omega)
  have e2 : IntKind.i64.wrap ((o : Int) - m + 1) = (o : Int) - m + 1 := IntWalk.i64_in _ (by omega)
  go_enter Try.func227, Try.ntmps227
  go_wp2_with fail
  rw [← hW]
  clear hW
  go_wp2_with fail
  go_loopg [3, 70] m (fun g ov i wr => ∃ t : Nat, t + g = m ∧ i = .int .i64 t ∧ OwnI wr W.heap.size ov (tab t (fun i => (o : Int) - m + 1 + i)) ∧ Below W.heap.size W wr)
  case atStart => exact ⟨0, by omega, rfl, by rw [tab_zero, ← hsW]; exact HO0.out, (Below.refl _ _).alloc (Nat.le_refl _) _⟩
  case round =>
    obtain ⟨t, hkg, rfl, hO, hb⟩ := hrel
    replace c0 := cat_cell c0 hb hgW
    replace c1 := cat_cell c1 hb hgW
    replace c2 := cat_cell c2 hb hgW
    replace c3 := cat_cell c3 hb hgW
    replace c4 := cat_cell c4 hb hgW
    have hsr := hb.size
    by_cases hlt : t < m
    · have HS := Lib.hid (tab_succ t (fun i => (o : Int) - m + 1 + i))
      have HLN := Lib.hid (tab_length t (fun i => (o : Int) - m + 1 + i))
      obtain ⟨ao, co, rfl⟩ := hO.shape
      rw [HLN.out] at hO ⊢
      have HO := Lib.hid hO; clear hO
      have hwk : IntKind.i64.wrap ((t : Int) + 1) = (t : Int) + 1 := IntWalk.i64_in _ (by omega)
      have e3 : IntKind.i64.wrap ((o : Int) - m + 1 + t) = (o : Int) - m + 1 + t := IntWalk.i64_in _ (by omega)
      go_wp2_with (at_builtin; refine wpList_append_ints rfl _ _ rfl W.heap.size _ _ (tab t (fun i => (o : Int) - m + 1 + i)) [(o : Int) - m + 1 + t] rfl (HO.out.alloc _) rfl (Ints.lit1 _ ⟨by omega, by omega⟩) (by rw [HLN.out]; simp; omega) (by simp; omega) ?_; intro v5 w5 hown5 hgr5)
      have hb5 := (HO.out.alloc _).grown hgr5 (by simp; omega)
      have hb6 : Below W.heap.size W w5 := (hb.alloc hsr _).trans hb5
      go_roundg (m - (t + 1))
      case measure => omega
      case rel => exact ⟨t + 1, by omega, by go_num, by rw [HS.out]; exact hown5, hb6⟩
    · obtain rfl : m = t := by omega
      rw [HEQ.out] at hO
      obtain ⟨ao, co, rfl⟩ := hO.shape
      have HO := Lib.hid hO; clear hO
      have HB := Lib.hid hb; clear hb
      go_wp2_with fail
      refine (impl_base 3 o l m p _ (by omega) (by omega) hp0 hp5).mono ?_
      rintro e w1 ⟨rfl, hb1⟩
      go_wp2_with fail
      refine (impl_codeOf _ _ _ _ (HO.out.ints.below hb1) HDG.out (fun x hx => (HDG.out.2 x hx).1) HBS.out.1 HBS.out.2).mono ?_
      rintro e w2 ⟨rfl, rfl⟩
      go_wp2_with fail
      go_ret
      exact ⟨ret_int HGR.out.symm, Below.next HWB.out (HB.out.trans (hb1.mono hsr))⟩
set_option maxHeartbeats 1000000 in
theorem impl_great4 (o m : Nat) (l p : Int) (w : World) (hN : CtN 4 o m p) :
    Calls Try.prog 227 #[.agg #[.int .i64 4, .int .i64 o, .int .i64 l, .int .i64 m, .int .i64 p]] w fun e w' => e = .returned (.int .i64 (ctGr 4 o m p)) ∧ Below w.heap.size w w' := by
  have HN := Lib.hid hN
  have ho8 := hN.o8; have hp0 := hN.p0; have hp5 := hN.p5; have hm40 := hN.m40
  have hmo : m ≤ 5 := hN.m4 rfl
  have HDG := Lib.hid hN.digs
  have HBS := Lib.hid hN.base
  have HGR := Lib.hid (ctGr_eq 4 p o m)
  clear hN
  obtain ⟨W, hW⟩ : ∃ W, W = w.alloc (.cells #[.int .i64 4, .int .i64 o, .int .i64 l, .int .i64 m, .int .i64 p] 31) := ⟨_, rfl⟩
  have hsW : W.heap.size = w.heap.size + 1 := by rw [hW]; simp
  have HWB : Hid (Below w.heap.size w W) := by unfold Hid; rw [hW]; exact (Below.refl _ _).alloc (Nat.le_refl _) _
  have c0 : W.cell? ⟨w.heap.size, 0, none⟩ = some (.int .i64 4) := by rw [hW]; simp [go_sem]
  have c1 : W.cell? ⟨w.heap.size, 1, none⟩ = some (.int .i64 o) := by rw [hW]; simp [go_sem]
  have c2 : W.cell? ⟨w.heap.size, 2, none⟩ = some (.int .i64 l) := by rw [hW]; simp [go_sem]
  have c3 : W.cell? ⟨w.heap.size, 3, none⟩ = some (.int .i64 m) := by rw [hW]; simp [go_sem]
  have c4 : W.cell? ⟨w.heap.size, 4, none⟩ = some (.int .i64 p) := by rw [hW]; simp [go_sem]
  have hgW : w.heap.size < W.heap.size := by omega
  have HO0 : Hid (OwnI (W.alloc (.cells #[] 3)) W.heap.size (.slice (some ⟨W.heap.size, 0, none⟩) 0 0) []) := OwnI.lit W (Nat.le_refl _) AllI64.nil rfl (by simp) 0 rfl
  have HEQ : Hid (tab m (fun _ => 26) = grD 4 o m p) := by unfold Hid grD; rfl
  have e1 : IntKind.i64.wrap ((o : Int) - m) = (o : Int) - m := IntWalk.i64_in _ (by omega)
  have e2 : IntKind.i64.wrap ((o : Int) - m + 1) = (o : Int) - m + 1 := IntWalk.i64_in _ (by omega)
  go_enter Try.func227, Try.ntmps227
  go_wp2_with fail
  rw [← hW]
  clear hW
  go_wp2_with fail
  go_loopg [3, 14] m (fun g ov i wr => ∃ t : Nat, t + g = m ∧ i = .int .i64 t ∧ OwnI wr W.heap.size ov (tab t (fun _ => 26)) ∧ Below W.heap.size W wr)
  case atStart => exact ⟨0, by omega, rfl, by rw [tab_zero, ← hsW]; exact HO0.out, (Below.refl _ _).alloc (Nat.le_refl _) _⟩
  case round =>
    obtain ⟨t, hkg, rfl, hO, hb⟩ := hrel
    replace c0 := cat_cell c0 hb hgW
    replace c1 := cat_cell c1 hb hgW
    replace c2 := cat_cell c2 hb hgW
    replace c3 := cat_cell c3 hb hgW
    replace c4 := cat_cell c4 hb hgW
    have hsr := hb.size
    by_cases hlt : t < m
    · have HS := Lib.hid (tab_succ t (fun _ => 26))
      have HLN := Lib.hid (tab_length t (fun _ => 26))
      obtain ⟨ao, co, rfl⟩ := hO.shape
      rw [HLN.out] at hO ⊢
      have HO := Lib.hid hO; clear hO
      have hwk : IntKind.i64.wrap ((t : Int) + 1) = (t : Int) + 1 := IntWalk.i64_in _ (by omega)
      go_wp2_with (at_builtin; refine wpList_append_ints rfl _ _ rfl W.heap.size _ _ (tab t (fun _ => 26)) [26] rfl (HO.out.alloc _) rfl (Ints.lit1 _ ⟨by omega, by omega⟩) (by rw [HLN.out]; simp; omega) (by simp; omega) ?_; intro v5 w5 hown5 hgr5)
      have hb5 := (HO.out.alloc _).grown hgr5 (by simp; omega)
      have hb6 : Below W.heap.size W w5 := (hb.alloc hsr _).trans hb5
      go_roundg (m - (t + 1))
      case measure => omega
      case rel => exact ⟨t + 1, by omega, by go_num, by rw [HS.out]; exact hown5, hb6⟩
    · obtain rfl : m = t := by omega
      rw [HEQ.out] at hO
      obtain ⟨ao, co, rfl⟩ := hO.shape
      have HO := Lib.hid hO; clear hO
      have HB := Lib.hid hb; clear hb
      go_wp2_with fail
      refine (impl_base 4 o l m p _ (by omega) (by omega) hp0 hp5).mono ?_
      rintro e w1 ⟨rfl, hb1⟩
      go_wp2_with fail
      refine (impl_codeOf _ _ _ _ (HO.out.ints.below hb1) HDG.out (fun x hx => (HDG.out.2 x hx).1) HBS.out.1 HBS.out.2).mono ?_
      rintro e w2 ⟨rfl, rfl⟩
      go_wp2_with fail
      go_ret
      exact ⟨ret_int HGR.out.symm, Below.next HWB.out (HB.out.trans (hb1.mono hsr))⟩
set_option maxHeartbeats 1000000 in
theorem impl_great2 (o m : Nat) (l p : Int) (w : World) (hN : CtN 2 o m p) :
    Calls Try.prog 227 #[.agg #[.int .i64 2, .int .i64 o, .int .i64 l, .int .i64 m, .int .i64 p]] w fun e w' => e = .returned (.int .i64 (ctGr 2 o m p)) ∧ Below w.heap.size w w' := by
  have HN := Lib.hid hN
  have ho8 := hN.o8; have hp0 := hN.p0; have hp5 := hN.p5; have hm40 := hN.m40
  have hmo : m ≤ 40 := hN.m40
  have HDG := Lib.hid hN.digs
  have HBS := Lib.hid hN.base
  have HGR := Lib.hid (ctGr_eq 2 p o m)
  clear hN
  obtain ⟨W, hW⟩ : ∃ W, W = w.alloc (.cells #[.int .i64 2, .int .i64 o, .int .i64 l, .int .i64 m, .int .i64 p] 31) := ⟨_, rfl⟩
  have hsW : W.heap.size = w.heap.size + 1 := by rw [hW]; simp
  have HWB : Hid (Below w.heap.size w W) := by unfold Hid; rw [hW]; exact (Below.refl _ _).alloc (Nat.le_refl _) _
  have c0 : W.cell? ⟨w.heap.size, 0, none⟩ = some (.int .i64 2) := by rw [hW]; simp [go_sem]
  have c1 : W.cell? ⟨w.heap.size, 1, none⟩ = some (.int .i64 o) := by rw [hW]; simp [go_sem]
  have c2 : W.cell? ⟨w.heap.size, 2, none⟩ = some (.int .i64 l) := by rw [hW]; simp [go_sem]
  have c3 : W.cell? ⟨w.heap.size, 3, none⟩ = some (.int .i64 m) := by rw [hW]; simp [go_sem]
  have c4 : W.cell? ⟨w.heap.size, 4, none⟩ = some (.int .i64 p) := by rw [hW]; simp [go_sem]
  have hgW : w.heap.size < W.heap.size := by omega
  have hmk := fun u => run_make_row' (P := Try.prog) 38 3 (.int .i64 0) 8 Try.underlying38 info_int rfl .i64 .i64 o (by omega) (by omega) u
  have HEQ : Hid (scoreL p o m = grD 2 o m p) := by unfold Hid grD; rfl
  obtain ⟨V, hV⟩ : ∃ V, V = W.alloc (.cells #[] 3) := ⟨_, rfl⟩
  have hsV : V.heap.size = w.heap.size + 1 + 1 := by rw [hV]; simp [hsW]
  have HVB : Hid (Below W.heap.size W V) := by unfold Hid; rw [hV]; exact (Below.refl _ _).alloc (Nat.le_refl _) _
  have H0 : Hid (OwnI (V.alloc (.cells (madeCells #[.int .i64 0] o) 3)) V.heap.size (.slice (some ⟨V.heap.size, 0, none⟩) o o) (List.replicate o 0)) := zeros_own V o (by omega)
  have e1 : IntKind.i64.wrap ((o : Int) - 1) = (o : Int) - 1 := IntWalk.i64_in _ (by omega)
  go_enter Try.func227, Try.ntmps227
  go_wp2_with fail
  rw [← hW]
  clear hW
  go_wp2_with fail
  rw [← hV]
  go_wp2_with fail
  go_loopg [6, 7] o (fun g rv i wr => ∃ (t : Nat) (x r : Int) (S : List Int), t = g ∧ t ≤ o ∧ x = (t : Int) - 1 ∧ i = .int .i64 x ∧ rv = .int .i64 r ∧ 0 ≤ r ∧ r ≤ 40 ∧ OwnI wr V.heap.size (.slice (some ⟨V.heap.size, 0, none⟩) o o) (List.replicate t 0 ++ S) ∧ Hid (scoreL p t r ++ S = scoreL p o m) ∧ Below V.heap.size V wr)
  case atStart =>
    refine ⟨o, (o : Int) - 1, m, [], rfl, Nat.le_refl _, rfl, rfl, rfl, by omega, by omega, ?_, by unfold Hid; simp, by first | exact (Below.refl _ _).alloc (Nat.le_refl _) _⟩
    rw [List.append_nil]
    exact H0.out
  case round =>
    obtain ⟨t, x, r, S, htg, hto, hx, rfl, rfl, hr0, hr1, hO, HF, hb⟩ := hrel
    have HBW : Hid (Below W.heap.size W wr) := HVB.out.trans (hb.mono HVB.out.size)
    replace c0 := cat_cell c0 HBW.out hgW
    replace c1 := cat_cell c1 HBW.out hgW
    replace c2 := cat_cell c2 HBW.out hgW
    replace c3 := cat_cell c3 HBW.out hgW
    replace c4 := cat_cell c4 HBW.out hgW
    have hsr := hb.size
    clear hmk
    rcases t with _ | j
    · obtain rfl : x = -1 := by omega
      clear htg hx
      have HSX : Hid (S = grD 2 o m p) := by have := HF.out; rw [scoreL, List.nil_append, HEQ.out] at this; exact this
      rw [List.replicate_zero, List.nil_append, HSX.out, hsV] at hO
      have HO := Lib.hid hO; clear hO
      have HB := HBW; clear hb
      have hsB := HB.out.size
      go_wp2_with fail
      refine (impl_base 2 o l m p _ (by omega) (by omega) hp0 hp5).mono ?_
      rintro e w1 ⟨rfl, hb1⟩
      go_wp2_with fail
      refine (impl_codeOf _ _ _ _ (HO.out.ints.below hb1) HDG.out (fun x hx => (HDG.out.2 x hx).1) HBS.out.1 HBS.out.2).mono ?_
      rintro e w2 ⟨rfl, rfl⟩
      go_wp2_with fail
      go_ret
      exact ⟨ret_int HGR.out.symm, Below.next HWB.out (HB.out.trans (hb1.mono hsB))⟩
    · obtain rfl : x = (j : Int) := by omega
      have HJG : Hid (j < _) := Nat.lt_of_succ_le (Nat.le_of_eq htg)
      clear htg hx
      have hSl : S.length + (j + 1) = o := by
        have := congrArg List.length HF.out
        rw [List.length_append, scoreL_length, scoreL_length] at this; omega
      obtain ⟨y, hy⟩ : ∃ y, y = min r p := ⟨_, rfl⟩
      have hy0 : 0 ≤ y := by omega
      have hy1 : y ≤ r := by omega
      have HS : Hid (scoreL p j (r - y) ++ (y :: S) = scoreL p o m) := by
        have := HF.out; unfold Hid; rw [scoreL, ← hy, List.append_assoc] at this; exact this
      have hset : (List.replicate (j + 1) 0 ++ S).set j y = List.replicate j 0 ++ (y :: S) := by
        rw [List.replicate_succ', List.append_assoc, List.set_append, if_neg (by simp)]; simp
      obtain ⟨g', hg', hgB, hml, hc⟩ := hO.at_ (by simp; omega)
      obtain ⟨hz, hf⟩ := hc j (by omega)
      cases hg'
      have hst := hO.stored hml j (x := y) ⟨by omega, by omega⟩
      rw [hset] at hst
      have HT := Lib.hid hst
      have e3 : IntKind.i64.wrap ((j : Int) - 1) = (j : Int) - 1 := IntWalk.i64_in _ (by omega)
      generalize nth (List.replicate (j + 1) 0 ++ S) j = z at hz
      rw [hsV] at hz hf
      clear hc hst hml hO hset HF
      rcases (by omega : r ≤ p ∧ y = r ∨ p < r ∧ y = p) with ⟨hle, hyy⟩ | ⟨hle, hyy⟩
      · clear hy
        subst hyy
        go_wp2_with fail
        go_roundg j
        case measure => exact HJG.out
        case rel =>
          refine ⟨j, (j : Int) - 1, 0, y :: S, rfl, by omega, by omega, rfl, rfl, by omega, by omega, ?_, by have := HS.out; rwa [Int.sub_self] at this, ?_⟩
          · rw [← hsV]; exact HT.out.1
          · rw [← hsV]; exact hb.setCell (Nat.le_refl _) _
      · clear hy
        have hle2 : decide (y ≤ p) = true := decide_eq_true (by omega)
        subst hyy
        have e2 : IntKind.i64.wrap (r - y) = r - y := IntWalk.i64_in _ (by omega)
        go_wp2_with fail
        go_roundg j
        case measure => exact HJG.out
        case rel =>
          refine ⟨j, (j : Int) - 1, r - y, y :: S, rfl, by omega, by omega, rfl, rfl, by omega, by omega, ?_, HS.out, ?_⟩
          · rw [← hsV]; exact HT.out.1
          · rw [← hsV]; exact hb.setCell (Nat.le_refl _) _
end Go.Proofs.Ytcpigedjblkcfaa
