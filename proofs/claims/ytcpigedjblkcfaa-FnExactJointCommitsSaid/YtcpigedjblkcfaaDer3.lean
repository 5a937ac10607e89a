/- Derived elements: walks of DeriveElement, DeriveElements of the reference. -/
import Derived.Test.YtcpigedjblkcfaaDer2
import Derived.Test.YtcpigedjblkcfaaCtG
namespace Go.Proofs.Ytcpigedjblkcfaa
open Go.RowKit
set_option linter.unusedSimpArgs false
set_option linter.unusedVariables false

/-- each of the first n elements can be derived -/
def hsB (gr : GroupD) (s : ByteArray) (n : Nat) : Bool := (List.range n).all fun k => decide (0 < hD gr s k)
theorem hsB_succ (gr : GroupD) (s : ByteArray) (n : Nat) : hsB gr s (n + 1) = (hsB gr s n && decide (0 < hD gr s n)) := by simp [hsB, List.range_succ]
theorem hsB_no {gr : GroupD} {s : ByteArray} {k n : Nat} (h : hsB gr s k = false) (hk : k ≤ n) : hsB gr s n = false := by
  obtain ⟨m, rfl⟩ : ∃ m, n = k + m := ⟨n - k, by omega⟩
  clear hk
  induction m with
  | zero => exact h
  | succ m ih => rw [← Nat.add_assoc, hsB_succ, ih]; rfl
/-- the bases can be derived -/
def basB (gr : GroupD) (a b : ByteArray) (n : Nat) : Bool := decide (0 < hD gr a 0) && hsB gr b n
set_option maxRecDepth 100000 in
set_option maxHeartbeats 2000000 in
theorem spec_DeriveElement (gr : GroupD) (s : ByteArray) (k : Int) (w : World) (hg : goodG gr = true) (hs : s.size ≤ 40) (hk : digestB k = true) :
    Calls Try.prog 224 #[.agg #[.int .i64 gr.p, .int .i64 gr.q, .int .i64 gr.g], .string s, .int .i64 k] w fun e w' => e = .returned (.tuple #[.int .i64 (hD gr s k), .bool (decide (0 < hD gr s k))]) ∧ Below w.heap.size w w' := by
  have HG := Lib.hid (goodG_ok hg)
  have HGD := Lib.hid hg; clear hg
  have HK := Lib.hid hk; clear hk
  have HKD : Hid (decide (0 ≤ k ∧ k ≤ 4611686018427387903) = true) := HK.out
  obtain ⟨p, q, g⟩ := gr
  obtain ⟨W, hW⟩ : ∃ W, W = w.alloc (.cells #[.int .i64 p, .int .i64 q, .int .i64 g] 30) := ⟨_, rfl⟩
  have hsW : W.heap.size = w.heap.size + 1 := by rw [hW]; simp
  have hgW : w.heap.size < W.heap.size := by omega
  have HWB : Hid (Below w.heap.size w W) := by unfold Hid; rw [hW]; exact (Below.refl _ _).alloc (Nat.le_refl _) _
  have c0 : W.cell? ⟨w.heap.size, 0, none⟩ = some (.int .i64 p) := by rw [hW]; simp [go_sem]
  have c1 : W.cell? ⟨w.heap.size, 1, none⟩ = some (.int .i64 q) := by rw [hW]; simp [go_sem]
  have c2 : W.cell? ⟨w.heap.size, 2, none⟩ = some (.int .i64 g) := by rw [hW]; simp [go_sem]
  have hs' : decide (40 < (s.size : Int)) = false := decide_eq_false (by omega)
  go_enter Try.func224, Try.ntmps224
  go_wp2_with fail
  rw [← hW]
  clear hW
  go_wp2_with fail
  refine (spec_l2Good ⟨p, q, g⟩ _).mono ?_
  rintro e w1 ⟨rfl, hb1⟩
  rw [HGD.out]
  replace c0 := box_at c0 hb1
  replace c1 := box_at c1 hb1
  replace c2 := box_at c2 hb1
  have HB1 := Lib.hid (Below.next HWB.out hb1)
  clear hb1
  go_wp2_with fail
  refine (spec_l3Digest k _).mono ?_
  rintro e w2 ⟨rfl, rfl⟩
  first | rw [HK.out] | rw [HKD.out]
  go_wp2_with fail
  refine (spec_hDerived ⟨p, q, g⟩ s k _ HG.out hs HK.out).mono ?_
  rintro e w3 ⟨rfl, hb3⟩
  have HB3 := Lib.hid (Below.next HB1.out hb3)
  clear hb3
  go_wp2_with fail
  go_ret2
  exact ⟨ret_int_bool rfl (by first | rfl | simp), HB3.out⟩
set_option maxRecDepth 100000 in
set_option maxHeartbeats 4000000 in
theorem spec_DeriveElements (gr : GroupD) (s : ByteArray) (n : Nat) (w : World) (hg : goodG gr = true) (hs : s.size ≤ 40) (hn : n ≤ 100) :
    Calls Try.prog 225 #[.agg #[.int .i64 gr.p, .int .i64 gr.q, .int .i64 gr.g], .string s, .int .i64 n] w fun e w' => (∃ a m c, e = .returned (.tuple #[.slice a m c, .bool (hsB gr s n)])) ∧ Below w.heap.size w w' := by
  have HG := Lib.hid (goodG_ok hg)
  have HGD := Lib.hid hg; clear hg
  obtain ⟨p, q, g⟩ := gr
  obtain ⟨W, hW⟩ : ∃ W, W = w.alloc (.cells #[.int .i64 p, .int .i64 q, .int .i64 g] 30) := ⟨_, rfl⟩
  have hsW : W.heap.size = w.heap.size + 1 := by rw [hW]; simp
  have hgW : w.heap.size < W.heap.size := by omega
  have HWB : Hid (Below w.heap.size w W) := by unfold Hid; rw [hW]; exact (Below.refl _ _).alloc (Nat.le_refl _) _
  have c0 : W.cell? ⟨w.heap.size, 0, none⟩ = some (.int .i64 p) := by rw [hW]; simp [go_sem]
  have c1 : W.cell? ⟨w.heap.size, 1, none⟩ = some (.int .i64 q) := by rw [hW]; simp [go_sem]
  have c2 : W.cell? ⟨w.heap.size, 2, none⟩ = some (.int .i64 g) := by rw [hW]; simp [go_sem]
  have hs' : decide (40 < (s.size : Int)) = false := decide_eq_false (by omega)
  have HIN : Hid (decide (0 ≤ (n : Int) ∧ (n : Int) ≤ 100) = true) := decide_eq_true ⟨by omega, by omega⟩
  have HO0 : Hid (∀ u, OwnI u W.heap.size (.slice none 0 0) []) := fun u => OwnI.nil u _
  go_enter Try.func225, Try.ntmps225
  go_wp2_with fail
  rw [← hW]
  clear hW
  go_wp2_with fail
  refine (spec_l2Good ⟨p, q, g⟩ _).mono ?_
  rintro e w1 ⟨rfl, hb1⟩
  rw [HGD.out]
  have HB1 := Lib.hid hb1
  clear hb1
  go_wp2_with fail
  refine (spec_l1In n 0 100 _).mono ?_
  rintro e w2 ⟨rfl, rfl⟩
  rw [HIN.out]
  go_wp2_with fail
  go_loopg [8, 9] n (fun gg ov i wr => ∃ k : Nat, k + gg = n ∧ i = .int .i64 k ∧ OwnI wr W.heap.size ov (tab k (fun i => hD ⟨p, q, g⟩ s i)) ∧ Hid (hsB ⟨p, q, g⟩ s k = true) ∧ Below W.heap.size W wr)
  case atStart => exact ⟨0, by omega, rfl, by rw [tab_zero]; exact HO0.out _, rfl, HB1.out⟩
  case round =>
    obtain ⟨k, hkg, rfl, hO, HT, hb⟩ := hrel
    replace c0 := (hb.cell hgW).trans c0
    replace c1 := (hb.cell hgW).trans c1
    replace c2 := (hb.cell hgW).trans c2
    have hsr := hb.size
    by_cases hlt : k < n
    · have HS := Lib.hid (tab_succ k (fun i => hD ⟨p, q, g⟩ s i))
      have HLN := Lib.hid (tab_length k (fun i => hD ⟨p, q, g⟩ s i))
      have HSS := Lib.hid (hsB_succ ⟨p, q, g⟩ s k)
      have HKD : Hid (digestB (k : Int) = true) := by unfold Hid digestB; exact decide_eq_true ⟨by omega, by omega⟩
      have hwk : IntKind.i64.wrap ((k : Int) + 1) = (k : Int) + 1 := IntWalk.i64_in _ (by omega)
      have HB := Lib.hid hb; clear hb
      go_wp2_with fail
      refine (spec_hDerived ⟨p, q, g⟩ s k _ HG.out hs HKD.out).mono ?_
      rintro e w3 ⟨rfl, hb3⟩
      have HO3 := Lib.hid (hO.below hb3)
      have HB3 := Lib.hid (HB.out.trans (hb3.mono hsr))
      have hs3 := hb3.size
      clear hb3 hO
      have hyb := hD_bd HG.out s k
      have hyp := HG.out.p2
      simp only [] at hyb hyp
      obtain ⟨y, hy⟩ : ∃ y, hD ⟨p, q, g⟩ s k = y := ⟨_, rfl⟩
      rw [hy] at hyb HSS ⊢
      have HY := Lib.hid hy; clear hy
      rcases (by omega : y = 0 ∨ y ≠ 0) with hy0 | hy0
      · subst hy0
        have HNO : Hid (hsB ⟨p, q, g⟩ s n = false) := hsB_no (k := k + 1) (by rw [HSS.out]; simp) hlt
        go_wp2_with fail
        go_ret2
        exact ⟨⟨none, 0, 0, by rw [HNO.out]; rfl⟩, Below.next HWB.out HB3.out⟩
      · have hyn : (y == 0) = false := by simpa using hy0
        have HT2 : Hid (hsB ⟨p, q, g⟩ s (k + 1) = true) := by unfold Hid; rw [HSS.out, HT.out]; simp; omega
        clear hy0
        obtain ⟨ao, co, rfl⟩ := HO3.out.shape
        have hlen := HLN.out
        rw [hlen] at HO3 ⊢
        clear hlen
        go_wp2_with (at_builtin; refine wpList_append_ints rfl _ _ rfl W.heap.size _ _ (tab k (fun i => hD ⟨p, q, g⟩ s i)) [y] rfl (HO3.out.alloc _) rfl (Ints.lit1 _ ⟨by omega, by omega⟩) (by rw [HLN.out]; simp; omega) (by simp; omega) ?_; intro v5 w5 hown5 hgr5)
        have hb5 := (HO3.out.alloc _).grown hgr5 (by simp; omega)
        have hb6 : Below W.heap.size W w5 := (HB3.out.alloc (by omega) _).trans hb5
        go_roundg (n - (k + 1))
        case measure => omega
        case rel => exact ⟨k + 1, by omega, by go_num, by rw [HS.out, HY.out]; exact hown5, HT2.out, hb6⟩
    · obtain rfl : n = k := by omega
      obtain ⟨ao, co, rfl⟩ := hO.shape
      have HB := Lib.hid hb; clear hb
      have HO := Lib.hid hO; clear hO
      go_wp2_with fail
      go_ret2
      exact ⟨⟨ao, _, co, by rw [HT.out]; rfl⟩, Below.next HWB.out HB.out⟩
end Go.Proofs.Ytcpigedjblkcfaa
