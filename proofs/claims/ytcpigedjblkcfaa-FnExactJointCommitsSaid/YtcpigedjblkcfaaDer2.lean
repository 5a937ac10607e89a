/- Derived elements: walks of derive, hDerived. -/
import Derived.Test.YtcpigedjblkcfaaDer1
namespace Go.Proofs.Ytcpigedjblkcfaa
open Go.RowKit
set_option linter.unusedSimpArgs false
set_option linter.unusedVariables false

theorem Ints.lit5 (w : World) {a b c d e : Int} (ha : I64 a) (hb : I64 b) (hc : I64 c) (hd : I64 d) (he : I64 e) : Ints (w.alloc (.cells #[.int .i64 a, .int .i64 b, .int .i64 c, .int .i64 d, .int .i64 e] 3)) (.slice (some ⟨w.heap.size, 0, none⟩) 5 5) [a, b, c, d, e] :=
  (OwnI.lit w (Nat.le_refl _) (AllI64.cons ha (AllI64.cons hb (AllI64.cons hc (AllI64.cons hd (AllI64.one he))))) rfl (by simp [maxLen]) 5 rfl).ints
set_option maxRecDepth 100000 in
set_option maxHeartbeats 4000000 in
theorem impl_derive (gr : GroupD) (s : ByteArray) (k : Int) (w : World) (hg : OkG gr) (hs : s.size ≤ 40) (hk : digestB k = true) :
    Calls Try.prog 228 #[.agg #[.int .i64 gr.p, .int .i64 gr.q, .int .i64 gr.g], .string s, .int .i64 k] w fun e w' => e = .returned (.tuple #[.int .i64 (hD gr s k), .bool (decide (0 < hD gr s k))]) ∧ Below w.heap.size w w' := by
  have HG := Lib.hid hg
  have HK := Lib.hid hk
  have hk64 := digest_I64 hk
  have HK64 := Lib.hid hk64
  clear hk64 hk
  obtain ⟨hp1, hp2, hq1, hq2, hg1, hg2, _, _, _, _⟩ := hg
  obtain ⟨p, q, g⟩ := gr
  simp only [] at hp1 hp2 hq1 hq2 hg1 hg2
  obtain ⟨W, hW⟩ : ∃ W, W = w.alloc (.cells #[.int .i64 p, .int .i64 q, .int .i64 g] 30) := ⟨_, rfl⟩
  have hsW : W.heap.size = w.heap.size + 1 := by rw [hW]; simp
  have hgW : w.heap.size < W.heap.size := by omega
  have HWB : Hid (Below w.heap.size w W) := by unfold Hid; rw [hW]; exact (Below.refl _ _).alloc (Nat.le_refl _) _
  have c0 : W.cell? ⟨w.heap.size, 0, none⟩ = some (.int .i64 p) := by rw [hW]; simp [go_sem]
  have c1 : W.cell? ⟨w.heap.size, 1, none⟩ = some (.int .i64 q) := by rw [hW]; simp [go_sem]
  have c2 : W.cell? ⟨w.heap.size, 2, none⟩ = some (.int .i64 g) := by rw [hW]; simp [go_sem]
  go_enter Try.func228, Try.ntmps228
  go_wp2_with fail
  rw [← hW]
  clear hW
  go_wp2_with fail
  go_loopg [12] 1000 (fun gg i wr => ∃ c : Nat, c + gg = 1000 ∧ i = .int .i64 c ∧ Hid (derTo ⟨p, q, g⟩ s k c = 0) ∧ Below W.heap.size W wr)
  case atStart => exact ⟨0, by omega, rfl, rfl, Below.refl _ _⟩
  case round =>
    obtain ⟨c, hcg, rfl, HT, hb⟩ := hrel
    replace c0 := (hb.cell hgW).trans c0
    replace c1 := (hb.cell hgW).trans c1
    replace c2 := (hb.cell hgW).trans c2
    have hsr := hb.size
    by_cases hlt : c < 1000
    · have HLB := Lib.hid (derL_lab HG.out hs HK.out hlt)
      have HLH := Lib.hid (derL_hash HG.out hs HK.out hlt)
      have HLX : Hid (derX ⟨p, q, g⟩ s k c = powM (1 + hashOf (lab s ++ [p, q, g, k, (c : Int)]) % (p - 1)) ((p - 1) / q) p) := rfl
      have HFD : Hid (derX ⟨p, q, g⟩ s k c ≠ 1 → hD ⟨p, q, g⟩ s k = derX ⟨p, q, g⟩ s k c) := fun h => derTo_found HG.out HT.out h hlt
      have HNX : Hid (derX ⟨p, q, g⟩ s k c = 1 → derTo ⟨p, q, g⟩ s k (c + 1) = 0) := fun h => derTo_next HT.out h
      have HNZ : Hid (derX ⟨p, q, g⟩ s k c ≠ 0) := derX_nz HG.out s k c
      have hXB := derX_bd HG.out s k c
      simp only [] at hXB
      obtain ⟨hd0, hd1⟩ := hashOf_bd (lab s ++ [p, q, g, k, (c : Int)])
      have hwk : IntKind.i64.wrap ((c : Int) + 1) = (c : Int) + 1 := IntWalk.i64_in _ (by omega)
      have HB := Lib.hid hb; clear hb
      go_wp2_with fail
      refine (impl_HashLabelled s _ _ _ (Ints.lit5 _ ⟨by omega, by omega⟩ ⟨by omega, by omega⟩ ⟨by omega, by omega⟩ HK64.out ⟨by omega, by omega⟩) (by omega) (by simp)).mono ?_
      rintro e w1 ⟨rfl, hb1⟩
      rw [HLB.out, HLH.out]
      obtain ⟨X, hX⟩ : ∃ X, derX ⟨p, q, g⟩ s k c = X := ⟨_, rfl⟩
      rw [hX] at HLX HFD HNX HNZ hXB
      clear hX
      generalize hashOf (lab s ++ [p, q, g, k, (c : Int)]) = d at HLX hd0 hd1 ⊢
      have hbb : Below wr.heap.size wr w1 := Below.next ((Below.refl _ _).alloc (Nat.le_refl _) _) hb1
      replace c0 := box_at c0 hbb
      replace c1 := box_at c1 hbb
      replace c2 := box_at c2 hbb
      have HB1 := Lib.hid (HB.out.trans (hbb.mono hsr))
      clear hb1 hbb
      have hr0 : 0 ≤ d % (p - 1) := Int.emod_nonneg _ (by omega)
      have hr1 : d % (p - 1) < p - 1 := Int.emod_lt_of_pos _ (by omega)
      have ht0 : 0 ≤ (p - 1) / q := Int.ediv_nonneg (by omega) (by omega)
      have ht1 : (p - 1) / q ≤ p - 1 := Int.ediv_le_self _ (by omega)
      go_wp2_with fail
      go_quiet (first
        | (go_at_call 208; exact Calls.quiet_of_same ((impl_power _ _ _ _ (by omega) (by omega) (by omega)).mono fun e' w' h => ⟨h.1, h.2.symm⟩))
        | fail)
      rw [← HLX.out]
      have hx64 : X = 1 ∨ X ≠ 1 := by omega
      rcases hx64 with hx1 | hx1
      · have HN2 := Lib.hid (HNX.out hx1)
        subst hx1
        go_wp2_with fail
        go_roundg (1000 - (c + 1))
        case measure => omega
        case rel => exact ⟨c + 1, by omega, by go_num, HN2.out, below_drewN HB1.out _⟩
      · have HF2 := Lib.hid (HFD.out hx1)
        have hbn : (X != 1) = true := by simpa using hx1
        have HP : Hid (decide (0 < hD ⟨p, q, g⟩ s k) = true) := by
          unfold Hid; rw [HF2.out]; have := HNZ.out; exact decide_eq_true (by omega)
        clear hx1
        go_wp2_with fail
        go_ret2
        exact ⟨ret_int_bool HF2.out.symm HP.out.symm, Below.next HWB.out (below_drewN HB1.out _)⟩
    · obtain rfl : c = 1000 := by omega
      have HA : Hid (hD ⟨p, q, g⟩ s k = 0) := HT.out
      go_wp2_with fail
      go_ret2
      exact ⟨ret_int_bool HA.out.symm (by rw [HA.out]; rfl), Below.next HWB.out hb⟩
set_option maxRecDepth 100000 in
set_option maxHeartbeats 4000000 in
theorem spec_hDerived (gr : GroupD) (s : ByteArray) (k : Int) (w : World) (hg : OkG gr) (hs : s.size ≤ 40) (hk : digestB k = true) :
    Calls Try.prog 252 #[.agg #[.int .i64 gr.p, .int .i64 gr.q, .int .i64 gr.g], .string s, .int .i64 k] w fun e w' => e = .returned (.int .i64 (hD gr s k)) ∧ Below w.heap.size w w' := by
  have HG := Lib.hid hg
  have HK := Lib.hid hk
  have hk64 := digest_I64 hk
  have HK64 := Lib.hid hk64
  clear hk64 hk
  obtain ⟨hp1, hp2, hq1, hq2, hg1, hg2, _, _, _, _⟩ := hg
  obtain ⟨p, q, g⟩ := gr
  simp only [] at hp1 hp2 hq1 hq2 hg1 hg2
  obtain ⟨W, hW⟩ : ∃ W, W = w.alloc (.cells #[.int .i64 p, .int .i64 q, .int .i64 g] 30) := ⟨_, rfl⟩
  have hsW : W.heap.size = w.heap.size + 1 := by rw [hW]; simp
  have hgW : w.heap.size < W.heap.size := by omega
  have HWB : Hid (Below w.heap.size w W) := by unfold Hid; rw [hW]; exact (Below.refl _ _).alloc (Nat.le_refl _) _
  have c0 : W.cell? ⟨w.heap.size, 0, none⟩ = some (.int .i64 p) := by rw [hW]; simp [go_sem]
  have c1 : W.cell? ⟨w.heap.size, 1, none⟩ = some (.int .i64 q) := by rw [hW]; simp [go_sem]
  have c2 : W.cell? ⟨w.heap.size, 2, none⟩ = some (.int .i64 g) := by rw [hW]; simp [go_sem]
  go_enter Try.func252, Try.ntmps252
  go_wp2_with fail
  rw [← hW]
  clear hW
  go_wp2_with fail
  go_loopg [7] 1000 (fun gg i wr => ∃ c : Nat, c + gg = 1000 ∧ i = .int .i64 c ∧ Hid (derTo ⟨p, q, g⟩ s k c = 0) ∧ Below W.heap.size W wr)
  case atStart => exact ⟨0, by omega, rfl, rfl, Below.refl _ _⟩
  case round =>
    obtain ⟨c, hcg, rfl, HT, hb⟩ := hrel
    replace c0 := (hb.cell hgW).trans c0
    replace c1 := (hb.cell hgW).trans c1
    replace c2 := (hb.cell hgW).trans c2
    have hsr := hb.size
    by_cases hlt : c < 1000
    · have HLA := Lib.hid (derL_all HG.out HK.out hlt)
      have HLX : Hid (derX ⟨p, q, g⟩ s k c = powM (1 + hashOf (lab s ++ [p, q, g, k, (c : Int)]) % (p - 1)) ((p - 1) / q) p) := rfl
      have HFD : Hid (derX ⟨p, q, g⟩ s k c ≠ 1 → hD ⟨p, q, g⟩ s k = derX ⟨p, q, g⟩ s k c) := fun h => derTo_found HG.out HT.out h hlt
      have HNX : Hid (derX ⟨p, q, g⟩ s k c = 1 → derTo ⟨p, q, g⟩ s k (c + 1) = 0) := fun h => derTo_next HT.out h
      have HNZ : Hid (derX ⟨p, q, g⟩ s k c ≠ 0) := derX_nz HG.out s k c
      have hXB := derX_bd HG.out s k c
      simp only [] at hXB
      obtain ⟨hd0, hd1⟩ := hashOf_bd (lab s ++ [p, q, g, k, (c : Int)])
      have hwk : IntKind.i64.wrap ((c : Int) + 1) = (c : Int) + 1 := IntWalk.i64_in _ (by omega)
      have HB := Lib.hid hb; clear hb
      obtain ⟨X, hX⟩ : ∃ X, derX ⟨p, q, g⟩ s k c = X := ⟨_, rfl⟩
      rw [hX] at HLX HFD HNX HNZ hXB
      clear hX
      obtain ⟨d, hd⟩ : ∃ d, hashOf (lab s ++ [p, q, g, k, (c : Int)]) = d := ⟨_, rfl⟩
      have HDD := Lib.hid hd
      rw [hd] at HLX hd0 hd1
      clear hd
      have hr0 : 0 ≤ d % (p - 1) := Int.emod_nonneg _ (by omega)
      have hr1 : d % (p - 1) < p - 1 := Int.emod_lt_of_pos _ (by omega)
      have ht0 : 0 ≤ (p - 1) / q := Int.ediv_nonneg (by omega) (by omega)
      have ht1 : (p - 1) / q ≤ p - 1 := Int.ediv_le_self _ (by omega)
      have hpz : ¬ p - 1 = 0 := by omega
      have hpz2 : (p - 1 == 0) = false := by rw [beq_eq_false_iff_ne]; omega
      have et : Int.tmod d (p - 1) = d % (p - 1) := Int.tmod_eq_emod_of_nonneg hd0
      have ew1 : IntKind.i64.wrap (p - 1) = p - 1 := IntWalk.i64_in _ (by omega)
      have ew2 : IntKind.i64.wrap (d % (p - 1)) = d % (p - 1) := IntWalk.i64_in _ (by omega)
      have ew3 : IntKind.i64.wrap (1 + d % (p - 1)) = 1 + d % (p - 1) := IntWalk.i64_in _ (by omega)
      go_wp2_with fail
      go_region_held3 (fun w' => Below wr.heap.size wr w' ∧ w'.cell? ⟨w.heap.size, 0, none⟩ = some (.int .i64 p) ∧ w'.cell? ⟨w.heap.size, 1, none⟩ = some (.int .i64 q) ∧ w'.cell? ⟨w.heap.size, 2, none⟩ = some (.int .i64 g)) (first | (have hbq : Below wr.heap.size wr _ := (Below.refl _ _).drew; exact ⟨hbq, box_at c0 hbq, box_at c1 hbq, box_at c2 hbq⟩) | (refine (fun (hbq : Below wr.heap.size wr _) => ⟨hbq, box_at c0 hbq, box_at c1 hbq, box_at c2 hbq⟩) ?_; exact keep_b (by with_reducible assumption) (And.left (by assumption))) | (refine (fun (hbq : Below wr.heap.size wr _) => ⟨hbq, box_at c0 hbq, box_at c1 hbq, box_at c2 hbq⟩) ?_; exact keep_al (And.left (by assumption)) _) | (refine (fun (hbq : Below wr.heap.size wr _) => ⟨hbq, box_at c0 hbq, box_at c1 hbq, box_at c2 hbq⟩) ?_; exact Below.next (keep_al (And.left (by assumption)) _) (by with_reducible assumption)) | assumption | fail) ((first
        | (go_at_call 175; refine (spec_hLabelled s _ [p, q, g, k, (c : Int)] _ (by first | exact Ints.lit5 _ ⟨by omega, by omega⟩ ⟨by omega, by omega⟩ ⟨by omega, by omega⟩ HK64.out ⟨by omega, by omega⟩ | exact (Ints.lit5 _ ⟨by omega, by omega⟩ ⟨by omega, by omega⟩ ⟨by omega, by omega⟩ HK64.out ⟨by omega, by omega⟩).drew) (by omega) (by simp) HLA.out).mono ?_; rintro e w4 ⟨rfl, hb4⟩; rw [HDD.out])
        | fail))
      obtain ⟨hbx, z0, z1, z2⟩ := (‹Below wr.heap.size wr _ ∧ _›)
      clear c0 c1 c2
      have HB1 := Lib.hid (HB.out.trans (hbx.mono hsr))
      clear hbx
      go_wp2_with fail
      go_quiet (first
        | (go_at_call 195; exact Calls.quiet_of_same ((spec_nPower _ _ _ _ (by omega) (by omega) (by omega)).mono fun e' w' h => ⟨h.1, h.2.symm⟩))
        | fail)
      rw [← HLX.out]
      have hx64 : X = 1 ∨ X ≠ 1 := by omega
      rcases hx64 with hx1 | hx1
      · have HN2 := Lib.hid (HNX.out hx1)
        subst hx1
        go_wp2_with fail
        go_roundg (1000 - (c + 1))
        case measure => omega
        case rel => exact ⟨c + 1, by omega, by go_num, HN2.out, below_drewN HB1.out _⟩
      · have HF2 := Lib.hid (HFD.out hx1)
        have hbn : (X != 1) = true := by simpa using hx1
        clear hx1
        go_wp2_with fail
        go_ret
        exact ⟨ret_int HF2.out.symm, Below.next HWB.out (below_drewN HB1.out _)⟩
    · obtain rfl : c = 1000 := by omega
      have HA : Hid (hD ⟨p, q, g⟩ s k = 0) := HT.out
      go_wp2_with fail
      go_ret
      exact ⟨ret_int HA.out.symm, Below.next HWB.out hb⟩
end Go.Proofs.Ytcpigedjblkcfaa
