/- Walks: slices.Grow, slices.Concat. -/
import Derived.Test.YtapfceghgkmgoaaCodec
import Derived.Lib.AppendZeros
namespace Go.Proofs.Ytapfceghgkmgoaa
open Go.RowKit
set_option linter.unusedSimpArgs false
set_option linter.unusedVariables false

set_option maxHeartbeats 1000000 in
theorem slices_Grow_nil (n : Nat) (w : World) (hn : n ≤ 2000000000) :
    Calls Try.prog 252 #[.slice none 0 0, .int .i64 n] w fun e w' => ∃ v', e = .returned v' ∧ OwnI w' w.heap.size v' [] ∧ Below w.heap.size w w' := by
  by_cases h0 : n = 0
  · subst h0
    go_enter Try.func252, Try.ntmps252
    go_wp2_with fail
    go_ret
    exact ⟨_, rfl, OwnI.nil _ _, Below.refl _ _⟩
  · obtain ⟨i, hi, hz, hsz, hby⟩ := info_parts info_int
    have hp : 0 < n := by omega
    have hr := fun ty => Lib.run_append_nil_zeros (P := Try.prog) (ty := ty) w 37 3 3 i (.int .i64 0) .i64 .i64 Try.underlying37 Try.underlying3 hi hz n hp (by omega) (by omega) (by rw [hby]; omega)
    have hge := grownCap_ge w n 0 3
    have hle := grownCap_le_maxLen w n 0 3 (by unfold maxLen; omega)
    obtain ⟨cp, hcp⟩ : ∃ cp, grownCap w n 0 3 = cp := ⟨_, rfl⟩
    rw [hcp] at hr hge hle
    clear hcp
    have hO : Hid (OwnI (w.drew.alloc (.cells (Builtin.zeroCells (Value.int .i64 0).cells n ++ Builtin.zeroCells (Value.int .i64 0).cells (cp - n)) 3)) w.heap.size (.slice (some ⟨w.heap.size, 0, none⟩) 0 cp) []) := by
      refine ⟨AllI64.nil, World.ownsRow_made (w := w.drew) _ cp (Nat.le_refl _) hle ?_⟩
      rw [Array.size_append, size_zeroCells, size_zeroCells]; simp [Value.cells]; omega
    have HB : Hid (Below w.heap.size w (w.drew.alloc (.cells (Builtin.zeroCells (Value.int .i64 0).cells n ++ Builtin.zeroCells (Value.int .i64 0).cells (cp - n)) 3))) := by unfold Hid; exact (Below.refl _ _).drew.alloc (Nat.le_refl _) _
    have hcm : cp ≤ 9223372036854775807 := by unfold maxLen at hle; omega
    clear hi hz hsz hby hle
    go_enter Try.func252, Try.ntmps252
    go_wp2_with (at_builtin; refine Lib.wpList_append_run _ rfl _ _ _ _ rfl _ _ rfl rfl _ _ (hr _) ?_)
    go_ret
    exact ⟨_, rfl, hO.out, HB.out⟩
theorem flatten_take_succ {ls : List (List Int)} {k : Nat} (h : k < ls.length) : (ls.take (k + 1)).flatten = (ls.take k).flatten ++ ls[k] := by
  rw [List.take_succ_eq_append_getElem h, List.flatten_append]; simp
theorem flatten_length (ls : List (List Int)) : ls.flatten.length = total ls := by unfold total; rw [List.length_flatten]
set_option maxHeartbeats 1000000 in
theorem slices_Concat (v : Value) (ls : List (List Int)) (w : World) (h : RdL kInts w v ls) (hl : total ls ≤ 2000000000) :
    Calls Try.prog 197 #[v] w fun e w' => ∃ v', e = .returned v' ∧ OwnI w' w.heap.size v' ls.flatten ∧ Below w.heap.size w w' := by
  obtain ⟨a, n, c, rfl⟩ := h.shape
  have e := h.len
  have HE := Lib.hid e
  obtain ⟨k1, k2⟩ := h.capMax
  unfold maxLen at k2
  have HT : Hid (total ls ≤ 2000000000) := hl
  have H := Lib.hid h; clear h e hl
  go_enter Try.func197, Try.ntmps197
  go_wp2_with fail
  go_loopg [3, 11] n (fun g q i wr => ∃ (k z : Nat), k + g = n ∧ i = .int .i64 k ∧ q = .int .i64 z ∧ z ≤ 2000000000 ∧ Hid (z = total (ls.take k)) ∧ w = wr)
  case atStart => exact ⟨0, 0, by omega, rfl, rfl, by omega, by unfold Hid; simp [total_nil], rfl⟩
  case round =>
    obtain ⟨k, z, hkg, rfl, rfl, hz, hzz, rfl⟩ := hrel
    by_cases hlt : k < n
    · have HK : Hid (k < ls.length) := by unfold Hid; rw [HE.out]; exact hlt
      obtain ⟨b, o, rfl, us, hcx⟩ := H.out.at_ (by omega)
      obtain ⟨hy, hr⟩ := hcx k HK.out
      have HR := Lib.hid hr
      obtain ⟨a2, n2, c2, hu⟩ := Ints.shape hr
      have hn2 := Ints.len (hu ▸ hr)
      rw [hu] at hy
      clear hr hcx
      have hT := total_take_succ HK.out
      have hT2 := total_take_le (ls := ls) (k := k + 1)
      have hb : z + n2 ≤ 2000000000 := by have := HT.out; have := hzz.out; omega
      have HZ : Hid (z + n2 = total (ls.take (k + 1))) := by have := hzz.out; unfold Hid; omega
      clear hT hT2 hn2 hzz
      go_wp2_with fail
      go_roundg (n - (k + 1))
      case measure => omega
      case rel => exact ⟨k + 1, z + n2, by omega, by go_num, by go_num, hb, HZ.out, rfl⟩
    · obtain rfl : n = k := by omega
      go_wp2_with fail
      refine (slices_Grow_nil z _ hz).mono ?_
      rintro e w1 ⟨v1, rfl, hO1, hb1⟩
      have HO1 := Lib.hid hO1; clear hO1
      go_wp2_with fail
      go_loopg [6, 27] n (fun g ov i wr => ∃ k : Nat, k + g = n ∧ i = .int .i64 k ∧ OwnI wr w.heap.size ov ((ls.take k).flatten) ∧ Below w.heap.size w wr)
      case atStart => exact ⟨0, by omega, rfl, HO1.out, hb1⟩
      case round =>
        obtain ⟨k, hkg, rfl, hOwn, hb⟩ := hrel
        have HO := Lib.hid hOwn
        by_cases hlt : k < n
        · have HK : Hid (k < ls.length) := by unfold Hid; rw [HE.out]; exact hlt
          obtain ⟨b, o, rfl, us, hcx⟩ := H.out.at_ (by omega)
          obtain ⟨hy, hr⟩ := hcx k HK.out
          have HR := Lib.hid (Ints.below hr hb)
          obtain ⟨a2, n2, c2, hu⟩ := Ints.shape hr
          rw [hu] at hy HR
          clear hr hcx
          rw [← hb.cell (p := ⟨b, o + k, none⟩) (World.block_lt_of_cell? w _ hy)] at hy
          have HS := Lib.hid (flatten_take_succ HK.out)
          have HL : Hid ((ls.take k).flatten.length + (ls[k]'HK.out).length ≤ 1000000000000) := by
            have h1 := total_take_succ HK.out
            have h2 := total_take_le (ls := ls) (k := k + 1)
            have h3 := HT.out
            unfold Hid; rw [flatten_length]; omega
          have hB := hb.size
          have HB := Lib.hid hb; clear hb
          obtain ⟨a3, c3, rfl⟩ := hOwn.shape
          clear hOwn
          go_wp2_with (at_builtin; refine wpList_append_ints rfl _ _ rfl w.heap.size (.slice a3 _ c3) (.slice a2 n2 c2) ((ls.take k).flatten) (ls[k]'HK.out) rfl HO.out rfl HR.out HL.out hB ?_; intro v2 w2 hown2 hgr2; rw [← HS.out] at hown2; have HO2 := Lib.hid hown2; clear hown2; have HG2 := Lib.hid hgr2; clear hgr2)
          go_roundg (n - (k + 1))
          case measure => omega
          case rel => exact ⟨k + 1, by omega, by go_num, HO2.out, HB.out.trans (HO.out.grown HG2.out hB)⟩
        · obtain rfl : n = k := by omega
          have HF : Hid ((ls.take n).flatten = ls.flatten) := by unfold Hid; rw [← HE.out, List.take_length]
          clear hOwn
          have HB := Lib.hid hb; clear hb
          go_wp2_with fail
          go_ret
          exact ⟨_, rfl, by rw [← HF.out]; exact HO.out, HB.out⟩
theorem keep_box3 {W0 w' : World} {g : Nat} {a b c : Value} (h0 : W0.cell? ⟨g, 0, none⟩ = some a) (h1 : W0.cell? ⟨g, 1, none⟩ = some b) (h2 : W0.cell? ⟨g, 2, none⟩ = some c) (hb : Below W0.heap.size W0 w') :
    Below W0.heap.size W0 w' ∧ w'.cell? ⟨g, 0, none⟩ = some a ∧ w'.cell? ⟨g, 1, none⟩ = some b ∧ w'.cell? ⟨g, 2, none⟩ = some c :=
  ⟨hb, (hb.cell (p := ⟨g, 0, none⟩) (World.block_lt_of_cell? W0 _ h0)).trans h0, (hb.cell (p := ⟨g, 1, none⟩) (World.block_lt_of_cell? W0 _ h1)).trans h1, (hb.cell (p := ⟨g, 2, none⟩) (World.block_lt_of_cell? W0 _ h2)).trans h2⟩
theorem rd3 {W : World} {v1 v2 v3 : Value} {l1 l2 l3 : List Int} (h1 : Ints W v1 l1) (h2 : Ints W v2 l2) (h3 : Ints W v3 l3) :
    RdL kInts (W.alloc (.cells #[v1, v2, v3] 37)) (.slice (some ⟨W.heap.size, 0, none⟩) 3 3) [l1, l2, l3] := by
  refine ⟨some ⟨W.heap.size, 0, none⟩, 3, 3, rfl, rfl, Nat.le_refl _, by unfold maxLen; omega, .inr (.inr ⟨W.heap.size, 0, rfl, fun i => if i = 0 then v1 else if i = 1 then v2 else v3, fun i hi => ?_⟩)⟩
  simp only [List.length_cons, List.length_nil] at hi
  rcases (by omega : i = 0 ∨ i = 1 ∨ i = 2) with rfl | rfl | rfl
  · exact ⟨by simp [go_sem], h1.alloc _⟩
  · exact ⟨by simp [go_sem], h2.alloc _⟩
  · exact ⟨by simp [go_sem], h3.alloc _⟩
theorem total3 (l1 l2 l3 : List Int) : total [l1, l2, l3] = l1.length + l2.length + l3.length := by simp [total]; omega
end Go.Proofs.Ytapfceghgkmgoaa
