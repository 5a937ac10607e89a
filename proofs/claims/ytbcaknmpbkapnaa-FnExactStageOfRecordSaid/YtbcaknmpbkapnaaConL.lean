/- Walks: slices.Grow, slices.Concat of slices of slices. -/
import Derived.Test.YtbcaknmpbkapnaaStg2
import Derived.Lib.AppendZeros
namespace Go.Proofs.Ytbcaknmpbkapnaa
open Go.RowKit
set_option linter.unusedSimpArgs false
set_option linter.unusedVariables false

/-- a slice of slices of integers as a row of one cell -/
abbrev rLL : RowK (List (List Int)) := rMap (rS (kR 22 rL) rNil) (fun l => (l, ()))
theorem rdLL_one {w : World} {vs : List Value} {l : List (List Int)} (h : rLL.rd w vs l) : ∃ v, vs = [v] ∧ RdR rL w v l := by
  obtain ⟨v, us, rfl, h1, rfl⟩ := h
  exact ⟨v, rfl, h1⟩
theorem rdLL_mk {w : World} {v : Value} {l : List (List Int)} (h : RdR rL w v l) : rLL.rd w [v] l := ⟨v, [], rfl, h, rfl⟩
set_option maxHeartbeats 1000000 in
theorem slices_GrowL_nil (n : Nat) (w : World) (hn : n ≤ 2000000) :
    Calls Try.prog 69 #[.slice none 0 0, .int .i64 n] w fun e w' => ∃ v', e = .returned v' ∧ FrR 22 rL w w' w.heap.size v' [] ∧ Below w.heap.size w w' := by
  by_cases h0 : n = 0
  · subst h0
    go_enter Try.func69, Try.ntmps69
    go_wp2_with fail
    go_ret
    exact ⟨_, rfl, FrR.nil _ _ _ _ _, Below.refl _ _⟩
  · obtain ⟨i, hi, hz, hsz, hby⟩ := info_ints1
    have hp : 0 < n := by omega
    have hnb : n * i.bytes ≤ 281474976710656 := Nat.le_trans (Nat.mul_le_mul hn hby) (by decide)
    have hr := fun ty => Lib.run_append_nil_zeros (P := Try.prog) (ty := ty) w 47 3 22 i (.slice none 0 0) .i64 .i64 Try.underlying47 Try.underlying3 hi hz n hp (by omega) (by omega) hnb
    have hge := grownCap_ge w n 0 22
    have hle := grownCap_le_maxLen w n 0 22 (by unfold maxLen; omega)
    obtain ⟨cp, hcp⟩ : ∃ cp, grownCap w n 0 22 = cp := ⟨_, rfl⟩
    rw [hcp] at hr hge hle
    clear hcp
    have hO : Hid (FrR 22 rL w (w.drew.alloc (.cells (Builtin.zeroCells (Value.slice none 0 0).cells n ++ Builtin.zeroCells (Value.slice none 0 0).cells (cp - n)) 22)) w.heap.size (.slice (some ⟨w.heap.size, 0, none⟩) 0 cp) []) := by
      suffices h0 : World.ownsRow (w.drew.alloc (.cells (Builtin.zeroCells (Value.slice none 0 0).cells n ++ Builtin.zeroCells (Value.slice none 0 0).cells (cp - n)) 22)) w.heap.size 22 1 (.slice (some ⟨w.heap.size, 0, none⟩) 0 cp) 0 [] from ⟨[], rfl, h0, fun i h1 _ => by simp at h1⟩
      refine World.ownsRow_made (w := w.drew) _ cp (Nat.le_refl _) hle ?_
      rw [Array.size_append, size_zeroCells, size_zeroCells]; simp [Value.cells]; omega
    have HB : Hid (Below w.heap.size w (w.drew.alloc (.cells (Builtin.zeroCells (Value.slice none 0 0).cells n ++ Builtin.zeroCells (Value.slice none 0 0).cells (cp - n)) 22))) := by unfold Hid; exact (Below.refl _ _).drew.alloc (Nat.le_refl _) _
    have hcm : cp ≤ 9223372036854775807 := by unfold maxLen at hle; omega
    clear hi hz hsz hby hle hnb
    go_enter Try.func69, Try.ntmps69
    go_wp2_with (at_builtin; refine Lib.wpList_append_run _ rfl _ _ _ _ rfl _ _ rfl rfl _ _ (hr _) ?_)
    go_ret
    exact ⟨_, rfl, hO.out, HB.out⟩
theorem flatten_take_succL {ls : List (List (List Int))} {k : Nat} (h : k < ls.length) : (ls.take (k + 1)).flatten = (ls.take k).flatten ++ ls[k] := by
  rw [List.take_succ_eq_append_getElem h, List.flatten_append]; simp
theorem flatten_take_leL {ls : List (List (List Int))} {k : Nat} : (ls.take k).flatten.length ≤ ls.flatten.length := by
  have h := congrArg List.length (congrArg List.flatten (List.take_append_drop k ls))
  rw [List.flatten_append, List.length_append] at h
  omega
set_option maxRecDepth 100000 in
set_option maxHeartbeats 4000000 in
theorem slices_ConcatL (v : Value) (ls : List (List (List Int))) (w : World) (h : RdR rLL w v ls) (hne : ∀ l ∈ ls, 0 < l.length) (hl : ls.flatten.length ≤ 2000000) :
    Calls Try.prog 58 #[v] w fun e w' => ∃ v', e = .returned v' ∧ RdL kInts w' v' ls.flatten ∧ Below w.heap.size w w' := by
  obtain ⟨a, n, c, rfl⟩ := h.shape
  have e := h.len
  have HE := Lib.hid e
  obtain ⟨k1, k2⟩ := h.capMax
  unfold maxLen at k2
  have HT : Hid (ls.flatten.length ≤ 2000000) := hl
  have HNE := Lib.hid hne
  have H := Lib.hid h; clear h e hl hne
  obtain ⟨ti, hti, htz, hts, htb⟩ := info_ints1
  have HI := Lib.hid (show _ ∧ _ ∧ _ ∧ _ from ⟨hti, htz, hts, htb⟩)
  clear hti htz hts htb
  go_enter Try.func58, Try.ntmps58
  go_wp2_with fail
  go_loopg [3, 11] n (fun g q i wr => ∃ (k z : Nat), k + g = n ∧ i = .int .i64 k ∧ q = .int .i64 z ∧ z ≤ 2000000 ∧ Hid (z = (ls.take k).flatten.length) ∧ w = wr)
  case atStart => exact ⟨0, 0, by omega, rfl, rfl, by omega, by unfold Hid; simp, rfl⟩
  case round =>
    obtain ⟨k, z, hkg, rfl, rfl, hz, hzz, rfl⟩ := hrel
    by_cases hlt : k < n
    · have HK : Hid (k < ls.length) := by unfold Hid; rw [HE.out]; exact hlt
      obtain ⟨b, o, rfl, hcx⟩ := H.out.at_ (by omega)
      obtain ⟨vs, hy, hr⟩ := hcx k HK.out
      obtain ⟨y, rfl, hr2⟩ := rdLL_one hr
      clear hr
      replace hr := hr2; clear hr2
      replace hy := hy 0 (by decide)
      obtain ⟨a2, n2, c2, rfl⟩ := RdR.shape hr
      have hn2 := RdR.len hr
      replace hy : w.cell? ⟨b, o + k, none⟩ = some (.slice a2 n2 c2) := by
        have e1 : o + (k * rLL.width + 0) = o + k := by show o + (k * 1 + 0) = o + k; omega
        rw [← e1]; exact hy
      clear hr hcx
      have hT := congrArg List.length (flatten_take_succL HK.out)
      rw [List.length_append] at hT
      have hT2 := flatten_take_leL (ls := ls) (k := k + 1)
      have hb : z + n2 ≤ 2000000 := by have := HT.out; have := hzz.out; omega
      have HZ : Hid (z + n2 = (ls.take (k + 1)).flatten.length) := by have := hzz.out; unfold Hid; omega
      clear hT hT2 hn2 hzz
      go_wp2_with fail
      go_roundg (n - (k + 1))
      case measure => omega
      case rel => exact ⟨k + 1, z + n2, by omega, by go_num, by go_num, hb, HZ.out, rfl⟩
    · obtain rfl : n = k := by omega
      go_wp2_with fail
      refine (slices_GrowL_nil z _ hz).mono ?_
      rintro e w1 ⟨v1, rfl, hO1, hb1⟩
      have HO1 := Lib.hid hO1; clear hO1
      go_wp2_with fail
      go_loopg [6, 27] n (fun g ov i wr => ∃ k : Nat, k + g = n ∧ i = .int .i64 k ∧ FrR 22 rL w wr w.heap.size ov ((ls.take k).flatten) ∧ Below w.heap.size w wr)
      case atStart => exact ⟨0, by omega, rfl, HO1.out, hb1⟩
      case round =>
        obtain ⟨k, hkg, rfl, hOwn, hb⟩ := hrel
        have HO := Lib.hid hOwn
        by_cases hlt : k < n
        · have HK : Hid (k < ls.length) := by unfold Hid; rw [HE.out]; exact hlt
          obtain ⟨b, o, rfl, hcx⟩ := H.out.at_ (by omega)
          obtain ⟨vs, hy, hr⟩ := hcx k HK.out
          obtain ⟨y, rfl, hr2⟩ := rdLL_one hr
          clear hr
          replace hr := hr2; clear hr2
          replace hy := hy 0 (by decide)
          have hpos := HNE.out _ (List.getElem_mem HK.out)
          obtain ⟨a2, n2, c2, rfl⟩ := RdR.shape hr
          have hn2 := RdR.len hr
          replace hy : w.cell? ⟨b, o + k, none⟩ = some (.slice a2 n2 c2) := by
            have e1 : o + (k * rLL.width + 0) = o + k := by show o + (k * 1 + 0) = o + k; omega
            rw [← e1]; exact hy
          obtain ⟨b2, o2, rfl, _⟩ := RdR.at_ hr (by omega)
          obtain ⟨css, hl1, hl2, hl3⟩ := rows_of_RdR hr
          have HL2 : Hid (∀ j u, css.flatten[j]? = some u → wr.cell? ((⟨b2, o2, none⟩ : Addr).add j) = some u) := fun j u hu => by have h := hl2 j u hu; rw [Addr.add_lit] at h ⊢; exact box_at h hb
          have HC := Lib.hid (show css.length = (ls[k]'HK.out).length ∧ (ls[k]'HK.out).length = n2 from ⟨hl1, hn2⟩)
          have HL3 := Lib.hid hl3
          clear hr hcx hl1 hl2 hl3 hpos hn2
          rw [← hb.cell (p := ⟨b, o + k, none⟩) (World.block_lt_of_cell? w _ hy)] at hy
          have HS := Lib.hid (flatten_take_succL HK.out)
          have HL : Hid ((ls.take k).flatten.length + (ls[k]'HK.out).length ≤ 1000000000) := by
            have h1 := congrArg List.length (flatten_take_succL HK.out)
            rw [List.length_append] at h1
            have h2 := flatten_take_leL (ls := ls) (k := k + 1)
            have h3 := HT.out
            unfold Hid; omega
          have hB := hb.size
          have HB := Lib.hid hb; clear hb
          obtain ⟨a3, n3, c3, rfl⟩ := (FrR.rd hOwn HB.out).shape
          clear hOwn
          go_wp2_with (at_builtin; refine wpList_append_Fr (e := 22) (R := rL) (es := ls[k]'HK.out) 47 ti (.slice none 0 0) Try.underlying47 HI.out.1 HI.out.2.1 HI.out.2.2.1 HI.out.2.2.2 rfl (by decide) rfl _ _ rfl HO.out ⟨b2, o2, none⟩ n2 c2 css rfl rfl HC.out.1 HC.out.2 HL2.out HL3.out hB HL.out ?_; intro v2 w2 hown2 hgr2; rw [← HS.out] at hown2; have HO2 := Lib.hid hown2; clear hown2; have HG2 := Lib.hid hgr2; clear hgr2)
          go_roundg (n - (k + 1))
          case measure => omega
          case rel => exact ⟨k + 1, by omega, by go_num, HO2.out, HB.out.trans HG2.out⟩
        · obtain rfl : n = k := by omega
          have HF : Hid ((ls.take n).flatten = ls.flatten) := by unfold Hid; rw [← HE.out, List.take_length]
          have HB := Lib.hid hb; clear hb
          have HRD := Lib.hid (RdL_of_R (FrR.rd hOwn HB.out))
          clear hOwn
          go_wp2_with fail
          go_ret
          exact ⟨_, rfl, by rw [← HF.out]; exact HRD.out, HB.out⟩
end Go.Proofs.Ytbcaknmpbkapnaa
