/- Walks: EncodeProof. -/
import Derived.Test.YtlkhkoemfmjloaaCodec
import Derived.Test.YtlkhkoemfmjloaaProofK
import Derived.Lib.AppendZeros
namespace Go.Proofs.Ytlkhkoemfmjloaa
open Go.RowKit
set_option linter.unusedSimpArgs false
set_option linter.unusedVariables false

set_option maxHeartbeats 1000000 in
theorem slices_Grow_nil (n : Nat) (w : World) (hn : n ≤ 2000000000) :
    Calls Try.prog 74 #[.slice none 0 0, .int .i64 n] w fun e w' => ∃ v', e = .returned v' ∧ OwnI w' w.heap.size v' [] ∧ Below w.heap.size w w' := by
  by_cases h0 : n = 0
  · subst h0
    go_enter Try.func74, Try.ntmps74
    go_wp2_with fail
    go_ret
    exact ⟨_, rfl, OwnI.nil _ _, Below.refl _ _⟩
  · obtain ⟨i, hi, hz, hsz, hby⟩ := info_parts info_int
    have hp : 0 < n := by omega
    have hr := fun ty => Lib.run_append_nil_zeros (P := Try.prog) (ty := ty) w 29 3 3 i (.int .i64 0) .i64 .i64 Try.underlying29 Try.underlying3 hi hz n hp (by omega) (by omega) (by rw [hby]; omega)
    have hge := grownCap_ge w n 0 3
    have hle := grownCap_le_maxLen w n 0 3 (by unfold maxLen; omega)
    obtain ⟨cp, hcp⟩ : ∃ cp, grownCap w n 0 3 = cp := ⟨_, rfl⟩
    rw [hcp] at hr hge hle
    clear hcp
    have hO : Hid (OwnI (w.drew.alloc (.cells (Builtin.zeroCells (Value.int .i64 0).cells n ++ Builtin.zeroCells (Value.int .i64 0).cells (cp - n)) 3)) w.heap.size (.slice (some ⟨w.heap.size, 0, none⟩) 0 cp) []) := by
      refine ⟨AllI64.nil, World.ownsRow_made (w := w.drew) _ cp (Nat.le_refl _) hle ?_⟩
      rw [Array.size_append, size_zeroCells, size_zeroCells]; simp [Value.cells]; omega
    have HB : Hid (Below w.heap.size w (w.drew.alloc (.cells (Builtin.zeroCells (Value.int .i64 0).cells n ++ Builtin.zeroCells (Value.int .i64 0).cells (cp - n)) 3))) := by unfold Hid; exact (Below.refl _ _).drew.alloc (Nat.le_refl _) _
    have hcm : cp ≤ 9223372036854775807 := by unfold maxLen at hle; omega
    clear hi hz hsz hby hle
    go_enter Try.func74, Try.ntmps74
    go_wp2_with (at_builtin; refine Lib.wpList_append_run _ rfl _ _ _ _ rfl _ _ rfl rfl _ _ (hr _) ?_)
    go_ret
    exact ⟨_, rfl, hO.out, HB.out⟩
theorem flatten_take_succ {ls : List (List Int)} {k : Nat} (h : k < ls.length) : (ls.take (k + 1)).flatten = (ls.take k).flatten ++ ls[k] := by
  rw [List.take_succ_eq_append_getElem h, List.flatten_append]; simp
theorem flatten_length (ls : List (List Int)) : ls.flatten.length = total ls := by unfold total; rw [List.length_flatten]
set_option maxHeartbeats 1000000 in
theorem slices_Concat (v : Value) (ls : List (List Int)) (w : World) (h : RdL kInts w v ls) (hl : total ls ≤ 2000000000) :
    Calls Try.prog 51 #[v] w fun e w' => ∃ v', e = .returned v' ∧ OwnI w' w.heap.size v' ls.flatten ∧ Below w.heap.size w w' := by
  obtain ⟨a, n, c, rfl⟩ := h.shape
  have e := h.len
  have HE := Lib.hid e
  obtain ⟨k1, k2⟩ := h.capMax
  unfold maxLen at k2
  have HT : Hid (total ls ≤ 2000000000) := hl
  have H := Lib.hid h; clear h e hl
  go_enter Try.func51, Try.ntmps51
  go_wp2_with fail
  go_loopg [3, 11] n (fun g q i wr => ∃ (k z : Nat), k + g = n ∧ i = .int .i64 k ∧ q = .int .i64 z ∧ z ≤ 2000000000 ∧ Hid (z = total (ls.take k)) ∧ w = wr)
  case atStart => exact ⟨0, 0, by omega, rfl, rfl, by omega, by unfold Hid; simp [total_nil], rfl⟩
  case round =>
    obtain ⟨k, z, hkg, rfl, rfl, hz, hzz, rfl⟩ := hrel
    by_cases hlt : k < n
    · have HK : Hid (k < ls.length) := by unfold Hid; rw [HE.out]; exact hlt
      obtain ⟨b, o, rfl, us, hcx⟩ := H.out.at_ (by omega)
      obtain ⟨hy, hr⟩ := hcx k HK.out
      have HR := Lib.hid hr
      obtain ⟨a2, n2, c2, hu⟩ := Ints.shape hr
      have hn2 := Ints.len (hu ▸ hr)
      rw [hu] at hy
      clear hr hcx
      have hT := total_take_succ HK.out
      have hT2 := total_take_le (ls := ls) (k := k + 1)
      have hb : z + n2 ≤ 2000000000 := by have := HT.out; have := hzz.out; omega
      have HZ : Hid (z + n2 = total (ls.take (k + 1))) := by have := hzz.out; unfold Hid; omega
      clear hT hT2 hn2 hzz
      go_wp2_with fail
      go_roundg (n - (k + 1))
      case measure => omega
      case rel => exact ⟨k + 1, z + n2, by omega, by go_num, by go_num, hb, HZ.out, rfl⟩
    · obtain rfl : n = k := by omega
      go_wp2_with fail
      refine (slices_Grow_nil z _ hz).mono ?_
      rintro e w1 ⟨v1, rfl, hO1, hb1⟩
      have HO1 := Lib.hid hO1; clear hO1
      go_wp2_with fail
      go_loopg [6, 27] n (fun g ov i wr => ∃ k : Nat, k + g = n ∧ i = .int .i64 k ∧ OwnI wr w.heap.size ov ((ls.take k).flatten) ∧ Below w.heap.size w wr)
      case atStart => exact ⟨0, by omega, rfl, HO1.out, hb1⟩
      case round =>
        obtain ⟨k, hkg, rfl, hOwn, hb⟩ := hrel
        have HO := Lib.hid hOwn
        by_cases hlt : k < n
        · have HK : Hid (k < ls.length) := by unfold Hid; rw [HE.out]; exact hlt
          obtain ⟨b, o, rfl, us, hcx⟩ := H.out.at_ (by omega)
          obtain ⟨hy, hr⟩ := hcx k HK.out
          have HR := Lib.hid (Ints.below hr hb)
          obtain ⟨a2, n2, c2, hu⟩ := Ints.shape hr
          rw [hu] at hy HR
          clear hr hcx
          rw [← hb.cell (p := ⟨b, o + k, none⟩) (World.block_lt_of_cell? w _ hy)] at hy
          have HS := Lib.hid (flatten_take_succ HK.out)
          have HL : Hid ((ls.take k).flatten.length + (ls[k]'HK.out).length ≤ 1000000000000) := by
            have h1 := total_take_succ HK.out
            have h2 := total_take_le (ls := ls) (k := k + 1)
            have h3 := HT.out
            unfold Hid; rw [flatten_length]; omega
          have hB := hb.size
          have HB := Lib.hid hb; clear hb
          obtain ⟨a3, c3, rfl⟩ := hOwn.shape
          clear hOwn
          go_wp2_with (at_builtin; refine wpList_append_ints rfl _ _ rfl w.heap.size (.slice a3 _ c3) (.slice a2 n2 c2) ((ls.take k).flatten) (ls[k]'HK.out) rfl HO.out rfl HR.out HL.out hB ?_; intro v2 w2 hown2 hgr2; rw [← HS.out] at hown2; have HO2 := Lib.hid hown2; clear hown2; have HG2 := Lib.hid hgr2; clear hgr2)
          go_roundg (n - (k + 1))
          case measure => omega
          case rel => exact ⟨k + 1, by omega, by go_num, HO2.out, HB.out.trans (HO.out.grown HG2.out hB)⟩
        · obtain rfl : n = k := by omega
          have HF : Hid ((ls.take n).flatten = ls.flatten) := by unfold Hid; rw [← HE.out, List.take_length]
          clear hOwn
          have HB := Lib.hid hb; clear hb
          go_wp2_with fail
          go_ret
          exact ⟨_, rfl, by rw [← HF.out]; exact HO.out, HB.out⟩
/-- EncodeProof -/
def epL (d : ProofD) : List Int := [cnt d.c, cnt d.h, cnt d.r].flatten
def epB (d : ProofD) : Bool := recB (epL d)
def epR (d : ProofD) : List Int := if epB d = true then epL d else []
theorem epR_length (d : ProofD) : (epR d).length ≤ 400 := by
  unfold epR; split
  · rename_i h; exact recB_len h
  · simp
theorem epL_eq (d : ProofD) : epL d = (([] ++ cnt d.c) ++ cnt d.h) ++ cnt d.r := by simp [epL]
theorem keep_box3 {W0 w' : World} {g : Nat} {a b c : Value} (h0 : W0.cell? ⟨g, 0, none⟩ = some a) (h1 : W0.cell? ⟨g, 1, none⟩ = some b) (h2 : W0.cell? ⟨g, 2, none⟩ = some c) (hb : Below W0.heap.size W0 w') :
    Below W0.heap.size W0 w' ∧ w'.cell? ⟨g, 0, none⟩ = some a ∧ w'.cell? ⟨g, 1, none⟩ = some b ∧ w'.cell? ⟨g, 2, none⟩ = some c :=
  ⟨hb, (hb.cell (p := ⟨g, 0, none⟩) (World.block_lt_of_cell? W0 _ h0)).trans h0, (hb.cell (p := ⟨g, 1, none⟩) (World.block_lt_of_cell? W0 _ h1)).trans h1, (hb.cell (p := ⟨g, 2, none⟩) (World.block_lt_of_cell? W0 _ h2)).trans h2⟩
set_option maxHeartbeats 2000000 in
theorem spec_cProof (v : Value) (d : ProofD) (w : World) (h : RdP w v d) (hl : (d.cnt : Int) ≤ 1000000000) :
    Calls Try.prog 50 #[v] w fun e w' => ∃ v', e = .returned v' ∧ OwnI w' w.heap.size v' (epL d) ∧ Below w.heap.size w w' := by
  obtain ⟨a, b, c, rfl, ha, hb, hc⟩ := h
  unfold ProofD.cnt at hl
  have L1 : Hid (d.c.length + d.h.length + d.r.length ≤ 1000000000) := by unfold Hid; omega
  clear hl
  obtain ⟨a1, na, ca, rfl⟩ := Ints.shape ha
  obtain ⟨b1, nb, cb, rfl⟩ := Ints.shape hb
  obtain ⟨c1, nc, cc, rfl⟩ := Ints.shape hc
  obtain ⟨W, hW⟩ : ∃ W, W = w.alloc (.cells #[.slice a1 na ca, .slice b1 nb cb, .slice c1 nc cc] 46) := ⟨_, rfl⟩
  have A : Hid (Ints W (.slice a1 na ca) d.c) := by unfold Hid; rw [hW]; exact ha.alloc _
  have B : Hid (Ints W (.slice b1 nb cb) d.h) := by unfold Hid; rw [hW]; exact hb.alloc _
  have C : Hid (Ints W (.slice c1 nc cc) d.r) := by unfold Hid; rw [hW]; exact hc.alloc _
  have HWB : Hid (Below w.heap.size w W) := by unfold Hid; rw [hW]; exact (Below.refl _ _).alloc (Nat.le_refl _) _
  have p0 : W.cell? ⟨w.heap.size, 0, none⟩ = some (.slice a1 na ca) := by rw [hW]; simp [go_sem]
  have p1 : W.cell? ⟨w.heap.size, 1, none⟩ = some (.slice b1 nb cb) := by rw [hW]; simp [go_sem]
  have p2 : W.cell? ⟨w.heap.size, 2, none⟩ = some (.slice c1 nc cc) := by rw [hW]; simp [go_sem]
  have LA : Hid (([] : List Int).length + d.c.length ≤ 100000000000) := by have := L1.out; unfold Hid; simp only [List.length_nil]; omega
  have LB : Hid (([] ++ cnt d.c).length + d.h.length ≤ 100000000000) := by have := L1.out; unfold Hid; simp only [List.length_append, List.length_nil, cnt_length]; omega
  have LC : Hid ((([] ++ cnt d.c) ++ cnt d.h).length + d.r.length ≤ 100000000000) := by have := L1.out; unfold Hid; simp only [List.length_append, List.length_nil, cnt_length]; omega
  have hO0 : Hid (OwnI (W.alloc (.cells #[] 3)).drew W.heap.size (.slice (some ⟨W.heap.size, 0, none⟩) 0 0) []) := (OwnI.lit W (Nat.le_refl _) AllI64.nil rfl (by simp) 0 rfl).below (Below.refl _ _).drew
  clear ha hb hc
  go_enter Try.func50, Try.ntmps50
  go_wp2_with fail
  rw [← hW]
  clear hW
  go_region_held3 (fun w' => Below W.heap.size W w' ∧ w'.cell? ⟨w.heap.size, 0, none⟩ = some (.slice a1 na ca) ∧ w'.cell? ⟨w.heap.size, 1, none⟩ = some (.slice b1 nb cb) ∧ w'.cell? ⟨w.heap.size, 2, none⟩ = some (.slice c1 nc cc)) (first | exact keep_box3 p0 p1 p2 (Below.refl _ _).drew | exact keep_box3 p0 p1 p2 ((Below.refl _ _).alloc (Nat.le_refl _) _).drew | exact keep_box3 p0 p1 p2 (by assumption) | fail) ((first
    | (go_at_call 73; (with_reducible refine (spec_l4Put W _ (.slice a1 na ca) [] d.c _ hO0.out A.out ((Below.refl _ _).alloc (Nat.le_refl _) _).drew LA.out).mono ?_); rintro e w1 ⟨v1, rfl, x1, hb1⟩)
    | (go_at_call 73; (with_reducible refine (spec_l4Put W _ (.slice b1 nb cb) ([] ++ cnt d.c) d.h _ x1 B.out hb1 LB.out).mono ?_); rintro e w2 ⟨v2, rfl, x2, hb2⟩)
    | (go_at_call 73; (with_reducible refine (spec_l4Put W _ (.slice c1 nc cc) (([] ++ cnt d.c) ++ cnt d.h) d.r _ x2 C.out hb2 LC.out).mono ?_); rintro e w3 ⟨v3, rfl, x3, hb3⟩)
    | fail))
  go_wp2_with fail
  go_ret
  exact ⟨_, rfl, by rw [epL_eq]; exact x3.mono HWB.out.size, HWB.out.trans (hb3.mono HWB.out.size)⟩
theorem rd3 {W : World} {v1 v2 v3 : Value} {l1 l2 l3 : List Int} (h1 : Ints W v1 l1) (h2 : Ints W v2 l2) (h3 : Ints W v3 l3) :
    RdL kInts (W.alloc (.cells #[v1, v2, v3] 29)) (.slice (some ⟨W.heap.size, 0, none⟩) 3 3) [l1, l2, l3] := by
  refine ⟨some ⟨W.heap.size, 0, none⟩, 3, 3, rfl, rfl, Nat.le_refl _, by unfold maxLen; omega, .inr (.inr ⟨W.heap.size, 0, rfl, fun i => if i = 0 then v1 else if i = 1 then v2 else v3, fun i hi => ?_⟩)⟩
  simp only [List.length_cons, List.length_nil] at hi
  rcases (by omega : i = 0 ∨ i = 1 ∨ i = 2) with rfl | rfl | rfl
  · exact ⟨by simp [go_sem], h1.alloc _⟩
  · exact ⟨by simp [go_sem], h2.alloc _⟩
  · exact ⟨by simp [go_sem], h3.alloc _⟩
theorem total3 (l1 l2 l3 : List Int) : total [l1, l2, l3] = l1.length + l2.length + l3.length := by simp [total]; omega
set_option maxHeartbeats 1000000 in
theorem spec_EncodeProof (v : Value) (d : ProofD) (w : World) (hl : (d.cnt : Int) ≤ 1000000000) (h : RdP w v d) :
    Calls Try.prog 25 #[v] w fun e w' => ∃ v', e = .returned (.tuple #[v', .bool (epB d)]) ∧ InI w' w.heap.size w'.heap.size v' (epR d) ∧ Below w.heap.size w w' := by
  have hl0 := hl
  obtain ⟨a, b, c, rfl, ha, hb, hc⟩ := h
  unfold ProofD.cnt at hl
  have L1 : Hid (d.c.length + d.h.length + d.r.length ≤ 1000000000) := by unfold Hid; omega
  clear hl
  obtain ⟨a1, na, ca, rfl⟩ := Ints.shape ha
  obtain ⟨b1, nb, cb, rfl⟩ := Ints.shape hb
  obtain ⟨c1, nc, cc, rfl⟩ := Ints.shape hc
  obtain ⟨W, hW⟩ : ∃ W, W = w.alloc (.cells #[.slice a1 na ca, .slice b1 nb cb, .slice c1 nc cc] 46) := ⟨_, rfl⟩
  have A : Hid (Ints W (.slice a1 na ca) d.c) := by unfold Hid; rw [hW]; exact ha.alloc _
  have B : Hid (Ints W (.slice b1 nb cb) d.h) := by unfold Hid; rw [hW]; exact hb.alloc _
  have C : Hid (Ints W (.slice c1 nc cc) d.r) := by unfold Hid; rw [hW]; exact hc.alloc _
  have HWB : Hid (Below w.heap.size w W) := by unfold Hid; rw [hW]; exact (Below.refl _ _).alloc (Nat.le_refl _) _
  have p0 : W.cell? ⟨w.heap.size, 0, none⟩ = some (.slice a1 na ca) := by rw [hW]; simp [go_sem]
  have p1 : W.cell? ⟨w.heap.size, 1, none⟩ = some (.slice b1 nb cb) := by rw [hW]; simp [go_sem]
  have p2 : W.cell? ⟨w.heap.size, 2, none⟩ = some (.slice c1 nc cc) := by rw [hW]; simp [go_sem]
  have HV : Hid (∃ f : Value → Value, (∀ u : Value, (if recB (epL d) = true then u else .slice none 0 0) = f u) ∧ (∀ u, (f u = .slice none 0 0 ∧ epR d = []) ∨ (f u = u ∧ epR d = epL d))) := by
    unfold Hid
    cases hj : recB (epL d) with
    | false => exact ⟨fun _ => .slice none 0 0, fun u => by rw [if_neg (by simp)], fun u => .inl ⟨rfl, by unfold epR epB; rw [hj, if_neg (by simp)]⟩⟩
    | true => exact ⟨fun u => u, fun u => by rw [if_pos rfl], fun u => .inr ⟨rfl, by unfold epR epB; rw [hj, if_pos rfl]⟩⟩
  obtain ⟨f, hf1, hf2⟩ := HV.out
  clear HV
  have F1 := Lib.hid hf1; clear hf1
  have F2 := Lib.hid hf2; clear hf2
  have HJ : Hid (recB (epL d) = epB d) := rfl
  have HRP : Hid (RdP W (.agg #[.slice a1 na ca, .slice b1 nb cb, .slice c1 nc cc]) d) := ⟨_, _, _, rfl, A.out, B.out, C.out⟩
  clear ha hb hc
  go_enter Try.func25, Try.ntmps25
  go_wp2_with fail
  rw [← hW]
  clear hW
  refine (spec_cProof _ d W HRP.out hl0).mono ?_
  rintro e w1 ⟨v1, rfl, hO, hb1⟩
  have HO := Lib.hid hO; clear hO
  go_wp2_with fail
  refine (spec_l4If _ _ _ HO.out.ints).mono ?_
  rintro e w2 ⟨rfl, hb2⟩
  rw [F1.out, HJ.out]
  go_wp2_with fail
  go_ret2
  have hbb := keep_b hb2 (keep_b hb1 HWB.out)
  rcases F2.out v1 with ⟨q1, q2⟩ | ⟨q1, q2⟩
  · exact ⟨f v1, rfl, by rw [q1, q2]; exact InI.of_own (OwnI.nil _ _), hbb⟩
  · exact ⟨f v1, rfl, by rw [q1, q2]; exact InI.of_own ((HO.out.below hb2).mono HWB.out.size), hbb⟩
set_option maxRecDepth 100000 in
set_option maxHeartbeats 2000000 in
theorem impl_EncodeProof (v : Value) (d : ProofD) (w : World) (hl : (d.cnt : Int) ≤ 1000000000) (h : RdP w v d) :
    Calls Try.prog 27 #[v] w fun e w' => ∃ v', e = .returned (.tuple #[v', .bool (epB d)]) ∧ InI w' w.heap.size w'.heap.size v' (epR d) ∧ Below w.heap.size w w' := by
  obtain ⟨a, b, c, rfl, ha, hb, hc⟩ := h
  unfold ProofD.cnt at hl
  have L1 : Hid (d.c.length + d.h.length + d.r.length ≤ 1000000000) := by unfold Hid; omega
  clear hl
  obtain ⟨a1, na, ca, rfl⟩ := Ints.shape ha
  obtain ⟨b1, nb, cb, rfl⟩ := Ints.shape hb
  obtain ⟨c1, nc, cc, rfl⟩ := Ints.shape hc
  obtain ⟨W, hW⟩ : ∃ W, W = w.alloc (.cells #[.slice a1 na ca, .slice b1 nb cb, .slice c1 nc cc] 46) := ⟨_, rfl⟩
  have A : Hid (Ints W (.slice a1 na ca) d.c) := by unfold Hid; rw [hW]; exact ha.alloc _
  have B : Hid (Ints W (.slice b1 nb cb) d.h) := by unfold Hid; rw [hW]; exact hb.alloc _
  have C : Hid (Ints W (.slice c1 nc cc) d.r) := by unfold Hid; rw [hW]; exact hc.alloc _
  have HWB : Hid (Below w.heap.size w W) := by unfold Hid; rw [hW]; exact (Below.refl _ _).alloc (Nat.le_refl _) _
  have p0 : W.cell? ⟨w.heap.size, 0, none⟩ = some (.slice a1 na ca) := by rw [hW]; simp [go_sem]
  have p1 : W.cell? ⟨w.heap.size, 1, none⟩ = some (.slice b1 nb cb) := by rw [hW]; simp [go_sem]
  have p2 : W.cell? ⟨w.heap.size, 2, none⟩ = some (.slice c1 nc cc) := by rw [hW]; simp [go_sem]
  have HV : Hid (∃ f : Value → Value, (∀ u : Value, (if recB (epL d) = true then u else .slice none 0 0) = f u) ∧ (∀ u, (f u = .slice none 0 0 ∧ epR d = []) ∨ (f u = u ∧ epR d = epL d))) := by
    unfold Hid
    cases hj : recB (epL d) with
    | false => exact ⟨fun _ => .slice none 0 0, fun u => by rw [if_neg (by simp)], fun u => .inl ⟨rfl, by unfold epR epB; rw [hj, if_neg (by simp)]⟩⟩
    | true => exact ⟨fun u => u, fun u => by rw [if_pos rfl], fun u => .inr ⟨rfl, by unfold epR epB; rw [hj, if_pos rfl]⟩⟩
  obtain ⟨f, hf1, hf2⟩ := HV.out
  clear HV
  have F1 := Lib.hid hf1; clear hf1
  have F2 := Lib.hid hf2; clear hf2
  have HJ : Hid (recB (epL d) = epB d) := rfl
  have LA : Hid (d.c.length ≤ 100000000000) := by have := L1.out; unfold Hid; omega
  have LB : Hid (d.h.length ≤ 100000000000) := by have := L1.out; unfold Hid; omega
  have LC : Hid (d.r.length ≤ 100000000000) := by have := L1.out; unfold Hid; omega
  have LT : Hid (total [cnt d.c, cnt d.h, cnt d.r] ≤ 2000000000) := by have := L1.out; unfold Hid; rw [total3, cnt_length, cnt_length, cnt_length]; omega
  clear ha hb hc
  go_enter Try.func27, Try.ntmps27
  go_wp2_with fail
  rw [← hW]
  clear hW
  go_region_held3 (fun w' => Below W.heap.size W w' ∧ w'.cell? ⟨w.heap.size, 0, none⟩ = some (.slice a1 na ca) ∧ w'.cell? ⟨w.heap.size, 1, none⟩ = some (.slice b1 nb cb) ∧ w'.cell? ⟨w.heap.size, 2, none⟩ = some (.slice c1 nc cc)) (first | exact keep_box3 p0 p1 p2 (Below.refl _ _).drew | exact keep_box3 p0 p1 p2 (keep_b (by assumption) (‹Below W.heap.size W _ ∧ _›).1) | exact keep_box3 p0 p1 p2 ((‹Below W.heap.size W _ ∧ _›).1.alloc (‹Below W.heap.size W _ ∧ _›).1.size _) | fail) ((first
    | (go_at_call 48; (with_reducible refine (impl_counted (.slice a1 na ca) d.c _ (A.out.below (‹Below W.heap.size W _ ∧ _›).1) LA.out).mono ?_); rintro e w1 ⟨v1, rfl, x1, hb1⟩; obtain ⟨y1, z1, rfl⟩ := x1.shape)
    | (go_at_call 48; (with_reducible refine (impl_counted (.slice b1 nb cb) d.h _ (B.out.below (‹Below W.heap.size W _ ∧ _›).1) LB.out).mono ?_); rintro e w2 ⟨v2, rfl, x2, hb2⟩; obtain ⟨y2, z2, rfl⟩ := x2.shape)
    | (go_at_call 48; (with_reducible refine (impl_counted (.slice c1 nc cc) d.r _ (C.out.below (‹Below W.heap.size W _ ∧ _›).1) LC.out).mono ?_); rintro e w3 ⟨v3, rfl, x3, hb3⟩; obtain ⟨y3, z3, rfl⟩ := x3.shape)
    | (go_at_call 51; (with_reducible refine (slices_Concat _ [cnt d.c, cnt d.h, cnt d.r] _ (rd3 ((x1.ints.below hb2).below hb3) (x2.ints.below hb3) x3.ints) LT.out).mono ?_); rintro e w4 ⟨v4, rfl, x4, hb4⟩)
    | (go_at_call 49; (with_reducible refine (impl_record v4 (epL d) _ x4.ints).mono ?_); rintro e w5 ⟨rfl, hb5⟩; rw [F1.out, HJ.out])
    | fail))
  go_wp2_with fail
  go_ret2
  have hbb := HWB.out.trans ((‹Below W.heap.size W _ ∧ _›).1.mono HWB.out.size)
  rcases F2.out v4 with ⟨q1, q2⟩ | ⟨q1, q2⟩
  · exact ⟨f v4, rfl, by rw [q1, q2]; exact InI.of_own (OwnI.nil _ _), hbb⟩
  · exact ⟨f v4, rfl, by rw [q1, q2]; exact InI.of_own ((x4.below hb5).mono (by have := hb3.size; have := hb2.size; have := hb1.size; have := HWB.out.size; simp at *; omega)), hbb⟩
end Go.Proofs.Ytlkhkoemfmjloaa
