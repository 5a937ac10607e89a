/- Walks of the laws' own helpers on slices of integers. -/
import Derived.Test.YtapfceghgkmgoaaSlices
namespace Go.Proofs.Ytapfceghgkmgoaa
open Go.RowKit
set_option linter.unusedSimpArgs false
set_option linter.unusedVariables false

theorem nth_set {l : List Int} {k : Nat} {x : Int} {i : Nat} (h : k < l.length) : nth (l.set k x) i = if i = k then x else nth l i := by
  simp only [nth, List.getD, List.getElem?_set]
  by_cases hi : i = k
  · subst hi; simp [h]
  · have : ¬ k = i := fun e => hi e.symm
    simp [hi, this]
theorem AllI64.set {l : List Int} (h : AllI64 l) (k : Nat) {x : Int} (hx : I64 x) : AllI64 (l.set k x) := fun y hy => by
  rcases List.mem_or_eq_of_mem_set hy with h1 | rfl
  · exact h y h1
  · exact hx
/-- a store into a row of the call's own -/
theorem OwnI.stored {w : World} {B g n c : Nat} {l : List Int} (h : OwnI w B (.slice (some ⟨g, 0, none⟩) n c) l) (hn : l.length = n) (k : Nat) {x : Int} (hx : I64 x) :
    OwnI (w.setCell ⟨g, k, none⟩ (.int .i64 x)) B (.slice (some ⟨g, 0, none⟩) n c) (l.set k x) ∧ w.grownBy (w.setCell ⟨g, k, none⟩ (.int .i64 x)) (some g) := by
  subst hn
  have := h.2.stored k (.int .i64 x)
  refine ⟨⟨h.1.set k hx, ?_⟩, this.2⟩
  simpa [List.map_set] using this.1
theorem OwnI.at_ {w : World} {B n c : Nat} {a : Option Addr} {l : List Int} (h : OwnI w B (.slice a n c) l) (hn : 0 < l.length) :
    ∃ g, a = some ⟨g, 0, none⟩ ∧ B ≤ g ∧ l.length = n ∧ ∀ i, i < n → w.cell? ⟨g, i, none⟩ = some (.int .i64 (nth l i)) ∧ w.frozen? ⟨g, i, none⟩ = false := by
  have hn' := h.ints.len
  subst hn'
  obtain ⟨ha, hl, ⟨h1, h0⟩ | ⟨g, c', cur, h1, hb, hg, hnc, hcm, hcs, htake⟩⟩ := h
  · omega
  · cases h1
    refine ⟨g, rfl, hb, rfl, fun i hi => ?_⟩
    have hr : w.ownsRow B 3 1 (.slice (some ⟨g, 0, none⟩) l.length c) l.length (l.map (Value.int .i64)) := ⟨hl, .inr ⟨g, c, cur, rfl, hb, hg, hnc, hcm, hcs, htake⟩⟩
    have h1 := World.ownsRow.cellAt hr i (by omega)
    have h2 := World.ownsRow.frozenAt hr i
    refine ⟨?_, h2⟩
    rw [h1]
    simp [nth_eq hi, hi]
/-- the numbers from k0 on, n of them -/
def marks (k0 n : Nat) : List Int := (List.range n).map fun i => ((k0 + i : Nat) : Int)
theorem marks_length (k0 n : Nat) : (marks k0 n).length = n := by simp [marks]
theorem nth_marks {k0 n i : Nat} (h : i < n) : nth (marks k0 n) i = ((k0 + i : Nat) : Int) := by simp [nth, marks, List.getD, h]
/-- what a list has become when its first k elements have been marked -/
def markTo (k0 : Nat) (l : List Int) (k : Nat) : List Int := marks k0 k ++ l.drop k
theorem markTo_zero (k0 : Nat) (l : List Int) : markTo k0 l 0 = l := by simp [markTo, marks]
theorem markTo_all (k0 : Nat) (l : List Int) : markTo k0 l l.length = marks k0 l.length := by simp [markTo]
theorem markTo_length {k0 : Nat} {l : List Int} {k : Nat} (h : k ≤ l.length) : (markTo k0 l k).length = l.length := by simp [markTo, marks_length]; omega
theorem marks_succ (k0 k : Nat) : marks k0 (k + 1) = marks k0 k ++ [((k0 + k : Nat) : Int)] := by simp [marks, List.range_succ]
theorem markTo_succ {k0 : Nat} {l : List Int} {k : Nat} (h : k < l.length) : markTo k0 l (k + 1) = (markTo k0 l k).set k ((k0 + k : Nat) : Int) := by
  unfold markTo
  rw [marks_succ, List.set_append, if_neg (by rw [marks_length]; omega), marks_length, Nat.sub_self, List.append_assoc]
  congr 1
  rw [← List.getElem_cons_drop h]
  rfl

theorem take_succ_nth {l : List Int} {k : Nat} (h : k < l.length) : l.take (k + 1) = l.take k ++ [nth l k] := by
  rw [nth_eq h, List.take_succ_eq_append_getElem h]
theorem eq_of_nth {l1 l2 : List Int} (h : l1.length = l2.length) (h2 : ∀ i, i < l1.length → nth l1 i = nth l2 i) : l1 = l2 := by
  apply List.ext_getElem h
  intro i h1 h3
  have := h2 i h1
  rwa [nth_eq h1, nth_eq h3] at this
set_option maxHeartbeats 400000 in
theorem laws_eqIntS (v1 v2 : Value) (l1 l2 : List Int) (w : World) (h1 : Ints w v1 l1) (h2 : Ints w v2 l2) :
    Calls Try.prog 33 #[v1, v2] w fun e w' => e = .returned (.bool (decide (l1 = l2))) ∧ ∃ m, w' = w.drewN m := by
  obtain ⟨a1, n1, c1, rfl⟩ := h1.shape
  obtain ⟨a2, n2, c2, rfl⟩ := h2.shape
  have k1 := h1.capMax
  have k2 := h2.capMax
  unfold maxLen at k1 k2
  obtain ⟨k1, k1'⟩ := k1
  obtain ⟨k2, k2'⟩ := k2
  by_cases hn : n1 = n2
  · subst hn
    go_enter Try.func33, Try.ntmps33
    go_wp2
    go_loopg [5] n1 (fun g i wr => ∃ k m : Nat, k + g = n1 ∧ i = .int .i64 k ∧ Hid (∀ i, i < k → nth l1 i = nth l2 i) ∧ wr = w.drewN m)
    case atStart => exact ⟨0, 0, by omega, rfl, fun i h => by omega, rfl⟩
    case round =>
      obtain ⟨k, m, hk, rfl, H, rfl⟩ := hrel
      by_cases hlt : k < n1
      · obtain ⟨b1, o1, rfl, hc1⟩ := h1.at_ (by omega)
        obtain ⟨b2, o2, rfl, hc2⟩ := h2.at_ (by omega)
        have hx1 := hc1 k hlt
        have hx2 := hc2 k hlt
        clear hc1 hc2
        by_cases hx : nth l1 k = nth l2 k
        · have H' : Hid (∀ i, i < k + 1 → nth l1 i = nth l2 i) := fun i hi => by
            rcases Nat.lt_succ_iff_lt_or_eq.1 hi with h | rfl
            · exact H.out i h
            · exact hx
          have hxb : (nth l1 k != nth l2 k) = false := by simpa using hx
          clear hx H
          go_wp2
          go_quiet (fail)
          go_wp2
          go_roundg (n1 - (k + 1))
          case measure => omega
          case rel => exact ⟨k + 1, m + nq, by omega, by go_num, H', (by first | rfl | exact World.drewN_drewN _ _ _)⟩
        · have hxb : (nth l1 k != nth l2 k) = true := by simpa using hx
          have HR : Hid (decide (l1 = l2) = false) := by
            refine decide_eq_false fun e => hx (by rw [e])
          clear hx H
          go_wp2
          go_quiet (fail)
          go_wp2
          go_ret
          exact ⟨ret_bool (by first | (rw [HR.out]; done) | (rw [HR.out]; rfl) | exact HR.out.symm), m + nq, (by first | rfl | exact World.drewN_drewN _ _ _)⟩
      · have e1 := h1.len
        have e2 := h2.len
        have HR : Hid (decide (l1 = l2) = true) := decide_eq_true (eq_of_nth (e1.trans e2.symm) fun i hi => H.out i (by omega))
        clear e1 e2 H
        go_wp2
        go_ret
        exact ⟨ret_bool (by first | (rw [HR.out]; done) | (rw [HR.out]; rfl) | exact HR.out.symm), m, rfl⟩
  · have HR : Hid (decide (l1 = l2) = false) := by
      refine decide_eq_false fun e => hn ?_
      rw [← h1.len, ← h2.len, e]
    have hb : ((n1 : Int) != (n2 : Int)) = true := by rw [bne_iff_ne]; omega
    clear hn
    go_enter Try.func33, Try.ntmps33
    go_wp2
    go_ret
    exact ⟨ret_bool (by first | (rw [HR.out]; done) | (rw [HR.out]; rfl) | exact HR.out.symm), 0, rfl⟩
set_option maxHeartbeats 400000 in
theorem laws_szIntS (v : Value) (l : List Int) (left : Int) (w : World) (h : Ints w v l) (hl : I64 (left - l.length)) :
    Calls Try.prog 80 #[v, .int .i64 left] w fun e w' => e = .returned (.int .i64 (if left - l.length < 0 then -1 else left - l.length)) ∧ w = w' := by
  obtain ⟨a, n, c, rfl⟩ := h.shape
  have e := h.len
  obtain ⟨k1, k2⟩ := h.capMax
  unfold maxLen at k2
  rw [e] at hl ⊢
  clear e h
  obtain ⟨hl1, hl2⟩ := hl
  go_enter Try.func80, Try.ntmps80
  go_wp2
  all_goals go_ret
  all_goals exact ⟨by simp [*], rfl⟩
set_option maxHeartbeats 400000 in
theorem laws_heldIntS_yes (v : Value) (k0 : Nat) (l : List Int) (w : World) (h : Ints w v l) (hk : k0 + l.length ≤ 9223372036854775806) (hl : ∀ i, i < l.length → nth l i = (k0 + i : Nat)) :
    Calls Try.prog 36 #[v, .int .i64 k0] w fun e w' => e = .returned (.int .i64 (k0 + l.length : Nat)) ∧ ∃ m, w' = w.drewN m := by
  obtain ⟨a, n, c, rfl⟩ := h.shape
  have e := h.len
  obtain ⟨k1, k2⟩ := h.capMax
  unfold maxLen at k2
  rw [e] at hl hk ⊢
  clear e
  have HL := Lib.hid hl; clear hl
  go_enter Try.func36, Try.ntmps36
  go_wp2
  go_loopg [1, 5] n (fun g q i wr => ∃ k m : Nat, k + g = n ∧ i = .int .i64 k ∧ q = .int .i64 (k0 + k : Nat) ∧ wr = w.drewN m)
  case atStart => exact ⟨0, 0, by omega, rfl, rfl, rfl⟩
  case round =>
    obtain ⟨k, m, hk, rfl, rfl, rfl⟩ := hrel
    by_cases hlt : k < n
    · obtain ⟨b, o, rfl, hc⟩ := h.at_ (by omega)
      have hx := hc k hlt
      rw [HL.out k hlt] at hx
      clear hc
      go_wp2
      go_roundg (n - (k + 1))
      case measure => omega
      case rel => exact ⟨k + 1, m, by omega, by go_num, by go_num, (by first | rfl | exact World.drewN_drewN _ _ _)⟩
    · obtain rfl : n = k := by omega
      go_wp2
      go_ret
      exact ⟨rfl, m, rfl⟩
set_option maxHeartbeats 400000 in
theorem laws_markIntS (B : Nat) (v : Value) (k0 : Nat) (l : List Int) (w : World) (h : OwnI w B v l) (hB : B ≤ w.heap.size) (hk : k0 + l.length ≤ 9223372036854775806) :
    Calls Try.prog 35 #[v, .int .i64 k0] w fun e w' => e = .returned (.int .i64 (k0 + l.length : Nat)) ∧ OwnI w' B v (marks k0 l.length) ∧ w.grownBy w' v.ownBlock := by
  obtain ⟨a, n, c, rfl⟩ := h.ints.shape
  have e := h.ints.len
  obtain ⟨k1, k2⟩ := h.ints.capMax
  unfold maxLen at k2
  have hal : Hid (markTo k0 l n = marks k0 l.length) := by rw [← e]; exact markTo_all k0 l
  have hle : l.length ≤ n := by omega
  have hle2 : n ≤ l.length := by omega
  have HE : Hid (l.length = n) := e
  have hk' : k0 + n ≤ 9223372036854775806 := by omega
  clear e hk
  go_enter Try.func35, Try.ntmps35
  go_wp2
  go_loopg [1, 5] n (fun g q i wr => ∃ k : Nat, k + g = n ∧ i = .int .i64 k ∧ q = .int .i64 (k0 + k : Nat) ∧ OwnI wr B (.slice a n c) (markTo k0 l k) ∧ w.grownBy wr (Value.slice a n c).ownBlock)
  case atStart => exact ⟨0, by omega, rfl, rfl, by rw [markTo_zero]; exact h, World.grownBy.refl _ _⟩
  case round =>
    obtain ⟨k, hkg, rfl, rfl, hO, hG⟩ := hrel
    by_cases hlt : k < n
    · have hml : (markTo k0 l k).length = n := by rw [markTo_length (by omega)]; exact HE.out
      obtain ⟨g', rfl, hgB, _, hc⟩ := hO.at_ (by omega)
      obtain ⟨hx, hf⟩ := hc k hlt
      have hst := hO.stored hml k (x := ((k0 + k : Nat) : Int)) ⟨by omega, by omega⟩
      rw [← markTo_succ (by omega)] at hst
      have HS := Lib.hid hst
      clear hc hst hml
      go_wp2
      go_roundg (n - (k + 1))
      case measure => omega
      case rel =>
        refine ⟨k + 1, by omega, by go_num, by go_num, ?_, ?_⟩
        · simpa using HS.out.1
        · exact grownBy_trans hG (by simpa [Value.ownBlock] using HS.out.2)
    · obtain rfl : n = k := by omega
      rw [hal.out] at hO
      go_wp2
      go_ret
      exact ⟨ret_int (by rw [HE.out]), hO, hG⟩
/-- the first k elements, then noughts -/
def fillTo (l : List Int) (k : Nat) : List Int := l.take k ++ List.replicate (l.length - k) 0
theorem fillTo_zero (l : List Int) : fillTo l 0 = List.replicate l.length 0 := by simp [fillTo]
theorem fillTo_all (l : List Int) : fillTo l l.length = l := by simp [fillTo]
theorem fillTo_length {l : List Int} {k : Nat} (h : k ≤ l.length) : (fillTo l k).length = l.length := by simp [fillTo]; omega
theorem fillTo_succ {l : List Int} {k : Nat} (h : k < l.length) : fillTo l (k + 1) = (fillTo l k).set k (nth l k) := by
  unfold fillTo
  rw [take_succ_nth h, List.set_append, if_neg (by simp; omega)]
  have e : l.length - k = (l.length - (k + 1)) + 1 := by omega
  rw [List.length_take, Nat.min_eq_left (by omega), Nat.sub_self, e, List.replicate_succ, List.set_cons_zero, List.append_assoc]
  rfl
set_option maxHeartbeats 400000 in
theorem laws_toIntS (v : Value) (l : List Int) (w : World) (h : Ints w v l) (hl : l.length ≤ 1000000000) :
    Calls Try.prog 38 #[v] w fun e w' => ∃ v', e = .returned v' ∧ OwnI w' w.heap.size v' l ∧ Below w.heap.size w w' := by
  obtain ⟨a, n, c, rfl⟩ := h.shape
  have e := h.len
  have HE : Hid (l.length = n) := e
  have hn : n ≤ 1000000000 := by omega
  clear hl
  obtain ⟨k1, k2⟩ := h.capMax
  unfold maxLen at k2
  have hmk := fun u => run_make_row' (P := Try.prog) 37 3 (.int .i64 0) 8 Try.underlying37 info_int rfl .i64 .i64 n (by omega) (by omega) u
  have h0 : OwnI (w.alloc (.cells (madeCells #[.int .i64 0] n) 3)) w.heap.size (.slice (some ⟨w.heap.size, 0, none⟩) n n) (fillTo l 0) := by
    refine OwnI.lit w (Nat.le_refl _) ?_ ?_ ?_ n ?_
    · rw [fillTo_zero]; intro x hx; rw [List.eq_of_mem_replicate hx]; exact ⟨by decide, by decide⟩
    · rw [fillTo_zero, e, ← Array.toList_inj, toList_madeCells_one]; simp
    · rw [fillTo_zero]; simp; unfold maxLen; omega
    · rw [fillTo_zero]; simp [e]
  have hall : Hid (fillTo l n = l) := by rw [← e]; exact fillTo_all l
  have hlo : n ≤ l.length := by omega
  have hlo2 : l.length ≤ n := by omega
  clear e
  have H0 := Lib.hid h0; clear h0
  have H := Lib.hid h; clear h
  go_enter Try.func38, Try.ntmps38
  go_wp2
  go_loopg [4] n (fun g i wr => ∃ k : Nat, k + g = n ∧ i = .int .i64 k ∧ OwnI wr w.heap.size (.slice (some ⟨w.heap.size, 0, none⟩) n n) (fillTo l k) ∧ Below w.heap.size w wr)
  case atStart => exact ⟨0, by omega, rfl, H0.out, by (repeat (first | exact Below.refl _ _ | assumption | refine Below.drew ?_ | refine Below.alloc ?_ (by first | (simp; done) | (simp; omega)) _ | refine Below.setCell ?_ (by first | (simp; done) | (simp; omega)) _))⟩
  case round =>
    obtain ⟨k, hkg, rfl, hO, hG⟩ := hrel
    clear hmk
    by_cases hlt : k < n
    · have hml : (fillTo l k).length = n := by rw [fillTo_length (by omega)]; exact HE.out
      obtain ⟨b, o, rfl, hcx⟩ := (H.out.below hG).at_ (by omega)
      have hy := hcx k hlt
      obtain ⟨g', hg', hgB, _, hc⟩ := hO.at_ (by omega)
      obtain ⟨hx, hf⟩ := hc k hlt
      cases hg'
      have hst := hO.stored hml k (H.out.all.at_ k)
      rw [← fillTo_succ (by omega)] at hst
      have HS := Lib.hid hst
      clear hc hst hml hcx
      go_wp2
      go_roundg (n - (k + 1))
      case measure => omega
      case rel =>
        exact ⟨k + 1, by omega, by go_num, HS.out.1, hG.setCell (Nat.le_refl _) _⟩
    · obtain rfl : n = k := by omega
      rw [hall.out] at hO
      go_wp2
      go_ret
      exact ⟨_, rfl, hO, hG⟩
/-- nothing has turned but blocks from lo to hi (and new ones) -/
structure Within (lo hi : Nat) (w w' : World) : Prop where
  os : w'.os = w.os
  tape : w'.tape = w.tape
  output : w'.output = w.output
  size : w.heap.size ≤ w'.heap.size
  block : ∀ k, k < w.heap.size → (k < lo ∨ hi ≤ k) → w'.heap[k]? = w.heap[k]?
theorem Within.below {lo hi B : Nat} {w w' : World} (h : Within lo hi w w') (hB : B ≤ w.heap.size) (hlo : B ≤ lo) : Below B w w' :=
  ⟨h.os, h.tape, h.output, h.size, fun k hk => h.block k (by omega) (.inl (by omega))⟩
theorem Within.trans {lo hi : Nat} {w w1 w2 : World} (h : Within lo hi w w1) (h2 : Within lo hi w1 w2) : Within lo hi w w2 :=
  ⟨h2.os.trans h.os, h2.tape.trans h.tape, h2.output.trans h.output, Nat.le_trans h.size h2.size, fun k hk hr => (h2.block k (Nat.lt_of_lt_of_le hk h.size) hr).trans (h.block k hk hr)⟩
theorem Within.of_below {lo hi : Nat} {w w' : World} (h : Below w.heap.size w w') : Within lo hi w w' :=
  ⟨h.os, h.tape, h.output, h.size, fun k hk _ => h.block k hk⟩
theorem Within.mono {lo hi lo' hi' : Nat} {w w' : World} (h : Within lo hi w w') (h1 : lo' ≤ lo) (h2 : hi ≤ hi') : Within lo' hi' w w' :=
  ⟨h.os, h.tape, h.output, h.size, fun k hk hr => h.block k hk (by omega)⟩
theorem Below.next {a b c : World} (h : Below a.heap.size a b) (h2 : Below b.heap.size b c) : Below a.heap.size a c := h.trans (h2.mono h.size)
theorem Below.drewOf {a b : World} {m : Nat} (h : b = a.drewN m) : Below a.heap.size a b := h ▸ below_drewN (Below.refl _ _) m
/-- a row of the call's own, in a block from lo to hi -/
def InI (w : World) (lo hi : Nat) (v : Value) (l : List Int) : Prop := OwnI w lo v l ∧ ∀ k, v.ownBlock = some k → k < hi
theorem InI.of_own {w : World} {lo : Nat} {v : Value} {l : List Int} (h : OwnI w lo v l) : InI w lo w.heap.size v l := ⟨h, fun k hk => (h.lt k hk).2⟩
theorem InI.reads {w : World} {lo hi : Nat} {v : Value} {l : List Int} (h : InI w lo hi v l) : Ints w v l := h.1.ints
theorem InI.next {w w' : World} {lo hi : Nat} {v : Value} {l : List Int} (h : InI w lo hi v l) (hb : Below w.heap.size w w') : InI w' lo hi v l := ⟨h.1.below hb, h.2⟩
theorem InI.kept {w w' : World} {lo hi lo' hi' : Nat} {v : Value} {l : List Int} (h : InI w lo hi v l) (hw : Within lo' hi' w w') (hd : hi ≤ lo' ∨ hi' ≤ lo) : InI w' lo hi v l := by
  refine ⟨⟨h.1.1, ?_⟩, h.2⟩
  obtain ⟨h1, h2⟩ := h.1.2
  refine ⟨h1, ?_⟩
  rcases h2 with h2 | ⟨g, cap, cur, rfl, hb, hg, r⟩
  · exact .inl h2
  · refine .inr ⟨g, cap, cur, rfl, hb, ?_, r⟩
    have hk := h.2 g rfl
    rw [hw.block g (Array.getElem?_eq_some_iff.1 hg).1 (by omega)]
    exact hg
theorem laws_markIntS_in (lo hi : Nat) (v : Value) (k0 : Nat) (l : List Int) (w : World) (h : InI w lo hi v l) (hB : lo ≤ w.heap.size) (hk : k0 + l.length ≤ 9223372036854775806) :
    Calls Try.prog 35 #[v, .int .i64 k0] w fun e w' => e = .returned (.int .i64 (k0 + l.length : Nat)) ∧ InI w' lo hi v (marks k0 l.length) ∧ Within lo hi w w' := by
  refine (laws_markIntS lo v k0 l w h.1 hB hk).mono fun e w' ⟨h1, h2, h3⟩ => ⟨h1, ⟨h2, h.2⟩, ?_⟩
  refine ⟨h3.os, h3.tape, h3.output, h3.size, fun k hk hr => h3.block k hk fun e => ?_⟩
  have h4 := h.1.lt k e.symm
  have h5 := h.2 k e.symm
  omega
end Go.Proofs.Ytapfceghgkmgoaa
