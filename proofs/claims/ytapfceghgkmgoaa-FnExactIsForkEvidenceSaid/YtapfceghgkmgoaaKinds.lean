/- Kinds of values: what reads as data, and what the call owns (in blocks from lo to hi). -/
import Derived.Test.YtapfceghgkmgoaaLawsI
namespace Go.Proofs.Ytapfceghgkmgoaa
open Go.RowKit
set_option linter.unusedSimpArgs false
set_option linter.unusedVariables false

theorem Ints.len64 {w : World} {v : Value} {l : List Int} (h : Ints w v l) : I64 (l.length : Int) := by
  obtain ⟨a, n, c, e⟩ := h.shape
  have h1 := Ints.len (e ▸ h)
  have h2 := Ints.capMax (e ▸ h)
  unfold maxLen at h2
  exact ⟨by omega, by omega⟩
/-- a kind of Go value: `rd`: it reads as the data; `own`: besides, all its memory is the call's own, in blocks from lo to hi -/
structure Kind (δ : Type) where
  rd : World → Value → δ → Prop
  own : World → Nat → Nat → Value → δ → Prop
  rd_below : ∀ {w w' : World} {v : Value} {d : δ}, rd w v d → Below w.heap.size w w' → rd w' v d
  own_rd : ∀ {w : World} {lo hi : Nat} {v : Value} {d : δ}, own w lo hi v d → rd w v d
  own_frame : ∀ {w w' : World} {lo hi : Nat} {v : Value} {d : δ}, own w lo hi v d → (∀ k, lo ≤ k → k < hi → k < w.heap.size → w'.heap[k]? = w.heap[k]?) → own w' lo hi v d
  own_mono : ∀ {w : World} {lo hi lo' hi' : Nat} {v : Value} {d : δ}, own w lo hi v d → lo' ≤ lo → hi ≤ hi' → own w lo' hi' v d
section
variable {δ : Type} {K : Kind δ} {w w' : World} {lo hi lo' hi' : Nat} {v : Value} {d : δ}
theorem Kind.next (h : K.own w lo hi v d) (hb : Below w.heap.size w w') : K.own w' lo hi v d := K.own_frame h fun k _ _ hk => hb.block k hk
theorem Kind.kept (h : K.own w lo hi v d) (hw : Within lo' hi' w w') (hd : hi ≤ lo' ∨ hi' ≤ lo) : K.own w' lo hi v d := K.own_frame h fun k h1 h2 hk => hw.block k hk (by omega)
end
theorem ownsRow_frame {w w' : World} {B : Nat} {e : TypeId} {s n : Nat} {v : Value} {xs : List Value} (h : w.ownsRow B e s v n xs) (hf : ∀ g, v.ownBlock = some g → w'.heap[g]? = w.heap[g]?) : w'.ownsRow B e s v n xs := by
  refine ⟨h.1, ?_⟩
  rcases h.2 with h2 | ⟨g, cap, cur, rfl, hb, hg, r⟩
  · exact .inl h2
  · exact .inr ⟨g, cap, cur, rfl, hb, (hf g rfl).trans hg, r⟩
theorem ownsRow_mono {w : World} {B B' : Nat} {e : TypeId} {s n : Nat} {v : Value} {xs : List Value} (h : w.ownsRow B e s v n xs) (hB : B' ≤ B) : w.ownsRow B' e s v n xs := by
  refine ⟨h.1, ?_⟩
  rcases h.2 with h2 | ⟨g, cap, cur, e, hb, r⟩
  · exact .inl h2
  · exact .inr ⟨g, cap, cur, e, by omega, r⟩
theorem box_at {W w' : World} {g j : Nat} {x : Value} (h : W.cell? ⟨g, j, none⟩ = some x) (hb : Below W.heap.size W w') : w'.cell? ⟨g, j, none⟩ = some x :=
  (hb.cell (p := ⟨g, j, none⟩) (World.block_lt_of_cell? W _ h)).trans h
theorem within_at {w w' : World} {lo hi g j : Nat} {x : Value} (h : Within lo hi w w') (hc : w.cell? ⟨g, j, none⟩ = some x) (hd : g < lo ∨ hi ≤ g) : w'.cell? ⟨g, j, none⟩ = some x := by
  have := h.block g (World.block_lt_of_cell? w _ hc) hd
  rw [← hc]; simp [World.cell?, this]
/-- slices of integers -/
def kInts : Kind (List Int) where
  rd := Ints
  own := InI
  rd_below h hb := h.below hb
  own_rd h := h.reads
  own_frame := by
    intro w w' lo hi v d h hf
    have hlt := h.1.lt
    exact ⟨⟨h.1.1, ownsRow_frame h.1.2 fun g hg => hf g (hlt g hg).1 (h.2 g hg) (hlt g hg).2⟩, h.2⟩
  own_mono h h1 h2 := ⟨h.1.mono h1, fun k hk => Nat.lt_of_lt_of_le (h.2 k hk) h2⟩

/-- slices whose elements are of a kind, one cell an element -/
def RdL {δ : Type} (K : Kind δ) (w : World) (v : Value) (ds : List δ) : Prop :=
  ∃ a n c, v = .slice a n c ∧ ds.length = n ∧ n ≤ c ∧ c ≤ maxLen ∧ ((a = none ∧ n = 0 ∧ c = 0) ∨ (∃ ad, a = some ad ∧ n = 0) ∨
    ∃ b o, a = some ⟨b, o, none⟩ ∧ ∃ vs : Nat → Value, ∀ i (hi : i < ds.length), w.cell? ⟨b, o + i, none⟩ = some (vs i) ∧ K.rd w (vs i) ds[i])
def OwnL {δ : Type} (e : TypeId) (K : Kind δ) (w : World) (lo hi : Nat) (v : Value) (ds : List δ) : Prop :=
  ∃ (vs : List Value) (los his : Nat → Nat), vs.length = ds.length ∧ w.ownsRow lo e 1 v ds.length vs ∧ (∀ g, v.ownBlock = some g → g < hi ∧ ∀ i, i < ds.length → g < los i ∨ his i ≤ g) ∧
    (∀ i (h1 : i < vs.length) (h2 : i < ds.length), K.own w (los i) (his i) vs[i] ds[i] ∧ lo ≤ los i ∧ his i ≤ hi) ∧
    ∀ i j, i < ds.length → j < ds.length → i ≠ j → his i ≤ los j ∨ his j ≤ los i
theorem RdL.shape {δ : Type} {K : Kind δ} {w : World} {v : Value} {ds : List δ} (h : RdL K w v ds) : ∃ a n c, v = .slice a n c := by
  obtain ⟨a, n, c, e, _⟩ := h; exact ⟨a, n, c, e⟩
theorem RdL.len {δ : Type} {K : Kind δ} {w : World} {a : Option Addr} {n c : Nat} {ds : List δ} (h : RdL K w (.slice a n c) ds) : ds.length = n := by
  obtain ⟨_, _, _, e, h1, _⟩ := h; cases e; exact h1
theorem RdL.capMax {δ : Type} {K : Kind δ} {w : World} {a : Option Addr} {n c : Nat} {ds : List δ} (h : RdL K w (.slice a n c) ds) : n ≤ c ∧ c ≤ maxLen := by
  obtain ⟨_, _, _, e, h1, h2, h3, _⟩ := h; cases e; exact ⟨h2, h3⟩
theorem RdL.nil {δ : Type} (K : Kind δ) (w : World) : RdL K w (.slice none 0 0) [] := ⟨none, 0, 0, rfl, rfl, Nat.le_refl _, Nat.zero_le _, .inl ⟨rfl, rfl, rfl⟩⟩
theorem RdL.at_ {δ : Type} {K : Kind δ} {w : World} {a : Option Addr} {n c : Nat} {ds : List δ} (h : RdL K w (.slice a n c) ds) (hn : 0 < n) :
    ∃ b o, a = some ⟨b, o, none⟩ ∧ ∃ vs : Nat → Value, ∀ i (hi : i < ds.length), w.cell? ⟨b, o + i, none⟩ = some (vs i) ∧ K.rd w (vs i) ds[i] := by
  obtain ⟨_, _, _, e, h1, h2, h3, h4⟩ := h
  cases e
  rcases h4 with ⟨_, h4, _⟩ | ⟨_, _, h4⟩ | h4
  · omega
  · omega
  · exact h4
theorem OwnL.rd {δ : Type} {e : TypeId} {K : Kind δ} {w : World} {lo hi : Nat} {v : Value} {ds : List δ} (h : OwnL e K w lo hi v ds) : RdL K w v ds := by
  obtain ⟨vs, los, his, hl, hO, hg, hel, hd⟩ := h
  have hO' := hO
  obtain ⟨hl1, ⟨rfl, h0⟩ | ⟨g, c, cur, rfl, hb, hgc, hnc, hcm, hcs, htake⟩⟩ := hO
  · have : ds = [] := List.eq_nil_of_length_eq_zero h0
    subst this; exact RdL.nil K w
  · refine ⟨some ⟨g, 0, none⟩, ds.length, c, rfl, rfl, hnc, hcm, .inr (.inr ⟨g, 0, rfl, fun i => vs.getD i undef, fun i hi => ?_⟩)⟩
    have h1 := World.ownsRow.cellAt hO' i (by omega)
    refine ⟨?_, ?_⟩
    · rw [Nat.zero_add, h1]; simp [show i < vs.length by omega]
    · have := K.own_rd (hel i (by omega) hi).1
      simpa [List.getD, show i < vs.length by omega] using this
/-- slices of a kind as a kind -/
def kList {δ : Type} (e : TypeId) (K : Kind δ) : Kind (List δ) where
  rd := RdL K
  own := OwnL e K
  rd_below := by
    intro w w' v d h hb
    obtain ⟨a, n, c, e, h1, h2, h3, h4⟩ := h
    refine ⟨a, n, c, e, h1, h2, h3, ?_⟩
    rcases h4 with h4 | h4 | ⟨b, o, h4, vs, hc⟩
    · exact .inl h4
    · exact .inr (.inl h4)
    · refine .inr (.inr ⟨b, o, h4, vs, fun i hi => ?_⟩)
      obtain ⟨h5, h6⟩ := hc i hi
      exact ⟨(hb.cell (World.block_lt_of_cell? w _ h5)).trans h5, K.rd_below h6 hb⟩
  own_rd := OwnL.rd
  own_frame := by
    intro w w' lo hi v d h hf
    obtain ⟨vs, los, his, hl, hO, hg, hel, hd⟩ := h
    refine ⟨vs, los, his, hl, ownsRow_frame hO fun g hgv => hf g (hO.lt g hgv).1 (hg g hgv).1 (hO.lt g hgv).2, hg, fun i h1 h2 => ?_, hd⟩
    obtain ⟨h3, h4, h5⟩ := hel i h1 h2
    exact ⟨K.own_frame h3 fun k k1 k2 k3 => hf k (by omega) (by omega) k3, h4, h5⟩
  own_mono := by
    intro w lo hi lo' hi' v d h h1 h2
    obtain ⟨vs, los, his, hl, hO, hg, hel, hd⟩ := h
    exact ⟨vs, los, his, hl, ownsRow_mono hO h1, fun g hgv => ⟨by have := (hg g hgv).1; omega, (hg g hgv).2⟩, fun i k1 k2 => ⟨(hel i k1 k2).1, by have := (hel i k1 k2).2; omega, by have := (hel i k1 k2).2; omega⟩, hd⟩
abbrev kRows : Kind (List (List Int)) := kList 37 kInts
/-- the numbers in rows -/
def total (ls : List (List Int)) : Nat := (ls.map List.length).sum
theorem total_nil : total [] = 0 := rfl
theorem total_take_succ {ls : List (List Int)} {k : Nat} (h : k < ls.length) : total (ls.take (k + 1)) = total (ls.take k) + ls[k].length := by
  unfold total
  rw [List.take_succ_eq_append_getElem h, List.map_append, List.sum_append]
  exact congrArg (_ + ·) (by simp)
theorem total_take_le {ls : List (List Int)} {k : Nat} : total (ls.take k) ≤ total ls := by
  unfold total
  conv => rhs; rw [← List.take_append_drop k ls]
  rw [List.map_append, List.sum_append]; omega

set_option maxHeartbeats 1000000 in
theorem laws_szIntSS (v : Value) (ls : List (List Int)) (left : Int) (w : World) (h : RdL kInts w v ls) (h0 : 0 ≤ left) (h1 : left ≤ 1000000000) :
    Calls Try.prog 16 #[v, .int .i64 left] w fun e w' => (∃ r : Int, e = .returned (.int .i64 r) ∧ I64 r ∧ (0 ≤ r → (ls.length : Int) + total ls ≤ left ∧ r ≤ left)) ∧ w = w' := by
  obtain ⟨a, n, c, rfl⟩ := h.shape
  have e := h.len
  obtain ⟨k1, k2⟩ := h.capMax
  unfold maxLen at k2
  have HE := Lib.hid e
  have H := Lib.hid h; clear h
  by_cases hn : left - n < 0
  · clear e
    go_enter Try.func16, Try.ntmps16
    go_wp2_with fail
    go_ret
    exact ⟨⟨_, rfl, ⟨by decide, by decide⟩, fun h => by omega⟩, rfl⟩
  · clear e
    go_enter Try.func16, Try.ntmps16
    go_wp2_with fail
    go_loopg [1, 5] n (fun g q i wr => ∃ (k : Nat) (z : Int), k + g = n ∧ i = .int .i64 k ∧ q = .int .i64 z ∧ 0 ≤ z ∧ z ≤ left ∧ Hid (z = left - n - total (ls.take k)) ∧ w = wr)
    case atStart => exact ⟨0, left - n, by omega, rfl, rfl, by omega, by omega, by unfold Hid; simp [total_nil], rfl⟩
    case round =>
      obtain ⟨k, z, hkg, rfl, rfl, hz0, hz1, hz, rfl⟩ := hrel
      by_cases hlt : k < n
      · obtain ⟨b, o, rfl, vs, hcx⟩ := H.out.at_ (by omega)
        obtain ⟨hy, hr⟩ := hcx k (by rw [HE.out]; exact hlt)
        have HR := Lib.hid hr; clear hr hcx
        obtain ⟨m, hm⟩ : ∃ m, (ls[k]'(by rw [HE.out]; exact hlt)).length = m := ⟨_, rfl⟩
        have hmb : m ≤ 9223372036854775807 := by
          obtain ⟨a', n', c', e'⟩ := Ints.shape HR.out
          have hl := Ints.len (e' ▸ HR.out)
          have hc := Ints.capMax (e' ▸ HR.out)
          unfold maxLen at hc
          omega
        have HM := Lib.hid hm
        have hi : I64 (z - ((ls[k]'(by rw [HE.out]; exact hlt)).length : Int)) := by rw [hm]; exact ⟨by omega, by omega⟩
        have hT := total_take_succ (k := k) (ls := ls) (by rw [HE.out]; exact hlt)
        rw [hm] at hT
        have HT := Lib.hid hT; clear hT
        go_wp2_with fail
        refine (laws_szIntS _ _ _ _ HR.out hi).mono ?_
        rintro e w1 ⟨rfl, rfl⟩
        rw [HM.out]
        by_cases hs : z - (m : Int) < 0
        · rw [if_pos hs]
          go_wp2_with fail
          go_ret
          refine ⟨⟨_, rfl, ⟨by decide, by decide⟩, fun h => by omega⟩, rfl⟩
        · rw [if_neg hs]
          go_wp2_with fail
          go_roundg (n - (k + 1))
          case measure => omega
          case rel => exact ⟨k + 1, z - m, by omega, by go_num, rfl, by omega, by omega, by have := HT.out; have := hz.out; unfold Hid; omega, rfl⟩
      · obtain rfl : n = k := by omega
        go_wp2_with fail
        go_ret
        refine ⟨⟨_, rfl, ⟨by omega, by omega⟩, fun h => ?_⟩, rfl⟩
        have h1 := hz.out
        rw [List.take_of_length_le (by rw [HE.out]; exact Nat.le_refl _)] at h1
        rw [HE.out]
        omega
theorem keep_c2 {w wa w' : World} {b o b2 o2 : Nat} {x y : Value} (hS : Below w.heap.size w wa ∧ wa.cell? ⟨b, o, none⟩ = some x ∧ wa.cell? ⟨b2, o2, none⟩ = some y) (hb : Below wa.heap.size wa w') :
    Below w.heap.size w w' ∧ w'.cell? ⟨b, o, none⟩ = some x ∧ w'.cell? ⟨b2, o2, none⟩ = some y :=
  ⟨keep_b hb hS.1, (hb.cell (p := ⟨b, o, none⟩) (World.block_lt_of_cell? wa _ hS.2.1)).trans hS.2.1, (hb.cell (p := ⟨b2, o2, none⟩) (World.block_lt_of_cell? wa _ hS.2.2)).trans hS.2.2⟩
set_option maxHeartbeats 1000000 in
theorem laws_eqIntSS (v1 v2 : Value) (l1 l2 : List (List Int)) (w : World) (h1 : RdL kInts w v1 l1) (h2 : RdL kInts w v2 l2) :
    Calls Try.prog 22 #[v1, v2] w fun e w' => e = .returned (.bool (decide (l1 = l2))) ∧ Below w.heap.size w w' := by
  obtain ⟨a, n, c, rfl⟩ := h1.shape
  obtain ⟨a2, n2, c2, rfl⟩ := h2.shape
  have e := h1.len
  have e2 := h2.len
  obtain ⟨k1, k2⟩ := h1.capMax
  obtain ⟨k3, k4⟩ := h2.capMax
  unfold maxLen at k2 k4
  have HE := Lib.hid e
  have HE2 := Lib.hid e2
  have H1 := Lib.hid h1; clear h1
  have H2 := Lib.hid h2; clear h2
  by_cases hn : n = n2
  · subst hn
    clear e e2
    go_enter Try.func22, Try.ntmps22
    go_wp2_with fail
    go_loopg [5] n (fun g i wr => ∃ k : Nat, k + g = n ∧ i = .int .i64 k ∧ Hid (∀ j (h : j < l1.length) (h' : j < l2.length), j < k → l1[j] = l2[j]) ∧ Below w.heap.size w wr)
    case atStart => exact ⟨0, by omega, rfl, fun j _ _ h => by omega, Below.refl _ _⟩
    case round =>
      obtain ⟨k, hkg, rfl, hF, hb⟩ := hrel
      by_cases hlt : k < n
      · have HK1 : Hid (k < l1.length) := by unfold Hid; rw [HE.out]; exact hlt
        have HK2 : Hid (k < l2.length) := by unfold Hid; rw [HE2.out]; exact hlt
        obtain ⟨b, o, rfl, vs, hcx⟩ := H1.out.at_ (by omega)
        obtain ⟨hy, hr⟩ := hcx k HK1.out
        obtain ⟨b2, o2, rfl, vs2, hcx2⟩ := H2.out.at_ (by omega)
        obtain ⟨hy2, hr2⟩ := hcx2 k HK2.out
        have HR := Lib.hid (hr.below hb); clear hr hcx
        have HR2 := Lib.hid (hr2.below hb); clear hr2 hcx2
        rw [← hb.cell (p := ⟨b, o + k, none⟩) (World.block_lt_of_cell? w _ hy)] at hy
        rw [← hb.cell (p := ⟨b2, o2 + k, none⟩) (World.block_lt_of_cell? w _ hy2)] at hy2
        have z1 : (0 : Int) ≤ (k : Int) := by omega
        have z2 : (k : Int) < (n : Int) := by omega
        cases heq : decide (l1[k]'HK1.out = l2[k]'HK2.out) with
        | true =>
          have HX := Lib.hid heq; clear heq
          go_wp2_with fail
          go_region_held3 (fun w' => Below wr.heap.size wr w' ∧ w'.cell? ⟨b, o + k, none⟩ = some (vs k) ∧ w'.cell? ⟨b2, o2 + k, none⟩ = some (vs2 k)) (first | exact ⟨(Below.refl _ _).drew, hy, hy2⟩ | exact keep_c2 (by assumption) (by assumption)) ((go_at_call 33; (with_reducible refine (laws_eqIntS (vs k) (vs2 k) (l1[k]'HK1.out) (l2[k]'HK2.out) _ (HR.out.below (‹Below wr.heap.size wr _ ∧ _›).1) (HR2.out.below (‹Below wr.heap.size wr _ ∧ _›).1)).mono ?_); rintro e w2 ⟨rfl, m2, hw2⟩; have hb2 := Below.drewOf hw2; clear hw2; rw [HX.out]))
          go_wp2_with fail
          go_roundg (n - (k + 1))
          case measure => omega
          case rel =>
            refine ⟨k + 1, by omega, by go_num, fun j h h' hj => ?_, keep_b (‹Below wr.heap.size wr _ ∧ _›).1 hb⟩
            rcases Nat.lt_or_ge j k with hjk | hjk
            · exact hF.out j h h' hjk
            · obtain rfl : j = k := by omega
              exact of_decide_eq_true HX.out
        | false =>
          have HX := Lib.hid heq; clear heq
          have HR' : Hid (decide (l1 = l2) = false) := by
            refine decide_eq_false fun h => ?_
            have := of_decide_eq_false HX.out
            subst h; exact this rfl
          go_wp2_with fail
          go_region_held3 (fun w' => Below wr.heap.size wr w' ∧ w'.cell? ⟨b, o + k, none⟩ = some (vs k) ∧ w'.cell? ⟨b2, o2 + k, none⟩ = some (vs2 k)) (first | exact ⟨(Below.refl _ _).drew, hy, hy2⟩ | exact keep_c2 (by assumption) (by assumption)) ((go_at_call 33; (with_reducible refine (laws_eqIntS (vs k) (vs2 k) (l1[k]'HK1.out) (l2[k]'HK2.out) _ (HR.out.below (‹Below wr.heap.size wr _ ∧ _›).1) (HR2.out.below (‹Below wr.heap.size wr _ ∧ _›).1)).mono ?_); rintro e w2 ⟨rfl, m2, hw2⟩; have hb2 := Below.drewOf hw2; clear hw2; rw [HX.out]))
          go_wp2_with fail
          go_ret
          exact ⟨ret_bool (by first | (rw [HR'.out]; done) | (rw [HR'.out]; rfl) | exact HR'.out.symm), keep_b (‹Below wr.heap.size wr _ ∧ _›).1 hb⟩
      · obtain rfl : n = k := by omega
        have HR' : Hid (decide (l1 = l2) = true) := by
          refine decide_eq_true (List.ext_getElem (by rw [HE.out, HE2.out]) fun j h h' => hF.out j h h' (by rw [HE.out] at h; exact h))
        go_wp2_with fail
        go_ret
        exact ⟨ret_bool (by first | (rw [HR'.out]; done) | (rw [HR'.out]; rfl) | exact HR'.out.symm), hb⟩
  · have HR : Hid (decide (l1 = l2) = false) := decide_eq_false fun h => hn (by rw [← e, ← e2, h])
    clear e e2
    have hn1 : ¬ ((n : Int) = (n2 : Int)) := by omega
    go_enter Try.func22, Try.ntmps22
    go_wp2_with fail
    go_ret
    exact ⟨ret_bool (by first | (rw [HR.out]; done) | (rw [HR.out]; rfl) | exact HR.out.symm), Below.refl _ _⟩
theorem ownsRow_lift {w : World} {B : Nat} {e : TypeId} {s n : Nat} {v : Value} {xs : List Value} (h : w.ownsRow 0 e s v n xs) (hB : ∀ g, v.ownBlock = some g → B ≤ g) : w.ownsRow B e s v n xs := by
  refine ⟨h.1, ?_⟩
  rcases h.2 with h2 | ⟨g, cap, cur, rfl, hb, hg, r⟩
  · exact .inl h2
  · exact .inr ⟨g, cap, cur, rfl, hB g rfl, hg, r⟩
theorem laws_markIntS_own (lo hi : Nat) (v : Value) (k0 : Nat) (l : List Int) (w : World) (h : InI w lo hi v l) (hk : k0 + l.length ≤ 9223372036854775806) :
    Calls Try.prog 35 #[v, .int .i64 k0] w fun e w' => e = .returned (.int .i64 (k0 + l.length : Nat)) ∧ InI w' lo hi v (marks k0 l.length) ∧ Within lo hi w w' := by
  refine (laws_markIntS 0 v k0 l w (h.1.mono (Nat.zero_le _)) (Nat.zero_le _) hk).mono fun e w' ⟨h1, h2, h3⟩ => ⟨h1, ⟨⟨h2.1, ownsRow_lift h2.2 fun g hg => (h.1.lt g hg).1⟩, h.2⟩, ?_⟩
  refine ⟨h3.os, h3.tape, h3.output, h3.size, fun k hk hr => h3.block k hk fun e => ?_⟩
  have h4 := h.1.lt k e.symm
  have h5 := h.2 k e.symm
  omega
theorem info_ints : (Try.prog.info? 37).map (fun i => (i.zero, i.size, i.bytes)) = some (some (.slice none 0 0), 1, 24) := by kernel_rfl
set_option maxHeartbeats 1000000 in
theorem laws_toIntSS (v : Value) (ls : List (List Int)) (w : World) (h : RdL kInts w v ls) (hl : (ls.length : Int) + total ls ≤ 1000000000) :
    Calls Try.prog 19 #[v] w fun e w' => ∃ v', e = .returned v' ∧ OwnL 37 kInts w' w.heap.size w'.heap.size v' ls ∧ Below w.heap.size w w' := by
  obtain ⟨a, n, c, rfl⟩ := h.shape
  have e := h.len
  have HE := Lib.hid e
  have hn : n ≤ 1000000000 := by omega
  have HT : Hid (total ls ≤ 1000000000) := by unfold Hid; omega
  clear hl
  obtain ⟨k1, k2⟩ := h.capMax
  unfold maxLen at k2
  have hmk := fun u => run_make_row' (P := Try.prog) 23 37 (.slice none 0 0) 24 Try.underlying23 info_ints rfl .i64 .i64 n (by omega) (by omega) u
  have h0 : Hid ((w.alloc (.cells (madeCells #[.slice none 0 0] n) 37)).ownsRow w.heap.size 37 1 (.slice (some ⟨w.heap.size, 0, none⟩) n n) n (List.replicate n (.slice none 0 0))) := by
    have h1 := World.ownsRow_lit (e := 37) (size := 1) w (madeCells #[.slice none 0 0] n) n (Nat.le_refl _) (by unfold maxLen; omega) (by rw [← Array.length_toList, toList_madeCells_one]; simp)
    rw [toList_madeCells_one] at h1
    exact h1
  have H := Lib.hid h; clear h e
  go_enter Try.func19, Try.ntmps19
  go_wp2_with fail
  go_loopg [4] n (fun g i wr => ∃ (k : Nat) (vs : List Value) (los his : Nat → Nat), k + g = n ∧ i = .int .i64 k ∧ Hid (vs.length = n) ∧ wr.ownsRow w.heap.size 37 1 (.slice (some ⟨w.heap.size, 0, none⟩) n n) n vs ∧
    Hid (∀ i (h1 : i < vs.length) (h2 : i < ls.length), i < k → InI wr (los i) (his i) vs[i] ls[i] ∧ w.heap.size < los i ∧ los i ≤ his i ∧ his i ≤ wr.heap.size) ∧ Hid (∀ i j, i < j → j < k → his i ≤ los j) ∧ Below w.heap.size w wr)
  case atStart => exact ⟨0, _, fun _ => 0, fun _ => 0, by omega, rfl, by unfold Hid; simp, h0.out, fun i _ _ h => by omega, fun i j _ h => by omega, by (repeat (first | exact Below.refl _ _ | assumption | refine Below.drew ?_ | refine Below.alloc ?_ (by first | (simp; done) | (simp; omega)) _ | refine Below.setCell ?_ (by first | (simp; done) | (simp; omega)) _))⟩
  case round =>
    obtain ⟨k, vs, los, his, hkg, rfl, hvl, hO, hel, hd, hG⟩ := hrel
    clear hmk
    have hgs : w.heap.size < wr.heap.size := (hO.lt w.heap.size rfl).2
    by_cases hlt : k < n
    · have HK : Hid (k < ls.length) := by unfold Hid; rw [HE.out]; exact hlt
      obtain ⟨b, o, rfl, us, hcx⟩ := H.out.at_ (by omega)
      obtain ⟨hy, hr⟩ := hcx k HK.out
      have HR := Lib.hid (Ints.below hr hG); clear hr hcx
      rw [← hG.cell (p := ⟨b, o + k, none⟩) (World.block_lt_of_cell? w _ hy)] at hy
      have HL : Hid ((ls[k]'HK.out).length ≤ 1000000000) := by
        have := total_take_succ HK.out
        have h2 := total_take_le (ls := ls) (k := k + 1)
        have := HT.out
        unfold Hid; omega
      have HO := Lib.hid hO; clear hO
      have HG := Lib.hid hG; clear hG
      go_wp2_with fail
      refine (laws_toIntS _ _ _ HR.out HL.out).mono ?_
      rintro e w1 ⟨v', rfl, hX, hb1⟩
      have HX := Lib.hid hX
      obtain ⟨a', n', c', hv'⟩ := hX.ints.shape
      clear hX
      have HO1 : w1.ownsRow w.heap.size 37 1 (.slice (some ⟨w.heap.size, 0, none⟩) n n) n vs := ownsRow_frame HO.out fun g hg => hb1.block g (HO.out.lt g hg).2
      have hx := World.ownsRow.cellAt HO1 k (by omega)
      rw [List.getElem?_eq_getElem (show k < vs.length by rw [hvl.out]; exact hlt)] at hx
      have hf := World.ownsRow.frozenAt HO1 k
      have hst := HO1.stored k v'
      have HS := Lib.hid hst
      have hbs := hb1.size
      have HB1 := Lib.hid hb1; clear hb1 hst HO1
      subst hv'
      go_wp2_with fail
      go_roundg (n - (k + 1))
      case measure => omega
      case rel =>
        refine ⟨k + 1, vs.set k _, fun i => if i = k then wr.heap.size else los i, fun i => if i = k then w1.heap.size else his i, by omega, by go_num, by have := hvl.out; unfold Hid; simpa using this, HS.out.1, fun i h1 h2 h3 => ?_, fun i j hij hjk => ?_, ?_⟩
        · rcases Nat.lt_or_ge i k with hik | hik
          · obtain ⟨q1, q2, q3, q4⟩ := hel.out i (by simpa using h1) h2 hik
            dsimp only
            rw [if_neg (by omega), if_neg (by omega)]
            refine ⟨?_, q2, q3, by simp; omega⟩
            rw [List.getElem_set_ne (by omega)]
            refine kInts.own_frame (kInts.own_frame q1 fun k _ _ hk => HB1.out.block k hk) fun k' e1 e2 e3 => ?_
            exact heap_setCell_other _ _ _ _ (by simp; omega)
          · obtain rfl : i = k := by omega
            dsimp only
            rw [if_pos rfl, if_pos rfl]
            refine ⟨?_, hgs, hbs, by simp⟩
            rw [List.getElem_set_self]
            refine kInts.own_frame (InI.of_own HX.out) fun k' e1 e2 e3 => ?_
            exact heap_setCell_other _ _ _ _ (by simp; omega)
        · dsimp only
          by_cases hj : j = k
          · rw [if_neg (by omega), if_pos hj]
            exact (hel.out i (by have := hvl.out; omega) (by have := HE.out; omega) (by omega)).2.2.2
          · rw [if_neg (by omega), if_neg hj]
            exact hd.out i j hij (by omega)
        · exact (HG.out.trans (HB1.out.mono (by omega))).setCell (Nat.le_refl _) _
    · obtain rfl : n = k := by omega
      have HO := Lib.hid hO; clear hO
      go_wp2_with fail
      go_ret
      refine ⟨_, rfl, ⟨vs, los, his, by rw [hvl.out, HE.out], by rw [HE.out]; exact HO.out, fun g hg => ?_, fun i h1 h2 => ?_, fun i j hi hj hij => ?_⟩, hG⟩
      · cases hg
        refine ⟨hgs, fun i hi => .inl ?_⟩
        exact (hel.out i (by rw [hvl.out]; rw [HE.out] at hi; exact hi) hi (by rw [HE.out] at hi; exact hi)).2.1
      · obtain ⟨q1, q2, q3, q4⟩ := hel.out i h1 h2 (by rw [hvl.out] at h1; exact h1)
        exact ⟨q1, by omega, q4⟩
      · rw [HE.out] at hi hj
        rcases Nat.lt_or_ge i j with h | h
        · exact .inl (hd.out i j h hj)
        · exact .inr (hd.out j i (by omega) hi)
/-- rows of marks -/
def rowMarks (k0 : Nat) (ls : List (List Int)) : List (List Int) := (List.range ls.length).map fun i => marks (k0 + total (ls.take i)) (ls.getD i []).length
theorem rowMarks_length (k0 : Nat) (ls : List (List Int)) : (rowMarks k0 ls).length = ls.length := by simp [rowMarks]
theorem rowMarks_at {k0 : Nat} {ls : List (List Int)} {i : Nat} (h : i < ls.length) (h' : i < (rowMarks k0 ls).length) : (rowMarks k0 ls)[i] = marks (k0 + total (ls.take i)) ls[i].length := by
  simp [rowMarks, List.getD, h]
theorem total_rowMarks (k0 : Nat) (ls : List (List Int)) : total (rowMarks k0 ls) = total ls := by
  have : (rowMarks k0 ls).map List.length = ls.map List.length := by
    apply List.ext_getElem
    · simp [rowMarks_length]
    · intro i h1 h2
      simp only [List.length_map] at h1 h2
      simp only [List.getElem_map]
      rw [rowMarks_at h2, marks_length]
  unfold total; rw [this]
set_option maxHeartbeats 1000000 in
theorem laws_markIntSS (lo hi : Nat) (v : Value) (k0 : Nat) (ls : List (List Int)) (w : World) (h : OwnL 37 kInts w lo hi v ls) (hk : k0 + total ls ≤ 9223372036854775806) :
    Calls Try.prog 24 #[v, .int .i64 k0] w fun e w' => e = .returned (.int .i64 (k0 + total ls : Nat)) ∧ OwnL 37 kInts w' lo hi v (rowMarks k0 ls) ∧ Within lo hi w w' := by
  obtain ⟨a, n, c, rfl⟩ := h.rd.shape
  have e := h.rd.len
  have HE := Lib.hid e
  obtain ⟨k1, k2⟩ := h.rd.capMax
  unfold maxLen at k2
  have HK := Lib.hid hk; clear hk
  obtain ⟨vs, los, his, hvl, hO, hgl, hel, hd⟩ := h
  have HV := Lib.hid hvl; clear hvl
  have HO := Lib.hid hO; clear hO
  have HGL := Lib.hid hgl; clear hgl
  have HEL := Lib.hid hel; clear hel
  have HD := Lib.hid hd; clear hd
  clear e
  go_enter Try.func24, Try.ntmps24
  go_wp2_with fail
  go_loopg [1, 5] n (fun g q i wr => ∃ k : Nat, k + g = n ∧ i = .int .i64 k ∧ q = .int .i64 (k0 + total (ls.take k) : Nat) ∧ wr.ownsRow lo 37 1 (.slice a n c) ls.length vs ∧
    Hid (∀ i (h1 : i < vs.length) (h2 : i < ls.length), InI wr (los i) (his i) vs[i] (if i < k then marks (k0 + total (ls.take i)) ls[i].length else ls[i])) ∧ Within lo hi w wr)
  case atStart => exact ⟨0, by omega, rfl, rfl, HO.out, fun i h1 h2 => by rw [if_neg (by omega)]; exact (HEL.out i h1 h2).1, Within.of_below (Below.refl _ _)⟩
  case round =>
    obtain ⟨k, hkg, rfl, rfl, hO, hel, hW⟩ := hrel
    by_cases hlt : k < n
    · have HK1 : Hid (k < ls.length) := by unfold Hid; rw [HE.out]; exact hlt
      have HK2 : Hid (k < vs.length) := by unfold Hid; rw [HV.out]; exact HK1.out
      have hO' := hO
      obtain ⟨_, ⟨hh, h0⟩ | ⟨g, cap, cur, hh, hb, hg, r⟩⟩ := hO'
      · have := HK1.out; omega
      cases hh
      clear hb hg r
      have hx := World.ownsRow.cellAt hO k (by have := HK1.out; omega)
      rw [List.getElem?_eq_getElem HK2.out] at hx
      have hQ := hel.out k HK2.out HK1.out
      rw [if_neg (by omega)] at hQ
      have HQ := Lib.hid hQ; clear hQ
      have hT := total_take_succ HK1.out
      have hT2 := total_take_le (ls := ls) (k := k + 1)
      have HB : Hid (k0 + total (ls.take k) + (ls[k]'HK1.out).length ≤ 9223372036854775806) := by have := HK.out; unfold Hid; omega
      have HT := Lib.hid hT; clear hT hT2
      have HRow := Lib.hid hO; clear hO
      go_wp2_with fail
      refine (laws_markIntS_own (los k) (his k) _ (k0 + total (ls.take k)) _ _ HQ.out HB.out).mono ?_
      rintro e w1 ⟨rfl, hX, hW1⟩
      have HX := Lib.hid hX; clear hX
      have HW1 := Lib.hid hW1; clear hW1
      have hgk := (HGL.out g rfl).2
      go_wp2_with fail
      go_roundg (ls.length - (k + 1))
      case measure => omega
      case rel =>
        refine ⟨k + 1, by omega, by go_num, by rw [HT.out]; congr 2; omega, ownsRow_frame HRow.out fun g' hg' => ?_, fun i h1 h2 => ?_, hW.trans (HW1.out.mono (HEL.out k HK2.out HK1.out).2.1 (HEL.out k HK2.out HK1.out).2.2)⟩
        · cases hg'
          have := hgk k HK1.out
          exact HW1.out.block g (HRow.out.lt g rfl).2 (by omega)
        · by_cases hik : i = k
          · subst hik
            rw [if_pos (by omega)]
            exact HX.out
          · have := hel.out i h1 h2
            have hdd := HD.out i k h2 HK1.out hik
            have h3 := kInts.own_frame this (w' := w1) fun k' e1 e2 e3 => HW1.out.block k' e3 (by omega)
            by_cases hi2 : i < k
            · rw [if_pos hi2] at h3; rw [if_pos (by omega)]; exact h3
            · rw [if_neg hi2] at h3; rw [if_neg (by omega)]; exact h3
    · obtain rfl : n = k := by omega
      have HRow := Lib.hid hO; clear hO
      go_wp2_with fail
      go_ret
      refine ⟨ret_int (by rw [List.take_of_length_le (by rw [HE.out]; exact Nat.le_refl _)]), ⟨vs, los, his, by rw [rowMarks_length]; exact HV.out, by rw [rowMarks_length]; exact HRow.out, fun g hg => ?_, fun i h1 h2 => ?_, fun i j hi hj => ?_⟩, hW⟩
      · have := HGL.out g hg
        exact ⟨this.1, fun i hi => this.2 i (by rw [rowMarks_length] at hi; exact hi)⟩
      · rw [rowMarks_length] at h2
        have h3 := hel.out i h1 h2
        rw [if_pos (by rw [HE.out] at h2; exact h2)] at h3
        refine ⟨?_, (HEL.out i h1 h2).2⟩
        rw [rowMarks_at h2]
        exact h3
      · rw [rowMarks_length] at hi hj
        exact HD.out i j hi hj
end Go.Proofs.Ytapfceghgkmgoaa
