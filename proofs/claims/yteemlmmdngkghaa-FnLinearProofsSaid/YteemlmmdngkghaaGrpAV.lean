/- Draws: labels, linear statements (printed by gen_drl.py). -/
import Derived.Test.YteemlmmdngkghaaDrG5V
import Derived.Test.YteemlmmdngkghaaDrC1V
import Derived.Test.YteemlmmdngkghaaBgV
import Derived.Test.YteemlmmdngkghaaBaV
import Derived.Test.YteemlmmdngkghaaRegPV
namespace Go.Proofs.Yteemlmmdngkghaa
open Go.RowKit
set_option linter.unusedSimpArgs false
set_option linter.unusedVariables false

set_option maxRecDepth 100000 in
set_option maxHeartbeats 1000000 in
theorem spec_of (w0 : World) (g : Nat) (n : Int) (b o m c : Nat) (w : World) (h : Cur w0 w g n) (hb : Below w0.heap.size w0 w) (hn : n ≤ 3000000000000000) (hm : 0 < m) (hc : m ≤ 1000) (hl : ∀ k, k < m → ∃ s : ByteArray, s.size ≤ 100 ∧ w.cell? ⟨b, o + k, none⟩ = some (.string s)) (hbg : b ≠ g) :
    Calls Try.prog 237 #[.pointer (some ⟨g, 0, none⟩), .slice (some ⟨b, o, none⟩) m c] w fun e w' => (∃ s : ByteArray, e = .returned (.string s) ∧ s.size ≤ 100) ∧ Cur w0 w' g (n + 2) ∧ Within g (g + 1) w w' := by
  have H := Lib.hid h; clear h
  have HL := Lib.hid hl; clear hl
  go_enter Try.func237, Try.ntmps237
  go_wp2_with fail
  refine (spec_pick w0 g n _ _ H.out hb hn).mono ?_
  rintro e w1 ⟨⟨x, rfl, hx0, _, hx1, _⟩, hc, hw⟩
  have HC := Lib.hid hc; have HW := Lib.hid hw; clear hc hw
  obtain ⟨k, rfl⟩ := Int.eq_ofNat_of_zero_le hx0
  have hk : (k : Int) < (m : Int) := hx1 (by omega)
  clear hx1
  obtain ⟨s, hs, hcell⟩ := HL.out k (by omega)
  have hy := within_at HW.out hcell (by omega)
  clear hcell HL
  go_wp2_with fail
  go_ret
  exact ⟨⟨s, rfl, hs⟩, HC.out, HW.out⟩
set_option maxRecDepth 100000 in
set_option maxHeartbeats 2000000 in
theorem spec_label (w0 : World) (g : Nat) (n : Int) (w : World) (h : Cur w0 w g n) (hb : Below w0.heap.size w0 w) (hn : n ≤ 2000000000000000) :
    Calls Try.prog 131 #[.pointer (some ⟨g, 0, none⟩)] w fun e w' => (∃ s : ByteArray, e = .returned (.string s) ∧ s.size ≤ 100) ∧ Cur w0 w' g (n + 1000) ∧ Within g (g + 1) w w' := by
  have hgw := h.lt
  have hge := h.ge
  obtain ⟨V, hV⟩ : ∃ V, V = w.alloc (.cells #[.string { data := #[] }, .string { data := #[97] }, .string { data := #[118, 111, 116, 101] }, .string { data := #[109, 105, 120] }, .string { data := #[98, 111, 97, 114, 100, 32, 49] }, .string { data := #[107, 101, 121] }, .string { data := #[108, 111, 110, 103, 32, 108, 97, 98, 101, 108, 32, 119, 105, 116, 104, 32, 115, 101, 118, 101, 114, 97, 108, 32, 119, 111, 114, 100, 115, 32, 105, 110, 32, 105, 116] }] 9) := ⟨_, rfl⟩
  have hbV : Below w.heap.size w V := by rw [hV]; exact (Below.refl _ _).alloc (Nat.le_refl _) _
  have HBS : Hid (BoxN V w.heap.size 9 [.string { data := #[] }, .string { data := #[97] }, .string { data := #[118, 111, 116, 101] }, .string { data := #[109, 105, 120] }, .string { data := #[98, 111, 97, 114, 100, 32, 49] }, .string { data := #[107, 101, 121] }, .string { data := #[108, 111, 110, 103, 32, 108, 97, 98, 101, 108, 32, 119, 105, 116, 104, 32, 115, 101, 118, 101, 114, 97, 108, 32, 119, 111, 114, 100, 115, 32, 105, 110, 32, 105, 116] }]) := by unfold Hid; rw [hV]; exact BoxN.new w [.string { data := #[] }, .string { data := #[97] }, .string { data := #[118, 111, 116, 101] }, .string { data := #[109, 105, 120] }, .string { data := #[98, 111, 97, 114, 100, 32, 49] }, .string { data := #[107, 101, 121] }, .string { data := #[108, 111, 110, 103, 32, 108, 97, 98, 101, 108, 32, 119, 105, 116, 104, 32, 115, 101, 118, 101, 114, 97, 108, 32, 119, 111, 114, 100, 115, 32, 105, 110, 32, 105, 116] }] _
  have HC := Lib.hid (h.keep hbV)
  have HWV : Hid (Within g (g + 1) w V) := Within.of_below hbV
  have HBV : Hid (Below w0.heap.size w0 V) := hb.trans (hbV.mono hb.size)
  clear h hb hbV
  go_enter Try.func131, Try.ntmps131
  go_wp2_with fail
  rw [← hV]
  have HL : Hid (∀ k, k < 7 → ∃ s : ByteArray, s.size ≤ 100 ∧ V.cell? ⟨w.heap.size, 0 + k, none⟩ = some (.string s)) := by
    unfold Hid
    intro k hk
    rw [Nat.zero_add]
    match k, hk with
    | 0, _ => exact ⟨_, by decide, HBS.out.cell (i := 0) rfl⟩
    | 1, _ => exact ⟨_, by decide, HBS.out.cell (i := 1) rfl⟩
    | 2, _ => exact ⟨_, by decide, HBS.out.cell (i := 2) rfl⟩
    | 3, _ => exact ⟨_, by decide, HBS.out.cell (i := 3) rfl⟩
    | 4, _ => exact ⟨_, by decide, HBS.out.cell (i := 4) rfl⟩
    | 5, _ => exact ⟨_, by decide, HBS.out.cell (i := 5) rfl⟩
    | 6, _ => exact ⟨_, by decide, HBS.out.cell (i := 6) rfl⟩
    | k + 7, h => omega
  clear hV HBS
  refine (spec_of w0 g n w.heap.size 0 7 7 _ HC.out HBV.out (by omega) (by omega) (by omega) HL.out (by omega)).mono ?_
  rintro e w1 ⟨⟨s, rfl, hs⟩, hc, hw⟩
  replace HC := Lib.hid hc
  have HW1 := Lib.hid (HWV.out.trans hw)
  have HB1 := Lib.hid (hw.belowOf HBV.out hge)
  clear hc hw HL HWV HBV
  go_wp2_with fail
  refine (spec_one w0 g _ 16 _ HC.out HB1.out (by omega)).mono ?_
  rintro e w2 ⟨⟨q, rfl⟩, hc, hw⟩
  replace HC := Lib.hid hc
  have HW2 := Lib.hid (HW1.out.trans hw)
  have HB2 := Lib.hid (hw.belowOf HB1.out hge)
  clear hc hw HW1 HB1
  cases q with
  | false =>
    go_wp2_with fail
    go_ret
    exact ⟨⟨s, rfl, hs⟩, HC.out.mono (by omega), HW2.out⟩
  | true =>
    go_wp2_with fail
    go_loopg [3] 41 (fun gk sv wr => ∃ s : ByteArray, sv = .string s ∧ s.size ≤ 100 ∧ 41 ≤ s.size + gk ∧ gk ≤ 41 ∧ Cur w0 wr g (n + 4 + 2 * (41 - (gk : Int))) ∧ Within g (g + 1) w2 wr)
    case atStart => exact ⟨s, rfl, hs, by omega, by omega, HC.out.mono (by omega), Within.refl _ _ _⟩
    case round =>
      obtain ⟨s', rfl, hs', hsg, hgk, hC, hWr⟩ := hrel
      have HCr := Lib.hid hC
      have HWr := Lib.hid hWr
      clear hC hWr
      go_wp2_with fail
      refine (spec_pick w0 g _ 2 _ HCr.out (HWr.out.belowOf HB2.out hge) (by omega)).mono ?_
      rintro e w3 ⟨⟨y, rfl, hy0, _, hy2, _⟩, hc, hw⟩
      replace hy2 := hy2 (by omega)
      have HC3 := Lib.hid hc
      have HW3 := Lib.hid (HWr.out.trans hw)
      clear hc hw
      have ewy : IntKind.i64.wrap (40 + y) = 40 + y := IntWalk.i64_in _ (by omega)
      by_cases hlt : (s'.size : Int) < 40 + y
      · obtain ⟨f, rfl⟩ : ∃ f, gk = f + 1 := ⟨gk - 1, by omega⟩
        go_wp2_with fail
        go_roundg f
        case measure => omega
        case rel => exact ⟨_, rfl, by rw [ByteArray.size_append]; show s'.size + 1 ≤ 100; omega, by rw [ByteArray.size_append]; show 41 ≤ s'.size + 1 + f; omega, by omega, HC3.out.mono (by omega), HW3.out⟩
      · go_wp2_with fail
        go_ret
        exact ⟨⟨s', rfl, hs'⟩, HC3.out.mono (by omega), HW2.out.trans HW3.out⟩
/-- a slice of own rows since block B: the row of slices, and its slices -/
def RowS (w : World) (B : Nat) (v : Value) (ls : List (List Int)) : Prop :=
  ∃ vs : List Value, vs.length = ls.length ∧ w.ownsRow B 26 1 v ls.length vs ∧ ∀ i (h1 : i < vs.length) (h2 : i < ls.length), OwnI w B vs[i] ls[i]
theorem RowS.of_ownL {w : World} {lo hi : Nat} {v : Value} {ls : List (List Int)} (h : OwnL 26 kInts w lo hi v ls) : RowS w lo v ls := by
  obtain ⟨vs, los, his, hl, hO, hg, hel, hd⟩ := h
  exact ⟨vs, hl, hO, fun i h1 h2 => (hel i h1 h2).1.1.mono (hel i h1 h2).2.1⟩
theorem RowS.rd {w : World} {B : Nat} {v : Value} {ls : List (List Int)} (h : RowS w B v ls) : RdL kInts w v ls := by
  obtain ⟨vs, hl, hO, hel⟩ := h
  have hO' := hO
  obtain ⟨hl1, ⟨rfl, h0⟩ | ⟨g, c, cur, rfl, hb, hgc, hnc, hcm, hcs, htake⟩⟩ := hO
  · have : ls = [] := List.eq_nil_of_length_eq_zero h0
    subst this; exact RdL.nil _ w
  · refine ⟨some ⟨g, 0, none⟩, ls.length, c, rfl, rfl, hnc, hcm, .inr (.inr ⟨g, 0, rfl, fun i => vs.getD i undef, fun i hi => ?_⟩)⟩
    have h1 := World.ownsRow.cellAt hO' i (by omega)
    refine ⟨?_, ?_⟩
    · rw [Nat.zero_add, h1]; simp [show i < vs.length by omega]
    · have : kInts.rd w vs[i] ls[i] := (hel i (by omega) hi).ints
      simpa [List.getD, show i < vs.length by omega] using this
theorem RowS.sinceS {w w' : World} {B : Nat} {v : Value} {ls : List (List Int)} (h : RowS w B v ls) (hs : w.heap.size ≤ w'.heap.size) (hb : ∀ k, B ≤ k → k < w.heap.size → w'.heap[k]? = w.heap[k]?) : RowS w' B v ls := by
  obtain ⟨vs, hl, hO, hel⟩ := h
  exact ⟨vs, hl, ownsRow_frame hO fun g hg => hb g (hO.lt g hg).1 (hO.lt g hg).2, fun i h1 h2 => (hel i h1 h2).since hs hb⟩
theorem RowS.since {w : World} {B B' : Nat} {v : Value} {ls : List (List Int)} (h : RowS w B v ls) (hB : B' ≤ B) : Since B' w (fun u => RdL kInts u v ls) := fun u hs hb => (h.sinceS hs fun k hk hlt => hb k (by omega) hlt).rd
theorem RowS.within {w w' : World} {B g : Nat} {v : Value} {ls : List (List Int)} (h : RowS w B v ls) (hw : Within g (g + 1) w w') (hg : g < B) : RowS w' B v ls := h.sinceS hw.size fun k hk hlt => hw.block k hlt (.inr (by omega))
theorem RowS.below {w w' : World} {B : Nat} {v : Value} {ls : List (List Int)} (h : RowS w B v ls) (hb : Below w.heap.size w w') : RowS w' B v ls := h.sinceS hb.size fun k _ hlt => hb.block k hlt
theorem OwnI.apartL {w : World} {B : Nat} {x v : Value} {l : List Int} {n : Nat} {vs : List Value} (h : OwnI w B x l) (hO : w.ownsRow B 26 1 v n vs) : ∀ k, x.ownBlock = some k → ∀ q, v.ownBlock = some q → k ≠ q := by
  intro k hk q hq e
  subst e
  obtain ⟨h1, h2⟩ := h
  rcases h2.2 with ⟨rfl, _⟩ | ⟨g1, c1, cur1, rfl, _, hg1, r1⟩
  · cases hk
  · rcases hO.2 with ⟨rfl, _⟩ | ⟨g2, c2, cur2, rfl, _, hg2, r2⟩
    · cases hq
    · cases hk
      cases hq
      rw [hg1] at hg2
      have e := Option.some.inj hg2
      injection e with e1 e2
      exact absurd e2 (by decide)
/-- one slice more, which may be one of before -/
theorem run_append_S {w : World} {B : Nat} {v x : Value} {ls : List (List Int)} {l : List Int} (h : RowS w B v ls) (hx : OwnI w B x l) (hB : B ≤ w.heap.size)
    (g c : Nat) (hc : w.cell? ⟨g, 0, none⟩ = some x) (hlen : ls.length ≤ 1000000000) (ty : TypeId) :
    ∃ v' w', (Builtin.append_ #[59, 59] ty #[v, .slice (some ⟨g, 0, none⟩) 1 c]).run Try.prog w = .ok v' w' ∧ RowS w' B v' (ls ++ [l]) ∧ Below B w w' := by
  obtain ⟨i, hi', hz, hsz, hby⟩ := info_parts info_intsA
  obtain ⟨vs, hvl, hO, hel⟩ := h
  obtain ⟨xa, xn, xc, rfl⟩ := Ints.shape hx.ints
  have hnews : ∀ j u, [Value.slice xa xn xc][j]? = some u → w.cell? ((⟨g, 0, none⟩ : Addr).add j) = some u := fun j u hu => by
    cases j with
    | zero => simp at hu; subst hu; simpa [Addr.add] using hc
    | succ j => simp at hu
  obtain ⟨v', w', hr, h1, h2, _⟩ := run_append_own (P := Try.prog) w B 59 ty 26 i (.slice none 0 0) 1 24 Try.underlying59 hi' hz hsz hby rfl (by decide) v ls.length vs hO ⟨g, 0, none⟩ 1 c [.slice xa xn xc] rfl hnews (fun u hu => by simp at hu; subst hu; rfl) (by unfold maxLen; omega) (by omega) hB
  have hsz2 := h2.size
  have hfr : ∀ k, k < w.heap.size → (∀ q, v.ownBlock = some q → k ≠ q) → w'.heap[k]? = w.heap[k]? := fun k hk hq => h2.block k hk (fun e => hq k e.symm rfl)
  have keep : ∀ {y : Value} {d : List Int}, OwnI w B y d → OwnI w' B y d := fun {y d} hy => by
    have hlt := hy.lt
    have hap := hy.apartL hO
    exact ⟨hy.1, ownsRow_frame hy.2 fun k hk => hfr k (hlt k hk).2 (hap k hk)⟩
  refine ⟨v', w', hr, ⟨vs ++ [.slice xa xn xc], by simp [hvl], by simpa using h1, fun j k1 k2 => ?_⟩, ?_⟩
  · simp only [List.length_append, List.length_cons, List.length_nil] at k1 k2
    by_cases hjn : j = ls.length
    · have e1 : (vs ++ [Value.slice xa xn xc])[j] = .slice xa xn xc := by simp [hjn, ← hvl]
      have e2 : (ls ++ [l])[j] = l := by simp [hjn]
      rw [e1, e2]; exact keep hx
    · rw [List.getElem_append_left (by omega), List.getElem_append_left (by omega)]
      exact keep (hel j (by omega) (by omega))
  · exact (Below.refl B w).grown h2 hB (fun k hk => (hO.lt k hk).1)
theorem wpList_append_S {ops : Array Oper} {rest : List Oper} {o : Oper} {ac : Act} {w : World} {Q : Exit → Act → World → Prop} (hgd : o.guard = none) (s y : Operand)
    (ho : o.op = .call { callee := .builtin .append, args := #[s, y], argTypes := #[59, 59] })
    (B : Nat) (v x : Value) (ls : List (List Int)) (l : List Int) (g c : Nat) (hs : ac.eval s = v) (hy : ac.eval y = .slice (some ⟨g, 0, none⟩) 1 c) (hown : RowS w B v ls) (hx : OwnI w B x l) (hB : B ≤ w.heap.size)
    (hc : w.cell? ⟨g, 0, none⟩ = some x) (hlen : ls.length ≤ 1000000000)
    (hK : ∀ v' w', RowS w' B v' (ls ++ [l]) → Below B w w' → wpList Try.prog ops Q rest (ac.put o.dst v') w') : wpList Try.prog ops Q (o :: rest) ac w := by
  obtain ⟨v', w', hr, h1, h2⟩ := run_append_S hown hx hB g c hc hlen o.type
  refine wpList_plain hgd fun K hK' => ?_
  unfold Oper.wp execOp
  simp only [ho, resolve, invoke, builtin, Sem.run_bind, Sem.run_pure, Result.andThen_ok, List.map_toArray, List.map_cons, List.map_nil, hs, hy, hr]
  exact hK' _ _ (hK v' w' h1 h2)
theorem OwnI.keptL {w : World} {B b : Nat} {x v : Value} {l : List Int} {n : Nat} {vs : List Value} (h : OwnI w B x l) (hO : w.ownsRow B 26 1 v n vs) (hv : v.ownBlock = some b) (j : Nat) (y : Value) : OwnI (w.setCell ⟨b, j, none⟩ y) B x l :=
  h.kept (grownBy_setCell _ b j y) (by
    cases e : x.ownBlock with
    | none => exact .inl rfl
    | some k => exact .inr fun e2 => h.apartL hO k e b hv (Option.some.inj e2))
/-- the first slice of an own slice of slices; another in its place -/
theorem RowS.first {w : World} {B : Nat} {v : Value} {l : List Int} {ls : List (List Int)} (h : RowS w B v (l :: ls)) :
    ∃ b c v0, v = .slice (some ⟨b, 0, none⟩) (ls.length + 1) c ∧ B ≤ b ∧ b < w.heap.size ∧ w.cell? ⟨b, 0, none⟩ = some v0 ∧ (∀ j, w.frozen? ⟨b, j, none⟩ = false) ∧ OwnI w B v0 l ∧
      ∀ y l', (∀ u, Ints u v0 l → Ints u y l') → Since B (w.setCell ⟨b, 0, none⟩ y) (fun u => RdL kInts u v (l' :: ls)) := by
  obtain ⟨vs, hl, hO, hel⟩ := h
  have hO' := hO
  obtain ⟨hl1, ⟨rfl, h0⟩ | ⟨b, c, cur, rfl, hb, hgc, hnc, hcm, hcs, htake⟩⟩ := hO
  · simp at h0
  · cases vs with
    | nil => simp at hl
    | cons v0 vs =>
      have h1 := World.ownsRow.cellAt hO' 0 (by simp)
      have hlt := (hO'.lt b rfl).2
      refine ⟨b, c, v0, rfl, hb, hlt, by simpa using h1, fun j => World.ownsRow.frozenAt hO' j, hel 0 (by simp) (by simp), fun y l' hy => fun u hs hbk => ?_⟩
      have hst := (hO'.stored 0 y).1
      have hsz : (w.setCell ⟨b, 0, none⟩ y).heap.size = w.heap.size := size_setC
      have hO2 : u.ownsRow B 26 1 (.slice (some ⟨b, 0, none⟩) (l :: ls).length c) (l :: ls).length (y :: vs) := ownsRow_frame (by simpa using hst) fun g hg => by
        cases hg; exact hbk b hb (by rw [hsz]; exact hlt)
      refine ⟨some ⟨b, 0, none⟩, (l :: ls).length, c, rfl, by simp, hnc, hcm, .inr (.inr ⟨b, 0, rfl, fun i => (y :: vs).getD i undef, fun i hi => ?_⟩)⟩
      have hi' : i < (y :: vs).length := by simp at hi hl ⊢; omega
      have h2 := World.ownsRow.cellAt hO2 i (by simp at hi ⊢; omega)
      have keep : ∀ {x : Value} {d : List Int}, OwnI w B x d → Ints u x d := fun {x d} hx => ((hx.keptL hO' rfl 0 y).since hs hbk).ints
      refine ⟨?_, ?_⟩
      · rw [Nat.zero_add, h2]; simp only [List.getD, List.getElem?_eq_getElem hi', Option.getD_some]
      · cases i with
        | zero => exact hy u (keep (hel 0 (by simp) (by simp)))
        | succ i =>
          have hi2 : i < vs.length := by simp at hi'; exact hi'
          have : kInts.rd u vs[i] (ls[i]'(by simp at hi; exact hi)) := keep (hel (i + 1) (by simp; exact hi2) (by simp at hi ⊢; exact hi))
          simpa [List.getD, hi2] using this
/-- a store into the first slice -/
theorem OwnL.setFirst {w : World} {lo hi : Nat} {v : Value} {l : List Int} {ls : List (List Int)} (h : OwnL 26 kInts w lo hi v (l :: ls)) :
    ∃ v0, (∀ b n c, v = .slice (some ⟨b, 0, none⟩) n c → w.cell? ⟨b, 0, none⟩ = some v0) ∧ ∀ r n c k x, v0 = .slice (some ⟨r, 0, none⟩) n c → I64 x → RowS (w.setCell ⟨r, k, none⟩ (.int .i64 x)) lo v (l.set k x :: ls) := by
  obtain ⟨vs, los, his, hl, hO, hg, hel, hd⟩ := h
  cases vs with
  | nil => simp at hl
  | cons v0 vs =>
    refine ⟨v0, fun b n c hv => ?_, fun r n c k x hv hx => ?_⟩
    · have hO' := hO
      obtain ⟨hl1, ⟨e, h0⟩ | ⟨b', c', cur, e, hb, hgc, hnc, hcm, hcs, htake⟩⟩ := hO
      · rw [hv] at e; cases e
      · rw [hv] at e
        cases e
        rw [hv] at hO'
        have h1 := World.ownsRow.cellAt hO' 0 (by simp)
        simpa using h1
    · subst hv
      obtain ⟨q1, q2, q3⟩ := hel 0 (by simp) (by simp)
      have q1' : InI w (los 0) (his 0) (.slice (some ⟨r, 0, none⟩) n c) l := q1
      have hn : l.length = n := q1'.1.ints.len
      have hr := q1'.1.lt r rfl
      have hr2 := q1'.2 r rfl
      have hfr : ∀ j, j ≠ r → (w.setCell ⟨r, k, none⟩ (.int .i64 x)).heap[j]? = w.heap[j]? := fun j hj => by
        have := (Within.refl r (r + 1) w).setCell (b := r) (by omega) (by omega) k (.int .i64 x)
        by_cases hjw : j < w.heap.size
        · exact this.block j hjw (by omega)
        · rw [Array.getElem?_eq_none (by have e : (w.setCell ⟨r, k, none⟩ (.int .i64 x)).heap.size = w.heap.size := size_setC; omega), Array.getElem?_eq_none (by omega)]
      refine ⟨.slice (some ⟨r, 0, none⟩) n c :: vs, by simpa using hl, ownsRow_frame (by simpa using hO) fun g hgv => hfr g fun e => ?_, fun i h1 h2 => ?_⟩
      · have := (hg g hgv).2 0 (by simp)
        omega
      · cases i with
        | zero => exact ((q1'.1.stored hn k hx).1).mono q2
        | succ i =>
          obtain ⟨p1, p2, p3⟩ := hel (i + 1) (by simpa using h1) (by simpa using h2)
          have hdd := hd 0 (i + 1) (by simp) (by simpa using h2) (by omega)
          have p1' : InI w (los (i + 1)) (his (i + 1)) _ _ := p1
          have p4 : InI (w.setCell ⟨r, k, none⟩ (.int .i64 x)) (los (i + 1)) (his (i + 1)) _ _ := kInts.own_frame p1' fun j j1 j2 j3 => hfr j (by omega)
          exact p4.1.mono p2
set_option maxRecDepth 100000 in
set_option maxHeartbeats 8000000 in
theorem spec_linear (w0 : World) (g : Nat) (n P Q G : Int) (w : World) (h : Cur w0 w g n) (hb : Below w0.heap.size w0 w) (hn : n ≤ 500000000000000) (hgr : GrB ⟨P, Q, G⟩) :
    Calls Try.prog 236 #[.pointer (some ⟨g, 0, none⟩), .agg #[.int .i64 P, .int .i64 Q, .int .i64 G]] w fun e w' => (∃ v ls, e = .returned v ∧ Since w.heap.size w' (fun u => RdL kInts u v ls) ∧ ls.length ≤ 9 ∧ ∀ r ∈ ls, r.length ≤ 3) ∧ Cur w0 w' g (n + 100000) ∧ Within g (g + 1) w w' := by
  have HGR := Lib.hid hgr
  clear hgr
  have HC := Lib.hid h
  have hg := h.lt
  have hg0 := h.ge
  have HB0 := Lib.hid hb
  clear h hb
  obtain ⟨W, hW⟩ : ∃ W, W = w.alloc (.cells #[.int .i64 P, .int .i64 Q, .int .i64 G] 25) := ⟨_, rfl⟩
  have hbW : Below w.heap.size w W := by rw [hW]; exact (Below.refl _ _).alloc (Nat.le_refl _) _
  have HX : Hid (BoxN W w.heap.size 25 [.int .i64 P, .int .i64 Q, .int .i64 G]) := by unfold Hid; rw [hW]; exact BoxN.new w _ _
  have HSW : Hid (W.heap.size = w.heap.size + 1) := by unfold Hid; rw [hW]; simp
  have hsW : w.heap.size < W.heap.size := by have := HSW.out; omega
  replace HC := Lib.hid (HC.out.keep hbW)
  have HBW := Lib.hid hbW
  have HWW : Hid (Within g (g + 1) w W) := Within.of_below hbW
  have HB1 := Lib.hid (Below.next HB0.out hbW)
  clear hbW
  have HBW := HB1
  have hge := hg0
  go_enter Try.func236, Try.ntmps236
  go_wp2_with fail
  rw [← hW]
  clear hW
  try (go_wp2_with fail)
  refine (spec_pick w0 g _ 3 _ HC.out HB1.out (by omega)).mono ?_
  rintro e w1 ⟨⟨x, rfl, hx0, _, hx2, _⟩, hc, hw⟩
  replace hx2 := hx2 (by omega)
  obtain ⟨R, rfl⟩ := Int.eq_ofNat_of_zero_le hx0
  have hR2 : R ≤ 2 := by omega
  have ewR : IntKind.i64.wrap (1 + (R : Int)) = ((R + 1 : Nat) : Int) := by rw [show (1 : Int) + R = ((R + 1 : Nat) : Int) by omega]; exact IntWalk.i64_in _ (by omega)
  have HC1 := Lib.hid hc
  have HW1 := Lib.hid hw
  clear hc hw hx0 hx2
  go_wp2_with fail
  refine (spec_pick w0 g _ 3 _ HC1.out (HW1.out.belowOf HB1.out (by omega)) (by omega)).mono ?_
  rintro e w2 ⟨⟨x, rfl, hx0, _, hx2, _⟩, hc, hw⟩
  replace hx2 := hx2 (by omega)
  obtain ⟨C, rfl⟩ := Int.eq_ofNat_of_zero_le hx0
  have hC2 : C ≤ 2 := by omega
  have ewC : IntKind.i64.wrap (1 + (C : Int)) = ((C + 1 : Nat) : Int) := by rw [show (1 : Int) + C = ((C + 1 : Nat) : Int) by omega]; exact IntWalk.i64_in _ (by omega)
  have HC2 := Lib.hid (hc.mono (n' := n + 4) (by omega))
  have HW2 := Lib.hid (HW1.out.trans hw)
  clear hc hw hx0 hx2 HC1 HW1
  go_wp2_with fail
  clear ewR ewC
  go_loopg [7, 8] (R + 1) (fun gk ov iv wr => ∃ (ls : List (List Int)) (k : Nat), k + gk = R + 1 ∧ iv = .int .i64 (k : Int) ∧ ls.length = k ∧ (∀ r ∈ ls, r.length = C + 1) ∧ OwnL 26 kInts wr W.heap.size wr.heap.size ov ls ∧ Cur w0 wr g (n + 4 + 12 * (k : Int)) ∧ Within g (g + 1) W wr)
  case atStart => exact ⟨[], 0, by omega, rfl, rfl, by simp, OwnL.nil _ _ _ _ _, HC2.out.mono (by omega), HW2.out⟩
  case round =>
    obtain ⟨ls, k, hkg, rfl, hls, hall, hO, hC, hWr⟩ := hrel
    obtain ⟨wA, rfl⟩ : ∃ u, u = wr := ⟨_, rfl⟩
    have hsA := hWr.size
    have HKG := Lib.hid hkg
    have hkR : k ≤ R + 1 := by omega
    have hgk : R + 1 - k ≤ gk := by omega
    have HLS := Lib.hid hls
    have HALL := Lib.hid hall
    have HCA := Lib.hid hC
    have HWA := Lib.hid hWr
    have HXr := Lib.hid (HX.out.kept hWr (.inr (by omega)))
    obtain ⟨ao, no, co, rfl⟩ := hO.rd.shape
    have HNO := Lib.hid hO.rd.len
    have HO := Lib.hid hO
    clear hkg hls hall hO hC hWr
    by_cases hlt : k < R + 1
    · have hd : decide ((k : Int) < (R : Int) + 1) = true := decide_eq_true (by omega)
      have hgk1 : R + 1 - (k + 1) < gk := by omega
      have ewk : IntKind.i64.wrap ((k : Int) + 1) = ((k + 1 : Nat) : Int) := by rw [show (k : Int) + 1 = ((k + 1 : Nat) : Int) by omega]; exact IntWalk.i64_in _ (by omega)
      go_wp2_with fail
      go_loopg [9, 10] (C + 1) (fun gj rv jv wr => ∃ (l : List Int) (j : Nat), j + gj = C + 1 ∧ jv = .int .i64 (j : Int) ∧ l.length = j ∧ OwnI wr wA.heap.size rv l ∧ Cur w0 wr g (n + 4 + 12 * (k : Int) + 4 * (j : Int)) ∧ Within g (g + 1) wA wr)
      case atStart => exact ⟨[], 0, by omega, rfl, rfl, OwnI.nil _ _, HCA.out.mono (by omega), Within.refl _ _ _⟩
      case round =>
        obtain ⟨l, j, hjg, rfl, hlj, hOr, hCr, hWi⟩ := hrel
        have hsr := hWi.size
        have HJG := Lib.hid hjg
        have hjC : j ≤ C + 1 := by omega
        have hgj : C + 1 - j ≤ gk := by omega
        have HLJ := Lib.hid hlj
        have HXi := Lib.hid (HXr.out.kept hWi (.inr (by omega)))
        have HCi := Lib.hid hCr
        have HWi := Lib.hid hWi
        obtain ⟨ar, cr, rfl⟩ := hOr.shape
        have HOr := Lib.hid hOr
        rw [hlj] at HOr ⊢
        clear hjg hlj hOr hCr hWi
        by_cases hjt : j < C + 1
        · have hdj : decide ((j : Int) < (C : Int) + 1) = true := decide_eq_true (by omega)
          have hgj1 : C + 1 - (j + 1) < gk := by omega
          have ewj : IntKind.i64.wrap ((j : Int) + 1) = ((j + 1 : Nat) : Int) := by rw [show (j : Int) + 1 = ((j + 1 : Nat) : Int) by omega]; exact IntWalk.i64_in _ (by omega)
          have c0 := HXi.out.cell (i := 0) rfl
          have c1 := HXi.out.cell (i := 1) rfl
          have c2 := HXi.out.cell (i := 2) rfl
          go_wp2_with fail
          refine (spec_element w0 g _ P Q G _ HCi.out ((HWA.out.trans HWi.out).belowOf HB1.out (by omega)) (by omega) HGR.out).mono ?_
          rintro e w3 ⟨⟨z, rfl, hz0, hz1⟩, hc, hw⟩
          have hs3 := hw.size
          have HO3 := Lib.hid (HOr.out.within hw (by omega))
          have HC3 := Lib.hid (hc.mono (n' := n + 4 + 12 * (k : Int) + 4 * ((j + 1 : Nat) : Int)) (by omega))
          have HW3 := Lib.hid (HWi.out.trans hw)
          clear hc hw c0 c1 c2 HOr
          go_wp2_with (at_builtin; refine wpList_append_ints rfl _ _ rfl wA.heap.size _ _ l [z] rfl (HO3.out.alloc _) rfl (Ints.lit1 _ ⟨by omega, by omega⟩) (by rw [HLJ.out]; simp; omega) (by simp; omega) ?_; intro v4 w4 hown4 hgr4)
          have hb4 := (HO3.out.alloc _).grown hgr4 (by simp; omega)
          have hb5 := ((Below.refl wA.heap.size w3).alloc (by omega) _).trans hb4
          go_roundg (C + 1 - (j + 1))
          case measure => omega
          case rel => exact ⟨l ++ [z], j + 1, by omega, by go_num, by rw [List.length_append, HLJ.out]; rfl, hown4, HC3.out.belowB hb5 (by omega), HW3.out.belowStep hb5⟩
        · have hdj : decide ((j : Int) < (C : Int) + 1) = false := decide_eq_false (by omega)
          go_wp2_with (at_builtin; refine wpList_append_rows rfl _ _ rfl W.heap.size wA.heap.size wA.heap.size wr.heap.size (.slice ao no co) (.slice ar j cr) ls l wr.heap.size 1 rfl rfl (Kind.next (K := kRows) (Kind.kept (K := kRows) HO.out HWi.out (.inr (by omega))) ((Below.refl _ _).alloc (Nat.le_refl _) _)) (Kind.next (K := kInts) (InI.of_own HOr.out) ((Below.refl _ _).alloc (Nat.le_refl _) _)) (Nat.le_refl _) (by simp) (by simp; omega) hsA (by simp [go_sem]) (by rw [HLS.out]; omega) ?_; intro v' w3 hO3 hb3)
          have hb5 := ((Below.refl W.heap.size wr).alloc (by omega) _).trans hb3
          go_roundg (R + 1 - (k + 1))
          case measure => omega
          case rel => exact ⟨ls ++ [l], k + 1, by omega, by go_num, by rw [List.length_append, HLS.out]; rfl, fun r hr => by
            rcases List.mem_append.1 hr with h1 | h1
            · exact HALL.out r h1
            · rw [List.mem_singleton.1 h1, HLJ.out]; omega, hO3, (HCi.out.belowB hb5 (by omega)).mono (by omega), (HWA.out.trans HWi.out).belowStep hb5⟩
    · obtain rfl : k = R + 1 := by omega
      have hd : decide ((R : Int) + 1 < (R : Int) + 1) = false := decide_eq_false (by omega)
      go_wp2_with fail
      refine (spec_pick w0 g _ 24 _ HCA.out (HWA.out.belowOf HB1.out (by omega)) (by omega)).mono ?_
      rintro e wB ⟨⟨y, rfl, hy0, _, hy2, _⟩, hc, hw⟩
      have hsB := hw.size
      replace HXr := Lib.hid (HXr.out.kept hw (.inr (by omega)))
      have HO2 : Hid (OwnL 26 kInts wB W.heap.size wA.heap.size (.slice ao no co) ls) := Kind.kept (K := kRows) HO.out hw (.inr (by omega))
      have HC := Lib.hid (hc.mono (n' := n + 100) (by omega))
      have HW := Lib.hid (HWA.out.trans hw)
      have HLE : Hid (ls.length ≤ 9 ∧ ∀ r ∈ ls, r.length ≤ 3) := ⟨by have := HLS.out; omega, fun r hr => by have := HALL.out r hr; omega⟩
      clear hc hw HCA HWA HO hy2 HC2 HW2
      obtain ⟨l0, lt, hl0⟩ : ∃ l0 lt, ls = l0 :: lt := by
        cases hq : ls with
        | nil => have := HLS.out; rw [hq] at this; simp at this
        | cons a t => exact ⟨a, t, rfl⟩
      subst hl0
      have hnoR : no = R + 1 := by have := HNO.out; have := HLS.out; omega
      subst hnoR
      obtain ⟨bo, co', v0, ev, hbo1, hbo2, hyo, hfo, hown0, hsh⟩ := (RowS.of_ownL HO2.out).first
      cases ev
      obtain ⟨v0', hv0, hst⟩ := HO2.out.setFirst
      have e0 : v0 = v0' := by have := hv0 _ _ _ rfl; rw [hyo] at this; exact Option.some.inj this
      subst e0
      clear hv0
      have HL0 : Hid (l0.length = C + 1) := HALL.out l0 (by simp)
      obtain ⟨ra, rn, rc, rfl⟩ := hown0.ints.shape
      obtain ⟨rr, rfl, hrr, hlr, hrx⟩ := hown0.at_ (by rw [HL0.out]; omega)
      obtain ⟨hy00, hf00⟩ := hrx 0 (by have := HL0.out; omega)
      have hrlt := (hown0.lt rr rfl).2
      have HOW := Lib.hid hown0
      have HST := Lib.hid hst
      have HSH := Lib.hid hsh
      have HYO := Lib.hid hyo
      have HFO := Lib.hid hfo
      have HLR := Lib.hid hlr
      have hrn0 : 0 < rn := by have := HL0.out; omega
      clear hown0 hst hsh hyo hfo hlr hrx hy00 hf00
      have HROW := Lib.hid (RowS.of_ownL HO2.out)
      clear HST
      have hgW : g < W.heap.size := by omega
      rcases (by omega : y = 0 ∨ y = 1 ∨ y = 2 ∨ y = 3 ∨ (y ≠ 0 ∧ y ≠ 1 ∧ y ≠ 2 ∧ y ≠ 3)) with rfl | rfl | rfl | rfl | ⟨i0, i1, i2, i3⟩
      · have yo := HYO.out
        have z_0_0 := HXr.out.cell (i := 0) rfl
        have z_0_1 := HXr.out.cell (i := 1) rfl
        have z_0_2 := HXr.out.cell (i := 2) rfl
        try (go_wp2_with fail)
        refine wp_region_noPanic ?_
        refine wp_region_Q (Within g (g + 1)) (DrawS w0 wB g _ 5000 (fun w' => w'.cell? ⟨w.heap.size, 0, none⟩ = some (.int .i64 P) ∧ w'.cell? ⟨w.heap.size, 1, none⟩ = some (.int .i64 Q) ∧ w'.cell? ⟨w.heap.size, 2, none⟩ = some (.int .i64 G) ∧ w'.cell? ⟨bo, 0, none⟩ = some (.slice (some ⟨rr, 0, none⟩) rn rc))) 10 [(0, []), (1, [0]), (2, [0]), (3, []), (4, []), (5, [1, 0]), (6, [3])] [7] (by kernel_rfl) (by kernel_rfl) (by kernel_rfl) rfl (fun _ _ _ _ h => h) (DrawS.good _ _ _ _ _ _) ⟨(Within.refl _ _ _).drew, by simpa using HC.out.keep (Below.refl _ _).drew, ⟨box_at z_0_0 (Below.refl _ _).drew, box_at z_0_1 (Below.refl _ _).drew, box_at z_0_2 (Below.refl _ _).drew, box_at yo (Below.refl _ _).drew⟩⟩ ?_
        simp only [pickP, pickN, List.getElem?_cons_zero, List.getElem?_cons_succ]
        iterate 5 (refine' chainQ_read (DrawS.good _ _ _ _ _ _) _ rfl rfl (fun m w' hm' hS' => ?_) ?_; rotate_left; · (simp only [lookP, allP, Act.put, List.getElem?_cons_zero, List.getElem?_cons_succ, List.setIfInBounds_toArray, List.set_cons_zero, List.set_cons_succ]; (try dsimp only [DrawS] at hS'); go_simp; (try with_reducible rfl)))
        -- 5: call { callee := value (func 109), args := #[t44, t45], argTypes := #[124, 25] }
        refine chainQ_do (d := (some 46)) (fun v u => ∃ (xq5 : Int), v = (.int .i64 xq5) ∧ (-10 ≤ xq5 ∧ xq5 ≤ 2000000010)) (fun v w1 w2 hw h => h) rfl rfl (fun m w' hm' hS' => ?_) ?_
        · simp only [lookP, allP, Act.put, List.getElem?_cons_zero, List.getElem?_cons_succ, List.setIfInBounds_toArray, List.set_cons_zero, List.set_cons_succ]
          intro K hK
          replace hm' : m < 7 := hm'
          go_simp
          go_at_call 109
          refine (spec_anyElement w0 g _ P Q G _ hS'.2.1 (hS'.1.belowOf (HW.out.belowOf HBW.out hge) hge) (by omega) HGR.out).mono ?_
          rintro e u ⟨⟨xq5, rfl, xq5l, xq5u⟩, hc, hw⟩
          exact hK.out _ _ hw ⟨hS'.1.trans hw, hc.mono (by omega), ⟨within_at (hS'.1.trans hw) z_0_0 (.inr (by omega)), within_at (hS'.1.trans hw) z_0_1 (.inr (by omega)), within_at (hS'.1.trans hw) z_0_2 (.inr (by omega)), within_at (hS'.1.trans hw) yo (.inr (by omega))⟩⟩ ⟨xq5, rfl, ⟨xq5l, xq5u⟩⟩
        -- 6: indexAddr 26 t43 (const (int i64 0))
        refine' chainQ_read (DrawS.good _ _ _ _ _ _) (d := (some 47)) _ rfl rfl (fun m w' hm' hS' => ?_) ?_; rotate_left
        · simp only [lookP, allP, Act.put, List.getElem?_cons_zero, List.getElem?_cons_succ, List.setIfInBounds_toArray, List.set_cons_zero, List.set_cons_succ]
          (try dsimp only [DrawS] at hS')
          go_simp
          (try with_reducible rfl)
        refine chainQ_nil (fun uE hS' => ?_)
        simp only [allP, Act.put, List.setIfInBounds_toArray, List.set_cons_zero, List.set_cons_succ]
        intro x5 hx5
        replace hS' : DrawS w0 wB g _ 5000 _ 7 uE := hS'
        obtain ⟨hw, hc, hC⟩ := hS'
        obtain ⟨xq5, rfl, xq5l, xq5u⟩ := hx5
        have HWE := Lib.hid hw
        have hsz1 := hw.size
        replace HXr := Lib.hid (HXr.out.kept hw (.inr (by omega)))
        replace HW := Lib.hid (HW.out.trans hw)
        replace HC := Lib.hid hc
        clear hc hw hC
        clear z_0_0 z_0_1 z_0_2
        clear yo
        have HO3 : Hid (OwnL 26 kInts uE W.heap.size wA.heap.size _ (l0 :: lt)) := Kind.kept (K := kRows) HO2.out HWE.out (.inr (by omega))
        obtain ⟨v0', hv0, hst⟩ := HO3.out.setFirst
        have e0 : Value.slice (some ⟨rr, 0, none⟩) rn rc = v0' := by have h1 := hv0 _ _ _ rfl; rw [within_at HWE.out HYO.out (.inr (by omega))] at h1; exact Option.some.inj h1
        have HRS := Lib.hid (hst rr rn rc 0 xq5 e0.symm ⟨by omega, by omega⟩)
        obtain ⟨rr', e, _, _, hrx⟩ := (HOW.out.within HWE.out (by omega)).at_ (by rw [HL0.out]; omega)
        cases e
        obtain ⟨r0, f0⟩ := hrx 0 hrn0
        have hrE : rr < uE.heap.size := by have := HWE.out.size; omega
        clear hst hv0 e0 hrx
        go_wp2_with fail
        refine NoPanic.normal ?_
        (try (go_wp2_with fail))
        go_ret
        exact ⟨⟨_, _, rfl, HRS.out.since (by omega), by have := HLE.out.1; simpa using this, fun r hr => by
          rcases List.mem_cons.1 hr with h1 | h1
          · rw [h1, List.length_set]; exact HLE.out.2 l0 (by simp)
          · exact HLE.out.2 r (by simp [h1])⟩, (HC.out.setNew (b := rr) (by omega) 0 (.int .i64 xq5)).mono (by omega), (HWW.out.trans HW.out).setNew (b := rr) (by omega) 0 (.int .i64 xq5)⟩
      · obtain ⟨ad, hrun, hsl⟩ := sl_dropU (a := some ⟨rr, 0, none⟩) (n := rn) (c := rc) (x := 1) (k := 1) rfl (by omega)
        have yo := HYO.out
        have fo := HFO.out
        have HSL := Lib.hid (HSH.out (.slice ad (rn - 1) (rc - 1)) (l0.drop 1) (fun u h => hsl u l0 h))
        clear hsl
        go_wp2_with fail
        go_ret
        exact ⟨⟨_, _, rfl, HSL.out.mono (by omega), by have := HLE.out.1; simpa using this, fun r hr => by
          rcases List.mem_cons.1 hr with h1 | h1
          · rw [h1, List.length_drop]; have := HLE.out.2 l0 (by simp); omega
          · exact HLE.out.2 r (by simp [h1])⟩, (HC.out.setNew (b := bo) (by omega) 0 (.slice ad (rn - 1) (rc - 1))).mono (by omega), (HWW.out.trans HW.out).setNew (b := bo) (by omega) 0 (.slice ad (rn - 1) (rc - 1))⟩
      · go_wp2_with fail
        go_ret
        exact ⟨⟨_, [], rfl, fun u _ _ => RdL.nil _ _, by simp, by simp⟩, HC.out.mono (by omega), HWW.out.trans HW.out⟩
      · go_wp2_with fail
        go_loopg [7] 9 (fun gk ov wr => ∃ lr : List (List Int), lr.length + gk = lt.length + 9 ∧ lr.length ≤ 8 ∧ (∀ r ∈ lr, r.length ≤ 3) ∧ RowS wr W.heap.size ov (l0 :: lr) ∧ gk ≤ 9 ∧ Cur w0 wr g (n + 100 + 2 * (9 - (gk : Int))) ∧ Within g (g + 1) W wr)
        case atStart => exact ⟨lt, by omega, by have := HLE.out.1; simp at this; omega, fun r hr => HLE.out.2 r (by simp [hr]), HROW.out, by omega, HC.out.mono (by omega), HW.out⟩
        case round =>
          obtain ⟨lr, hlg, hl8, hl3, hRS, hg9, hC, hWr⟩ := hrel
          have hsr := hWr.size
          have HLG := Lib.hid hlg
          have HL3 := Lib.hid hl3
          obtain ⟨a4, n4, c4, rfl⟩ := hRS.rd.shape
          have HN4 := Lib.hid hRS.rd.len
          have hn4 : n4 = lr.length + 1 := by have := HN4.out; simp at this; omega
          have hn4m : n4 ≤ 9 := by omega
          have HC4 := Lib.hid hC
          have HW4 := Lib.hid hWr
          have HRS := Lib.hid hRS
          have hg0 : 9 < n4 + gk := by have := HLS.out; simp at this; omega
          have HN5 := Lib.hid hn4
          clear hlg hl3 hRS hC hWr hn4
          go_wp2_with fail
          refine (spec_pick w0 g _ 2 _ HC4.out (HW4.out.belowOf HB1.out (by omega)) (by omega)).mono ?_
          rintro e w5 ⟨⟨y, rfl, hy0, _, hy2, _⟩, hc, hw⟩
          replace hy2 := hy2 (by omega)
          have hs5 := hw.size
          replace HRS := Lib.hid (HRS.out.within hw (by omega))
          have HC5 := Lib.hid hc
          have HW5 := Lib.hid (HW4.out.trans hw)
          clear hc hw HC4 HW4
          have ewy : IntKind.i64.wrap (8 + y) = 8 + y := IntWalk.i64_in _ (by omega)
          by_cases hlt8 : (n4 : Int) < 8 + y
          · obtain ⟨f, rfl⟩ : ∃ f, gk = f + 1 := ⟨gk - 1, by omega⟩
            obtain ⟨b5, c5, v5, e5, hb51, hb52, hy5, hf5, ho5, _⟩ := HRS.out.first
            have hn5 : 0 < n4 := by have := HN5.out; omega
            cases e5
            obtain ⟨x5a, x5n, x5c, rfl⟩ := ho5.ints.shape
            have HO5 := Lib.hid ho5
            clear ho5 hf5
            go_wp2_with (at_builtin; refine wpList_append_S rfl _ _ rfl W.heap.size _ (.slice x5a x5n x5c) (l0 :: lr) l0 w5.heap.size 1 rfl rfl (HRS.out.below ((Below.refl _ _).alloc (Nat.le_refl _) _)) (HO5.out.below ((Below.refl _ _).alloc (Nat.le_refl _) _)) (by simp; omega) (by simp [go_sem]) (by simp; omega) ?_; intro v' w6 hS6 hb6)
            have hb7 := ((Below.refl W.heap.size w5).alloc (by omega) _).trans hb6
            go_roundg f
            case measure => omega
            case rel => exact ⟨lr ++ [l0], by rw [List.length_append]; have := HLG.out; simp; omega, by rw [List.length_append]; simp; have := HN5.out; omega, fun r hr => by
              rcases List.mem_append.1 hr with h1 | h1
              · exact HL3.out r h1
              · rw [List.mem_singleton.1 h1]; exact HLE.out.2 l0 (by simp), by simpa using hS6, by omega, (HC5.out.belowB hb7 (by omega)).mono (by omega), HW5.out.belowStep hb7⟩
          · go_wp2_with fail
            go_ret
            exact ⟨⟨_, _, rfl, HRS.out.since (by omega), by simp; omega, fun r hr => by
              rcases List.mem_cons.1 hr with h1 | h1
              · rw [h1]; exact HLE.out.2 l0 (by simp)
              · exact HL3.out r h1⟩, HC5.out.mono (by omega), HWW.out.trans HW5.out⟩
      · have j0 : (y == 0) = false := by rw [beq_eq_false_iff_ne]; exact i0
        have j1 : (y == 1) = false := by rw [beq_eq_false_iff_ne]; exact i1
        have j2 : (y == 2) = false := by rw [beq_eq_false_iff_ne]; exact i2
        have j3 : (y == 3) = false := by rw [beq_eq_false_iff_ne]; exact i3
        clear i0 i1 i2 i3
        go_wp2_with fail
        go_ret
        exact ⟨⟨_, _, rfl, HROW.out.since (by omega), HLE.out.1, HLE.out.2⟩, HC.out.mono (by omega), HWW.out.trans HW.out⟩
end Go.Proofs.Yteemlmmdngkghaa
namespace Go.Proofs.Yteemlmmdngkghaa
open Go.RowKit
set_option linter.unusedSimpArgs false
set_option linter.unusedVariables false

/-- the element that a digest gives -/
def derX (gr : GroupD) (s : ByteArray) (k : Int) (c : Nat) : Int := powM (1 + hashOf (lab s ++ [gr.p, gr.q, gr.g, k, (c : Int)]) % (gr.p - 1)) ((gr.p - 1) / gr.q) gr.p
/-- the first of the first n that is not one, or nought -/
def derTo (gr : GroupD) (s : ByteArray) (k : Int) : Nat → Int
  | 0 => 0
  | n + 1 => if derTo gr s k n = 0 then (if derX gr s k n = 1 then 0 else derX gr s k n) else derTo gr s k n
/-- the derived element, or nought -/
def hD (gr : GroupD) (s : ByteArray) (k : Int) : Int := derTo gr s k 1000
end Go.Proofs.Yteemlmmdngkghaa
namespace Go.Proofs.Yteemlmmdngkghaa
open Go.RowKit
set_option linter.unusedSimpArgs false
set_option linter.unusedVariables false

/-- a contest is valid -/
def ctOk (k o l m p : Int) : Bool := decide (0 ≤ l ∧ l ≤ m ∧ ((k = 1 ∨ k = 3) ∧ 1 ≤ o ∧ o ≤ 8 ∧ m ≤ o ∧ p = 0 ∨ k = 2 ∧ 1 ≤ o ∧ o ≤ 8 ∧ 1 ≤ p ∧ p ≤ 5 ∧ m ≤ o * p ∨ k = 4 ∧ o = 0 ∧ m ≤ 5 ∧ p = 0))
theorem ctOk_bd {k o l m p : Int} (h : ctOk k o l m p = true) : 0 ≤ o ∧ o ≤ 8 ∧ 0 ≤ p ∧ p ≤ 5 ∧ 0 ≤ l ∧ l ≤ m ∧ m ≤ 40 := by
  unfold ctOk at h
  rw [decide_eq_true_iff] at h
  obtain ⟨h1, h2, h | ⟨h3, h4, h5, h6, h7, h8⟩ | h⟩ := h
  · omega
  · have := mul_bd (a := o) (b := p) (by omega) h5 (by omega) h7
    omega
  · omega
end Go.Proofs.Yteemlmmdngkghaa
namespace Go.Proofs.Yteemlmmdngkghaa
open Go.RowKit
set_option linter.unusedSimpArgs false
set_option linter.unusedVariables false

/-- the list of f 0, f 1, .. of length n -/
def tab (n : Nat) (f : Nat → Int) : List Int := (List.range n).map f
theorem tab_length (n : Nat) (f : Nat → Int) : (tab n f).length = n := by simp [tab]
theorem tab_mem {n : Nat} {f : Nat → Int} {x : Int} (h : x ∈ tab n f) : ∃ i, i < n ∧ f i = x := by
  simp only [tab, List.mem_map, List.mem_range] at h; exact h
/-- the number of digits, the last digit first -/
def codeL (b : Int) (l : List Int) : Int := l.foldr (fun d c => c * b + d) 0
/-- digits -/
def Digs (l : List Int) : Prop := l.length ≤ 8 ∧ ∀ x ∈ l, 0 ≤ x ∧ x ≤ 26
theorem codeL_bd0 {b : Int} (h1 : 0 ≤ b) (h2 : b ≤ 27) (l : List Int) : (∀ x ∈ l, 0 ≤ x ∧ x ≤ 26) → 0 ≤ codeL b l ∧ codeL b l < 27 ^ l.length := by
  induction l with
  | nil => intro _; exact ⟨Int.le_refl _, by show (0 : Int) < 27 ^ 0; decide⟩
  | cons a l ih =>
    intro h
    obtain ⟨i1, i2⟩ := ih (fun x hx => h x (List.mem_cons_of_mem _ hx))
    obtain ⟨a1, a2⟩ := h a (List.mem_cons_self ..)
    obtain ⟨m1, m2⟩ := mul_bd (a := codeL b l) (b := b) (A := 27 ^ l.length - 1) i1 (by omega) h1 h2
    have e : codeL b (a :: l) = codeL b l * b + a := rfl
    rw [e, List.length_cons, Int.pow_succ]
    omega
theorem codeL_bd {b : Int} (h1 : 0 ≤ b) (h2 : b ≤ 27) {l : List Int} (h : Digs l) : 0 ≤ codeL b l ∧ codeL b l ≤ 282429536480 := by
  obtain ⟨a, b⟩ := codeL_bd0 h1 h2 l h.2
  refine ⟨a, ?_⟩
  have h3 : l.length < 9 := by have := h.1; omega
  have e : (27 : Int) ^ l.length ≤ 282429536481 := by
    generalize l.length = n at h3
    obtain ⟨j, rfl⟩ : ∃ j : Fin 9, n = j := ⟨⟨n, h3⟩, rfl⟩
    revert j; decide
  omega
theorem Digs.drop {l : List Int} (h : Digs l) (k : Nat) : Digs (l.drop k) := ⟨by have := h.1; simp; omega, fun x hx => h.2 x (List.mem_of_mem_drop hx)⟩
theorem Digs.at_ {l : List Int} (h : Digs l) {k : Nat} (hk : k < l.length) : 0 ≤ nth l k ∧ nth l k ≤ 26 := by rw [nth_eq hk]; exact h.2 _ (List.getElem_mem hk)
/-- the base of a contest's codes -/
def ctBase (k o p : Int) : Int := if k = 2 then p + 1 else if k = 3 then o + 1 else if k = 4 then 27 else 2
/-- n digits that hold r, each of at most p, the last ones first -/
def scoreL (p : Int) : Nat → Int → List Int
  | 0, _ => []
  | n + 1, r => scoreL p n (r - min r p) ++ [min r p]
theorem scoreL_length (p : Int) (n : Nat) : ∀ r, (scoreL p n r).length = n := by
  induction n with
  | zero => intro r; rfl
  | succ n ih => intro r; simp [scoreL, ih]
theorem scoreL_digs {p : Int} (hp0 : 0 ≤ p) (hp : p ≤ 26) (n : Nat) : ∀ r, 0 ≤ r → ∀ x ∈ scoreL p n r, 0 ≤ x ∧ x ≤ 26 := by
  induction n with
  | zero => intro r _ x hx; cases hx
  | succ n ih =>
    intro r hr x hx
    rw [scoreL, List.mem_append] at hx
    rcases hx with hx | hx
    · exact ih _ (by omega) x hx
    · simp at hx; omega
/-- the digits of the greatest code -/
def grD (k : Int) (o m : Nat) (p : Int) : List Int :=
  if k = 1 then tab o (fun i => if (o : Int) - m ≤ i then 1 else 0)
  else if k = 2 then scoreL p o m
  else if k = 3 then tab m (fun i => (o : Int) - m + 1 + i)
  else tab m (fun _ => 26)
/-- the greatest code -/
def ctGr (k o m p : Int) : Int := codeL (ctBase k o p) (grD k o.toNat m.toNat p)
/-- what bounds a valid contest's numbers -/
structure CtN (k : Int) (o m : Nat) (p : Int) : Prop where
  k1 : k = 1 ∨ k = 2 ∨ k = 3 ∨ k = 4
  o8 : o ≤ 8
  p0 : 0 ≤ p
  p5 : p ≤ 5
  m40 : m ≤ 40
  mo : k = 1 ∨ k = 3 → m ≤ o
  m4 : k = 4 → m ≤ 5
theorem CtN.of {k o l m p : Int} (h : ctOk k o l m p = true) : ∃ on mn : Nat, o = on ∧ m = mn ∧ CtN k on mn p := by
  have hb := ctOk_bd h
  unfold ctOk at h; rw [decide_eq_true_iff] at h
  refine ⟨o.toNat, m.toNat, by omega, by omega, ⟨by omega, by omega, by omega, by omega, by omega, by omega, by omega⟩⟩
theorem CtN.digs {k p : Int} {o m : Nat} (h : CtN k o m p) : Digs (grD k o m p) := by
  obtain ⟨hk, ho, hp0, hp5, hm, hmo, hm4⟩ := h
  unfold grD
  rcases hk with rfl | rfl | rfl | rfl
  · have := hmo (.inl rfl)
    refine ⟨by simp [tab_length]; omega, fun x hx => ?_⟩
    simp only [if_true] at hx
    obtain ⟨i, hi, rfl⟩ := tab_mem hx
    split <;> omega
  · refine ⟨by simp [scoreL_length]; omega, fun x hx => ?_⟩
    exact scoreL_digs hp0 (by omega) o m (by omega) x (by simpa using hx)
  · have := hmo (.inr rfl)
    refine ⟨by simp [tab_length]; omega, fun x hx => ?_⟩
    obtain ⟨i, hi, rfl⟩ := tab_mem (show x ∈ tab m _ by simpa using hx)
    omega
  · have := hm4 rfl
    refine ⟨by simp [tab_length]; omega, fun x hx => ?_⟩
    obtain ⟨i, hi, rfl⟩ := tab_mem (show x ∈ tab m _ by simpa using hx)
    omega
theorem CtN.base {k p : Int} {o m : Nat} (h : CtN k o m p) : 0 ≤ ctBase k o p ∧ ctBase k o p ≤ 27 := by
  have := h.o8; have := h.p0; have := h.p5
  unfold ctBase; split
  · omega
  · split
    · omega
    · split <;> omega
theorem CtN.gr {k p : Int} {o m : Nat} (h : CtN k o m p) : 0 ≤ ctGr k o m p ∧ ctGr k o m p ≤ 282429536480 := by
  have := codeL_bd h.base.1 h.base.2 h.digs
  unfold ctGr; simpa using this
end Go.Proofs.Yteemlmmdngkghaa
namespace Go.Proofs.Yteemlmmdngkghaa
open Go.RowKit
set_option linter.unusedSimpArgs false
set_option linter.unusedVariables false

/-- each of the first n elements can be derived -/
def hsB (gr : GroupD) (s : ByteArray) (n : Nat) : Bool := (List.range n).all fun k => decide (0 < hD gr s k)
end Go.Proofs.Yteemlmmdngkghaa
namespace Go.Proofs.Yteemlmmdngkghaa
open Go.RowKit
set_option linter.unusedSimpArgs false
set_option linter.unusedVariables false

theorem BoxN.belowB {w w' : World} {b B : Nat} {t : TypeId} {cs : List Value} (h : BoxN w b t cs) (hb : Below B w w') (hB : b < B) : BoxN w' b t cs := (hb.block b hB).trans h
end Go.Proofs.Yteemlmmdngkghaa
namespace Go.Proofs.Yteemlmmdngkghaa
open Go.RowKit
set_option linter.unusedSimpArgs false
set_option linter.unusedVariables false

theorem OwnI.other {w : World} {B b : Nat} {v : Value} {l : List Int} (h : OwnI w B v l) (hb : b < B) (j : Nat) (x : Value) : OwnI (w.setCell ⟨b, j, none⟩ x) B v l :=
  h.kept (grownBy_setCell _ b j x) (.inr fun e => by have := (h.lt _ e).1; omega)
/-- a row of integers and a box of another type lie in different blocks -/
theorem OwnI.apart {w : World} {B b : Nat} {v : Value} {l : List Int} {t : TypeId} {cs : List Value} (h : OwnI w B v l) (hx : BoxN w b t cs) (ht : t ≠ 3) : ∀ k, v.ownBlock = some k → b ≠ k := by
  rintro k hk rfl
  rcases h.2.2 with h2 | ⟨g, cap, cur, rfl, hg, hr, r⟩
  · rw [h2.1] at hk; cases hk
  · cases hk
    unfold BoxN at hx
    rw [hx] at hr
    injection hr with hr
    injection hr with h1 h2 h3
    exact ht h2
theorem BoxN.grownR {w w' : World} {b : Nat} {t : TypeId} {cs : List Value} {row : Option Nat} (h : BoxN w b t cs) (hg : w.grownBy w' row) (hne : ∀ k, row = some k → b ≠ k) : BoxN w' b t cs :=
  (hg.block b h.lt (fun e => hne b e.symm rfl)).trans h
theorem Within.belowU {lo hi : Nat} {w u Y : World} (hw : Within lo hi u Y) (h : Below w.heap.size w u) (hlo : w.heap.size ≤ lo) : Below w.heap.size w Y := h.trans (hw.below h.size hlo)
theorem BoxN.otherN {w : World} {b b' : Nat} {t : TypeId} {cs : List Value} (h : BoxN w b t cs) (hb : b < b') (j : Nat) (x : Value) : BoxN (w.setCell ⟨b', j, none⟩ x) b t cs := h.other (by omega) j x
end Go.Proofs.Yteemlmmdngkghaa
namespace Go.Proofs.Yteemlmmdngkghaa
open Go.RowKit
set_option linter.unusedSimpArgs false
set_option linter.unusedVariables false

theorem AllSmall.nil : AllSmall [] := fun x hx => by cases hx
theorem AllSmall.cons {x : Int} {l : List Int} (h : Small x) (h' : AllSmall l) : AllSmall (x :: l) := fun y hy => by
  rcases List.mem_cons.1 hy with rfl | hy
  · exact h
  · exact h' y hy
end Go.Proofs.Yteemlmmdngkghaa
namespace Go.Proofs.Yteemlmmdngkghaa
open Go.RowKit
set_option linter.unusedSimpArgs false
set_option linter.unusedVariables false

/-- the k-th power -/
def yE (gr : GroupD) (b : Int) (k : Nat) : Int := powM b k gr.p
theorem yE_add (gr : GroupD) (b : Int) (a d : Nat) (h : yE gr b d = 1) : yE gr b (a + d) = yE gr b a := by
  have h' : b ^ d % gr.p = 1 := h
  show b ^ (a + d) % gr.p = b ^ a % gr.p
  rw [Int.pow_add, ← emod_mul_right, h', Int.mul_one]
theorem yE_mod (gr : GroupD) (b : Int) {d : Nat} (hd : 0 < d) (h : yE gr b d = 1) (j : Nat) : yE gr b j = yE gr b (j % d) := by
  induction j using Nat.strongRecOn with
  | ind j ih =>
    rcases Nat.lt_or_ge j d with hlt | hge
    · rw [Nat.mod_eq_of_lt hlt]
    · have e : j = (j - d) + d := by omega
      have h1 := ih (j - d) (by omega)
      rw [Nat.mod_eq_sub_mod hge, ← h1, ← yE_add gr b (j - d) d h, ← e]
theorem elB_pow {gr : GroupD} {x : Int} (h : elB gr x = true) : powM x gr.q gr.p = 1 := by
  unfold elB at h; simp only [Bool.and_eq_true, beq_iff_eq] at h; exact h.2
end Go.Proofs.Yteemlmmdngkghaa
namespace Go.Proofs.Yteemlmmdngkghaa
open Go.RowKit
set_option linter.unusedSimpArgs false
set_option linter.unusedVariables false

/-- the product of two residues -/
theorem mulT {gr : GroupD} (a b : Int) : mulL gr [a, b] = a * b % gr.p := by
  unfold mulL
  simp only [List.foldl_cons, List.foldl_nil, Int.one_mul]
  rw [emod_mul_left]
theorem elT {gr : GroupD} (hg : OkG gr) {x : Int} (h0 : 0 ≤ x) (h1 : x < gr.p) (h : powM x gr.q gr.p = 1) : elB gr x = true := by
  have hp := hg.p1
  have hq := hg.q1
  have h2 : x ≠ 0 := fun h3 => by
    rw [h3] at h
    unfold powM at h
    obtain ⟨n, hn⟩ : ∃ n, gr.q.toNat = n + 1 := ⟨gr.q.toNat - 1, by omega⟩
    rw [hn, Int.pow_succ, Int.mul_zero] at h
    simp at h
  unfold elB
  rw [h, Bool.and_eq_true, decide_eq_true_iff]
  exact ⟨by omega, rfl⟩
theorem elT_mod {gr : GroupD} (hg : OkG gr) {x : Int} (h : elB gr x = true) : x % gr.p = x := by
  obtain ⟨h1, h2⟩ := elB_bd h
  exact Int.emod_eq_of_lt (by omega) (by omega)
theorem elT_mul {gr : GroupD} (hg : OkG gr) {a b : Int} (ha : elB gr a = true) (hb : elB gr b = true) : elB gr (a * b % gr.p) = true := by
  have hp := hg.p1
  refine elT hg (Int.emod_nonneg _ (by omega)) (Int.emod_lt_of_pos _ (by omega)) ?_
  have h1 := elB_pow ha
  have h2 := elB_pow hb
  unfold powM at h1 h2 ⊢
  rw [emod_pow, Int.mul_pow, Int.mul_emod, h1, h2]
  exact Int.emod_eq_of_lt (by omega) (by omega)
theorem elT_one {gr : GroupD} (hg : OkG gr) : elB gr 1 = true := by
  have hp := hg.p1
  refine elT hg (by omega) (by omega) ?_
  unfold powM
  rw [Int.one_pow]
  exact Int.emod_eq_of_lt (by omega) (by omega)
theorem pow_one_mod {a p : Int} (hp : 1 < p) (h : a % p = 1) (k : Nat) : a ^ k % p = 1 := by
  rw [← emod_pow, h, Int.one_pow]
  exact Int.emod_eq_of_lt (by omega) hp
theorem elT_pow {gr : GroupD} (hg : OkG gr) {x : Int} (h : elB gr x = true) (e : Int) : elB gr (powE gr x e) = true := by
  have hp := hg.p1
  obtain ⟨h1, h2⟩ := powE_bd hg x e
  refine elT hg h1 h2 ?_
  have h3 := elB_pow h
  unfold powM at h3
  unfold powE powM
  rw [emod_pow, ← Int.pow_mul, Nat.mul_comm, Int.pow_mul]
  exact pow_one_mod (by omega) h3 _
theorem powE_emod (gr : GroupD) (x e : Int) : powE gr x (e % gr.q) = powE gr x e := by
  unfold powE; rw [Int.emod_emod]
/-- a power of an element goes by the residue of the exponent -/
theorem powE_nat {gr : GroupD} (hg : OkG gr) {x : Int} (h : elB gr x = true) (k : Nat) : powE gr x (k : Int) = x ^ k % gr.p := by
  have hq := hg.q1
  have h1 := elB_pow h
  obtain ⟨d, hd⟩ : ∃ d : Nat, gr.q = d := ⟨gr.q.toNat, by omega⟩
  have h2 : yE gr x d = 1 := by rw [hd] at h1; exact h1
  have h3 := yE_mod gr x (d := d) (by omega) h2 k
  have e1 : ((k : Int) % gr.q) = ((k % d : Nat) : Int) := by rw [hd]; omega
  show powM x ((k : Int) % gr.q) gr.p = x ^ k % gr.p
  rw [e1]
  exact h3.symm
theorem powE_add {gr : GroupD} (hg : OkG gr) {x : Int} (h : elB gr x = true) (a b : Int) : powE gr x (a + b) = powE gr x a * powE gr x b % gr.p := by
  have hq := hg.q1
  have e1 : 0 ≤ a % gr.q := Int.emod_nonneg _ (by omega)
  have e2 : 0 ≤ b % gr.q := Int.emod_nonneg _ (by omega)
  obtain ⟨i, hi⟩ : ∃ i : Nat, a % gr.q = i := ⟨(a % gr.q).toNat, by omega⟩
  obtain ⟨j, hj⟩ : ∃ j : Nat, b % gr.q = j := ⟨(b % gr.q).toNat, by omega⟩
  rw [← powE_emod gr x (a + b), Int.add_emod, hi, hj, powE_emod, ← powE_emod gr x a, ← powE_emod gr x b, hi, hj, powE_nat hg h, powE_nat hg h, show ((i : Int) + (j : Int)) = ((i + j : Nat) : Int) by omega, powE_nat hg h, Int.pow_add, Int.mul_emod]
theorem powE_pow {gr : GroupD} (hg : OkG gr) {x : Int} (h : elB gr x = true) (a b : Int) : powE gr (powE gr x a) b = powE gr x (a * b) := by
  have hq := hg.q1
  have e1 : 0 ≤ a % gr.q := Int.emod_nonneg _ (by omega)
  have e2 : 0 ≤ b % gr.q := Int.emod_nonneg _ (by omega)
  obtain ⟨i, hi⟩ : ∃ i : Nat, a % gr.q = i := ⟨(a % gr.q).toNat, by omega⟩
  obtain ⟨j, hj⟩ : ∃ j : Nat, b % gr.q = j := ⟨(b % gr.q).toNat, by omega⟩
  rw [← powE_emod gr x (a * b), Int.mul_emod, hi, hj, powE_emod, ← powE_emod gr (powE gr x a) b, hj, powE_nat hg (elT_pow hg h a), ← powE_emod gr x a, hi, powE_nat hg h, emod_pow, ← Int.pow_mul, show ((i : Int) * (j : Int)) = ((i * j : Nat) : Int) by rw [Int.natCast_mul], powE_nat hg h]
theorem powE_zero {gr : GroupD} (hg : OkG gr) {x : Int} : powE gr x 0 = 1 := by
  have := hg.p1
  unfold powE powM
  rw [Int.zero_emod, show (0 : Int).toNat = 0 from rfl, Int.pow_zero]
  exact Int.emod_eq_of_lt (by omega) (by omega)
theorem powE_single {gr : GroupD} (hg : OkG gr) {x : Int} (h : elB gr x = true) : powE gr x 1 = x := by
  have h1 := powE_nat hg h 1
  rw [Int.pow_succ, Int.pow_zero, Int.one_mul, elT_mod hg h] at h1
  exact h1
theorem powE_mulB (gr : GroupD) (a b e : Int) : powE gr (a * b % gr.p) e = powE gr a e * powE gr b e % gr.p := by
  unfold powE powM
  rw [emod_pow, Int.mul_pow, Int.mul_emod]
theorem powE_neg {gr : GroupD} (hg : OkG gr) {x : Int} (h : elB gr x = true) (a : Int) : powE gr x a * powE gr x (-a) % gr.p = 1 := by
  rw [← powE_add hg h, show a + -a = 0 by omega, powE_zero hg]
theorem expT {gr : GroupD} (hg : OkG gr) (a : Int) : expB gr (a % gr.q) = true := by
  have hq := hg.q1
  unfold expB
  rw [decide_eq_true_iff]
  have := Int.emod_nonneg a (show gr.q ≠ 0 by omega)
  have := Int.emod_lt_of_pos a (show 0 < gr.q by omega)
  exact ⟨by omega, by omega⟩
/-- the equation of a proof of an exponent: x^(w + e*s) = x^w * (x^s)^e -/
theorem sigma_eq {gr : GroupD} (hg : OkG gr) {x : Int} (h : elB gr x = true) (w e s : Int) : powE gr x ((w + e * s) % gr.q) = powE gr x w * powE gr (powE gr x s) e % gr.p := by
  rw [powE_emod, powE_add hg h, powE_pow hg h, Int.mul_comm e s]
end Go.Proofs.Yteemlmmdngkghaa
