/- The cursor of the draws (spec.l1Cur): next, pick, one, among. A call turns the cursor's block alone. -/
import Derived.Test.YtacpnphfopmofaaBaKG
import Derived.Lib.VarintBits
import Derived.Test.YtacpnphfopmofaaRows
import Derived.OrdersHeld
import Derived.Deep.RegionHeld
import Derived.Still
import Derived.WalkKit
import Derived.Test.YtacpnphfopmofaaBgKG
import Derived.Deep.QuietTactic
import Derived.BigQuiet
namespace Go.Proofs.Ytacpnphfopmofaa
open Go.RowKit
set_option linter.unusedSimpArgs false
set_option linter.unusedVariables false

/-- the value reads as bytes -/
def Bytes (w : World) (v : Value) : Prop :=
  ∃ a n c, v = .slice a n c ∧ n ≤ c ∧ c ≤ maxLen ∧ (n = 0 ∨ ∃ b o, a = some ⟨b, o, none⟩ ∧ ∀ i, i < n → ∃ x : Int, w.cell? ⟨b, o + i, none⟩ = some (.int .u8 x) ∧ 0 ≤ x ∧ x ≤ 255)
theorem Bytes.below {w w' : World} {v : Value} (h : Bytes w v) (hb : Below w.heap.size w w') : Bytes w' v := by
  obtain ⟨a, n, c, e, h1, h2, h3⟩ := h
  refine ⟨a, n, c, e, h1, h2, ?_⟩
  rcases h3 with h3 | ⟨b, o, h3, hc⟩
  · exact .inl h3
  · refine .inr ⟨b, o, h3, fun i hi => ?_⟩
    obtain ⟨x, h4, h5⟩ := hc i hi
    exact ⟨x, box_at h4 hb, h5⟩
theorem BoxN.drewN {w : World} {b : Nat} {t : TypeId} {cs : List Value} (h : BoxN w b t cs) (n : Nat) : BoxN (w.drewN n) b t cs := h.below (below_drewN (Below.refl _ _) n)
theorem BoxN.drew {w : World} {b : Nat} {t : TypeId} {cs : List Value} (h : BoxN w b t cs) : BoxN w.drew b t cs := h.below (Below.refl _ _).drew
theorem Within.drewN {lo hi : Nat} {w w' : World} (h : Within lo hi w w') (n : Nat) : Within lo hi w (w'.drewN n) := h.trans (Within.of_below (below_drewN (Below.refl _ _) n))
theorem Within.drew {lo hi : Nat} {w w' : World} (h : Within lo hi w w') : Within lo hi w w'.drew := h.trans (Within.of_below (Below.refl _ _).drew)
/-- what holds in every world that differs from w in block g alone (and in new blocks) -/
def Apart (g : Nat) (w : World) (P : World → Prop) : Prop := ∀ w', Within g (g + 1) w w' → P w'
section
variable {g : Nat} {w w' w0 : World} {P : World → Prop}
theorem Apart.here (h : Apart g w P) : P w := h w (Within.refl _ _ _)
theorem Apart.step (h : Apart g w P) (hw : Within g (g + 1) w w') : Apart g w' P := fun u hu => h u (hw.trans hu)
theorem Within.belowOf (hw : Within g (g + 1) w w') (h0 : Below w0.heap.size w0 w) (hg : w0.heap.size ≤ g) : Below w0.heap.size w0 w' :=
  h0.trans (hw.below h0.size hg)
theorem Apart.of_own {δ : Type} {K : Kind δ} {lo hi : Nat} {v : Value} {d : δ} (h : K.own w lo hi v d) (hd : hi ≤ g ∨ g < lo) : Apart g w (fun u => K.rd u v d) :=
  fun u hu => K.own_rd (K.kept h hu (by omega))
theorem Apart.of_ownI {B : Nat} {v : Value} {l : List Int} (h : OwnI w B v l) (hd : g < B) : Apart g w (fun u => Ints u v l) := fun u hu => (OwnI.ints (InI.kept (InI.of_own h) hu (.inr (by omega))).1)
end
/-- the cursor in block g: its bytes are memory of the world w0; its place is at most n -/
def Cur (w0 w : World) (g : Nat) (n : Int) : Prop :=
  w0.heap.size ≤ g ∧ ∃ v p s, BoxN w g 85 [v, .int .i64 p, .int .u64 s] ∧ Bytes w0 v ∧ 0 ≤ p ∧ p ≤ n
section
variable {g : Nat} {w w' w0 : World} {n : Int}
theorem Cur.ge (h : Cur w0 w g n) : w0.heap.size ≤ g := h.1
theorem Cur.lt (h : Cur w0 w g n) : g < w.heap.size := by obtain ⟨_, v, p, s, hB, _⟩ := h; exact hB.lt
theorem Cur.keep (h : Cur w0 w g n) (hb : Below w.heap.size w w') : Cur w0 w' g n := by
  obtain ⟨h1, v, p, s, hB, h2⟩ := h; exact ⟨h1, v, p, s, hB.below hb, h2⟩
theorem Cur.mono {n' : Int} (h : Cur w0 w g n) (hn : n ≤ n') : Cur w0 w g n' := by
  obtain ⟨h1, v, p, s, hB, h2, h3, h4⟩ := h; exact ⟨h1, v, p, s, hB, h2, h3, by omega⟩
theorem Cur.kept {lo hi : Nat} (h : Cur w0 w g n) (hw : Within lo hi w w') (hd : g < lo ∨ hi ≤ g) : Cur w0 w' g n := by
  obtain ⟨h1, v, p, s, hB, h2⟩ := h; exact ⟨h1, v, p, s, hB.kept hw hd, h2⟩
theorem Cur.new (w : World) {v : Value} (h : Bytes w v) : Cur w (w.alloc (.cells #[v, .int .i64 0, .int .u64 0] 85)) w.heap.size 0 :=
  ⟨Nat.le_refl _, v, 0, 0, BoxN.new w [v, .int .i64 0, .int .u64 0] _, h, by omega, by omega⟩
end
theorem next_val (z : Int) : 0 ≤ wrap64 (bits .and .u64 (IntKind.u64.wrap z / 1099511627776) 255) ∧ wrap64 (bits .and .u64 (IntKind.u64.wrap z / 1099511627776) 255) ≤ 255 := by
  have h0 : 0 ≤ IntKind.u64.wrap z / 1099511627776 ∧ IntKind.u64.wrap z / 1099511627776 < 2 ^ 64 := by rw [IntKind.wrap_u64]; omega
  have h := bits_mask .u64 64 (by decide) wraps_u64 8 (by decide) _ h0.1 h0.2
  have e1 : ((2 : Int) ^ 8 - 1) = 255 := by decide
  rw [e1] at h
  rw [h]
  have e2 : ((2 : Int) ^ 8) = 256 := by decide
  rw [e2]
  have e3 : wrap64 (IntKind.u64.wrap z / 1099511627776 % 256) = IntKind.u64.wrap z / 1099511627776 % 256 := by unfold wrap64; omega
  rw [e3]; omega
set_option maxRecDepth 100000 in
set_option maxHeartbeats 1000000 in
theorem spec_next (w0 : World) (g : Nat) (n : Int) (w : World) (h : Cur w0 w g n) (hb : Below w0.heap.size w0 w) (hn : n ≤ 4000000000000000) :
    Calls Try.prog 145 #[.pointer (some ⟨g, 0, none⟩)] w fun e w' => (∃ x : Int, e = .returned (.int .i64 x) ∧ 0 ≤ x ∧ x ≤ 255) ∧ Cur w0 w' g (n + 1) ∧ Within g (g + 1) w w' := by
  obtain ⟨hg, v, p, s, hB, ⟨a, m, c, rfl, k1, k2, hv⟩, hp0, hpn⟩ := h
  have HY : Hid (Bytes w0 (.slice a m c)) := ⟨a, m, c, rfl, k1, k2, hv⟩
  unfold maxLen at k2
  have HB := Lib.hid hB
  have c0 := hB.cell (i := 0) rfl
  have c1 := hB.cell (i := 1) rfl
  have c2 := hB.cell (i := 2) rfl
  have f1 := hB.frozen 1
  have f2 := hB.frozen 2
  clear hB
  by_cases hlt : p < (m : Int)
  · obtain ⟨b, o, rfl, hcx⟩ : ∃ b o, a = some ⟨b, o, none⟩ ∧ ∀ i, i < m → ∃ x : Int, w0.cell? ⟨b, o + i, none⟩ = some (.int .u8 x) ∧ 0 ≤ x ∧ x ≤ 255 := by
      rcases hv with hv | hv
      · omega
      · exact hv
    obtain ⟨k, rfl⟩ := Int.eq_ofNat_of_zero_le hp0
    obtain ⟨x, hx, hx0, hx1⟩ := hcx k (by omega)
    replace hx := box_at hx hb
    have ew : IntKind.i64.wrap ((k : Int) + 1) = (k : Int) + 1 := IntWalk.i64_in _ (by omega)
    clear hcx hv
    go_enter Try.func145, Try.ntmps145
    go_wp2
    go_quiet (fail)
    go_wp2
    go_quiet (fail)
    go_wp2
    go_quiet (fail)
    go_wp2
    go_ret
    exact ⟨⟨x, rfl, hx0, hx1⟩, ⟨hg, _, _, _, (((HB.out.drewN _).set 1 _).set 2 _).drewN _, HY.out, by omega, by omega⟩, by (repeat (first | exact Within.refl _ _ _ | assumption | refine Within.drewN ?_ _ | refine Within.drew ?_ | refine Within.setCell ?_ (by omega) (by omega) _ _ | refine Within.allocR ?_ _))⟩
  · obtain ⟨k, rfl⟩ := Int.eq_ofNat_of_zero_le hp0
    have ew : IntKind.i64.wrap ((k : Int) + 1) = (k : Int) + 1 := IntWalk.i64_in _ (by omega)
    clear hv
    go_enter Try.func145, Try.ntmps145
    go_wp2
    go_quiet (fail)
    go_wp2
    go_quiet (fail)
    go_wp2
    go_ret
    exact ⟨⟨_, rfl, (next_val _).1, (next_val _).2⟩, ⟨hg, _, _, _, (((HB.out.drewN _).set 1 _).set 2 _).drewN _, HY.out, by omega, by omega⟩, by (repeat (first | exact Within.refl _ _ _ | assumption | refine Within.drewN ?_ _ | refine Within.drew ?_ | refine Within.setCell ?_ (by omega) (by omega) _ _ | refine Within.allocR ?_ _))⟩
theorem emod_le' {a m : Int} (h : 0 ≤ a) (hm : 0 < m) : a % m ≤ a := by
  by_cases hc : a < m
  · rw [Int.emod_eq_of_lt h hc]; omega
  · have := Int.emod_lt_of_pos a hm; omega
set_option maxRecDepth 100000 in
set_option maxHeartbeats 1000000 in
theorem spec_pick (w0 : World) (g : Nat) (n m : Int) (w : World) (h : Cur w0 w g n) (hb : Below w0.heap.size w0 w) (hn : n ≤ 3000000000000000) :
    Calls Try.prog 72 #[.pointer (some ⟨g, 0, none⟩), .int .i64 m] w fun e w' => (∃ x : Int, e = .returned (.int .i64 x) ∧ 0 ≤ x ∧ x ≤ 65535 ∧ (1 ≤ m → x < m) ∧ (m ≤ 1 → x = 0)) ∧ Cur w0 w' g (n + 2) ∧ Within g (g + 1) w w' := by
  have H := Lib.hid h; clear h
  by_cases h1 : m ≤ 1
  · go_enter Try.func72, Try.ntmps72
    go_wp2
    go_ret
    exact ⟨⟨0, rfl, by omega, by omega, by omega, by omega⟩, H.out.mono (by omega), Within.refl _ _ _⟩
  · by_cases h2 : m ≤ 200
    · go_enter Try.func72, Try.ntmps72
      go_wp2_with fail
      refine (spec_next w0 g n _ H.out hb (by omega)).mono ?_
      rintro e w1 ⟨⟨x, rfl, hx0, hx1⟩, hc, hw⟩
      have HC := Lib.hid hc; have HW := Lib.hid hw; clear hc hw
      go_wp2_with fail
      go_ret
      exact ⟨⟨_, rfl, Int.emod_nonneg _ (by omega), by have := Int.emod_lt_of_pos x (show 0 < m by omega); omega, fun _ => Int.emod_lt_of_pos x (by omega), by omega⟩, HC.out.mono (by omega), HW.out⟩
    · go_enter Try.func72, Try.ntmps72
      go_wp2_with fail
      refine (spec_next w0 g n _ H.out hb (by omega)).mono ?_
      rintro e w1 ⟨⟨x, rfl, hx0, hx1⟩, hc, hw⟩
      have HC := Lib.hid hc; have HW := Lib.hid hw; clear hc hw
      go_wp2_with fail
      refine (spec_next w0 g (n + 1) _ HC.out (HW.out.belowOf hb H.out.ge) (by omega)).mono ?_
      rintro e w2 ⟨⟨y, rfl, hy0, hy1⟩, hc2, hw2⟩
      have HC2 := Lib.hid hc2; have HW2 := Lib.hid hw2; clear hc2 hw2
      go_wp2_with fail
      go_ret
      exact ⟨⟨_, rfl, Int.emod_nonneg _ (by omega), by have := emod_le' (a := x * 256 + y) (m := m) (by omega) (by omega); omega, fun _ => Int.emod_lt_of_pos _ (by omega), by omega⟩, HC2.out.mono (by omega), HW.out.trans HW2.out⟩
theorem spec_one (w0 : World) (g : Nat) (n m : Int) (w : World) (h : Cur w0 w g n) (hb : Below w0.heap.size w0 w) (hn : n ≤ 3000000000000000) :
    Calls Try.prog 59 #[.pointer (some ⟨g, 0, none⟩), .int .i64 m] w fun e w' => (∃ x : Bool, e = .returned (.bool x)) ∧ Cur w0 w' g (n + 2) ∧ Within g (g + 1) w w' := by
  have H := Lib.hid h; clear h
  go_enter Try.func59, Try.ntmps59
  go_wp2_with fail
  refine (spec_pick w0 g n m _ H.out hb hn).mono ?_
  rintro e w1 ⟨⟨x, rfl, hx⟩, hc, hw⟩
  have HC := Lib.hid hc; have HW := Lib.hid hw; clear hc hw hx
  go_wp2_with fail
  go_ret
  exact ⟨⟨_, rfl⟩, HC.out, HW.out⟩
set_option maxHeartbeats 1000000 in
theorem spec_among (w0 : World) (g : Nat) (n : Int) (v : Value) (l : List Int) (w : World) (h : Cur w0 w g n) (hb : Below w0.heap.size w0 w) (hn : n ≤ 3000000000000000) (hl : Apart g w (fun u => Ints u v l)) (h0 : 0 < l.length) :
    Calls Try.prog 71 #[.pointer (some ⟨g, 0, none⟩), v] w fun e w' => (∃ x : Int, e = .returned (.int .i64 x) ∧ x ∈ l) ∧ Cur w0 w' g (n + 2) ∧ Within g (g + 1) w w' := by
  have H := Lib.hid h; clear h
  obtain ⟨a, m, c, rfl⟩ := hl.here.shape
  have e := hl.here.len
  obtain ⟨k1, k2⟩ := hl.here.capMax
  unfold maxLen at k2
  have HL := Lib.hid hl; clear hl
  have HE := Lib.hid e; clear e
  have hm : 0 < m := by have := HE.out; omega
  clear h0
  go_enter Try.func71, Try.ntmps71
  go_wp2_with fail
  refine (spec_pick w0 g n _ _ H.out hb hn).mono ?_
  rintro e w1 ⟨⟨x, rfl, hx0, _, hx1, _⟩, hc, hw⟩
  have HC := Lib.hid hc; have HW := Lib.hid hw; clear hc hw
  obtain ⟨k, rfl⟩ := Int.eq_ofNat_of_zero_le hx0
  have hk : (k : Int) < (m : Int) := hx1 (by omega)
  clear hx1
  have hI := (HL.out.step HW.out).here
  obtain ⟨b, o, rfl, hcx⟩ := hI.at_ hm
  have hy := hcx k (by omega)
  have HM : Hid (nth l k ∈ l) := by unfold Hid; rw [nth_eq (by have := HE.out; omega)]; exact List.getElem_mem _
  generalize nth l k = y at hy HM
  clear hcx hI
  go_wp2_with fail
  go_ret
  exact ⟨⟨y, rfl, HM.out⟩, HC.out, HW.out⟩
end Go.Proofs.Ytacpnphfopmofaa
namespace Go.Proofs.Ytacpnphfopmofaa
open Go.RowKit
set_option linter.unusedSimpArgs false
set_option linter.unusedVariables false

theorem OwnI.within {w w' : World} {B g : Nat} {v : Value} {l : List Int} (h : OwnI w B v l) (hw : Within g (g + 1) w w') (hg : g < B) : OwnI w' B v l := (InI.kept (InI.of_own h) hw (.inr (by omega))).1
theorem Within.belowStep {lo hi : Nat} {w w1 w2 : World} (h : Within lo hi w w1) (hb : Below w.heap.size w1 w2) : Within lo hi w w2 :=
  ⟨hb.os.trans h.os, hb.tape.trans h.tape, hb.output.trans h.output, Nat.le_trans h.size hb.size, fun k hk hr => (hb.block k hk).trans (h.block k hk hr)⟩
theorem Cur.belowB {w0 w w' : World} {g B : Nat} {n : Int} (h : Cur w0 w g n) (hb : Below B w w') (hg : g < B) : Cur w0 w' g n := by
  obtain ⟨h1, v, p, s, hB, h2⟩ := h
  exact ⟨h1, v, p, s, (hb.block g hg).trans hB, h2⟩
theorem lit_I64 {l : List Int} (h : (l.all fun x => decide (-9223372036854775808 ≤ x ∧ x ≤ 9223372036854775807)) = true) : AllI64 l := fun x hx => by
  have := List.all_eq_true.1 h x hx; simpa [I64] using this
theorem sl_dropU {a : Option Addr} {n c : Nat} {x : Int} {k : Nat} (hx : x = k) (hk : k ≤ n) :
    ∃ a', (∀ W, (Instr.slice 42 (.slice a n c) (some (.int .i64 x)) none none).run Try.prog W = .ok (.slice a' (n - k) (c - k)) W) ∧ ∀ u l, Ints u (.slice a n c) l → Ints u (.slice a' (n - k) (c - k)) (l.drop k) := by
  subst hx
  refine ⟨_, fun W => ?_, fun u l h => h.drop hk⟩
  simp [Try.underlying42, go_sem, hk, run_slice_l, run_underlying]
end Go.Proofs.Ytacpnphfopmofaa
namespace Go.Proofs.Ytacpnphfopmofaa
open Go.RowKit
set_option linter.unusedSimpArgs false
set_option linter.unusedVariables false

def afters (ops : Array Oper) (t : Nat) : List Nat := match ops[t]? with
  | some o => (o.after.toList.filter (Region.binds .any)).map (·.on)
  | none => []
/-- what stands ahead of some operations -/
def closeW (ops : Array Oper) : Nat → List Nat → List Nat → List Nat
  | 0, seen, _ => seen
  | _ + 1, seen, [] => seen
  | f + 1, seen, x :: r => if seen.contains x then closeW ops f seen r else closeW ops f (x :: seen) (afters ops x ++ r)
def regNeeds (ops : Array Oper) (F t i : Nat) : Bool := (closeW ops (F * 40) [] (afters ops t)).contains i
def seqI (ops : Array Oper) : List Nat → Array Bool → Bool
  | [], listed => (Region.ready .any ops listed).isEmpty
  | k :: r, listed => decide (Region.ready .any ops listed = [k]) && seqI ops r (listed.setIfInBounds k true)
def lexT (ops : Array Oper) (tl : List Nat) : List (Bool × Nat) → Array Bool → Bool
  | [], listed => seqI ops tl listed
  | (b, i) :: r, listed => (Region.ready .any ops listed).contains i && (if b then Region.free .any ops listed i else decide (Region.ready .any ops listed = [i])) && lexT ops tl r (listed.setIfInBounds i true)
def inHd (hd : List (Bool × Nat)) (i : Nat) : Bool := hd.any fun x => x.2 == i
/-- the order may serve for all orders -/
def takeB (ops : Array Oper) (F : Nat) (hd : List (Bool × Nat)) (tl : List Nat) : Bool :=
  Region.noSelect ops && (tl.all fun t => !inHd hd t) && ((List.range ops.size).all fun t => inHd hd t || hd.all fun x => regNeeds ops F t x.2) && lexT ops tl hd (Array.replicate ops.size false)
def pickL (l : List Oper) : List (Bool × Nat) → List (Bool × Oper)
  | [] => []
  | (b, i) :: r => match l[i]? with
    | some o => (b, o) :: pickL l r
    | none => pickL l r
def pickN (l : List Oper) : List Nat → List Oper
  | [] => []
  | i :: r => match l[i]? with
    | some o => o :: pickN l r
    | none => pickN l r
section
variable {P : Program} {ops : Array Oper} {Q : Exit → Act → World → Prop} {S : World → Prop}
/-- the walk: (true, o): a read; (false, o): it changes the world, S anew behind it -/
def wpTake (P : Program) (ops : Array Oper) (Q : Exit → Act → World → Prop) (S : World → Prop) (K : Act → World → Prop) : List (Bool × Oper) → Act → World → Prop
  | [], a, w => K a w
  | (true, o) :: rest, a, w => if Region.wanted o (yielded ops a.tmps) then ∃ v, (∀ w', S w' → (execOp a.eval o).run P w' = .ok (.value v) w') ∧ wpTake P ops Q S K rest (a.put o.dst v) w else wpTake P ops Q S K rest (a.put o.dst undef) w
  | (false, o) :: rest, a, w => if Region.wanted o (yielded ops a.tmps) then o.wp P a w (fun a' w' => S w' ∧ wpTake P ops Q S K rest a' w') Q ∨ (o.asks P a w ∧ LetsOut Q) else S w ∧ wpTake P ops Q S K rest (a.put o.dst undef) w
theorem wpTake_nil {K : Act → World → Prop} {a : Act} {w : World} (h : K a w) : wpTake P ops Q S K [] a w := h
theorem wpTake_read {K : Act → World → Prop} {o : Oper} {rest : List (Bool × Oper)} {a : Act} {w : World} (v : Value) (hw : Region.wanted o (yielded ops a.tmps) = true)
    (hy : ∀ w', S w' → (execOp a.eval o).run P w' = .ok (.value v) w') (h : wpTake P ops Q S K rest (a.put o.dst v) w) : wpTake P ops Q S K ((true, o) :: rest) a w := by
  unfold wpTake; rw [if_pos hw]; exact ⟨v, hy, h⟩
theorem wpTake_do {K : Act → World → Prop} {o : Oper} {rest : List (Bool × Oper)} {a : Act} {w : World} (hw : Region.wanted o (yielded ops a.tmps) = true)
    (h : ∀ K' : Act → World → Prop, Shut (∀ a w, S w → (S w → wpTake P ops Q S K rest a w) → K' a w) → o.wp P a w K' Q) : wpTake P ops Q S K ((false, o) :: rest) a w := by
  unfold wpTake; rw [if_pos hw]; exact .inl (h _ (fun a w hS hT => ⟨hS, hT hS⟩))
/-- the operations of the head, in whatever order -/
def wpAnyT (P : Program) (ops : Array Oper) (Q : Exit → Act → World → Prop) (S : World → Prop) (Hd : Nat → Bool) (L : Array Bool → Act → World → Prop) : Nat → Array Bool → Act → World → Prop
  | 0, listed, a, w => L listed a w
  | f + 1, listed, a, w => Region.ready .any ops listed ≠ [] ∧ ∀ i ∈ Region.ready .any ops listed, Hd i = true ∧ wpOp P ops Q i (fun a' w' => S w' ∧ wpAnyT P ops Q S Hd L f (listed.setIfInBounds i true) a' w') a w
theorem wpAny_of_T {Hd : Nat → Bool} {g : Nat} {L : Array Bool → Act → World → Prop} (hL : ∀ listed a w, L listed a w → wpAny P .any ops Q g listed a w) :
    ∀ (f : Nat) (listed : Array Bool) (a : Act) (w : World), wpAnyT P ops Q S Hd L f listed a w → wpAny P .any ops Q (f + g) listed a w
  | 0, _, _, _, h => by rw [Nat.zero_add]; exact hL _ _ _ h
  | f + 1, listed, a, w, h => by
    rw [show f + 1 + g = (f + g) + 1 by omega]
    exact ⟨fun h0 => absurd h0 h.1, fun i hi => wpOp_mono (fun a' w' h' => wpAny_of_T hL f _ a' w' h'.2) (h.2 i hi).2⟩
structure InvT (ops : Array Oper) (Hd : Nat → Bool) (listed : Array Bool) : Prop where
  size : listed.size = ops.size
  closed : ∀ j oj, ops[j]? = some oj → listed.getD j false = true → ∀ e ∈ oj.after, Region.binds .any e = true → listed.getD e.on false = true
theorem getD_bothT {listed : Array Bool} {i : Nat} (h : listed.getD i true = false) : listed.getD i false = false := by
  rcases Nat.lt_or_ge i listed.size with h' | h'
  · simp [h'] at h ⊢; exact h
  · simp [Array.getElem?_eq_none h'] at h
theorem InvT.set {Hd : Nat → Bool} {listed : Array Bool} {i : Nat} (inv : InvT ops Hd listed) (hi : i ∈ Region.ready .any ops listed) : InvT ops Hd (listed.setIfInBounds i true) := by
  obtain ⟨_, oi, hoi, hall⟩ := mem_ready.1 hi
  refine ⟨by simp [inv.size], fun j oj hj hl e he hb => ?_⟩
  by_cases hij : i = j
  · subst hij
    have : oj = oi := Option.some.inj (hj.symm.trans hoi)
    subst this
    exact getD_set_true (hall e he hb)
  · rw [getD_set_ne false hij] at hl
    exact getD_set_true (inv.closed j oj hj hl e he hb)
theorem afters_listed {Hd : Nat → Bool} {listed : Array Bool} (inv : InvT ops Hd listed) {x : Nat} (h : listed.getD x false = true) : ∀ y ∈ afters ops x, listed.getD y false = true := by
  intro y hy
  unfold afters at hy
  cases ho : ops[x]? with
  | none => rw [ho] at hy; simp at hy
  | some o =>
    rw [ho] at hy
    obtain ⟨e, he, rfl⟩ := List.mem_map.1 hy
    obtain ⟨he1, he2⟩ := List.mem_filter.1 he
    exact inv.closed x o ho h e (by simpa using he1) he2
theorem closeW_listed {Hd : Nat → Bool} {listed : Array Bool} (inv : InvT ops Hd listed) : ∀ (f : Nat) (seen work : List Nat), (∀ y ∈ seen, listed.getD y false = true) → (∀ y ∈ work, listed.getD y false = true) → ∀ y ∈ closeW ops f seen work, listed.getD y false = true := by
  intro f
  induction f with
  | zero => intro seen work h1 _ y hy; exact h1 y hy
  | succ f ih =>
    intro seen work h1 h2 y hy
    cases work with
    | nil => exact h1 y hy
    | cons x r =>
      unfold closeW at hy
      split at hy
      · exact ih seen r h1 (fun z hz => h2 z (List.mem_cons_of_mem _ hz)) y hy
      · refine ih (x :: seen) (afters ops x ++ r) (fun z hz => ?_) (fun z hz => ?_) y hy
        · rcases List.mem_cons.1 hz with rfl | hz
          · exact h2 z (by simp)
          · exact h1 z hz
        · rcases List.mem_append.1 hz with hz | hz
          · exact afters_listed inv (h2 x (by simp)) z hz
          · exact h2 z (List.mem_cons_of_mem _ hz)
theorem needs_listed {Hd : Nat → Bool} {listed : Array Bool} (inv : InvT ops Hd listed) : ∀ (F t i : Nat), regNeeds ops F t i = true → (∀ o, ops[t]? = some o → ∀ e ∈ o.after, Region.binds .any e = true → listed.getD e.on false = true) → listed.getD i false = true := by
  intro F t i h hd
  unfold regNeeds at h
  refine closeW_listed inv _ [] _ (fun y hy => by simp at hy) (fun y hy => ?_) i (by simpa using h)
  unfold afters at hy
  cases ho : ops[t]? with
  | none => rw [ho] at hy; simp at hy
  | some o =>
    rw [ho] at hy
    obtain ⟨e, he, rfl⟩ := List.mem_map.1 hy
    obtain ⟨he1, he2⟩ := List.mem_filter.1 he
    exact hd o ho e (by simpa using he1) he2
theorem blockedT {Hd : Nat → Bool} {listed : Array Bool} {i F : Nat} (inv : InvT ops Hd listed) (hn : ∀ t, t < ops.size → Hd t = false → regNeeds ops F t i = true) (hun : listed.getD i true = false) :
    ∀ j ∈ Region.ready .any ops listed, Hd j = true := by
  intro j hj
  cases hh : Hd j with
  | true => rfl
  | false =>
    obtain ⟨_, oj, hoj, hall⟩ := mem_ready.1 hj
    have h1 := needs_listed inv F j i (hn j (Array.getElem?_eq_some_iff.1 hoj).1 hh) (fun o ho e he hb => by
      have : o = oj := Option.some.inj (ho.symm.trans hoj)
      subst this; exact hall e he hb)
    rw [getD_bothT hun] at h1; cases h1
theorem wpAnyT_first {Hd : Nat → Bool} {i F : Nat} {oi : Oper} {v : Value} {L : Array Bool → Act → World → Prop} (hi : ops[i]? = some oi) (hsel : ∀ (j : Nat) (o : Oper) cs b, ops[j]? = some o → o.op ≠ .select cs b)
    (hQ : ∀ c a w, Q (.panic c) (a.put oi.dst v) w → Q (.panic c) a w) (hn : ∀ t, t < ops.size → Hd t = false → regNeeds ops F t i = true) (hHd : Hd i = true)
    (hdone : ∀ listed a w, L listed a w → ∀ j ∈ Region.ready .any ops listed, Hd j = false) :
    ∀ (f : Nat) (listed : Array Bool) (a : Act) (w : World), InvT ops Hd listed →
      (∀ j oj, ops[j]? = some oj → j ≠ i → listed.getD j true = false → (∀ e ∈ oj.after, Region.binds .any e = true → e.on ≠ i) → oi.apart ops oj = true) →
      i ∈ Region.ready .any ops listed → YieldsIf P ops S oi v a → S w →
      wpAnyT P ops Q S Hd L f (listed.setIfInBounds i true) (a.put oi.dst v) w → wpAnyT P ops Q S Hd L (f + 1) listed a w := by
  intro f
  induction f with
  | zero =>
    intro listed a w inv _ hr hy hS H
    have hun := (mem_ready.1 hr).1
    refine ⟨fun h => (by rw [h] at hr; cases hr), fun j hj => ?_⟩
    have hjH := blockedT inv hn hun j hj
    refine ⟨hjH, ?_⟩
    by_cases hji : j = i
    · subst hji; exact hy.wpOp hi hS ⟨hS, H⟩
    · have := hdone _ _ _ H j (ready_mono hj hji)
      rw [hjH] at this; cases this
  | succ f ih =>
    intro listed a w inv hfree hr hy hS H
    have hun := (mem_ready.1 hr).1
    refine ⟨fun h => (by rw [h] at hr; cases hr), fun j hj => ?_⟩
    refine ⟨blockedT inv hn hun j hj, ?_⟩
    by_cases hji : j = i
    · subst hji; exact hy.wpOp hi hS ⟨hS, H⟩
    · have h1 := (H.2 j (ready_mono hj hji)).2
      obtain ⟨hjun, oj, hoj, hall⟩ := mem_ready.1 hj
      have hnot : ∀ e ∈ oj.after, Region.binds .any e = true → e.on ≠ i := fun e he hb heq => by
        have h1 := hall e he hb
        rw [heq, getD_bothT hun] at h1
        cases h1
      have h2 := wpOp_putIf hoj (hfree j oj hoj hji hjun hnot) (fun cs b => hsel i oi cs b hi) (fun cs b => hsel j oj cs b hoj) hQ hy h1
      have hfree' : ∀ k ok, ops[k]? = some ok → k ≠ i → (listed.setIfInBounds j true).getD k true = false →
          (∀ e ∈ ok.after, Region.binds .any e = true → e.on ≠ i) → oi.apart ops ok = true := fun k ok hk hki hun hno => by
        refine hfree k ok hk hki ?_ hno
        by_cases hjk : j = k
        · subst hjk; exact hjun
        · rw [getD_set_ne true hjk] at hun; exact hun
      refine wpOp_mono (fun a' w' h3 => ⟨h3.2.1, ih (listed.setIfInBounds j true) a' w' (inv.set hj) hfree' (ready_mono hr (Ne.symm hji)) h3.1 h3.2.1 ?_⟩) h2
      rw [Array.setIfInBounds_comm _ _ hji]
      exact h3.2.2
theorem seqI_ready {tl : List Nat} {Hd : Nat → Bool} (hT : ∀ t ∈ tl, Hd t = false) {listed : Array Bool} (h : seqI ops tl listed = true) : ∀ j ∈ Region.ready .any ops listed, Hd j = false := by
  cases tl with
  | nil => intro j hj; simp only [seqI, List.isEmpty_iff] at h; rw [h] at hj; cases hj
  | cons k r =>
    intro j hj
    simp only [seqI, Bool.and_eq_true, decide_eq_true_eq] at h
    rw [h.1] at hj
    have : j = k := by simpa using hj
    subst this
    exact hT j (by simp)
theorem wpAny_of_seqI {l : List Oper} (hl : ops = l.toArray) : ∀ (tl : List Nat) (listed : Array Bool) (a : Act) (w : World),
    seqI ops tl listed = true → wpList P ops Q (pickN l tl) a w → wpAny P .any ops Q tl.length listed a w
  | [], _, _, _, hB, h => ⟨by simpa [seqI] using hB, h⟩
  | k :: r, listed, a, w, hB, h => by
    simp only [seqI, Bool.and_eq_true, decide_eq_true_eq] at hB
    refine ⟨fun h1 => (by rw [hB.1] at h1; cases h1), fun i hi => ?_⟩
    have hi' := hi
    rw [hB.1] at hi
    have hik : i = k := by simpa using hi
    subst hik
    obtain ⟨_, oi, hoi, _⟩ := mem_ready.1 hi'
    have hli : l[i]? = some oi := by rw [hl] at hoi; simpa using hoi
    unfold pickN at h
    rw [hli] at h
    have hw : wpOp P ops Q i (wpList P ops Q (pickN l r)) a w := by unfold wpOp; simp only [hoi]; exact h
    exact wpOp_mono (fun a' w' h' => wpAny_of_seqI hl r _ a' w' hB.2 h') hw
theorem wpAnyT_of_take {l : List Oper} (hl : ops = l.toArray) {F : Nat} {Hd : Nat → Bool} {K : Act → World → Prop} {tl : List Nat} (hsel : Region.noSelect ops = true) (hT : ∀ t ∈ tl, Hd t = false)
    (hQ : ∀ c a d v w, Q (.panic c) (a.put d v) w → Q (.panic c) a w) :
    ∀ (hd : List (Bool × Nat)) (listed : Array Bool) (a : Act) (w : World), (∀ x ∈ hd, Hd x.2 = true ∧ ∀ t, t < ops.size → Hd t = false → regNeeds ops F t x.2 = true) →
      InvT ops Hd listed → lexT ops tl hd listed = true → S w → wpTake P ops Q S K (pickL l hd) a w →
      wpAnyT P ops Q S Hd (fun listed' a' w' => seqI ops tl listed' = true ∧ K a' w') hd.length listed a w
  | [], listed, a, w, _, _, hB, _, h => ⟨by simpa [lexT] using hB, h⟩
  | (b, i) :: r, listed, a, w, hh, inv, hB, hS, h => by
    simp only [lexT, Bool.and_eq_true] at hB
    obtain ⟨⟨hr, hf⟩, hB'⟩ := hB
    have hr' : i ∈ Region.ready .any ops listed := by simpa using hr
    obtain ⟨_, oi, hoi, _⟩ := mem_ready.1 hr'
    have hli : l[i]? = some oi := by rw [hl] at hoi; simpa using hoi
    unfold pickL at h
    rw [hli] at h
    obtain ⟨h1, h2⟩ := hh (b, i) (by simp)
    have ih := wpAnyT_of_take (F := F) (K := K) hl hsel hT hQ r (listed.setIfInBounds i true)
    have hh' : ∀ x ∈ r, Hd x.2 = true ∧ ∀ t, t < ops.size → Hd t = false → regNeeds ops F t x.2 = true := fun x hx => hh x (by simp [hx])
    cases b with
    | true =>
      simp only [if_true] at hf
      unfold wpTake at h
      by_cases hw : Region.wanted oi (yielded ops a.tmps) = true
      · rw [if_pos hw] at h
        obtain ⟨v, hy, hK⟩ := h
        exact wpAnyT_first hoi (Region.noSelect_spec hsel) (fun c a w => hQ c a _ _ w) h2 h1 (fun listed' a' w' hL => seqI_ready hT hL.1) r.length listed a w inv (Region.free_spec hoi hf) hr' (.inl ⟨hw, hy⟩) hS
          (ih _ w hh' (inv.set hr') hB' hS hK)
      · rw [if_neg hw] at h
        exact wpAnyT_first hoi (Region.noSelect_spec hsel) (fun c a w => hQ c a _ _ w) h2 h1 (fun listed' a' w' hL => seqI_ready hT hL.1) r.length listed a w inv (Region.free_spec hoi hf) hr' (.inr ⟨by simpa using hw, rfl⟩) hS
          (ih _ w hh' (inv.set hr') hB' hS h)
    | false =>
      simp only [Bool.false_eq_true, if_false, decide_eq_true_eq] at hf
      unfold wpTake at h
      refine ⟨fun h0 => (by rw [h0] at hr'; cases hr'), fun j hj => ?_⟩
      rw [hf] at hj
      have hji : j = i := by simpa using hj
      subst hji
      refine ⟨h1, ?_⟩
      refine wpOp_mono (K := fun a' w' => S w' ∧ wpTake P ops Q S K (pickL l r) a' w') (fun a' w' hh2 => ⟨hh2.1, ih a' w' hh' (inv.set hr') hB' hh2.1 hh2.2⟩) ?_
      unfold wpOp
      simp only [hoi]
      exact h
/-- one walk serves all orders -/
theorem wp_region_take {id : Nat} {a : Act} {w : World} {l : List Oper} (S : World → Prop) (F : Nat) (hd : List (Bool × Nat)) (tl : List Nat) (hm : P.follows .mixedOrders = true) (hB : takeB l.toArray F hd tl = true) (hsz : l.length = hd.length + tl.length)
    (hQ : ∀ c a d v w, Q (.panic c) (a.put d v) w → Q (.panic c) a w) (hS : S w.drew)
    (h : wpTake P l.toArray Q S (fun a' w' => wpList P l.toArray Q (pickN l tl) a' w') (pickL l hd) a w.drew) : (Code.region id l.toArray true).wp P Q a w := by
  simp only [takeB, Bool.and_eq_true] at hB
  obtain ⟨⟨⟨hsel, hT⟩, hN⟩, hlex⟩ := hB
  have hT' : ∀ t ∈ tl, inHd hd t = false := fun t ht => by have := List.all_eq_true.1 hT t ht; simpa using this
  have inv0 : InvT l.toArray (inHd hd) (Array.replicate l.toArray.size false) := ⟨by simp, fun j oj _ hl => by
    exfalso
    rcases Nat.lt_or_ge j l.toArray.size with h | h
    · simp at hl
      have : j < l.length := by simpa using h
      simp [this] at hl
    · have h' : ¬ j < l.length := by simpa using h
      simp [h'] at hl⟩
  have hh : ∀ x ∈ hd, inHd hd x.2 = true ∧ ∀ t, t < l.toArray.size → inHd hd t = false → regNeeds l.toArray F t x.2 = true := fun x hx => by
    refine ⟨List.any_eq_true.2 ⟨x, hx, by simp⟩, fun t ht hf => ?_⟩
    have h1 := List.all_eq_true.1 hN t (List.mem_range.2 ht)
    rw [hf, Bool.false_or] at h1
    exact List.all_eq_true.1 h1 x hx
  refine wp_region_any hm ?_
  have H := wpAnyT_of_take (P := P) (Q := Q) (S := S) (l := l) rfl hsel hT' hQ hd _ a w.drew hh inv0 hlex hS h
  have H2 := wpAny_of_T (g := tl.length) (fun listed' a' w' hL => wpAny_of_seqI (P := P) (Q := Q) (l := l) rfl tl listed' a' w' hL.1 hL.2) hd.length _ a w.drew H
  have e : l.toArray.size = hd.length + tl.length := by simpa using hsz
  rw [e]
  rw [e] at H2
  exact H2
end
end Go.Proofs.Ytacpnphfopmofaa
namespace Go.Proofs.Ytacpnphfopmofaa
open Go.RowKit
set_option linter.unusedSimpArgs false
set_option linter.unusedVariables false

theorem powM_self {p e : Int} (hp : 0 < p) (he : 1 ≤ e) : powM p e p = 0 := by
  unfold powM
  obtain ⟨k, hk⟩ : ∃ k, e.toNat = k + 1 := ⟨e.toNat - 1, by omega⟩
  rw [hk, Int.pow_succ, Int.mul_comm]
  exact Int.mul_emod_right _ _
/-- weak bounds of a drawn group -/
def GrB (gr : GroupD) : Prop := (-7 ≤ gr.p ∧ gr.p ≤ 2000000010) ∧ (-7 ≤ gr.q ∧ gr.q ≤ 2000000010) ∧ (-7 ≤ gr.g ∧ gr.g ≤ 2000000010)
set_option maxHeartbeats 1000000 in
theorem spec_gExpW (gr : GroupD) (x e : Int) (w : World) (hp : 1 ≤ gr.p ∧ gr.p ≤ 3000000000) (hq : 1 ≤ gr.q ∧ gr.q ≤ 3000000000) (hx : 0 ≤ x ∧ x ≤ 3000000000) (he : I64 e) :
    Calls Try.prog 57 #[.agg #[.int .i64 gr.p, .int .i64 gr.q, .int .i64 gr.g], .int .i64 x, .int .i64 e] w fun e' w' => (∃ y : Int, e' = .returned (.int .i64 y) ∧ 0 ≤ y ∧ y < gr.p) ∧ Below w.heap.size w w' := by
  obtain ⟨hp1, hp2⟩ := hp
  obtain ⟨hq1, hq2⟩ := hq
  obtain ⟨p, q, g⟩ := gr
  obtain ⟨hx1, hx2⟩ := hx
  simp only [] at hp1 hp2 hq1 hq2
  have HR := Lib.hid (powM_bd (a := x) (e := e % q) (m := p) (by omega))
  have hm0 : 0 ≤ e % q := Int.emod_nonneg _ (by omega)
  have hm1 : e % q < q := Int.emod_lt_of_pos _ (by omega)
  have HE := Lib.hid he; clear he
  go_enter Try.func57, Try.ntmps57
  go_wp2
  go_quiet (first
    | (go_at_call 94; exact Calls.quiet_of_same ((spec_nMod e q _ HE.out (by omega) (by omega)).mono fun e' w' h => ⟨h.1, h.2.symm⟩))
    | (go_at_call 140; exact Calls.quiet_of_same ((spec_nPower x (e % q) p _ (by omega) (by omega) (by omega)).mono fun e' w' h => ⟨h.1, h.2.symm⟩))
    | fail)
  go_wp2
  go_ret
  exact ⟨⟨_, rfl, HR.out.1, HR.out.2⟩, by (repeat (first | exact Below.refl _ _ | assumption | refine Below.drew ?_ | refine below_drewN ?_ _ | refine Below.alloc ?_ (by first | (simp; done) | (simp; omega)) _ | refine Below.setCell ?_ (by first | (simp; done) | (simp; omega)) _))⟩
set_option maxRecDepth 100000 in
set_option maxHeartbeats 4000000 in
theorem spec_MakeGroup (q p0 : Int) (j : Nat) (w : World) (hq : 2 ≤ q ∧ q ≤ 1000000) (hqp : Prm q) (hpp : Prm p0) (hj : p0 = q + 1 + j * q) (hb : p0 ≤ 2000000000) :
    Calls Try.prog 160 #[.int .i64 q] w fun e w' => (∃ P G : Int, e = .returned (.tuple #[.agg #[.int .i64 P, .int .i64 q, .int .i64 G], .bool true]) ∧ q + 1 ≤ P ∧ P ≤ 2000000000 ∧ 0 ≤ G ∧ G < P) ∧ Below w.heap.size w w' := by
  obtain ⟨hq1, hq2⟩ := hq
  have HQ : Hid (primeB q = true) := primeB_yes hqp
  have HP : Hid (primeB p0 = true) := primeB_yes hpp
  have HIN : Hid (decide (2 ≤ q ∧ q ≤ 1000000) = true) := decide_eq_true ⟨hq1, hq2⟩
  have HJ := Lib.hid hj
  clear hqp hpp hj
  obtain ⟨W, hW⟩ : ∃ W, W = w.alloc (.cells #[.int .i64 0, .int .i64 0, .int .i64 0] 24) := ⟨_, rfl⟩
  have HB : Hid (Below w.heap.size w W) := by unfold Hid; rw [hW]; exact (Below.refl _ _).alloc (Nat.le_refl _) _
  have HX : Hid (BoxN W w.heap.size 24 [.int .i64 0, .int .i64 0, .int .i64 0]) := by unfold Hid; rw [hW]; exact BoxN.new w _ _
  have ew0 : IntKind.i64.wrap (q + 1) = q + 1 := IntWalk.i64_in _ (by omega)
  go_enter Try.func160, Try.ntmps160
  go_wp2_with fail
  rw [← hW]
  clear hW
  refine (spec_l1In q 2 1000000 _).mono ?_
  rintro e w1 ⟨rfl, rfl⟩
  rw [HIN.out]
  go_wp2_with fail
  refine (spec_nPrime q _ (by omega)).mono ?_
  rintro e w1 ⟨rfl, rfl⟩
  rw [HQ.out]
  go_wp2_with fail
  go_loopg [4] j (fun gg pv wr => ∃ p : Int, Hid (p0 = p + (gg : Int) * q) ∧ pv = .int .i64 p ∧ q + 1 ≤ p ∧ p ≤ p0 ∧ W = wr)
  case atStart => exact ⟨q + 1, HJ.out, rfl, Int.le_refl _, by have := HJ.out; have : 0 ≤ (j : Int) * q := Int.mul_nonneg (by omega) (by omega); omega, rfl⟩
  case round =>
    obtain ⟨p, HK, rfl, hp1, hp2, rfl⟩ := hrel
    have hle : p ≤ 2000000000 := by omega
    go_wp2_with fail
    refine (spec_nPrime p _ (by omega)).mono ?_
    rintro e w2 ⟨rfl, rfl⟩
    obtain ⟨b, hpb⟩ : ∃ b, primeB p = b := ⟨_, rfl⟩
    rw [hpb]
    cases b with
    | false =>
      have hne : p ≠ p0 := fun e => by
        have h1 := HP.out
        rw [← e, hpb] at h1
        cases h1
      obtain ⟨f, rfl⟩ : ∃ f, gk = f + 1 := by
        cases gk with
        | zero => exact absurd (by have := HK.out; simpa using this.symm) hne
        | succ f => exact ⟨f, rfl⟩
      have hk2 : p0 = p + q + (f : Int) * q := by
        have h1 := HK.out
        rw [show ((f + 1 : Nat) : Int) = (f : Int) + 1 by omega, Int.add_mul] at h1
        omega
      have hfq : 0 ≤ (f : Int) * q := Int.mul_nonneg (by omega) (by omega)
      have hpq : p + q ≤ p0 := by omega
      have HK2 := Lib.hid hk2
      have ew : IntKind.i64.wrap (p + q) = p + q := IntWalk.i64_in _ (by omega)
      clear HK hne hk2 hfq hpb
      go_wp2_with fail
      go_roundg f
      case measure => omega
      case rel => exact ⟨p + q, HK2.out, rfl, by omega, by omega, rfl⟩
    | true =>
      have ht0 : 0 ≤ (p - 1) / q := Int.ediv_nonneg (by omega) (by omega)
      have ht1 : (p - 1) / q ≤ p - 1 := Int.ediv_le_self _ (by omega)
      have ht2 : 1 ≤ (p - 1) / q := (Int.le_ediv_iff_mul_le (by omega)).2 (by omega)
      have HS := Lib.hid (powM_self (p := p) (e := (p - 1) / q) (by omega) ht2)
      have HPB : Hid (∀ h : Int, 0 ≤ powM h ((p - 1) / q) p ∧ powM h ((p - 1) / q) p < p) := fun h => powM_bd (by omega)
      have et : Int.tdiv (p - 1) q = (p - 1) / q := Int.tdiv_eq_ediv_of_nonneg (by omega)
      obtain ⟨e', he'⟩ : ∃ e', (p - 1) / q = e' := ⟨_, rfl⟩
      rw [he'] at ht0 ht1 ht2 HS HPB et
      have HE := Lib.hid he'
      clear he'
      have ewp : IntKind.i64.wrap (p - 1) = p - 1 := IntWalk.i64_in _ (by omega)
      have ewe : IntKind.i64.wrap e' = e' := IntWalk.i64_in _ (by omega)
      have hqz : ¬ q = 0 := by omega
      go_wp2_with fail
      go_loopg [5] (p.toNat) (fun gg hv wr => ∃ h : Int, hv = .int .i64 h ∧ 2 ≤ h ∧ h ≤ p ∧ p - h ≤ (gg : Int) ∧ W = wr)
      case atStart => exact ⟨2, rfl, by omega, by omega, by omega, rfl⟩
      case round =>
        obtain ⟨h, rfl, h2, h3, h4, rfl⟩ := hrel
        have HY := HPB.out h
        have HSP : Hid (h = p → powM h e' p = 0) := fun e => by rw [e]; exact HS.out
        have ewh : IntKind.i64.wrap (h + 1) = h + 1 := IntWalk.i64_in _ (by omega)
        go_wp2_with fail
        try rw [HE.out]
        refine (spec_nPower h e' p _ (by omega) (by omega) (by omega)).mono ?_
        rintro e w3 ⟨rfl, rfl⟩
        obtain ⟨y, hy⟩ : ∃ y, powM h e' p = y := ⟨_, rfl⟩
        rw [hy] at HY HSP ⊢
        have HYY := Lib.hid hy; clear hy
        obtain ⟨y0, y1⟩ := HY
        by_cases hy1 : y = 1
        · subst hy1
          have hlt : h < p := by
            rcases (by omega : h = p ∨ h < p) with h5 | h5
            · have := HSP.out h5; omega
            · exact h5
          obtain ⟨f, rfl⟩ : ∃ f, gk = f + 1 := ⟨gk - 1, by omega⟩
          go_wp2_with fail
          go_roundg f
          case measure => omega
          case rel => exact ⟨h + 1, rfl, by omega, by omega, by omega, rfl⟩
        · have hyb : (y == 1) = false := by rw [beq_eq_false_iff_ne]; exact hy1
          clear hy1
          go_wp2_with fail
          try rw [HE.out]
          refine (spec_nPower h e' p _ (by omega) (by omega) (by omega)).mono ?_
          rintro e w3 ⟨rfl, rfl⟩
          rw [HYY.out]
          have r0 := HX.out.cell (i := 0) rfl
          have r1 := HX.out.cell (i := 1) rfl
          have r2 := HX.out.cell (i := 2) rfl
          have fr := fun j => HX.out.frozen j
          go_wp2_with fail
          obtain ⟨Y, hY⟩ : ∃ Y, Y = (((W.setCell ⟨w.heap.size, 0, none⟩ (.int .i64 p)).setCell ⟨w.heap.size, 1, none⟩ (.int .i64 q)).setCell ⟨w.heap.size, 2, none⟩ (.int .i64 y)) := ⟨_, rfl⟩
          have HY4 : Hid (BoxN Y w.heap.size 24 [.int .i64 p, .int .i64 q, .int .i64 y]) := by unfold Hid; rw [hY]; exact ((HX.out.set 0 _).set 1 _).set 2 _
          have HB4 : Hid (Below w.heap.size w Y) := by unfold Hid; rw [hY]; exact ((HB.out.setCell (Nat.le_refl _) _).setCell (Nat.le_refl _) _).setCell (Nat.le_refl _) _
          rw [← hY]
          clear hY r0 r1 r2 fr
          have r0 := HY4.out.cell (i := 0) rfl
          have r1 := HY4.out.cell (i := 1) rfl
          have r2 := HY4.out.cell (i := 2) rfl
          refine bodyPost_ret (v := .tuple #[.agg #[.int .i64 p, .int .i64 q, .int .i64 y], .bool true]) (by simp [results, Try.results160, go_sem, r0, r1, r2]) rfl ⟨⟨p, y, rfl, hp1, by omega, y0, y1⟩, HB4.out⟩
end Go.Proofs.Ytacpnphfopmofaa
namespace Go.Proofs.Ytacpnphfopmofaa
open Go.RowKit
set_option linter.unusedSimpArgs false
set_option linter.unusedVariables false

/-- no number from 2 to D + 1 divides n -/
def noDivC (n : Nat) : Nat → Bool
  | 0 => true
  | D + 1 => n % (D + 2) != 0 && noDivC n D
theorem noDivC_at {n : Nat} : ∀ {D : Nat}, noDivC n D = true → ∀ d, d < D → n % (d + 2) ≠ 0
  | 0, _, d, hd => by omega
  | D + 1, h, d, hd => by
    simp only [noDivC, Bool.and_eq_true, bne_iff_ne] at h
    rcases (by omega : d = D ∨ d < D) with rfl | h2
    · exact h.1
    · exact noDivC_at h.2 d h2
theorem Prm_check {n D : Nat} (h2 : 2 ≤ n) (hD : n < (D + 2) * (D + 2)) (h : noDivC n D = true) : Prm (n : Int) := by
  refine ⟨by omega, fun d h3 h4 => ?_⟩
  obtain ⟨e, rfl⟩ := Int.eq_ofNat_of_zero_le (by omega : 0 ≤ d)
  have h5 : e * e ≤ n := by exact_mod_cast h4
  have h6 : e < D + 2 := by
    rcases Nat.lt_or_ge e (D + 2) with h | h
    · exact h
    · have := Nat.mul_le_mul h h; omega
  have h7 : 2 ≤ e := by omega
  have h8 := noDivC_at h (e - 2) (by omega)
  rw [show e - 2 + 2 = e by omega] at h8
  intro h9
  exact h8 (by exact_mod_cast h9)
/-- MakeGroup finds a group for this number -/
def MkOk (x : Int) : Prop := ∃ p0 : Int, ∃ j : Nat, (2 ≤ x ∧ x ≤ 1000000) ∧ Prm x ∧ Prm p0 ∧ p0 = x + 1 + j * x ∧ p0 ≤ 2000000000
theorem mkOk_tiny : ∀ x ∈ ([3, 5, 5, 7, 11, 11, 13, 23] : List Int), MkOk x := by
  have h3 : MkOk 3 := ⟨7, 1, by omega, Prm_check (n := 3) (D := 0) (by decide) (by decide) (by decide +kernel), Prm_check (n := 7) (D := 1) (by decide) (by decide) (by decide +kernel), by omega, by omega⟩
  have h5 : MkOk 5 := ⟨11, 1, by omega, Prm_check (n := 5) (D := 1) (by decide) (by decide) (by decide +kernel), Prm_check (n := 11) (D := 2) (by decide) (by decide) (by decide +kernel), by omega, by omega⟩
  have h7 : MkOk 7 := ⟨29, 3, by omega, Prm_check (n := 7) (D := 1) (by decide) (by decide) (by decide +kernel), Prm_check (n := 29) (D := 4) (by decide) (by decide) (by decide +kernel), by omega, by omega⟩
  have h11 : MkOk 11 := ⟨23, 1, by omega, Prm_check (n := 11) (D := 2) (by decide) (by decide) (by decide +kernel), Prm_check (n := 23) (D := 3) (by decide) (by decide) (by decide +kernel), by omega, by omega⟩
  have h13 : MkOk 13 := ⟨53, 3, by omega, Prm_check (n := 13) (D := 2) (by decide) (by decide) (by decide +kernel), Prm_check (n := 53) (D := 6) (by decide) (by decide) (by decide +kernel), by omega, by omega⟩
  have h23 : MkOk 23 := ⟨47, 1, by omega, Prm_check (n := 23) (D := 3) (by decide) (by decide) (by decide +kernel), Prm_check (n := 47) (D := 5) (by decide) (by decide) (by decide +kernel), by omega, by omega⟩
  intro x hx
  simp only [List.mem_cons, List.not_mem_nil, or_false] at hx
  rcases hx with rfl | rfl | rfl | rfl | rfl | rfl | rfl | rfl <;> assumption
theorem mkOk_more : ∀ x ∈ ([101, 1009, 1019, 65537, 999983] : List Int), MkOk x := by
  have h1 : MkOk 101 := ⟨607, 5, by omega, Prm_check (n := 101) (D := 9) (by decide) (by decide) (by decide +kernel), Prm_check (n := 607) (D := 24) (by decide) (by decide) (by decide +kernel), by omega, by omega⟩
  have h2 : MkOk 1009 := ⟨10091, 9, by omega, Prm_check (n := 1009) (D := 30) (by decide) (by decide) (by decide +kernel), Prm_check (n := 10091) (D := 100) (by decide) (by decide) (by decide +kernel), by omega, by omega⟩
  have h3 : MkOk 1019 := ⟨2039, 1, by omega, Prm_check (n := 1019) (D := 30) (by decide) (by decide) (by decide +kernel), Prm_check (n := 2039) (D := 44) (by decide) (by decide) (by decide +kernel), by omega, by omega⟩
  have h4 : MkOk 65537 := ⟨917519, 13, by omega, Prm_check (n := 65537) (D := 255) (by decide) (by decide) (by decide +kernel), Prm_check (n := 917519) (D := 957) (by decide) (by decide) (by decide +kernel), by omega, by omega⟩
  have h5 : MkOk 999983 := ⟨11999797, 11, by omega, Prm_check (n := 999983) (D := 998) (by decide) (by decide) (by decide +kernel), Prm_check (n := 11999797) (D := 3463) (by decide) (by decide) (by decide +kernel), by omega, by omega⟩
  intro x hx
  simp only [List.mem_cons, List.not_mem_nil, or_false] at hx
  rcases hx with rfl | rfl | rfl | rfl | rfl <;> assumption
end Go.Proofs.Ytacpnphfopmofaa
