/- The cursor of the draws (spec.l1Cur): next, pick, one, among. A call turns the cursor's block alone. -/
import Derived.Test.YtboahnklilmdpaaBaW
import Derived.Lib.VarintBits
namespace Go.Proofs.Ytboahnklilmdpaa
open Go.RowKit
set_option linter.unusedSimpArgs false
set_option linter.unusedVariables false

/-- the value reads as bytes -/
def Bytes (w : World) (v : Value) : Prop :=
  ∃ a n c, v = .slice a n c ∧ n ≤ c ∧ c ≤ maxLen ∧ (n = 0 ∨ ∃ b o, a = some ⟨b, o, none⟩ ∧ ∀ i, i < n → ∃ x : Int, w.cell? ⟨b, o + i, none⟩ = some (.int .u8 x) ∧ 0 ≤ x ∧ x ≤ 255)
theorem Bytes.below {w w' : World} {v : Value} (h : Bytes w v) (hb : Below w.heap.size w w') : Bytes w' v := by
  obtain ⟨a, n, c, e, h1, h2, h3⟩ := h
  refine ⟨a, n, c, e, h1, h2, ?_⟩
  rcases h3 with h3 | ⟨b, o, h3, hc⟩
  · exact .inl h3
  · refine .inr ⟨b, o, h3, fun i hi => ?_⟩
    obtain ⟨x, h4, h5⟩ := hc i hi
    exact ⟨x, box_at h4 hb, h5⟩
theorem BoxN.drewN {w : World} {b : Nat} {t : TypeId} {cs : List Value} (h : BoxN w b t cs) (n : Nat) : BoxN (w.drewN n) b t cs := h.below (below_drewN (Below.refl _ _) n)
theorem BoxN.drew {w : World} {b : Nat} {t : TypeId} {cs : List Value} (h : BoxN w b t cs) : BoxN w.drew b t cs := h.below (Below.refl _ _).drew
theorem Within.drewN {lo hi : Nat} {w w' : World} (h : Within lo hi w w') (n : Nat) : Within lo hi w (w'.drewN n) := h.trans (Within.of_below (below_drewN (Below.refl _ _) n))
theorem Within.drew {lo hi : Nat} {w w' : World} (h : Within lo hi w w') : Within lo hi w w'.drew := h.trans (Within.of_below (Below.refl _ _).drew)
/-- what holds in every world that differs from w in block g alone (and in new blocks) -/
def Apart (g : Nat) (w : World) (P : World → Prop) : Prop := ∀ w', Within g (g + 1) w w' → P w'
section
variable {g : Nat} {w w' w0 : World} {P : World → Prop}
theorem Apart.here (h : Apart g w P) : P w := h w (Within.refl _ _ _)
theorem Apart.step (h : Apart g w P) (hw : Within g (g + 1) w w') : Apart g w' P := fun u hu => h u (hw.trans hu)
theorem Within.belowOf (hw : Within g (g + 1) w w') (h0 : Below w0.heap.size w0 w) (hg : w0.heap.size ≤ g) : Below w0.heap.size w0 w' :=
  h0.trans (hw.below h0.size hg)
theorem Apart.of_own {δ : Type} {K : Kind δ} {lo hi : Nat} {v : Value} {d : δ} (h : K.own w lo hi v d) (hd : hi ≤ g ∨ g < lo) : Apart g w (fun u => K.rd u v d) :=
  fun u hu => K.own_rd (K.kept h hu (by omega))
theorem Apart.of_ownI {B : Nat} {v : Value} {l : List Int} (h : OwnI w B v l) (hd : g < B) : Apart g w (fun u => Ints u v l) := fun u hu => (OwnI.ints (InI.kept (InI.of_own h) hu (.inr (by omega))).1)
end
/-- the cursor in block g: its bytes are memory of the world w0; its place is at most n -/
def Cur (w0 w : World) (g : Nat) (n : Int) : Prop :=
  w0.heap.size ≤ g ∧ ∃ v p s, BoxN w g 170 [v, .int .i64 p, .int .u64 s] ∧ Bytes w0 v ∧ 0 ≤ p ∧ p ≤ n
section
variable {g : Nat} {w w' w0 : World} {n : Int}
theorem Cur.ge (h : Cur w0 w g n) : w0.heap.size ≤ g := h.1
theorem Cur.lt (h : Cur w0 w g n) : g < w.heap.size := by obtain ⟨_, v, p, s, hB, _⟩ := h; exact hB.lt
theorem Cur.keep (h : Cur w0 w g n) (hb : Below w.heap.size w w') : Cur w0 w' g n := by
  obtain ⟨h1, v, p, s, hB, h2⟩ := h; exact ⟨h1, v, p, s, hB.below hb, h2⟩
theorem Cur.mono {n' : Int} (h : Cur w0 w g n) (hn : n ≤ n') : Cur w0 w g n' := by
  obtain ⟨h1, v, p, s, hB, h2, h3, h4⟩ := h; exact ⟨h1, v, p, s, hB, h2, h3, by omega⟩
theorem Cur.kept {lo hi : Nat} (h : Cur w0 w g n) (hw : Within lo hi w w') (hd : g < lo ∨ hi ≤ g) : Cur w0 w' g n := by
  obtain ⟨h1, v, p, s, hB, h2⟩ := h; exact ⟨h1, v, p, s, hB.kept hw hd, h2⟩
theorem Cur.new (w : World) {v : Value} (h : Bytes w v) : Cur w (w.alloc (.cells #[v, .int .i64 0, .int .u64 0] 170)) w.heap.size 0 :=
  ⟨Nat.le_refl _, v, 0, 0, BoxN.new w [v, .int .i64 0, .int .u64 0] _, h, by omega, by omega⟩
end
theorem next_val (z : Int) : 0 ≤ wrap64 (bits .and .u64 (IntKind.u64.wrap z / 1099511627776) 255) ∧ wrap64 (bits .and .u64 (IntKind.u64.wrap z / 1099511627776) 255) ≤ 255 := by
  have h0 : 0 ≤ IntKind.u64.wrap z / 1099511627776 ∧ IntKind.u64.wrap z / 1099511627776 < 2 ^ 64 := by rw [IntKind.wrap_u64]; omega
  have h := bits_mask .u64 64 (by decide) wraps_u64 8 (by decide) _ h0.1 h0.2
  have e1 : ((2 : Int) ^ 8 - 1) = 255 := by decide
  rw [e1] at h
  rw [h]
  have e2 : ((2 : Int) ^ 8) = 256 := by decide
  rw [e2]
  have e3 : wrap64 (IntKind.u64.wrap z / 1099511627776 % 256) = IntKind.u64.wrap z / 1099511627776 % 256 := by unfold wrap64; omega
  rw [e3]; omega
set_option maxRecDepth 100000 in
set_option maxHeartbeats 1000000 in
theorem spec_next (w0 : World) (g : Nat) (n : Int) (w : World) (h : Cur w0 w g n) (hb : Below w0.heap.size w0 w) (hn : n ≤ 4000000000000000) :
    Calls Try.prog 266 #[.pointer (some ⟨g, 0, none⟩)] w fun e w' => (∃ x : Int, e = .returned (.int .i64 x) ∧ 0 ≤ x ∧ x ≤ 255) ∧ Cur w0 w' g (n + 1) ∧ Within g (g + 1) w w' := by
  obtain ⟨hg, v, p, s, hB, ⟨a, m, c, rfl, k1, k2, hv⟩, hp0, hpn⟩ := h
  have HY : Hid (Bytes w0 (.slice a m c)) := ⟨a, m, c, rfl, k1, k2, hv⟩
  unfold maxLen at k2
  have HB := Lib.hid hB
  have c0 := hB.cell (i := 0) rfl
  have c1 := hB.cell (i := 1) rfl
  have c2 := hB.cell (i := 2) rfl
  have f1 := hB.frozen 1
  have f2 := hB.frozen 2
  clear hB
  by_cases hlt : p < (m : Int)
  · obtain ⟨b, o, rfl, hcx⟩ : ∃ b o, a = some ⟨b, o, none⟩ ∧ ∀ i, i < m → ∃ x : Int, w0.cell? ⟨b, o + i, none⟩ = some (.int .u8 x) ∧ 0 ≤ x ∧ x ≤ 255 := by
      rcases hv with hv | hv
      · omega
      · exact hv
    obtain ⟨k, rfl⟩ := Int.eq_ofNat_of_zero_le hp0
    obtain ⟨x, hx, hx0, hx1⟩ := hcx k (by omega)
    replace hx := box_at hx hb
    have ew : IntKind.i64.wrap ((k : Int) + 1) = (k : Int) + 1 := IntWalk.i64_in _ (by omega)
    clear hcx hv
    go_enter Try.func266, Try.ntmps266
    go_wp2
    go_quiet (fail)
    go_wp2
    go_quiet (fail)
    go_wp2
    go_quiet (fail)
    go_wp2
    go_ret
    exact ⟨⟨x, rfl, hx0, hx1⟩, ⟨hg, _, _, _, (((HB.out.drewN _).set 1 _).set 2 _).drewN _, HY.out, by omega, by omega⟩, by (repeat (first | exact Within.refl _ _ _ | assumption | refine Within.drewN ?_ _ | refine Within.drew ?_ | refine Within.setCell ?_ (by omega) (by omega) _ _ | refine Within.allocR ?_ _))⟩
  · obtain ⟨k, rfl⟩ := Int.eq_ofNat_of_zero_le hp0
    have ew : IntKind.i64.wrap ((k : Int) + 1) = (k : Int) + 1 := IntWalk.i64_in _ (by omega)
    clear hv
    go_enter Try.func266, Try.ntmps266
    go_wp2
    go_quiet (fail)
    go_wp2
    go_quiet (fail)
    go_wp2
    go_ret
    exact ⟨⟨_, rfl, (next_val _).1, (next_val _).2⟩, ⟨hg, _, _, _, (((HB.out.drewN _).set 1 _).set 2 _).drewN _, HY.out, by omega, by omega⟩, by (repeat (first | exact Within.refl _ _ _ | assumption | refine Within.drewN ?_ _ | refine Within.drew ?_ | refine Within.setCell ?_ (by omega) (by omega) _ _ | refine Within.allocR ?_ _))⟩
theorem emod_le' {a m : Int} (h : 0 ≤ a) (hm : 0 < m) : a % m ≤ a := by
  by_cases hc : a < m
  · rw [Int.emod_eq_of_lt h hc]; omega
  · have := Int.emod_lt_of_pos a hm; omega
set_option maxRecDepth 100000 in
set_option maxHeartbeats 1000000 in
theorem spec_pick (w0 : World) (g : Nat) (n m : Int) (w : World) (h : Cur w0 w g n) (hb : Below w0.heap.size w0 w) (hn : n ≤ 3000000000000000) :
    Calls Try.prog 158 #[.pointer (some ⟨g, 0, none⟩), .int .i64 m] w fun e w' => (∃ x : Int, e = .returned (.int .i64 x) ∧ 0 ≤ x ∧ x ≤ 65535 ∧ (1 ≤ m → x < m) ∧ (m ≤ 1 → x = 0)) ∧ Cur w0 w' g (n + 2) ∧ Within g (g + 1) w w' := by
  have H := Lib.hid h; clear h
  by_cases h1 : m ≤ 1
  · go_enter Try.func158, Try.ntmps158
    go_wp2
    go_ret
    exact ⟨⟨0, rfl, by omega, by omega, by omega, by omega⟩, H.out.mono (by omega), Within.refl _ _ _⟩
  · by_cases h2 : m ≤ 200
    · go_enter Try.func158, Try.ntmps158
      go_wp2_with fail
      refine (spec_next w0 g n _ H.out hb (by omega)).mono ?_
      rintro e w1 ⟨⟨x, rfl, hx0, hx1⟩, hc, hw⟩
      have HC := Lib.hid hc; have HW := Lib.hid hw; clear hc hw
      go_wp2_with fail
      go_ret
      exact ⟨⟨_, rfl, Int.emod_nonneg _ (by omega), by have := Int.emod_lt_of_pos x (show 0 < m by omega); omega, fun _ => Int.emod_lt_of_pos x (by omega), by omega⟩, HC.out.mono (by omega), HW.out⟩
    · go_enter Try.func158, Try.ntmps158
      go_wp2_with fail
      refine (spec_next w0 g n _ H.out hb (by omega)).mono ?_
      rintro e w1 ⟨⟨x, rfl, hx0, hx1⟩, hc, hw⟩
      have HC := Lib.hid hc; have HW := Lib.hid hw; clear hc hw
      go_wp2_with fail
      refine (spec_next w0 g (n + 1) _ HC.out (HW.out.belowOf hb H.out.ge) (by omega)).mono ?_
      rintro e w2 ⟨⟨y, rfl, hy0, hy1⟩, hc2, hw2⟩
      have HC2 := Lib.hid hc2; have HW2 := Lib.hid hw2; clear hc2 hw2
      go_wp2_with fail
      go_ret
      exact ⟨⟨_, rfl, Int.emod_nonneg _ (by omega), by have := emod_le' (a := x * 256 + y) (m := m) (by omega) (by omega); omega, fun _ => Int.emod_lt_of_pos _ (by omega), by omega⟩, HC2.out.mono (by omega), HW.out.trans HW2.out⟩
theorem spec_one (w0 : World) (g : Nat) (n m : Int) (w : World) (h : Cur w0 w g n) (hb : Below w0.heap.size w0 w) (hn : n ≤ 3000000000000000) :
    Calls Try.prog 155 #[.pointer (some ⟨g, 0, none⟩), .int .i64 m] w fun e w' => (∃ x : Bool, e = .returned (.bool x)) ∧ Cur w0 w' g (n + 2) ∧ Within g (g + 1) w w' := by
  have H := Lib.hid h; clear h
  go_enter Try.func155, Try.ntmps155
  go_wp2_with fail
  refine (spec_pick w0 g n m _ H.out hb hn).mono ?_
  rintro e w1 ⟨⟨x, rfl, hx⟩, hc, hw⟩
  have HC := Lib.hid hc; have HW := Lib.hid hw; clear hc hw hx
  go_wp2_with fail
  go_ret
  exact ⟨⟨_, rfl⟩, HC.out, HW.out⟩
set_option maxHeartbeats 1000000 in
theorem spec_among (w0 : World) (g : Nat) (n : Int) (v : Value) (l : List Int) (w : World) (h : Cur w0 w g n) (hb : Below w0.heap.size w0 w) (hn : n ≤ 3000000000000000) (hl : Apart g w (fun u => Ints u v l)) (h0 : 0 < l.length) :
    Calls Try.prog 154 #[.pointer (some ⟨g, 0, none⟩), v] w fun e w' => (∃ x : Int, e = .returned (.int .i64 x) ∧ x ∈ l) ∧ Cur w0 w' g (n + 2) ∧ Within g (g + 1) w w' := by
  have H := Lib.hid h; clear h
  obtain ⟨a, m, c, rfl⟩ := hl.here.shape
  have e := hl.here.len
  obtain ⟨k1, k2⟩ := hl.here.capMax
  unfold maxLen at k2
  have HL := Lib.hid hl; clear hl
  have HE := Lib.hid e; clear e
  have hm : 0 < m := by have := HE.out; omega
  clear h0
  go_enter Try.func154, Try.ntmps154
  go_wp2_with fail
  refine (spec_pick w0 g n _ _ H.out hb hn).mono ?_
  rintro e w1 ⟨⟨x, rfl, hx0, _, hx1, _⟩, hc, hw⟩
  have HC := Lib.hid hc; have HW := Lib.hid hw; clear hc hw
  obtain ⟨k, rfl⟩ := Int.eq_ofNat_of_zero_le hx0
  have hk : (k : Int) < (m : Int) := hx1 (by omega)
  clear hx1
  have hI := (HL.out.step HW.out).here
  obtain ⟨b, o, rfl, hcx⟩ := hI.at_ hm
  have hy := hcx k (by omega)
  have HM : Hid (nth l k ∈ l) := by unfold Hid; rw [nth_eq (by have := HE.out; omega)]; exact List.getElem_mem _
  generalize nth l k = y at hy HM
  clear hcx hI
  go_wp2_with fail
  go_ret
  exact ⟨⟨y, rfl, HM.out⟩, HC.out, HW.out⟩
end Go.Proofs.Ytboahnklilmdpaa
namespace Go.Proofs.Ytboahnklilmdpaa
open Go.RowKit
set_option linter.unusedSimpArgs false
set_option linter.unusedVariables false

theorem OwnI.within {w w' : World} {B g : Nat} {v : Value} {l : List Int} (h : OwnI w B v l) (hw : Within g (g + 1) w w') (hg : g < B) : OwnI w' B v l := (InI.kept (InI.of_own h) hw (.inr (by omega))).1
theorem Within.belowStep {lo hi : Nat} {w w1 w2 : World} (h : Within lo hi w w1) (hb : Below w.heap.size w1 w2) : Within lo hi w w2 :=
  ⟨hb.os.trans h.os, hb.tape.trans h.tape, hb.output.trans h.output, Nat.le_trans h.size hb.size, fun k hk hr => (hb.block k hk).trans (h.block k hk hr)⟩
theorem Cur.belowB {w0 w w' : World} {g B : Nat} {n : Int} (h : Cur w0 w g n) (hb : Below B w w') (hg : g < B) : Cur w0 w' g n := by
  obtain ⟨h1, v, p, s, hB, h2⟩ := h
  exact ⟨h1, v, p, s, (hb.block g hg).trans hB, h2⟩
theorem lit_I64 {l : List Int} (h : (l.all fun x => decide (-9223372036854775808 ≤ x ∧ x ≤ 9223372036854775807)) = true) : AllI64 l := fun x hx => by
  have := List.all_eq_true.1 h x hx; simpa [I64] using this
theorem sl_dropU {a : Option Addr} {n c : Nat} {x : Int} {k : Nat} (hx : x = k) (hk : k ≤ n) :
    ∃ a', (∀ W, (Instr.slice 24 (.slice a n c) (some (.int .i64 x)) none none).run Try.prog W = .ok (.slice a' (n - k) (c - k)) W) ∧ ∀ u l, Ints u (.slice a n c) l → Ints u (.slice a' (n - k) (c - k)) (l.drop k) := by
  subst hx
  refine ⟨_, fun W => ?_, fun u l h => h.drop hk⟩
  simp [Try.underlying24, go_sem, hk, run_slice_l, run_underlying]
end Go.Proofs.Ytboahnklilmdpaa
