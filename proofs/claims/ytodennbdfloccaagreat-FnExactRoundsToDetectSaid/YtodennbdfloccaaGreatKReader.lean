/- The struct Reader as a kind (printed by genkind.py): its data, its row, the walks of the laws' helpers. -/
import Derived.Test.YtodennbdfloccaaGreatBa
import Derived.Test.YtodennbdfloccaaGreatKHeadS
namespace Go.Proofs.YtodennbdfloccaaGreat
open Go.RowKit
set_option linter.unusedSimpArgs false
set_option linter.unusedVariables false

structure ReaderD where
  heads : List HeadD
deriving DecidableEq
abbrev rReader : RowK ReaderD := rMap (rS (kR 44 rHead) rNil) (fun d => (d.heads, ()))
theorem ReaderD.ext_iff' {a b : ReaderD} : a = b ↔ a.heads = b.heads := by
  cases a; cases b; simp
/-- what it counts for in the laws' bound; the marks that it holds -/
def szReader (d : ReaderD) : Nat := szHeadS d.heads
def cnReader (d : ReaderD) : Nat := cnHeadS d.heads
theorem cnReader_le (d : ReaderD) : cnReader d ≤ 4 * szReader d := by
  unfold cnReader szReader; have := cnHeadS_le d.heads; omega
theorem rdReader {w : World} {v : Value} {d : ReaderD} : (kS rReader).rd w v d ↔ ∃ a0 n0 c0, v = .agg #[.slice a0 n0 c0] ∧ (kR 44 rHead).rd w (.slice a0 n0 c0) d.heads := by
  constructor
  · rintro ⟨_, rfl, ⟨v1, _, rfl, h2, rfl⟩⟩
    obtain ⟨_, _, _, rfl⟩ := (kR 44 rHead).sl h2
    exact ⟨_, _, _, rfl, h2⟩
  · rintro ⟨a0, n0, c0, rfl, g0⟩
    exact ⟨_, rfl, ⟨_, _, rfl, g0, rfl⟩⟩
set_option maxHeartbeats 2000000 in
theorem laws_szReader (v : Value) (d : ReaderD) (left : Int) (w : World) (h : (kS rReader).rd w v d) (h0 : 0 ≤ left) (h1 : left ≤ 1000000000) :
    Calls Tryz.prog 59 #[v, .int .i64 left] w fun e w' => (∃ r : Int, e = .returned (.int .i64 r) ∧ I64 r ∧ (0 ≤ r → (szReader d : Int) + r ≤ left)) ∧ Below w.heap.size w w' := by
  obtain ⟨a0, n0, c0, rfl, k0⟩ := rdReader.1 h
  have Fheads := Lib.hid k0
  clear k0
  clear h
  obtain ⟨W, hW⟩ : ∃ W, W = w.alloc (.cells #[.slice a0 n0 c0] 97) := ⟨_, rfl⟩
  have HB0 : Hid (Below w.heap.size w W) := by unfold Hid; rw [hW]; exact (Below.refl _ _).alloc (Nat.le_refl _) _
  have BX : Hid (BoxN W w.heap.size 97 [.slice a0 n0 c0]) := by unfold Hid; rw [hW]; exact BoxN.new w [.slice a0 n0 c0] _
  go_enter Tryz.func59, Tryz.ntmps59
  go_wp2_with fail
  rw [← hW]
  clear hW
  have HA0 : Hid (Below W.heap.size W W) := Below.refl _ _
  refine (laws_szHeadS _ d.heads left _ ((kR 44 rHead).rd_below Fheads.out HB0.out) h0 h1).mono ?_
  rintro e w1 ⟨⟨r0, rfl, hr0, hq0⟩, hb⟩
  have HB1 := Lib.hid (HB0.out.trans (hb.mono HB0.out.size))
  have HA1 := Lib.hid (HA0.out.trans (hb.mono HA0.out.size)); clear hb
  by_cases hn0 : r0 < 0
  · go_wp2_with fail
    go_ret
    exact ⟨⟨_, rfl, ⟨by decide, by decide⟩, fun h => by omega⟩, HB1.out⟩
  have hz0 := hq0 (by omega)
  have hp0 : r0 ≤ 1000000000 := by omega
  clear hq0
  go_wp2_with fail
  go_ret
  exact ⟨⟨_, rfl, hr0, fun h => by unfold szReader; omega⟩, HB1.out⟩
set_option maxHeartbeats 2000000 in
theorem laws_eqReader (v1 v2 : Value) (d1 d2 : ReaderD) (w : World) (h1 : (kS rReader).rd w v1 d1) (h2 : (kS rReader).rd w v2 d2) :
    Calls Tryz.prog 68 #[v1, v2] w fun e w' => e = .returned (.bool (decide (d1 = d2))) ∧ Below w.heap.size w w' := by
  obtain ⟨a0x, n0x, c0x, rfl, k0x⟩ := rdReader.1 h1
  have Fheadsx := Lib.hid k0x
  clear k0x
  obtain ⟨a0y, n0y, c0y, rfl, k0y⟩ := rdReader.1 h2
  have Fheadsy := Lib.hid k0y
  clear k0y
  clear h1 h2
  obtain ⟨W, hW⟩ : ∃ W, W = (w.alloc (.cells #[.slice a0x n0x c0x] 101)).alloc (.cells #[.slice a0y n0y c0y] 101) := ⟨_, rfl⟩
  have hs1 : (w.alloc (.cells #[.slice a0x n0x c0x] 101)).heap.size = w.heap.size + 1 := by simp
  have HB0 : Hid (Below w.heap.size w W) := by unfold Hid; rw [hW]; (repeat (first | exact Below.refl _ _ | assumption | refine Below.drew ?_ | refine Below.alloc ?_ (by first | (simp; done) | (simp; omega)) _ | refine Below.setCell ?_ (by first | (simp; done) | (simp; omega)) _))
  have BX : Hid (BoxN W w.heap.size 101 [.slice a0x n0x c0x]) := by unfold Hid; rw [hW]; exact (BoxN.new w [.slice a0x n0x c0x] _).alloc _
  have BY : Hid (BoxN W (w.heap.size + 1) 101 [.slice a0y n0y c0y]) := by unfold Hid; rw [hW, ← hs1]; exact BoxN.new _ [.slice a0y n0y c0y] _
  obtain ⟨q_heads, hq_heads⟩ : ∃ q, decide (d1.heads = d2.heads) = q := ⟨_, rfl⟩
  have HR : Hid (decide (d1 = d2) = (q_heads)) := by
    unfold Hid; rw [← hq_heads, Bool.eq_iff_iff]; simp only [Bool.and_eq_true, decide_eq_true_eq]; exact ReaderD.ext_iff'
  have Q_heads := Lib.hid hq_heads; clear hq_heads
  clear hs1
  have HA0 : Hid (Below W.heap.size W W) := Below.refl _ _
  go_enter Tryz.func68, Tryz.ntmps68
  go_wp2_with fail
  rw [← hW]
  clear hW
  refine (laws_eqHeadS _ _ d1.heads d2.heads _ ((kR 44 rHead).rd_below Fheadsx.out HB0.out) ((kR 44 rHead).rd_below Fheadsy.out HB0.out)).mono ?_
  rintro e w1 ⟨rfl, hb⟩
  rw [Q_heads.out]
  have HB1 := Lib.hid (HB0.out.trans (hb.mono HB0.out.size))
  have HA1 := Lib.hid (HA0.out.trans (hb.mono HA0.out.size)); clear hb
  cases q_heads with
  | false =>
    go_wp2_with fail
    go_ret
    exact ⟨ret_bool (by rw [HR.out]; (try rfl)), HB1.out⟩
  | true =>
  go_wp2_with fail
  go_ret
  exact ⟨ret_bool (by rw [HR.out]; (try rfl)), HB1.out⟩
set_option maxHeartbeats 4000000 in
theorem laws_toReader (v : Value) (d : ReaderD) (w : World) (h : (kS rReader).rd w v d) (hl : (szReader d : Int) ≤ 1000000000) :
    Calls Tryz.prog 63 #[v] w fun e w' => ∃ v', e = .returned v' ∧ (kS rReader).own w' w.heap.size w'.heap.size v' d ∧ Below w.heap.size w w' := by
  unfold szReader at hl
  have L_heads : Hid (((szHeadS d.heads : Nat) : Int) ≤ 1000000000) := by unfold Hid; omega
  obtain ⟨a0, n0, c0, rfl, k0⟩ := rdReader.1 h
  have Fheads := Lib.hid k0
  clear k0
  clear h hl
  obtain ⟨W, hW⟩ : ∃ W, W = ((w.alloc (.cells #[.slice a0 n0 c0] 97)).alloc (.cells #[.slice none 0 0] 101)).alloc (.cells #[.slice none 0 0] 101) := ⟨_, rfl⟩
  have hs1 : (w.alloc (.cells #[.slice a0 n0 c0] 97)).heap.size = w.heap.size + 1 := by simp
  have hs2 : ((w.alloc (.cells #[.slice a0 n0 c0] 97)).alloc (.cells #[.slice none 0 0] 101)).heap.size = w.heap.size + 1 + 1 := by simp
  have hs0 : W.heap.size = w.heap.size + 1 + 1 + 1 := by rw [hW]; simp
  have HB0 : Hid (Below w.heap.size w W) := by unfold Hid; rw [hW]; (repeat (first | exact Below.refl _ _ | assumption | refine Below.drew ?_ | refine Below.alloc ?_ (by first | (simp; done) | (simp; omega)) _ | refine Below.setCell ?_ (by first | (simp; done) | (simp; omega)) _))
  have BX0 : Hid (BoxN W w.heap.size 97 [.slice a0 n0 c0]) := by unfold Hid; rw [hW]; exact ((BoxN.new w [.slice a0 n0 c0] _).alloc _).alloc _
  have BR0 : Hid (BoxN W (w.heap.size + 1) 101 [.slice none 0 0]) := by unfold Hid; rw [hW, ← hs1]; exact (BoxN.new _ [.slice none 0 0] _).alloc _
  have BO0 : Hid (BoxN W (w.heap.size + 1 + 1) 101 [.slice none 0 0]) := by unfold Hid; rw [hW, ← hs2]; exact BoxN.new _ [.slice none 0 0] _
  have HW := Lib.hid hW; clear hW hs1 hs2
  go_enter Tryz.func63, Tryz.ntmps63
  go_wp2_with fail
  rw [← HW.out]
  refine (laws_toHeadS _ d.heads W ((kR 44 rHead).rd_below Fheads.out HB0.out) L_heads.out).mono ?_
  rintro e w1 ⟨v1, rfl, X, hb⟩
  obtain ⟨ea_heads, en_heads, ec_heads, rfl⟩ := (kR 44 rHead).sl ((kR 44 rHead).own_rd X)
  have O_heads := Lib.hid X; clear X
  have us1 := hb.size
  have HB1 := Lib.hid (HB0.out.trans (hb.mono HB0.out.size))
  have BX1 := Lib.hid (BX0.out.below hb)
  have BR1 := Lib.hid (BR0.out.below hb)
  have BO1 := Lib.hid (BO0.out.below hb)
  clear hb
  have px0 := BX1.out.cell (i := 0) rfl
  have po0 := BO1.out.cell (i := 0) rfl
  have pr0 := BR1.out.cell (i := 0) rfl
  have fo := BO1.out.frozen
  have fr := BR1.out.frozen
  have st0 : w.heap.size < w1.heap.size := by omega
  have st1 : w.heap.size + 1 < w1.heap.size := by omega
  have st2 : w.heap.size + 1 + 1 < w1.heap.size := by omega
  go_wp2_with fail
  obtain ⟨V, hV⟩ : ∃ U, U = (((w1).setCell ⟨w.heap.size + 1 + 1, 0, none⟩ (.slice ea_heads en_heads ec_heads)).setCell ⟨w.heap.size + 1, 0, none⟩ (.slice ea_heads en_heads ec_heads)) := ⟨_, rfl⟩
  rw [← hV]
  have hwi : Within (w.heap.size + 1) (w.heap.size + 1 + 1 + 1) w1 V := by rw [hV]; exact ((Within.refl _ _ _ |>.setCell (by omega) (by omega) _ _) |>.setCell (by omega) (by omega) _ _)
  have hs : V.heap.size = w1.heap.size := by rw [hV]; simp only [size_setC]
  have BV : BoxN V (w.heap.size + 1) 101 [.slice ea_heads en_heads ec_heads] := by rw [hV]; exact ((BR1.out.other (by omega) _ _).set 0 _)
  replace O_heads := Lib.hid (Kind.kept (K := (kR 44 rHead).toKind) O_heads.out hwi (.inr (by omega)))
  clear hV
  clear px0 po0 pr0 fo fr st0 st1 st2
  have r0 := BV.cell (i := 0) rfl
  refine bodyPost_ret (v := .agg #[.slice ea_heads en_heads ec_heads]) (by simp [results, Tryz.results63, go_sem, r0]) rfl ⟨_, rfl, ⟨_, rfl, ⟨_, _, W.heap.size, w1.heap.size, V.heap.size, V.heap.size, rfl, O_heads.out, rfl, ⟨by omega, by omega⟩, ⟨by omega, by omega⟩, by omega⟩⟩, ?_⟩
  exact HB1.out.trans (hwi.below (by omega) (by omega))
/-- the struct with marks in its slices, from k0 on -/
def mkReader (k0 : Nat) (d : ReaderD) : ReaderD := ⟨mkHeadS (k0) d.heads⟩
end Go.Proofs.YtodennbdfloccaaGreat
