/- The struct Board as a kind (printed by genkind.py): its data, its row, the walks of the laws' helpers. -/
import Derived.Test.YtboahnklilmdpaaBaU
import Derived.Test.YtboahnklilmdpaaKEntrySU
namespace Go.Proofs.Ytboahnklilmdpaa
open Go.RowKit
set_option linter.unusedSimpArgs false
set_option linter.unusedVariables false

structure BoardD where
  keys : List Int
  entries : List EntryD
deriving DecidableEq
abbrev rBoard : RowK BoardD := rMap (rS sInts (rS (kR 44 rEntry) rNil)) (fun d => (d.keys, (d.entries, ())))
theorem BoardD.ext_iff' {a b : BoardD} : a = b ↔ a.keys = b.keys ∧ a.entries = b.entries := by
  cases a; cases b; simp
/-- what it counts for in the laws' bound; the marks that it holds -/
def szBoard (d : BoardD) : Nat := d.keys.length + szEntryS d.entries
def cnBoard (d : BoardD) : Nat := d.keys.length + cnEntryS d.entries
theorem cnBoard_le (d : BoardD) : cnBoard d ≤ 4 * szBoard d := by
  unfold cnBoard szBoard; have := cnEntryS_le d.entries; omega
theorem rdBoard {w : World} {v : Value} {d : BoardD} : (kS rBoard).rd w v d ↔ ∃ a0 n0 c0 a1 n1 c1, v = .agg #[.slice a0 n0 c0, .slice a1 n1 c1] ∧ sInts.rd w (.slice a0 n0 c0) d.keys ∧ (kR 44 rEntry).rd w (.slice a1 n1 c1) d.entries := by
  constructor
  · rintro ⟨_, rfl, ⟨v1, _, rfl, h2, ⟨v3, _, rfl, h4, rfl⟩⟩⟩
    obtain ⟨_, _, _, rfl⟩ := sInts.sl h2
    obtain ⟨_, _, _, rfl⟩ := (kR 44 rEntry).sl h4
    exact ⟨_, _, _, _, _, _, rfl, h2, h4⟩
  · rintro ⟨a0, n0, c0, a1, n1, c1, rfl, g0, g1⟩
    exact ⟨_, rfl, ⟨_, _, rfl, g0, ⟨_, _, rfl, g1, rfl⟩⟩⟩
set_option maxHeartbeats 2000000 in
theorem laws_szBoard (v : Value) (d : BoardD) (left : Int) (w : World) (h : (kS rBoard).rd w v d) (h0 : 0 ≤ left) (h1 : left ≤ 1000000000) :
    Calls Try.prog 15 #[v, .int .i64 left] w fun e w' => (∃ r : Int, e = .returned (.int .i64 r) ∧ I64 r ∧ (0 ≤ r → (szBoard d : Int) + r ≤ left)) ∧ Below w.heap.size w w' := by
  obtain ⟨a0, n0, c0, a1, n1, c1, rfl, k0, k1⟩ := rdBoard.1 h
  have Fkeys := Lib.hid k0
  have Fentries := Lib.hid k1
  clear k0 k1
  clear h
  obtain ⟨W, hW⟩ : ∃ W, W = w.alloc (.cells #[.slice a0 n0 c0, .slice a1 n1 c1] 27) := ⟨_, rfl⟩
  have HB0 : Hid (Below w.heap.size w W) := by unfold Hid; rw [hW]; exact (Below.refl _ _).alloc (Nat.le_refl _) _
  have BX : Hid (BoxN W w.heap.size 27 [.slice a0 n0 c0, .slice a1 n1 c1]) := by unfold Hid; rw [hW]; exact BoxN.new w [.slice a0 n0 c0, .slice a1 n1 c1] _
  go_enter Try.func15, Try.ntmps15
  go_wp2_with fail
  rw [← hW]
  clear hW
  have HA0 : Hid (Below W.heap.size W W) := Below.refl _ _
  refine (laws_szI _ d.keys left _ (sInts.rd_below Fkeys.out HB0.out) h0 h1).mono ?_
  rintro e w1 ⟨⟨r0, rfl, hr0, hq0⟩, hb⟩
  have HB1 := Lib.hid (HB0.out.trans (hb.mono HB0.out.size))
  have HA1 := Lib.hid (HA0.out.trans (hb.mono HA0.out.size)); clear hb
  by_cases hn0 : r0 < 0
  · go_wp2_with fail
    go_ret
    exact ⟨⟨_, rfl, ⟨by decide, by decide⟩, fun h => by omega⟩, HB1.out⟩
  have hz0 := hq0 (by omega)
  have hp0 : r0 ≤ 1000000000 := by omega
  clear hq0
  have p1 := BX.out.below HA1.out |>.cell (i := 1) rfl
  go_wp2_with fail
  clear p1
  refine (laws_szEntryS _ d.entries r0 _ ((kR 44 rEntry).rd_below Fentries.out HB1.out) (by omega) hp0).mono ?_
  rintro e w2 ⟨⟨r1, rfl, hr1, hq1⟩, hb⟩
  have HB2 := Lib.hid (HB1.out.trans (hb.mono HB1.out.size))
  have HA2 := Lib.hid (HA1.out.trans (hb.mono HA1.out.size)); clear hb
  by_cases hn1 : r1 < 0
  · go_wp2_with fail
    go_ret
    exact ⟨⟨_, rfl, ⟨by decide, by decide⟩, fun h => by omega⟩, HB2.out⟩
  have hz1 := hq1 (by omega)
  have hp1 : r1 ≤ 1000000000 := by omega
  clear hq1
  go_wp2_with fail
  go_ret
  exact ⟨⟨_, rfl, hr1, fun h => by unfold szBoard; omega⟩, HB2.out⟩
set_option maxHeartbeats 2000000 in
theorem laws_eqBoard (v1 v2 : Value) (d1 d2 : BoardD) (w : World) (h1 : (kS rBoard).rd w v1 d1) (h2 : (kS rBoard).rd w v2 d2) :
    Calls Try.prog 22 #[v1, v2] w fun e w' => e = .returned (.bool (decide (d1 = d2))) ∧ Below w.heap.size w w' := by
  obtain ⟨a0x, n0x, c0x, a1x, n1x, c1x, rfl, k0x, k1x⟩ := rdBoard.1 h1
  have Fkeysx := Lib.hid k0x
  have Fentriesx := Lib.hid k1x
  clear k0x k1x
  obtain ⟨a0y, n0y, c0y, a1y, n1y, c1y, rfl, k0y, k1y⟩ := rdBoard.1 h2
  have Fkeysy := Lib.hid k0y
  have Fentriesy := Lib.hid k1y
  clear k0y k1y
  clear h1 h2
  obtain ⟨W, hW⟩ : ∃ W, W = (w.alloc (.cells #[.slice a0x n0x c0x, .slice a1x n1x c1x] 36)).alloc (.cells #[.slice a0y n0y c0y, .slice a1y n1y c1y] 36) := ⟨_, rfl⟩
  have hs1 : (w.alloc (.cells #[.slice a0x n0x c0x, .slice a1x n1x c1x] 36)).heap.size = w.heap.size + 1 := by simp
  have HB0 : Hid (Below w.heap.size w W) := by unfold Hid; rw [hW]; (repeat (first | exact Below.refl _ _ | assumption | refine Below.drew ?_ | refine Below.alloc ?_ (by first | (simp; done) | (simp; omega)) _ | refine Below.setCell ?_ (by first | (simp; done) | (simp; omega)) _))
  have BX : Hid (BoxN W w.heap.size 36 [.slice a0x n0x c0x, .slice a1x n1x c1x]) := by unfold Hid; rw [hW]; exact (BoxN.new w [.slice a0x n0x c0x, .slice a1x n1x c1x] _).alloc _
  have BY : Hid (BoxN W (w.heap.size + 1) 36 [.slice a0y n0y c0y, .slice a1y n1y c1y]) := by unfold Hid; rw [hW, ← hs1]; exact BoxN.new _ [.slice a0y n0y c0y, .slice a1y n1y c1y] _
  obtain ⟨q_keys, hq_keys⟩ : ∃ q, decide (d1.keys = d2.keys) = q := ⟨_, rfl⟩
  obtain ⟨q_entries, hq_entries⟩ : ∃ q, decide (d1.entries = d2.entries) = q := ⟨_, rfl⟩
  have HR : Hid (decide (d1 = d2) = (q_keys && (q_entries))) := by
    unfold Hid; rw [← hq_keys, ← hq_entries, Bool.eq_iff_iff]; simp only [Bool.and_eq_true, decide_eq_true_eq]; exact BoardD.ext_iff'
  have Q_keys := Lib.hid hq_keys; clear hq_keys
  have Q_entries := Lib.hid hq_entries; clear hq_entries
  clear hs1
  have HA0 : Hid (Below W.heap.size W W) := Below.refl _ _
  go_enter Try.func22, Try.ntmps22
  go_wp2_with fail
  rw [← hW]
  clear hW
  refine (laws_eqI _ _ d1.keys d2.keys _ (sInts.rd_below Fkeysx.out HB0.out) (sInts.rd_below Fkeysy.out HB0.out)).mono ?_
  rintro e w1 ⟨rfl, hb⟩
  rw [Q_keys.out]
  have HB1 := Lib.hid (HB0.out.trans (hb.mono HB0.out.size))
  have HA1 := Lib.hid (HA0.out.trans (hb.mono HA0.out.size)); clear hb
  cases q_keys with
  | false =>
    go_wp2_with fail
    go_ret
    exact ⟨ret_bool (by rw [HR.out]; (try rfl)), HB1.out⟩
  | true =>
  have px1 := BX.out.below HA1.out |>.cell (i := 1) rfl
  have py1 := BY.out.below HA1.out |>.cell (i := 1) rfl
  go_wp2_with fail
  clear px1 py1
  refine (laws_eqEntryS _ _ d1.entries d2.entries _ ((kR 44 rEntry).rd_below Fentriesx.out HB1.out) ((kR 44 rEntry).rd_below Fentriesy.out HB1.out)).mono ?_
  rintro e w2 ⟨rfl, hb⟩
  rw [Q_entries.out]
  have HB2 := Lib.hid (HB1.out.trans (hb.mono HB1.out.size))
  have HA2 := Lib.hid (HA1.out.trans (hb.mono HA1.out.size)); clear hb
  cases q_entries with
  | false =>
    go_wp2_with fail
    go_ret
    exact ⟨ret_bool (by rw [HR.out]; (try rfl)), HB2.out⟩
  | true =>
  go_wp2_with fail
  go_ret
  exact ⟨ret_bool (by rw [HR.out]; (try rfl)), HB2.out⟩
set_option maxHeartbeats 4000000 in
theorem laws_toBoard (v : Value) (d : BoardD) (w : World) (h : (kS rBoard).rd w v d) (hl : (szBoard d : Int) ≤ 1000000000) :
    Calls Try.prog 19 #[v] w fun e w' => ∃ v', e = .returned v' ∧ (kS rBoard).own w' w.heap.size w'.heap.size v' d ∧ Below w.heap.size w w' := by
  unfold szBoard at hl
  have L_keys : Hid (((d.keys.length : Nat) : Int) ≤ 1000000000) := by unfold Hid; omega
  have L_entries : Hid (((szEntryS d.entries : Nat) : Int) ≤ 1000000000) := by unfold Hid; omega
  obtain ⟨a0, n0, c0, a1, n1, c1, rfl, k0, k1⟩ := rdBoard.1 h
  have Fkeys := Lib.hid k0
  have Fentries := Lib.hid k1
  clear k0 k1
  clear h hl
  obtain ⟨W, hW⟩ : ∃ W, W = ((w.alloc (.cells #[.slice a0 n0 c0, .slice a1 n1 c1] 27)).alloc (.cells #[.slice none 0 0, .slice none 0 0] 36)).alloc (.cells #[.slice none 0 0, .slice none 0 0] 36) := ⟨_, rfl⟩
  have hs1 : (w.alloc (.cells #[.slice a0 n0 c0, .slice a1 n1 c1] 27)).heap.size = w.heap.size + 1 := by simp
  have hs2 : ((w.alloc (.cells #[.slice a0 n0 c0, .slice a1 n1 c1] 27)).alloc (.cells #[.slice none 0 0, .slice none 0 0] 36)).heap.size = w.heap.size + 1 + 1 := by simp
  have hs0 : W.heap.size = w.heap.size + 1 + 1 + 1 := by rw [hW]; simp
  have HB0 : Hid (Below w.heap.size w W) := by unfold Hid; rw [hW]; (repeat (first | exact Below.refl _ _ | assumption | refine Below.drew ?_ | refine Below.alloc ?_ (by first | (simp; done) | (simp; omega)) _ | refine Below.setCell ?_ (by first | (simp; done) | (simp; omega)) _))
  have BX0 : Hid (BoxN W w.heap.size 27 [.slice a0 n0 c0, .slice a1 n1 c1]) := by unfold Hid; rw [hW]; exact ((BoxN.new w [.slice a0 n0 c0, .slice a1 n1 c1] _).alloc _).alloc _
  have BR0 : Hid (BoxN W (w.heap.size + 1) 36 [.slice none 0 0, .slice none 0 0]) := by unfold Hid; rw [hW, ← hs1]; exact (BoxN.new _ [.slice none 0 0, .slice none 0 0] _).alloc _
  have BO0 : Hid (BoxN W (w.heap.size + 1 + 1) 36 [.slice none 0 0, .slice none 0 0]) := by unfold Hid; rw [hW, ← hs2]; exact BoxN.new _ [.slice none 0 0, .slice none 0 0] _
  have HW := Lib.hid hW; clear hW hs1 hs2
  go_enter Try.func19, Try.ntmps19
  go_wp2_with fail
  rw [← HW.out]
  refine (laws_toI _ d.keys W (sInts.rd_below Fkeys.out HB0.out) L_keys.out).mono ?_
  rintro e w1 ⟨v1, rfl, X, hb⟩
  obtain ⟨ea_keys, en_keys, ec_keys, rfl⟩ := sInts.sl (sInts.own_rd X)
  have O_keys := Lib.hid X; clear X
  have us1 := hb.size
  have HB1 := Lib.hid (HB0.out.trans (hb.mono HB0.out.size))
  have BX1 := Lib.hid (BX0.out.below hb)
  have BR1 := Lib.hid (BR0.out.below hb)
  have BO1 := Lib.hid (BO0.out.below hb)
  clear hb
  have px0 := BX1.out.cell (i := 0) rfl
  have po0 := BO1.out.cell (i := 0) rfl
  have pr0 := BR1.out.cell (i := 0) rfl
  have px1 := BX1.out.cell (i := 1) rfl
  have po1 := BO1.out.cell (i := 1) rfl
  have pr1 := BR1.out.cell (i := 1) rfl
  have fo := BO1.out.frozen
  have fr := BR1.out.frozen
  have st0 : w.heap.size < w1.heap.size := by omega
  have st1 : w.heap.size + 1 < w1.heap.size := by omega
  have st2 : w.heap.size + 1 + 1 < w1.heap.size := by omega
  go_wp2_with fail
  obtain ⟨u2, hU⟩ : ∃ U, U = ((w1).setCell ⟨w.heap.size + 1 + 1, 0, none⟩ (.slice ea_keys en_keys ec_keys)) := ⟨_, rfl⟩
  rw [← hU]
  have hwi : Within (w.heap.size + 1 + 1) (w.heap.size + 1 + 1 + 1) w1 u2 := by rw [hU]; exact (Within.refl _ _ _ |>.setCell (by omega) (by omega) _ _)
  have us2 : u2.heap.size = w1.heap.size := by rw [hU]; simp only [size_setC]
  have HB2 : Hid (Below w.heap.size w u2) := HB1.out.trans (hwi.below (by omega) (by omega))
  have BX2 : Hid (BoxN u2 w.heap.size 27 [.slice a0 n0 c0, .slice a1 n1 c1]) := BX1.out.kept hwi (.inl (by omega))
  have BR2 : Hid (BoxN u2 (w.heap.size + 1) 36 [.slice none 0 0, .slice none 0 0]) := BR1.out.kept hwi (.inl (by omega))
  have BO2 : Hid (BoxN u2 (w.heap.size + 1 + 1) 36 [.slice ea_keys en_keys ec_keys, .slice none 0 0]) := by unfold Hid; rw [hU]; exact (BO1.out.set 0 _)
  replace O_keys := Lib.hid (Kind.kept (K := sInts.toKind) O_keys.out hwi (.inr (by omega)))
  clear hwi hU
  clear px0 po0 pr0 px1 po1 pr1 fo fr st0 st1 st2
  refine (laws_toEntryS _ d.entries u2 ((kR 44 rEntry).rd_below Fentries.out HB2.out) L_entries.out).mono ?_
  rintro e w3 ⟨v3, rfl, X, hb⟩
  obtain ⟨ea_entries, en_entries, ec_entries, rfl⟩ := (kR 44 rEntry).sl ((kR 44 rEntry).own_rd X)
  have O_entries := Lib.hid X; clear X
  have us3 := hb.size
  have HB3 := Lib.hid (HB2.out.trans (hb.mono HB2.out.size))
  have BX3 := Lib.hid (BX2.out.below hb)
  have BR3 := Lib.hid (BR2.out.below hb)
  have BO3 := Lib.hid (BO2.out.below hb)
  replace O_keys := Lib.hid (Kind.next (K := sInts.toKind) O_keys.out hb)
  clear hb
  have px0 := BX3.out.cell (i := 0) rfl
  have po0 := BO3.out.cell (i := 0) rfl
  have pr0 := BR3.out.cell (i := 0) rfl
  have px1 := BX3.out.cell (i := 1) rfl
  have po1 := BO3.out.cell (i := 1) rfl
  have pr1 := BR3.out.cell (i := 1) rfl
  have fo := BO3.out.frozen
  have fr := BR3.out.frozen
  have st0 : w.heap.size < w3.heap.size := by omega
  have st1 : w.heap.size + 1 < w3.heap.size := by omega
  have st2 : w.heap.size + 1 + 1 < w3.heap.size := by omega
  go_wp2_with fail
  obtain ⟨V, hV⟩ : ∃ U, U = ((((w3).setCell ⟨w.heap.size + 1 + 1, 1, none⟩ (.slice ea_entries en_entries ec_entries)).setCell ⟨w.heap.size + 1, 0, none⟩ (.slice ea_keys en_keys ec_keys)).setCell ⟨w.heap.size + 1, 1, none⟩ (.slice ea_entries en_entries ec_entries)) := ⟨_, rfl⟩
  rw [← hV]
  have hwi : Within (w.heap.size + 1) (w.heap.size + 1 + 1 + 1) w3 V := by rw [hV]; exact (((Within.refl _ _ _ |>.setCell (by omega) (by omega) _ _) |>.setCell (by omega) (by omega) _ _) |>.setCell (by omega) (by omega) _ _)
  have hs : V.heap.size = w3.heap.size := by rw [hV]; simp only [size_setC]
  have BV : BoxN V (w.heap.size + 1) 36 [.slice ea_keys en_keys ec_keys, .slice ea_entries en_entries ec_entries] := by rw [hV]; exact (((BR3.out.other (by omega) _ _).set 0 _).set 1 _)
  replace O_keys := Lib.hid (Kind.kept (K := sInts.toKind) O_keys.out hwi (.inr (by omega)))
  replace O_entries := Lib.hid (Kind.kept (K := (kR 44 rEntry).toKind) O_entries.out hwi (.inr (by omega)))
  clear hV
  clear px0 po0 pr0 px1 po1 pr1 fo fr st0 st1 st2
  have r0 := BV.cell (i := 0) rfl
  have r1 := BV.cell (i := 1) rfl
  refine bodyPost_ret (v := .agg #[.slice ea_keys en_keys ec_keys, .slice ea_entries en_entries ec_entries]) (by simp [results, Try.results19, go_sem, r0, r1]) rfl ⟨_, rfl, ⟨_, rfl, ⟨_, _, W.heap.size, w1.heap.size, u2.heap.size, V.heap.size, rfl, O_keys.out, ⟨_, _, u2.heap.size, w3.heap.size, V.heap.size, V.heap.size, rfl, O_entries.out, rfl, ⟨by omega, by omega⟩, ⟨by omega, by omega⟩, by omega⟩, ⟨by omega, by omega⟩, ⟨by omega, by omega⟩, by omega⟩⟩, ?_⟩
  exact HB3.out.trans (hwi.below (by omega) (by omega))
/-- the struct with marks in its slices, from k0 on -/
def mkBoard (k0 : Nat) (d : BoardD) : BoardD := ⟨mkI (k0) d.keys, mkEntryS (k0 + d.keys.length) d.entries⟩
set_option maxHeartbeats 2000000 in
theorem laws_markBoard (lo hi : Nat) (v : Value) (k0 : Nat) (d : BoardD) (w : World) (h : (kS rBoard).own w lo hi v d) (hk : k0 + cnBoard d ≤ 9223372036854775806) (hhi : hi ≤ w.heap.size) :
    Calls Try.prog 24 #[v, .int .i64 k0] w fun e w' => e = .returned (.int .i64 (k0 + cnBoard d : Nat)) ∧ (kS rBoard).own w' lo hi v (mkBoard k0 d) ∧ Within lo hi w w' := by
  have HK : Hid (k0 + cnBoard d = k0 + d.keys.length + cnEntryS d.entries) := by unfold Hid cnBoard; omega
  unfold cnBoard at hk
  obtain ⟨_, rfl, ⟨_, _, l_keys, h_keys, m_keys, t_keys, rfl, o_keys, ⟨_, _, l_entries, h_entries, m_entries, t_entries, rfl, o_entries, rfl, q_entries, r_entries, s_entries⟩, q_keys, r_keys, s_keys⟩⟩ := h
  obtain ⟨ea_keys, en_keys, ec_keys, rfl⟩ := sInts.sl (sInts.own_rd o_keys)
  obtain ⟨ea_entries, en_entries, ec_entries, rfl⟩ := (kR 44 rEntry).sl ((kR 44 rEntry).own_rd o_entries)
  obtain ⟨W, hW⟩ : ∃ W, W = w.alloc (.cells #[.slice ea_keys en_keys ec_keys, .slice ea_entries en_entries ec_entries] 36) := ⟨_, rfl⟩
  have hb : Below w.heap.size w W := by rw [hW]; exact (Below.refl _ _).alloc (Nat.le_refl _) _
  have hs0 : W.heap.size = w.heap.size + 1 := by rw [hW]; simp
  have BX0 : Hid (BoxN W w.heap.size 36 [.slice ea_keys en_keys ec_keys, .slice ea_entries en_entries ec_entries]) := by unfold Hid; rw [hW]; exact BoxN.new w [.slice ea_keys en_keys ec_keys, .slice ea_entries en_entries ec_entries] _
  have O_keys := Lib.hid (Kind.next (K := sInts.toKind) o_keys hb)
  clear o_keys
  have O_entries := Lib.hid (Kind.next (K := (kR 44 rEntry).toKind) o_entries hb)
  clear o_entries
  have G0 : Hid (Within lo hi w W) := Within.of_below hb
  clear hb
  go_enter Try.func24, Try.ntmps24
  go_wp2_with fail
  rw [← hW]
  clear hW
  refine (laws_markI l_keys h_keys _ (k0) d.keys W O_keys.out (by omega) (by omega)).mono ?_
  rintro e w1 ⟨rfl, X, g⟩
  replace O_keys := Lib.hid X; clear X
  have us1 := g.size
  have BX1 := Lib.hid (BX0.out.kept g (.inr (by omega)))
  replace O_entries := Lib.hid (Kind.kept (K := (kR 44 rEntry).toKind) O_entries.out g (by omega))
  have G1 := Lib.hid (G0.out.trans (g.mono (by omega) (by omega))); clear g
  have p1 := BX1.out.cell (i := 1) rfl
  go_wp2_with fail
  clear p1
  refine (laws_markEntryS l_entries h_entries _ (k0 + d.keys.length) d.entries w1 O_entries.out (by omega) (by omega)).mono ?_
  rintro e w2 ⟨rfl, X, g⟩
  replace O_entries := Lib.hid X; clear X
  have us2 := g.size
  have BX2 := Lib.hid (BX1.out.kept g (.inr (by omega)))
  replace O_keys := Lib.hid (Kind.kept (K := sInts.toKind) O_keys.out g (by omega))
  have G2 := Lib.hid (G1.out.trans (g.mono (by omega) (by omega))); clear g
  go_wp2_with fail
  go_ret
  refine ⟨ret_int (by rw [HK.out]; (try omega)), ⟨_, rfl, ⟨_, _, l_keys, h_keys, m_keys, t_keys, rfl, O_keys.out, ⟨_, _, l_entries, h_entries, m_entries, t_entries, rfl, O_entries.out, rfl, q_entries, r_entries, s_entries⟩, q_keys, r_keys, s_keys⟩⟩, G2.out⟩
set_option maxHeartbeats 2000000 in
theorem laws_heldBoard (v : Value) (k0 : Nat) (d : BoardD) (w : World) (h : (kS rBoard).rd w v (mkBoard k0 d)) (hk : k0 + cnBoard d ≤ 9223372036854775806) :
    Calls Try.prog 26 #[v, .int .i64 k0] w fun e w' => e = .returned (.int .i64 (k0 + cnBoard d : Nat)) ∧ Below w.heap.size w w' := by
  have HK : Hid (k0 + cnBoard d = k0 + d.keys.length + cnEntryS d.entries) := by unfold Hid cnBoard; omega
  unfold cnBoard at hk
  obtain ⟨D, hD⟩ : ∃ D, mkBoard k0 d = D := ⟨_, rfl⟩
  have D_keys : Hid (D.keys = mkI (k0) d.keys) := by unfold Hid; rw [← hD]; rfl
  have D_entries : Hid (D.entries = mkEntryS (k0 + d.keys.length) d.entries) := by unfold Hid; rw [← hD]; rfl
  rw [hD] at h; clear hD
  obtain ⟨a0, n0, c0, a1, n1, c1, rfl, k0, k1⟩ := rdBoard.1 h
  have Fkeys := Lib.hid k0
  have Fentries := Lib.hid k1
  clear k0 k1
  clear h
  obtain ⟨W, hW⟩ : ∃ W, W = w.alloc (.cells #[.slice a0 n0 c0, .slice a1 n1 c1] 36) := ⟨_, rfl⟩
  have HB0 : Hid (Below w.heap.size w W) := by unfold Hid; rw [hW]; exact (Below.refl _ _).alloc (Nat.le_refl _) _
  have BX : Hid (BoxN W w.heap.size 36 [.slice a0 n0 c0, .slice a1 n1 c1]) := by unfold Hid; rw [hW]; exact BoxN.new w [.slice a0 n0 c0, .slice a1 n1 c1] _
  have HA0 : Hid (Below W.heap.size W W) := Below.refl _ _
  go_enter Try.func26, Try.ntmps26
  go_wp2_with fail
  rw [← hW]
  clear hW
  refine (laws_heldI _ (k0) d.keys _ (sInts.rd_below (by rw [← D_keys.out]; exact Fkeys.out) HB0.out) (by omega)).mono ?_
  rintro e w1 ⟨rfl, hb⟩
  have HB1 := Lib.hid (HB0.out.trans (hb.mono HB0.out.size))
  have HA1 := Lib.hid (HA0.out.trans (hb.mono HA0.out.size)); clear hb
  have hnn0 : ¬ (((k0 + d.keys.length : Nat) : Int) < 0) := by omega
  have p1 := BX.out.below HA1.out |>.cell (i := 1) rfl
  go_wp2_with fail
  clear p1
  refine (laws_heldEntryS _ (k0 + d.keys.length) d.entries _ ((kR 44 rEntry).rd_below (by rw [← D_entries.out]; exact Fentries.out) HB1.out) (by omega)).mono ?_
  rintro e w2 ⟨rfl, hb⟩
  have HB2 := Lib.hid (HB1.out.trans (hb.mono HB1.out.size))
  have HA2 := Lib.hid (HA1.out.trans (hb.mono HA1.out.size)); clear hb
  have hnn1 : ¬ (((k0 + d.keys.length + cnEntryS d.entries : Nat) : Int) < 0) := by omega
  go_wp2_with fail
  go_ret
  exact ⟨ret_int (by rw [HK.out]; (try omega)), HB2.out⟩
end Go.Proofs.Ytboahnklilmdpaa
