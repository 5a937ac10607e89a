/- Slices of Reader as a kind (printed by genkinds.py): the walks of the laws' helpers. -/
import Derived.Test.YtodennbdfloccaaGreatKReader
import Derived.Test.YtodennbdfloccaaGreatBa
namespace Go.Proofs.YtodennbdfloccaaGreat
open Go.RowKit
set_option linter.unusedSimpArgs false
set_option linter.unusedVariables false

def szReaderS (ds : List ReaderD) : Nat := ds.length + (ds.map szReader).sum
/-- the marks of an element in a row -/
def fcReader (d : ReaderD) : Nat := 0 + cnReader d
def cnReaderS (ds : List ReaderD) : Nat := (ds.map fcReader).sum
theorem cnReaderS_le (ds : List ReaderD) : cnReaderS ds ≤ 4 * szReaderS ds := by
  unfold cnReaderS szReaderS
  induction ds with
  | nil => simp
  | cons d ds ih =>
    have := cnReader_le d
    simp only [List.map_cons, List.sum_cons, List.length_cons, fcReader] at *
    omega
theorem sumReaderS_succ {f : ReaderD → Nat} {ds : List ReaderD} {k : Nat} (h : k < ds.length) : ((ds.take (k + 1)).map f).sum = ((ds.take k).map f).sum + f ds[k] := by
  rw [List.take_succ_eq_append_getElem h, List.map_append, List.sum_append]; simp
theorem sumReaderS_le {f : ReaderD → Nat} {ds : List ReaderD} {k : Nat} : ((ds.take k).map f).sum ≤ (ds.map f).sum := by
  conv => rhs; rw [← List.take_append_drop k ds]
  rw [List.map_append, List.sum_append]; omega
set_option maxHeartbeats 2000000 in
theorem laws_szReaderS (v : Value) (ds : List ReaderD) (left : Int) (w : World) (h : (kR 101 rReader).rd w v ds) (h0 : 0 ≤ left) (h1 : left ≤ 1000000000) :
    Calls Tryz.prog 30 #[v, .int .i64 left] w fun e w' => (∃ r : Int, e = .returned (.int .i64 r) ∧ I64 r ∧ (0 ≤ r → (szReaderS ds : Int) + r ≤ left)) ∧ Below w.heap.size w w' := by
  obtain ⟨a, n, c, rfl⟩ := RdR.shape h
  have e := RdR.len h
  obtain ⟨k1, k2⟩ := RdR.capMax h
  unfold maxLen at k2
  have HE := Lib.hid e
  have H : Hid (RdR rReader w (.slice a n c) ds) := h; clear h
  by_cases hn : left - n < 0
  · clear e
    go_enter Tryz.func30, Tryz.ntmps30
    go_wp2_with fail
    go_ret
    exact ⟨⟨_, rfl, ⟨by decide, by decide⟩, fun h => by omega⟩, Below.refl _ _⟩
  · clear e
    go_enter Tryz.func30, Tryz.ntmps30
    go_wp2_with fail
    go_loopg [1, 5] n (fun g q i wr => ∃ (k : Nat) (z : Int), k + g = n ∧ i = .int .i64 k ∧ q = .int .i64 z ∧ 0 ≤ z ∧ z ≤ left ∧ Hid (((ds.take k).map szReader).sum + z ≤ left - n) ∧ Below w.heap.size w wr)
    case atStart => exact ⟨0, left - n, by omega, rfl, rfl, by omega, by omega, by unfold Hid; simp, Below.refl _ _⟩
    case round =>
      obtain ⟨k, z, hkg, rfl, rfl, hz0, hz1, hz, hb⟩ := hrel
      by_cases hlt : k < n
      · have HK : Hid (k < ds.length) := by unfold Hid; rw [HE.out]; exact hlt
        obtain ⟨b, o, rfl, hcx⟩ := RdR.at_ H.out (by omega)
        obtain ⟨vs, hcell, hrd⟩ := hcx k HK.out
        have hT := sumReaderS_succ (f := szReader) HK.out
        generalize hd : ds[k]'HK.out = d at hrd hT
        clear hd
        obtain ⟨v1, _, rfl, h2, rfl⟩ := hrd
        obtain ⟨aa0, nn0, cc0, rfl⟩ := (kR 44 rHead).sl h2
        have y0 : w.cell? ⟨b, o + (k * 1 + 0), none⟩ = some (.slice aa0 nn0 cc0) := hcell 0 (by decide)
        replace y0 : w.cell? ⟨b, o + k, none⟩ = some (.slice aa0 nn0 cc0) := by rw [Nat.add_zero, Nat.mul_one] at y0; exact y0
        have HR : Hid ((kS rReader).rd wr (.agg #[.slice aa0 nn0 cc0]) d) := (kS rReader).rd_below (rdReader.2 ⟨_, _, _, rfl, h2⟩) hb
        replace y0 := box_at y0 hb
        have HT := Lib.hid hT
        clear hcell hcx hT h2
        go_wp2_with fail
        refine (laws_szReader _ d z _ HR.out hz0 (by omega)).mono ?_
        rintro e w1 ⟨⟨r, rfl, hr, hq⟩, hb1⟩
        have HB1 := Lib.hid (hb.trans (hb1.mono hb.size)); clear hb1
        by_cases hs : r < 0
        · go_wp2_with fail
          go_ret
          exact ⟨⟨_, rfl, ⟨by decide, by decide⟩, fun h => by omega⟩, HB1.out⟩
        · have hq2 := hq (by omega)
          clear hq
          go_wp2_with fail
          go_roundg (n - (k + 1))
          case measure => omega
          case rel => exact ⟨k + 1, r, by omega, by go_num, rfl, by omega, by omega, by have := HT.out; have := hz.out; unfold Hid; omega, HB1.out⟩
      · obtain rfl : n = k := by omega
        go_wp2_with fail
        go_ret
        refine ⟨⟨_, rfl, ⟨by omega, by omega⟩, fun h => ?_⟩, hb⟩
        have h1 := hz.out
        rw [List.take_of_length_le (by rw [HE.out]; exact Nat.le_refl _)] at h1
        unfold szReaderS
        rw [HE.out]
        omega
set_option maxHeartbeats 4000000 in
theorem laws_eqReaderS (v1 v2 : Value) (l1 l2 : List ReaderD) (w : World) (h1 : (kR 101 rReader).rd w v1 l1) (h2 : (kR 101 rReader).rd w v2 l2) :
    Calls Tryz.prog 36 #[v1, v2] w fun e w' => e = .returned (.bool (decide (l1 = l2))) ∧ Below w.heap.size w w' := by
  obtain ⟨a, n, c, rfl⟩ := RdR.shape h1
  obtain ⟨a2, n2, c2, rfl⟩ := RdR.shape h2
  have e := RdR.len h1
  have e2 := RdR.len h2
  obtain ⟨k1, k2⟩ := RdR.capMax h1
  obtain ⟨k3, k4⟩ := RdR.capMax h2
  unfold maxLen at k2 k4
  have HE := Lib.hid e
  have HE2 := Lib.hid e2
  have H1 : Hid (RdR rReader w (.slice a n c) l1) := h1; clear h1
  have H2 : Hid (RdR rReader w (.slice a2 n2 c2) l2) := h2; clear h2
  by_cases hn : n = n2
  · subst hn
    clear e e2
    go_enter Tryz.func36, Tryz.ntmps36
    go_wp2_with fail
    go_loopg [5] n (fun g i wr => ∃ k : Nat, k + g = n ∧ i = .int .i64 k ∧ Hid (∀ j (h : j < l1.length) (h' : j < l2.length), j < k → l1[j] = l2[j]) ∧ Below w.heap.size w wr)
    case atStart => exact ⟨0, by omega, rfl, fun j _ _ h => by omega, Below.refl _ _⟩
    case round =>
      obtain ⟨k, hkg, rfl, hF, hb⟩ := hrel
      by_cases hlt : k < n
      · have HK1 : Hid (k < l1.length) := by unfold Hid; rw [HE.out]; exact hlt
        have HK2 : Hid (k < l2.length) := by unfold Hid; rw [HE2.out]; exact hlt
        obtain ⟨b, o, rfl, hcx⟩ := RdR.at_ H1.out (by omega)
        obtain ⟨vs, hcell, hrd⟩ := hcx k HK1.out
        obtain ⟨b2, o2, rfl, hcx2⟩ := RdR.at_ H2.out (by omega)
        obtain ⟨vs2, hcell2, hrd2⟩ := hcx2 k HK2.out
        obtain ⟨q, hq⟩ : ∃ q, decide (l1[k]'HK1.out = l2[k]'HK2.out) = q := ⟨_, rfl⟩
        have HQ := Lib.hid hq
        generalize hd1 : l1[k]'HK1.out = d1 at hrd hq
        generalize hd2 : l2[k]'HK2.out = d2 at hrd2 hq
        have HQ' := Lib.hid hq
        clear hd1 hd2 hq
        obtain ⟨v3, _, rfl, h4, rfl⟩ := hrd
        obtain ⟨aa0x, nn0x, cc0x, rfl⟩ := (kR 44 rHead).sl h4
        obtain ⟨v5, _, rfl, h6, rfl⟩ := hrd2
        obtain ⟨aa0y, nn0y, cc0y, rfl⟩ := (kR 44 rHead).sl h6
        have x0 : w.cell? ⟨b, o + (k * 1 + 0), none⟩ = some (.slice aa0x nn0x cc0x) := hcell 0 (by decide)
        replace x0 : w.cell? ⟨b, o + k, none⟩ = some (.slice aa0x nn0x cc0x) := by rw [Nat.add_zero, Nat.mul_one] at x0; exact x0
        have y0 : w.cell? ⟨b2, o2 + (k * 1 + 0), none⟩ = some (.slice aa0y nn0y cc0y) := hcell2 0 (by decide)
        replace y0 : w.cell? ⟨b2, o2 + k, none⟩ = some (.slice aa0y nn0y cc0y) := by rw [Nat.add_zero, Nat.mul_one] at y0; exact y0
        have HR : Hid ((kS rReader).rd wr (.agg #[.slice aa0x nn0x cc0x]) d1) := (kS rReader).rd_below (rdReader.2 ⟨_, _, _, rfl, h4⟩) hb
        have HR2 : Hid ((kS rReader).rd wr (.agg #[.slice aa0y nn0y cc0y]) d2) := (kS rReader).rd_below (rdReader.2 ⟨_, _, _, rfl, h6⟩) hb
        have gx0 := fun u => grow_cell (box_at x0 hb) u
        have gy0 := fun u => grow_cell (box_at y0 hb) u
        clear x0 y0
        have z1 : (0 : Int) ≤ (k : Int) := by omega
        have z2 : (k : Int) < (n : Int) := by omega
        clear hcell hcell2 hcx hcx2 h4 h6
        cases q with
        | true =>
          go_wp2_with fail
          (refine wp_region_grow (by kernel_rfl) (by kernel_rfl) ?_; (repeat (go_big_quiet_step ((first | (go_at_call 68; refine calls_grow (laws_eqReader _ _ d1 d2 _ ((kS rReader).rd_below HR.out (grow_below _ _)) ((kS rReader).rd_below HR2.out (grow_below _ _))) (fun e w' h => ⟨by rw [h.1, HQ'.out], h.2⟩)) | fail)))); refine wpQuiet_nil ?_; intro _ hw'; obtain ⟨uq, hw''⟩ := hw'; subst hw''; have hbq := grow_below wr uq; generalize grow wr uq = wq at hbq ⊢)
          go_wp2_with fail
          go_roundg (n - (k + 1))
          case measure => omega
          case rel =>
            refine ⟨k + 1, by omega, by go_num, fun j h h' hj => ?_, hb.trans (hbq.mono hb.size)⟩
            rcases Nat.lt_or_ge j k with hjk | hjk
            · exact hF.out j h h' hjk
            · obtain rfl : j = k := by omega
              exact of_decide_eq_true HQ.out
        | false =>
          have HR' : Hid (decide (l1 = l2) = false) := by
            refine decide_eq_false fun h => ?_
            have := of_decide_eq_false HQ.out
            subst h; exact this rfl
          go_wp2_with fail
          (refine wp_region_grow (by kernel_rfl) (by kernel_rfl) ?_; (repeat (go_big_quiet_step ((first | (go_at_call 68; refine calls_grow (laws_eqReader _ _ d1 d2 _ ((kS rReader).rd_below HR.out (grow_below _ _)) ((kS rReader).rd_below HR2.out (grow_below _ _))) (fun e w' h => ⟨by rw [h.1, HQ'.out], h.2⟩)) | fail)))); refine wpQuiet_nil ?_; intro _ hw'; obtain ⟨uq, hw''⟩ := hw'; subst hw''; have hbq := grow_below wr uq; generalize grow wr uq = wq at hbq ⊢)
          go_wp2_with fail
          go_ret
          exact ⟨ret_bool (by first | (rw [HR'.out]; done) | (rw [HR'.out]; rfl) | exact HR'.out.symm), hb.trans (hbq.mono hb.size)⟩
      · obtain rfl : n = k := by omega
        have HR' : Hid (decide (l1 = l2) = true) := by
          refine decide_eq_true (List.ext_getElem (by rw [HE.out, HE2.out]) fun j h h' => hF.out j h h' (by rw [HE.out] at h; exact h))
        go_wp2_with fail
        go_ret
        exact ⟨ret_bool (by first | (rw [HR'.out]; done) | (rw [HR'.out]; rfl) | exact HR'.out.symm), hb⟩
  · have HR : Hid (decide (l1 = l2) = false) := decide_eq_false fun h => hn (by rw [← e, ← e2, h])
    clear e e2
    have hn1 : ¬ ((n : Int) = (n2 : Int)) := by omega
    go_enter Tryz.func36, Tryz.ntmps36
    go_wp2_with fail
    go_ret
    exact ⟨ret_bool (by first | (rw [HR.out]; done) | (rw [HR.out]; rfl) | exact HR.out.symm), Below.refl _ _⟩
theorem info_Reader : ∃ i, Tryz.prog.info? 101 = some i ∧ i.zero = some (.agg #[.slice none 0 0]) ∧ i.size = 1 ∧ i.bytes ≤ 1000 := by
  have h : (Tryz.prog.info? 101).map (fun i => (i.zero, i.size, decide (i.bytes ≤ 1000))) = some (some (.agg #[.slice none 0 0]), 1, true) := by kernel_rfl
  obtain ⟨i, hi, hz⟩ := Option.map_eq_some_iff.1 h
  simp only [Prod.mk.injEq] at hz
  exact ⟨i, hi, hz.1, hz.2.1, of_decide_eq_true hz.2.2⟩
set_option maxHeartbeats 4000000 in
theorem laws_toReaderS (v : Value) (ds : List ReaderD) (w : World) (h : (kR 101 rReader).rd w v ds) (hl : (szReaderS ds : Int) ≤ 1000000000) :
    Calls Tryz.prog 33 #[v] w fun e w' => ∃ v', e = .returned v' ∧ (kR 101 rReader).own w' w.heap.size w'.heap.size v' ds ∧ Below w.heap.size w w' := by
  obtain ⟨a, n, c, rfl⟩ := RdR.shape h
  have e := RdR.len h
  have HE := Lib.hid e
  have HL := Lib.hid hl
  unfold szReaderS at hl
  have hn : n ≤ 1000000000 := by omega
  obtain ⟨k1, k2⟩ := RdR.capMax h
  unfold maxLen at k2
  obtain ⟨i, hi, hz, hsz, hby⟩ := info_Reader
  have hmk : ∀ u, (Instr.makeSlice 74 (.int .i64 (n : Int)) (.int .i64 (n : Int))).run Tryz.prog u = .ok (.slice (some ⟨u.heap.size, 0, none⟩) n n) (u.alloc (.cells (madeCells #[.slice none 0 0] n) 101)) := fun u => by
    have := run_make (P := Tryz.prog) u 74 101 i (.agg #[.slice none 0 0]) Tryz.underlying74 hi hz .i64 .i64 n n (by omega) (Int.le_refl _) (by
      have h1 : i.bytes * n ≤ 1000 * 1000000000 := Nat.mul_le_mul hby hn
      have h2 : ((i.bytes * n : Nat) : Int) ≤ 281474976710656 := by omega
      rwa [Int.natCast_mul] at h2) (by omega)
    simpa [Value.cells, hsz] using this
  have h0 : Hid ((w.alloc (.cells (madeCells #[.slice none 0 0] n) 101)).ownsRow w.heap.size 101 1 (.slice (some ⟨w.heap.size, 0, none⟩) n n) n (List.replicate n [.slice none 0 0]).flatten) := by
    have h1 := World.ownsRow_lit (e := 101) (size := 1) w (madeCells #[.slice none 0 0] (n * 1)) n (Nat.le_refl _) (by unfold maxLen; omega) (size_madeCells _ _)
    rw [show (madeCells #[.slice none 0 0] (n * 1)).toList = (List.replicate n [.slice none 0 0]).flatten from flat_made [.slice none 0 0] n (by decide)] at h1
    rw [Nat.mul_one] at h1
    exact h1
  have H : Hid (RdR rReader w (.slice a n c) ds) := h; clear h e hl hi hz hsz hby i
  go_enter Tryz.func33, Tryz.ntmps33
  go_wp2_with fail
  go_loopg [4] n (fun g i wr => ∃ (k : Nat) (css : List (List Value)) (los his : Nat → Nat), k + g = n ∧ i = .int .i64 k ∧ Hid (css.length = n) ∧ Hid (∀ c ∈ css, c.length = 1) ∧ wr.ownsRow w.heap.size 101 1 (.slice (some ⟨w.heap.size, 0, none⟩) n n) n css.flatten ∧
    Hid (∀ i (h1 : i < css.length) (h2 : i < ds.length), i < k → rReader.own wr (los i) (his i) css[i] ds[i] ∧ w.heap.size < los i ∧ los i ≤ his i ∧ his i ≤ wr.heap.size) ∧ Hid (∀ i j, i < j → j < k → his i ≤ los j) ∧ Below w.heap.size w wr)
  case atStart => exact ⟨0, List.replicate n [.slice none 0 0], fun _ => 0, fun _ => 0, by omega, rfl, by unfold Hid; simp, fun c hc => by rw [List.eq_of_mem_replicate hc]; rfl, h0.out, fun i _ _ h => by omega, fun i j _ h => by omega, by (repeat (first | exact Below.refl _ _ | assumption | refine Below.drew ?_ | refine Below.alloc ?_ (by first | (simp; done) | (simp; omega)) _ | refine Below.setCell ?_ (by first | (simp; done) | (simp; omega)) _))⟩
  case round =>
    obtain ⟨k, css, los, his, hkg, rfl, hvl, hcl, hO, hel, hd, hG⟩ := hrel
    clear hmk
    have hgs : w.heap.size < wr.heap.size := (hO.lt w.heap.size rfl).2
    by_cases hlt : k < n
    · have HK : Hid (k < ds.length) := by unfold Hid; rw [HE.out]; exact hlt
      have HC : Hid (k < css.length) := by unfold Hid; rw [hvl.out]; exact hlt
      obtain ⟨b, o, rfl, hcx⟩ := RdR.at_ H.out (by omega)
      obtain ⟨us, hcell, hrd⟩ := hcx k HK.out
      have HLk : Hid ((szReader (ds[k]'HK.out) : Int) ≤ 1000000000) := by
        have h1 := sumReaderS_succ (f := szReader) HK.out
        have h2 := sumReaderS_le (f := szReader) (ds := ds) (k := k + 1)
        have h3 := HL.out
        unfold szReaderS at h3
        unfold Hid; omega
      obtain ⟨d, hdk⟩ : ∃ d, ds[k]'HK.out = d := ⟨_, rfl⟩
      have HDK := Lib.hid hdk
      rw [hdk] at hrd HLk
      clear hdk
      obtain ⟨v7, _, rfl, h8, rfl⟩ := hrd
      obtain ⟨aa0x, nn0x, cc0x, rfl⟩ := (kR 44 rHead).sl h8
      have x0 : w.cell? ⟨b, o + (k * 1 + 0), none⟩ = some (.slice aa0x nn0x cc0x) := hcell 0 (by decide)
      replace x0 : w.cell? ⟨b, o + k, none⟩ = some (.slice aa0x nn0x cc0x) := by rw [Nat.add_zero, Nat.mul_one] at x0; exact x0
      have HR : Hid ((kS rReader).rd wr (.agg #[.slice aa0x nn0x cc0x]) d) := (kS rReader).rd_below (rdReader.2 ⟨_, _, _, rfl, h8⟩) hG
      replace x0 := box_at x0 hG
      clear hcell hcx h8
      have HO := Lib.hid hO; clear hO
      have HG := Lib.hid hG; clear hG
      go_wp2_with fail
      refine (laws_toReader _ d _ HR.out HLk.out).mono ?_
      rintro e w1 ⟨v', rfl, X, hb1⟩
      obtain ⟨_, rfl, X⟩ := X
      obtain ⟨v9, _, rfl, h10, rfl⟩ := rReader.own_rd X
      obtain ⟨ea_n0, en_n0, ec_n0, rfl⟩ := (kR 44 rHead).sl h10
      clear h10
      have HX := Lib.hid X; clear X
      have HO1 : w1.ownsRow w.heap.size 101 1 (.slice (some ⟨w.heap.size, 0, none⟩) n n) n css.flatten := ownsRow_frame HO.out fun g hg => hb1.block g (HO.out.lt g hg).2
      have hbd : k * 1 + 1 ≤ n * 1 := by have := Nat.mul_le_mul_right 1 (show k + 1 ≤ n from hlt); rw [Nat.succ_mul] at this; exact this
      have f0 : w1.frozen? ⟨w.heap.size, k, none⟩ = false := World.ownsRow.frozenAt HO1 _
      obtain ⟨y0, hy0⟩ : ∃ y, w1.cell? ⟨w.heap.size, k, none⟩ = some y := ⟨_, (World.ownsRow.cellAt HO1 (k) (by omega)).trans (List.getElem?_eq_getElem (by rw [HO1.1]; omega))⟩
      have t0 := (World.ownsRow.stored HO1 (k) (.slice ea_n0 en_n0 ec_n0)).1
      have hfl := flat_sets_all hcl.out (k := k) HC.out [.slice ea_n0 en_n0 ec_n0] rfl
      have HS := Lib.hid t0; clear t0
      have HFL := Lib.hid hfl; clear hfl
      have hbs := hb1.size
      have HB1 := Lib.hid hb1; clear hb1 HO1
      go_wp2_with fail
      go_roundg (n - (k + 1))
      case measure => omega
      case rel =>
        obtain ⟨V, hV⟩ : ∃ V, V = (w1.setCell ⟨w.heap.size, k, none⟩ (.slice ea_n0 en_n0 ec_n0)) := ⟨_, rfl⟩
        rw [← hV]
        have hwi : Within w.heap.size (w.heap.size + 1) w1 V := by rw [hV]; exact (Within.refl _ _ _ |>.setCell (by omega) (by omega) _ _)
        have hVs : V.heap.size = w1.heap.size := by rw [hV]; simp only [size_setC]
        have HS2 : V.ownsRow w.heap.size 101 1 (.slice (some ⟨w.heap.size, 0, none⟩) n n) n (css.set k [.slice ea_n0 en_n0 ec_n0]).flatten := by
          have hf := HFL.out
          rw [show (List.range 1).foldl (fun xs j => xs.set (k * 1 + j) ([Value.slice ea_n0 en_n0 ec_n0].getD j undef)) css.flatten = css.flatten.set (k * 1 + 0) (.slice ea_n0 en_n0 ec_n0) from rfl, show k * 1 + 0 = k by omega] at hf
          rw [hV, ← hf]; exact HS.out
        clear hV
        refine ⟨k + 1, css.set k [.slice ea_n0 en_n0 ec_n0], fun i => if i = k then wr.heap.size else los i, fun i => if i = k then w1.heap.size else his i, by omega, by go_num, by have := hvl.out; unfold Hid; simpa using this, fun c hc => ?_, HS2, fun i h1 h2 h3 => ?_, fun i j hij hjk => ?_, ?_⟩
        · rcases List.mem_or_eq_of_mem_set hc with h | rfl
          · exact hcl.out _ h
          · rfl
        · rcases Nat.lt_or_ge i k with hik | hik
          · obtain ⟨q1, q2, q3, q4⟩ := hel.out i (by simpa using h1) h2 hik
            dsimp only
            rw [if_neg (by omega), if_neg (by omega)]
            refine ⟨?_, q2, q3, by omega⟩
            rw [List.getElem_set_ne (by omega)]
            exact RowK.kept (RowK.next q1 HB1.out) hwi (.inr (by omega))
          · obtain rfl : i = k := by omega
            dsimp only
            rw [if_pos rfl, if_pos rfl]
            refine ⟨?_, hgs, hbs, by omega⟩
            rw [List.getElem_set_self, HDK.out]
            exact RowK.kept HX.out hwi (.inr (by omega))
        · dsimp only
          by_cases hj : j = k
          · rw [if_neg (by omega), if_pos hj]
            exact (hel.out i (by have := hvl.out; omega) (by have := HE.out; omega) (by omega)).2.2.2
          · rw [if_neg (by omega), if_neg hj]
            exact hd.out i j hij (by omega)
        · exact (HG.out.trans (HB1.out.mono (by omega))).trans (hwi.below (by omega) (Nat.le_refl _))
    · obtain rfl : n = k := by omega
      have HO := Lib.hid hO; clear hO
      go_wp2_with fail
      go_ret
      refine ⟨_, rfl, ⟨css, los, his, by rw [hvl.out, HE.out], by rw [HE.out]; exact HO.out, fun g hg => ?_, fun i h1 h2 => ?_, fun i j hi hj hij => ?_⟩, hG⟩
      · cases hg
        refine ⟨hgs, fun i hi => .inl ?_⟩
        exact (hel.out i (by rw [hvl.out]; rw [HE.out] at hi; exact hi) hi (by rw [HE.out] at hi; exact hi)).2.1
      · obtain ⟨q1, q2, q3, q4⟩ := hel.out i h1 h2 (by rw [hvl.out] at h1; exact h1)
        exact ⟨q1, by omega, q4⟩
      · rw [HE.out] at hi hj
        rcases Nat.lt_or_ge i j with h | h
        · exact .inl (hd.out i j h hj)
        · exact .inr (hd.out j i (by omega) hi)
/-- an element in a row, with marks from k0 on; a slice of them -/
def fmReader (k0 : Nat) (d : ReaderD) : ReaderD := ⟨mkHeadS (k0) d.heads⟩
def mkReaderS : Nat → List ReaderD → List ReaderD
  | _, [] => []
  | k0, d :: ds => fmReader k0 d :: mkReaderS (k0 + fcReader d) ds
theorem mkReaderS_length : ∀ {k0 : Nat} {ds : List ReaderD}, (mkReaderS k0 ds).length = ds.length
  | _, [] => rfl
  | k0, d :: ds => by rw [mkReaderS, List.length_cons, List.length_cons, mkReaderS_length]
theorem mkReaderS_at : ∀ {k0 i : Nat} {ds : List ReaderD} (h : i < ds.length) (h' : i < (mkReaderS k0 ds).length), (mkReaderS k0 ds)[i] = fmReader (k0 + ((ds.take i).map fcReader).sum) ds[i]
  | _, _, [], h, _ => by simp at h
  | k0, 0, d :: ds, _, _ => by simp [mkReaderS]
  | k0, i + 1, d :: ds, h, h' => by
    have := mkReaderS_at (k0 := k0 + fcReader d) (i := i) (ds := ds) (by simpa using h) (by rw [mkReaderS_length]; simpa using h)
    simp only [mkReaderS, List.getElem_cons_succ, List.take_succ_cons, List.map_cons, List.sum_cons]
    rw [this, Nat.add_assoc]
theorem fcReader_end (k0 : Nat) (d : ReaderD) : k0 + fcReader d = k0 + cnHeadS d.heads := by
  unfold fcReader; unfold cnReader; omega
end Go.Proofs.YtodennbdfloccaaGreat
