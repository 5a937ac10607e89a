/- Slices of Entry as a kind (printed by genkinds.py): the walks of the laws' helpers. -/
import Derived.Test.YtboahnklilmdpaaBkU
import Derived.Test.YtboahnklilmdpaaBaU
namespace Go.Proofs.Ytboahnklilmdpaa
open Go.RowKit
set_option linter.unusedSimpArgs false
set_option linter.unusedVariables false

def szEntryS (ds : List EntryD) : Nat := ds.length + (ds.map szEntry).sum
/-- the marks of an element in a row -/
def fcEntry (d : EntryD) : Nat := 2 + cnEntry d
def cnEntryS (ds : List EntryD) : Nat := (ds.map fcEntry).sum
theorem cnEntryS_le (ds : List EntryD) : cnEntryS ds ≤ 4 * szEntryS ds := by
  unfold cnEntryS szEntryS
  induction ds with
  | nil => simp
  | cons d ds ih =>
    have := cnEntry_le d
    simp only [List.map_cons, List.sum_cons, List.length_cons, fcEntry] at *
    omega
theorem sumEntryS_succ {f : EntryD → Nat} {ds : List EntryD} {k : Nat} (h : k < ds.length) : ((ds.take (k + 1)).map f).sum = ((ds.take k).map f).sum + f ds[k] := by
  rw [List.take_succ_eq_append_getElem h, List.map_append, List.sum_append]; simp
theorem sumEntryS_le {f : EntryD → Nat} {ds : List EntryD} {k : Nat} : ((ds.take k).map f).sum ≤ (ds.map f).sum := by
  conv => rhs; rw [← List.take_append_drop k ds]
  rw [List.map_append, List.sum_append]; omega
set_option maxHeartbeats 2000000 in
theorem laws_szEntryS (v : Value) (ds : List EntryD) (left : Int) (w : World) (h : (kR 44 rEntry).rd w v ds) (h0 : 0 ≤ left) (h1 : left ≤ 1000000000) :
    Calls Try.prog 118 #[v, .int .i64 left] w fun e w' => (∃ r : Int, e = .returned (.int .i64 r) ∧ I64 r ∧ (0 ≤ r → (szEntryS ds : Int) + r ≤ left)) ∧ Below w.heap.size w w' := by
  obtain ⟨a, n, c, rfl⟩ := RdR.shape h
  have e := RdR.len h
  obtain ⟨k1, k2⟩ := RdR.capMax h
  unfold maxLen at k2
  have HE := Lib.hid e
  have H : Hid (RdR rEntry w (.slice a n c) ds) := h; clear h
  by_cases hn : left - n < 0
  · clear e
    go_enter Try.func118, Try.ntmps118
    go_wp2_with fail
    go_ret
    exact ⟨⟨_, rfl, ⟨by decide, by decide⟩, fun h => by omega⟩, Below.refl _ _⟩
  · clear e
    go_enter Try.func118, Try.ntmps118
    go_wp2_with fail
    go_loopg [1, 5] n (fun g q i wr => ∃ (k : Nat) (z : Int), k + g = n ∧ i = .int .i64 k ∧ q = .int .i64 z ∧ 0 ≤ z ∧ z ≤ left ∧ Hid (((ds.take k).map szEntry).sum + z ≤ left - n) ∧ Below w.heap.size w wr)
    case atStart => exact ⟨0, left - n, by omega, rfl, rfl, by omega, by omega, by unfold Hid; simp, Below.refl _ _⟩
    case round =>
      obtain ⟨k, z, hkg, rfl, rfl, hz0, hz1, hz, hb⟩ := hrel
      by_cases hlt : k < n
      · have HK : Hid (k < ds.length) := by unfold Hid; rw [HE.out]; exact hlt
        obtain ⟨b, o, rfl, hcx⟩ := RdR.at_ H.out (by omega)
        obtain ⟨vs, hcell, hrd⟩ := hcx k HK.out
        have hT := sumEntryS_succ (f := szEntry) HK.out
        generalize hd : ds[k]'HK.out = d at hrd hT
        clear hd
        obtain ⟨_, rfl, i1, ⟨_, rfl, i2, ⟨v3, _, rfl, h4, ⟨v5, _, rfl, h6, ⟨v7, _, rfl, h8, ⟨v9, _, rfl, h10, rfl⟩⟩⟩⟩⟩⟩ := hrd
        obtain ⟨aa0, nn0, cc0, rfl⟩ := sInts.sl h4
        obtain ⟨aa1, nn1, cc1, rfl⟩ := sInts.sl h6
        obtain ⟨aa2, nn2, cc2, rfl⟩ := sInts.sl h8
        obtain ⟨aa3, nn3, cc3, rfl⟩ := sInts.sl h10
        have y0 : w.cell? ⟨b, o + (k * 6 + 0), none⟩ = some (.int .i64 d.kind) := hcell 0 (by decide)
        replace y0 : w.cell? ⟨b, o + k * 6, none⟩ = some (.int .i64 d.kind) := by rw [Nat.add_zero] at y0; exact y0
        have y1 : w.cell? ⟨b, o + (k * 6 + 1), none⟩ = some (.int .i64 d.author) := hcell 1 (by decide)
        replace y1 : w.cell? ⟨b, o + k * 6 + 1, none⟩ = some (.int .i64 d.author) := by rw [← Nat.add_assoc] at y1; exact y1
        have y2 : w.cell? ⟨b, o + (k * 6 + 2), none⟩ = some (.slice aa0 nn0 cc0) := hcell 2 (by decide)
        replace y2 : w.cell? ⟨b, o + k * 6 + 2, none⟩ = some (.slice aa0 nn0 cc0) := by rw [← Nat.add_assoc] at y2; exact y2
        have y3 : w.cell? ⟨b, o + (k * 6 + 3), none⟩ = some (.slice aa1 nn1 cc1) := hcell 3 (by decide)
        replace y3 : w.cell? ⟨b, o + k * 6 + 3, none⟩ = some (.slice aa1 nn1 cc1) := by rw [← Nat.add_assoc] at y3; exact y3
        have y4 : w.cell? ⟨b, o + (k * 6 + 4), none⟩ = some (.slice aa2 nn2 cc2) := hcell 4 (by decide)
        replace y4 : w.cell? ⟨b, o + k * 6 + 4, none⟩ = some (.slice aa2 nn2 cc2) := by rw [← Nat.add_assoc] at y4; exact y4
        have y5 : w.cell? ⟨b, o + (k * 6 + 5), none⟩ = some (.slice aa3 nn3 cc3) := hcell 5 (by decide)
        replace y5 : w.cell? ⟨b, o + k * 6 + 5, none⟩ = some (.slice aa3 nn3 cc3) := by rw [← Nat.add_assoc] at y5; exact y5
        have HR : Hid ((kS rEntry).rd wr (.agg #[.int .i64 d.kind, .int .i64 d.author, .slice aa0 nn0 cc0, .slice aa1 nn1 cc1, .slice aa2 nn2 cc2, .slice aa3 nn3 cc3]) d) := (kS rEntry).rd_below (rdEntry.2 ⟨_, _, _, _, _, _, _, _, _, _, _, _, rfl, i1, i2, h4, h6, h8, h10⟩) hb
        replace y0 := box_at y0 hb
        replace y1 := box_at y1 hb
        replace y2 := box_at y2 hb
        replace y3 := box_at y3 hb
        replace y4 := box_at y4 hb
        replace y5 := box_at y5 hb
        have HT := Lib.hid hT
        clear hcell hcx hT i1 i2 h4 h6 h8 h10
        go_wp2_with fail
        refine (laws_szEntry _ d z _ HR.out hz0 (by omega)).mono ?_
        rintro e w1 ⟨⟨r, rfl, hr, hq⟩, hb1⟩
        have HB1 := Lib.hid (hb.trans (hb1.mono hb.size)); clear hb1
        by_cases hs : r < 0
        · go_wp2_with fail
          go_ret
          exact ⟨⟨_, rfl, ⟨by decide, by decide⟩, fun h => by omega⟩, HB1.out⟩
        · have hq2 := hq (by omega)
          clear hq
          go_wp2_with fail
          go_roundg (n - (k + 1))
          case measure => omega
          case rel => exact ⟨k + 1, r, by omega, by go_num, rfl, by omega, by omega, by have := HT.out; have := hz.out; unfold Hid; omega, HB1.out⟩
      · obtain rfl : n = k := by omega
        go_wp2_with fail
        go_ret
        refine ⟨⟨_, rfl, ⟨by omega, by omega⟩, fun h => ?_⟩, hb⟩
        have h1 := hz.out
        rw [List.take_of_length_le (by rw [HE.out]; exact Nat.le_refl _)] at h1
        unfold szEntryS
        rw [HE.out]
        omega
set_option maxHeartbeats 4000000 in
theorem laws_eqEntryS (v1 v2 : Value) (l1 l2 : List EntryD) (w : World) (h1 : (kR 44 rEntry).rd w v1 l1) (h2 : (kR 44 rEntry).rd w v2 l2) :
    Calls Try.prog 127 #[v1, v2] w fun e w' => e = .returned (.bool (decide (l1 = l2))) ∧ Below w.heap.size w w' := by
  obtain ⟨a, n, c, rfl⟩ := RdR.shape h1
  obtain ⟨a2, n2, c2, rfl⟩ := RdR.shape h2
  have e := RdR.len h1
  have e2 := RdR.len h2
  obtain ⟨k1, k2⟩ := RdR.capMax h1
  obtain ⟨k3, k4⟩ := RdR.capMax h2
  unfold maxLen at k2 k4
  have HE := Lib.hid e
  have HE2 := Lib.hid e2
  have H1 : Hid (RdR rEntry w (.slice a n c) l1) := h1; clear h1
  have H2 : Hid (RdR rEntry w (.slice a2 n2 c2) l2) := h2; clear h2
  by_cases hn : n = n2
  · subst hn
    clear e e2
    go_enter Try.func127, Try.ntmps127
    go_wp2_with fail
    go_loopg [5] n (fun g i wr => ∃ k : Nat, k + g = n ∧ i = .int .i64 k ∧ Hid (∀ j (h : j < l1.length) (h' : j < l2.length), j < k → l1[j] = l2[j]) ∧ Below w.heap.size w wr)
    case atStart => exact ⟨0, by omega, rfl, fun j _ _ h => by omega, Below.refl _ _⟩
    case round =>
      obtain ⟨k, hkg, rfl, hF, hb⟩ := hrel
      by_cases hlt : k < n
      · have HK1 : Hid (k < l1.length) := by unfold Hid; rw [HE.out]; exact hlt
        have HK2 : Hid (k < l2.length) := by unfold Hid; rw [HE2.out]; exact hlt
        obtain ⟨b, o, rfl, hcx⟩ := RdR.at_ H1.out (by omega)
        obtain ⟨vs, hcell, hrd⟩ := hcx k HK1.out
        obtain ⟨b2, o2, rfl, hcx2⟩ := RdR.at_ H2.out (by omega)
        obtain ⟨vs2, hcell2, hrd2⟩ := hcx2 k HK2.out
        obtain ⟨q, hq⟩ : ∃ q, decide (l1[k]'HK1.out = l2[k]'HK2.out) = q := ⟨_, rfl⟩
        have HQ := Lib.hid hq
        generalize hd1 : l1[k]'HK1.out = d1 at hrd hq
        generalize hd2 : l2[k]'HK2.out = d2 at hrd2 hq
        have HQ' := Lib.hid hq
        clear hd1 hd2 hq
        obtain ⟨_, rfl, i11, ⟨_, rfl, i12, ⟨v13, _, rfl, h14, ⟨v15, _, rfl, h16, ⟨v17, _, rfl, h18, ⟨v19, _, rfl, h20, rfl⟩⟩⟩⟩⟩⟩ := hrd
        obtain ⟨aa0x, nn0x, cc0x, rfl⟩ := sInts.sl h14
        obtain ⟨aa1x, nn1x, cc1x, rfl⟩ := sInts.sl h16
        obtain ⟨aa2x, nn2x, cc2x, rfl⟩ := sInts.sl h18
        obtain ⟨aa3x, nn3x, cc3x, rfl⟩ := sInts.sl h20
        obtain ⟨_, rfl, i21, ⟨_, rfl, i22, ⟨v23, _, rfl, h24, ⟨v25, _, rfl, h26, ⟨v27, _, rfl, h28, ⟨v29, _, rfl, h30, rfl⟩⟩⟩⟩⟩⟩ := hrd2
        obtain ⟨aa0y, nn0y, cc0y, rfl⟩ := sInts.sl h24
        obtain ⟨aa1y, nn1y, cc1y, rfl⟩ := sInts.sl h26
        obtain ⟨aa2y, nn2y, cc2y, rfl⟩ := sInts.sl h28
        obtain ⟨aa3y, nn3y, cc3y, rfl⟩ := sInts.sl h30
        have x0 : w.cell? ⟨b, o + (k * 6 + 0), none⟩ = some (.int .i64 d1.kind) := hcell 0 (by decide)
        replace x0 : w.cell? ⟨b, o + k * 6, none⟩ = some (.int .i64 d1.kind) := by rw [Nat.add_zero] at x0; exact x0
        have x1 : w.cell? ⟨b, o + (k * 6 + 1), none⟩ = some (.int .i64 d1.author) := hcell 1 (by decide)
        replace x1 : w.cell? ⟨b, o + k * 6 + 1, none⟩ = some (.int .i64 d1.author) := by rw [← Nat.add_assoc] at x1; exact x1
        have x2 : w.cell? ⟨b, o + (k * 6 + 2), none⟩ = some (.slice aa0x nn0x cc0x) := hcell 2 (by decide)
        replace x2 : w.cell? ⟨b, o + k * 6 + 2, none⟩ = some (.slice aa0x nn0x cc0x) := by rw [← Nat.add_assoc] at x2; exact x2
        have x3 : w.cell? ⟨b, o + (k * 6 + 3), none⟩ = some (.slice aa1x nn1x cc1x) := hcell 3 (by decide)
        replace x3 : w.cell? ⟨b, o + k * 6 + 3, none⟩ = some (.slice aa1x nn1x cc1x) := by rw [← Nat.add_assoc] at x3; exact x3
        have x4 : w.cell? ⟨b, o + (k * 6 + 4), none⟩ = some (.slice aa2x nn2x cc2x) := hcell 4 (by decide)
        replace x4 : w.cell? ⟨b, o + k * 6 + 4, none⟩ = some (.slice aa2x nn2x cc2x) := by rw [← Nat.add_assoc] at x4; exact x4
        have x5 : w.cell? ⟨b, o + (k * 6 + 5), none⟩ = some (.slice aa3x nn3x cc3x) := hcell 5 (by decide)
        replace x5 : w.cell? ⟨b, o + k * 6 + 5, none⟩ = some (.slice aa3x nn3x cc3x) := by rw [← Nat.add_assoc] at x5; exact x5
        have y0 : w.cell? ⟨b2, o2 + (k * 6 + 0), none⟩ = some (.int .i64 d2.kind) := hcell2 0 (by decide)
        replace y0 : w.cell? ⟨b2, o2 + k * 6, none⟩ = some (.int .i64 d2.kind) := by rw [Nat.add_zero] at y0; exact y0
        have y1 : w.cell? ⟨b2, o2 + (k * 6 + 1), none⟩ = some (.int .i64 d2.author) := hcell2 1 (by decide)
        replace y1 : w.cell? ⟨b2, o2 + k * 6 + 1, none⟩ = some (.int .i64 d2.author) := by rw [← Nat.add_assoc] at y1; exact y1
        have y2 : w.cell? ⟨b2, o2 + (k * 6 + 2), none⟩ = some (.slice aa0y nn0y cc0y) := hcell2 2 (by decide)
        replace y2 : w.cell? ⟨b2, o2 + k * 6 + 2, none⟩ = some (.slice aa0y nn0y cc0y) := by rw [← Nat.add_assoc] at y2; exact y2
        have y3 : w.cell? ⟨b2, o2 + (k * 6 + 3), none⟩ = some (.slice aa1y nn1y cc1y) := hcell2 3 (by decide)
        replace y3 : w.cell? ⟨b2, o2 + k * 6 + 3, none⟩ = some (.slice aa1y nn1y cc1y) := by rw [← Nat.add_assoc] at y3; exact y3
        have y4 : w.cell? ⟨b2, o2 + (k * 6 + 4), none⟩ = some (.slice aa2y nn2y cc2y) := hcell2 4 (by decide)
        replace y4 : w.cell? ⟨b2, o2 + k * 6 + 4, none⟩ = some (.slice aa2y nn2y cc2y) := by rw [← Nat.add_assoc] at y4; exact y4
        have y5 : w.cell? ⟨b2, o2 + (k * 6 + 5), none⟩ = some (.slice aa3y nn3y cc3y) := hcell2 5 (by decide)
        replace y5 : w.cell? ⟨b2, o2 + k * 6 + 5, none⟩ = some (.slice aa3y nn3y cc3y) := by rw [← Nat.add_assoc] at y5; exact y5
        have HR : Hid ((kS rEntry).rd wr (.agg #[.int .i64 d1.kind, .int .i64 d1.author, .slice aa0x nn0x cc0x, .slice aa1x nn1x cc1x, .slice aa2x nn2x cc2x, .slice aa3x nn3x cc3x]) d1) := (kS rEntry).rd_below (rdEntry.2 ⟨_, _, _, _, _, _, _, _, _, _, _, _, rfl, i11, i12, h14, h16, h18, h20⟩) hb
        have HR2 : Hid ((kS rEntry).rd wr (.agg #[.int .i64 d2.kind, .int .i64 d2.author, .slice aa0y nn0y cc0y, .slice aa1y nn1y cc1y, .slice aa2y nn2y cc2y, .slice aa3y nn3y cc3y]) d2) := (kS rEntry).rd_below (rdEntry.2 ⟨_, _, _, _, _, _, _, _, _, _, _, _, rfl, i21, i22, h24, h26, h28, h30⟩) hb
        have gx0 := fun u => grow_cell (box_at x0 hb) u
        have gy0 := fun u => grow_cell (box_at y0 hb) u
        clear x0 y0
        have gx1 := fun u => grow_cell (box_at x1 hb) u
        have gy1 := fun u => grow_cell (box_at y1 hb) u
        clear x1 y1
        have gx2 := fun u => grow_cell (box_at x2 hb) u
        have gy2 := fun u => grow_cell (box_at y2 hb) u
        clear x2 y2
        have gx3 := fun u => grow_cell (box_at x3 hb) u
        have gy3 := fun u => grow_cell (box_at y3 hb) u
        clear x3 y3
        have gx4 := fun u => grow_cell (box_at x4 hb) u
        have gy4 := fun u => grow_cell (box_at y4 hb) u
        clear x4 y4
        have gx5 := fun u => grow_cell (box_at x5 hb) u
        have gy5 := fun u => grow_cell (box_at y5 hb) u
        clear x5 y5
        have z1 : (0 : Int) ≤ (k : Int) := by omega
        have z2 : (k : Int) < (n : Int) := by omega
        clear hcell hcell2 hcx hcx2 i11 i12 h14 h16 h18 h20 i21 i22 h24 h26 h28 h30
        cases q with
        | true =>
          go_wp2_with fail
          (refine wp_region_grow (by kernel_rfl) (by kernel_rfl) ?_; (repeat (go_big_quiet_step ((first | (go_at_call 23; refine calls_grow (laws_eqEntry _ _ d1 d2 _ ((kS rEntry).rd_below HR.out (grow_below _ _)) ((kS rEntry).rd_below HR2.out (grow_below _ _))) (fun e w' h => ⟨by rw [h.1, HQ'.out], h.2⟩)) | fail)))); refine wpQuiet_nil ?_; intro _ hw'; obtain ⟨uq, hw''⟩ := hw'; subst hw''; have hbq := grow_below wr uq; generalize grow wr uq = wq at hbq ⊢)
          go_wp2_with fail
          go_roundg (n - (k + 1))
          case measure => omega
          case rel =>
            refine ⟨k + 1, by omega, by go_num, fun j h h' hj => ?_, hb.trans (hbq.mono hb.size)⟩
            rcases Nat.lt_or_ge j k with hjk | hjk
            · exact hF.out j h h' hjk
            · obtain rfl : j = k := by omega
              exact of_decide_eq_true HQ.out
        | false =>
          have HR' : Hid (decide (l1 = l2) = false) := by
            refine decide_eq_false fun h => ?_
            have := of_decide_eq_false HQ.out
            subst h; exact this rfl
          go_wp2_with fail
          (refine wp_region_grow (by kernel_rfl) (by kernel_rfl) ?_; (repeat (go_big_quiet_step ((first | (go_at_call 23; refine calls_grow (laws_eqEntry _ _ d1 d2 _ ((kS rEntry).rd_below HR.out (grow_below _ _)) ((kS rEntry).rd_below HR2.out (grow_below _ _))) (fun e w' h => ⟨by rw [h.1, HQ'.out], h.2⟩)) | fail)))); refine wpQuiet_nil ?_; intro _ hw'; obtain ⟨uq, hw''⟩ := hw'; subst hw''; have hbq := grow_below wr uq; generalize grow wr uq = wq at hbq ⊢)
          go_wp2_with fail
          go_ret
          exact ⟨ret_bool (by first | (rw [HR'.out]; done) | (rw [HR'.out]; rfl) | exact HR'.out.symm), hb.trans (hbq.mono hb.size)⟩
      · obtain rfl : n = k := by omega
        have HR' : Hid (decide (l1 = l2) = true) := by
          refine decide_eq_true (List.ext_getElem (by rw [HE.out, HE2.out]) fun j h h' => hF.out j h h' (by rw [HE.out] at h; exact h))
        go_wp2_with fail
        go_ret
        exact ⟨ret_bool (by first | (rw [HR'.out]; done) | (rw [HR'.out]; rfl) | exact HR'.out.symm), hb⟩
  · have HR : Hid (decide (l1 = l2) = false) := decide_eq_false fun h => hn (by rw [← e, ← e2, h])
    clear e e2
    have hn1 : ¬ ((n : Int) = (n2 : Int)) := by omega
    go_enter Try.func127, Try.ntmps127
    go_wp2_with fail
    go_ret
    exact ⟨ret_bool (by first | (rw [HR.out]; done) | (rw [HR.out]; rfl) | exact HR.out.symm), Below.refl _ _⟩
theorem info_Entry : ∃ i, Try.prog.info? 44 = some i ∧ i.zero = some (.agg #[.int .i64 0, .int .i64 0, .slice none 0 0, .slice none 0 0, .slice none 0 0, .slice none 0 0]) ∧ i.size = 6 ∧ i.bytes ≤ 1000 := by
  have h : (Try.prog.info? 44).map (fun i => (i.zero, i.size, decide (i.bytes ≤ 1000))) = some (some (.agg #[.int .i64 0, .int .i64 0, .slice none 0 0, .slice none 0 0, .slice none 0 0, .slice none 0 0]), 6, true) := by kernel_rfl
  obtain ⟨i, hi, hz⟩ := Option.map_eq_some_iff.1 h
  simp only [Prod.mk.injEq] at hz
  exact ⟨i, hi, hz.1, hz.2.1, of_decide_eq_true hz.2.2⟩
set_option maxHeartbeats 4000000 in
theorem laws_toEntryS (v : Value) (ds : List EntryD) (w : World) (h : (kR 44 rEntry).rd w v ds) (hl : (szEntryS ds : Int) ≤ 1000000000) :
    Calls Try.prog 123 #[v] w fun e w' => ∃ v', e = .returned v' ∧ (kR 44 rEntry).own w' w.heap.size w'.heap.size v' ds ∧ Below w.heap.size w w' := by
  obtain ⟨a, n, c, rfl⟩ := RdR.shape h
  have e := RdR.len h
  have HE := Lib.hid e
  have HL := Lib.hid hl
  unfold szEntryS at hl
  have hn : n ≤ 1000000000 := by omega
  obtain ⟨k1, k2⟩ := RdR.capMax h
  unfold maxLen at k2
  obtain ⟨i, hi, hz, hsz, hby⟩ := info_Entry
  have hmk : ∀ u, (Instr.makeSlice 34 (.int .i64 (n : Int)) (.int .i64 (n : Int))).run Try.prog u = .ok (.slice (some ⟨u.heap.size, 0, none⟩) n n) (u.alloc (.cells (madeCells #[.int .i64 0, .int .i64 0, .slice none 0 0, .slice none 0 0, .slice none 0 0, .slice none 0 0] (n * 6)) 44)) := fun u => by
    have := run_make (P := Try.prog) u 34 44 i (.agg #[.int .i64 0, .int .i64 0, .slice none 0 0, .slice none 0 0, .slice none 0 0, .slice none 0 0]) Try.underlying34 hi hz .i64 .i64 n n (by omega) (Int.le_refl _) (by
      have h1 : i.bytes * n ≤ 1000 * 1000000000 := Nat.mul_le_mul hby hn
      have h2 : ((i.bytes * n : Nat) : Int) ≤ 281474976710656 := by omega
      rwa [Int.natCast_mul] at h2) (by omega)
    simpa [Value.cells, hsz] using this
  have h0 : Hid ((w.alloc (.cells (madeCells #[.int .i64 0, .int .i64 0, .slice none 0 0, .slice none 0 0, .slice none 0 0, .slice none 0 0] (n * 6)) 44)).ownsRow w.heap.size 44 6 (.slice (some ⟨w.heap.size, 0, none⟩) n n) n (List.replicate n [.int .i64 0, .int .i64 0, .slice none 0 0, .slice none 0 0, .slice none 0 0, .slice none 0 0]).flatten) := by
    have h1 := World.ownsRow_lit (e := 44) (size := 6) w (madeCells #[.int .i64 0, .int .i64 0, .slice none 0 0, .slice none 0 0, .slice none 0 0, .slice none 0 0] (n * 6)) n (Nat.le_refl _) (by unfold maxLen; omega) (size_madeCells _ _)
    rw [show (madeCells #[.int .i64 0, .int .i64 0, .slice none 0 0, .slice none 0 0, .slice none 0 0, .slice none 0 0] (n * 6)).toList = (List.replicate n [.int .i64 0, .int .i64 0, .slice none 0 0, .slice none 0 0, .slice none 0 0, .slice none 0 0]).flatten from flat_made [.int .i64 0, .int .i64 0, .slice none 0 0, .slice none 0 0, .slice none 0 0, .slice none 0 0] n (by decide)] at h1
    exact h1
  have H : Hid (RdR rEntry w (.slice a n c) ds) := h; clear h e hl hi hz hsz hby i
  go_enter Try.func123, Try.ntmps123
  go_wp2_with fail
  go_loopg [4] n (fun g i wr => ∃ (k : Nat) (css : List (List Value)) (los his : Nat → Nat), k + g = n ∧ i = .int .i64 k ∧ Hid (css.length = n) ∧ Hid (∀ c ∈ css, c.length = 6) ∧ wr.ownsRow w.heap.size 44 6 (.slice (some ⟨w.heap.size, 0, none⟩) n n) n css.flatten ∧
    Hid (∀ i (h1 : i < css.length) (h2 : i < ds.length), i < k → rEntry.own wr (los i) (his i) css[i] ds[i] ∧ w.heap.size < los i ∧ los i ≤ his i ∧ his i ≤ wr.heap.size) ∧ Hid (∀ i j, i < j → j < k → his i ≤ los j) ∧ Below w.heap.size w wr)
  case atStart => exact ⟨0, List.replicate n [.int .i64 0, .int .i64 0, .slice none 0 0, .slice none 0 0, .slice none 0 0, .slice none 0 0], fun _ => 0, fun _ => 0, by omega, rfl, by unfold Hid; simp, fun c hc => by rw [List.eq_of_mem_replicate hc]; rfl, h0.out, fun i _ _ h => by omega, fun i j _ h => by omega, by (repeat (first | exact Below.refl _ _ | assumption | refine Below.drew ?_ | refine Below.alloc ?_ (by first | (simp; done) | (simp; omega)) _ | refine Below.setCell ?_ (by first | (simp; done) | (simp; omega)) _))⟩
  case round =>
    obtain ⟨k, css, los, his, hkg, rfl, hvl, hcl, hO, hel, hd, hG⟩ := hrel
    clear hmk
    have hgs : w.heap.size < wr.heap.size := (hO.lt w.heap.size rfl).2
    by_cases hlt : k < n
    · have HK : Hid (k < ds.length) := by unfold Hid; rw [HE.out]; exact hlt
      have HC : Hid (k < css.length) := by unfold Hid; rw [hvl.out]; exact hlt
      obtain ⟨b, o, rfl, hcx⟩ := RdR.at_ H.out (by omega)
      obtain ⟨us, hcell, hrd⟩ := hcx k HK.out
      have HLk : Hid ((szEntry (ds[k]'HK.out) : Int) ≤ 1000000000) := by
        have h1 := sumEntryS_succ (f := szEntry) HK.out
        have h2 := sumEntryS_le (f := szEntry) (ds := ds) (k := k + 1)
        have h3 := HL.out
        unfold szEntryS at h3
        unfold Hid; omega
      obtain ⟨d, hdk⟩ : ∃ d, ds[k]'HK.out = d := ⟨_, rfl⟩
      have HDK := Lib.hid hdk
      rw [hdk] at hrd HLk
      clear hdk
      obtain ⟨_, rfl, i31, ⟨_, rfl, i32, ⟨v33, _, rfl, h34, ⟨v35, _, rfl, h36, ⟨v37, _, rfl, h38, ⟨v39, _, rfl, h40, rfl⟩⟩⟩⟩⟩⟩ := hrd
      obtain ⟨aa0x, nn0x, cc0x, rfl⟩ := sInts.sl h34
      obtain ⟨aa1x, nn1x, cc1x, rfl⟩ := sInts.sl h36
      obtain ⟨aa2x, nn2x, cc2x, rfl⟩ := sInts.sl h38
      obtain ⟨aa3x, nn3x, cc3x, rfl⟩ := sInts.sl h40
      have x0 : w.cell? ⟨b, o + (k * 6 + 0), none⟩ = some (.int .i64 d.kind) := hcell 0 (by decide)
      replace x0 : w.cell? ⟨b, o + k * 6, none⟩ = some (.int .i64 d.kind) := by rw [Nat.add_zero] at x0; exact x0
      have x1 : w.cell? ⟨b, o + (k * 6 + 1), none⟩ = some (.int .i64 d.author) := hcell 1 (by decide)
      replace x1 : w.cell? ⟨b, o + k * 6 + 1, none⟩ = some (.int .i64 d.author) := by rw [← Nat.add_assoc] at x1; exact x1
      have x2 : w.cell? ⟨b, o + (k * 6 + 2), none⟩ = some (.slice aa0x nn0x cc0x) := hcell 2 (by decide)
      replace x2 : w.cell? ⟨b, o + k * 6 + 2, none⟩ = some (.slice aa0x nn0x cc0x) := by rw [← Nat.add_assoc] at x2; exact x2
      have x3 : w.cell? ⟨b, o + (k * 6 + 3), none⟩ = some (.slice aa1x nn1x cc1x) := hcell 3 (by decide)
      replace x3 : w.cell? ⟨b, o + k * 6 + 3, none⟩ = some (.slice aa1x nn1x cc1x) := by rw [← Nat.add_assoc] at x3; exact x3
      have x4 : w.cell? ⟨b, o + (k * 6 + 4), none⟩ = some (.slice aa2x nn2x cc2x) := hcell 4 (by decide)
      replace x4 : w.cell? ⟨b, o + k * 6 + 4, none⟩ = some (.slice aa2x nn2x cc2x) := by rw [← Nat.add_assoc] at x4; exact x4
      have x5 : w.cell? ⟨b, o + (k * 6 + 5), none⟩ = some (.slice aa3x nn3x cc3x) := hcell 5 (by decide)
      replace x5 : w.cell? ⟨b, o + k * 6 + 5, none⟩ = some (.slice aa3x nn3x cc3x) := by rw [← Nat.add_assoc] at x5; exact x5
      have HR : Hid ((kS rEntry).rd wr (.agg #[.int .i64 d.kind, .int .i64 d.author, .slice aa0x nn0x cc0x, .slice aa1x nn1x cc1x, .slice aa2x nn2x cc2x, .slice aa3x nn3x cc3x]) d) := (kS rEntry).rd_below (rdEntry.2 ⟨_, _, _, _, _, _, _, _, _, _, _, _, rfl, i31, i32, h34, h36, h38, h40⟩) hG
      replace x0 := box_at x0 hG
      replace x1 := box_at x1 hG
      replace x2 := box_at x2 hG
      replace x3 := box_at x3 hG
      replace x4 := box_at x4 hG
      replace x5 := box_at x5 hG
      clear hcell hcx i31 i32 h34 h36 h38 h40
      have HO := Lib.hid hO; clear hO
      have HG := Lib.hid hG; clear hG
      go_wp2_with fail
      refine (laws_toEntry _ d _ HR.out HLk.out).mono ?_
      rintro e w1 ⟨v', rfl, X, hb1⟩
      obtain ⟨_, rfl, X⟩ := X
      obtain ⟨_, rfl, i41, ⟨_, rfl, i42, ⟨v43, _, rfl, h44, ⟨v45, _, rfl, h46, ⟨v47, _, rfl, h48, ⟨v49, _, rfl, h50, rfl⟩⟩⟩⟩⟩⟩ := rEntry.own_rd X
      clear i41
      clear i42
      obtain ⟨ea_n0, en_n0, ec_n0, rfl⟩ := sInts.sl h44
      clear h44
      obtain ⟨ea_n1, en_n1, ec_n1, rfl⟩ := sInts.sl h46
      clear h46
      obtain ⟨ea_n2, en_n2, ec_n2, rfl⟩ := sInts.sl h48
      clear h48
      obtain ⟨ea_n3, en_n3, ec_n3, rfl⟩ := sInts.sl h50
      clear h50
      have HX := Lib.hid X; clear X
      have HO1 : w1.ownsRow w.heap.size 44 6 (.slice (some ⟨w.heap.size, 0, none⟩) n n) n css.flatten := ownsRow_frame HO.out fun g hg => hb1.block g (HO.out.lt g hg).2
      have hbd : k * 6 + 6 ≤ n * 6 := by have := Nat.mul_le_mul_right 6 (show k + 1 ≤ n from hlt); rw [Nat.succ_mul] at this; exact this
      have f0 : w1.frozen? ⟨w.heap.size, k * 6, none⟩ = false := World.ownsRow.frozenAt HO1 _
      obtain ⟨y0, hy0⟩ : ∃ y, w1.cell? ⟨w.heap.size, k * 6, none⟩ = some y := ⟨_, (World.ownsRow.cellAt HO1 (k * 6) (by omega)).trans (List.getElem?_eq_getElem (by rw [HO1.1]; omega))⟩
      have f1 : w1.frozen? ⟨w.heap.size, k * 6 + 1, none⟩ = false := World.ownsRow.frozenAt HO1 _
      obtain ⟨y1, hy1⟩ : ∃ y, w1.cell? ⟨w.heap.size, k * 6 + 1, none⟩ = some y := ⟨_, (World.ownsRow.cellAt HO1 (k * 6 + 1) (by omega)).trans (List.getElem?_eq_getElem (by rw [HO1.1]; omega))⟩
      have f2 : w1.frozen? ⟨w.heap.size, k * 6 + 2, none⟩ = false := World.ownsRow.frozenAt HO1 _
      obtain ⟨y2, hy2⟩ : ∃ y, w1.cell? ⟨w.heap.size, k * 6 + 2, none⟩ = some y := ⟨_, (World.ownsRow.cellAt HO1 (k * 6 + 2) (by omega)).trans (List.getElem?_eq_getElem (by rw [HO1.1]; omega))⟩
      have f3 : w1.frozen? ⟨w.heap.size, k * 6 + 3, none⟩ = false := World.ownsRow.frozenAt HO1 _
      obtain ⟨y3, hy3⟩ : ∃ y, w1.cell? ⟨w.heap.size, k * 6 + 3, none⟩ = some y := ⟨_, (World.ownsRow.cellAt HO1 (k * 6 + 3) (by omega)).trans (List.getElem?_eq_getElem (by rw [HO1.1]; omega))⟩
      have f4 : w1.frozen? ⟨w.heap.size, k * 6 + 4, none⟩ = false := World.ownsRow.frozenAt HO1 _
      obtain ⟨y4, hy4⟩ : ∃ y, w1.cell? ⟨w.heap.size, k * 6 + 4, none⟩ = some y := ⟨_, (World.ownsRow.cellAt HO1 (k * 6 + 4) (by omega)).trans (List.getElem?_eq_getElem (by rw [HO1.1]; omega))⟩
      have f5 : w1.frozen? ⟨w.heap.size, k * 6 + 5, none⟩ = false := World.ownsRow.frozenAt HO1 _
      obtain ⟨y5, hy5⟩ : ∃ y, w1.cell? ⟨w.heap.size, k * 6 + 5, none⟩ = some y := ⟨_, (World.ownsRow.cellAt HO1 (k * 6 + 5) (by omega)).trans (List.getElem?_eq_getElem (by rw [HO1.1]; omega))⟩
      have t0 := (World.ownsRow.stored HO1 (k * 6) (.int .i64 d.kind)).1
      have t1 := (World.ownsRow.stored t0 (k * 6 + 1) (.int .i64 d.author)).1
      have t2 := (World.ownsRow.stored t1 (k * 6 + 2) (.slice ea_n0 en_n0 ec_n0)).1
      have t3 := (World.ownsRow.stored t2 (k * 6 + 3) (.slice ea_n1 en_n1 ec_n1)).1
      have t4 := (World.ownsRow.stored t3 (k * 6 + 4) (.slice ea_n2 en_n2 ec_n2)).1
      have t5 := (World.ownsRow.stored t4 (k * 6 + 5) (.slice ea_n3 en_n3 ec_n3)).1
      have hfl := flat_sets_all hcl.out (k := k) HC.out [.int .i64 d.kind, .int .i64 d.author, .slice ea_n0 en_n0 ec_n0, .slice ea_n1 en_n1 ec_n1, .slice ea_n2 en_n2 ec_n2, .slice ea_n3 en_n3 ec_n3] rfl
      have HS := Lib.hid t5; clear t0 t1 t2 t3 t4 t5
      have HFL := Lib.hid hfl; clear hfl
      have hbs := hb1.size
      have HB1 := Lib.hid hb1; clear hb1 HO1
      go_wp2_with fail
      go_roundg (n - (k + 1))
      case measure => omega
      case rel =>
        obtain ⟨V, hV⟩ : ∃ V, V = ((((((w1.setCell ⟨w.heap.size, k * 6, none⟩ (.int .i64 d.kind)).setCell ⟨w.heap.size, k * 6 + 1, none⟩ (.int .i64 d.author)).setCell ⟨w.heap.size, k * 6 + 2, none⟩ (.slice ea_n0 en_n0 ec_n0)).setCell ⟨w.heap.size, k * 6 + 3, none⟩ (.slice ea_n1 en_n1 ec_n1)).setCell ⟨w.heap.size, k * 6 + 4, none⟩ (.slice ea_n2 en_n2 ec_n2)).setCell ⟨w.heap.size, k * 6 + 5, none⟩ (.slice ea_n3 en_n3 ec_n3)) := ⟨_, rfl⟩
        rw [← hV]
        have hwi : Within w.heap.size (w.heap.size + 1) w1 V := by rw [hV]; exact ((((((Within.refl _ _ _ |>.setCell (by omega) (by omega) _ _) |>.setCell (by omega) (by omega) _ _) |>.setCell (by omega) (by omega) _ _) |>.setCell (by omega) (by omega) _ _) |>.setCell (by omega) (by omega) _ _) |>.setCell (by omega) (by omega) _ _)
        have hVs : V.heap.size = w1.heap.size := by rw [hV]; simp only [size_setC]
        have HS2 : V.ownsRow w.heap.size 44 6 (.slice (some ⟨w.heap.size, 0, none⟩) n n) n (css.set k [.int .i64 d.kind, .int .i64 d.author, .slice ea_n0 en_n0 ec_n0, .slice ea_n1 en_n1 ec_n1, .slice ea_n2 en_n2 ec_n2, .slice ea_n3 en_n3 ec_n3]).flatten := by
          rw [hV, ← HFL.out]; exact HS.out
        clear hV
        refine ⟨k + 1, css.set k [.int .i64 d.kind, .int .i64 d.author, .slice ea_n0 en_n0 ec_n0, .slice ea_n1 en_n1 ec_n1, .slice ea_n2 en_n2 ec_n2, .slice ea_n3 en_n3 ec_n3], fun i => if i = k then wr.heap.size else los i, fun i => if i = k then w1.heap.size else his i, by omega, by go_num, by have := hvl.out; unfold Hid; simpa using this, fun c hc => ?_, HS2, fun i h1 h2 h3 => ?_, fun i j hij hjk => ?_, ?_⟩
        · rcases List.mem_or_eq_of_mem_set hc with h | rfl
          · exact hcl.out _ h
          · rfl
        · rcases Nat.lt_or_ge i k with hik | hik
          · obtain ⟨q1, q2, q3, q4⟩ := hel.out i (by simpa using h1) h2 hik
            dsimp only
            rw [if_neg (by omega), if_neg (by omega)]
            refine ⟨?_, q2, q3, by omega⟩
            rw [List.getElem_set_ne (by omega)]
            exact RowK.kept (RowK.next q1 HB1.out) hwi (.inr (by omega))
          · obtain rfl : i = k := by omega
            dsimp only
            rw [if_pos rfl, if_pos rfl]
            refine ⟨?_, hgs, hbs, by omega⟩
            rw [List.getElem_set_self, HDK.out]
            exact RowK.kept HX.out hwi (.inr (by omega))
        · dsimp only
          by_cases hj : j = k
          · rw [if_neg (by omega), if_pos hj]
            exact (hel.out i (by have := hvl.out; omega) (by have := HE.out; omega) (by omega)).2.2.2
          · rw [if_neg (by omega), if_neg hj]
            exact hd.out i j hij (by omega)
        · exact (HG.out.trans (HB1.out.mono (by omega))).trans (hwi.below (by omega) (Nat.le_refl _))
    · obtain rfl : n = k := by omega
      have HO := Lib.hid hO; clear hO
      go_wp2_with fail
      go_ret
      refine ⟨_, rfl, ⟨css, los, his, by rw [hvl.out, HE.out], by rw [HE.out]; exact HO.out, fun g hg => ?_, fun i h1 h2 => ?_, fun i j hi hj hij => ?_⟩, hG⟩
      · cases hg
        refine ⟨hgs, fun i hi => .inl ?_⟩
        exact (hel.out i (by rw [hvl.out]; rw [HE.out] at hi; exact hi) hi (by rw [HE.out] at hi; exact hi)).2.1
      · obtain ⟨q1, q2, q3, q4⟩ := hel.out i h1 h2 (by rw [hvl.out] at h1; exact h1)
        exact ⟨q1, by omega, q4⟩
      · rw [HE.out] at hi hj
        rcases Nat.lt_or_ge i j with h | h
        · exact .inl (hd.out i j h hj)
        · exact .inr (hd.out j i (by omega) hi)
/-- an element in a row, with marks from k0 on; a slice of them -/
def fmEntry (k0 : Nat) (d : EntryD) : EntryD := ⟨((k0 : Nat) : Int), ((k0 + 1 : Nat) : Int), mkI (k0 + 1 + 1) d.data, ⟨mkI (k0 + 1 + 1 + d.data.length) d.sign.c, mkI (k0 + 1 + 1 + d.data.length + d.sign.c.length) d.sign.h, mkI (k0 + 1 + 1 + d.data.length + d.sign.c.length + d.sign.h.length) d.sign.r⟩⟩
def mkEntryS : Nat → List EntryD → List EntryD
  | _, [] => []
  | k0, d :: ds => fmEntry k0 d :: mkEntryS (k0 + fcEntry d) ds
theorem mkEntryS_length : ∀ {k0 : Nat} {ds : List EntryD}, (mkEntryS k0 ds).length = ds.length
  | _, [] => rfl
  | k0, d :: ds => by rw [mkEntryS, List.length_cons, List.length_cons, mkEntryS_length]
theorem mkEntryS_at : ∀ {k0 i : Nat} {ds : List EntryD} (h : i < ds.length) (h' : i < (mkEntryS k0 ds).length), (mkEntryS k0 ds)[i] = fmEntry (k0 + ((ds.take i).map fcEntry).sum) ds[i]
  | _, _, [], h, _ => by simp at h
  | k0, 0, d :: ds, _, _ => by simp [mkEntryS]
  | k0, i + 1, d :: ds, h, h' => by
    have := mkEntryS_at (k0 := k0 + fcEntry d) (i := i) (ds := ds) (by simpa using h) (by rw [mkEntryS_length]; simpa using h)
    simp only [mkEntryS, List.getElem_cons_succ, List.take_succ_cons, List.map_cons, List.sum_cons]
    rw [this, Nat.add_assoc]
theorem fcEntry_end (k0 : Nat) (d : EntryD) : k0 + fcEntry d = k0 + 1 + 1 + d.data.length + d.sign.c.length + d.sign.h.length + d.sign.r.length := by
  unfold fcEntry; unfold cnEntry; unfold cnProof; omega
set_option maxHeartbeats 8000000 in
theorem laws_markEntryS (lo hi : Nat) (v : Value) (k0 : Nat) (ds : List EntryD) (w : World) (h : (kR 44 rEntry).own w lo hi v ds) (hk : k0 + cnEntryS ds ≤ 9223372036854775806) (hhi : hi ≤ w.heap.size) :
    Calls Try.prog 129 #[v, .int .i64 k0] w fun e w' => e = .returned (.int .i64 (k0 + cnEntryS ds : Nat)) ∧ (kR 44 rEntry).own w' lo hi v (mkEntryS k0 ds) ∧ Within lo hi w w' := by
  obtain ⟨a, n, c, rfl⟩ := RdR.shape (OwnR.rd h)
  have e := RdR.len (OwnR.rd h)
  have HE := Lib.hid e
  obtain ⟨k1, k2⟩ := RdR.capMax (OwnR.rd h)
  unfold maxLen at k2
  obtain ⟨css0, los, his, hl0, hO0, hg0, hel0, hd0⟩ := h
  have hu0 := OwnR.lens (e := 44) hl0 hel0
  rw [e] at hl0 hO0 hg0 hd0
  have HK := Lib.hid hk; clear hk
  have HG0 := Lib.hid hg0; clear hg0
  have HD := Lib.hid hd0; clear hd0
  have HLB : Hid (∀ i, i < n → lo ≤ los i ∧ his i ≤ hi) := fun i hi => (hel0 i (by omega) (by omega)).2
  have HO0 := Lib.hid hO0; clear hO0
  have HL0 := Lib.hid hl0
  have HU0 : Hid (∀ c ∈ css0, c.length = 6) := hu0
  have HEL0 : Hid (∀ i (h1 : i < css0.length) (h2 : i < ds.length), rEntry.own w (los i) (his i) css0[i] (if i < 0 then fmEntry (k0 + ((ds.take i).map fcEntry).sum) ds[i] else ds[i])) := fun i h1 h2 => (hel0 i h1 h2).1
  clear hel0 hu0 hl0 e
  go_enter Try.func129, Try.ntmps129
  go_wp2_with fail
  go_loopg [1, 5] n (fun g q i wr => ∃ (k : Nat) (css : List (List Value)), k + g = n ∧ i = .int .i64 k ∧ q = .int .i64 (k0 + ((ds.take k).map fcEntry).sum : Nat) ∧ Hid (css.length = n) ∧ Hid (∀ c ∈ css, c.length = 6) ∧ wr.ownsRow lo 44 6 (.slice a n c) n css.flatten ∧
    Hid (∀ i (h1 : i < css.length) (h2 : i < ds.length), rEntry.own wr (los i) (his i) css[i] (if i < k then fmEntry (k0 + ((ds.take i).map fcEntry).sum) ds[i] else ds[i])) ∧ Within lo hi w wr)
  case atStart => exact ⟨0, css0, by omega, rfl, rfl, HL0.out, HU0.out, HO0.out, HEL0.out, Within.refl _ _ _⟩
  case round =>
    obtain ⟨k, css, hkg, rfl, rfl, hvl, hcl, hO, hel, hW⟩ := hrel
    by_cases hlt : k < n
    · have HK1 : Hid (k < ds.length) := by unfold Hid; rw [HE.out]; exact hlt
      have HC : Hid (k < css.length) := by unfold Hid; rw [hvl.out]; exact hlt
      have hnb : (0 : Nat) < n := by omega
      obtain ⟨g, rfl⟩ : ∃ g, a = some ⟨g, 0, none⟩ := by
        rcases hO.2 with ⟨h1, h2⟩ | ⟨g, cap, cur, h1, _⟩
        · omega
        · cases h1; exact ⟨_, rfl⟩
      have hgb := HG0.out g rfl
      have hgd : g < los k ∨ his k ≤ g := hgb.2 k hlt
      have hgi : g < hi := hgb.1
      have hgl : lo ≤ g := (hO.lt g rfl).1
      have hgs : g < wr.heap.size := (hO.lt g rfl).2
      have hlb := HLB.out k hlt
      have hrow := hel.out k HC.out HK1.out
      rw [if_neg (by omega)] at hrow
      have hT := sumEntryS_succ (f := fcEntry) HK1.out
      have hT2 := sumEntryS_le (f := fcEntry) (ds := ds) (k := k + 1)
      obtain ⟨d, hdk⟩ : ∃ d, ds[k]'HK1.out = d := ⟨_, rfl⟩
      have HDK := Lib.hid hdk
      obtain ⟨row, hcr⟩ : ∃ r, css[k]'HC.out = r := ⟨_, rfl⟩
      rw [hdk, hcr] at hrow
      rw [hdk] at hT
      have hset : css.set k row = css := by rw [← hcr]; exact List.set_getElem_self _
      rw [← hset] at hO
      obtain ⟨kk, hkk⟩ : ∃ kk, k0 + ((ds.take k).map fcEntry).sum = kk := ⟨_, rfl⟩
      have HKK := Lib.hid hkk
      have hkb : kk + fcEntry d ≤ 9223372036854775806 := by have := HK.out; unfold cnEntryS at this; omega
      rw [fcEntry_end] at hkb
      rw [hkk]
      have HT : Hid (k0 + ((ds.take (k + 1)).map fcEntry).sum = kk + fcEntry d) := by unfold Hid; omega
      clear hT hT2 hdk hcr hset hkk hgb
      obtain ⟨_, rfl, i_kind, ⟨_, rfl, i_author, ⟨_, _, l_data, h_data, m_data, t_data, rfl, o_data, ⟨_, _, l_sign_c, h_sign_c, m_sign_c, t_sign_c, rfl, o_sign_c, ⟨_, _, l_sign_h, h_sign_h, m_sign_h, t_sign_h, rfl, o_sign_h, ⟨_, _, l_sign_r, h_sign_r, m_sign_r, t_sign_r, rfl, o_sign_r, rfl, q_sign_r, r_sign_r, s_sign_r⟩, q_sign_h, r_sign_h, s_sign_h⟩, q_sign_c, r_sign_c, s_sign_c⟩, q_data, r_data, s_data⟩⟩⟩ := hrow
      obtain ⟨ea_0, en_0, ec_0, rfl⟩ := sInts.sl (sInts.own_rd o_data)
      have O_0 := Lib.hid o_data; clear o_data
      obtain ⟨ea_1, en_1, ec_1, rfl⟩ := sInts.sl (sInts.own_rd o_sign_c)
      have O_1 := Lib.hid o_sign_c; clear o_sign_c
      obtain ⟨ea_2, en_2, ec_2, rfl⟩ := sInts.sl (sInts.own_rd o_sign_h)
      have O_2 := Lib.hid o_sign_h; clear o_sign_h
      obtain ⟨ea_3, en_3, ec_3, rfl⟩ := sInts.sl (sInts.own_rd o_sign_r)
      have O_3 := Lib.hid o_sign_r; clear o_sign_r
      clear i_kind
      clear i_author
      have RO0 := Lib.hid hO; clear hO
      have hbd : k * 6 + 6 ≤ n * 6 := by have := Nat.mul_le_mul_right 6 (show k + 1 ≤ n from hlt); rw [Nat.succ_mul] at this; exact this
      have hws := hW.size
      have GW0 := Lib.hid hW; clear hW
      have OT0 : Hid (∀ i (h1 : i < css.length) (h2 : i < ds.length), i ≠ k → rEntry.own wr (los i) (his i) css[i] (if i < k then fmEntry (k0 + ((ds.take i).map fcEntry).sum) ds[i] else ds[i])) := fun i h1 h2 _ => hel.out i h1 h2
      clear hel
      have f0 : wr.frozen? ⟨g, k * 6, none⟩ = false := World.ownsRow.frozenAt RO0.out _
      have y0 : wr.cell? ⟨g, k * 6, none⟩ = some (.int .i64 d.kind) := by have q := row_cell RO0.out hcl.out hvl.out hlt rfl (j := 0) (by omega); rw [Nat.add_zero] at q; exact q
      have f1 : wr.frozen? ⟨g, k * 6 + 1, none⟩ = false := World.ownsRow.frozenAt RO0.out _
      have y1 : wr.cell? ⟨g, k * 6 + 1, none⟩ = some (.int .i64 d.author) := by have q := row_cell RO0.out hcl.out hvl.out hlt rfl (j := 1) (by omega); exact q
      have f2 : wr.frozen? ⟨g, k * 6 + 2, none⟩ = false := World.ownsRow.frozenAt RO0.out _
      have y2 : wr.cell? ⟨g, k * 6 + 2, none⟩ = some (.slice ea_0 en_0 ec_0) := by have q := row_cell RO0.out hcl.out hvl.out hlt rfl (j := 2) (by omega); exact q
      have f3 : wr.frozen? ⟨g, k * 6 + 3, none⟩ = false := World.ownsRow.frozenAt RO0.out _
      have y3 : wr.cell? ⟨g, k * 6 + 3, none⟩ = some (.slice ea_1 en_1 ec_1) := by have q := row_cell RO0.out hcl.out hvl.out hlt rfl (j := 3) (by omega); exact q
      have f4 : wr.frozen? ⟨g, k * 6 + 4, none⟩ = false := World.ownsRow.frozenAt RO0.out _
      have y4 : wr.cell? ⟨g, k * 6 + 4, none⟩ = some (.slice ea_2 en_2 ec_2) := by have q := row_cell RO0.out hcl.out hvl.out hlt rfl (j := 4) (by omega); exact q
      have f5 : wr.frozen? ⟨g, k * 6 + 5, none⟩ = false := World.ownsRow.frozenAt RO0.out _
      have y5 : wr.cell? ⟨g, k * 6 + 5, none⟩ = some (.slice ea_3 en_3 ec_3) := by have q := row_cell RO0.out hcl.out hvl.out hlt rfl (j := 5) (by omega); exact q
      obtain ⟨q1, hqq1⟩ : ∃ q : Nat, q = kk + 1 := ⟨_, rfl⟩
      have eq1 : (kk : Int) + 1 = (q1 : Int) := by omega
      have Eq1 := Lib.hid hqq1; clear hqq1
      obtain ⟨q2, hqq2⟩ : ∃ q : Nat, q = q1 + 1 := ⟨_, rfl⟩
      have eq2 : (q1 : Int) + 1 = (q2 : Int) := by omega
      have Eq2 := Lib.hid hqq2; clear hqq2
      go_wp2_with fail
      obtain ⟨V0, hV⟩ : ∃ V, V = ((wr.setCell ⟨g, k * 6, none⟩ (.int .i64 (kk : Nat))).setCell ⟨g, k * 6 + 1, none⟩ (.int .i64 (q1 : Nat))) := ⟨_, rfl⟩
      rw [← hV]
      have RO1 : Hid (V0.ownsRow lo 44 6 (.slice (some ⟨g, 0, none⟩) n c) n (css.set k [.int .i64 (kk : Nat), .int .i64 (q1 : Nat), .slice ea_0 en_0 ec_0, .slice ea_1 en_1 ec_1, .slice ea_2 en_2 ec_2, .slice ea_3 en_3 ec_3]).flatten) := by unfold Hid; rw [hV]; exact (row_store (row_store RO0.out hcl.out hvl.out hlt rfl (j := 0) (by omega) (.int .i64 (kk : Nat))) hcl.out hvl.out hlt rfl (j := 1) (by omega) (.int .i64 (q1 : Nat)))
      have gw : Within g (g + 1) wr V0 := by rw [hV]; exact ((Within.refl _ _ _ |>.setCell (by omega) (by omega) _ _) |>.setCell (by omega) (by omega) _ _)
      have us1 := gw.size
      clear hV
      replace O_0 := Lib.hid (Kind.kept (K := sInts.toKind) O_0.out gw (by omega))
      replace O_1 := Lib.hid (Kind.kept (K := sInts.toKind) O_1.out gw (by omega))
      replace O_2 := Lib.hid (Kind.kept (K := sInts.toKind) O_2.out gw (by omega))
      replace O_3 := Lib.hid (Kind.kept (K := sInts.toKind) O_3.out gw (by omega))
      have GW1 := Lib.hid (GW0.out.trans (gw.mono (by omega) (by omega)))
      have OT1 : Hid (∀ i (h1 : i < css.length) (h2 : i < ds.length), i ≠ k → rEntry.own V0 (los i) (his i) css[i] (if i < k then fmEntry (k0 + ((ds.take i).map fcEntry).sum) ds[i] else ds[i])) := fun i h1 h2 h3 => by
        have hgi2 := (HG0.out g rfl).2 i (by have := HE.out; omega)
        exact RowK.kept (OT0.out i h1 h2 h3) gw (by omega)
      clear gw
      clear f0 y0 f1 y1 f2 y2 f3 y3 f4 y4 f5 y5
      refine (laws_markI l_data h_data _ q2 d.data V0 O_0.out (by have := Eq1.out; have := Eq2.out; omega) (by omega)).mono ?_
      rintro e w2 ⟨rfl, X, gw⟩
      have us2 := gw.size
      have RO2 : Hid (w2.ownsRow lo 44 6 (.slice (some ⟨g, 0, none⟩) n c) n (css.set k [.int .i64 (kk : Nat), .int .i64 (q1 : Nat), .slice ea_0 en_0 ec_0, .slice ea_1 en_1 ec_1, .slice ea_2 en_2 ec_2, .slice ea_3 en_3 ec_3]).flatten) := ownsRow_frame RO1.out fun g2 hg2 => by cases hg2; exact gw.block g (by omega) (by omega)
      replace O_1 := Lib.hid (Kind.kept (K := sInts.toKind) O_1.out gw (by omega))
      replace O_2 := Lib.hid (Kind.kept (K := sInts.toKind) O_2.out gw (by omega))
      replace O_3 := Lib.hid (Kind.kept (K := sInts.toKind) O_3.out gw (by omega))
      have GW2 := Lib.hid (GW1.out.trans (gw.mono (by omega) (by omega)))
      have OT2 : Hid (∀ i (h1 : i < css.length) (h2 : i < ds.length), i ≠ k → rEntry.own w2 (los i) (his i) css[i] (if i < k then fmEntry (k0 + ((ds.take i).map fcEntry).sum) ds[i] else ds[i])) := fun i h1 h2 h3 => by
        have hdd := HD.out i k (by have := HE.out; omega) hlt h3
        exact RowK.kept (OT1.out i h1 h2 h3) gw (by omega)
      clear gw
      replace O_0 := Lib.hid X; clear X
      obtain ⟨q3, hqq3⟩ : ∃ q : Nat, q2 + d.data.length = q := ⟨_, rfl⟩
      rw [hqq3]
      have Eq3 := Lib.hid hqq3; clear hqq3
      have f0 : w2.frozen? ⟨g, k * 6, none⟩ = false := World.ownsRow.frozenAt RO2.out _
      have y0 : w2.cell? ⟨g, k * 6, none⟩ = some (.int .i64 (kk : Nat)) := by have q := row_cell RO2.out hcl.out hvl.out hlt rfl (j := 0) (by omega); rw [Nat.add_zero] at q; exact q
      have f1 : w2.frozen? ⟨g, k * 6 + 1, none⟩ = false := World.ownsRow.frozenAt RO2.out _
      have y1 : w2.cell? ⟨g, k * 6 + 1, none⟩ = some (.int .i64 (q1 : Nat)) := by have q := row_cell RO2.out hcl.out hvl.out hlt rfl (j := 1) (by omega); exact q
      have f2 : w2.frozen? ⟨g, k * 6 + 2, none⟩ = false := World.ownsRow.frozenAt RO2.out _
      have y2 : w2.cell? ⟨g, k * 6 + 2, none⟩ = some (.slice ea_0 en_0 ec_0) := by have q := row_cell RO2.out hcl.out hvl.out hlt rfl (j := 2) (by omega); exact q
      have f3 : w2.frozen? ⟨g, k * 6 + 3, none⟩ = false := World.ownsRow.frozenAt RO2.out _
      have y3 : w2.cell? ⟨g, k * 6 + 3, none⟩ = some (.slice ea_1 en_1 ec_1) := by have q := row_cell RO2.out hcl.out hvl.out hlt rfl (j := 3) (by omega); exact q
      have f4 : w2.frozen? ⟨g, k * 6 + 4, none⟩ = false := World.ownsRow.frozenAt RO2.out _
      have y4 : w2.cell? ⟨g, k * 6 + 4, none⟩ = some (.slice ea_2 en_2 ec_2) := by have q := row_cell RO2.out hcl.out hvl.out hlt rfl (j := 4) (by omega); exact q
      have f5 : w2.frozen? ⟨g, k * 6 + 5, none⟩ = false := World.ownsRow.frozenAt RO2.out _
      have y5 : w2.cell? ⟨g, k * 6 + 5, none⟩ = some (.slice ea_3 en_3 ec_3) := by have q := row_cell RO2.out hcl.out hvl.out hlt rfl (j := 5) (by omega); exact q
      go_wp2_with fail
      clear f0 y0 f1 y1 f2 y2 f3 y3 f4 y4 f5 y5
      refine (laws_markI l_sign_c h_sign_c _ q3 d.sign.c w2 O_1.out (by have := Eq1.out; have := Eq2.out; have := Eq3.out; omega) (by omega)).mono ?_
      rintro e w3 ⟨rfl, X, gw⟩
      have us3 := gw.size
      have RO3 : Hid (w3.ownsRow lo 44 6 (.slice (some ⟨g, 0, none⟩) n c) n (css.set k [.int .i64 (kk : Nat), .int .i64 (q1 : Nat), .slice ea_0 en_0 ec_0, .slice ea_1 en_1 ec_1, .slice ea_2 en_2 ec_2, .slice ea_3 en_3 ec_3]).flatten) := ownsRow_frame RO2.out fun g2 hg2 => by cases hg2; exact gw.block g (by omega) (by omega)
      replace O_0 := Lib.hid (Kind.kept (K := sInts.toKind) O_0.out gw (by omega))
      replace O_2 := Lib.hid (Kind.kept (K := sInts.toKind) O_2.out gw (by omega))
      replace O_3 := Lib.hid (Kind.kept (K := sInts.toKind) O_3.out gw (by omega))
      have GW3 := Lib.hid (GW2.out.trans (gw.mono (by omega) (by omega)))
      have OT3 : Hid (∀ i (h1 : i < css.length) (h2 : i < ds.length), i ≠ k → rEntry.own w3 (los i) (his i) css[i] (if i < k then fmEntry (k0 + ((ds.take i).map fcEntry).sum) ds[i] else ds[i])) := fun i h1 h2 h3 => by
        have hdd := HD.out i k (by have := HE.out; omega) hlt h3
        exact RowK.kept (OT2.out i h1 h2 h3) gw (by omega)
      clear gw
      replace O_1 := Lib.hid X; clear X
      obtain ⟨q4, hqq4⟩ : ∃ q : Nat, q3 + d.sign.c.length = q := ⟨_, rfl⟩
      rw [hqq4]
      have Eq4 := Lib.hid hqq4; clear hqq4
      have f0 : w3.frozen? ⟨g, k * 6, none⟩ = false := World.ownsRow.frozenAt RO3.out _
      have y0 : w3.cell? ⟨g, k * 6, none⟩ = some (.int .i64 (kk : Nat)) := by have q := row_cell RO3.out hcl.out hvl.out hlt rfl (j := 0) (by omega); rw [Nat.add_zero] at q; exact q
      have f1 : w3.frozen? ⟨g, k * 6 + 1, none⟩ = false := World.ownsRow.frozenAt RO3.out _
      have y1 : w3.cell? ⟨g, k * 6 + 1, none⟩ = some (.int .i64 (q1 : Nat)) := by have q := row_cell RO3.out hcl.out hvl.out hlt rfl (j := 1) (by omega); exact q
      have f2 : w3.frozen? ⟨g, k * 6 + 2, none⟩ = false := World.ownsRow.frozenAt RO3.out _
      have y2 : w3.cell? ⟨g, k * 6 + 2, none⟩ = some (.slice ea_0 en_0 ec_0) := by have q := row_cell RO3.out hcl.out hvl.out hlt rfl (j := 2) (by omega); exact q
      have f3 : w3.frozen? ⟨g, k * 6 + 3, none⟩ = false := World.ownsRow.frozenAt RO3.out _
      have y3 : w3.cell? ⟨g, k * 6 + 3, none⟩ = some (.slice ea_1 en_1 ec_1) := by have q := row_cell RO3.out hcl.out hvl.out hlt rfl (j := 3) (by omega); exact q
      have f4 : w3.frozen? ⟨g, k * 6 + 4, none⟩ = false := World.ownsRow.frozenAt RO3.out _
      have y4 : w3.cell? ⟨g, k * 6 + 4, none⟩ = some (.slice ea_2 en_2 ec_2) := by have q := row_cell RO3.out hcl.out hvl.out hlt rfl (j := 4) (by omega); exact q
      have f5 : w3.frozen? ⟨g, k * 6 + 5, none⟩ = false := World.ownsRow.frozenAt RO3.out _
      have y5 : w3.cell? ⟨g, k * 6 + 5, none⟩ = some (.slice ea_3 en_3 ec_3) := by have q := row_cell RO3.out hcl.out hvl.out hlt rfl (j := 5) (by omega); exact q
      go_wp2_with fail
      clear f0 y0 f1 y1 f2 y2 f3 y3 f4 y4 f5 y5
      refine (laws_markI l_sign_h h_sign_h _ q4 d.sign.h w3 O_2.out (by have := Eq1.out; have := Eq2.out; have := Eq3.out; have := Eq4.out; omega) (by omega)).mono ?_
      rintro e w4 ⟨rfl, X, gw⟩
      have us4 := gw.size
      have RO4 : Hid (w4.ownsRow lo 44 6 (.slice (some ⟨g, 0, none⟩) n c) n (css.set k [.int .i64 (kk : Nat), .int .i64 (q1 : Nat), .slice ea_0 en_0 ec_0, .slice ea_1 en_1 ec_1, .slice ea_2 en_2 ec_2, .slice ea_3 en_3 ec_3]).flatten) := ownsRow_frame RO3.out fun g2 hg2 => by cases hg2; exact gw.block g (by omega) (by omega)
      replace O_0 := Lib.hid (Kind.kept (K := sInts.toKind) O_0.out gw (by omega))
      replace O_1 := Lib.hid (Kind.kept (K := sInts.toKind) O_1.out gw (by omega))
      replace O_3 := Lib.hid (Kind.kept (K := sInts.toKind) O_3.out gw (by omega))
      have GW4 := Lib.hid (GW3.out.trans (gw.mono (by omega) (by omega)))
      have OT4 : Hid (∀ i (h1 : i < css.length) (h2 : i < ds.length), i ≠ k → rEntry.own w4 (los i) (his i) css[i] (if i < k then fmEntry (k0 + ((ds.take i).map fcEntry).sum) ds[i] else ds[i])) := fun i h1 h2 h3 => by
        have hdd := HD.out i k (by have := HE.out; omega) hlt h3
        exact RowK.kept (OT3.out i h1 h2 h3) gw (by omega)
      clear gw
      replace O_2 := Lib.hid X; clear X
      obtain ⟨q5, hqq5⟩ : ∃ q : Nat, q4 + d.sign.h.length = q := ⟨_, rfl⟩
      rw [hqq5]
      have Eq5 := Lib.hid hqq5; clear hqq5
      have f0 : w4.frozen? ⟨g, k * 6, none⟩ = false := World.ownsRow.frozenAt RO4.out _
      have y0 : w4.cell? ⟨g, k * 6, none⟩ = some (.int .i64 (kk : Nat)) := by have q := row_cell RO4.out hcl.out hvl.out hlt rfl (j := 0) (by omega); rw [Nat.add_zero] at q; exact q
      have f1 : w4.frozen? ⟨g, k * 6 + 1, none⟩ = false := World.ownsRow.frozenAt RO4.out _
      have y1 : w4.cell? ⟨g, k * 6 + 1, none⟩ = some (.int .i64 (q1 : Nat)) := by have q := row_cell RO4.out hcl.out hvl.out hlt rfl (j := 1) (by omega); exact q
      have f2 : w4.frozen? ⟨g, k * 6 + 2, none⟩ = false := World.ownsRow.frozenAt RO4.out _
      have y2 : w4.cell? ⟨g, k * 6 + 2, none⟩ = some (.slice ea_0 en_0 ec_0) := by have q := row_cell RO4.out hcl.out hvl.out hlt rfl (j := 2) (by omega); exact q
      have f3 : w4.frozen? ⟨g, k * 6 + 3, none⟩ = false := World.ownsRow.frozenAt RO4.out _
      have y3 : w4.cell? ⟨g, k * 6 + 3, none⟩ = some (.slice ea_1 en_1 ec_1) := by have q := row_cell RO4.out hcl.out hvl.out hlt rfl (j := 3) (by omega); exact q
      have f4 : w4.frozen? ⟨g, k * 6 + 4, none⟩ = false := World.ownsRow.frozenAt RO4.out _
      have y4 : w4.cell? ⟨g, k * 6 + 4, none⟩ = some (.slice ea_2 en_2 ec_2) := by have q := row_cell RO4.out hcl.out hvl.out hlt rfl (j := 4) (by omega); exact q
      have f5 : w4.frozen? ⟨g, k * 6 + 5, none⟩ = false := World.ownsRow.frozenAt RO4.out _
      have y5 : w4.cell? ⟨g, k * 6 + 5, none⟩ = some (.slice ea_3 en_3 ec_3) := by have q := row_cell RO4.out hcl.out hvl.out hlt rfl (j := 5) (by omega); exact q
      go_wp2_with fail
      clear f0 y0 f1 y1 f2 y2 f3 y3 f4 y4 f5 y5
      refine (laws_markI l_sign_r h_sign_r _ q5 d.sign.r w4 O_3.out (by have := Eq1.out; have := Eq2.out; have := Eq3.out; have := Eq4.out; have := Eq5.out; omega) (by omega)).mono ?_
      rintro e w5 ⟨rfl, X, gw⟩
      have us5 := gw.size
      have RO5 : Hid (w5.ownsRow lo 44 6 (.slice (some ⟨g, 0, none⟩) n c) n (css.set k [.int .i64 (kk : Nat), .int .i64 (q1 : Nat), .slice ea_0 en_0 ec_0, .slice ea_1 en_1 ec_1, .slice ea_2 en_2 ec_2, .slice ea_3 en_3 ec_3]).flatten) := ownsRow_frame RO4.out fun g2 hg2 => by cases hg2; exact gw.block g (by omega) (by omega)
      replace O_0 := Lib.hid (Kind.kept (K := sInts.toKind) O_0.out gw (by omega))
      replace O_1 := Lib.hid (Kind.kept (K := sInts.toKind) O_1.out gw (by omega))
      replace O_2 := Lib.hid (Kind.kept (K := sInts.toKind) O_2.out gw (by omega))
      have GW5 := Lib.hid (GW4.out.trans (gw.mono (by omega) (by omega)))
      have OT5 : Hid (∀ i (h1 : i < css.length) (h2 : i < ds.length), i ≠ k → rEntry.own w5 (los i) (his i) css[i] (if i < k then fmEntry (k0 + ((ds.take i).map fcEntry).sum) ds[i] else ds[i])) := fun i h1 h2 h3 => by
        have hdd := HD.out i k (by have := HE.out; omega) hlt h3
        exact RowK.kept (OT4.out i h1 h2 h3) gw (by omega)
      clear gw
      replace O_3 := Lib.hid X; clear X
      obtain ⟨q6, hqq6⟩ : ∃ q : Nat, q5 + d.sign.r.length = q := ⟨_, rfl⟩
      rw [hqq6]
      have Eq6 := Lib.hid hqq6; clear hqq6
      have f0 : w5.frozen? ⟨g, k * 6, none⟩ = false := World.ownsRow.frozenAt RO5.out _
      have y0 : w5.cell? ⟨g, k * 6, none⟩ = some (.int .i64 (kk : Nat)) := by have q := row_cell RO5.out hcl.out hvl.out hlt rfl (j := 0) (by omega); rw [Nat.add_zero] at q; exact q
      have f1 : w5.frozen? ⟨g, k * 6 + 1, none⟩ = false := World.ownsRow.frozenAt RO5.out _
      have y1 : w5.cell? ⟨g, k * 6 + 1, none⟩ = some (.int .i64 (q1 : Nat)) := by have q := row_cell RO5.out hcl.out hvl.out hlt rfl (j := 1) (by omega); exact q
      have f2 : w5.frozen? ⟨g, k * 6 + 2, none⟩ = false := World.ownsRow.frozenAt RO5.out _
      have y2 : w5.cell? ⟨g, k * 6 + 2, none⟩ = some (.slice ea_0 en_0 ec_0) := by have q := row_cell RO5.out hcl.out hvl.out hlt rfl (j := 2) (by omega); exact q
      have f3 : w5.frozen? ⟨g, k * 6 + 3, none⟩ = false := World.ownsRow.frozenAt RO5.out _
      have y3 : w5.cell? ⟨g, k * 6 + 3, none⟩ = some (.slice ea_1 en_1 ec_1) := by have q := row_cell RO5.out hcl.out hvl.out hlt rfl (j := 3) (by omega); exact q
      have f4 : w5.frozen? ⟨g, k * 6 + 4, none⟩ = false := World.ownsRow.frozenAt RO5.out _
      have y4 : w5.cell? ⟨g, k * 6 + 4, none⟩ = some (.slice ea_2 en_2 ec_2) := by have q := row_cell RO5.out hcl.out hvl.out hlt rfl (j := 4) (by omega); exact q
      have f5 : w5.frozen? ⟨g, k * 6 + 5, none⟩ = false := World.ownsRow.frozenAt RO5.out _
      have y5 : w5.cell? ⟨g, k * 6 + 5, none⟩ = some (.slice ea_3 en_3 ec_3) := by have q := row_cell RO5.out hcl.out hvl.out hlt rfl (j := 5) (by omega); exact q
      go_wp2_with fail
      go_roundg (n - (k + 1))
      case measure => omega
      case rel =>
        have hfc : q6 = kk + fcEntry d := by rw [fcEntry_end]; have := Eq1.out; have := Eq2.out; have := Eq3.out; have := Eq4.out; have := Eq5.out; have := Eq6.out; omega
        refine ⟨k + 1, css.set k [.int .i64 (kk : Nat), .int .i64 (q1 : Nat), .slice ea_0 en_0 ec_0, .slice ea_1 en_1 ec_1, .slice ea_2 en_2 ec_2, .slice ea_3 en_3 ec_3], by omega, by go_num, by rw [HT.out, ← hfc], by have := hvl.out; unfold Hid; simpa using this, fun c hc => ?_, RO5.out, fun i h1 h2 => ?_, GW5.out⟩
        · rcases List.mem_or_eq_of_mem_set hc with h | rfl
          · exact hcl.out _ h
          · rfl
        · by_cases hik : i = k
          · subst hik
            rw [if_pos (by omega), List.getElem_set_self, HDK.out, HKK.out]
            have hfm : fmEntry kk d = ⟨((kk : Nat) : Int), ((q1 : Nat) : Int), mkI (q2) d.data, ⟨mkI (q3) d.sign.c, mkI (q4) d.sign.h, mkI (q5) d.sign.r⟩⟩ := by
              unfold fmEntry
              have hq1 := Eq1.out; have hq2 := Eq2.out; have hq3 := Eq3.out; have hq4 := Eq4.out; have hq5 := Eq5.out; have hq6 := Eq6.out
              subst_vars
              rfl
            rw [hfm]
            exact ⟨_, rfl, (⟨by omega, by have := Eq1.out; have := Eq2.out; have := Eq3.out; have := Eq4.out; have := Eq5.out; have := Eq6.out; omega⟩ : I64 ((kk : Nat) : Int)), ⟨_, rfl, (⟨by omega, by have := Eq1.out; have := Eq2.out; have := Eq3.out; have := Eq4.out; have := Eq5.out; have := Eq6.out; omega⟩ : I64 ((q1 : Nat) : Int)), ⟨_, _, l_data, h_data, m_data, t_data, rfl, O_0.out, ⟨_, _, l_sign_c, h_sign_c, m_sign_c, t_sign_c, rfl, O_1.out, ⟨_, _, l_sign_h, h_sign_h, m_sign_h, t_sign_h, rfl, O_2.out, ⟨_, _, l_sign_r, h_sign_r, m_sign_r, t_sign_r, rfl, O_3.out, rfl, q_sign_r, r_sign_r, s_sign_r⟩, q_sign_h, r_sign_h, s_sign_h⟩, q_sign_c, r_sign_c, s_sign_c⟩, q_data, r_data, s_data⟩⟩⟩
          · have h3 := OT5.out i (by simpa using h1) h2 hik
            rw [List.getElem_set_ne (by omega)]
            by_cases hi2 : i < k
            · rw [if_pos hi2] at h3; rw [if_pos (by omega)]; exact h3
            · rw [if_neg hi2] at h3; rw [if_neg (by omega)]; exact h3
    · obtain rfl : n = k := by omega
      have HRow := Lib.hid hO; clear hO
      go_wp2_with fail
      go_ret
      refine ⟨ret_int (by rw [List.take_of_length_le (by rw [HE.out]; exact Nat.le_refl _)]; rfl), ⟨css, los, his, by rw [mkEntryS_length, HE.out]; exact hvl.out, by rw [mkEntryS_length, HE.out]; exact HRow.out, fun g hg => ?_, fun i h1 h2 => ?_, fun i j hi hj => ?_⟩, hW⟩
      · have := HG0.out g hg
        exact ⟨this.1, fun i hi => this.2 i (by rw [mkEntryS_length, HE.out] at hi; exact hi)⟩
      · have h2' : i < ds.length := by rw [mkEntryS_length] at h2; exact h2
        have h3 := hel.out i h1 h2'
        rw [if_pos (by rw [HE.out] at h2'; exact h2')] at h3
        refine ⟨?_, HLB.out i (by rw [HE.out] at h2'; exact h2')⟩
        rw [mkEntryS_at h2']
        exact h3
      · rw [mkEntryS_length, HE.out] at hi hj
        exact HD.out i j hi hj
set_option maxHeartbeats 8000000 in
theorem laws_heldEntryS (v : Value) (k0 : Nat) (ds : List EntryD) (w : World) (h : (kR 44 rEntry).rd w v (mkEntryS k0 ds)) (hk : k0 + cnEntryS ds ≤ 9223372036854775806) :
    Calls Try.prog 132 #[v, .int .i64 k0] w fun e w' => e = .returned (.int .i64 (k0 + cnEntryS ds : Nat)) ∧ Below w.heap.size w w' := by
  obtain ⟨a, n, c, rfl⟩ := RdR.shape h
  have e := RdR.len h
  rw [mkEntryS_length] at e
  have HE := Lib.hid e
  obtain ⟨k1, k2⟩ := RdR.capMax h
  unfold maxLen at k2
  have HK := Lib.hid hk; clear hk
  have H : Hid (RdR rEntry w (.slice a n c) (mkEntryS k0 ds)) := h; clear h e
  go_enter Try.func132, Try.ntmps132
  go_wp2_with fail
  go_loopg [1, 5] n (fun g q i wr => ∃ k : Nat, k + g = n ∧ i = .int .i64 k ∧ q = .int .i64 (k0 + ((ds.take k).map fcEntry).sum : Nat) ∧ Below w.heap.size w wr)
  case atStart => exact ⟨0, by omega, rfl, rfl, Below.refl _ _⟩
  case round =>
    obtain ⟨k, hkg, rfl, rfl, hb⟩ := hrel
    by_cases hlt : k < n
    · have HK1 : Hid (k < ds.length) := by unfold Hid; rw [HE.out]; exact hlt
      obtain ⟨b, o, rfl, hcx⟩ := RdR.at_ H.out (by omega)
      obtain ⟨us, hcell, hrd⟩ := hcx k (by rw [mkEntryS_length]; exact HK1.out)
      rw [mkEntryS_at HK1.out] at hrd
      have hT := sumEntryS_succ (f := fcEntry) HK1.out
      have hT2 := sumEntryS_le (f := fcEntry) (ds := ds) (k := k + 1)
      obtain ⟨d, hdk⟩ : ∃ d, ds[k]'HK1.out = d := ⟨_, rfl⟩
      rw [hdk] at hrd hT
      obtain ⟨kk, hkk⟩ : ∃ kk, k0 + ((ds.take k).map fcEntry).sum = kk := ⟨_, rfl⟩
      rw [hkk] at hrd ⊢
      have hkb : kk + fcEntry d ≤ 9223372036854775806 := by have := HK.out; unfold cnEntryS at this; omega
      rw [fcEntry_end] at hkb
      have HT : Hid (k0 + ((ds.take (k + 1)).map fcEntry).sum = kk + fcEntry d) := by unfold Hid; omega
      clear hT hT2 hdk hkk hcx
      obtain ⟨q1, hqq1⟩ : ∃ q : Nat, q = kk + 1 := ⟨_, rfl⟩
      obtain ⟨q2, hqq2⟩ : ∃ q : Nat, q = q1 + 1 := ⟨_, rfl⟩
      obtain ⟨q3, hqq3⟩ : ∃ q : Nat, q2 + d.data.length = q := ⟨_, rfl⟩
      obtain ⟨q4, hqq4⟩ : ∃ q : Nat, q3 + d.sign.c.length = q := ⟨_, rfl⟩
      obtain ⟨q5, hqq5⟩ : ∃ q : Nat, q4 + d.sign.h.length = q := ⟨_, rfl⟩
      obtain ⟨q6, hqq6⟩ : ∃ q : Nat, q5 + d.sign.r.length = q := ⟨_, rfl⟩
      have hfm : fmEntry kk d = ⟨((kk : Nat) : Int), ((q1 : Nat) : Int), mkI (q2) d.data, ⟨mkI (q3) d.sign.c, mkI (q4) d.sign.h, mkI (q5) d.sign.r⟩⟩ := by
        unfold fmEntry; subst_vars; rfl
      rw [hfm] at hrd
      clear hfm
      obtain ⟨_, rfl, i51, ⟨_, rfl, i52, ⟨v53, _, rfl, h54, ⟨v55, _, rfl, h56, ⟨v57, _, rfl, h58, ⟨v59, _, rfl, h60, rfl⟩⟩⟩⟩⟩⟩ := hrd
      clear i51
      clear i52
      obtain ⟨aa0, nn0, cc0, rfl⟩ := sInts.sl h54
      have R_0 : Hid (sInts.rd wr (.slice aa0 nn0 cc0) (mkI q2 d.data)) := sInts.rd_below h54 hb
      clear h54
      obtain ⟨aa1, nn1, cc1, rfl⟩ := sInts.sl h56
      have R_1 : Hid (sInts.rd wr (.slice aa1 nn1 cc1) (mkI q3 d.sign.c)) := sInts.rd_below h56 hb
      clear h56
      obtain ⟨aa2, nn2, cc2, rfl⟩ := sInts.sl h58
      have R_2 : Hid (sInts.rd wr (.slice aa2 nn2 cc2) (mkI q4 d.sign.h)) := sInts.rd_below h58 hb
      clear h58
      obtain ⟨aa3, nn3, cc3, rfl⟩ := sInts.sl h60
      have R_3 : Hid (sInts.rd wr (.slice aa3 nn3 cc3) (mkI q5 d.sign.r)) := sInts.rd_below h60 hb
      clear h60
      have y0 : w.cell? ⟨b, o + (k * 6 + 0), none⟩ = some (.int .i64 (kk : Nat)) := hcell 0 (by decide)
      replace y0 : w.cell? ⟨b, o + k * 6, none⟩ = some (.int .i64 (kk : Nat)) := by rw [Nat.add_zero] at y0; exact y0
      have y1 : w.cell? ⟨b, o + (k * 6 + 1), none⟩ = some (.int .i64 (q1 : Nat)) := hcell 1 (by decide)
      replace y1 : w.cell? ⟨b, o + k * 6 + 1, none⟩ = some (.int .i64 (q1 : Nat)) := by rw [← Nat.add_assoc] at y1; exact y1
      have y2 : w.cell? ⟨b, o + (k * 6 + 2), none⟩ = some (.slice aa0 nn0 cc0) := hcell 2 (by decide)
      replace y2 : w.cell? ⟨b, o + k * 6 + 2, none⟩ = some (.slice aa0 nn0 cc0) := by rw [← Nat.add_assoc] at y2; exact y2
      have y3 : w.cell? ⟨b, o + (k * 6 + 3), none⟩ = some (.slice aa1 nn1 cc1) := hcell 3 (by decide)
      replace y3 : w.cell? ⟨b, o + k * 6 + 3, none⟩ = some (.slice aa1 nn1 cc1) := by rw [← Nat.add_assoc] at y3; exact y3
      have y4 : w.cell? ⟨b, o + (k * 6 + 4), none⟩ = some (.slice aa2 nn2 cc2) := hcell 4 (by decide)
      replace y4 : w.cell? ⟨b, o + k * 6 + 4, none⟩ = some (.slice aa2 nn2 cc2) := by rw [← Nat.add_assoc] at y4; exact y4
      have y5 : w.cell? ⟨b, o + (k * 6 + 5), none⟩ = some (.slice aa3 nn3 cc3) := hcell 5 (by decide)
      replace y5 : w.cell? ⟨b, o + k * 6 + 5, none⟩ = some (.slice aa3 nn3 cc3) := by rw [← Nat.add_assoc] at y5; exact y5
      have y0 := box_at y0 hb
      have y1 := box_at y1 hb
      have y2 := box_at y2 hb
      have y3 := box_at y3 hb
      have y4 := box_at y4 hb
      have y5 := box_at y5 hb
      clear hcell
      have HB0 := Lib.hid hb; clear hb
      have eq1 : (kk : Int) + 1 = (q1 : Int) := by omega
      have eq2 : (q1 : Int) + 1 = (q2 : Int) := by omega
      have Eq1 := Lib.hid hqq1; clear hqq1
      have Eq2 := Lib.hid hqq2; clear hqq2
      have Eq3 := Lib.hid hqq3; clear hqq3
      have Eq4 := Lib.hid hqq4; clear hqq4
      have Eq5 := Lib.hid hqq5; clear hqq5
      have Eq6 := Lib.hid hqq6; clear hqq6
      go_wp2_with fail
      refine (laws_heldI _ q2 d.data _ (sInts.rd_below R_0.out (Below.refl _ _)) (by have := Eq1.out; have := Eq2.out; have := Eq3.out; have := Eq4.out; have := Eq5.out; have := Eq6.out; omega)).mono ?_
      rintro e w1 ⟨rfl, hb⟩
      rw [Eq3.out]
      have HC1 := Lib.hid (hb); 
      replace y0 := box_at y0 hb
      replace y1 := box_at y1 hb
      replace y2 := box_at y2 hb
      replace y3 := box_at y3 hb
      replace y4 := box_at y4 hb
      replace y5 := box_at y5 hb
      clear hb
      have hnn0 : ¬ ((q3 : Int) < 0) := by omega
      go_wp2_with fail
      refine (laws_heldI _ q3 d.sign.c _ (sInts.rd_below R_1.out (HC1.out)) (by have := Eq1.out; have := Eq2.out; have := Eq3.out; have := Eq4.out; have := Eq5.out; have := Eq6.out; omega)).mono ?_
      rintro e w2 ⟨rfl, hb⟩
      rw [Eq4.out]
      have HC2 := Lib.hid (Below.next HC1.out hb); 
      replace y0 := box_at y0 hb
      replace y1 := box_at y1 hb
      replace y2 := box_at y2 hb
      replace y3 := box_at y3 hb
      replace y4 := box_at y4 hb
      replace y5 := box_at y5 hb
      clear hb
      have hnn1 : ¬ ((q4 : Int) < 0) := by omega
      go_wp2_with fail
      refine (laws_heldI _ q4 d.sign.h _ (sInts.rd_below R_2.out (HC2.out)) (by have := Eq1.out; have := Eq2.out; have := Eq3.out; have := Eq4.out; have := Eq5.out; have := Eq6.out; omega)).mono ?_
      rintro e w3 ⟨rfl, hb⟩
      rw [Eq5.out]
      have HC3 := Lib.hid (Below.next HC2.out hb); 
      replace y0 := box_at y0 hb
      replace y1 := box_at y1 hb
      replace y2 := box_at y2 hb
      replace y3 := box_at y3 hb
      replace y4 := box_at y4 hb
      replace y5 := box_at y5 hb
      clear hb
      have hnn2 : ¬ ((q5 : Int) < 0) := by omega
      go_wp2_with fail
      refine (laws_heldI _ q5 d.sign.r _ (sInts.rd_below R_3.out (HC3.out)) (by have := Eq1.out; have := Eq2.out; have := Eq3.out; have := Eq4.out; have := Eq5.out; have := Eq6.out; omega)).mono ?_
      rintro e w4 ⟨rfl, hb⟩
      rw [Eq6.out]
      have HC4 := Lib.hid (Below.next HC3.out hb); 
      replace y0 := box_at y0 hb
      replace y1 := box_at y1 hb
      replace y2 := box_at y2 hb
      replace y3 := box_at y3 hb
      replace y4 := box_at y4 hb
      replace y5 := box_at y5 hb
      clear hb
      have hnn3 : ¬ ((q6 : Int) < 0) := by omega
      go_wp2_with fail
      go_roundg (n - (k + 1))
      case measure => omega
      case rel =>
        have hfc : q6 = kk + fcEntry d := by rw [fcEntry_end]; have := Eq1.out; have := Eq2.out; have := Eq3.out; have := Eq4.out; have := Eq5.out; have := Eq6.out; omega
        exact ⟨k + 1, by omega, by go_num, by rw [HT.out, ← hfc], HB0.out.trans (HC4.out.mono HB0.out.size)⟩
    · obtain rfl : n = k := by omega
      go_wp2_with fail
      go_ret
      exact ⟨ret_int (by rw [List.take_of_length_le (by rw [HE.out]; exact Nat.le_refl _)]; rfl), hb⟩
end Go.Proofs.Ytboahnklilmdpaa
