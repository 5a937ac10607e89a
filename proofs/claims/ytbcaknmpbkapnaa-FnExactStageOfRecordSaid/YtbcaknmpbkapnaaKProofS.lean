/- Slices of Proof as a kind (printed by genkinds.py): the walks of the laws' helpers. -/
import Derived.Test.YtbcaknmpbkapnaaBk
import Derived.Test.YtbcaknmpbkapnaaBa
namespace Go.Proofs.Ytbcaknmpbkapnaa
open Go.RowKit
set_option linter.unusedSimpArgs false
set_option linter.unusedVariables false

def szProofS (ds : List ProofD) : Nat := ds.length + (ds.map szProof).sum
/-- the marks of an element in a row -/
def fcProof (d : ProofD) : Nat := 0 + cnProof d
def cnProofS (ds : List ProofD) : Nat := (ds.map fcProof).sum
theorem cnProofS_le (ds : List ProofD) : cnProofS ds ≤ 4 * szProofS ds := by
  unfold cnProofS szProofS
  induction ds with
  | nil => simp
  | cons d ds ih =>
    have := cnProof_le d
    simp only [List.map_cons, List.sum_cons, List.length_cons, fcProof] at *
    omega
theorem sumProofS_succ {f : ProofD → Nat} {ds : List ProofD} {k : Nat} (h : k < ds.length) : ((ds.take (k + 1)).map f).sum = ((ds.take k).map f).sum + f ds[k] := by
  rw [List.take_succ_eq_append_getElem h, List.map_append, List.sum_append]; simp
theorem sumProofS_le {f : ProofD → Nat} {ds : List ProofD} {k : Nat} : ((ds.take k).map f).sum ≤ (ds.map f).sum := by
  conv => rhs; rw [← List.take_append_drop k ds]
  rw [List.map_append, List.sum_append]; omega
set_option maxHeartbeats 4000000 in
theorem laws_eqProofS (v1 v2 : Value) (l1 l2 : List ProofD) (w : World) (h1 : (kR 26 rProof).rd w v1 l1) (h2 : (kR 26 rProof).rd w v2 l2) :
    Calls Try.prog 25 #[v1, v2] w fun e w' => e = .returned (.bool (decide (l1 = l2))) ∧ Below w.heap.size w w' := by
  obtain ⟨a, n, c, rfl⟩ := RdR.shape h1
  obtain ⟨a2, n2, c2, rfl⟩ := RdR.shape h2
  have e := RdR.len h1
  have e2 := RdR.len h2
  obtain ⟨k1, k2⟩ := RdR.capMax h1
  obtain ⟨k3, k4⟩ := RdR.capMax h2
  unfold maxLen at k2 k4
  have HE := Lib.hid e
  have HE2 := Lib.hid e2
  have H1 : Hid (RdR rProof w (.slice a n c) l1) := h1; clear h1
  have H2 : Hid (RdR rProof w (.slice a2 n2 c2) l2) := h2; clear h2
  by_cases hn : n = n2
  · subst hn
    clear e e2
    go_enter Try.func25, Try.ntmps25
    go_wp2_with fail
    go_loopg [5] n (fun g i wr => ∃ k : Nat, k + g = n ∧ i = .int .i64 k ∧ Hid (∀ j (h : j < l1.length) (h' : j < l2.length), j < k → l1[j] = l2[j]) ∧ Below w.heap.size w wr)
    case atStart => exact ⟨0, by omega, rfl, fun j _ _ h => by omega, Below.refl _ _⟩
    case round =>
      obtain ⟨k, hkg, rfl, hF, hb⟩ := hrel
      by_cases hlt : k < n
      · have HK1 : Hid (k < l1.length) := by unfold Hid; rw [HE.out]; exact hlt
        have HK2 : Hid (k < l2.length) := by unfold Hid; rw [HE2.out]; exact hlt
        obtain ⟨b, o, rfl, hcx⟩ := RdR.at_ H1.out (by omega)
        obtain ⟨vs, hcell, hrd⟩ := hcx k HK1.out
        obtain ⟨b2, o2, rfl, hcx2⟩ := RdR.at_ H2.out (by omega)
        obtain ⟨vs2, hcell2, hrd2⟩ := hcx2 k HK2.out
        obtain ⟨q, hq⟩ : ∃ q, decide (l1[k]'HK1.out = l2[k]'HK2.out) = q := ⟨_, rfl⟩
        have HQ := Lib.hid hq
        generalize hd1 : l1[k]'HK1.out = d1 at hrd hq
        generalize hd2 : l2[k]'HK2.out = d2 at hrd2 hq
        have HQ' := Lib.hid hq
        clear hd1 hd2 hq
        obtain ⟨v7, _, rfl, h8, ⟨v9, _, rfl, h10, ⟨v11, _, rfl, h12, rfl⟩⟩⟩ := hrd
        obtain ⟨aa0x, nn0x, cc0x, rfl⟩ := sInts.sl h8
        obtain ⟨aa1x, nn1x, cc1x, rfl⟩ := sInts.sl h10
        obtain ⟨aa2x, nn2x, cc2x, rfl⟩ := sInts.sl h12
        obtain ⟨v13, _, rfl, h14, ⟨v15, _, rfl, h16, ⟨v17, _, rfl, h18, rfl⟩⟩⟩ := hrd2
        obtain ⟨aa0y, nn0y, cc0y, rfl⟩ := sInts.sl h14
        obtain ⟨aa1y, nn1y, cc1y, rfl⟩ := sInts.sl h16
        obtain ⟨aa2y, nn2y, cc2y, rfl⟩ := sInts.sl h18
        have x0 : w.cell? ⟨b, o + (k * 3 + 0), none⟩ = some (.slice aa0x nn0x cc0x) := hcell 0 (by decide)
        replace x0 : w.cell? ⟨b, o + k * 3, none⟩ = some (.slice aa0x nn0x cc0x) := by rw [Nat.add_zero] at x0; exact x0
        have x1 : w.cell? ⟨b, o + (k * 3 + 1), none⟩ = some (.slice aa1x nn1x cc1x) := hcell 1 (by decide)
        replace x1 : w.cell? ⟨b, o + k * 3 + 1, none⟩ = some (.slice aa1x nn1x cc1x) := by rw [← Nat.add_assoc] at x1; exact x1
        have x2 : w.cell? ⟨b, o + (k * 3 + 2), none⟩ = some (.slice aa2x nn2x cc2x) := hcell 2 (by decide)
        replace x2 : w.cell? ⟨b, o + k * 3 + 2, none⟩ = some (.slice aa2x nn2x cc2x) := by rw [← Nat.add_assoc] at x2; exact x2
        have y0 : w.cell? ⟨b2, o2 + (k * 3 + 0), none⟩ = some (.slice aa0y nn0y cc0y) := hcell2 0 (by decide)
        replace y0 : w.cell? ⟨b2, o2 + k * 3, none⟩ = some (.slice aa0y nn0y cc0y) := by rw [Nat.add_zero] at y0; exact y0
        have y1 : w.cell? ⟨b2, o2 + (k * 3 + 1), none⟩ = some (.slice aa1y nn1y cc1y) := hcell2 1 (by decide)
        replace y1 : w.cell? ⟨b2, o2 + k * 3 + 1, none⟩ = some (.slice aa1y nn1y cc1y) := by rw [← Nat.add_assoc] at y1; exact y1
        have y2 : w.cell? ⟨b2, o2 + (k * 3 + 2), none⟩ = some (.slice aa2y nn2y cc2y) := hcell2 2 (by decide)
        replace y2 : w.cell? ⟨b2, o2 + k * 3 + 2, none⟩ = some (.slice aa2y nn2y cc2y) := by rw [← Nat.add_assoc] at y2; exact y2
        have HR : Hid ((kS rProof).rd wr (.agg #[.slice aa0x nn0x cc0x, .slice aa1x nn1x cc1x, .slice aa2x nn2x cc2x]) d1) := (kS rProof).rd_below (rdProof.2 ⟨_, _, _, _, _, _, _, _, _, rfl, h8, h10, h12⟩) hb
        have HR2 : Hid ((kS rProof).rd wr (.agg #[.slice aa0y nn0y cc0y, .slice aa1y nn1y cc1y, .slice aa2y nn2y cc2y]) d2) := (kS rProof).rd_below (rdProof.2 ⟨_, _, _, _, _, _, _, _, _, rfl, h14, h16, h18⟩) hb
        have gx0 := fun u => grow_cell (box_at x0 hb) u
        have gy0 := fun u => grow_cell (box_at y0 hb) u
        clear x0 y0
        have gx1 := fun u => grow_cell (box_at x1 hb) u
        have gy1 := fun u => grow_cell (box_at y1 hb) u
        clear x1 y1
        have gx2 := fun u => grow_cell (box_at x2 hb) u
        have gy2 := fun u => grow_cell (box_at y2 hb) u
        clear x2 y2
        have z1 : (0 : Int) ≤ (k : Int) := by omega
        have z2 : (k : Int) < (n : Int) := by omega
        clear hcell hcell2 hcx hcx2 h8 h10 h12 h14 h16 h18
        cases q with
        | true =>
          go_wp2_with fail
          (refine wp_region_grow (by kernel_rfl) (by kernel_rfl) ?_; (repeat (go_big_quiet_step ((first | (go_at_call 26; refine calls_grow (laws_eqProof _ _ d1 d2 _ ((kS rProof).rd_below HR.out (grow_below _ _)) ((kS rProof).rd_below HR2.out (grow_below _ _))) (fun e w' h => ⟨by rw [h.1, HQ'.out], h.2⟩)) | fail)))); refine wpQuiet_nil ?_; intro _ hw'; obtain ⟨uq, hw''⟩ := hw'; subst hw''; have hbq := grow_below wr uq; generalize grow wr uq = wq at hbq ⊢)
          go_wp2_with fail
          go_roundg (n - (k + 1))
          case measure => omega
          case rel =>
            refine ⟨k + 1, by omega, by go_num, fun j h h' hj => ?_, hb.trans (hbq.mono hb.size)⟩
            rcases Nat.lt_or_ge j k with hjk | hjk
            · exact hF.out j h h' hjk
            · obtain rfl : j = k := by omega
              exact of_decide_eq_true HQ.out
        | false =>
          have HR' : Hid (decide (l1 = l2) = false) := by
            refine decide_eq_false fun h => ?_
            have := of_decide_eq_false HQ.out
            subst h; exact this rfl
          go_wp2_with fail
          (refine wp_region_grow (by kernel_rfl) (by kernel_rfl) ?_; (repeat (go_big_quiet_step ((first | (go_at_call 26; refine calls_grow (laws_eqProof _ _ d1 d2 _ ((kS rProof).rd_below HR.out (grow_below _ _)) ((kS rProof).rd_below HR2.out (grow_below _ _))) (fun e w' h => ⟨by rw [h.1, HQ'.out], h.2⟩)) | fail)))); refine wpQuiet_nil ?_; intro _ hw'; obtain ⟨uq, hw''⟩ := hw'; subst hw''; have hbq := grow_below wr uq; generalize grow wr uq = wq at hbq ⊢)
          go_wp2_with fail
          go_ret
          exact ⟨ret_bool (by first | (rw [HR'.out]; done) | (rw [HR'.out]; rfl) | exact HR'.out.symm), hb.trans (hbq.mono hb.size)⟩
      · obtain rfl : n = k := by omega
        have HR' : Hid (decide (l1 = l2) = true) := by
          refine decide_eq_true (List.ext_getElem (by rw [HE.out, HE2.out]) fun j h h' => hF.out j h h' (by rw [HE.out] at h; exact h))
        go_wp2_with fail
        go_ret
        exact ⟨ret_bool (by first | (rw [HR'.out]; done) | (rw [HR'.out]; rfl) | exact HR'.out.symm), hb⟩
  · have HR : Hid (decide (l1 = l2) = false) := decide_eq_false fun h => hn (by rw [← e, ← e2, h])
    clear e e2
    have hn1 : ¬ ((n : Int) = (n2 : Int)) := by omega
    go_enter Try.func25, Try.ntmps25
    go_wp2_with fail
    go_ret
    exact ⟨ret_bool (by first | (rw [HR.out]; done) | (rw [HR.out]; rfl) | exact HR.out.symm), Below.refl _ _⟩
theorem info_Proof : ∃ i, Try.prog.info? 26 = some i ∧ i.zero = some (.agg #[.slice none 0 0, .slice none 0 0, .slice none 0 0]) ∧ i.size = 3 ∧ i.bytes ≤ 1000 := by
  have h : (Try.prog.info? 26).map (fun i => (i.zero, i.size, decide (i.bytes ≤ 1000))) = some (some (.agg #[.slice none 0 0, .slice none 0 0, .slice none 0 0]), 3, true) := by kernel_rfl
  obtain ⟨i, hi, hz⟩ := Option.map_eq_some_iff.1 h
  simp only [Prod.mk.injEq] at hz
  exact ⟨i, hi, hz.1, hz.2.1, of_decide_eq_true hz.2.2⟩
/-- an element in a row, with marks from k0 on; a slice of them -/
def fmProof (k0 : Nat) (d : ProofD) : ProofD := ⟨mkI (k0) d.c, mkI (k0 + d.c.length) d.h, mkI (k0 + d.c.length + d.h.length) d.r⟩
def mkProofS : Nat → List ProofD → List ProofD
  | _, [] => []
  | k0, d :: ds => fmProof k0 d :: mkProofS (k0 + fcProof d) ds
theorem mkProofS_length : ∀ {k0 : Nat} {ds : List ProofD}, (mkProofS k0 ds).length = ds.length
  | _, [] => rfl
  | k0, d :: ds => by rw [mkProofS, List.length_cons, List.length_cons, mkProofS_length]
theorem mkProofS_at : ∀ {k0 i : Nat} {ds : List ProofD} (h : i < ds.length) (h' : i < (mkProofS k0 ds).length), (mkProofS k0 ds)[i] = fmProof (k0 + ((ds.take i).map fcProof).sum) ds[i]
  | _, _, [], h, _ => by simp at h
  | k0, 0, d :: ds, _, _ => by simp [mkProofS]
  | k0, i + 1, d :: ds, h, h' => by
    have := mkProofS_at (k0 := k0 + fcProof d) (i := i) (ds := ds) (by simpa using h) (by rw [mkProofS_length]; simpa using h)
    simp only [mkProofS, List.getElem_cons_succ, List.take_succ_cons, List.map_cons, List.sum_cons]
    rw [this, Nat.add_assoc]
theorem fcProof_end (k0 : Nat) (d : ProofD) : k0 + fcProof d = k0 + d.c.length + d.h.length + d.r.length := by
  unfold fcProof; unfold cnProof; omega
set_option maxHeartbeats 8000000 in
theorem laws_markProofS (lo hi : Nat) (v : Value) (k0 : Nat) (ds : List ProofD) (w : World) (h : (kR 26 rProof).own w lo hi v ds) (hk : k0 + cnProofS ds ≤ 9223372036854775806) (hhi : hi ≤ w.heap.size) :
    Calls Try.prog 28 #[v, .int .i64 k0] w fun e w' => e = .returned (.int .i64 (k0 + cnProofS ds : Nat)) ∧ (kR 26 rProof).own w' lo hi v (mkProofS k0 ds) ∧ Within lo hi w w' := by
  obtain ⟨a, n, c, rfl⟩ := RdR.shape (OwnR.rd h)
  have e := RdR.len (OwnR.rd h)
  have HE := Lib.hid e
  obtain ⟨k1, k2⟩ := RdR.capMax (OwnR.rd h)
  unfold maxLen at k2
  obtain ⟨css0, los, his, hl0, hO0, hg0, hel0, hd0⟩ := h
  have hu0 := OwnR.lens (e := 26) hl0 hel0
  rw [e] at hl0 hO0 hg0 hd0
  have HK := Lib.hid hk; clear hk
  have HG0 := Lib.hid hg0; clear hg0
  have HD := Lib.hid hd0; clear hd0
  have HLB : Hid (∀ i, i < n → lo ≤ los i ∧ his i ≤ hi) := fun i hi => (hel0 i (by omega) (by omega)).2
  have HO0 := Lib.hid hO0; clear hO0
  have HL0 := Lib.hid hl0
  have HU0 : Hid (∀ c ∈ css0, c.length = 3) := hu0
  have HEL0 : Hid (∀ i (h1 : i < css0.length) (h2 : i < ds.length), rProof.own w (los i) (his i) css0[i] (if i < 0 then fmProof (k0 + ((ds.take i).map fcProof).sum) ds[i] else ds[i])) := fun i h1 h2 => (hel0 i h1 h2).1
  clear hel0 hu0 hl0 e
  go_enter Try.func28, Try.ntmps28
  go_wp2_with fail
  go_loopg [1, 5] n (fun g q i wr => ∃ (k : Nat) (css : List (List Value)), k + g = n ∧ i = .int .i64 k ∧ q = .int .i64 (k0 + ((ds.take k).map fcProof).sum : Nat) ∧ Hid (css.length = n) ∧ Hid (∀ c ∈ css, c.length = 3) ∧ wr.ownsRow lo 26 3 (.slice a n c) n css.flatten ∧
    Hid (∀ i (h1 : i < css.length) (h2 : i < ds.length), rProof.own wr (los i) (his i) css[i] (if i < k then fmProof (k0 + ((ds.take i).map fcProof).sum) ds[i] else ds[i])) ∧ Within lo hi w wr)
  case atStart => exact ⟨0, css0, by omega, rfl, rfl, HL0.out, HU0.out, HO0.out, HEL0.out, Within.refl _ _ _⟩
  case round =>
    obtain ⟨k, css, hkg, rfl, rfl, hvl, hcl, hO, hel, hW⟩ := hrel
    by_cases hlt : k < n
    · have HK1 : Hid (k < ds.length) := by unfold Hid; rw [HE.out]; exact hlt
      have HC : Hid (k < css.length) := by unfold Hid; rw [hvl.out]; exact hlt
      have hnb : (0 : Nat) < n := by omega
      obtain ⟨g, rfl⟩ : ∃ g, a = some ⟨g, 0, none⟩ := by
        rcases hO.2 with ⟨h1, h2⟩ | ⟨g, cap, cur, h1, _⟩
        · omega
        · cases h1; exact ⟨_, rfl⟩
      have hgb := HG0.out g rfl
      have hgd : g < los k ∨ his k ≤ g := hgb.2 k hlt
      have hgi : g < hi := hgb.1
      have hgl : lo ≤ g := (hO.lt g rfl).1
      have hgs : g < wr.heap.size := (hO.lt g rfl).2
      have hlb := HLB.out k hlt
      have hrow := hel.out k HC.out HK1.out
      rw [if_neg (by omega)] at hrow
      have hT := sumProofS_succ (f := fcProof) HK1.out
      have hT2 := sumProofS_le (f := fcProof) (ds := ds) (k := k + 1)
      obtain ⟨d, hdk⟩ : ∃ d, ds[k]'HK1.out = d := ⟨_, rfl⟩
      have HDK := Lib.hid hdk
      obtain ⟨row, hcr⟩ : ∃ r, css[k]'HC.out = r := ⟨_, rfl⟩
      rw [hdk, hcr] at hrow
      rw [hdk] at hT
      have hset : css.set k row = css := by rw [← hcr]; exact List.set_getElem_self _
      rw [← hset] at hO
      obtain ⟨kk, hkk⟩ : ∃ kk, k0 + ((ds.take k).map fcProof).sum = kk := ⟨_, rfl⟩
      have HKK := Lib.hid hkk
      have hkb : kk + fcProof d ≤ 9223372036854775806 := by have := HK.out; unfold cnProofS at this; omega
      rw [fcProof_end] at hkb
      rw [hkk]
      have HT : Hid (k0 + ((ds.take (k + 1)).map fcProof).sum = kk + fcProof d) := by unfold Hid; omega
      clear hT hT2 hdk hcr hset hkk hgb
      obtain ⟨_, _, l_c, h_c, m_c, t_c, rfl, o_c, ⟨_, _, l_h, h_h, m_h, t_h, rfl, o_h, ⟨_, _, l_r, h_r, m_r, t_r, rfl, o_r, rfl, q_r, r_r, s_r⟩, q_h, r_h, s_h⟩, q_c, r_c, s_c⟩ := hrow
      obtain ⟨ea_0, en_0, ec_0, rfl⟩ := sInts.sl (sInts.own_rd o_c)
      have O_0 := Lib.hid o_c; clear o_c
      obtain ⟨ea_1, en_1, ec_1, rfl⟩ := sInts.sl (sInts.own_rd o_h)
      have O_1 := Lib.hid o_h; clear o_h
      obtain ⟨ea_2, en_2, ec_2, rfl⟩ := sInts.sl (sInts.own_rd o_r)
      have O_2 := Lib.hid o_r; clear o_r
      have RO0 := Lib.hid hO; clear hO
      have hbd : k * 3 + 3 ≤ n * 3 := by have := Nat.mul_le_mul_right 3 (show k + 1 ≤ n from hlt); rw [Nat.succ_mul] at this; exact this
      have hws := hW.size
      have GW0 := Lib.hid hW; clear hW
      have OT0 : Hid (∀ i (h1 : i < css.length) (h2 : i < ds.length), i ≠ k → rProof.own wr (los i) (his i) css[i] (if i < k then fmProof (k0 + ((ds.take i).map fcProof).sum) ds[i] else ds[i])) := fun i h1 h2 _ => hel.out i h1 h2
      clear hel
      have f0 : wr.frozen? ⟨g, k * 3, none⟩ = false := World.ownsRow.frozenAt RO0.out _
      have y0 : wr.cell? ⟨g, k * 3, none⟩ = some (.slice ea_0 en_0 ec_0) := by have q := row_cell RO0.out hcl.out hvl.out hlt rfl (j := 0) (by omega); rw [Nat.add_zero] at q; exact q
      have f1 : wr.frozen? ⟨g, k * 3 + 1, none⟩ = false := World.ownsRow.frozenAt RO0.out _
      have y1 : wr.cell? ⟨g, k * 3 + 1, none⟩ = some (.slice ea_1 en_1 ec_1) := by have q := row_cell RO0.out hcl.out hvl.out hlt rfl (j := 1) (by omega); exact q
      have f2 : wr.frozen? ⟨g, k * 3 + 2, none⟩ = false := World.ownsRow.frozenAt RO0.out _
      have y2 : wr.cell? ⟨g, k * 3 + 2, none⟩ = some (.slice ea_2 en_2 ec_2) := by have q := row_cell RO0.out hcl.out hvl.out hlt rfl (j := 2) (by omega); exact q
      go_wp2_with fail
      clear f0 y0 f1 y1 f2 y2
      refine (laws_markI l_c h_c _ kk d.c wr O_0.out (by  omega) (by omega)).mono ?_
      rintro e w1 ⟨rfl, X, gw⟩
      have us1 := gw.size
      have RO1 : Hid (w1.ownsRow lo 26 3 (.slice (some ⟨g, 0, none⟩) n c) n (css.set k [.slice ea_0 en_0 ec_0, .slice ea_1 en_1 ec_1, .slice ea_2 en_2 ec_2]).flatten) := ownsRow_frame RO0.out fun g2 hg2 => by cases hg2; exact gw.block g (by omega) (by omega)
      replace O_1 := Lib.hid (Kind.kept (K := sInts.toKind) O_1.out gw (by omega))
      replace O_2 := Lib.hid (Kind.kept (K := sInts.toKind) O_2.out gw (by omega))
      have GW1 := Lib.hid (GW0.out.trans (gw.mono (by omega) (by omega)))
      have OT1 : Hid (∀ i (h1 : i < css.length) (h2 : i < ds.length), i ≠ k → rProof.own w1 (los i) (his i) css[i] (if i < k then fmProof (k0 + ((ds.take i).map fcProof).sum) ds[i] else ds[i])) := fun i h1 h2 h3 => by
        have hdd := HD.out i k (by have := HE.out; omega) hlt h3
        exact RowK.kept (OT0.out i h1 h2 h3) gw (by omega)
      clear gw
      replace O_0 := Lib.hid X; clear X
      obtain ⟨q1, hqq1⟩ : ∃ q : Nat, kk + d.c.length = q := ⟨_, rfl⟩
      rw [hqq1]
      have Eq1 := Lib.hid hqq1; clear hqq1
      have f0 : w1.frozen? ⟨g, k * 3, none⟩ = false := World.ownsRow.frozenAt RO1.out _
      have y0 : w1.cell? ⟨g, k * 3, none⟩ = some (.slice ea_0 en_0 ec_0) := by have q := row_cell RO1.out hcl.out hvl.out hlt rfl (j := 0) (by omega); rw [Nat.add_zero] at q; exact q
      have f1 : w1.frozen? ⟨g, k * 3 + 1, none⟩ = false := World.ownsRow.frozenAt RO1.out _
      have y1 : w1.cell? ⟨g, k * 3 + 1, none⟩ = some (.slice ea_1 en_1 ec_1) := by have q := row_cell RO1.out hcl.out hvl.out hlt rfl (j := 1) (by omega); exact q
      have f2 : w1.frozen? ⟨g, k * 3 + 2, none⟩ = false := World.ownsRow.frozenAt RO1.out _
      have y2 : w1.cell? ⟨g, k * 3 + 2, none⟩ = some (.slice ea_2 en_2 ec_2) := by have q := row_cell RO1.out hcl.out hvl.out hlt rfl (j := 2) (by omega); exact q
      go_wp2_with fail
      clear f0 y0 f1 y1 f2 y2
      refine (laws_markI l_h h_h _ q1 d.h w1 O_1.out (by have := Eq1.out; omega) (by omega)).mono ?_
      rintro e w2 ⟨rfl, X, gw⟩
      have us2 := gw.size
      have RO2 : Hid (w2.ownsRow lo 26 3 (.slice (some ⟨g, 0, none⟩) n c) n (css.set k [.slice ea_0 en_0 ec_0, .slice ea_1 en_1 ec_1, .slice ea_2 en_2 ec_2]).flatten) := ownsRow_frame RO1.out fun g2 hg2 => by cases hg2; exact gw.block g (by omega) (by omega)
      replace O_0 := Lib.hid (Kind.kept (K := sInts.toKind) O_0.out gw (by omega))
      replace O_2 := Lib.hid (Kind.kept (K := sInts.toKind) O_2.out gw (by omega))
      have GW2 := Lib.hid (GW1.out.trans (gw.mono (by omega) (by omega)))
      have OT2 : Hid (∀ i (h1 : i < css.length) (h2 : i < ds.length), i ≠ k → rProof.own w2 (los i) (his i) css[i] (if i < k then fmProof (k0 + ((ds.take i).map fcProof).sum) ds[i] else ds[i])) := fun i h1 h2 h3 => by
        have hdd := HD.out i k (by have := HE.out; omega) hlt h3
        exact RowK.kept (OT1.out i h1 h2 h3) gw (by omega)
      clear gw
      replace O_1 := Lib.hid X; clear X
      obtain ⟨q2, hqq2⟩ : ∃ q : Nat, q1 + d.h.length = q := ⟨_, rfl⟩
      rw [hqq2]
      have Eq2 := Lib.hid hqq2; clear hqq2
      have f0 : w2.frozen? ⟨g, k * 3, none⟩ = false := World.ownsRow.frozenAt RO2.out _
      have y0 : w2.cell? ⟨g, k * 3, none⟩ = some (.slice ea_0 en_0 ec_0) := by have q := row_cell RO2.out hcl.out hvl.out hlt rfl (j := 0) (by omega); rw [Nat.add_zero] at q; exact q
      have f1 : w2.frozen? ⟨g, k * 3 + 1, none⟩ = false := World.ownsRow.frozenAt RO2.out _
      have y1 : w2.cell? ⟨g, k * 3 + 1, none⟩ = some (.slice ea_1 en_1 ec_1) := by have q := row_cell RO2.out hcl.out hvl.out hlt rfl (j := 1) (by omega); exact q
      have f2 : w2.frozen? ⟨g, k * 3 + 2, none⟩ = false := World.ownsRow.frozenAt RO2.out _
      have y2 : w2.cell? ⟨g, k * 3 + 2, none⟩ = some (.slice ea_2 en_2 ec_2) := by have q := row_cell RO2.out hcl.out hvl.out hlt rfl (j := 2) (by omega); exact q
      go_wp2_with fail
      clear f0 y0 f1 y1 f2 y2
      refine (laws_markI l_r h_r _ q2 d.r w2 O_2.out (by have := Eq1.out; have := Eq2.out; omega) (by omega)).mono ?_
      rintro e w3 ⟨rfl, X, gw⟩
      have us3 := gw.size
      have RO3 : Hid (w3.ownsRow lo 26 3 (.slice (some ⟨g, 0, none⟩) n c) n (css.set k [.slice ea_0 en_0 ec_0, .slice ea_1 en_1 ec_1, .slice ea_2 en_2 ec_2]).flatten) := ownsRow_frame RO2.out fun g2 hg2 => by cases hg2; exact gw.block g (by omega) (by omega)
      replace O_0 := Lib.hid (Kind.kept (K := sInts.toKind) O_0.out gw (by omega))
      replace O_1 := Lib.hid (Kind.kept (K := sInts.toKind) O_1.out gw (by omega))
      have GW3 := Lib.hid (GW2.out.trans (gw.mono (by omega) (by omega)))
      have OT3 : Hid (∀ i (h1 : i < css.length) (h2 : i < ds.length), i ≠ k → rProof.own w3 (los i) (his i) css[i] (if i < k then fmProof (k0 + ((ds.take i).map fcProof).sum) ds[i] else ds[i])) := fun i h1 h2 h3 => by
        have hdd := HD.out i k (by have := HE.out; omega) hlt h3
        exact RowK.kept (OT2.out i h1 h2 h3) gw (by omega)
      clear gw
      replace O_2 := Lib.hid X; clear X
      obtain ⟨q3, hqq3⟩ : ∃ q : Nat, q2 + d.r.length = q := ⟨_, rfl⟩
      rw [hqq3]
      have Eq3 := Lib.hid hqq3; clear hqq3
      have f0 : w3.frozen? ⟨g, k * 3, none⟩ = false := World.ownsRow.frozenAt RO3.out _
      have y0 : w3.cell? ⟨g, k * 3, none⟩ = some (.slice ea_0 en_0 ec_0) := by have q := row_cell RO3.out hcl.out hvl.out hlt rfl (j := 0) (by omega); rw [Nat.add_zero] at q; exact q
      have f1 : w3.frozen? ⟨g, k * 3 + 1, none⟩ = false := World.ownsRow.frozenAt RO3.out _
      have y1 : w3.cell? ⟨g, k * 3 + 1, none⟩ = some (.slice ea_1 en_1 ec_1) := by have q := row_cell RO3.out hcl.out hvl.out hlt rfl (j := 1) (by omega); exact q
      have f2 : w3.frozen? ⟨g, k * 3 + 2, none⟩ = false := World.ownsRow.frozenAt RO3.out _
      have y2 : w3.cell? ⟨g, k * 3 + 2, none⟩ = some (.slice ea_2 en_2 ec_2) := by have q := row_cell RO3.out hcl.out hvl.out hlt rfl (j := 2) (by omega); exact q
      go_wp2_with fail
      go_roundg (n - (k + 1))
      case measure => omega
      case rel =>
        have hfc : q3 = kk + fcProof d := by rw [fcProof_end]; have := Eq1.out; have := Eq2.out; have := Eq3.out; omega
        refine ⟨k + 1, css.set k [.slice ea_0 en_0 ec_0, .slice ea_1 en_1 ec_1, .slice ea_2 en_2 ec_2], by omega, by go_num, by rw [HT.out, ← hfc], by have := hvl.out; unfold Hid; simpa using this, fun c hc => ?_, RO3.out, fun i h1 h2 => ?_, GW3.out⟩
        · rcases List.mem_or_eq_of_mem_set hc with h | rfl
          · exact hcl.out _ h
          · rfl
        · by_cases hik : i = k
          · subst hik
            rw [if_pos (by omega), List.getElem_set_self, HDK.out, HKK.out]
            have hfm : fmProof kk d = ⟨mkI (kk) d.c, mkI (q1) d.h, mkI (q2) d.r⟩ := by
              unfold fmProof
              have hq1 := Eq1.out; have hq2 := Eq2.out; have hq3 := Eq3.out
              subst_vars
              rfl
            rw [hfm]
            exact ⟨_, _, l_c, h_c, m_c, t_c, rfl, O_0.out, ⟨_, _, l_h, h_h, m_h, t_h, rfl, O_1.out, ⟨_, _, l_r, h_r, m_r, t_r, rfl, O_2.out, rfl, q_r, r_r, s_r⟩, q_h, r_h, s_h⟩, q_c, r_c, s_c⟩
          · have h3 := OT3.out i (by simpa using h1) h2 hik
            rw [List.getElem_set_ne (by omega)]
            by_cases hi2 : i < k
            · rw [if_pos hi2] at h3; rw [if_pos (by omega)]; exact h3
            · rw [if_neg hi2] at h3; rw [if_neg (by omega)]; exact h3
    · obtain rfl : n = k := by omega
      have HRow := Lib.hid hO; clear hO
      go_wp2_with fail
      go_ret
      refine ⟨ret_int (by rw [List.take_of_length_le (by rw [HE.out]; exact Nat.le_refl _)]; rfl), ⟨css, los, his, by rw [mkProofS_length, HE.out]; exact hvl.out, by rw [mkProofS_length, HE.out]; exact HRow.out, fun g hg => ?_, fun i h1 h2 => ?_, fun i j hi hj => ?_⟩, hW⟩
      · have := HG0.out g hg
        exact ⟨this.1, fun i hi => this.2 i (by rw [mkProofS_length, HE.out] at hi; exact hi)⟩
      · have h2' : i < ds.length := by rw [mkProofS_length] at h2; exact h2
        have h3 := hel.out i h1 h2'
        rw [if_pos (by rw [HE.out] at h2'; exact h2')] at h3
        refine ⟨?_, HLB.out i (by rw [HE.out] at h2'; exact h2')⟩
        rw [mkProofS_at h2']
        exact h3
      · rw [mkProofS_length, HE.out] at hi hj
        exact HD.out i j hi hj
set_option maxHeartbeats 8000000 in
theorem laws_heldProofS (v : Value) (k0 : Nat) (ds : List ProofD) (w : World) (h : (kR 26 rProof).rd w v (mkProofS k0 ds)) (hk : k0 + cnProofS ds ≤ 9223372036854775806) :
    Calls Try.prog 31 #[v, .int .i64 k0] w fun e w' => e = .returned (.int .i64 (k0 + cnProofS ds : Nat)) ∧ Below w.heap.size w w' := by
  obtain ⟨a, n, c, rfl⟩ := RdR.shape h
  have e := RdR.len h
  rw [mkProofS_length] at e
  have HE := Lib.hid e
  obtain ⟨k1, k2⟩ := RdR.capMax h
  unfold maxLen at k2
  have HK := Lib.hid hk; clear hk
  have H : Hid (RdR rProof w (.slice a n c) (mkProofS k0 ds)) := h; clear h e
  go_enter Try.func31, Try.ntmps31
  go_wp2_with fail
  go_loopg [1, 5] n (fun g q i wr => ∃ k : Nat, k + g = n ∧ i = .int .i64 k ∧ q = .int .i64 (k0 + ((ds.take k).map fcProof).sum : Nat) ∧ Below w.heap.size w wr)
  case atStart => exact ⟨0, by omega, rfl, rfl, Below.refl _ _⟩
  case round =>
    obtain ⟨k, hkg, rfl, rfl, hb⟩ := hrel
    by_cases hlt : k < n
    · have HK1 : Hid (k < ds.length) := by unfold Hid; rw [HE.out]; exact hlt
      obtain ⟨b, o, rfl, hcx⟩ := RdR.at_ H.out (by omega)
      obtain ⟨us, hcell, hrd⟩ := hcx k (by rw [mkProofS_length]; exact HK1.out)
      rw [mkProofS_at HK1.out] at hrd
      have hT := sumProofS_succ (f := fcProof) HK1.out
      have hT2 := sumProofS_le (f := fcProof) (ds := ds) (k := k + 1)
      obtain ⟨d, hdk⟩ : ∃ d, ds[k]'HK1.out = d := ⟨_, rfl⟩
      rw [hdk] at hrd hT
      obtain ⟨kk, hkk⟩ : ∃ kk, k0 + ((ds.take k).map fcProof).sum = kk := ⟨_, rfl⟩
      rw [hkk] at hrd ⊢
      have hkb : kk + fcProof d ≤ 9223372036854775806 := by have := HK.out; unfold cnProofS at this; omega
      rw [fcProof_end] at hkb
      have HT : Hid (k0 + ((ds.take (k + 1)).map fcProof).sum = kk + fcProof d) := by unfold Hid; omega
      clear hT hT2 hdk hkk hcx
      obtain ⟨q1, hqq1⟩ : ∃ q : Nat, kk + d.c.length = q := ⟨_, rfl⟩
      obtain ⟨q2, hqq2⟩ : ∃ q : Nat, q1 + d.h.length = q := ⟨_, rfl⟩
      obtain ⟨q3, hqq3⟩ : ∃ q : Nat, q2 + d.r.length = q := ⟨_, rfl⟩
      have hfm : fmProof kk d = ⟨mkI (kk) d.c, mkI (q1) d.h, mkI (q2) d.r⟩ := by
        unfold fmProof; subst_vars; rfl
      rw [hfm] at hrd
      clear hfm
      obtain ⟨v31, _, rfl, h32, ⟨v33, _, rfl, h34, ⟨v35, _, rfl, h36, rfl⟩⟩⟩ := hrd
      obtain ⟨aa0, nn0, cc0, rfl⟩ := sInts.sl h32
      have R_0 : Hid (sInts.rd wr (.slice aa0 nn0 cc0) (mkI kk d.c)) := sInts.rd_below h32 hb
      clear h32
      obtain ⟨aa1, nn1, cc1, rfl⟩ := sInts.sl h34
      have R_1 : Hid (sInts.rd wr (.slice aa1 nn1 cc1) (mkI q1 d.h)) := sInts.rd_below h34 hb
      clear h34
      obtain ⟨aa2, nn2, cc2, rfl⟩ := sInts.sl h36
      have R_2 : Hid (sInts.rd wr (.slice aa2 nn2 cc2) (mkI q2 d.r)) := sInts.rd_below h36 hb
      clear h36
      have y0 : w.cell? ⟨b, o + (k * 3 + 0), none⟩ = some (.slice aa0 nn0 cc0) := hcell 0 (by decide)
      replace y0 : w.cell? ⟨b, o + k * 3, none⟩ = some (.slice aa0 nn0 cc0) := by rw [Nat.add_zero] at y0; exact y0
      have y1 : w.cell? ⟨b, o + (k * 3 + 1), none⟩ = some (.slice aa1 nn1 cc1) := hcell 1 (by decide)
      replace y1 : w.cell? ⟨b, o + k * 3 + 1, none⟩ = some (.slice aa1 nn1 cc1) := by rw [← Nat.add_assoc] at y1; exact y1
      have y2 : w.cell? ⟨b, o + (k * 3 + 2), none⟩ = some (.slice aa2 nn2 cc2) := hcell 2 (by decide)
      replace y2 : w.cell? ⟨b, o + k * 3 + 2, none⟩ = some (.slice aa2 nn2 cc2) := by rw [← Nat.add_assoc] at y2; exact y2
      have y0 := box_at y0 hb
      have y1 := box_at y1 hb
      have y2 := box_at y2 hb
      clear hcell
      have HB0 := Lib.hid hb; clear hb
      have Eq1 := Lib.hid hqq1; clear hqq1
      have Eq2 := Lib.hid hqq2; clear hqq2
      have Eq3 := Lib.hid hqq3; clear hqq3
      go_wp2_with fail
      refine (laws_heldI _ kk d.c _ (sInts.rd_below R_0.out (Below.refl _ _)) (by have := Eq1.out; have := Eq2.out; have := Eq3.out; omega)).mono ?_
      rintro e w1 ⟨rfl, hb⟩
      rw [Eq1.out]
      have HC1 := Lib.hid (hb); 
      replace y0 := box_at y0 hb
      replace y1 := box_at y1 hb
      replace y2 := box_at y2 hb
      clear hb
      have hnn0 : ¬ ((q1 : Int) < 0) := by omega
      go_wp2_with fail
      refine (laws_heldI _ q1 d.h _ (sInts.rd_below R_1.out (HC1.out)) (by have := Eq1.out; have := Eq2.out; have := Eq3.out; omega)).mono ?_
      rintro e w2 ⟨rfl, hb⟩
      rw [Eq2.out]
      have HC2 := Lib.hid (Below.next HC1.out hb); 
      replace y0 := box_at y0 hb
      replace y1 := box_at y1 hb
      replace y2 := box_at y2 hb
      clear hb
      have hnn1 : ¬ ((q2 : Int) < 0) := by omega
      go_wp2_with fail
      refine (laws_heldI _ q2 d.r _ (sInts.rd_below R_2.out (HC2.out)) (by have := Eq1.out; have := Eq2.out; have := Eq3.out; omega)).mono ?_
      rintro e w3 ⟨rfl, hb⟩
      rw [Eq3.out]
      have HC3 := Lib.hid (Below.next HC2.out hb); 
      replace y0 := box_at y0 hb
      replace y1 := box_at y1 hb
      replace y2 := box_at y2 hb
      clear hb
      have hnn2 : ¬ ((q3 : Int) < 0) := by omega
      go_wp2_with fail
      go_roundg (n - (k + 1))
      case measure => omega
      case rel =>
        have hfc : q3 = kk + fcProof d := by rw [fcProof_end]; have := Eq1.out; have := Eq2.out; have := Eq3.out; omega
        exact ⟨k + 1, by omega, by go_num, by rw [HT.out, ← hfc], HB0.out.trans (HC3.out.mono HB0.out.size)⟩
    · obtain rfl : n = k := by omega
      go_wp2_with fail
      go_ret
      exact ⟨ret_int (by rw [List.take_of_length_le (by rw [HE.out]; exact Nat.le_refl _)]; rfl), hb⟩
end Go.Proofs.Ytbcaknmpbkapnaa
