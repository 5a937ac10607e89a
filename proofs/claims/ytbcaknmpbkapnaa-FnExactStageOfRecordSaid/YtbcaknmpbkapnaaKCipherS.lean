/- Slices of Cipher as a kind (printed by genkinds.py): the walks of the laws' helpers. -/
import Derived.Test.YtbcaknmpbkapnaaKCipher
import Derived.Test.YtbcaknmpbkapnaaBa
namespace Go.Proofs.Ytbcaknmpbkapnaa
open Go.RowKit
set_option linter.unusedSimpArgs false
set_option linter.unusedVariables false

def szCipherS (ds : List CipherD) : Nat := ds.length + (ds.map szCipher).sum
/-- the marks of an element in a row -/
def fcCipher (d : CipherD) : Nat := 2 + cnCipher d
def cnCipherS (ds : List CipherD) : Nat := (ds.map fcCipher).sum
theorem cnCipherS_le (ds : List CipherD) : cnCipherS ds ≤ 4 * szCipherS ds := by
  unfold cnCipherS szCipherS
  induction ds with
  | nil => simp
  | cons d ds ih =>
    have := cnCipher_le d
    simp only [List.map_cons, List.sum_cons, List.length_cons, fcCipher] at *
    omega
theorem sumCipherS_succ {f : CipherD → Nat} {ds : List CipherD} {k : Nat} (h : k < ds.length) : ((ds.take (k + 1)).map f).sum = ((ds.take k).map f).sum + f ds[k] := by
  rw [List.take_succ_eq_append_getElem h, List.map_append, List.sum_append]; simp
theorem sumCipherS_le {f : CipherD → Nat} {ds : List CipherD} {k : Nat} : ((ds.take k).map f).sum ≤ (ds.map f).sum := by
  conv => rhs; rw [← List.take_append_drop k ds]
  rw [List.map_append, List.sum_append]; omega
set_option maxHeartbeats 4000000 in
theorem laws_eqCipherS (v1 v2 : Value) (l1 l2 : List CipherD) (w : World) (h1 : (kR 75 rCipher).rd w v1 l1) (h2 : (kR 75 rCipher).rd w v2 l2) :
    Calls Try.prog 24 #[v1, v2] w fun e w' => e = .returned (.bool (decide (l1 = l2))) ∧ Below w.heap.size w w' := by
  obtain ⟨a, n, c, rfl⟩ := RdR.shape h1
  obtain ⟨a2, n2, c2, rfl⟩ := RdR.shape h2
  have e := RdR.len h1
  have e2 := RdR.len h2
  obtain ⟨k1, k2⟩ := RdR.capMax h1
  obtain ⟨k3, k4⟩ := RdR.capMax h2
  unfold maxLen at k2 k4
  have HE := Lib.hid e
  have HE2 := Lib.hid e2
  have H1 : Hid (RdR rCipher w (.slice a n c) l1) := h1; clear h1
  have H2 : Hid (RdR rCipher w (.slice a2 n2 c2) l2) := h2; clear h2
  by_cases hn : n = n2
  · subst hn
    clear e e2
    go_enter Try.func24, Try.ntmps24
    go_wp2_with fail
    go_loopg [5] n (fun g i wr => ∃ k : Nat, k + g = n ∧ i = .int .i64 k ∧ Hid (∀ j (h : j < l1.length) (h' : j < l2.length), j < k → l1[j] = l2[j]) ∧ Below w.heap.size w wr)
    case atStart => exact ⟨0, by omega, rfl, fun j _ _ h => by omega, Below.refl _ _⟩
    case round =>
      obtain ⟨k, hkg, rfl, hF, hb⟩ := hrel
      by_cases hlt : k < n
      · have HK1 : Hid (k < l1.length) := by unfold Hid; rw [HE.out]; exact hlt
        have HK2 : Hid (k < l2.length) := by unfold Hid; rw [HE2.out]; exact hlt
        obtain ⟨b, o, rfl, hcx⟩ := RdR.at_ H1.out (by omega)
        obtain ⟨vs, hcell, hrd⟩ := hcx k HK1.out
        obtain ⟨b2, o2, rfl, hcx2⟩ := RdR.at_ H2.out (by omega)
        obtain ⟨vs2, hcell2, hrd2⟩ := hcx2 k HK2.out
        obtain ⟨q, hq⟩ : ∃ q, decide (l1[k]'HK1.out = l2[k]'HK2.out) = q := ⟨_, rfl⟩
        have HQ := Lib.hid hq
        generalize hd1 : l1[k]'HK1.out = d1 at hrd hq
        generalize hd2 : l2[k]'HK2.out = d2 at hrd2 hq
        have HQ' := Lib.hid hq
        clear hd1 hd2 hq
        obtain ⟨_, rfl, i1, ⟨_, rfl, i2, rfl⟩⟩ := hrd
        obtain ⟨_, rfl, i3, ⟨_, rfl, i4, rfl⟩⟩ := hrd2
        have x0 : w.cell? ⟨b, o + (k * 2 + 0), none⟩ = some (.int .i64 d1.a) := hcell 0 (by decide)
        replace x0 : w.cell? ⟨b, o + k * 2, none⟩ = some (.int .i64 d1.a) := by rw [Nat.add_zero] at x0; exact x0
        have x1 : w.cell? ⟨b, o + (k * 2 + 1), none⟩ = some (.int .i64 d1.b) := hcell 1 (by decide)
        replace x1 : w.cell? ⟨b, o + k * 2 + 1, none⟩ = some (.int .i64 d1.b) := by rw [← Nat.add_assoc] at x1; exact x1
        have y0 : w.cell? ⟨b2, o2 + (k * 2 + 0), none⟩ = some (.int .i64 d2.a) := hcell2 0 (by decide)
        replace y0 : w.cell? ⟨b2, o2 + k * 2, none⟩ = some (.int .i64 d2.a) := by rw [Nat.add_zero] at y0; exact y0
        have y1 : w.cell? ⟨b2, o2 + (k * 2 + 1), none⟩ = some (.int .i64 d2.b) := hcell2 1 (by decide)
        replace y1 : w.cell? ⟨b2, o2 + k * 2 + 1, none⟩ = some (.int .i64 d2.b) := by rw [← Nat.add_assoc] at y1; exact y1
        have HR : Hid ((kS rCipher).rd wr (.agg #[.int .i64 d1.a, .int .i64 d1.b]) d1) := (kS rCipher).rd_below (rdCipher.2 ⟨rfl, i1, i2⟩) hb
        have HR2 : Hid ((kS rCipher).rd wr (.agg #[.int .i64 d2.a, .int .i64 d2.b]) d2) := (kS rCipher).rd_below (rdCipher.2 ⟨rfl, i3, i4⟩) hb
        have gx0 := fun u => grow_cell (box_at x0 hb) u
        have gy0 := fun u => grow_cell (box_at y0 hb) u
        clear x0 y0
        have gx1 := fun u => grow_cell (box_at x1 hb) u
        have gy1 := fun u => grow_cell (box_at y1 hb) u
        clear x1 y1
        have z1 : (0 : Int) ≤ (k : Int) := by omega
        have z2 : (k : Int) < (n : Int) := by omega
        clear hcell hcell2 hcx hcx2 i1 i2 i3 i4
        cases q with
        | true =>
          go_wp2_with fail
          (refine wp_region_grow (by kernel_rfl) (by kernel_rfl) ?_; (repeat (go_big_quiet_step ((first | (go_at_call 53; refine calls_grow (laws_eqCipher _ _ d1 d2 _ ((kS rCipher).rd_below HR.out (grow_below _ _)) ((kS rCipher).rd_below HR2.out (grow_below _ _))) (fun e w' h => ⟨by rw [h.1, HQ'.out], h.2⟩)) | fail)))); refine wpQuiet_nil ?_; intro _ hw'; obtain ⟨uq, hw''⟩ := hw'; subst hw''; have hbq := grow_below wr uq; generalize grow wr uq = wq at hbq ⊢)
          go_wp2_with fail
          go_roundg (n - (k + 1))
          case measure => omega
          case rel =>
            refine ⟨k + 1, by omega, by go_num, fun j h h' hj => ?_, hb.trans (hbq.mono hb.size)⟩
            rcases Nat.lt_or_ge j k with hjk | hjk
            · exact hF.out j h h' hjk
            · obtain rfl : j = k := by omega
              exact of_decide_eq_true HQ.out
        | false =>
          have HR' : Hid (decide (l1 = l2) = false) := by
            refine decide_eq_false fun h => ?_
            have := of_decide_eq_false HQ.out
            subst h; exact this rfl
          go_wp2_with fail
          (refine wp_region_grow (by kernel_rfl) (by kernel_rfl) ?_; (repeat (go_big_quiet_step ((first | (go_at_call 53; refine calls_grow (laws_eqCipher _ _ d1 d2 _ ((kS rCipher).rd_below HR.out (grow_below _ _)) ((kS rCipher).rd_below HR2.out (grow_below _ _))) (fun e w' h => ⟨by rw [h.1, HQ'.out], h.2⟩)) | fail)))); refine wpQuiet_nil ?_; intro _ hw'; obtain ⟨uq, hw''⟩ := hw'; subst hw''; have hbq := grow_below wr uq; generalize grow wr uq = wq at hbq ⊢)
          go_wp2_with fail
          go_ret
          exact ⟨ret_bool (by first | (rw [HR'.out]; done) | (rw [HR'.out]; rfl) | exact HR'.out.symm), hb.trans (hbq.mono hb.size)⟩
      · obtain rfl : n = k := by omega
        have HR' : Hid (decide (l1 = l2) = true) := by
          refine decide_eq_true (List.ext_getElem (by rw [HE.out, HE2.out]) fun j h h' => hF.out j h h' (by rw [HE.out] at h; exact h))
        go_wp2_with fail
        go_ret
        exact ⟨ret_bool (by first | (rw [HR'.out]; done) | (rw [HR'.out]; rfl) | exact HR'.out.symm), hb⟩
  · have HR : Hid (decide (l1 = l2) = false) := decide_eq_false fun h => hn (by rw [← e, ← e2, h])
    clear e e2
    have hn1 : ¬ ((n : Int) = (n2 : Int)) := by omega
    go_enter Try.func24, Try.ntmps24
    go_wp2_with fail
    go_ret
    exact ⟨ret_bool (by first | (rw [HR.out]; done) | (rw [HR.out]; rfl) | exact HR.out.symm), Below.refl _ _⟩
theorem info_Cipher : ∃ i, Try.prog.info? 75 = some i ∧ i.zero = some (.agg #[.int .i64 0, .int .i64 0]) ∧ i.size = 2 ∧ i.bytes ≤ 1000 := by
  have h : (Try.prog.info? 75).map (fun i => (i.zero, i.size, decide (i.bytes ≤ 1000))) = some (some (.agg #[.int .i64 0, .int .i64 0]), 2, true) := by kernel_rfl
  obtain ⟨i, hi, hz⟩ := Option.map_eq_some_iff.1 h
  simp only [Prod.mk.injEq] at hz
  exact ⟨i, hi, hz.1, hz.2.1, of_decide_eq_true hz.2.2⟩
/-- an element in a row, with marks from k0 on; a slice of them -/
def fmCipher (k0 : Nat) (d : CipherD) : CipherD := ⟨((k0 : Nat) : Int), ((k0 + 1 : Nat) : Int)⟩
def mkCipherS : Nat → List CipherD → List CipherD
  | _, [] => []
  | k0, d :: ds => fmCipher k0 d :: mkCipherS (k0 + fcCipher d) ds
theorem mkCipherS_length : ∀ {k0 : Nat} {ds : List CipherD}, (mkCipherS k0 ds).length = ds.length
  | _, [] => rfl
  | k0, d :: ds => by rw [mkCipherS, List.length_cons, List.length_cons, mkCipherS_length]
theorem mkCipherS_at : ∀ {k0 i : Nat} {ds : List CipherD} (h : i < ds.length) (h' : i < (mkCipherS k0 ds).length), (mkCipherS k0 ds)[i] = fmCipher (k0 + ((ds.take i).map fcCipher).sum) ds[i]
  | _, _, [], h, _ => by simp at h
  | k0, 0, d :: ds, _, _ => by simp [mkCipherS]
  | k0, i + 1, d :: ds, h, h' => by
    have := mkCipherS_at (k0 := k0 + fcCipher d) (i := i) (ds := ds) (by simpa using h) (by rw [mkCipherS_length]; simpa using h)
    simp only [mkCipherS, List.getElem_cons_succ, List.take_succ_cons, List.map_cons, List.sum_cons]
    rw [this, Nat.add_assoc]
theorem fcCipher_end (k0 : Nat) (d : CipherD) : k0 + fcCipher d = k0 + 1 + 1 := by
  unfold fcCipher; unfold cnCipher; omega
set_option maxHeartbeats 8000000 in
theorem laws_markCipherS (lo hi : Nat) (v : Value) (k0 : Nat) (ds : List CipherD) (w : World) (h : (kR 75 rCipher).own w lo hi v ds) (hk : k0 + cnCipherS ds ≤ 9223372036854775806) (hhi : hi ≤ w.heap.size) :
    Calls Try.prog 27 #[v, .int .i64 k0] w fun e w' => e = .returned (.int .i64 (k0 + cnCipherS ds : Nat)) ∧ (kR 75 rCipher).own w' lo hi v (mkCipherS k0 ds) ∧ Within lo hi w w' := by
  obtain ⟨a, n, c, rfl⟩ := RdR.shape (OwnR.rd h)
  have e := RdR.len (OwnR.rd h)
  have HE := Lib.hid e
  obtain ⟨k1, k2⟩ := RdR.capMax (OwnR.rd h)
  unfold maxLen at k2
  obtain ⟨css0, los, his, hl0, hO0, hg0, hel0, hd0⟩ := h
  have hu0 := OwnR.lens (e := 75) hl0 hel0
  rw [e] at hl0 hO0 hg0 hd0
  have HK := Lib.hid hk; clear hk
  have HG0 := Lib.hid hg0; clear hg0
  have HD := Lib.hid hd0; clear hd0
  have HLB : Hid (∀ i, i < n → lo ≤ los i ∧ his i ≤ hi) := fun i hi => (hel0 i (by omega) (by omega)).2
  have HO0 := Lib.hid hO0; clear hO0
  have HL0 := Lib.hid hl0
  have HU0 : Hid (∀ c ∈ css0, c.length = 2) := hu0
  have HEL0 : Hid (∀ i (h1 : i < css0.length) (h2 : i < ds.length), rCipher.own w (los i) (his i) css0[i] (if i < 0 then fmCipher (k0 + ((ds.take i).map fcCipher).sum) ds[i] else ds[i])) := fun i h1 h2 => (hel0 i h1 h2).1
  clear hel0 hu0 hl0 e
  go_enter Try.func27, Try.ntmps27
  go_wp2_with fail
  go_loopg [1, 5] n (fun g q i wr => ∃ (k : Nat) (css : List (List Value)), k + g = n ∧ i = .int .i64 k ∧ q = .int .i64 (k0 + ((ds.take k).map fcCipher).sum : Nat) ∧ Hid (css.length = n) ∧ Hid (∀ c ∈ css, c.length = 2) ∧ wr.ownsRow lo 75 2 (.slice a n c) n css.flatten ∧
    Hid (∀ i (h1 : i < css.length) (h2 : i < ds.length), rCipher.own wr (los i) (his i) css[i] (if i < k then fmCipher (k0 + ((ds.take i).map fcCipher).sum) ds[i] else ds[i])) ∧ Within lo hi w wr)
  case atStart => exact ⟨0, css0, by omega, rfl, rfl, HL0.out, HU0.out, HO0.out, HEL0.out, Within.refl _ _ _⟩
  case round =>
    obtain ⟨k, css, hkg, rfl, rfl, hvl, hcl, hO, hel, hW⟩ := hrel
    by_cases hlt : k < n
    · have HK1 : Hid (k < ds.length) := by unfold Hid; rw [HE.out]; exact hlt
      have HC : Hid (k < css.length) := by unfold Hid; rw [hvl.out]; exact hlt
      have hnb : (0 : Nat) < n := by omega
      obtain ⟨g, rfl⟩ : ∃ g, a = some ⟨g, 0, none⟩ := by
        rcases hO.2 with ⟨h1, h2⟩ | ⟨g, cap, cur, h1, _⟩
        · omega
        · cases h1; exact ⟨_, rfl⟩
      have hgb := HG0.out g rfl
      have hgd : g < los k ∨ his k ≤ g := hgb.2 k hlt
      have hgi : g < hi := hgb.1
      have hgl : lo ≤ g := (hO.lt g rfl).1
      have hgs : g < wr.heap.size := (hO.lt g rfl).2
      have hlb := HLB.out k hlt
      have hrow := hel.out k HC.out HK1.out
      rw [if_neg (by omega)] at hrow
      have hT := sumCipherS_succ (f := fcCipher) HK1.out
      have hT2 := sumCipherS_le (f := fcCipher) (ds := ds) (k := k + 1)
      obtain ⟨d, hdk⟩ : ∃ d, ds[k]'HK1.out = d := ⟨_, rfl⟩
      have HDK := Lib.hid hdk
      obtain ⟨row, hcr⟩ : ∃ r, css[k]'HC.out = r := ⟨_, rfl⟩
      rw [hdk, hcr] at hrow
      rw [hdk] at hT
      have hset : css.set k row = css := by rw [← hcr]; exact List.set_getElem_self _
      rw [← hset] at hO
      obtain ⟨kk, hkk⟩ : ∃ kk, k0 + ((ds.take k).map fcCipher).sum = kk := ⟨_, rfl⟩
      have HKK := Lib.hid hkk
      have hkb : kk + fcCipher d ≤ 9223372036854775806 := by have := HK.out; unfold cnCipherS at this; omega
      rw [fcCipher_end] at hkb
      rw [hkk]
      have HT : Hid (k0 + ((ds.take (k + 1)).map fcCipher).sum = kk + fcCipher d) := by unfold Hid; omega
      clear hT hT2 hdk hcr hset hkk hgb
      obtain ⟨_, rfl, i_a, ⟨_, rfl, i_b, rfl⟩⟩ := hrow
      clear i_a
      clear i_b
      have RO0 := Lib.hid hO; clear hO
      have hbd : k * 2 + 2 ≤ n * 2 := by have := Nat.mul_le_mul_right 2 (show k + 1 ≤ n from hlt); rw [Nat.succ_mul] at this; exact this
      have hws := hW.size
      have GW0 := Lib.hid hW; clear hW
      have OT0 : Hid (∀ i (h1 : i < css.length) (h2 : i < ds.length), i ≠ k → rCipher.own wr (los i) (his i) css[i] (if i < k then fmCipher (k0 + ((ds.take i).map fcCipher).sum) ds[i] else ds[i])) := fun i h1 h2 _ => hel.out i h1 h2
      clear hel
      have f0 : wr.frozen? ⟨g, k * 2, none⟩ = false := World.ownsRow.frozenAt RO0.out _
      have y0 : wr.cell? ⟨g, k * 2, none⟩ = some (.int .i64 d.a) := by have q := row_cell RO0.out hcl.out hvl.out hlt rfl (j := 0) (by omega); rw [Nat.add_zero] at q; exact q
      have f1 : wr.frozen? ⟨g, k * 2 + 1, none⟩ = false := World.ownsRow.frozenAt RO0.out _
      have y1 : wr.cell? ⟨g, k * 2 + 1, none⟩ = some (.int .i64 d.b) := by have q := row_cell RO0.out hcl.out hvl.out hlt rfl (j := 1) (by omega); exact q
      obtain ⟨q1, hqq1⟩ : ∃ q : Nat, q = kk + 1 := ⟨_, rfl⟩
      have eq1 : (kk : Int) + 1 = (q1 : Int) := by omega
      have Eq1 := Lib.hid hqq1; clear hqq1
      obtain ⟨q2, hqq2⟩ : ∃ q : Nat, q = q1 + 1 := ⟨_, rfl⟩
      have eq2 : (q1 : Int) + 1 = (q2 : Int) := by omega
      have Eq2 := Lib.hid hqq2; clear hqq2
      go_wp2_with fail
      obtain ⟨V0, hV⟩ : ∃ V, V = ((wr.setCell ⟨g, k * 2, none⟩ (.int .i64 (kk : Nat))).setCell ⟨g, k * 2 + 1, none⟩ (.int .i64 (q1 : Nat))) := ⟨_, rfl⟩
      rw [← hV]
      have RO1 : Hid (V0.ownsRow lo 75 2 (.slice (some ⟨g, 0, none⟩) n c) n (css.set k [.int .i64 (kk : Nat), .int .i64 (q1 : Nat)]).flatten) := by unfold Hid; rw [hV]; exact (row_store (row_store RO0.out hcl.out hvl.out hlt rfl (j := 0) (by omega) (.int .i64 (kk : Nat))) hcl.out hvl.out hlt rfl (j := 1) (by omega) (.int .i64 (q1 : Nat)))
      have gw : Within g (g + 1) wr V0 := by rw [hV]; exact ((Within.refl _ _ _ |>.setCell (by omega) (by omega) _ _) |>.setCell (by omega) (by omega) _ _)
      have us1 := gw.size
      clear hV
      have GW1 := Lib.hid (GW0.out.trans (gw.mono (by omega) (by omega)))
      have OT1 : Hid (∀ i (h1 : i < css.length) (h2 : i < ds.length), i ≠ k → rCipher.own V0 (los i) (his i) css[i] (if i < k then fmCipher (k0 + ((ds.take i).map fcCipher).sum) ds[i] else ds[i])) := fun i h1 h2 h3 => by
        have hgi2 := (HG0.out g rfl).2 i (by have := HE.out; omega)
        exact RowK.kept (OT0.out i h1 h2 h3) gw (by omega)
      clear gw
      go_roundg (n - (k + 1))
      case measure => omega
      case rel =>
        have hfc : q2 = kk + fcCipher d := by rw [fcCipher_end]; have := Eq1.out; have := Eq2.out; omega
        refine ⟨k + 1, css.set k [.int .i64 (kk : Nat), .int .i64 (q1 : Nat)], by omega, by go_num, by rw [HT.out, ← hfc], by have := hvl.out; unfold Hid; simpa using this, fun c hc => ?_, RO1.out, fun i h1 h2 => ?_, GW1.out⟩
        · rcases List.mem_or_eq_of_mem_set hc with h | rfl
          · exact hcl.out _ h
          · rfl
        · by_cases hik : i = k
          · subst hik
            rw [if_pos (by omega), List.getElem_set_self, HDK.out, HKK.out]
            have hfm : fmCipher kk d = ⟨((kk : Nat) : Int), ((q1 : Nat) : Int)⟩ := by
              unfold fmCipher
              have hq1 := Eq1.out; have hq2 := Eq2.out
              subst_vars
              rfl
            rw [hfm]
            exact ⟨_, rfl, (⟨by omega, by have := Eq1.out; have := Eq2.out; omega⟩ : I64 ((kk : Nat) : Int)), ⟨_, rfl, (⟨by omega, by have := Eq1.out; have := Eq2.out; omega⟩ : I64 ((q1 : Nat) : Int)), rfl⟩⟩
          · have h3 := OT1.out i (by simpa using h1) h2 hik
            rw [List.getElem_set_ne (by omega)]
            by_cases hi2 : i < k
            · rw [if_pos hi2] at h3; rw [if_pos (by omega)]; exact h3
            · rw [if_neg hi2] at h3; rw [if_neg (by omega)]; exact h3
    · obtain rfl : n = k := by omega
      have HRow := Lib.hid hO; clear hO
      go_wp2_with fail
      go_ret
      refine ⟨ret_int (by rw [List.take_of_length_le (by rw [HE.out]; exact Nat.le_refl _)]; rfl), ⟨css, los, his, by rw [mkCipherS_length, HE.out]; exact hvl.out, by rw [mkCipherS_length, HE.out]; exact HRow.out, fun g hg => ?_, fun i h1 h2 => ?_, fun i j hi hj => ?_⟩, hW⟩
      · have := HG0.out g hg
        exact ⟨this.1, fun i hi => this.2 i (by rw [mkCipherS_length, HE.out] at hi; exact hi)⟩
      · have h2' : i < ds.length := by rw [mkCipherS_length] at h2; exact h2
        have h3 := hel.out i h1 h2'
        rw [if_pos (by rw [HE.out] at h2'; exact h2')] at h3
        refine ⟨?_, HLB.out i (by rw [HE.out] at h2'; exact h2')⟩
        rw [mkCipherS_at h2']
        exact h3
      · rw [mkCipherS_length, HE.out] at hi hj
        exact HD.out i j hi hj
set_option maxHeartbeats 8000000 in
theorem laws_heldCipherS (v : Value) (k0 : Nat) (ds : List CipherD) (w : World) (h : (kR 75 rCipher).rd w v (mkCipherS k0 ds)) (hk : k0 + cnCipherS ds ≤ 9223372036854775806) :
    Calls Try.prog 30 #[v, .int .i64 k0] w fun e w' => e = .returned (.int .i64 (k0 + cnCipherS ds : Nat)) ∧ Below w.heap.size w w' := by
  obtain ⟨a, n, c, rfl⟩ := RdR.shape h
  have e := RdR.len h
  rw [mkCipherS_length] at e
  have HE := Lib.hid e
  obtain ⟨k1, k2⟩ := RdR.capMax h
  unfold maxLen at k2
  have HK := Lib.hid hk; clear hk
  have H : Hid (RdR rCipher w (.slice a n c) (mkCipherS k0 ds)) := h; clear h e
  go_enter Try.func30, Try.ntmps30
  go_wp2_with fail
  go_loopg [1, 5] n (fun g q i wr => ∃ k : Nat, k + g = n ∧ i = .int .i64 k ∧ q = .int .i64 (k0 + ((ds.take k).map fcCipher).sum : Nat) ∧ Below w.heap.size w wr)
  case atStart => exact ⟨0, by omega, rfl, rfl, Below.refl _ _⟩
  case round =>
    obtain ⟨k, hkg, rfl, rfl, hb⟩ := hrel
    by_cases hlt : k < n
    · have HK1 : Hid (k < ds.length) := by unfold Hid; rw [HE.out]; exact hlt
      obtain ⟨b, o, rfl, hcx⟩ := RdR.at_ H.out (by omega)
      obtain ⟨us, hcell, hrd⟩ := hcx k (by rw [mkCipherS_length]; exact HK1.out)
      rw [mkCipherS_at HK1.out] at hrd
      have hT := sumCipherS_succ (f := fcCipher) HK1.out
      have hT2 := sumCipherS_le (f := fcCipher) (ds := ds) (k := k + 1)
      obtain ⟨d, hdk⟩ : ∃ d, ds[k]'HK1.out = d := ⟨_, rfl⟩
      rw [hdk] at hrd hT
      obtain ⟨kk, hkk⟩ : ∃ kk, k0 + ((ds.take k).map fcCipher).sum = kk := ⟨_, rfl⟩
      rw [hkk] at hrd ⊢
      have hkb : kk + fcCipher d ≤ 9223372036854775806 := by have := HK.out; unfold cnCipherS at this; omega
      rw [fcCipher_end] at hkb
      have HT : Hid (k0 + ((ds.take (k + 1)).map fcCipher).sum = kk + fcCipher d) := by unfold Hid; omega
      clear hT hT2 hdk hkk hcx
      obtain ⟨q1, hqq1⟩ : ∃ q : Nat, q = kk + 1 := ⟨_, rfl⟩
      obtain ⟨q2, hqq2⟩ : ∃ q : Nat, q = q1 + 1 := ⟨_, rfl⟩
      have hfm : fmCipher kk d = ⟨((kk : Nat) : Int), ((q1 : Nat) : Int)⟩ := by
        unfold fmCipher; subst_vars; rfl
      rw [hfm] at hrd
      clear hfm
      obtain ⟨_, rfl, i9, ⟨_, rfl, i10, rfl⟩⟩ := hrd
      clear i9
      clear i10
      have y0 : w.cell? ⟨b, o + (k * 2 + 0), none⟩ = some (.int .i64 (kk : Nat)) := hcell 0 (by decide)
      replace y0 : w.cell? ⟨b, o + k * 2, none⟩ = some (.int .i64 (kk : Nat)) := by rw [Nat.add_zero] at y0; exact y0
      have y1 : w.cell? ⟨b, o + (k * 2 + 1), none⟩ = some (.int .i64 (q1 : Nat)) := hcell 1 (by decide)
      replace y1 : w.cell? ⟨b, o + k * 2 + 1, none⟩ = some (.int .i64 (q1 : Nat)) := by rw [← Nat.add_assoc] at y1; exact y1
      have y0 := box_at y0 hb
      have y1 := box_at y1 hb
      clear hcell
      have HB0 := Lib.hid hb; clear hb
      have eq1 : (kk : Int) + 1 = (q1 : Int) := by omega
      have eq2 : (q1 : Int) + 1 = (q2 : Int) := by omega
      have Eq1 := Lib.hid hqq1; clear hqq1
      have Eq2 := Lib.hid hqq2; clear hqq2
      go_wp2_with fail
      go_roundg (n - (k + 1))
      case measure => omega
      case rel =>
        have hfc : q2 = kk + fcCipher d := by rw [fcCipher_end]; have := Eq1.out; have := Eq2.out; omega
        exact ⟨k + 1, by omega, by go_num, by rw [HT.out, ← hfc], HB0.out⟩
    · obtain rfl : n = k := by omega
      go_wp2_with fail
      go_ret
      exact ⟨ret_int (by rw [List.take_of_length_le (by rw [HE.out]; exact Nat.le_refl _)]; rfl), hb⟩
end Go.Proofs.Ytbcaknmpbkapnaa
