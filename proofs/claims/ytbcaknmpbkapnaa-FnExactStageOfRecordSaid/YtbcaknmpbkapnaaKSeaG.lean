/- Sealed ballots and stages whose parts lie apart in memory, piece by piece (printed by gen_kseag.py). -/
import Derived.Test.YtbcaknmpbkapnaaKSealed
import Derived.Test.YtbcaknmpbkapnaaKStage
namespace Go.Proofs.Ytbcaknmpbkapnaa
open Go.RowKit
set_option linter.unusedSimpArgs false
set_option linter.unusedVariables false

/-- nothing has turned but blocks of S (and new ones) -/
structure WithinS (S : Nat → Prop) (w w' : World) : Prop where
  os : w'.os = w.os
  tape : w'.tape = w.tape
  output : w'.output = w.output
  size : w.heap.size ≤ w'.heap.size
  block : ∀ k, k < w.heap.size → ¬ S k → w'.heap[k]? = w.heap[k]?
section
variable {S : Nat → Prop} {w w1 w' : World}
theorem WithinS.refl (S : Nat → Prop) (w : World) : WithinS S w w := ⟨rfl, rfl, rfl, Nat.le_refl _, fun _ _ _ => rfl⟩
theorem WithinS.trans (h : WithinS S w w1) (h2 : WithinS S w1 w') : WithinS S w w' :=
  ⟨h2.os.trans h.os, h2.tape.trans h.tape, h2.output.trans h.output, Nat.le_trans h.size h2.size, fun k hk hn => (h2.block k (Nat.lt_of_lt_of_le hk h.size) hn).trans (h.block k hk hn)⟩
theorem WithinS.of {lo hi : Nat} (h : Within lo hi w w') (hs : ∀ k, lo ≤ k → k < hi → S k) : WithinS S w w' :=
  ⟨h.os, h.tape, h.output, h.size, fun k hk hn => h.block k hk (by
    by_cases h1 : lo ≤ k
    · by_cases h2 : k < hi
      · exact absurd (hs k h1 h2) hn
      · omega
    · omega)⟩
theorem WithinS.of_below (h : Below w.heap.size w w') : WithinS S w w' := ⟨h.os, h.tape, h.output, h.size, fun k hk _ => h.block k hk⟩
theorem WithinS.to {lo hi : Nat} (h : WithinS S w w') (hs : ∀ k, S k → lo ≤ k ∧ k < hi) : Within lo hi w w' :=
  ⟨h.os, h.tape, h.output, h.size, fun k hk hn => h.block k hk fun q => by have := hs k q; omega⟩
theorem WithinS.up {S' : Nat → Prop} (h : WithinS S w w') (hs : ∀ k, S k → S' k) : WithinS S' w w' := ⟨h.os, h.tape, h.output, h.size, fun k hk hn => h.block k hk fun q => hn (hs k q)⟩
theorem Kind.keptS {δ : Type} {K : Kind δ} {lo hi : Nat} {v : Value} {d : δ} (h : K.own w lo hi v d) (hw : WithinS S w w') (hd : ∀ k, lo ≤ k → k < hi → ¬ S k) : K.own w' lo hi v d := K.own_frame h fun k h1 h2 hk => hw.block k hk (hd k h1 h2)
theorem RowK.keptS {δ : Type} {R : RowK δ} {lo hi : Nat} {vs : List Value} {d : δ} (h : R.own w lo hi vs d) (hw : WithinS S w w') (hd : ∀ k, lo ≤ k → k < hi → ¬ S k) : R.own w' lo hi vs d := R.own_frame h fun k h1 h2 hk => hw.block k hk (hd k h1 h2)
theorem BoxN.keptS {b : Nat} {t : TypeId} {cs : List Value} (h : BoxN w b t cs) (hw : WithinS S w w') (hb : ¬ S b) : BoxN w' b t cs := (hw.block b h.lt hb).trans h
end
/-- own rows of structs, the places of the rows' memory told -/
def OwnRX {δ : Type} (e : TypeId) (R : RowK δ) (los his : Nat → Nat) (w : World) (lo hi : Nat) (v : Value) (ds : List δ) : Prop :=
  ∃ css : List (List Value), css.length = ds.length ∧ w.ownsRow lo e R.width v ds.length css.flatten ∧ (∀ g, v.ownBlock = some g → g < hi ∧ ∀ i, i < ds.length → g < los i ∨ his i ≤ g) ∧
    (∀ i (h1 : i < css.length) (h2 : i < ds.length), R.own w (los i) (his i) css[i] ds[i] ∧ lo ≤ los i ∧ his i ≤ hi) ∧
    ∀ i j, i < ds.length → j < ds.length → i ≠ j → his i ≤ los j ∨ his j ≤ los i
section
variable {δ : Type} {e : TypeId} {R : RowK δ} {los his : Nat → Nat} {w w' : World} {lo hi lo' hi' : Nat} {v : Value} {ds : List δ}
theorem OwnRX.of (h : OwnR e R w lo hi v ds) : ∃ los his, OwnRX e R los his w lo hi v ds := by
  obtain ⟨css, los, his, h⟩ := h; exact ⟨los, his, css, h⟩
theorem OwnRX.to (h : OwnRX e R los his w lo hi v ds) : OwnR e R w lo hi v ds := by
  obtain ⟨css, h⟩ := h; exact ⟨css, los, his, h⟩
theorem OwnRX.rd (h : OwnRX e R los his w lo hi v ds) : RdR R w v ds := h.to.rd
theorem OwnRX.frame (h : OwnRX e R los his w lo hi v ds) (hg : ∀ g, v.ownBlock = some g → w'.heap[g]? = w.heap[g]?) (hf : ∀ i k, i < ds.length → los i ≤ k → k < his i → k < w.heap.size → w'.heap[k]? = w.heap[k]?) : OwnRX e R los his w' lo hi v ds := by
  obtain ⟨css, hl, hO, hgb, hel, hd⟩ := h
  exact ⟨css, hl, ownsRow_frame hO hg, hgb, fun i h1 h2 => ⟨R.own_frame (hel i h1 h2).1 fun k k1 k2 k3 => hf i k h2 k1 k2 k3, (hel i h1 h2).2⟩, hd⟩
theorem OwnRX.ins (h : OwnRX e R los his w lo hi v ds) : ∀ i, i < ds.length → lo ≤ los i ∧ his i ≤ hi := by
  obtain ⟨css, hl, hO, hgb, hel, hd⟩ := h
  exact fun i hi => (hel i (by omega) hi).2
theorem OwnRX.blk (h : OwnRX e R los his w lo hi v ds) : ∀ g, v.ownBlock = some g → lo ≤ g ∧ g < hi ∧ g < w.heap.size := by
  obtain ⟨css, hl, hO, hgb, hel, hd⟩ := h
  exact fun g hg => ⟨(hO.lt g hg).1, (hgb g hg).1, (hO.lt g hg).2⟩
theorem OwnRX.frame' (h : OwnRX e R los his w lo hi v ds) (hf : ∀ k, lo ≤ k → k < hi → k < w.heap.size → w'.heap[k]? = w.heap[k]?) : OwnRX e R los his w' lo hi v ds :=
  h.frame (fun g hg => by have := h.blk g hg; exact hf g this.1 this.2.1 this.2.2) fun i k hi h1 h2 h3 => by have := h.ins i hi; exact hf k (by omega) (by omega) h3
theorem OwnRX.wide (h : OwnRX e R los his w lo hi v ds) (h1 : lo' ≤ lo) (h2 : hi ≤ hi') : OwnRX e R los his w lo' hi' v ds := by
  obtain ⟨css, hl, hO, hgb, hel, hd⟩ := h
  exact ⟨css, hl, ownsRow_mono hO h1, fun g hg => ⟨by have := (hgb g hg).1; omega, (hgb g hg).2⟩, fun i k1 k2 => ⟨(hel i k1 k2).1, by have := (hel i k1 k2).2; omega, by have := (hel i k1 k2).2; omega⟩, hd⟩
end
set_option maxHeartbeats 8000000 in
theorem laws_markProofSG (los his : Nat → Nat) (lo hi : Nat) (v : Value) (k0 : Nat) (ds : List ProofD) (w : World) (h : OwnRX 26 rProof los his w lo hi v ds) (hk : k0 + cnProofS ds ≤ 9223372036854775806) (hhi : hi ≤ w.heap.size) :
    Calls Try.prog 28 #[v, .int .i64 k0] w fun e w' => e = .returned (.int .i64 (k0 + cnProofS ds : Nat)) ∧ OwnRX 26 rProof los his w' lo hi v (mkProofS k0 ds) ∧ WithinS (fun k => ∃ i, i < ds.length ∧ los i ≤ k ∧ k < his i) w w' := by
  obtain ⟨a, n, c, rfl⟩ := RdR.shape (OwnRX.rd h)
  have e := RdR.len (OwnRX.rd h)
  have HE := Lib.hid e
  obtain ⟨k1, k2⟩ := RdR.capMax (OwnRX.rd h)
  unfold maxLen at k2
  obtain ⟨css0, hl0, hO0, hg0, hel0, hd0⟩ := h
  have hu0 := OwnR.lens (e := 26) hl0 hel0
  rw [e] at hl0 hO0 hg0 hd0
  have HK := Lib.hid hk; clear hk
  have HG0 := Lib.hid hg0; clear hg0
  have HD := Lib.hid hd0; clear hd0
  have HLB : Hid (∀ i, i < n → lo ≤ los i ∧ his i ≤ hi) := fun i hi => (hel0 i (by omega) (by omega)).2
  have HO0 := Lib.hid hO0; clear hO0
  have HL0 := Lib.hid hl0
  have HU0 : Hid (∀ c ∈ css0, c.length = 3) := hu0
  have HEL0 : Hid (∀ i (h1 : i < css0.length) (h2 : i < ds.length), rProof.own w (los i) (his i) css0[i] (if i < 0 then fmProof (k0 + ((ds.take i).map fcProof).sum) ds[i] else ds[i])) := fun i h1 h2 => (hel0 i h1 h2).1
  clear hel0 hu0 hl0 e
  go_enter Try.func28, Try.ntmps28
  go_wp2_with fail
  go_loopg [1, 5] n (fun g q i wr => ∃ (k : Nat) (css : List (List Value)), k + g = n ∧ i = .int .i64 k ∧ q = .int .i64 (k0 + ((ds.take k).map fcProof).sum : Nat) ∧ Hid (css.length = n) ∧ Hid (∀ c ∈ css, c.length = 3) ∧ wr.ownsRow lo 26 3 (.slice a n c) n css.flatten ∧
    Hid (∀ i (h1 : i < css.length) (h2 : i < ds.length), rProof.own wr (los i) (his i) css[i] (if i < k then fmProof (k0 + ((ds.take i).map fcProof).sum) ds[i] else ds[i])) ∧ WithinS (fun k => ∃ i, i < ds.length ∧ los i ≤ k ∧ k < his i) w wr)
  case atStart => exact ⟨0, css0, by omega, rfl, rfl, HL0.out, HU0.out, HO0.out, HEL0.out, WithinS.refl _ _⟩
  case round =>
    obtain ⟨k, css, hkg, rfl, rfl, hvl, hcl, hO, hel, hW⟩ := hrel
    by_cases hlt : k < n
    · have HK1 : Hid (k < ds.length) := by unfold Hid; rw [HE.out]; exact hlt
      have HC : Hid (k < css.length) := by unfold Hid; rw [hvl.out]; exact hlt
      have hnb : (0 : Nat) < n := by omega
      obtain ⟨g, rfl⟩ : ∃ g, a = some ⟨g, 0, none⟩ := by
        rcases hO.2 with ⟨h1, h2⟩ | ⟨g, cap, cur, h1, _⟩
        · omega
        · cases h1; exact ⟨_, rfl⟩
      have hgb := HG0.out g rfl
      have hgd : g < los k ∨ his k ≤ g := hgb.2 k hlt
      have hgi : g < hi := hgb.1
      have hgl : lo ≤ g := (hO.lt g rfl).1
      have hgs : g < wr.heap.size := (hO.lt g rfl).2
      have hlb := HLB.out k hlt
      have hrow := hel.out k HC.out HK1.out
      rw [if_neg (by omega)] at hrow
      have hT := sumProofS_succ (f := fcProof) HK1.out
      have hT2 := sumProofS_le (f := fcProof) (ds := ds) (k := k + 1)
      obtain ⟨d, hdk⟩ : ∃ d, ds[k]'HK1.out = d := ⟨_, rfl⟩
      have HDK := Lib.hid hdk
      obtain ⟨row, hcr⟩ : ∃ r, css[k]'HC.out = r := ⟨_, rfl⟩
      rw [hdk, hcr] at hrow
      rw [hdk] at hT
      have hset : css.set k row = css := by rw [← hcr]; exact List.set_getElem_self _
      rw [← hset] at hO
      obtain ⟨kk, hkk⟩ : ∃ kk, k0 + ((ds.take k).map fcProof).sum = kk := ⟨_, rfl⟩
      have HKK := Lib.hid hkk
      have hkb : kk + fcProof d ≤ 9223372036854775806 := by have := HK.out; unfold cnProofS at this; omega
      rw [fcProof_end] at hkb
      rw [hkk]
      have HT : Hid (k0 + ((ds.take (k + 1)).map fcProof).sum = kk + fcProof d) := by unfold Hid; omega
      clear hT hT2 hdk hcr hset hkk hgb
      obtain ⟨_, _, l_c, h_c, m_c, t_c, rfl, o_c, ⟨_, _, l_h, h_h, m_h, t_h, rfl, o_h, ⟨_, _, l_r, h_r, m_r, t_r, rfl, o_r, rfl, q_r, r_r, s_r⟩, q_h, r_h, s_h⟩, q_c, r_c, s_c⟩ := hrow
      obtain ⟨ea_0, en_0, ec_0, rfl⟩ := sInts.sl (sInts.own_rd o_c)
      have O_0 := Lib.hid o_c; clear o_c
      obtain ⟨ea_1, en_1, ec_1, rfl⟩ := sInts.sl (sInts.own_rd o_h)
      have O_1 := Lib.hid o_h; clear o_h
      obtain ⟨ea_2, en_2, ec_2, rfl⟩ := sInts.sl (sInts.own_rd o_r)
      have O_2 := Lib.hid o_r; clear o_r
      have RO0 := Lib.hid hO; clear hO
      have hbd : k * 3 + 3 ≤ n * 3 := by have := Nat.mul_le_mul_right 3 (show k + 1 ≤ n from hlt); rw [Nat.succ_mul] at this; exact this
      have hws := hW.size
      have GW0 := Lib.hid hW; clear hW
      have OT0 : Hid (∀ i (h1 : i < css.length) (h2 : i < ds.length), i ≠ k → rProof.own wr (los i) (his i) css[i] (if i < k then fmProof (k0 + ((ds.take i).map fcProof).sum) ds[i] else ds[i])) := fun i h1 h2 _ => hel.out i h1 h2
      clear hel
      have f0 : wr.frozen? ⟨g, k * 3, none⟩ = false := World.ownsRow.frozenAt RO0.out _
      have y0 : wr.cell? ⟨g, k * 3, none⟩ = some (.slice ea_0 en_0 ec_0) := by have q := row_cell RO0.out hcl.out hvl.out hlt rfl (j := 0) (by omega); rw [Nat.add_zero] at q; exact q
      have f1 : wr.frozen? ⟨g, k * 3 + 1, none⟩ = false := World.ownsRow.frozenAt RO0.out _
      have y1 : wr.cell? ⟨g, k * 3 + 1, none⟩ = some (.slice ea_1 en_1 ec_1) := by have q := row_cell RO0.out hcl.out hvl.out hlt rfl (j := 1) (by omega); exact q
      have f2 : wr.frozen? ⟨g, k * 3 + 2, none⟩ = false := World.ownsRow.frozenAt RO0.out _
      have y2 : wr.cell? ⟨g, k * 3 + 2, none⟩ = some (.slice ea_2 en_2 ec_2) := by have q := row_cell RO0.out hcl.out hvl.out hlt rfl (j := 2) (by omega); exact q
      go_wp2_with fail
      clear f0 y0 f1 y1 f2 y2
      refine (laws_markI l_c h_c _ kk d.c wr O_0.out (by  omega) (by omega)).mono ?_
      rintro e w1 ⟨rfl, X, gw⟩
      have us1 := gw.size
      have RO1 : Hid (w1.ownsRow lo 26 3 (.slice (some ⟨g, 0, none⟩) n c) n (css.set k [.slice ea_0 en_0 ec_0, .slice ea_1 en_1 ec_1, .slice ea_2 en_2 ec_2]).flatten) := ownsRow_frame RO0.out fun g2 hg2 => by cases hg2; exact gw.block g (by omega) (by omega)
      replace O_1 := Lib.hid (Kind.kept (K := sInts.toKind) O_1.out gw (by omega))
      replace O_2 := Lib.hid (Kind.kept (K := sInts.toKind) O_2.out gw (by omega))
      have GW1 := Lib.hid (GW0.out.trans (WithinS.of gw (fun q h1 h2 => ⟨k, HK1.out, by omega, by omega⟩)))
      have OT1 : Hid (∀ i (h1 : i < css.length) (h2 : i < ds.length), i ≠ k → rProof.own w1 (los i) (his i) css[i] (if i < k then fmProof (k0 + ((ds.take i).map fcProof).sum) ds[i] else ds[i])) := fun i h1 h2 h3 => by
        have hdd := HD.out i k (by have := HE.out; omega) hlt h3
        exact RowK.kept (OT0.out i h1 h2 h3) gw (by omega)
      clear gw
      replace O_0 := Lib.hid X; clear X
      obtain ⟨q1, hqq1⟩ : ∃ q : Nat, kk + d.c.length = q := ⟨_, rfl⟩
      rw [hqq1]
      have Eq1 := Lib.hid hqq1; clear hqq1
      have f0 : w1.frozen? ⟨g, k * 3, none⟩ = false := World.ownsRow.frozenAt RO1.out _
      have y0 : w1.cell? ⟨g, k * 3, none⟩ = some (.slice ea_0 en_0 ec_0) := by have q := row_cell RO1.out hcl.out hvl.out hlt rfl (j := 0) (by omega); rw [Nat.add_zero] at q; exact q
      have f1 : w1.frozen? ⟨g, k * 3 + 1, none⟩ = false := World.ownsRow.frozenAt RO1.out _
      have y1 : w1.cell? ⟨g, k * 3 + 1, none⟩ = some (.slice ea_1 en_1 ec_1) := by have q := row_cell RO1.out hcl.out hvl.out hlt rfl (j := 1) (by omega); exact q
      have f2 : w1.frozen? ⟨g, k * 3 + 2, none⟩ = false := World.ownsRow.frozenAt RO1.out _
      have y2 : w1.cell? ⟨g, k * 3 + 2, none⟩ = some (.slice ea_2 en_2 ec_2) := by have q := row_cell RO1.out hcl.out hvl.out hlt rfl (j := 2) (by omega); exact q
      go_wp2_with fail
      clear f0 y0 f1 y1 f2 y2
      refine (laws_markI l_h h_h _ q1 d.h w1 O_1.out (by have := Eq1.out; omega) (by omega)).mono ?_
      rintro e w2 ⟨rfl, X, gw⟩
      have us2 := gw.size
      have RO2 : Hid (w2.ownsRow lo 26 3 (.slice (some ⟨g, 0, none⟩) n c) n (css.set k [.slice ea_0 en_0 ec_0, .slice ea_1 en_1 ec_1, .slice ea_2 en_2 ec_2]).flatten) := ownsRow_frame RO1.out fun g2 hg2 => by cases hg2; exact gw.block g (by omega) (by omega)
      replace O_0 := Lib.hid (Kind.kept (K := sInts.toKind) O_0.out gw (by omega))
      replace O_2 := Lib.hid (Kind.kept (K := sInts.toKind) O_2.out gw (by omega))
      have GW2 := Lib.hid (GW1.out.trans (WithinS.of gw (fun q h1 h2 => ⟨k, HK1.out, by omega, by omega⟩)))
      have OT2 : Hid (∀ i (h1 : i < css.length) (h2 : i < ds.length), i ≠ k → rProof.own w2 (los i) (his i) css[i] (if i < k then fmProof (k0 + ((ds.take i).map fcProof).sum) ds[i] else ds[i])) := fun i h1 h2 h3 => by
        have hdd := HD.out i k (by have := HE.out; omega) hlt h3
        exact RowK.kept (OT1.out i h1 h2 h3) gw (by omega)
      clear gw
      replace O_1 := Lib.hid X; clear X
      obtain ⟨q2, hqq2⟩ : ∃ q : Nat, q1 + d.h.length = q := ⟨_, rfl⟩
      rw [hqq2]
      have Eq2 := Lib.hid hqq2; clear hqq2
      have f0 : w2.frozen? ⟨g, k * 3, none⟩ = false := World.ownsRow.frozenAt RO2.out _
      have y0 : w2.cell? ⟨g, k * 3, none⟩ = some (.slice ea_0 en_0 ec_0) := by have q := row_cell RO2.out hcl.out hvl.out hlt rfl (j := 0) (by omega); rw [Nat.add_zero] at q; exact q
      have f1 : w2.frozen? ⟨g, k * 3 + 1, none⟩ = false := World.ownsRow.frozenAt RO2.out _
      have y1 : w2.cell? ⟨g, k * 3 + 1, none⟩ = some (.slice ea_1 en_1 ec_1) := by have q := row_cell RO2.out hcl.out hvl.out hlt rfl (j := 1) (by omega); exact q
      have f2 : w2.frozen? ⟨g, k * 3 + 2, none⟩ = false := World.ownsRow.frozenAt RO2.out _
      have y2 : w2.cell? ⟨g, k * 3 + 2, none⟩ = some (.slice ea_2 en_2 ec_2) := by have q := row_cell RO2.out hcl.out hvl.out hlt rfl (j := 2) (by omega); exact q
      go_wp2_with fail
      clear f0 y0 f1 y1 f2 y2
      refine (laws_markI l_r h_r _ q2 d.r w2 O_2.out (by have := Eq1.out; have := Eq2.out; omega) (by omega)).mono ?_
      rintro e w3 ⟨rfl, X, gw⟩
      have us3 := gw.size
      have RO3 : Hid (w3.ownsRow lo 26 3 (.slice (some ⟨g, 0, none⟩) n c) n (css.set k [.slice ea_0 en_0 ec_0, .slice ea_1 en_1 ec_1, .slice ea_2 en_2 ec_2]).flatten) := ownsRow_frame RO2.out fun g2 hg2 => by cases hg2; exact gw.block g (by omega) (by omega)
      replace O_0 := Lib.hid (Kind.kept (K := sInts.toKind) O_0.out gw (by omega))
      replace O_1 := Lib.hid (Kind.kept (K := sInts.toKind) O_1.out gw (by omega))
      have GW3 := Lib.hid (GW2.out.trans (WithinS.of gw (fun q h1 h2 => ⟨k, HK1.out, by omega, by omega⟩)))
      have OT3 : Hid (∀ i (h1 : i < css.length) (h2 : i < ds.length), i ≠ k → rProof.own w3 (los i) (his i) css[i] (if i < k then fmProof (k0 + ((ds.take i).map fcProof).sum) ds[i] else ds[i])) := fun i h1 h2 h3 => by
        have hdd := HD.out i k (by have := HE.out; omega) hlt h3
        exact RowK.kept (OT2.out i h1 h2 h3) gw (by omega)
      clear gw
      replace O_2 := Lib.hid X; clear X
      obtain ⟨q3, hqq3⟩ : ∃ q : Nat, q2 + d.r.length = q := ⟨_, rfl⟩
      rw [hqq3]
      have Eq3 := Lib.hid hqq3; clear hqq3
      have f0 : w3.frozen? ⟨g, k * 3, none⟩ = false := World.ownsRow.frozenAt RO3.out _
      have y0 : w3.cell? ⟨g, k * 3, none⟩ = some (.slice ea_0 en_0 ec_0) := by have q := row_cell RO3.out hcl.out hvl.out hlt rfl (j := 0) (by omega); rw [Nat.add_zero] at q; exact q
      have f1 : w3.frozen? ⟨g, k * 3 + 1, none⟩ = false := World.ownsRow.frozenAt RO3.out _
      have y1 : w3.cell? ⟨g, k * 3 + 1, none⟩ = some (.slice ea_1 en_1 ec_1) := by have q := row_cell RO3.out hcl.out hvl.out hlt rfl (j := 1) (by omega); exact q
      have f2 : w3.frozen? ⟨g, k * 3 + 2, none⟩ = false := World.ownsRow.frozenAt RO3.out _
      have y2 : w3.cell? ⟨g, k * 3 + 2, none⟩ = some (.slice ea_2 en_2 ec_2) := by have q := row_cell RO3.out hcl.out hvl.out hlt rfl (j := 2) (by omega); exact q
      go_wp2_with fail
      go_roundg (n - (k + 1))
      case measure => omega
      case rel =>
        have hfc : q3 = kk + fcProof d := by rw [fcProof_end]; have := Eq1.out; have := Eq2.out; have := Eq3.out; omega
        refine ⟨k + 1, css.set k [.slice ea_0 en_0 ec_0, .slice ea_1 en_1 ec_1, .slice ea_2 en_2 ec_2], by omega, by go_num, by rw [HT.out, ← hfc], by have := hvl.out; unfold Hid; simpa using this, fun c hc => ?_, RO3.out, fun i h1 h2 => ?_, GW3.out⟩
        · rcases List.mem_or_eq_of_mem_set hc with h | rfl
          · exact hcl.out _ h
          · rfl
        · by_cases hik : i = k
          · subst hik
            rw [if_pos (by omega), List.getElem_set_self, HDK.out, HKK.out]
            have hfm : fmProof kk d = ⟨mkI (kk) d.c, mkI (q1) d.h, mkI (q2) d.r⟩ := by
              unfold fmProof
              have hq1 := Eq1.out; have hq2 := Eq2.out; have hq3 := Eq3.out
              subst_vars
              rfl
            rw [hfm]
            exact ⟨_, _, l_c, h_c, m_c, t_c, rfl, O_0.out, ⟨_, _, l_h, h_h, m_h, t_h, rfl, O_1.out, ⟨_, _, l_r, h_r, m_r, t_r, rfl, O_2.out, rfl, q_r, r_r, s_r⟩, q_h, r_h, s_h⟩, q_c, r_c, s_c⟩
          · have h3 := OT3.out i (by simpa using h1) h2 hik
            rw [List.getElem_set_ne (by omega)]
            by_cases hi2 : i < k
            · rw [if_pos hi2] at h3; rw [if_pos (by omega)]; exact h3
            · rw [if_neg hi2] at h3; rw [if_neg (by omega)]; exact h3
    · obtain rfl : n = k := by omega
      have HRow := Lib.hid hO; clear hO
      go_wp2_with fail
      go_ret
      refine ⟨ret_int (by rw [List.take_of_length_le (by rw [HE.out]; exact Nat.le_refl _)]; rfl), ⟨css, by rw [mkProofS_length, HE.out]; exact hvl.out, by rw [mkProofS_length, HE.out]; exact HRow.out, fun g hg => ?_, fun i h1 h2 => ?_, fun i j hi hj => ?_⟩, hW⟩
      · have := HG0.out g hg
        exact ⟨this.1, fun i hi => this.2 i (by rw [mkProofS_length, HE.out] at hi; exact hi)⟩
      · have h2' : i < ds.length := by rw [mkProofS_length] at h2; exact h2
        have h3 := hel.out i h1 h2'
        rw [if_pos (by rw [HE.out] at h2'; exact h2')] at h3
        refine ⟨?_, HLB.out i (by rw [HE.out] at h2'; exact h2')⟩
        rw [mkProofS_at h2']
        exact h3
      · rw [mkProofS_length, HE.out] at hi hj
        exact HD.out i j hi hj
set_option maxHeartbeats 4000000 in
theorem laws_markMatrixProofG (SS : Nat → Prop) (l_columns h_columns l_chain h_chain m_chain t_chain : Nat) (v_columns v_chain : Value) (us : List Value) (k0 : Nat) (d : MatrixProofD) (w : World) (o_columns : sInts.own w l_columns h_columns v_columns d.columns) (o_chain : sInts.own w l_chain h_chain v_chain d.chain) (o_pi : rProof.own w m_chain t_chain us d.pi) (hk : k0 + cnMatrixProof d ≤ 9223372036854775806) (d01 : h_columns ≤ l_chain ∨ h_chain ≤ l_columns) (d02 : h_columns ≤ m_chain ∨ t_chain ≤ l_columns) (d12 : h_chain ≤ m_chain ∨ t_chain ≤ l_chain) (b0 : h_columns ≤ w.heap.size) (b1 : h_chain ≤ w.heap.size) (b2 : t_chain ≤ w.heap.size) (s0 : ∀ k, l_columns ≤ k → k < h_columns → SS k) (s1 : ∀ k, l_chain ≤ k → k < h_chain → SS k) (s2 : ∀ k, m_chain ≤ k → k < t_chain → SS k) :
    Calls Try.prog 37 #[.agg (v_columns :: v_chain :: us).toArray, .int .i64 k0] w fun e w' => e = .returned (.int .i64 (k0 + cnMatrixProof d : Nat)) ∧ (sInts.own w' l_columns h_columns v_columns (mkMatrixProof k0 d).columns ∧ sInts.own w' l_chain h_chain v_chain (mkMatrixProof k0 d).chain ∧ rProof.own w' m_chain t_chain us (mkMatrixProof k0 d).pi) ∧ WithinS SS w w' := by
  have HK : Hid (k0 + cnMatrixProof d = k0 + d.columns.length + d.chain.length + cnProof d.pi) := by unfold Hid cnMatrixProof; omega
  unfold cnMatrixProof at hk
  obtain ⟨ea_columns, en_columns, ec_columns, rfl⟩ := sInts.sl (sInts.own_rd o_columns)
  obtain ⟨ea_chain, en_chain, ec_chain, rfl⟩ := sInts.sl (sInts.own_rd o_chain)
  obtain ⟨v17, _, rfl, h18, ⟨v19, _, rfl, h20, ⟨v21, _, rfl, h22, rfl⟩⟩⟩ := rProof.own_rd o_pi
  obtain ⟨ea_pi0, en_pi0, ec_pi0, rfl⟩ := sInts.sl h18
  clear h18
  obtain ⟨ea_pi1, en_pi1, ec_pi1, rfl⟩ := sInts.sl h20
  clear h20
  obtain ⟨ea_pi2, en_pi2, ec_pi2, rfl⟩ := sInts.sl h22
  clear h22
  obtain ⟨W, hW⟩ : ∃ W, W = w.alloc (.cells #[.slice ea_columns en_columns ec_columns, .slice ea_chain en_chain ec_chain, .slice ea_pi0 en_pi0 ec_pi0, .slice ea_pi1 en_pi1 ec_pi1, .slice ea_pi2 en_pi2 ec_pi2] 38) := ⟨_, rfl⟩
  have hb : Below w.heap.size w W := by rw [hW]; exact (Below.refl _ _).alloc (Nat.le_refl _) _
  have hs0 : W.heap.size = w.heap.size + 1 := by rw [hW]; simp
  have BX0 : Hid (BoxN W w.heap.size 38 [.slice ea_columns en_columns ec_columns, .slice ea_chain en_chain ec_chain, .slice ea_pi0 en_pi0 ec_pi0, .slice ea_pi1 en_pi1 ec_pi1, .slice ea_pi2 en_pi2 ec_pi2]) := by unfold Hid; rw [hW]; exact BoxN.new w [.slice ea_columns en_columns ec_columns, .slice ea_chain en_chain ec_chain, .slice ea_pi0 en_pi0 ec_pi0, .slice ea_pi1 en_pi1 ec_pi1, .slice ea_pi2 en_pi2 ec_pi2] _
  have O_columns := Lib.hid (Kind.next (K := sInts.toKind) o_columns hb)
  clear o_columns
  have O_chain := Lib.hid (Kind.next (K := sInts.toKind) o_chain hb)
  clear o_chain
  have O_pi := Lib.hid (RowK.next o_pi hb)
  clear o_pi
  have G0 : Hid (WithinS SS w W) := WithinS.of_below hb
  clear hb
  go_enter Try.func37, Try.ntmps37
  go_wp2_with fail
  rw [← hW]
  clear hW
  refine (laws_markI l_columns h_columns _ (k0) d.columns W O_columns.out (by omega) (by omega)).mono ?_
  rintro e w1 ⟨rfl, X, g⟩
  replace O_columns := Lib.hid X; clear X
  have us1 := g.size
  have BX1 := Lib.hid (BX0.out.kept g (.inr (by omega)))
  replace O_chain := Lib.hid (Kind.kept (K := sInts.toKind) O_chain.out g (by omega))
  replace O_pi := Lib.hid (RowK.kept O_pi.out g (by omega))
  have G1 := Lib.hid (G0.out.trans (WithinS.of g s0)); clear g
  have p1 := BX1.out.cell (i := 1) rfl
  go_wp2_with fail
  clear p1
  refine (laws_markI l_chain h_chain _ (k0 + d.columns.length) d.chain w1 O_chain.out (by omega) (by omega)).mono ?_
  rintro e w2 ⟨rfl, X, g⟩
  replace O_chain := Lib.hid X; clear X
  have us2 := g.size
  have BX2 := Lib.hid (BX1.out.kept g (.inr (by omega)))
  replace O_columns := Lib.hid (Kind.kept (K := sInts.toKind) O_columns.out g (by omega))
  replace O_pi := Lib.hid (RowK.kept O_pi.out g (by omega))
  have G2 := Lib.hid (G1.out.trans (WithinS.of g s1)); clear g
  have p2 := BX2.out.cell (i := 2) rfl
  have p3 := BX2.out.cell (i := 3) rfl
  have p4 := BX2.out.cell (i := 4) rfl
  go_wp2_with fail
  clear p2 p3 p4
  refine (laws_markProof m_chain t_chain _ (k0 + d.columns.length + d.chain.length) d.pi w2 ⟨_, rfl, O_pi.out⟩ (by omega) (by omega)).mono ?_
  rintro e w3 ⟨rfl, X, g⟩
  obtain ⟨_, hX, X⟩ := X
  have hX2 := congrArg (fun v => match v with | Value.agg a => a.toList | _ => []) hX
  simp only at hX2
  subst hX2
  clear hX
  replace O_pi := Lib.hid X; clear X
  have us3 := g.size
  have BX3 := Lib.hid (BX2.out.kept g (.inr (by omega)))
  replace O_columns := Lib.hid (Kind.kept (K := sInts.toKind) O_columns.out g (by omega))
  replace O_chain := Lib.hid (Kind.kept (K := sInts.toKind) O_chain.out g (by omega))
  have G3 := Lib.hid (G2.out.trans (WithinS.of g s2)); clear g
  go_wp2_with fail
  go_ret
  exact ⟨ret_int (by rw [HK.out]; (try omega)), ⟨O_columns.out, O_chain.out, O_pi.out⟩, G3.out⟩
set_option maxHeartbeats 4000000 in
theorem laws_markPolyProofG (SS : Nat → Prop) (l_places h_places l_powers h_powers l_chain h_chain m_chain t_chain : Nat) (v_places v_powers v_chain : Value) (us : List Value) (k0 : Nat) (d : PolyProofD) (w : World) (o_places : sInts.own w l_places h_places v_places d.places) (o_powers : sInts.own w l_powers h_powers v_powers d.powers) (o_chain : sInts.own w l_chain h_chain v_chain d.chain) (o_pi : rProof.own w m_chain t_chain us d.pi) (hk : k0 + cnPolyProof d ≤ 9223372036854775806) (d01 : h_places ≤ l_powers ∨ h_powers ≤ l_places) (d02 : h_places ≤ l_chain ∨ h_chain ≤ l_places) (d03 : h_places ≤ m_chain ∨ t_chain ≤ l_places) (d12 : h_powers ≤ l_chain ∨ h_chain ≤ l_powers) (d13 : h_powers ≤ m_chain ∨ t_chain ≤ l_powers) (d23 : h_chain ≤ m_chain ∨ t_chain ≤ l_chain) (b0 : h_places ≤ w.heap.size) (b1 : h_powers ≤ w.heap.size) (b2 : h_chain ≤ w.heap.size) (b3 : t_chain ≤ w.heap.size) (s0 : ∀ k, l_places ≤ k → k < h_places → SS k) (s1 : ∀ k, l_powers ≤ k → k < h_powers → SS k) (s2 : ∀ k, l_chain ≤ k → k < h_chain → SS k) (s3 : ∀ k, m_chain ≤ k → k < t_chain → SS k) :
    Calls Try.prog 38 #[.agg (v_places :: v_powers :: v_chain :: us).toArray, .int .i64 k0] w fun e w' => e = .returned (.int .i64 (k0 + cnPolyProof d : Nat)) ∧ (sInts.own w' l_places h_places v_places (mkPolyProof k0 d).places ∧ sInts.own w' l_powers h_powers v_powers (mkPolyProof k0 d).powers ∧ sInts.own w' l_chain h_chain v_chain (mkPolyProof k0 d).chain ∧ rProof.own w' m_chain t_chain us (mkPolyProof k0 d).pi) ∧ WithinS SS w w' := by
  have HK : Hid (k0 + cnPolyProof d = k0 + d.places.length + d.powers.length + d.chain.length + cnProof d.pi) := by unfold Hid cnPolyProof; omega
  unfold cnPolyProof at hk
  obtain ⟨ea_places, en_places, ec_places, rfl⟩ := sInts.sl (sInts.own_rd o_places)
  obtain ⟨ea_powers, en_powers, ec_powers, rfl⟩ := sInts.sl (sInts.own_rd o_powers)
  obtain ⟨ea_chain, en_chain, ec_chain, rfl⟩ := sInts.sl (sInts.own_rd o_chain)
  obtain ⟨v19, _, rfl, h20, ⟨v21, _, rfl, h22, ⟨v23, _, rfl, h24, rfl⟩⟩⟩ := rProof.own_rd o_pi
  obtain ⟨ea_pi0, en_pi0, ec_pi0, rfl⟩ := sInts.sl h20
  clear h20
  obtain ⟨ea_pi1, en_pi1, ec_pi1, rfl⟩ := sInts.sl h22
  clear h22
  obtain ⟨ea_pi2, en_pi2, ec_pi2, rfl⟩ := sInts.sl h24
  clear h24
  obtain ⟨W, hW⟩ : ∃ W, W = w.alloc (.cells #[.slice ea_places en_places ec_places, .slice ea_powers en_powers ec_powers, .slice ea_chain en_chain ec_chain, .slice ea_pi0 en_pi0 ec_pi0, .slice ea_pi1 en_pi1 ec_pi1, .slice ea_pi2 en_pi2 ec_pi2] 40) := ⟨_, rfl⟩
  have hb : Below w.heap.size w W := by rw [hW]; exact (Below.refl _ _).alloc (Nat.le_refl _) _
  have hs0 : W.heap.size = w.heap.size + 1 := by rw [hW]; simp
  have BX0 : Hid (BoxN W w.heap.size 40 [.slice ea_places en_places ec_places, .slice ea_powers en_powers ec_powers, .slice ea_chain en_chain ec_chain, .slice ea_pi0 en_pi0 ec_pi0, .slice ea_pi1 en_pi1 ec_pi1, .slice ea_pi2 en_pi2 ec_pi2]) := by unfold Hid; rw [hW]; exact BoxN.new w [.slice ea_places en_places ec_places, .slice ea_powers en_powers ec_powers, .slice ea_chain en_chain ec_chain, .slice ea_pi0 en_pi0 ec_pi0, .slice ea_pi1 en_pi1 ec_pi1, .slice ea_pi2 en_pi2 ec_pi2] _
  have O_places := Lib.hid (Kind.next (K := sInts.toKind) o_places hb)
  clear o_places
  have O_powers := Lib.hid (Kind.next (K := sInts.toKind) o_powers hb)
  clear o_powers
  have O_chain := Lib.hid (Kind.next (K := sInts.toKind) o_chain hb)
  clear o_chain
  have O_pi := Lib.hid (RowK.next o_pi hb)
  clear o_pi
  have G0 : Hid (WithinS SS w W) := WithinS.of_below hb
  clear hb
  go_enter Try.func38, Try.ntmps38
  go_wp2_with fail
  rw [← hW]
  clear hW
  refine (laws_markI l_places h_places _ (k0) d.places W O_places.out (by omega) (by omega)).mono ?_
  rintro e w1 ⟨rfl, X, g⟩
  replace O_places := Lib.hid X; clear X
  have us1 := g.size
  have BX1 := Lib.hid (BX0.out.kept g (.inr (by omega)))
  replace O_powers := Lib.hid (Kind.kept (K := sInts.toKind) O_powers.out g (by omega))
  replace O_chain := Lib.hid (Kind.kept (K := sInts.toKind) O_chain.out g (by omega))
  replace O_pi := Lib.hid (RowK.kept O_pi.out g (by omega))
  have G1 := Lib.hid (G0.out.trans (WithinS.of g s0)); clear g
  have p1 := BX1.out.cell (i := 1) rfl
  go_wp2_with fail
  clear p1
  refine (laws_markI l_powers h_powers _ (k0 + d.places.length) d.powers w1 O_powers.out (by omega) (by omega)).mono ?_
  rintro e w2 ⟨rfl, X, g⟩
  replace O_powers := Lib.hid X; clear X
  have us2 := g.size
  have BX2 := Lib.hid (BX1.out.kept g (.inr (by omega)))
  replace O_places := Lib.hid (Kind.kept (K := sInts.toKind) O_places.out g (by omega))
  replace O_chain := Lib.hid (Kind.kept (K := sInts.toKind) O_chain.out g (by omega))
  replace O_pi := Lib.hid (RowK.kept O_pi.out g (by omega))
  have G2 := Lib.hid (G1.out.trans (WithinS.of g s1)); clear g
  have p2 := BX2.out.cell (i := 2) rfl
  go_wp2_with fail
  clear p2
  refine (laws_markI l_chain h_chain _ (k0 + d.places.length + d.powers.length) d.chain w2 O_chain.out (by omega) (by omega)).mono ?_
  rintro e w3 ⟨rfl, X, g⟩
  replace O_chain := Lib.hid X; clear X
  have us3 := g.size
  have BX3 := Lib.hid (BX2.out.kept g (.inr (by omega)))
  replace O_places := Lib.hid (Kind.kept (K := sInts.toKind) O_places.out g (by omega))
  replace O_powers := Lib.hid (Kind.kept (K := sInts.toKind) O_powers.out g (by omega))
  replace O_pi := Lib.hid (RowK.kept O_pi.out g (by omega))
  have G3 := Lib.hid (G2.out.trans (WithinS.of g s2)); clear g
  have p3 := BX3.out.cell (i := 3) rfl
  have p4 := BX3.out.cell (i := 4) rfl
  have p5 := BX3.out.cell (i := 5) rfl
  go_wp2_with fail
  clear p3 p4 p5
  refine (laws_markProof m_chain t_chain _ (k0 + d.places.length + d.powers.length + d.chain.length) d.pi w3 ⟨_, rfl, O_pi.out⟩ (by omega) (by omega)).mono ?_
  rintro e w4 ⟨rfl, X, g⟩
  obtain ⟨_, hX, X⟩ := X
  have hX2 := congrArg (fun v => match v with | Value.agg a => a.toList | _ => []) hX
  simp only at hX2
  subst hX2
  clear hX
  replace O_pi := Lib.hid X; clear X
  have us4 := g.size
  have BX4 := Lib.hid (BX3.out.kept g (.inr (by omega)))
  replace O_places := Lib.hid (Kind.kept (K := sInts.toKind) O_places.out g (by omega))
  replace O_powers := Lib.hid (Kind.kept (K := sInts.toKind) O_powers.out g (by omega))
  replace O_chain := Lib.hid (Kind.kept (K := sInts.toKind) O_chain.out g (by omega))
  have G4 := Lib.hid (G3.out.trans (WithinS.of g s3)); clear g
  go_wp2_with fail
  go_ret
  exact ⟨ret_int (by rw [HK.out]; (try omega)), ⟨O_places.out, O_powers.out, O_chain.out, O_pi.out⟩, G4.out⟩
/-- a sealed ballot's own memory -/
def OwnSG (w : World) (lo hi : Nat) (v : Value) (d : SealedD) : Prop :=
  ∃ (v1 v2 : Value) (us : List Value) (l0 h0 : Nat) (los his : Nat → Nat) (lp hp ls hs : Nat), v = .agg (.int .i64 d.voter :: v1 :: v2 :: us).toArray ∧ I64 d.voter ∧ (kR 75 rCipher).own w l0 h0 v1 d.ciphers ∧ OwnRX 26 rProof los his w lp hp v2 d.proofs ∧ rProof.own w ls hs us d.sum ∧
    (lo ≤ l0 ∧ h0 ≤ hi) ∧ (lo ≤ lp ∧ hp ≤ hi) ∧ (lo ≤ ls ∧ hs ≤ hi) ∧ (h0 ≤ lp ∨ hp ≤ l0) ∧ (h0 ≤ ls ∨ hs ≤ l0) ∧ (∀ g, v2.ownBlock = some g → g < ls ∨ hs ≤ g) ∧ (∀ i, i < d.proofs.length → his i ≤ ls ∨ hs ≤ los i)
def kSealedG : Kind SealedD where
  rd := (kS rSealed).rd
  own := OwnSG
  rd_below := (kS rSealed).rd_below
  own_rd := by
    rintro w lo hi v d ⟨v1, v2, us, l0, h0, los, his, lp, hp, ls, hs, rfl, i1, o1, o2, o3, _⟩
    exact ⟨_, rfl, ⟨_, rfl, i1, ⟨_, _, rfl, (kR 75 rCipher).own_rd o1, ⟨_, _, rfl, o2.rd, rProof.own_rd o3⟩⟩⟩⟩
  own_frame := by
    rintro w w' lo hi v d ⟨v1, v2, us, l0, h0, los, his, lp, hp, ls, hs, e, i1, o1, o2, o3, q1, q2, q3, r⟩ hf
    exact ⟨v1, v2, us, l0, h0, los, his, lp, hp, ls, hs, e, i1, (kR 75 rCipher).own_frame o1 (fun k h1 h2 h3 => hf k (by omega) (by omega) h3), o2.frame' (fun k h1 h2 h3 => hf k (by omega) (by omega) h3), rProof.own_frame o3 (fun k h1 h2 h3 => hf k (by omega) (by omega) h3), q1, q2, q3, r⟩
  own_mono := by
    rintro w lo hi lo' hi' v d ⟨v1, v2, us, l0, h0, los, his, lp, hp, ls, hs, e, i1, o1, o2, o3, q1, q2, q3, r⟩ h1 h2
    exact ⟨v1, v2, us, l0, h0, los, his, lp, hp, ls, hs, e, i1, o1, o2, o3, by omega, by omega, by omega, r⟩
set_option maxHeartbeats 4000000 in
theorem laws_markSealedG (lo hi : Nat) (v : Value) (k0 : Nat) (d : SealedD) (w : World) (h : kSealedG.own w lo hi v d) (hk : k0 + cnSealed d ≤ 9223372036854775806) (hhi : hi ≤ w.heap.size) :
    Calls Try.prog 11 #[v, .int .i64 k0] w fun e w' => e = .returned (.int .i64 (k0 + cnSealed d : Nat)) ∧ kSealedG.own w' lo hi v (mkSealed k0 d) ∧ Within lo hi w w' := by
  have HK : Hid (k0 + cnSealed d = k0 + cnCipherS d.ciphers + cnProofS d.proofs + cnProof d.sum) := by unfold Hid cnSealed; omega
  unfold cnSealed at hk
  obtain ⟨v1, v2, us, l0, h0, los, his, lp, hp, ls, hs, rfl, i_voter, o_ciphers, o_proofs, o_sum, q1, q2, q3, d1, d2, d3, d4⟩ := h
  obtain ⟨ea_ciphers, en_ciphers, ec_ciphers, rfl⟩ := (kR 75 rCipher).sl ((kR 75 rCipher).own_rd o_ciphers)
  obtain ⟨ea_proofs, en_proofs, ec_proofs, rfl⟩ := (kR 26 rProof).sl o_proofs.rd
  obtain ⟨v18, _, rfl, h19, ⟨v20, _, rfl, h21, ⟨v22, _, rfl, h23, rfl⟩⟩⟩ := rProof.own_rd o_sum
  obtain ⟨ea_sum0, en_sum0, ec_sum0, rfl⟩ := sInts.sl h19
  clear h19
  obtain ⟨ea_sum1, en_sum1, ec_sum1, rfl⟩ := sInts.sl h21
  clear h21
  obtain ⟨ea_sum2, en_sum2, ec_sum2, rfl⟩ := sInts.sl h23
  clear h23
  obtain ⟨W, hW⟩ : ∃ W, W = w.alloc (.cells #[.int .i64 d.voter, .slice ea_ciphers en_ciphers ec_ciphers, .slice ea_proofs en_proofs ec_proofs, .slice ea_sum0 en_sum0 ec_sum0, .slice ea_sum1 en_sum1 ec_sum1, .slice ea_sum2 en_sum2 ec_sum2] 28) := ⟨_, rfl⟩
  have hb : Below w.heap.size w W := by rw [hW]; exact (Below.refl _ _).alloc (Nat.le_refl _) _
  have hs0 : W.heap.size = w.heap.size + 1 := by rw [hW]; simp
  have BX0 : Hid (BoxN W w.heap.size 28 [.int .i64 d.voter, .slice ea_ciphers en_ciphers ec_ciphers, .slice ea_proofs en_proofs ec_proofs, .slice ea_sum0 en_sum0 ec_sum0, .slice ea_sum1 en_sum1 ec_sum1, .slice ea_sum2 en_sum2 ec_sum2]) := by unfold Hid; rw [hW]; exact BoxN.new w [.int .i64 d.voter, .slice ea_ciphers en_ciphers ec_ciphers, .slice ea_proofs en_proofs ec_proofs, .slice ea_sum0 en_sum0 ec_sum0, .slice ea_sum1 en_sum1 ec_sum1, .slice ea_sum2 en_sum2 ec_sum2] _
  have O_ciphers := Lib.hid (Kind.next (K := (kR 75 rCipher).toKind) o_ciphers hb)
  have O_proofs := Lib.hid (o_proofs.frame' (w' := W) fun k _ _ hk => hb.block k hk)
  have O_sum := Lib.hid (RowK.next o_sum hb)
  have INS := Lib.hid o_proofs.ins
  clear o_ciphers o_proofs o_sum
  have G0 : Hid (Within lo hi w W) := Within.of_below hb
  clear hb
  have D3 := Lib.hid d3
  have D4 := Lib.hid d4
  clear d3 d4
  go_enter Try.func11, Try.ntmps11
  go_wp2_with fail
  rw [← hW]
  clear hW
  refine (laws_markCipherS l0 h0 _ (k0) d.ciphers W O_ciphers.out (by omega) (by omega)).mono ?_
  rintro e w1 ⟨rfl, X, g⟩
  replace O_ciphers := Lib.hid X; clear X
  have us1 := g.size
  have BX1 := Lib.hid (BX0.out.kept g (.inr (by omega)))
  replace O_proofs := Lib.hid (O_proofs.out.frame' (w' := w1) fun k h1 h2 h3 => g.block k h3 (by omega))
  replace O_sum := Lib.hid (RowK.kept O_sum.out g (by omega))
  have G1 := Lib.hid (G0.out.trans (g.mono (by omega) (by omega))); clear g
  have p2 := BX1.out.cell (i := 2) rfl
  go_wp2_with fail
  clear p2
  refine (laws_markProofSG los his lp hp _ (k0 + cnCipherS d.ciphers) d.proofs w1 O_proofs.out (by omega) (by omega)).mono ?_
  rintro e w2 ⟨rfl, X, g⟩
  replace O_proofs := Lib.hid X; clear X
  have us2 := g.size
  have BX2 := Lib.hid (BX1.out.keptS g (by rintro ⟨i, h1, h2, h3⟩; have := INS.out i h1; omega))
  replace O_ciphers := Lib.hid (Kind.keptS (K := (kR 75 rCipher).toKind) O_ciphers.out g (by rintro k k1 k2 ⟨i, h1, h2, h3⟩; have := INS.out i h1; omega))
  replace O_sum := Lib.hid (RowK.keptS O_sum.out g (by rintro k k1 k2 ⟨i, h1, h2, h3⟩; have := D4.out i h1; omega))
  have G2 := Lib.hid (G1.out.trans (g.to (by rintro k ⟨i, h1, h2, h3⟩; have := INS.out i h1; omega))); clear g
  have p3 := BX2.out.cell (i := 3) rfl
  have p4 := BX2.out.cell (i := 4) rfl
  have p5 := BX2.out.cell (i := 5) rfl
  go_wp2_with fail
  clear p3 p4 p5
  refine (laws_markProof ls hs _ (k0 + cnCipherS d.ciphers + cnProofS d.proofs) d.sum w2 ⟨_, rfl, O_sum.out⟩ (by omega) (by omega)).mono ?_
  rintro e w3 ⟨rfl, X, g⟩
  obtain ⟨_, hX, X⟩ := X
  have hX2 := congrArg (fun v => match v with | Value.agg a => a.toList | _ => []) hX
  simp only at hX2
  subst hX2
  clear hX
  replace O_sum := Lib.hid X; clear X
  have us3 := g.size
  replace O_ciphers := Lib.hid (Kind.kept (K := (kR 75 rCipher).toKind) O_ciphers.out g (by omega))
  replace O_proofs := Lib.hid (O_proofs.out.frame (w' := w3) (fun b hb => g.block b (O_proofs.out.blk b hb).2.2 (D3.out b hb)) (fun i k h1 h2 h3 h4 => g.block k h4 (by have := D4.out i (by rwa [mkProofS_length] at h1); omega)))
  have G3 := Lib.hid (G2.out.trans (g.mono (by omega) (by omega))); clear g
  go_wp2_with fail
  go_ret
  exact ⟨ret_int (by rw [HK.out]; (try omega)), ⟨_, _, _, l0, h0, los, his, lp, hp, ls, hs, rfl, i_voter, O_ciphers.out, O_proofs.out, O_sum.out, q1, q2, q3, d1, d2, D3.out, fun i hi => D4.out i (by have hi' : i < (mkProofS (k0 + cnCipherS d.ciphers) d.proofs).length := hi; rwa [mkProofS_length] at hi')⟩, G3.out⟩
/-- a stage's own memory -/
def OwnTG (w : World) (lo hi : Nat) (v : Value) (d : StageD) : Prop :=
  ∃ (v1 a1 a2 : Value) (us : List Value) (b1 b2 b3 : Value) (qs : List Value) (L H : Nat → Nat), v = .agg (.int .i64 d.argument :: v1 :: ((a1 :: a2 :: us) ++ (b1 :: b2 :: b3 :: qs))).toArray ∧ I64 d.argument ∧ (kR 75 rCipher).own w (L 0) (H 0) v1 d.out ∧
    sInts.own w (L 1) (H 1) a1 d.matrix.columns ∧ sInts.own w (L 2) (H 2) a2 d.matrix.chain ∧ rProof.own w (L 3) (H 3) us d.matrix.pi ∧
    sInts.own w (L 4) (H 4) b1 d.poly.places ∧ sInts.own w (L 5) (H 5) b2 d.poly.powers ∧ sInts.own w (L 6) (H 6) b3 d.poly.chain ∧ rProof.own w (L 7) (H 7) qs d.poly.pi ∧
    (∀ i, i < 8 → lo ≤ L i ∧ H i ≤ hi) ∧ (∀ i j, i < 8 → j < 8 → i ≠ j → H i ≤ L j ∨ H j ≤ L i)
def kStageG : Kind StageD where
  rd := (kS rStage).rd
  own := OwnTG
  rd_below := (kS rStage).rd_below
  own_rd := by
    rintro w lo hi v d ⟨v1, a1, a2, us, b1, b2, b3, qs, L, H, rfl, i1, o0, o1, o2, o3, o4, o5, o6, o7, _⟩
    exact ⟨_, rfl, ⟨_, rfl, i1, ⟨_, _, rfl, (kR 75 rCipher).own_rd o0, ⟨_, _, rfl, ⟨_, _, rfl, sInts.own_rd o1, ⟨_, _, rfl, sInts.own_rd o2, rProof.own_rd o3⟩⟩, ⟨_, _, rfl, sInts.own_rd o4, ⟨_, _, rfl, sInts.own_rd o5, ⟨_, _, rfl, sInts.own_rd o6, rProof.own_rd o7⟩⟩⟩⟩⟩⟩⟩
  own_frame := by
    rintro w w' lo hi v d ⟨v1, a1, a2, us, b1, b2, b3, qs, L, H, e, i1, o0, o1, o2, o3, o4, o5, o6, o7, q, D⟩ hf
    have f : ∀ i, i < 8 → ∀ k, L i ≤ k → k < H i → k < w.heap.size → w'.heap[k]? = w.heap[k]? := fun i hi k h1 h2 h3 => by have := q i hi; exact hf k (by omega) (by omega) h3
    exact ⟨v1, a1, a2, us, b1, b2, b3, qs, L, H, e, i1, (kR 75 rCipher).own_frame o0 (f 0 (by decide)), sInts.own_frame o1 (f 1 (by decide)), sInts.own_frame o2 (f 2 (by decide)), rProof.own_frame o3 (f 3 (by decide)), sInts.own_frame o4 (f 4 (by decide)), sInts.own_frame o5 (f 5 (by decide)), sInts.own_frame o6 (f 6 (by decide)), rProof.own_frame o7 (f 7 (by decide)), q, D⟩
  own_mono := by
    rintro w lo hi lo' hi' v d ⟨v1, a1, a2, us, b1, b2, b3, qs, L, H, e, i1, o0, o1, o2, o3, o4, o5, o6, o7, q, D⟩ h1 h2
    exact ⟨v1, a1, a2, us, b1, b2, b3, qs, L, H, e, i1, o0, o1, o2, o3, o4, o5, o6, o7, fun i hi => by have := q i hi; omega, D⟩
set_option maxHeartbeats 4000000 in
theorem laws_markStageG (lo hi : Nat) (v : Value) (k0 : Nat) (d : StageD) (w : World) (h : kStageG.own w lo hi v d) (hk : k0 + cnStage d ≤ 9223372036854775806) (hhi : hi ≤ w.heap.size) :
    Calls Try.prog 16 #[v, .int .i64 k0] w fun e w' => e = .returned (.int .i64 (k0 + cnStage d : Nat)) ∧ kStageG.own w' lo hi v (mkStage k0 d) ∧ Within lo hi w w' := by
  have HK : Hid (k0 + cnStage d = k0 + cnCipherS d.out + cnMatrixProof d.matrix + cnPolyProof d.poly) := by unfold Hid cnStage; omega
  unfold cnStage at hk
  obtain ⟨v1, a1, a2, us, b1, b2, b3, qs, L, H, rfl, i1, o0, o1, o2, o3, o4, o5, o6, o7, q, D⟩ := h
  obtain ⟨e0, n0, c0, rfl⟩ := (kR 75 rCipher).sl ((kR 75 rCipher).own_rd o0)
  obtain ⟨e1, n1, c1, rfl⟩ := sInts.sl (sInts.own_rd o1)
  obtain ⟨e2, n2, c2, rfl⟩ := sInts.sl (sInts.own_rd o2)
  obtain ⟨_, _, rfl, k3, ⟨_, _, rfl, k4, ⟨_, _, rfl, k5, rfl⟩⟩⟩ := rProof.own_rd o3
  obtain ⟨e3, n3, c3, rfl⟩ := sInts.sl k3
  obtain ⟨e4, n4, c4, rfl⟩ := sInts.sl k4
  obtain ⟨e5, n5, c5, rfl⟩ := sInts.sl k5
  clear k3 k4 k5
  obtain ⟨e6, n6, c6, rfl⟩ := sInts.sl (sInts.own_rd o4)
  obtain ⟨e7, n7, c7, rfl⟩ := sInts.sl (sInts.own_rd o5)
  obtain ⟨e8, n8, c8, rfl⟩ := sInts.sl (sInts.own_rd o6)
  obtain ⟨_, _, rfl, k3, ⟨_, _, rfl, k4, ⟨_, _, rfl, k5, rfl⟩⟩⟩ := rProof.own_rd o7
  obtain ⟨e9, n9, c9, rfl⟩ := sInts.sl k3
  obtain ⟨e10, n10, c10, rfl⟩ := sInts.sl k4
  obtain ⟨e11, n11, c11, rfl⟩ := sInts.sl k5
  clear k3 k4 k5
  obtain ⟨W, hW⟩ : ∃ W, W = w.alloc (.cells #[.int .i64 d.argument, .slice e0 n0 c0, .slice e1 n1 c1, .slice e2 n2 c2, .slice e3 n3 c3, .slice e4 n4 c4, .slice e5 n5 c5, .slice e6 n6 c6, .slice e7 n7 c7, .slice e8 n8 c8, .slice e9 n9 c9, .slice e10 n10 c10, .slice e11 n11 c11] 42) := ⟨_, rfl⟩
  have hb : Below w.heap.size w W := by rw [hW]; exact (Below.refl _ _).alloc (Nat.le_refl _) _
  have hs0 : W.heap.size = w.heap.size + 1 := by rw [hW]; simp
  have BX0 : Hid (BoxN W w.heap.size 42 [.int .i64 d.argument, .slice e0 n0 c0, .slice e1 n1 c1, .slice e2 n2 c2, .slice e3 n3 c3, .slice e4 n4 c4, .slice e5 n5 c5, .slice e6 n6 c6, .slice e7 n7 c7, .slice e8 n8 c8, .slice e9 n9 c9, .slice e10 n10 c10, .slice e11 n11 c11]) := by unfold Hid; rw [hW]; exact BoxN.new w [.int .i64 d.argument, .slice e0 n0 c0, .slice e1 n1 c1, .slice e2 n2 c2, .slice e3 n3 c3, .slice e4 n4 c4, .slice e5 n5 c5, .slice e6 n6 c6, .slice e7 n7 c7, .slice e8 n8 c8, .slice e9 n9 c9, .slice e10 n10 c10, .slice e11 n11 c11] _
  have O0 := Lib.hid (Kind.next (K := (kR 75 rCipher).toKind) o0 hb)
  have O1 := Lib.hid (Kind.next (K := sInts.toKind) o1 hb)
  have O2 := Lib.hid (Kind.next (K := sInts.toKind) o2 hb)
  have O4 := Lib.hid (Kind.next (K := sInts.toKind) o4 hb)
  have O5 := Lib.hid (Kind.next (K := sInts.toKind) o5 hb)
  have O6 := Lib.hid (Kind.next (K := sInts.toKind) o6 hb)
  have O3 := Lib.hid (RowK.next o3 hb)
  have O7 := Lib.hid (RowK.next o7 hb)
  clear o0 o1 o2 o3 o4 o5 o6 o7
  have G0 : Hid (Within lo hi w W) := Within.of_below hb
  clear hb
  have HQ := Lib.hid q
  have HD := Lib.hid D
  have q0 := (q 0 (by decide)).2
  have q1 := (q 1 (by decide)).2
  have q2 := (q 2 (by decide)).2
  have q3 := (q 3 (by decide)).2
  have q4 := (q 4 (by decide)).2
  have q5 := (q 5 (by decide)).2
  have q6 := (q 6 (by decide)).2
  have q7 := (q 7 (by decide)).2
  clear q D
  go_enter Try.func16, Try.ntmps16
  go_wp2_with fail
  rw [← hW]
  clear hW
  refine (laws_markCipherS (L 0) (H 0) _ (k0) d.out W O0.out (by omega) (by omega)).mono ?_
  rintro e w1 ⟨rfl, X, g⟩
  replace O0 := Lib.hid X; clear X
  have us1 := g.size
  have BX1 := Lib.hid (BX0.out.kept g (.inr (by omega)))
  replace O1 := Lib.hid (Kind.kept (K := sInts.toKind) O1.out g (HD.out 1 0 (by decide) (by decide) (by decide)))
  replace O2 := Lib.hid (Kind.kept (K := sInts.toKind) O2.out g (HD.out 2 0 (by decide) (by decide) (by decide)))
  replace O4 := Lib.hid (Kind.kept (K := sInts.toKind) O4.out g (HD.out 4 0 (by decide) (by decide) (by decide)))
  replace O5 := Lib.hid (Kind.kept (K := sInts.toKind) O5.out g (HD.out 5 0 (by decide) (by decide) (by decide)))
  replace O6 := Lib.hid (Kind.kept (K := sInts.toKind) O6.out g (HD.out 6 0 (by decide) (by decide) (by decide)))
  replace O3 := Lib.hid (RowK.kept O3.out g (HD.out 3 0 (by decide) (by decide) (by decide)))
  replace O7 := Lib.hid (RowK.kept O7.out g (HD.out 7 0 (by decide) (by decide) (by decide)))
  have G1 := Lib.hid (G0.out.trans (g.mono (HQ.out 0 (by decide)).1 (HQ.out 0 (by decide)).2)); clear g
  have p2 := BX1.out.cell (i := 2) rfl
  have p3 := BX1.out.cell (i := 3) rfl
  have p4 := BX1.out.cell (i := 4) rfl
  have p5 := BX1.out.cell (i := 5) rfl
  have p6 := BX1.out.cell (i := 6) rfl
  go_wp2_with fail
  clear p2 p3 p4 p5 p6
  obtain ⟨S1, hS1⟩ : ∃ S : Nat → Prop, S = fun k => ∃ i, (1 ≤ i ∧ i ≤ 3) ∧ L i ≤ k ∧ k < H i := ⟨_, rfl⟩
  refine (laws_markMatrixProofG S1 (L 1) (H 1) (L 2) (H 2) (L 3) (H 3) _ _ _ (k0 + cnCipherS d.out) d.matrix w1 O1.out O2.out O3.out (by omega) (HD.out 1 2 (by decide) (by decide) (by decide)) (HD.out 1 3 (by decide) (by decide) (by decide)) (HD.out 2 3 (by decide) (by decide) (by decide)) (by omega) (by omega) (by omega) (fun k h1 h2 => by rw [hS1]; exact ⟨1, by omega, h1, h2⟩) (fun k h1 h2 => by rw [hS1]; exact ⟨2, by omega, h1, h2⟩) (fun k h1 h2 => by rw [hS1]; exact ⟨3, by omega, h1, h2⟩)).mono ?_
  rintro e w2 ⟨rfl, ⟨X1, X2, X3⟩, g⟩
  replace O1 := Lib.hid X1; replace O2 := Lib.hid X2; replace O3 := Lib.hid X3; clear X1 X2 X3
  have us2 := g.size
  subst hS1
  have BX2 := Lib.hid (BX1.out.keptS g (by rintro ⟨i, h1, h2, h3⟩; have := HQ.out i (by omega); omega))
  have far : ∀ j, j < 8 → (j < 1 ∨ 3 < j) → ∀ k, L j ≤ k → k < H j → ¬ ∃ i, (1 ≤ i ∧ i ≤ 3) ∧ L i ≤ k ∧ k < H i := by
    rintro j hj hj2 k h1 h2 ⟨i, h3, h4, h5⟩
    have := HD.out i j (by omega) hj (by omega)
    omega
  replace O0 := Lib.hid (Kind.keptS (K := (kR 75 rCipher).toKind) O0.out g (far 0 (by decide) (by decide)))
  replace O4 := Lib.hid (Kind.keptS (K := sInts.toKind) O4.out g (far 4 (by decide) (by decide)))
  replace O5 := Lib.hid (Kind.keptS (K := sInts.toKind) O5.out g (far 5 (by decide) (by decide)))
  replace O6 := Lib.hid (Kind.keptS (K := sInts.toKind) O6.out g (far 6 (by decide) (by decide)))
  replace O7 := Lib.hid (RowK.keptS O7.out g (far 7 (by decide) (by decide)))
  have G2 := Lib.hid (G1.out.trans (g.to (by rintro k ⟨i, h1, h2, h3⟩; have := HQ.out i (by omega); omega))); clear g far
  have p7 := BX2.out.cell (i := 7) rfl
  have p8 := BX2.out.cell (i := 8) rfl
  have p9 := BX2.out.cell (i := 9) rfl
  have p10 := BX2.out.cell (i := 10) rfl
  have p11 := BX2.out.cell (i := 11) rfl
  have p12 := BX2.out.cell (i := 12) rfl
  go_wp2_with fail
  clear p7 p8 p9 p10 p11 p12
  obtain ⟨S1, hS1⟩ : ∃ S : Nat → Prop, S = fun k => ∃ i, (4 ≤ i ∧ i ≤ 7) ∧ L i ≤ k ∧ k < H i := ⟨_, rfl⟩
  refine (laws_markPolyProofG S1 (L 4) (H 4) (L 5) (H 5) (L 6) (H 6) (L 7) (H 7) _ _ _ _ (k0 + cnCipherS d.out + cnMatrixProof d.matrix) d.poly w2 O4.out O5.out O6.out O7.out (by omega) (HD.out 4 5 (by decide) (by decide) (by decide)) (HD.out 4 6 (by decide) (by decide) (by decide)) (HD.out 4 7 (by decide) (by decide) (by decide)) (HD.out 5 6 (by decide) (by decide) (by decide)) (HD.out 5 7 (by decide) (by decide) (by decide)) (HD.out 6 7 (by decide) (by decide) (by decide)) (by omega) (by omega) (by omega) (by omega) (fun k h1 h2 => by rw [hS1]; exact ⟨4, by omega, h1, h2⟩) (fun k h1 h2 => by rw [hS1]; exact ⟨5, by omega, h1, h2⟩) (fun k h1 h2 => by rw [hS1]; exact ⟨6, by omega, h1, h2⟩) (fun k h1 h2 => by rw [hS1]; exact ⟨7, by omega, h1, h2⟩)).mono ?_
  rintro e w3 ⟨rfl, ⟨X4, X5, X6, X7⟩, g⟩
  replace O4 := Lib.hid X4; replace O5 := Lib.hid X5; replace O6 := Lib.hid X6; replace O7 := Lib.hid X7; clear X4 X5 X6 X7
  subst hS1
  have far : ∀ j, j < 8 → j < 4 → ∀ k, L j ≤ k → k < H j → ¬ ∃ i, (4 ≤ i ∧ i ≤ 7) ∧ L i ≤ k ∧ k < H i := by
    rintro j hj hj2 k h1 h2 ⟨i, h3, h4, h5⟩
    have := HD.out i j (by omega) hj (by omega)
    omega
  replace O0 := Lib.hid (Kind.keptS (K := (kR 75 rCipher).toKind) O0.out g (far 0 (by decide) (by decide)))
  replace O1 := Lib.hid (Kind.keptS (K := sInts.toKind) O1.out g (far 1 (by decide) (by decide)))
  replace O2 := Lib.hid (Kind.keptS (K := sInts.toKind) O2.out g (far 2 (by decide) (by decide)))
  replace O3 := Lib.hid (RowK.keptS O3.out g (far 3 (by decide) (by decide)))
  have G3 := Lib.hid (G2.out.trans (g.to (by rintro k ⟨i, h1, h2, h3⟩; have := HQ.out i (by omega); omega))); clear g far
  go_wp2_with fail
  go_ret
  exact ⟨ret_int (by rw [HK.out]; (try omega)), ⟨_, _, _, _, _, _, _, _, L, H, rfl, i1, O0.out, O1.out, O2.out, O3.out, O4.out, O5.out, O6.out, O7.out, HQ.out, HD.out⟩, G3.out⟩
end Go.Proofs.Ytbcaknmpbkapnaa
