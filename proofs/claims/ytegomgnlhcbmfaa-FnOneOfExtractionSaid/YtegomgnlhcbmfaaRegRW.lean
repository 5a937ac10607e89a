/- Proofs of one of several statements: the plain laws. -/
import Derived.Test.YtegomgnlhcbmfaaSumLW
import Derived.Test.YtegomgnlhcbmfaaKEqualLogW
import Derived.Test.YtegomgnlhcbmfaaBaW
import Derived.Test.YtegomgnlhcbmfaaBgW
import Derived.Test.YtegomgnlhcbmfaaBmW
import Derived.Deep.RegionLaw
import Derived.Test.YtegomgnlhcbmfaaDrG0W
import Derived.Test.YtegomgnlhcbmfaaRegPW
import Derived.Deep.Cut
import Derived.Test.YtegomgnlhcbmfaaPow2W
namespace Go.Proofs.Ytegomgnlhcbmfaa
open Go.RowKit
set_option linter.unusedSimpArgs false
set_option linter.unusedVariables false

def eqEl (gr : GroupD) (e : EqualLogD) : Bool := [e.g1, e.y1, e.g2, e.y2].all (elB gr)
def eqTrue (gr : GroupD) (e : EqualLogD) (s : Int) : Bool := (powE gr e.g1 s == e.y1) && (powE gr e.g2 s == e.y2)
/-- the commit of a challenge and a response -/
def smX (gr : GroupD) (x y c z : Int) : Int := mulL gr [powE gr x z, powE gr y (-c)]
def stB (gr : GroupD) (l : List EqualLogD) : Bool := decide (1 ≤ l.length ∧ l.length ≤ 8) && l.all (eqEl gr)
def ooL (l : List EqualLogD) : List Int := l.flatMap fun e => [e.g1, e.y1, e.g2, e.y2]
def ooE (gr : GroupD) (s : ByteArray) (l : List EqualLogD) (cs : List Int) : Int := chV gr s (ooL l ++ cs)
def eqAt (l : List EqualLogD) (i : Nat) : EqualLogD := l.getD i ⟨0, 0, 0, 0⟩
/-- the place of the coins of a statement -/
def ooP (k i : Nat) : Nat := if i < k then 2 * i else 2 * (i - 1)
def ooH (k : Nat) (cs : List Int) (i : Nat) : Int := if i = k then 0 else nth cs (ooP k i)
def ooR (k : Nat) (cs : List Int) (i : Nat) : Int := if i = k then 0 else nth cs (ooP k i + 1)
def ooW (n : Nat) (cs : List Int) : Int := nth cs (2 * n - 2)
def ooC (gr : GroupD) (l : List EqualLogD) (k : Nat) (cs : List Int) (i : Nat) : List Int :=
  if i = k then [powE gr (eqAt l i).g1 (ooW l.length cs), powE gr (eqAt l i).g2 (ooW l.length cs)]
  else [smX gr (eqAt l i).g1 (eqAt l i).y1 (ooH k cs i) (ooR k cs i), smX gr (eqAt l i).g2 (eqAt l i).y2 (ooH k cs i) (ooR k cs i)]
def ooCs (gr : GroupD) (l : List EqualLogD) (k : Nat) (cs : List Int) (n : Nat) : List Int := (List.range n).flatMap (ooC gr l k cs)
def ooHs (k : Nat) (cs : List Int) (n : Nat) : List Int := (List.range n).map (ooH k cs)
def ooRs (k : Nat) (cs : List Int) (n : Nat) : List Int := (List.range n).map (ooR k cs)
def ooOwn (gr : GroupD) (s : ByteArray) (l : List EqualLogD) (k : Nat) (cs : List Int) : Int := (ooE gr s l (ooCs gr l k cs l.length) - sumM gr.q (ooHs k cs l.length)) % gr.q
def ooD (gr : GroupD) (s : ByteArray) (l : List EqualLogD) (k : Nat) (x : Int) (cs : List Int) : ProofD :=
  ⟨ooCs gr l k cs l.length, (ooHs k cs l.length).set k (ooOwn gr s l k cs), (ooRs k cs l.length).set k ((ooW l.length cs + ooOwn gr s l k cs * x) % gr.q)⟩
noncomputable def ooB (gr : GroupD) (s : ByteArray) (l : List EqualLogD) (k x : Int) (cs : List Int) : Bool :=
  goodG gr && (decide (s.size ≤ 40) && (stB gr l && (decide (0 ≤ k ∧ k ≤ (l.length : Int) - 1) && (expB gr x && (decide ((cs.length : Int) = 2 * (l.length : Int) - 1) && (cs.all (expB gr) && eqTrue gr (eqAt l k.toNat) x))))))
noncomputable def ooF (gr : GroupD) (s : ByteArray) (l : List EqualLogD) (k x : Int) (cs : List Int) : ProofD := if ooB gr s l k x cs = true then ooD gr s l k.toNat x cs else ⟨[], [], []⟩
/-- the form of a proof -/
def vofB (gr : GroupD) (n : Nat) (d : ProofD) : Bool := decide (d.c.length = 2 * n) && (decide (d.h.length = n) && (decide (d.r.length = n) && (d.c.all (elB gr) && (d.h.all (expB gr) && d.r.all (expB gr)))))
def voK (gr : GroupD) (l : List EqualLogD) (d : ProofD) (i : Nat) : Bool :=
  (smX gr (eqAt l i).g1 (eqAt l i).y1 (nth d.h i) (nth d.r i) == nth d.c (2 * i)) && (smX gr (eqAt l i).g2 (eqAt l i).y2 (nth d.h i) (nth d.r i) == nth d.c (2 * i + 1))
def fulB (gr : GroupD) (l : List EqualLogD) (d : ProofD) : Bool := vofB gr l.length d && (List.range l.length).all (voK gr l d)
theorem eqAt_mem {l : List EqualLogD} {i : Nat} (h : i < l.length) : eqAt l i ∈ l := by
  have e : eqAt l i = l[i] := by simp [eqAt, List.getD, h]
  rw [e]; exact List.getElem_mem h
theorem stB_len {gr : GroupD} {l : List EqualLogD} (h : stB gr l = true) : 1 ≤ l.length ∧ l.length ≤ 8 := by
  unfold stB at h; simp only [Bool.and_eq_true, decide_eq_true_iff] at h; exact h.1
theorem eqEl_parts {gr : GroupD} {e : EqualLogD} (h : eqEl gr e = true) : elB gr e.g1 = true ∧ elB gr e.y1 = true ∧ elB gr e.g2 = true ∧ elB gr e.y2 = true := by
  unfold eqEl at h; simpa [and_assoc] using h
theorem stB_el {gr : GroupD} {l : List EqualLogD} (h : stB gr l = true) {i : Nat} (hi : i < l.length) : elB gr (eqAt l i).g1 = true ∧ elB gr (eqAt l i).y1 = true ∧ elB gr (eqAt l i).g2 = true ∧ elB gr (eqAt l i).y2 = true := by
  unfold stB at h
  simp only [Bool.and_eq_true] at h
  exact eqEl_parts (List.all_eq_true.1 h.2 _ (eqAt_mem hi))
theorem smX_eq (gr : GroupD) (x y c z : Int) : smX gr x y c z = powE gr x z * powE gr y (-c) % gr.p := mulT _ _
theorem elT_smX {gr : GroupD} (hg : OkG gr) {x y : Int} (hx : elB gr x = true) (hy : elB gr y = true) (c z : Int) : elB gr (smX gr x y c z) = true := by
  rw [smX_eq]; exact elT_mul hg (elT_pow hg hx _) (elT_pow hg hy _)
theorem nthO {l : List Int} {k : Nat} (h : k < l.length) : nth l k ∈ l := by
  have e : nth l k = l[k] := by simp [nth, List.getD, h]
  rw [e]; exact List.getElem_mem h
theorem ooCs_len (gr : GroupD) (l : List EqualLogD) (k : Nat) (cs : List Int) (n : Nat) : (ooCs gr l k cs n).length = 2 * n := by
  induction n with
  | zero => rfl
  | succ n ih =>
    have e : (ooC gr l k cs n).length = 2 := by unfold ooC; split <;> rfl
    unfold ooCs at ih ⊢
    rw [List.range_succ, List.flatMap_append, List.length_append, ih]
    simp only [List.flatMap_cons, List.flatMap_nil, List.append_nil, e]; omega
theorem ooCs_succ (gr : GroupD) (l : List EqualLogD) (k : Nat) (cs : List Int) (n : Nat) : ooCs gr l k cs (n + 1) = ooCs gr l k cs n ++ ooC gr l k cs n := by
  unfold ooCs; rw [List.range_succ, List.flatMap_append]; simp
theorem ooHs_succ (k : Nat) (cs : List Int) (n : Nat) : ooHs k cs (n + 1) = ooHs k cs n ++ [ooH k cs n] := by
  unfold ooHs; rw [List.range_succ, List.map_append]; rfl
theorem ooRs_succ (k : Nat) (cs : List Int) (n : Nat) : ooRs k cs (n + 1) = ooRs k cs n ++ [ooR k cs n] := by
  unfold ooRs; rw [List.range_succ, List.map_append]; rfl
theorem ooHs_len (k : Nat) (cs : List Int) (n : Nat) : (ooHs k cs n).length = n := by simp [ooHs]
theorem ooRs_len (k : Nat) (cs : List Int) (n : Nat) : (ooRs k cs n).length = n := by simp [ooRs]
theorem ooB_parts {gr : GroupD} {s : ByteArray} {l : List EqualLogD} {k x : Int} {cs : List Int} (h : ooB gr s l k x cs = true) :
    goodG gr = true ∧ s.size ≤ 40 ∧ stB gr l = true ∧ (0 ≤ k ∧ k ≤ (l.length : Int) - 1) ∧ expB gr x = true ∧ cs.length = 2 * l.length - 1 ∧ cs.all (expB gr) = true ∧ eqTrue gr (eqAt l k.toNat) x = true := by
  unfold ooB at h
  simp only [Bool.and_eq_true, decide_eq_true_iff] at h
  obtain ⟨h1, h2, h3, h4, h5, h6, h7, h8⟩ := h
  exact ⟨h1, h2, h3, h4, h5, by omega, h7, h8⟩
theorem exp_nth {gr : GroupD} (hg : OkG gr) {l : List Int} (h : l.all (expB gr) = true) (i : Nat) : expB gr (nth l i) = true := by
  by_cases hi : i < l.length
  · exact List.all_eq_true.1 h _ (nthO hi)
  · have hq := hg.q1
    have e : nth l i = 0 := by simp [nth, List.getD, List.getElem?_eq_none (Nat.le_of_not_lt hi)]
    rw [e]; unfold expB; exact decide_eq_true ⟨by omega, by omega⟩
theorem oo_els {gr : GroupD} (hg : OkG gr) {l : List EqualLogD} (hl : stB gr l = true) (k : Nat) (cs : List Int) : (ooCs gr l k cs l.length).all (elB gr) = true := by
  rw [List.all_eq_true]; intro x hx
  obtain ⟨i, hi, hx⟩ := List.mem_flatMap.1 hx
  obtain ⟨e1, e2, e3, e4⟩ := stB_el hl (List.mem_range.1 hi)
  unfold ooC at hx
  split at hx
  · simp only [List.mem_cons, List.not_mem_nil, or_false] at hx
    rcases hx with rfl | rfl
    · exact elT_pow hg e1 _
    · exact elT_pow hg e3 _
  · simp only [List.mem_cons, List.not_mem_nil, or_false] at hx
    rcases hx with rfl | rfl
    · exact elT_smX hg e1 e2 _ _
    · exact elT_smX hg e3 e4 _ _
-- extraction
noncomputable def exX (q c z e y : Int) : Int := (z - y) % q * invQ ((c - e) % q) q % q
def xoB (gr : GroupD) (l : List EqualLogD) (d f : ProofD) : Bool := fulB gr l d && (fulB gr l f && decide (d.c = f.c))
theorem mul_right_cancel {gr : GroupD} (hg : OkG gr) {a b y : Int} (ha : elB gr a = true) (hb : elB gr b = true) (hy : elB gr y = true) (h : a * y % gr.p = b * y % gr.p) : a = b := by
  have h1 := mul_cancel hg ha hy 1
  have h2 := mul_cancel hg hb hy 1
  rw [powE_single hg hy] at h1 h2
  rw [← h1, h, h2]
theorem slope {gr : GroupD} (hg : OkG gr) {x y c z e v : Int} (hx : elB gr x = true) (hy : elB gr y = true) (hc : expB gr c = true) (he : expB gr e = true) (hne : c ≠ e) (h : smX gr x y c z = smX gr x y e v) :
    powE gr x (exX gr.q c z e v) = y := by
  have hq := hg.q1
  obtain ⟨c1, c2⟩ := expB_bd hc
  obtain ⟨e1, e2⟩ := expB_bd he
  have hd : 0 < (c - e) % gr.q ∧ (c - e) % gr.q < gr.q := by
    refine ⟨?_, Int.emod_lt_of_pos _ (by omega)⟩
    have h0 := Int.emod_nonneg (c - e) (show gr.q ≠ 0 by omega)
    rcases Int.lt_or_eq_of_le h0 with h1 | h1
    · exact h1
    · exfalso
      have := Int.dvd_of_emod_eq_zero h1.symm
      obtain ⟨t, ht⟩ := this
      have ht0 : t = 0 := by
        rcases Int.lt_trichotomy t 0 with q | q | q
        · have := Int.mul_le_mul_of_nonneg_left (show t ≤ -1 by omega) (show 0 ≤ gr.q by omega); omega
        · exact q
        · have := Int.mul_le_mul_of_nonneg_left (show 1 ≤ t by omega) (show 0 ≤ gr.q by omega); omega
      rw [ht0, Int.mul_zero] at ht
      omega
  obtain ⟨_, hi⟩ := invQ_is hg.qp hd.1 hd.2
  have k1 : powE gr x (z - v) = powE gr y (c - e) := by
    rw [smX_eq, smX_eq] at h
    have s1 := mul_cancel' hg (elT_pow hg hx z) hy c
    have s2 := mul_cancel' hg (elT_pow hg hx v) hy e
    refine mul_right_cancel hg (elT_pow hg hx _) (elT_pow hg hy _) (elT_pow hg hx v) ?_
    rw [← powE_add hg hx, Int.sub_add_cancel, ← s1, h]
    rw [show c - e = c + -e by omega, powE_add hg hy, emod_mul_left, emod_mul_left]
    congr 1
    simp only [Int.mul_assoc, Int.mul_comm, Int.mul_left_comm]
  unfold exX
  rw [powE_emod, ← powE_pow hg hx, powE_emod, k1, ← powE_emod gr y (c - e), powE_pow hg hy, ← powE_emod, hi, powE_single hg hy]
theorem ex_right {gr : GroupD} {l : List EqualLogD} {d f : ProofD} {i : Nat} (hg : OkG gr) (hl : stB gr l = true) (h : xoB gr l d f = true) (hi : i < l.length) (hne : nth d.h i ≠ nth f.h i) :
    eqTrue gr (eqAt l i) (exX gr.q (nth d.h i) (nth d.r i) (nth f.h i) (nth f.r i)) = true := by
  unfold xoB fulB at h
  simp only [Bool.and_eq_true, decide_eq_true_iff] at h
  obtain ⟨⟨hd, hd2⟩, ⟨hf, hf2⟩, hc⟩ := h
  have hd2 := List.all_eq_true.1 hd2 i (List.mem_range.2 hi)
  have hf2 := List.all_eq_true.1 hf2 i (List.mem_range.2 hi)
  unfold vofB at hd hf
  simp only [Bool.and_eq_true, decide_eq_true_iff] at hd hf
  unfold voK at hd2 hf2
  simp only [Bool.and_eq_true, beq_iff_eq] at hd2 hf2
  obtain ⟨e1, e2, e3, e4⟩ := stB_el hl hi
  have x1 := exp_nth hg hd.2.2.2.2.1 i
  have x2 := exp_nth hg hf.2.2.2.2.1 i
  unfold eqTrue
  rw [Bool.and_eq_true, beq_iff_eq, beq_iff_eq]
  exact ⟨slope hg e1 e2 x1 x2 hne (by rw [hd2.1, hf2.1, hc]), slope hg e3 e4 x1 x2 hne (by rw [hd2.2, hf2.2, hc])⟩
end Go.Proofs.Ytegomgnlhcbmfaa
namespace Go.Proofs.Ytegomgnlhcbmfaa
open Go.RowKit

/-- a function value that decides p on structs of a row, in every world that has grown from w -/
structure DecidesS {δ : Type} (R : RowK δ) (w : World) (g : FuncId) (caps : Array Value) (p : δ → Bool) : Prop where
  enters : ∀ args wr, (callFunc g args).run Try.prog wr = .ok (.enter g args) wr
  runs : ∀ v d wr, (kS R).rd wr v d → Below w.heap.size w wr → Calls Try.prog g (#[v] ++ caps) wr fun e w' => e = .returned (.bool (p d)) ∧ Below wr.heap.size wr w'
theorem DecidesS.below {δ : Type} {R : RowK δ} {w w' : World} {g : FuncId} {caps : Array Value} {p : δ → Bool} (h : DecidesS R w g caps p) (hb : Below w.heap.size w w') : DecidesS R w' g caps p :=
  ⟨h.enters, fun v d wr hx hr => h.runs v d wr hx (hb.trans (hr.mono hb.size))⟩
end Go.Proofs.Ytegomgnlhcbmfaa
namespace Go.Proofs.Ytegomgnlhcbmfaa
open Go.RowKit
set_option linter.unusedSimpArgs false
set_option linter.unusedVariables false

set_option maxHeartbeats 2000000 in
theorem slices_IndexFuncEqualLog (v : Value) (ds : List EqualLogD) (g : FuncId) (caps : Array Value) (p : EqualLogD → Bool) (w : World) (h : RdR rEqualLog w v ds) (hp : DecidesS rEqualLog w g caps p) :
    Calls Try.prog 238 #[v, .func (.func g) #[] caps] w fun e w' => (∃ r : Int, e = .returned (.int .i64 r) ∧ decide (0 ≤ r) = ds.any p) ∧ Below w.heap.size w w' := by
  obtain ⟨a, n, c, rfl⟩ := h.shape
  have e := h.len
  obtain ⟨k1, k2⟩ := h.capMax
  unfold maxLen at k2
  have HE := Lib.hid e; clear e
  have hent := hp.enters
  have HP := Lib.hid hp; clear hp
  have H := Lib.hid h; clear h
  go_enter Try.func238, Try.ntmps238
  go_wp2
  go_loopg [8] n (fun g i wr => ∃ k : Nat, k + g = n ∧ i = .int .i64 k ∧ Hid ((ds.take k).any p = false) ∧ Below w.heap.size w wr)
  case atStart => exact ⟨0, by omega, rfl, by unfold Hid; simp, Below.refl _ _⟩
  case round =>
    obtain ⟨k, hkg, rfl, HF, hb⟩ := hrel
    by_cases hlt : k < n
    · have HK : Hid (k < ds.length) := by unfold Hid; rw [HE.out]; exact hlt
      obtain ⟨b, o, rfl, hcx⟩ := H.out.at_ (by omega)
      obtain ⟨us, hcell, hrd⟩ := hcx k HK.out
      have HS : Hid ((ds.take (k + 1)).any p = ((ds.take k).any p || p (ds[k]'HK.out))) := by unfold Hid; rw [List.take_succ_eq_append_getElem HK.out, List.any_append]; simp
      have HM := Lib.hid (List.getElem_mem HK.out)
      generalize ds[k]'HK.out = d at hrd HS HM
      obtain ⟨_, rfl, i37, ⟨_, rfl, i38, ⟨_, rfl, i39, ⟨_, rfl, i40, rfl⟩⟩⟩⟩ := hrd
      have y0 : w.cell? ⟨b, o + (k * 4 + 0), none⟩ = some (.int .i64 d.g1) := hcell 0 (by decide)
      replace y0 : w.cell? ⟨b, o + k * 4, none⟩ = some (.int .i64 d.g1) := by rw [Nat.add_zero] at y0; exact y0
      have y1 : w.cell? ⟨b, o + (k * 4 + 1), none⟩ = some (.int .i64 d.y1) := hcell 1 (by decide)
      replace y1 : w.cell? ⟨b, o + k * 4 + 1, none⟩ = some (.int .i64 d.y1) := by rw [← Nat.add_assoc] at y1; exact y1
      have y2 : w.cell? ⟨b, o + (k * 4 + 2), none⟩ = some (.int .i64 d.g2) := hcell 2 (by decide)
      replace y2 : w.cell? ⟨b, o + k * 4 + 2, none⟩ = some (.int .i64 d.g2) := by rw [← Nat.add_assoc] at y2; exact y2
      have y3 : w.cell? ⟨b, o + (k * 4 + 3), none⟩ = some (.int .i64 d.y2) := hcell 3 (by decide)
      replace y3 : w.cell? ⟨b, o + k * 4 + 3, none⟩ = some (.int .i64 d.y2) := by rw [← Nat.add_assoc] at y3; exact y3
      have HR : Hid ((kS rEqualLog).rd wr (.agg #[.int .i64 d.g1, .int .i64 d.y1, .int .i64 d.g2, .int .i64 d.y2]) d) := (kS rEqualLog).rd_below (rdEqualLog.2 ⟨rfl, i37, i38, i39, i40⟩) hb
      replace y0 := box_at y0 hb
      replace y1 := box_at y1 hb
      replace y2 := box_at y2 hb
      replace y3 := box_at y3 hb
      clear hcell hcx i37 i38 i39 i40
      cases hpx : p d with
      | true =>
        have HA : Hid (decide (0 ≤ (k : Int)) = ds.any p) := by
          unfold Hid; rw [decide_eq_true (by omega), eq_comm, List.any_eq_true]; exact ⟨_, HM.out, hpx⟩
        have HX := Lib.hid hpx
        clear hpx
        go_wp2_with fail
        refine (HP.out.runs _ _ _ HR.out hb).mono ?_
        rintro e w1 ⟨rfl, hb1⟩
        rw [HX.out]
        go_wp2_with fail
        go_ret
        exact ⟨⟨_, rfl, HA.out⟩, hb.trans (hb1.mono hb.size)⟩
      | false =>
        have HX := Lib.hid hpx
        clear hpx
        go_wp2_with fail
        refine (HP.out.runs _ _ _ HR.out hb).mono ?_
        rintro e w1 ⟨rfl, hb1⟩
        rw [HX.out]
        go_wp2_with fail
        go_roundg (n - (k + 1))
        case measure => omega
        case rel => exact ⟨k + 1, by omega, by go_num, by unfold Hid; rw [HS.out, HF.out, HX.out]; rfl, hb.trans (hb1.mono hb.size)⟩
    · obtain rfl : n = k := by omega
      have HA : Hid (decide (0 ≤ (-1 : Int)) = ds.any p) := by
        have := HF.out
        rw [List.take_of_length_le (by rw [HE.out]; exact Nat.le_refl _)] at this
        unfold Hid; rw [this]; rfl
      go_wp2_with fail
      go_ret
      exact ⟨⟨_, rfl, HA.out⟩, hb⟩
theorem slices_ContainsFuncEqualLog (v : Value) (ds : List EqualLogD) (g : FuncId) (caps : Array Value) (p : EqualLogD → Bool) (w : World) (h : RdR rEqualLog w v ds) (hp : DecidesS rEqualLog w g caps p) :
    Calls Try.prog 196 #[v, .func (.func g) #[] caps] w fun e w' => e = .returned (.bool (ds.any p)) ∧ Below w.heap.size w w' := by
  have HP := Lib.hid hp; clear hp
  have H := Lib.hid h; clear h
  go_enter Try.func196, Try.ntmps196
  go_wp2_with fail
  refine (slices_IndexFuncEqualLog v ds g caps p _ H.out HP.out).mono ?_
  rintro e w1 ⟨⟨r, rfl, hr⟩, hb⟩
  have HR := Lib.hid hr; clear hr
  go_wp2_with fail
  go_ret
  exact ⟨ret_bool (by first | (rw [HR.out]; done) | (rw [HR.out]; rfl) | exact HR.out.symm), hb⟩
end Go.Proofs.Ytegomgnlhcbmfaa
namespace Go.Proofs.Ytegomgnlhcbmfaa
open Go.RowKit
set_option linter.unusedSimpArgs false
set_option linter.unusedVariables false

theorem AllSmall.append {a b : List Int} (h : AllSmall a) (h2 : AllSmall b) : AllSmall (a ++ b) := fun x hx => by
  rcases List.mem_append.1 hx with h1 | h1
  · exact h x h1
  · exact h2 x h1
end Go.Proofs.Ytegomgnlhcbmfaa
namespace Go.Proofs.Ytegomgnlhcbmfaa
open Go.RowKit
set_option linter.unusedSimpArgs false
set_option linter.unusedVariables false

/-- the label of a signature -/
def sgLabel (s : ByteArray) (d : Int) : ByteArray := s ++ dText d
attribute [irreducible] sgLabel
def sHead : ByteArray := ⟨#[104, 101, 97, 100]⟩
def sHeadSp : ByteArray := ⟨#[104, 101, 97, 100, 32]⟩
def hdD (a s r : Int) : Int := hashOf (lab sHead ++ [a, s, r])
def hdLabel (a s r : Int) : ByteArray := sgLabel sHeadSp (hdD a s r)
attribute [irreducible] hdLabel
end Go.Proofs.Ytegomgnlhcbmfaa
namespace Go.Proofs.Ytegomgnlhcbmfaa
open Go.RowKit
set_option linter.unusedSimpArgs false
set_option linter.unusedVariables false

theorem RdL.below {δ : Type} {K : Kind δ} {w w' : World} {v : Value} {ds : List δ} (h : RdL K w v ds) (hb : Below w.heap.size w w') : RdL K w' v ds := (kList 43 K).rd_below h hb
theorem spec_sLabel (gr : GroupD) (s : ByteArray) (w : World) (hs : s.size ≤ 1000000) :
    Calls Try.prog 105 #[.agg #[.int .i64 gr.p, .int .i64 gr.q, .int .i64 gr.g], .string s] w fun e w' => e = .returned (.bool (goodG gr && decide (s.size ≤ 40))) ∧ Below w.heap.size w w' := by
  obtain ⟨q1, hq1⟩ : ∃ q, goodG gr = q := ⟨_, rfl⟩
  have H1 := Lib.hid hq1
  obtain ⟨q2, hq2⟩ : ∃ q, decide (s.size ≤ 40) = q := ⟨_, rfl⟩
  have hq3 : decide ((s.size : Int) ≤ 40) = q2 := by rw [← hq2, decide_eq_decide]; omega
  rw [hq1, hq2]
  have H3 := Lib.hid hq3
  clear hq1 hq2 hq3
  obtain ⟨W, hW⟩ : ∃ W, W = w.alloc (.cells #[.int .i64 gr.p, .int .i64 gr.q, .int .i64 gr.g] 24) := ⟨_, rfl⟩
  have HB : Hid (Below w.heap.size w W) := by unfold Hid; rw [hW]; (repeat (first | exact Below.refl _ _ | assumption | refine Below.drew ?_ | refine Below.alloc ?_ (by first | (simp; done) | (simp; omega)) _ | refine Below.setCell ?_ (by first | (simp; done) | (simp; omega)) _))
  have c0 : W.cell? ⟨w.heap.size, 0, none⟩ = some (.int .i64 gr.p) := by rw [hW]; simp [go_sem]
  have c1 : W.cell? ⟨w.heap.size, 1, none⟩ = some (.int .i64 gr.q) := by rw [hW]; simp [go_sem]
  have c2 : W.cell? ⟨w.heap.size, 2, none⟩ = some (.int .i64 gr.g) := by rw [hW]; simp [go_sem]
  go_enter Try.func105, Try.ntmps105
  go_wp2_with fail
  rw [← hW]
  clear hW
  go_wp2_with fail
  refine (spec_l2Good gr _).mono ?_
  rintro e w1 ⟨rfl, hb⟩
  rw [H1.out]
  have h3 := H3.out
  cases q1 with
  | false =>
    go_wp2_with fail
    go_ret
    exact ⟨rfl, HB.out.trans (hb.mono HB.out.size)⟩
  | true =>
    go_wp2_with fail
    go_ret
    exact ⟨ret_bool (by first | (rw [Bool.true_and]; done) | (rw [Bool.true_and]; exact h3) | exact h3), HB.out.trans (hb.mono HB.out.size)⟩
/-- a list in new memory and a Bool are returned -/
def RetI (e : Ending) (w : World) (B : Nat) (b : Bool) (l : List Int) : Prop := ∃ x, e = .returned (.tuple #[x, .bool b]) ∧ OwnI w B x l
theorem RetI.mk {w : World} {B : Nat} {x : Value} {b : Bool} {l : List Int} (h : OwnI w B x l) : RetI (.returned (.tuple #[x, .bool b])) w B b l := ⟨x, rfl, h⟩
end Go.Proofs.Ytegomgnlhcbmfaa
namespace Go.Proofs.Ytegomgnlhcbmfaa
open Go.RowKit
set_option linter.unusedSimpArgs false
set_option linter.unusedVariables false

theorem tdiv_pos {a b : Int} (h : 0 ≤ a) : Int.tdiv a b = a / b := Int.tdiv_eq_ediv_of_nonneg h
set_option maxHeartbeats 1000000 in
theorem impl_inverse (a m : Int) (w : World) (hm : Prm m) (h0 : 0 < a) (h1 : a < m) (h2 : m ≤ 2000000000) :
    Calls Try.prog 200 #[.int .i64 a, .int .i64 m] w fun e w' => e = .returned (.int .i64 (invQ a m)) ∧ w = w' := by
  have HM := Lib.hid hm
  clear hm
  go_enter Try.func200, Try.ntmps200
  go_wp2
  go_loopg [5, 6, 7, 8] a.toNat (fun g rv nv xv yv wr => ∃ (r n x y : Int), rv = .int .i64 r ∧ nv = .int .i64 n ∧ xv = .int .i64 x ∧ yv = .int .i64 y ∧ n ≤ (g : Int) ∧ Hid (EuInv a m r n x y) ∧ w = wr)
  case atStart => exact ⟨m, a, 0, 1, rfl, rfl, rfl, rfl, by omega, EuInv.start (by omega) (by omega) (by omega), rfl⟩
  case round =>
    obtain ⟨r, n, x, y, rfl, rfl, rfl, rfl, hg, HI, rfl⟩ := hrel
    have hn0 : 0 ≤ n := HI.out.1
    have hr1 : 1 ≤ r := HI.out.2.1
    have hrm : r ≤ m := HI.out.2.2.1
    have hnm : n ≤ m := HI.out.2.2.2.1
    obtain ⟨hx1, hx2, hy1, hy2⟩ := HI.out.bd
    by_cases hz : n = 0
    · subst hz
      obtain ⟨e1, e2⟩ := HI.out.inv HM.out h0 h1
      have HE := Lib.hid e2
      subst e1
      clear e2
      go_wp2_with fail
      refine (impl_mod x m _ ⟨by omega, by omega⟩ (by omega) (by omega)).mono ?_
      rintro e w1 ⟨rfl, rfl⟩
      go_wp2_with fail
      go_ret
      exact ⟨ret_int HE.out, rfl⟩
    · have hz2 : (n == 0) = false := beq_eq_false_iff_ne.2 hz
      have hz3 : (n != 0) = true := by rw [bne_iff_ne]; exact hz
      obtain ⟨HN, s1, s2⟩ := HI.out.step (by omega)
      obtain ⟨q0, q1, q2, q3, q4, q5⟩ := HI.out.quo (by omega)
      have hd : Int.tdiv r n = r / n := tdiv_pos (by omega)
      obtain ⟨t1, t2, t3, t4⟩ := HN.bd
      have HN := Lib.hid HN
      obtain ⟨q, hq⟩ : ∃ q, r / n = q := ⟨_, rfl⟩
      rw [hq] at HN s1 s2 q0 q1 q2 q3 q4 q5 hd t3 t4
      clear hq
      have w1 : IntKind.i64.wrap q = q := IntWalk.i64_in _ (by omega)
      have w2 : IntKind.i64.wrap (q * n) = q * n := IntWalk.i64_in _ (by omega)
      have w3 : IntKind.i64.wrap (r - q * n) = r - q * n := IntWalk.i64_in _ (by omega)
      have w4 : IntKind.i64.wrap (q * y) = q * y := IntWalk.i64_in _ (by omega)
      have w5 : IntKind.i64.wrap (x - q * y) = x - q * y := IntWalk.i64_in _ (by omega)
      go_wp2_with fail
      go_roundg (r - q * n).toNat
      case measure => omega
      case rel => exact ⟨n, r - q * n, y, x - q * y, rfl, rfl, rfl, rfl, by omega, HN.out, rfl⟩
set_option maxHeartbeats 1000000 in
theorem spec_nInverse (a m : Int) (w : World) (hm : Prm m) (ha : I64 a) (h0 : 0 < a % m) (h2 : m ≤ 2000000000) :
    Calls Try.prog 201 #[.int .i64 a, .int .i64 m] w fun e w' => e = .returned (.tuple #[.int .i64 (invQ (a % m) m), .bool true]) ∧ w = w' := by
  have hm2 := hm.1
  have HM := Lib.hid hm
  clear hm
  have h1 : a % m < m := Int.emod_lt_of_pos _ (by omega)
  have HA := Lib.hid ha
  clear ha
  go_enter Try.func201, Try.ntmps201
  go_wp2_with fail
  refine (spec_nMod a m _ HA.out (by omega) (by omega)).mono ?_
  rintro e w1 ⟨rfl, rfl⟩
  clear HA
  obtain ⟨c, hcc⟩ : ∃ c, a % m = c := ⟨_, rfl⟩
  rw [hcc] at h0 h1 ⊢
  have HCC := Lib.hid hcc
  clear hcc
  go_wp2_with fail
  go_loopg [6, 7, 8, 9] m.toNat (fun g rv nv xv yv wr => ∃ (r n x y : Int), rv = .int .i64 r ∧ nv = .int .i64 n ∧ xv = .int .i64 x ∧ yv = .int .i64 y ∧ n ≤ (g : Int) ∧ Hid (EuInv c m r n x y) ∧ w = wr)
  case atStart => exact ⟨c, m, 1, 0, rfl, rfl, rfl, rfl, by omega, EuInv.start2 (by omega) (by omega), rfl⟩
  case round =>
    obtain ⟨r, n, x, y, rfl, rfl, rfl, rfl, hg, HI, rfl⟩ := hrel
    have hn0 : 0 ≤ n := HI.out.1
    have hr1 : 1 ≤ r := HI.out.2.1
    have hrm : r ≤ m := HI.out.2.2.1
    have hnm : n ≤ m := HI.out.2.2.2.1
    obtain ⟨hx1, hx2, hy1, hy2⟩ := HI.out.bd
    by_cases hz : n = 0
    · subst hz
      obtain ⟨e1, e2⟩ := HI.out.inv HM.out h0 h1
      have HE := Lib.hid e2
      subst e1
      clear e2
      go_wp2_with fail
      refine (spec_nMod x m _ ⟨by omega, by omega⟩ (by omega) (by omega)).mono ?_
      rintro e w1 ⟨rfl, rfl⟩
      go_wp2_with fail
      go_ret2
      exact ⟨by rw [HCC.out, HE.out]; rfl, rfl⟩
    · have hz2 : (n == 0) = false := beq_eq_false_iff_ne.2 hz
      have hz3 : (n != 0) = true := by rw [bne_iff_ne]; exact hz
      obtain ⟨HN, s1, s2⟩ := HI.out.step (by omega)
      obtain ⟨q0, q1, q2, q3, q4, q5⟩ := HI.out.quo (by omega)
      have hd : Int.tdiv r n = r / n := tdiv_pos (by omega)
      obtain ⟨t1, t2, t3, t4⟩ := HN.bd
      have HN := Lib.hid HN
      obtain ⟨q, hq⟩ : ∃ q, r / n = q := ⟨_, rfl⟩
      rw [hq] at HN s1 s2 q0 q1 q2 q3 q4 q5 hd t3 t4
      clear hq
      have w1 : IntKind.i64.wrap q = q := IntWalk.i64_in _ (by omega)
      have w2 : IntKind.i64.wrap (q * n) = q * n := IntWalk.i64_in _ (by omega)
      have w3 : IntKind.i64.wrap (r - q * n) = r - q * n := IntWalk.i64_in _ (by omega)
      have w4 : IntKind.i64.wrap (q * y) = q * y := IntWalk.i64_in _ (by omega)
      have w5 : IntKind.i64.wrap (x - q * y) = x - q * y := IntWalk.i64_in _ (by omega)
      go_wp2_with fail
      go_roundg (r - q * n).toNat
      case measure => omega
      case rel => exact ⟨n, r - q * n, y, x - q * y, rfl, rfl, rfl, rfl, by omega, HN.out, rfl⟩
end Go.Proofs.Ytegomgnlhcbmfaa
namespace Go.Proofs.Ytegomgnlhcbmfaa
open Go.RowKit
set_option linter.unusedSimpArgs false
set_option linter.unusedVariables false

def lateR (P : Program) (o : Oper) (s : SpecP) (w : World) (a : Act) : Prop := o.guard = none ∧ ∃ v, (∀ w', (execOp a.eval o).run P w' = .ok (.value v) w') ∧ s.holds v w
def obR (P : Program) (ops : Array Oper) (Q : Exit → Act → World → Prop) (G : World → World → Prop) (S1 : World → Prop) (b : Bool) (o : Oper) (s : SpecP) (w : World) (a : Act) : Prop := if b = true then lateR P o s w a else stepQ P ops Q G S1 o s w a
def chainR (P : Program) (ops : Array Oper) (Q : Exit → Act → World → Prop) (G : World → World → Prop) (S : Nat → World → Prop) (M : Nat) (K : Act → World → Prop) (a0 : Act) : List (Option Tmp × SpecP) → List (Oper × List Nat × Bool) → Prop
  | env, [] => ∀ w, S M w → allP w (fun a => K a w) env a0
  | env, (o, deps, b) :: r => ∃ s : SpecP, MonoQ G s ∧ (∀ m w, m < M → S m w → allP w (obR P ops Q G (S (m + 1)) b o s w) (lookP env deps) a0) ∧ chainR P ops Q G S M K a0 ((o.dst, s) :: env) r
section
variable {P : Program} {ops : Array Oper} {Q : Exit → Act → World → Prop} {G : World → World → Prop} {S : Nat → World → Prop} {M : Nat} {K : Act → World → Prop} {a0 : Act}
end
/-! ### worlds that only grow -/
section
variable {P : Program} {ops : Array Oper} {Q : Exit → Act → World → Prop} {W : World} {C : World → Prop} {M : Nat} {K : Act → World → Prop} {a0 : Act}
end
attribute [irreducible] chainR
end Go.Proofs.Ytegomgnlhcbmfaa
