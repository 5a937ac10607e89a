/- Proofs of one of several statements: the plain laws. -/
import Derived.Test.YtegomgnlhcbmfaaSumLV
import Derived.Test.YtegomgnlhcbmfaaKEqualLogV
import Derived.Test.YtegomgnlhcbmfaaBaV
import Derived.Test.YtegomgnlhcbmfaaBgV
import Derived.Test.YtegomgnlhcbmfaaBmV
import Derived.Deep.RegionLaw
import Derived.Test.YtegomgnlhcbmfaaDrG0V
import Derived.Test.YtegomgnlhcbmfaaRegPV
import Derived.Deep.Cut
import Derived.Test.YtegomgnlhcbmfaaPow2V
namespace Go.Proofs.Ytegomgnlhcbmfaa
open Go.RowKit
set_option linter.unusedSimpArgs false
set_option linter.unusedVariables false

def eqEl (gr : GroupD) (e : EqualLogD) : Bool := [e.g1, e.y1, e.g2, e.y2].all (elB gr)
def eqTrue (gr : GroupD) (e : EqualLogD) (s : Int) : Bool := (powE gr e.g1 s == e.y1) && (powE gr e.g2 s == e.y2)
/-- the commit of a challenge and a response -/
def smX (gr : GroupD) (x y c z : Int) : Int := mulL gr [powE gr x z, powE gr y (-c)]
def stB (gr : GroupD) (l : List EqualLogD) : Bool := decide (1 ≤ l.length ∧ l.length ≤ 8) && l.all (eqEl gr)
def ooL (l : List EqualLogD) : List Int := l.flatMap fun e => [e.g1, e.y1, e.g2, e.y2]
def ooE (gr : GroupD) (s : ByteArray) (l : List EqualLogD) (cs : List Int) : Int := chV gr s (ooL l ++ cs)
def eqAt (l : List EqualLogD) (i : Nat) : EqualLogD := l.getD i ⟨0, 0, 0, 0⟩
/-- the place of the coins of a statement -/
def ooP (k i : Nat) : Nat := if i < k then 2 * i else 2 * (i - 1)
def ooH (k : Nat) (cs : List Int) (i : Nat) : Int := if i = k then 0 else nth cs (ooP k i)
def ooR (k : Nat) (cs : List Int) (i : Nat) : Int := if i = k then 0 else nth cs (ooP k i + 1)
def ooW (n : Nat) (cs : List Int) : Int := nth cs (2 * n - 2)
def ooC (gr : GroupD) (l : List EqualLogD) (k : Nat) (cs : List Int) (i : Nat) : List Int :=
  if i = k then [powE gr (eqAt l i).g1 (ooW l.length cs), powE gr (eqAt l i).g2 (ooW l.length cs)]
  else [smX gr (eqAt l i).g1 (eqAt l i).y1 (ooH k cs i) (ooR k cs i), smX gr (eqAt l i).g2 (eqAt l i).y2 (ooH k cs i) (ooR k cs i)]
def ooCs (gr : GroupD) (l : List EqualLogD) (k : Nat) (cs : List Int) (n : Nat) : List Int := (List.range n).flatMap (ooC gr l k cs)
def ooHs (k : Nat) (cs : List Int) (n : Nat) : List Int := (List.range n).map (ooH k cs)
def ooRs (k : Nat) (cs : List Int) (n : Nat) : List Int := (List.range n).map (ooR k cs)
def ooOwn (gr : GroupD) (s : ByteArray) (l : List EqualLogD) (k : Nat) (cs : List Int) : Int := (ooE gr s l (ooCs gr l k cs l.length) - sumM gr.q (ooHs k cs l.length)) % gr.q
def ooD (gr : GroupD) (s : ByteArray) (l : List EqualLogD) (k : Nat) (x : Int) (cs : List Int) : ProofD :=
  ⟨ooCs gr l k cs l.length, (ooHs k cs l.length).set k (ooOwn gr s l k cs), (ooRs k cs l.length).set k ((ooW l.length cs + ooOwn gr s l k cs * x) % gr.q)⟩
noncomputable def ooB (gr : GroupD) (s : ByteArray) (l : List EqualLogD) (k x : Int) (cs : List Int) : Bool :=
  goodG gr && (decide (s.size ≤ 40) && (stB gr l && (decide (0 ≤ k ∧ k ≤ (l.length : Int) - 1) && (expB gr x && (decide ((cs.length : Int) = 2 * (l.length : Int) - 1) && (cs.all (expB gr) && eqTrue gr (eqAt l k.toNat) x))))))
noncomputable def ooF (gr : GroupD) (s : ByteArray) (l : List EqualLogD) (k x : Int) (cs : List Int) : ProofD := if ooB gr s l k x cs = true then ooD gr s l k.toNat x cs else ⟨[], [], []⟩
/-- the form of a proof -/
def vofB (gr : GroupD) (n : Nat) (d : ProofD) : Bool := decide (d.c.length = 2 * n) && (decide (d.h.length = n) && (decide (d.r.length = n) && (d.c.all (elB gr) && (d.h.all (expB gr) && d.r.all (expB gr)))))
def voK (gr : GroupD) (l : List EqualLogD) (d : ProofD) (i : Nat) : Bool :=
  (smX gr (eqAt l i).g1 (eqAt l i).y1 (nth d.h i) (nth d.r i) == nth d.c (2 * i)) && (smX gr (eqAt l i).g2 (eqAt l i).y2 (nth d.h i) (nth d.r i) == nth d.c (2 * i + 1))
/-- the same equations as the model writes them -/
def voM (gr : GroupD) (l : List EqualLogD) (d : ProofD) (i : Nat) : Bool :=
  (powE gr (eqAt l i).g1 (nth d.r i) == mulL gr [nth d.c (2 * i), powE gr (eqAt l i).y1 (nth d.h i)]) && (powE gr (eqAt l i).g2 (nth d.r i) == mulL gr [nth d.c (2 * i + 1), powE gr (eqAt l i).y2 (nth d.h i)])
def fulB (gr : GroupD) (l : List EqualLogD) (d : ProofD) : Bool := vofB gr l.length d && (List.range l.length).all (voK gr l d)
def vooV (gr : GroupD) (s : ByteArray) (l : List EqualLogD) (d : ProofD) : Bool := fulB gr l d && (sumM gr.q d.h == ooE gr s l d.c)
noncomputable def vooA (gr : GroupD) (s : ByteArray) (l : List EqualLogD) : Bool := goodG gr && (decide (s.size ≤ 40) && stB gr l)
noncomputable def vooR (gr : GroupD) (s : ByteArray) (l : List EqualLogD) (d : ProofD) : Bool := vooA gr s l && vooV gr s l d

theorem eqAt_mem {l : List EqualLogD} {i : Nat} (h : i < l.length) : eqAt l i ∈ l := by
  have e : eqAt l i = l[i] := by simp [eqAt, List.getD, h]
  rw [e]; exact List.getElem_mem h
theorem stB_len {gr : GroupD} {l : List EqualLogD} (h : stB gr l = true) : 1 ≤ l.length ∧ l.length ≤ 8 := by
  unfold stB at h; simp only [Bool.and_eq_true, decide_eq_true_iff] at h; exact h.1
theorem eqEl_parts {gr : GroupD} {e : EqualLogD} (h : eqEl gr e = true) : elB gr e.g1 = true ∧ elB gr e.y1 = true ∧ elB gr e.g2 = true ∧ elB gr e.y2 = true := by
  unfold eqEl at h; simpa [and_assoc] using h
theorem stB_el {gr : GroupD} {l : List EqualLogD} (h : stB gr l = true) {i : Nat} (hi : i < l.length) : elB gr (eqAt l i).g1 = true ∧ elB gr (eqAt l i).y1 = true ∧ elB gr (eqAt l i).g2 = true ∧ elB gr (eqAt l i).y2 = true := by
  unfold stB at h
  simp only [Bool.and_eq_true] at h
  exact eqEl_parts (List.all_eq_true.1 h.2 _ (eqAt_mem hi))
theorem smX_eq (gr : GroupD) (x y c z : Int) : smX gr x y c z = powE gr x z * powE gr y (-c) % gr.p := mulT _ _
theorem elT_smX {gr : GroupD} (hg : OkG gr) {x y : Int} (hx : elB gr x = true) (hy : elB gr y = true) (c z : Int) : elB gr (smX gr x y c z) = true := by
  rw [smX_eq]; exact elT_mul hg (elT_pow hg hx _) (elT_pow hg hy _)
theorem sm_iff {gr : GroupD} (hg : OkG gr) {x y a : Int} (hx : elB gr x = true) (hy : elB gr y = true) (ha : elB gr a = true) (c z : Int) :
    (smX gr x y c z == a) = (powE gr x z == mulL gr [a, powE gr y c]) := by
  rw [Bool.eq_iff_iff, beq_iff_eq, beq_iff_eq, smX_eq, mulT]
  constructor
  · intro h; rw [← h]; exact (mul_cancel' hg (elT_pow hg hx z) hy c).symm
  · intro h; rw [h]; exact mul_cancel hg ha hy c
theorem nthO {l : List Int} {k : Nat} (h : k < l.length) : nth l k ∈ l := by
  have e : nth l k = l[k] := by simp [nth, List.getD, h]
  rw [e]; exact List.getElem_mem h
theorem voKM {gr : GroupD} (hg : OkG gr) {l : List EqualLogD} (hl : stB gr l = true) {d : ProofD} (hd : vofB gr l.length d = true) {i : Nat} (hi : i < l.length) : voK gr l d i = voM gr l d i := by
  unfold vofB at hd
  simp only [Bool.and_eq_true, decide_eq_true_iff] at hd
  obtain ⟨h1, h2, h3, h4, _⟩ := hd
  obtain ⟨e1, e2, e3, e4⟩ := stB_el hl hi
  unfold voK voM
  rw [sm_iff hg e1 e2 (List.all_eq_true.1 h4 _ (nthO (by omega))), sm_iff hg e3 e4 (List.all_eq_true.1 h4 _ (nthO (by omega)))]
theorem all_congr {f g : Nat → Bool} {n : Nat} (h : ∀ i, i < n → f i = g i) : (List.range n).all f = (List.range n).all g := by
  rw [Bool.eq_iff_iff, List.all_eq_true, List.all_eq_true]
  constructor
  · intro q i hi; rw [← h i (List.mem_range.1 hi)]; exact q i hi
  · intro q i hi; rw [h i (List.mem_range.1 hi)]; exact q i hi
theorem ooCs_len (gr : GroupD) (l : List EqualLogD) (k : Nat) (cs : List Int) (n : Nat) : (ooCs gr l k cs n).length = 2 * n := by
  induction n with
  | zero => rfl
  | succ n ih =>
    have e : (ooC gr l k cs n).length = 2 := by unfold ooC; split <;> rfl
    unfold ooCs at ih ⊢
    rw [List.range_succ, List.flatMap_append, List.length_append, ih]
    simp only [List.flatMap_cons, List.flatMap_nil, List.append_nil, e]; omega
theorem ooCs_succ (gr : GroupD) (l : List EqualLogD) (k : Nat) (cs : List Int) (n : Nat) : ooCs gr l k cs (n + 1) = ooCs gr l k cs n ++ ooC gr l k cs n := by
  unfold ooCs; rw [List.range_succ, List.flatMap_append]; simp
theorem ooHs_succ (k : Nat) (cs : List Int) (n : Nat) : ooHs k cs (n + 1) = ooHs k cs n ++ [ooH k cs n] := by
  unfold ooHs; rw [List.range_succ, List.map_append]; rfl
theorem ooRs_succ (k : Nat) (cs : List Int) (n : Nat) : ooRs k cs (n + 1) = ooRs k cs n ++ [ooR k cs n] := by
  unfold ooRs; rw [List.range_succ, List.map_append]; rfl
theorem ooHs_len (k : Nat) (cs : List Int) (n : Nat) : (ooHs k cs n).length = n := by simp [ooHs]
theorem ooRs_len (k : Nat) (cs : List Int) (n : Nat) : (ooRs k cs n).length = n := by simp [ooRs]
theorem nth_app_l {a b : List Int} {i : Nat} (h : i < a.length) : nth (a ++ b) i = nth a i := by
  simp [nth, List.getD, List.getElem?_append_left h]
theorem nth_app_r {a b : List Int} {i : Nat} (h : a.length ≤ i) : nth (a ++ b) i = nth b (i - a.length) := by
  simp [nth, List.getD, List.getElem?_append_right h]
theorem ooCs_at (gr : GroupD) (l : List EqualLogD) (k : Nat) (cs : List Int) {n i : Nat} (h : i < n) : nth (ooCs gr l k cs n) (2 * i) = nth (ooC gr l k cs i) 0 ∧ nth (ooCs gr l k cs n) (2 * i + 1) = nth (ooC gr l k cs i) 1 := by
  induction n with
  | zero => omega
  | succ n ih =>
    have hl := ooCs_len gr l k cs n
    rw [ooCs_succ]
    by_cases hi : i < n
    · rw [nth_app_l (by omega), nth_app_l (by omega)]; exact ih hi
    · have : i = n := by omega
      subst this
      rw [nth_app_r (by omega), nth_app_r (by omega), hl]
      exact ⟨by congr 1; omega, by congr 1; omega⟩
theorem nth_ooHs (k : Nat) (cs : List Int) {n i : Nat} (h : i < n) : nth (ooHs k cs n) i = ooH k cs i := by
  unfold ooHs nth; simp [List.getD, h]
theorem nth_ooRs (k : Nat) (cs : List Int) {n i : Nat} (h : i < n) : nth (ooRs k cs n) i = ooR k cs i := by
  unfold ooRs nth; simp [List.getD, h]
theorem nth_setO {l : List Int} {k i : Nat} {v : Int} (h : k < l.length) : nth (l.set k v) i = if i = k then v else nth l i := by
  unfold nth
  simp only [List.getD]
  by_cases e : i = k
  · subst e; simp [h]
  · simp [e, List.getElem?_set, Ne.symm e, show ¬ k = i from fun q => e q.symm]
theorem sumM_sum (q : Int) (l : List Int) : ∀ o : Int, l.foldl (fun o x => (o + x) % q) o % q = (o + l.sum) % q := by
  induction l with
  | nil => intro o; simp
  | cons x l ih => intro o; rw [List.foldl_cons, ih, List.sum_cons, Int.emod_add_emod, Int.add_assoc]
theorem sumM_eq {q : Int} (hq : 0 < q) (l : List Int) : sumM q l = l.sum % q := by
  obtain ⟨h1, h2⟩ := sumM_bd hq l
  have h := sumM_sum q l 0
  rw [Int.zero_add] at h
  rw [← h]
  exact (Int.emod_eq_of_lt h1 h2).symm
theorem sum_setO {l : List Int} {k : Nat} {v : Int} (h : k < l.length) : (l.set k v).sum = l.sum - nth l k + v := by
  induction l generalizing k with
  | nil => simp at h
  | cons x l ih =>
    cases k with
    | zero => simp [nth]; omega
    | succ k =>
      have e : nth (x :: l) (k + 1) = nth l k := rfl
      rw [List.set_cons_succ, List.sum_cons, List.sum_cons, ih (by simpa using h), e]; omega
theorem oo_sum {gr : GroupD} (hg : OkG gr) {l : List Int} {k : Nat} {e : Int} (h : k < l.length) (h0 : nth l k = 0) (he : expB gr e = true) : sumM gr.q (l.set k ((e - sumM gr.q l) % gr.q)) = e := by
  have hq := hg.q1
  obtain ⟨e1, e2⟩ := expB_bd he
  rw [sumM_eq (by omega), sum_setO h, h0, sumM_eq (by omega)]
  obtain ⟨S, hS⟩ : ∃ S, l.sum = S := ⟨_, rfl⟩
  rw [hS, Int.sub_zero, Int.add_emod, Int.emod_emod, ← Int.add_emod, Int.add_comm, Int.add_emod, Int.sub_emod, Int.emod_emod, ← Int.sub_emod, ← Int.add_emod, Int.sub_add_cancel]
  exact Int.emod_eq_of_lt (by omega) (by omega)
theorem ooB_parts {gr : GroupD} {s : ByteArray} {l : List EqualLogD} {k x : Int} {cs : List Int} (h : ooB gr s l k x cs = true) :
    goodG gr = true ∧ s.size ≤ 40 ∧ stB gr l = true ∧ (0 ≤ k ∧ k ≤ (l.length : Int) - 1) ∧ expB gr x = true ∧ cs.length = 2 * l.length - 1 ∧ cs.all (expB gr) = true ∧ eqTrue gr (eqAt l k.toNat) x = true := by
  unfold ooB at h
  simp only [Bool.and_eq_true, decide_eq_true_iff] at h
  obtain ⟨h1, h2, h3, h4, h5, h6, h7, h8⟩ := h
  exact ⟨h1, h2, h3, h4, h5, by omega, h7, h8⟩
theorem exp_nth {gr : GroupD} (hg : OkG gr) {l : List Int} (h : l.all (expB gr) = true) (i : Nat) : expB gr (nth l i) = true := by
  by_cases hi : i < l.length
  · exact List.all_eq_true.1 h _ (nthO hi)
  · have hq := hg.q1
    have e : nth l i = 0 := by simp [nth, List.getD, List.getElem?_eq_none (Nat.le_of_not_lt hi)]
    rw [e]; unfold expB; exact decide_eq_true ⟨by omega, by omega⟩
theorem exp_zero {gr : GroupD} (hg : OkG gr) : expB gr 0 = true := by
  have hq := hg.q1
  unfold expB; exact decide_eq_true ⟨by omega, by omega⟩
theorem all_set {f : Int → Bool} {l : List Int} (k : Nat) {v : Int} (h : l.all f = true) (hv : f v = true) : (l.set k v).all f = true := by
  rw [List.all_eq_true] at h ⊢
  intro x hx
  rcases List.mem_or_eq_of_mem_set hx with h1 | h1
  · exact h x h1
  · rw [h1]; exact hv
theorem oo_exps {gr : GroupD} (hg : OkG gr) {cs : List Int} (h : cs.all (expB gr) = true) (k n : Nat) : (ooHs k cs n).all (expB gr) = true ∧ (ooRs k cs n).all (expB gr) = true := by
  constructor
  · rw [List.all_eq_true]; intro x hx
    obtain ⟨i, _, rfl⟩ := List.mem_map.1 hx
    unfold ooH; split
    · exact exp_zero hg
    · exact exp_nth hg h _
  · rw [List.all_eq_true]; intro x hx
    obtain ⟨i, _, rfl⟩ := List.mem_map.1 hx
    unfold ooR; split
    · exact exp_zero hg
    · exact exp_nth hg h _
theorem oo_els {gr : GroupD} (hg : OkG gr) {l : List EqualLogD} (hl : stB gr l = true) (k : Nat) (cs : List Int) : (ooCs gr l k cs l.length).all (elB gr) = true := by
  rw [List.all_eq_true]; intro x hx
  obtain ⟨i, hi, hx⟩ := List.mem_flatMap.1 hx
  obtain ⟨e1, e2, e3, e4⟩ := stB_el hl (List.mem_range.1 hi)
  unfold ooC at hx
  split at hx
  · simp only [List.mem_cons, List.not_mem_nil, or_false] at hx
    rcases hx with rfl | rfl
    · exact elT_pow hg e1 _
    · exact elT_pow hg e3 _
  · simp only [List.mem_cons, List.not_mem_nil, or_false] at hx
    rcases hx with rfl | rfl
    · exact elT_smX hg e1 e2 _ _
    · exact elT_smX hg e3 e4 _ _
theorem own_sm {gr : GroupD} (hg : OkG gr) {x y w e s : Int} (hx : elB gr x = true) (hy : powE gr x s = y) : smX gr x y e ((w + e * s) % gr.q) = powE gr x w := by
  rw [smX_eq, sigma_eq hg hx, hy]
  exact mul_cancel hg (elT_pow hg hx w) (by rw [← hy]; exact elT_pow hg hx s) e
theorem oo_form {gr : GroupD} {s : ByteArray} {l : List EqualLogD} {k : Nat} {x : Int} {cs : List Int} (hg : OkG gr) (hl : stB gr l = true) (hc : cs.all (expB gr) = true) : vofB gr l.length (ooD gr s l k x cs) = true := by
  unfold vofB ooD
  simp only [Bool.and_eq_true, decide_eq_true_iff]
  obtain ⟨h1, h2⟩ := oo_exps hg hc k l.length
  exact ⟨ooCs_len .., by rw [List.length_set, ooHs_len], by rw [List.length_set, ooRs_len], oo_els hg hl _ _, all_set _ h1 (expT hg _), all_set _ h2 (expT hg _)⟩
/-- a proof of one of several statements is accepted -/
theorem oo_right {gr : GroupD} {s : ByteArray} {l : List EqualLogD} {k x : Int} {cs : List Int} (h : ooB gr s l k x cs = true) : vooR gr s l (ooD gr s l k.toNat x cs) = true := by
  obtain ⟨h1, h2, h3, h4, h5, h6, h7, h8⟩ := ooB_parts h
  have hg := goodG_ok h1
  obtain ⟨n, rfl⟩ : ∃ n : Nat, k = n := ⟨k.toNat, by omega⟩
  rw [Int.toNat_natCast] at h8 ⊢
  have hn : n < l.length := by omega
  unfold vooR vooA vooV fulB
  rw [h1, h3, decide_eq_true h2, oo_form hg h3 h7]
  simp only [Bool.true_and, Bool.and_eq_true, beq_iff_eq]
  constructor
  · rw [List.all_eq_true]
    intro i hi
    have hi := List.mem_range.1 hi
    obtain ⟨e1, e2, e3, e4⟩ := stB_el h3 hi
    obtain ⟨c0, c1⟩ := ooCs_at gr l n cs hi
    unfold voK ooD
    simp only
    rw [c0, c1, nth_setO (by rw [ooHs_len]; exact hn), nth_setO (by rw [ooRs_len]; exact hn), nth_ooHs _ _ hi, nth_ooRs _ _ hi]
    unfold ooC
    by_cases e : i = n
    · subst e
      unfold eqTrue at h8
      simp only [Bool.and_eq_true, beq_iff_eq] at h8
      simp only [if_true, ite_true]
      rw [own_sm hg e1 h8.1, own_sm hg e3 h8.2]
      simp [nth]
    · simp only [if_neg e]
      simp [nth]
  · unfold ooD ooOwn
    simp only
    exact oo_sum hg (by rw [ooHs_len]; exact hn) (by rw [nth_ooHs _ _ hn]; unfold ooH; simp) (expV hg _ _)

-- extraction
end Go.Proofs.Ytegomgnlhcbmfaa
namespace Go.Proofs.Ytegomgnlhcbmfaa
open Go.RowKit

/-- a function value that decides p on structs of a row, in every world that has grown from w -/
structure DecidesS {δ : Type} (R : RowK δ) (w : World) (g : FuncId) (caps : Array Value) (p : δ → Bool) : Prop where
  enters : ∀ args wr, (callFunc g args).run Try.prog wr = .ok (.enter g args) wr
  runs : ∀ v d wr, (kS R).rd wr v d → Below w.heap.size w wr → Calls Try.prog g (#[v] ++ caps) wr fun e w' => e = .returned (.bool (p d)) ∧ Below wr.heap.size wr w'
theorem DecidesS.below {δ : Type} {R : RowK δ} {w w' : World} {g : FuncId} {caps : Array Value} {p : δ → Bool} (h : DecidesS R w g caps p) (hb : Below w.heap.size w w') : DecidesS R w' g caps p :=
  ⟨h.enters, fun v d wr hx hr => h.runs v d wr hx (hb.trans (hr.mono hb.size))⟩
end Go.Proofs.Ytegomgnlhcbmfaa
namespace Go.Proofs.Ytegomgnlhcbmfaa
open Go.RowKit
set_option linter.unusedSimpArgs false
set_option linter.unusedVariables false

set_option maxHeartbeats 2000000 in
theorem slices_IndexFuncEqualLog (v : Value) (ds : List EqualLogD) (g : FuncId) (caps : Array Value) (p : EqualLogD → Bool) (w : World) (h : RdR rEqualLog w v ds) (hp : DecidesS rEqualLog w g caps p) :
    Calls Try.prog 238 #[v, .func (.func g) #[] caps] w fun e w' => (∃ r : Int, e = .returned (.int .i64 r) ∧ decide (0 ≤ r) = ds.any p) ∧ Below w.heap.size w w' := by
  obtain ⟨a, n, c, rfl⟩ := h.shape
  have e := h.len
  obtain ⟨k1, k2⟩ := h.capMax
  unfold maxLen at k2
  have HE := Lib.hid e; clear e
  have hent := hp.enters
  have HP := Lib.hid hp; clear hp
  have H := Lib.hid h; clear h
  go_enter Try.func238, Try.ntmps238
  go_wp2
  go_loopg [8] n (fun g i wr => ∃ k : Nat, k + g = n ∧ i = .int .i64 k ∧ Hid ((ds.take k).any p = false) ∧ Below w.heap.size w wr)
  case atStart => exact ⟨0, by omega, rfl, by unfold Hid; simp, Below.refl _ _⟩
  case round =>
    obtain ⟨k, hkg, rfl, HF, hb⟩ := hrel
    by_cases hlt : k < n
    · have HK : Hid (k < ds.length) := by unfold Hid; rw [HE.out]; exact hlt
      obtain ⟨b, o, rfl, hcx⟩ := H.out.at_ (by omega)
      obtain ⟨us, hcell, hrd⟩ := hcx k HK.out
      have HS : Hid ((ds.take (k + 1)).any p = ((ds.take k).any p || p (ds[k]'HK.out))) := by unfold Hid; rw [List.take_succ_eq_append_getElem HK.out, List.any_append]; simp
      have HM := Lib.hid (List.getElem_mem HK.out)
      generalize ds[k]'HK.out = d at hrd HS HM
      obtain ⟨_, rfl, i37, ⟨_, rfl, i38, ⟨_, rfl, i39, ⟨_, rfl, i40, rfl⟩⟩⟩⟩ := hrd
      have y0 : w.cell? ⟨b, o + (k * 4 + 0), none⟩ = some (.int .i64 d.g1) := hcell 0 (by decide)
      replace y0 : w.cell? ⟨b, o + k * 4, none⟩ = some (.int .i64 d.g1) := by rw [Nat.add_zero] at y0; exact y0
      have y1 : w.cell? ⟨b, o + (k * 4 + 1), none⟩ = some (.int .i64 d.y1) := hcell 1 (by decide)
      replace y1 : w.cell? ⟨b, o + k * 4 + 1, none⟩ = some (.int .i64 d.y1) := by rw [← Nat.add_assoc] at y1; exact y1
      have y2 : w.cell? ⟨b, o + (k * 4 + 2), none⟩ = some (.int .i64 d.g2) := hcell 2 (by decide)
      replace y2 : w.cell? ⟨b, o + k * 4 + 2, none⟩ = some (.int .i64 d.g2) := by rw [← Nat.add_assoc] at y2; exact y2
      have y3 : w.cell? ⟨b, o + (k * 4 + 3), none⟩ = some (.int .i64 d.y2) := hcell 3 (by decide)
      replace y3 : w.cell? ⟨b, o + k * 4 + 3, none⟩ = some (.int .i64 d.y2) := by rw [← Nat.add_assoc] at y3; exact y3
      have HR : Hid ((kS rEqualLog).rd wr (.agg #[.int .i64 d.g1, .int .i64 d.y1, .int .i64 d.g2, .int .i64 d.y2]) d) := (kS rEqualLog).rd_below (rdEqualLog.2 ⟨rfl, i37, i38, i39, i40⟩) hb
      replace y0 := box_at y0 hb
      replace y1 := box_at y1 hb
      replace y2 := box_at y2 hb
      replace y3 := box_at y3 hb
      clear hcell hcx i37 i38 i39 i40
      cases hpx : p d with
      | true =>
        have HA : Hid (decide (0 ≤ (k : Int)) = ds.any p) := by
          unfold Hid; rw [decide_eq_true (by omega), eq_comm, List.any_eq_true]; exact ⟨_, HM.out, hpx⟩
        have HX := Lib.hid hpx
        clear hpx
        go_wp2_with fail
        refine (HP.out.runs _ _ _ HR.out hb).mono ?_
        rintro e w1 ⟨rfl, hb1⟩
        rw [HX.out]
        go_wp2_with fail
        go_ret
        exact ⟨⟨_, rfl, HA.out⟩, hb.trans (hb1.mono hb.size)⟩
      | false =>
        have HX := Lib.hid hpx
        clear hpx
        go_wp2_with fail
        refine (HP.out.runs _ _ _ HR.out hb).mono ?_
        rintro e w1 ⟨rfl, hb1⟩
        rw [HX.out]
        go_wp2_with fail
        go_roundg (n - (k + 1))
        case measure => omega
        case rel => exact ⟨k + 1, by omega, by go_num, by unfold Hid; rw [HS.out, HF.out, HX.out]; rfl, hb.trans (hb1.mono hb.size)⟩
    · obtain rfl : n = k := by omega
      have HA : Hid (decide (0 ≤ (-1 : Int)) = ds.any p) := by
        have := HF.out
        rw [List.take_of_length_le (by rw [HE.out]; exact Nat.le_refl _)] at this
        unfold Hid; rw [this]; rfl
      go_wp2_with fail
      go_ret
      exact ⟨⟨_, rfl, HA.out⟩, hb⟩
theorem slices_ContainsFuncEqualLog (v : Value) (ds : List EqualLogD) (g : FuncId) (caps : Array Value) (p : EqualLogD → Bool) (w : World) (h : RdR rEqualLog w v ds) (hp : DecidesS rEqualLog w g caps p) :
    Calls Try.prog 196 #[v, .func (.func g) #[] caps] w fun e w' => e = .returned (.bool (ds.any p)) ∧ Below w.heap.size w w' := by
  have HP := Lib.hid hp; clear hp
  have H := Lib.hid h; clear h
  go_enter Try.func196, Try.ntmps196
  go_wp2_with fail
  refine (slices_IndexFuncEqualLog v ds g caps p _ H.out HP.out).mono ?_
  rintro e w1 ⟨⟨r, rfl, hr⟩, hb⟩
  have HR := Lib.hid hr; clear hr
  go_wp2_with fail
  go_ret
  exact ⟨ret_bool (by first | (rw [HR.out]; done) | (rw [HR.out]; rfl) | exact HR.out.symm), hb⟩
end Go.Proofs.Ytegomgnlhcbmfaa
namespace Go.Proofs.Ytegomgnlhcbmfaa
open Go.RowKit
set_option linter.unusedSimpArgs false
set_option linter.unusedVariables false

theorem AllSmall.append {a b : List Int} (h : AllSmall a) (h2 : AllSmall b) : AllSmall (a ++ b) := fun x hx => by
  rcases List.mem_append.1 hx with h1 | h1
  · exact h x h1
  · exact h2 x h1
end Go.Proofs.Ytegomgnlhcbmfaa
namespace Go.Proofs.Ytegomgnlhcbmfaa
open Go.RowKit
set_option linter.unusedSimpArgs false
set_option linter.unusedVariables false

/-- the label of a signature -/
def sgLabel (s : ByteArray) (d : Int) : ByteArray := s ++ dText d
attribute [irreducible] sgLabel
def sHead : ByteArray := ⟨#[104, 101, 97, 100]⟩
def sHeadSp : ByteArray := ⟨#[104, 101, 97, 100, 32]⟩
def hdD (a s r : Int) : Int := hashOf (lab sHead ++ [a, s, r])
def hdLabel (a s r : Int) : ByteArray := sgLabel sHeadSp (hdD a s r)
attribute [irreducible] hdLabel
end Go.Proofs.Ytegomgnlhcbmfaa
namespace Go.Proofs.Ytegomgnlhcbmfaa
open Go.RowKit
set_option linter.unusedSimpArgs false
set_option linter.unusedVariables false

theorem impl_isLabel (s : ByteArray) (w : World) (hs : s.size ≤ 9223372036854775807) :
    Calls Try.prog 99 #[.string s] w fun e w' => e = .returned (.bool (decide (s.size ≤ 40))) ∧ w = w' := by
  by_cases h : s.size ≤ 40
  · have h1 : decide ((s.size : Int) ≤ 40) = true := decide_eq_true (by omega)
    have h2 := Lib.hid (decide_eq_true h)
    go_enter Try.func99, Try.ntmps99
    go_wp2
    go_ret
    exact ⟨ret_bool (by first | (rw [h2.out]; done) | (rw [h2.out]; rfl) | exact h2.out.symm), rfl⟩
  · have h1 : decide ((s.size : Int) ≤ 40) = false := decide_eq_false (by omega)
    have h2 := Lib.hid (decide_eq_false h)
    go_enter Try.func99, Try.ntmps99
    go_wp2
    go_ret
    exact ⟨ret_bool (by first | (rw [h2.out]; done) | (rw [h2.out]; rfl) | exact h2.out.symm), rfl⟩
end Go.Proofs.Ytegomgnlhcbmfaa
namespace Go.Proofs.Ytegomgnlhcbmfaa
open Go.RowKit
set_option linter.unusedSimpArgs false
set_option linter.unusedVariables false

theorem RdL.below {δ : Type} {K : Kind δ} {w w' : World} {v : Value} {ds : List δ} (h : RdL K w v ds) (hb : Below w.heap.size w w') : RdL K w' v ds := (kList 43 K).rd_below h hb
theorem spec_sLabel (gr : GroupD) (s : ByteArray) (w : World) (hs : s.size ≤ 1000000) :
    Calls Try.prog 105 #[.agg #[.int .i64 gr.p, .int .i64 gr.q, .int .i64 gr.g], .string s] w fun e w' => e = .returned (.bool (goodG gr && decide (s.size ≤ 40))) ∧ Below w.heap.size w w' := by
  obtain ⟨q1, hq1⟩ : ∃ q, goodG gr = q := ⟨_, rfl⟩
  have H1 := Lib.hid hq1
  obtain ⟨q2, hq2⟩ : ∃ q, decide (s.size ≤ 40) = q := ⟨_, rfl⟩
  have hq3 : decide ((s.size : Int) ≤ 40) = q2 := by rw [← hq2, decide_eq_decide]; omega
  rw [hq1, hq2]
  have H3 := Lib.hid hq3
  clear hq1 hq2 hq3
  obtain ⟨W, hW⟩ : ∃ W, W = w.alloc (.cells #[.int .i64 gr.p, .int .i64 gr.q, .int .i64 gr.g] 24) := ⟨_, rfl⟩
  have HB : Hid (Below w.heap.size w W) := by unfold Hid; rw [hW]; (repeat (first | exact Below.refl _ _ | assumption | refine Below.drew ?_ | refine Below.alloc ?_ (by first | (simp; done) | (simp; omega)) _ | refine Below.setCell ?_ (by first | (simp; done) | (simp; omega)) _))
  have c0 : W.cell? ⟨w.heap.size, 0, none⟩ = some (.int .i64 gr.p) := by rw [hW]; simp [go_sem]
  have c1 : W.cell? ⟨w.heap.size, 1, none⟩ = some (.int .i64 gr.q) := by rw [hW]; simp [go_sem]
  have c2 : W.cell? ⟨w.heap.size, 2, none⟩ = some (.int .i64 gr.g) := by rw [hW]; simp [go_sem]
  go_enter Try.func105, Try.ntmps105
  go_wp2_with fail
  rw [← hW]
  clear hW
  go_wp2_with fail
  refine (spec_l2Good gr _).mono ?_
  rintro e w1 ⟨rfl, hb⟩
  rw [H1.out]
  have h3 := H3.out
  cases q1 with
  | false =>
    go_wp2_with fail
    go_ret
    exact ⟨rfl, HB.out.trans (hb.mono HB.out.size)⟩
  | true =>
    go_wp2_with fail
    go_ret
    exact ⟨ret_bool (by first | (rw [Bool.true_and]; done) | (rw [Bool.true_and]; exact h3) | exact h3), HB.out.trans (hb.mono HB.out.size)⟩
/-- a list in new memory and a Bool are returned -/
def RetI (e : Ending) (w : World) (B : Nat) (b : Bool) (l : List Int) : Prop := ∃ x, e = .returned (.tuple #[x, .bool b]) ∧ OwnI w B x l
theorem RetI.mk {w : World} {B : Nat} {x : Value} {b : Bool} {l : List Int} (h : OwnI w B x l) : RetI (.returned (.tuple #[x, .bool b])) w B b l := ⟨x, rfl, h⟩
end Go.Proofs.Ytegomgnlhcbmfaa
namespace Go.Proofs.Ytegomgnlhcbmfaa
open Go.RowKit
set_option linter.unusedSimpArgs false
set_option linter.unusedVariables false

def lateR (P : Program) (o : Oper) (s : SpecP) (w : World) (a : Act) : Prop := o.guard = none ∧ ∃ v, (∀ w', (execOp a.eval o).run P w' = .ok (.value v) w') ∧ s.holds v w
def obR (P : Program) (ops : Array Oper) (Q : Exit → Act → World → Prop) (G : World → World → Prop) (S1 : World → Prop) (b : Bool) (o : Oper) (s : SpecP) (w : World) (a : Act) : Prop := if b = true then lateR P o s w a else stepQ P ops Q G S1 o s w a
def chainR (P : Program) (ops : Array Oper) (Q : Exit → Act → World → Prop) (G : World → World → Prop) (S : Nat → World → Prop) (M : Nat) (K : Act → World → Prop) (a0 : Act) : List (Option Tmp × SpecP) → List (Oper × List Nat × Bool) → Prop
  | env, [] => ∀ w, S M w → allP w (fun a => K a w) env a0
  | env, (o, deps, b) :: r => ∃ s : SpecP, MonoQ G s ∧ (∀ m w, m < M → S m w → allP w (obR P ops Q G (S (m + 1)) b o s w) (lookP env deps) a0) ∧ chainR P ops Q G S M K a0 ((o.dst, s) :: env) r
section
variable {P : Program} {ops : Array Oper} {Q : Exit → Act → World → Prop} {G : World → World → Prop} {S : Nat → World → Prop} {M : Nat} {K : Act → World → Prop} {a0 : Act}
end
/-! ### worlds that only grow -/
section
variable {P : Program} {ops : Array Oper} {Q : Exit → Act → World → Prop} {W : World} {C : World → Prop} {M : Nat} {K : Act → World → Prop} {a0 : Act}
end
attribute [irreducible] chainR
end Go.Proofs.Ytegomgnlhcbmfaa
