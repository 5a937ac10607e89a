/- Walks: sealed ballots as records. -/
import Derived.Test.YtbcaknmpbkapnaaSea1
import Derived.Test.YtbcaknmpbkapnaaFr
import Derived.Test.YtbcaknmpbkapnaaKSealed
import Derived.Test.YtbcaknmpbkapnaaBm
namespace Go.Proofs.Ytbcaknmpbkapnaa
open Go.RowKit
set_option linter.unusedSimpArgs false
set_option linter.unusedVariables false

def seaParts (d : SealedD) : List (List Int) := [d.voter] :: cipL d.ciphers :: (d.proofs ++ [d.sum]).map epL
def voterB (n : Int) : Bool := decide (0 ≤ n ∧ n ≤ 999999)
def seaB (d : SealedD) : Bool := voterB d.voter && recB (joinL (seaParts d))
def seaR (d : SealedD) : List Int := if seaB d = true then joinL (seaParts d) else []
/-- the lists of the first k proofs -/
def seaTo (v : Int) (cs : List CipherD) (ps : List ProofD) (k : Nat) : List (List Int) := [v] :: cipL cs :: (ps.take k).map epL
theorem seaTo_succ {v : Int} {cs : List CipherD} {ps : List ProofD} {k : Nat} (h : k < ps.length) : seaTo v cs ps (k + 1) = seaTo v cs ps k ++ [epL ps[k]] := by
  unfold seaTo
  rw [List.take_succ_eq_append_getElem h, List.map_append]; simp
theorem seaTo_length {v : Int} {cs : List CipherD} {ps : List ProofD} {k : Nat} (h : k ≤ ps.length) : (seaTo v cs ps k).length = 2 + k := by
  unfold seaTo; simp; omega
theorem seaTo_all (d : SealedD) : seaTo d.voter d.ciphers (d.proofs ++ [d.sum]) (d.proofs ++ [d.sum]).length = seaParts d := by unfold seaTo seaParts; rw [List.take_of_length_le (Nat.le_refl _)]
theorem le_sum_mem {x : Nat} : ∀ {l : List Nat}, x ∈ l → x ≤ l.sum := by
  intro l
  induction l with
  | nil => intro h; cases h
  | cons y l ih =>
    intro h
    rw [List.sum_cons]
    rcases List.mem_cons.1 h with rfl | h
    · omega
    · have := ih h; omega
theorem recB_parts {ls : List (List Int)} (h : recB (joinL ls) = true) : ls.length ≤ 399 ∧ ∀ l ∈ ls, recB l = true := by
  unfold recB at h
  rw [Bool.and_eq_true, decide_eq_true_iff] at h
  obtain ⟨h1, h2⟩ := h
  have hl : (joinL ls).length = 1 + total ls + ls.length := by
    rw [← joinTo_all, joinTo_length (Nat.le_refl _), List.take_of_length_le (Nat.le_refl _)]
  refine ⟨by omega, fun l hm => ?_⟩
  have hmem : ∀ x ∈ l, x ∈ joinL ls := fun x hx => by
    unfold joinL
    refine List.mem_cons_of_mem _ (List.mem_flatten.2 ⟨cnt l, List.mem_map.2 ⟨l, hm, rfl⟩, ?_⟩)
    unfold cnt; exact List.mem_cons_of_mem _ hx
  have hle : l.length ≤ total ls := by
    unfold total
    exact le_sum_mem (List.mem_map.2 ⟨l, hm, rfl⟩)
  unfold recB
  rw [Bool.and_eq_true, decide_eq_true_iff]
  exact ⟨by omega, List.all_eq_true.2 fun x hx => List.all_eq_true.1 h2 x (hmem x hx)⟩
theorem seaB_no {d : SealedD} {l : List Int} (hm : l ∈ seaParts d) (h : recB l = false) : seaB d = false := by
  unfold seaB
  cases hj : recB (joinL (seaParts d)) with
  | false => simp
  | true => rw [(recB_parts hj).2 l hm] at h; cases h
theorem seaB_many {d : SealedD} (h : 400 < d.proofs.length) : seaB d = false := by
  unfold seaB
  cases hj : recB (joinL (seaParts d)) with
  | false => simp
  | true =>
    have := (recB_parts hj).1
    simp [seaParts] at this; omega
theorem epL_length (d : ProofD) : (epL d).length = szProof d + 3 := by
  unfold epL szProof; simp [cnt]; omega
theorem sz_mem {ds : List ProofD} {d : ProofD} (h : d ∈ ds) : szProof d ≤ (ds.map szProof).sum := le_sum_mem (List.mem_map.2 ⟨d, h, rfl⟩)
theorem sum_epL (ds : List ProofD) : ((ds.map epL).map List.length).sum = (ds.map szProof).sum + 3 * ds.length := by
  induction ds with
  | nil => rfl
  | cons x ds ih => simp only [List.map_cons, List.sum_cons, List.length_cons, ih, epL_length]; omega
theorem seaTo_total {v : Int} {cs : List CipherD} {ps : List ProofD} {k : Nat} (h : k ≤ ps.length) : total (seaTo v cs ps k) ≤ 2 + 2 * cs.length + (ps.map szProof).sum + 3 * k := by
  unfold seaTo total
  simp only [List.map_cons, List.sum_cons, List.length_cons, List.length_nil, cipL_length, sum_epL, List.length_take]
  have : ((ps.take k).map szProof).sum ≤ (ps.map szProof).sum := by
    conv => rhs; rw [← List.take_append_drop k ps]
    rw [List.map_append, List.sum_append]; omega
  have h2 : min k ps.length = k := by omega
  rw [h2]; omega
theorem OwnL.two {w : World} {a1 b1 a2 b2 lo : Nat} {v1 v2 : Value} {d1 d2 : List Int} (h1 : kInts.own w a1 b1 v1 d1) (h2 : kInts.own w a2 b2 v2 d2) (hd : b1 ≤ a2 ∨ b2 ≤ a1) (q1 : lo ≤ a1) (q2 : lo ≤ a2) (r1 : b1 ≤ w.heap.size) (r2 : b2 ≤ w.heap.size) (hlo : lo ≤ w.heap.size) :
    OwnL 22 kInts (w.alloc (.cells #[v1, v2] 22)) lo (w.alloc (.cells #[v1, v2] 22)).heap.size (.slice (some ⟨w.heap.size, 0, none⟩) 2 2) [d1, d2] := by
  have hO := World.ownsRow_lit (e := 22) (size := 1) w #[v1, v2] 2 hlo (by unfold maxLen; omega) (by simp)
  have hb : Below w.heap.size w (w.alloc (.cells #[v1, v2] 22)) := (Below.refl _ _).alloc (Nat.le_refl _) _
  have hs : (w.alloc (.cells #[v1, v2] 22)).heap.size = w.heap.size + 1 := by simp
  refine ⟨[v1, v2], fun i => if i = 0 then a1 else a2, fun i => if i = 0 then b1 else b2, rfl, by simpa using hO, fun g hg => ?_, fun i k1 k2 => ?_, fun i j hi hj hij => ?_⟩
  · cases hg
    refine ⟨by simp, fun i hi => .inr ?_⟩
    by_cases h0 : i = 0
    · simpa [h0] using r1
    · simpa [h0] using r2
  · have hi : i = 0 ∨ i = 1 := by simp at k1; omega
    rcases hi with rfl | rfl
    · exact ⟨Kind.next (K := kInts) h1 hb, q1, by simp; omega⟩
    · exact ⟨Kind.next (K := kInts) h2 hb, q2, by simp; omega⟩
  · simp only [List.length_cons, List.length_nil] at hi hj
    have h' : (i = 0 ∧ j = 1) ∨ (i = 1 ∧ j = 0) := by omega
    rcases h' with ⟨rfl, rfl⟩ | ⟨rfl, rfl⟩
    · simpa using hd
    · simpa using hd.symm
set_option maxRecDepth 100000 in
set_option maxHeartbeats 4000000 in
theorem slices_CloneP (wB : World) (v : Value) (ds : List ProofD) (w : World) (hbB : Below wB.heap.size wB w) (h : RdR rProof wB v ds) (hl : ds.length ≤ 1000000) :
    Calls Try.prog 51 #[v] w fun e w' => ∃ v', e = .returned v' ∧ FrR 26 rProof wB w' w.heap.size v' ds ∧ Below w.heap.size w w' := by
  have qT : ∀ (w : World) (a : Option Addr) (n c n' c' : Nat), (binOp .eql 24 (.slice a n c) (.slice none n' c')).run Try.prog w = .ok (.bool a.isNone) w := fun w a n c n' c' => Lib.run_eql_slice_nil w _ _ a n c n' c' Try.underlying24
  obtain ⟨a, n, c, rfl⟩ := h.shape
  have e := h.len
  obtain ⟨ti, hti, htz, hts, htb⟩ := info_Proof
  cases a with
  | none =>
    obtain rfl : n = 0 := by
      by_cases hn : n = 0
      · exact hn
      · obtain ⟨b, o, hc, _⟩ := h.at_ (by omega)
        cases hc
    have : ds = [] := List.eq_nil_of_length_eq_zero e
    subst this
    clear e h
    go_enter Try.func51, Try.ntmps51
    go_wp2_with fail
    go_ret
    exact ⟨_, rfl, FrR.nil _ _ _ _ _, Below.refl _ _⟩
  | some ad =>
    obtain ⟨css, hcl, hcell, hrd⟩ := rows_of_RdR h
    have hba : Below w.heap.size w (w.alloc (.cells #[] 26)) := (Below.refl _ _).alloc (Nat.le_refl _) _
    have HC : Hid (∀ j u, css.flatten[j]? = some u → (w.alloc (.cells #[] 26)).cell? (ad.add j) = some u) := fun j u hu => by
      have h1 := (hbB.cell (World.block_lt_of_cell? wB _ (hcell j u hu))).trans (hcell j u hu)
      exact (hba.cell (World.block_lt_of_cell? w _ h1)).trans h1
    have HR := Lib.hid hrd
    have HI := Lib.hid (show _ ∧ _ ∧ _ ∧ _ from ⟨hti, htz, hts, htb⟩)
    have HE := Lib.hid e
    clear hcell hrd hti htz hts htb e h
    go_enter Try.func51, Try.ntmps51
    go_wp2_with (at_builtin; refine wpList_append_Fr (e := 26) (R := rProof) (w0 := wB) (B := w.heap.size) (ds := []) (es := ds) 24 ti (.agg #[.slice none 0 0, .slice none 0 0, .slice none 0 0]) Try.underlying24 HI.out.1 HI.out.2.1 HI.out.2.2.1 HI.out.2.2.2 rfl (by decide) rfl _ _ rfl (FrR.lit0 _ _ _ _ _ (Nat.le_refl _)) ad n c css rfl rfl hcl HE.out HC.out HR.out (by simp) (by simp; omega) ?_; intro v' w1 ho1 hb1)
    go_ret
    exact ⟨_, rfl, ho1, hba.trans hb1⟩
end Go.Proofs.Ytbcaknmpbkapnaa
