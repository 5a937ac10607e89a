/- Walks: groups: validity, elements, exponents. -/
import Derived.Test.YtapfceghgkmgoaaGrp1
import Derived.Test.YtapfceghgkmgoaaRows1
namespace Go.Proofs.Ytapfceghgkmgoaa
open Go.RowKit
set_option linter.unusedSimpArgs false
set_option linter.unusedVariables false

structure GroupD where
  p : Int
  q : Int
  g : Int
/-- a valid group -/
noncomputable def goodG (gr : GroupD) : Bool := decide (3 ≤ gr.p ∧ gr.p ≤ 2000000000) && (decide (2 ≤ gr.q ∧ gr.q ≤ gr.p - 1) && (((gr.p - 1) % gr.q == 0) && (decide (2 ≤ gr.g ∧ gr.g ≤ gr.p - 1) && (primeB gr.p && (primeB gr.q && (powM gr.g gr.q gr.p == 1))))))
/-- what the walks want of a group -/
structure OkG (gr : GroupD) : Prop where
  p1 : 3 ≤ gr.p
  p2 : gr.p ≤ 2000000000
  q1 : 2 ≤ gr.q
  q2 : gr.q ≤ gr.p - 1
  g1 : 2 ≤ gr.g
  g2 : gr.g ≤ gr.p - 1
  div : (gr.p - 1) % gr.q = 0
  pp : Prm gr.p
  qp : Prm gr.q
  one : powM gr.g gr.q gr.p = 1
theorem goodG_ok {gr : GroupD} (h : goodG gr = true) : OkG gr := by
  unfold goodG at h
  simp only [Bool.and_eq_true, decide_eq_true_iff, beq_iff_eq] at h
  obtain ⟨⟨h1, h2⟩, ⟨h3, h4⟩, h5, ⟨h6, h7⟩, h8, h9, h10⟩ := h
  exact ⟨h1, h2, h3, h4, h6, h7, h5, primeB_iff.1 h8, primeB_iff.1 h9, h10⟩
/-- an element -/
def elB (gr : GroupD) (x : Int) : Bool := decide (1 ≤ x ∧ x ≤ gr.p - 1) && (powM x gr.q gr.p == 1)
/-- an exponent -/
def expB (gr : GroupD) (e : Int) : Bool := decide (0 ≤ e ∧ e ≤ gr.q - 1)
theorem elB_bd {gr : GroupD} {x : Int} (h : elB gr x = true) : 1 ≤ x ∧ x ≤ gr.p - 1 := by
  unfold elB at h; simp only [Bool.and_eq_true, decide_eq_true_iff] at h; exact h.1
theorem expB_bd {gr : GroupD} {x : Int} (h : expB gr x = true) : 0 ≤ x ∧ x ≤ gr.q - 1 := by
  unfold expB at h; simpa using h
set_option maxRecDepth 100000 in
set_option maxHeartbeats 1000000 in
theorem impl_IsValidGroup (gr : GroupD) (w : World) :
    Calls Try.prog 155 #[.agg #[.int .i64 gr.p, .int .i64 gr.q, .int .i64 gr.g]] w fun e w' => e = .returned (.bool (goodG gr)) ∧ Below w.heap.size w w' := by
  obtain ⟨p, q, g⟩ := gr
  by_cases hp : 3 ≤ p ∧ p ≤ 2000000000
  · obtain ⟨hp1, hp2⟩ := hp
    have H1 : Hid (decide (3 ≤ p ∧ p ≤ 2000000000) = true) := decide_eq_true ⟨hp1, hp2⟩
    by_cases hq : 2 ≤ q ∧ q ≤ p - 1
    · obtain ⟨hq1, hq2⟩ := hq
      have H2 : Hid (decide (2 ≤ q ∧ q ≤ p - 1) = true) := decide_eq_true ⟨hq1, hq2⟩
      obtain ⟨q3, h3⟩ : ∃ b, ((p - 1) % q == 0) = b := ⟨_, rfl⟩
      (obtain ⟨q4, h_q⟩ : ∃ b_q, decide (2 ≤ g ∧ g ≤ p - 1) = b_q := ⟨_, rfl⟩); have H4 := Lib.hid h_q; clear h_q
      (obtain ⟨q5, h_q⟩ : ∃ b_q, primeB p = b_q := ⟨_, rfl⟩); have H5 := Lib.hid h_q; clear h_q
      (obtain ⟨q6, h_q⟩ : ∃ b_q, primeB q = b_q := ⟨_, rfl⟩); have H6 := Lib.hid h_q; clear h_q
      (obtain ⟨q7, h_q⟩ : ∃ b_q, (powM g q p == 1) = b_q := ⟨_, rfl⟩); have H7 := Lib.hid h_q; clear h_q
      have HB : Hid (goodG ⟨p, q, g⟩ = (q3 && (q4 && (q5 && (q6 && q7))))) := by
        unfold Hid goodG
        simp only []
        rw [decide_eq_true ⟨hp1, hp2⟩, decide_eq_true ⟨hq1, hq2⟩, h3, H4.out, H5.out, H6.out, H7.out]; rfl
      have HG : Hid (q4 = true → 2 ≤ g ∧ g ≤ p - 1) := fun e => of_decide_eq_true (H4.out.trans e)
      have H8 : Hid (decide (p ≤ 2000000000) = true) := decide_eq_true hp2
      have H9 : Hid (decide (q ≤ 2000000000) = true) := decide_eq_true (by omega)
      rw [HB.out]
      go_enter Try.func155, Try.ntmps155
      go_wp2_with (first
        | (go_at_call 196; refine (impl_within _ _ _ _).mono ?_; rintro e w1 ⟨rfl, rfl⟩; first | rw [H1.out] | rw [H2.out] | (rw [H4.out]; cases q4))
        | (go_at_call_of 225 (Value.int .i64 p); refine (impl_isPrime _ _).mono ?_; rintro e w1 ⟨rfl, rfl⟩; rw [H8.out, H5.out, Bool.true_and]; cases q5)
        | (go_at_call_of 225 (Value.int .i64 q); refine (impl_isPrime _ _).mono ?_; rintro e w1 ⟨rfl, rfl⟩; rw [H9.out, H6.out, Bool.true_and]; cases q6)
        | (go_at_call 226; refine (impl_power g q p _ (by first | omega | (have := HG.out trivial; omega) | (have := HG.out rfl; omega)) (by omega) (by omega)).mono ?_; rintro e w1 ⟨rfl, rfl⟩; obtain ⟨x7, hx7⟩ : ∃ x, powM g q p = x := ⟨_, rfl⟩; rw [hx7] at H7 ⊢; (obtain h7 := H7.out); clear hx7)
        | fail)
      all_goals go_ret
      all_goals exact ⟨ret_bool (by simp [*]), by (repeat (first | exact Below.refl _ _ | assumption | refine Below.drew ?_ | refine Below.alloc ?_ (by first | (simp; done) | (simp; omega)) _ | refine Below.setCell ?_ (by first | (simp; done) | (simp; omega)) _))⟩
    · have H2 : Hid (decide (2 ≤ q ∧ q ≤ p - 1) = false) := decide_eq_false hq
      have HB : Hid (goodG ⟨p, q, g⟩ = false) := by
        unfold Hid goodG; simp only []; rw [decide_eq_false hq]; simp
      rw [HB.out]
      clear hq
      go_enter Try.func155, Try.ntmps155
      go_wp2_with (first
        | (go_at_call 196; refine (impl_within _ _ _ _).mono ?_; rintro e w1 ⟨rfl, rfl⟩; first | rw [H1.out] | rw [H2.out])
        | fail)
      all_goals go_ret
      all_goals exact ⟨rfl, by (repeat (first | exact Below.refl _ _ | assumption | refine Below.drew ?_ | refine Below.alloc ?_ (by first | (simp; done) | (simp; omega)) _ | refine Below.setCell ?_ (by first | (simp; done) | (simp; omega)) _))⟩
  · have H1 : Hid (decide (3 ≤ p ∧ p ≤ 2000000000) = false) := decide_eq_false hp
    have HB : Hid (goodG ⟨p, q, g⟩ = false) := by
      unfold Hid goodG; simp only []; rw [decide_eq_false hp]; rfl
    rw [HB.out]
    clear hp
    go_enter Try.func155, Try.ntmps155
    go_wp2_with (first
      | (go_at_call 196; refine (impl_within _ _ _ _).mono ?_; rintro e w1 ⟨rfl, rfl⟩; rw [H1.out])
      | fail)
    all_goals go_ret
    all_goals exact ⟨rfl, by (repeat (first | exact Below.refl _ _ | assumption | refine Below.drew ?_ | refine Below.alloc ?_ (by first | (simp; done) | (simp; omega)) _ | refine Below.setCell ?_ (by first | (simp; done) | (simp; omega)) _))⟩
set_option maxRecDepth 100000 in
set_option maxHeartbeats 1000000 in
theorem spec_l2Good (gr : GroupD) (w : World) :
    Calls Try.prog 138 #[.agg #[.int .i64 gr.p, .int .i64 gr.q, .int .i64 gr.g]] w fun e w' => e = .returned (.bool (goodG gr)) ∧ Below w.heap.size w w' := by
  obtain ⟨p, q, g⟩ := gr
  by_cases hp : 3 ≤ p ∧ p ≤ 2000000000
  · obtain ⟨hp1, hp2⟩ := hp
    have H1 : Hid (decide (3 ≤ p ∧ p ≤ 2000000000) = true) := decide_eq_true ⟨hp1, hp2⟩
    by_cases hq : 2 ≤ q ∧ q ≤ p - 1
    · obtain ⟨hq1, hq2⟩ := hq
      have H2 : Hid (decide (2 ≤ q ∧ q ≤ p - 1) = true) := decide_eq_true ⟨hq1, hq2⟩
      obtain ⟨q3, h3⟩ : ∃ b, ((p - 1) % q == 0) = b := ⟨_, rfl⟩
      (obtain ⟨q4, h_q⟩ : ∃ b_q, decide (2 ≤ g ∧ g ≤ p - 1) = b_q := ⟨_, rfl⟩); have H4 := Lib.hid h_q; clear h_q
      (obtain ⟨q5, h_q⟩ : ∃ b_q, primeB p = b_q := ⟨_, rfl⟩); have H5 := Lib.hid h_q; clear h_q
      (obtain ⟨q6, h_q⟩ : ∃ b_q, primeB q = b_q := ⟨_, rfl⟩); have H6 := Lib.hid h_q; clear h_q
      (obtain ⟨q7, h_q⟩ : ∃ b_q, (powM g q p == 1) = b_q := ⟨_, rfl⟩); have H7 := Lib.hid h_q; clear h_q
      have HB : Hid (goodG ⟨p, q, g⟩ = (q3 && (q4 && (q5 && (q6 && q7))))) := by
        unfold Hid goodG
        simp only []
        rw [decide_eq_true ⟨hp1, hp2⟩, decide_eq_true ⟨hq1, hq2⟩, h3, H4.out, H5.out, H6.out, H7.out]; rfl
      have HG : Hid (q4 = true → 2 ≤ g ∧ g ≤ p - 1) := fun e => of_decide_eq_true (H4.out.trans e)
      have H8 : Hid (decide (p ≤ 2000000000) = true) := decide_eq_true hp2
      have H9 : Hid (decide (q ≤ 2000000000) = true) := decide_eq_true (by omega)
      rw [HB.out]
      go_enter Try.func138, Try.ntmps138
      go_wp2_with (first
        | (go_at_call 101; refine (spec_l1In _ _ _ _).mono ?_; rintro e w1 ⟨rfl, rfl⟩; first | rw [H1.out] | rw [H2.out] | (rw [H4.out]; cases q4))
        | (go_at_call_of 210 (Value.int .i64 p); refine (spec_nPrime _ _ (by omega)).mono ?_; rintro e w1 ⟨rfl, rfl⟩; rw [H5.out]; cases q5)
        | (go_at_call_of 210 (Value.int .i64 q); refine (spec_nPrime _ _ (by omega)).mono ?_; rintro e w1 ⟨rfl, rfl⟩; rw [H6.out]; cases q6)
        | (go_at_call 209; refine (spec_nPower g q p _ (by first | omega | (have := HG.out trivial; omega) | (have := HG.out rfl; omega)) (by omega) (by omega)).mono ?_; rintro e w1 ⟨rfl, rfl⟩; obtain ⟨x7, hx7⟩ : ∃ x, powM g q p = x := ⟨_, rfl⟩; rw [hx7] at H7 ⊢; (obtain h7 := H7.out); clear hx7)
        | fail)
      all_goals go_ret
      all_goals exact ⟨ret_bool (by simp [*]), by (repeat (first | exact Below.refl _ _ | assumption | refine Below.drew ?_ | refine Below.alloc ?_ (by first | (simp; done) | (simp; omega)) _ | refine Below.setCell ?_ (by first | (simp; done) | (simp; omega)) _))⟩
    · have H2 : Hid (decide (2 ≤ q ∧ q ≤ p - 1) = false) := decide_eq_false hq
      have HB : Hid (goodG ⟨p, q, g⟩ = false) := by
        unfold Hid goodG; simp only []; rw [decide_eq_false hq]; simp
      rw [HB.out]
      clear hq
      go_enter Try.func138, Try.ntmps138
      go_wp2_with (first
        | (go_at_call 101; refine (spec_l1In _ _ _ _).mono ?_; rintro e w1 ⟨rfl, rfl⟩; first | rw [H1.out] | rw [H2.out])
        | fail)
      all_goals go_ret
      all_goals exact ⟨rfl, by (repeat (first | exact Below.refl _ _ | assumption | refine Below.drew ?_ | refine Below.alloc ?_ (by first | (simp; done) | (simp; omega)) _ | refine Below.setCell ?_ (by first | (simp; done) | (simp; omega)) _))⟩
  · have H1 : Hid (decide (3 ≤ p ∧ p ≤ 2000000000) = false) := decide_eq_false hp
    have HB : Hid (goodG ⟨p, q, g⟩ = false) := by
      unfold Hid goodG; simp only []; rw [decide_eq_false hp]; rfl
    rw [HB.out]
    clear hp
    go_enter Try.func138, Try.ntmps138
    go_wp2_with (first
      | (go_at_call 101; refine (spec_l1In _ _ _ _).mono ?_; rintro e w1 ⟨rfl, rfl⟩; rw [H1.out])
      | fail)
    all_goals go_ret
    all_goals exact ⟨rfl, by (repeat (first | exact Below.refl _ _ | assumption | refine Below.drew ?_ | refine Below.alloc ?_ (by first | (simp; done) | (simp; omega)) _ | refine Below.setCell ?_ (by first | (simp; done) | (simp; omega)) _))⟩
set_option maxHeartbeats 1000000 in
theorem impl_has (gr : GroupD) (x : Int) (w : World) (hg : OkG gr) :
    Calls Try.prog 264 #[.agg #[.int .i64 gr.p, .int .i64 gr.q, .int .i64 gr.g], .int .i64 x] w fun e w' => e = .returned (.bool (elB gr x)) ∧ Below w.heap.size w w' := by
  obtain ⟨hp1, hp2, hq1, hq2, _, _, _, _, _, _⟩ := hg
  obtain ⟨p, q, g⟩ := gr
  simp only [] at hp1 hp2 hq1 hq2
  by_cases hx : 1 ≤ x ∧ x ≤ p - 1
  · have H1 : Hid (decide (1 ≤ x ∧ x ≤ p - 1) = true) := decide_eq_true hx
    have HB : Hid (elB ⟨p, q, g⟩ x = (powM x q p == 1)) := by unfold Hid elB; simp only []; rw [H1.out]; rfl
    obtain ⟨hx1, hx2⟩ := hx
    rw [HB.out]
    go_enter Try.func264, Try.ntmps264
    go_wp2_with (first
      | (go_at_call 196; refine (impl_within _ _ _ _).mono ?_; rintro e w1 ⟨rfl, rfl⟩; rw [H1.out])
      | (go_at_call 226; refine (impl_power _ _ _ _ (by omega) (by omega) (by omega)).mono ?_; rintro e w1 ⟨rfl, rfl⟩)
      | fail)
    go_ret
    exact ⟨rfl, by (repeat (first | exact Below.refl _ _ | assumption | refine Below.drew ?_ | refine Below.alloc ?_ (by first | (simp; done) | (simp; omega)) _ | refine Below.setCell ?_ (by first | (simp; done) | (simp; omega)) _))⟩
  · have H1 : Hid (decide (1 ≤ x ∧ x ≤ p - 1) = false) := decide_eq_false hx
    have HB : Hid (elB ⟨p, q, g⟩ x = false) := by unfold Hid elB; simp only []; rw [H1.out]; rfl
    rw [HB.out]
    clear hx
    go_enter Try.func264, Try.ntmps264
    go_wp2_with (first
      | (go_at_call 196; refine (impl_within _ _ _ _).mono ?_; rintro e w1 ⟨rfl, rfl⟩; rw [H1.out])
      | fail)
    go_ret
    exact ⟨rfl, by (repeat (first | exact Below.refl _ _ | assumption | refine Below.drew ?_ | refine Below.alloc ?_ (by first | (simp; done) | (simp; omega)) _ | refine Below.setCell ?_ (by first | (simp; done) | (simp; omega)) _))⟩
theorem impl_isExp (gr : GroupD) (x : Int) (w : World) (hg : OkG gr) :
    Calls Try.prog 273 #[.agg #[.int .i64 gr.p, .int .i64 gr.q, .int .i64 gr.g], .int .i64 x] w fun e w' => e = .returned (.bool (expB gr x)) ∧ Below w.heap.size w w' := by
  obtain ⟨hp1, hp2, hq1, hq2, _, _, _, _, _, _⟩ := hg
  obtain ⟨p, q, g⟩ := gr
  simp only [] at hp1 hp2 hq1 hq2
  (obtain ⟨b, h_q⟩ : ∃ b_q, expB ⟨p, q, g⟩ x = b_q := ⟨_, rfl⟩); have HQ := Lib.hid h_q; clear h_q
  have HR : Hid (decide (0 ≤ x ∧ x ≤ q - 1) = b) := HQ.out
  rw [HQ.out]
  go_enter Try.func273, Try.ntmps273
  go_wp2_with (first
    | (go_at_call 196; refine (impl_within _ _ _ _).mono ?_; rintro e w1 ⟨rfl, rfl⟩; rw [HR.out])
    | fail)
  go_ret
  exact ⟨rfl, by (repeat (first | exact Below.refl _ _ | assumption | refine Below.drew ?_ | refine Below.alloc ?_ (by first | (simp; done) | (simp; omega)) _ | refine Below.setCell ?_ (by first | (simp; done) | (simp; omega)) _))⟩
/-- a method value (bound to the receiver r) that decides p on integers -/
structure DecidesM (w : World) (g : FuncId) (r : Value) (p : Int → Bool) : Prop where
  enters : ∀ args wr, (callFunc g args).run Try.prog wr = .ok (.enter g args) wr
  runs : ∀ x wr, I64 x → Below w.heap.size w wr → Calls Try.prog g #[r, .int .i64 x] wr fun e w' => e = .returned (.bool (p x)) ∧ Below wr.heap.size wr w'
theorem DecidesM.below {w w' : World} {g : FuncId} {r : Value} {p : Int → Bool} (h : DecidesM w g r p) (hb : Below w.heap.size w w') : DecidesM w' g r p :=
  ⟨h.enters, fun x wr hx hr => h.runs x wr hx (hb.trans (hr.mono hb.size))⟩
set_option maxHeartbeats 400000 in
theorem impl_areAllM1 (x : Int) (a : Addr) (g : FuncId) (r : Value) (p : Int → Bool) (w : World) (hx : I64 x) (hc : w.cell? a = some (.func (.func g) #[r] #[])) (hp : DecidesM w g r p) :
    Calls Try.prog 269 #[.int .i64 x, .pointer (some a)] w fun e w' => e = .returned (.bool (!p x)) ∧ Below w.heap.size w w' := by
  have hent := hp.enters
  have HP := Lib.hid hp; clear hp
  go_enter Try.func269, Try.ntmps269
  go_wp2_with fail
  refine (HP.out.runs _ _ hx (Below.refl _ _)).mono ?_
  rintro e w1 ⟨rfl, hb1⟩
  go_wp2_with fail
  go_ret
  exact ⟨rfl, hb1⟩
set_option maxHeartbeats 400000 in
theorem impl_areAllM (v : Value) (l : List Int) (g : FuncId) (r : Value) (p : Int → Bool) (w : World) (h : Ints w v l) (hp : DecidesM w g r p) :
    Calls Try.prog 242 #[v, .func (.func g) #[r] #[]] w fun e w' => e = .returned (.bool (l.all p)) ∧ Below w.heap.size w w' := by
  have HP := Lib.hid hp; clear hp
  have H := Lib.hid h; clear h
  have HD : Hid (Decides (w.alloc (.cells #[.func (.func g) #[r] #[]] 161)) 269 #[.pointer (some ⟨w.heap.size, 0, none⟩)] (fun x => !p x)) := by
    refine ⟨Try.call269, fun x wr hx hb => ?_⟩
    refine impl_areAllM1 x ⟨w.heap.size, 0, none⟩ g r p wr hx ?_ (HP.out.below (((Below.refl _ _).alloc (Nat.le_refl _) _).trans (hb.mono (by simp))))
    rw [hb.cell (p := ⟨w.heap.size, 0, none⟩) (by simp)]
    simp [go_sem]
  have HE : Hid ((!l.any fun x => !p x) = l.all p) := by
    unfold Hid; rw [List.all_eq_not_any_not]
  go_enter Try.func242, Try.ntmps242
  go_wp2_with fail
  refine (slices_ContainsFunc v l 269 _ (fun x => !p x) _ (H.out.alloc _) HD.out).mono ?_
  rintro e w1 ⟨rfl, hb⟩
  go_wp2_with fail
  go_ret
  exact ⟨ret_bool (by first | (rw [HE.out]; done) | (rw [HE.out]; rfl) | exact HE.out.symm), (by (repeat (first | exact Below.refl _ _ | assumption | refine Below.drew ?_ | refine Below.alloc ?_ (by first | (simp; done) | (simp; omega)) _ | refine Below.setCell ?_ (by first | (simp; done) | (simp; omega)) _)) : Below w.heap.size w (w.alloc _)).trans (hb.mono (by simp))⟩
theorem impl_hasAll (gr : GroupD) (v : Value) (l : List Int) (w : World) (hg : OkG gr) (h : Ints w v l) :
    Calls Try.prog 227 #[.agg #[.int .i64 gr.p, .int .i64 gr.q, .int .i64 gr.g], v] w fun e w' => e = .returned (.bool (l.all (elB gr))) ∧ Below w.heap.size w w' := by
  have HG := Lib.hid hg; clear hg
  have H := Lib.hid h; clear h
  have HD : Hid (DecidesM (w.alloc (.cells #[.int .i64 gr.p, .int .i64 gr.q, .int .i64 gr.g] 88)) 264 (.agg #[.int .i64 gr.p, .int .i64 gr.q, .int .i64 gr.g]) (elB gr)) := ⟨Try.call264, fun x wr hx hb => impl_has gr x wr HG.out⟩
  go_enter Try.func227, Try.ntmps227
  go_wp2_with fail
  refine (impl_areAllM v l _ _ _ _ (H.out.alloc _) HD.out).mono ?_
  rintro e w1 ⟨rfl, hb⟩
  go_wp2_with fail
  go_ret
  exact ⟨rfl, (by (repeat (first | exact Below.refl _ _ | assumption | refine Below.drew ?_ | refine Below.alloc ?_ (by first | (simp; done) | (simp; omega)) _ | refine Below.setCell ?_ (by first | (simp; done) | (simp; omega)) _)) : Below w.heap.size w (w.alloc _)).trans (hb.mono (by simp))⟩
theorem impl_areExps (gr : GroupD) (v : Value) (l : List Int) (w : World) (hg : OkG gr) (h : Ints w v l) :
    Calls Try.prog 260 #[.agg #[.int .i64 gr.p, .int .i64 gr.q, .int .i64 gr.g], v] w fun e w' => e = .returned (.bool (l.all (expB gr))) ∧ Below w.heap.size w w' := by
  have HG := Lib.hid hg; clear hg
  have H := Lib.hid h; clear h
  have HD : Hid (DecidesM (w.alloc (.cells #[.int .i64 gr.p, .int .i64 gr.q, .int .i64 gr.g] 88)) 273 (.agg #[.int .i64 gr.p, .int .i64 gr.q, .int .i64 gr.g]) (expB gr)) := ⟨Try.call273, fun x wr hx hb => impl_isExp gr x wr HG.out⟩
  go_enter Try.func260, Try.ntmps260
  go_wp2_with fail
  refine (impl_areAllM v l _ _ _ _ (H.out.alloc _) HD.out).mono ?_
  rintro e w1 ⟨rfl, hb⟩
  go_wp2_with fail
  go_ret
  exact ⟨rfl, (by (repeat (first | exact Below.refl _ _ | assumption | refine Below.drew ?_ | refine Below.alloc ?_ (by first | (simp; done) | (simp; omega)) _ | refine Below.setCell ?_ (by first | (simp; done) | (simp; omega)) _)) : Below w.heap.size w (w.alloc _)).trans (hb.mono (by simp))⟩
theorem spec_gExps (gr : GroupD) (v : Value) (l : List Int) (w : World) (hg : OkG gr) (h : Ints w v l) :
    Calls Try.prog 139 #[.agg #[.int .i64 gr.p, .int .i64 gr.q, .int .i64 gr.g], v] w fun e w' => e = .returned (.bool (l.all (expB gr))) ∧ Below w.heap.size w w' := by
  obtain ⟨hp1, hp2, hq1, hq2, _, _, _, _, _, _⟩ := hg
  obtain ⟨p, q, g⟩ := gr
  simp only [] at hp1 hp2 hq1 hq2
  have H := Lib.hid h; clear h
  have HR : Hid ((l.all fun x => decide (0 ≤ x ∧ x ≤ q - 1)) = l.all (expB ⟨p, q, g⟩)) := rfl
  go_enter Try.func139, Try.ntmps139
  go_wp2_with (first
    | (go_at_call 211; refine (spec_l1All _ l _ _ _ (H.out.alloc _)).mono ?_; rintro e w1 ⟨rfl, rfl⟩; rw [HR.out])
    | fail)
  go_ret
  exact ⟨rfl, by (repeat (first | exact Below.refl _ _ | assumption | refine Below.drew ?_ | refine Below.alloc ?_ (by first | (simp; done) | (simp; omega)) _ | refine Below.setCell ?_ (by first | (simp; done) | (simp; omega)) _))⟩
set_option maxHeartbeats 1000000 in
theorem spec_gIs (gr : GroupD) (v : Value) (l : List Int) (w : World) (hg : OkG gr) (h : Ints w v l) :
    Calls Try.prog 223 #[.agg #[.int .i64 gr.p, .int .i64 gr.q, .int .i64 gr.g], v] w fun e w' => e = .returned (.bool (l.all (elB gr))) ∧ Below w.heap.size w w' := by
  obtain ⟨hp1, hp2, hq1, hq2, _, _, _, _, _, _⟩ := hg
  obtain ⟨p, q, g⟩ := gr
  simp only [] at hp1 hp2 hq1 hq2
  obtain ⟨a, n, c, rfl⟩ := h.shape
  have e := h.len
  obtain ⟨k1, k2⟩ := h.capMax
  unfold maxLen at k2
  have HE := Lib.hid e; clear e
  have H := Lib.hid h; clear h
  go_enter Try.func223, Try.ntmps223
  go_wp2
  obtain ⟨W, hW⟩ : ∃ W, W = w.alloc (.cells #[.int .i64 p, .int .i64 q, .int .i64 g] 88) := ⟨_, rfl⟩
  rw [← hW]
  have hb : Below w.heap.size w W := by rw [hW]; exact (Below.refl _ _).alloc (Nat.le_refl _) _
  have c0 : W.cell? ⟨w.heap.size, 0, none⟩ = some (.int .i64 p) := by rw [hW]; simp [go_sem]
  have c1 : W.cell? ⟨w.heap.size, 1, none⟩ = some (.int .i64 q) := by rw [hW]; simp [go_sem]
  clear hW
  go_loopg [9] n (fun gh i wr => ∃ k : Nat, k + gh = n ∧ i = .int .i64 k ∧ Hid ((l.take k).all (elB ⟨p, q, g⟩) = true) ∧ W = wr)
  case atStart => exact ⟨0, by omega, rfl, by unfold Hid; simp, rfl⟩
  case round =>
    obtain ⟨k, hk, rfl, HF, rfl⟩ := hrel
    by_cases hlt : k < n
    · have HK : Hid (k < l.length) := by unfold Hid; rw [HE.out]; exact hlt
      obtain ⟨bk, o, rfl, hcx⟩ := (H.out.below hb).at_ (by omega)
      have hy := hcx k hlt
      have HS : Hid ((l.take (k + 1)).all (elB ⟨p, q, g⟩) = ((l.take k).all (elB ⟨p, q, g⟩) && elB ⟨p, q, g⟩ (nth l k))) := by unfold Hid; rw [take_succ_nth HK.out, List.all_append]; simp
      have HM : Hid (nth l k ∈ l) := by unfold Hid; rw [nth_eq HK.out]; exact List.getElem_mem _
      clear hcx
      generalize nth l k = x at hy HS HM
      have HNO : Hid (elB ⟨p, q, g⟩ x = false → l.all (elB ⟨p, q, g⟩) = false) := fun hh => by
        rw [List.all_eq_false]; exact ⟨x, HM.out, by rw [hh]; simp⟩
      by_cases hx : 1 ≤ x ∧ x ≤ p - 1
      · have H1 : Hid (decide (1 ≤ x ∧ x ≤ p - 1) = true) := decide_eq_true hx
        have HB : Hid (elB ⟨p, q, g⟩ x = (powM x q p == 1)) := by unfold Hid elB; simp only []; rw [H1.out]; rfl
        obtain ⟨hx1, hx2⟩ := hx
        cases hpx : (powM x q p == 1) with
        | true =>
          have hpn : (powM x q p != 1) = false := by simp only [bne, hpx]; rfl
          rw [hpx] at HB
          clear hpx
          go_wp2_with (first
            | (go_at_call 101; refine (spec_l1In _ _ _ _).mono ?_; rintro e w1 ⟨rfl, rfl⟩; rw [H1.out])
            | (go_at_call 209; refine (spec_nPower _ _ _ _ (by omega) (by omega) (by omega)).mono ?_; rintro e w1 ⟨rfl, rfl⟩)
            | fail)
          go_roundg (n - (k + 1))
          case measure => omega
          case rel => exact ⟨k + 1, by omega, by go_num, by unfold Hid; rw [HS.out, HF.out, HB.out]; rfl, rfl⟩
        | false =>
          have hpn : (powM x q p != 1) = true := by simp only [bne, hpx]; rfl
          rw [hpx] at HB
          have HNN := Lib.hid (HNO.out HB.out)
          clear hpx
          go_wp2_with (first
            | (go_at_call 101; refine (spec_l1In _ _ _ _).mono ?_; rintro e w1 ⟨rfl, rfl⟩; rw [H1.out])
            | (go_at_call 209; refine (spec_nPower _ _ _ _ (by omega) (by omega) (by omega)).mono ?_; rintro e w1 ⟨rfl, rfl⟩)
            | fail)
          go_ret
          exact ⟨ret_bool (by first | (rw [HNN.out]; done) | (rw [HNN.out]; rfl) | exact HNN.out.symm), hb⟩
      · have H1 : Hid (decide (1 ≤ x ∧ x ≤ p - 1) = false) := decide_eq_false hx
        have HNN := Lib.hid (HNO.out (by unfold elB; simp only []; rw [H1.out]; rfl))
        clear hx
        go_wp2_with (first
          | (go_at_call 101; refine (spec_l1In _ _ _ _).mono ?_; rintro e w1 ⟨rfl, rfl⟩; rw [H1.out])
          | fail)
        go_ret
        exact ⟨ret_bool (by first | (rw [HNN.out]; done) | (rw [HNN.out]; rfl) | exact HNN.out.symm), hb⟩
    · obtain rfl : n = k := by omega
      have HA : Hid (l.all (elB ⟨p, q, g⟩) = true) := by
        have := HF.out
        rw [List.take_of_length_le (by rw [HE.out]; exact Nat.le_refl _)] at this; exact this
      go_wp2
      go_ret
      exact ⟨ret_bool (by first | (rw [HA.out]; done) | (rw [HA.out]; rfl) | exact HA.out.symm), hb⟩
end Go.Proofs.Ytapfceghgkmgoaa
