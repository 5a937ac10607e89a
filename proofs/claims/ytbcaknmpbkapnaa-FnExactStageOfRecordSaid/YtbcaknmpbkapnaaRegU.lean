/- A region that draws its order, walked in one order (RegT), with pairs of operations that change the world in either order. No program is named here. -/
import Derived.Test.YtbcaknmpbkapnaaRegT
namespace Go.Proofs.Ytbcaknmpbkapnaa
open Go.RowKit
set_option linter.unusedSimpArgs false
set_option linter.unusedVariables false

/-- an entry of the order: a read; an operation that waits for all; two operations in either order -/
inductive RegE where
  | rd (i : Nat)
  | one (i : Nat)
  | both (i j : Nat)
inductive RegO where
  | rd (o : Oper)
  | one (o : Oper)
  | both (o p : Oper)
def RegE.inE (x : RegE) (k : Nat) : Bool := match x with
  | .rd i => i == k
  | .one i => i == k
  | .both i j => i == k || j == k
def inU (hd : List RegE) (k : Nat) : Bool := hd.any fun x => x.inE k
def needsU (ops : Array Oper) (F : Nat) (t : Nat) (x : RegE) : Bool := match x with
  | .rd i => regNeeds ops F t i
  | .one _ => true
  | .both _ _ => true
def lexU (ops : Array Oper) (tl : List Nat) : List RegE → Array Bool → Bool
  | [], listed => seqI ops tl listed
  | .rd i :: r, listed => (Region.ready .any ops listed).contains i && (Region.free .any ops listed i && lexU ops tl r (listed.setIfInBounds i true))
  | .one i :: r, listed => decide (Region.ready .any ops listed = [i]) && lexU ops tl r (listed.setIfInBounds i true)
  | .both i j :: r, listed => decide (Region.ready .any ops listed = [i, j] ∧ i ≠ j) && (decide (Region.ready .any ops (listed.setIfInBounds i true) = [j]) && (decide (Region.ready .any ops (listed.setIfInBounds j true) = [i]) && lexU ops tl r ((listed.setIfInBounds i true).setIfInBounds j true)))
def lenU : List RegE → Nat
  | [] => 0
  | .both _ _ :: r => lenU r + 2
  | .rd _ :: r => lenU r + 1
  | .one _ :: r => lenU r + 1
def takeU (ops : Array Oper) (F : Nat) (hd : List RegE) (tl : List Nat) : Bool :=
  Region.noSelect ops && ((tl.all fun t => !inU hd t) && (((List.range ops.size).all fun t => inU hd t || hd.all fun x => needsU ops F t x) && lexU ops tl hd (Array.replicate ops.size false)))
def pickU (l : List Oper) : List RegE → List RegO
  | [] => []
  | .rd i :: r => match l[i]? with
    | some o => .rd o :: pickU l r
    | none => pickU l r
  | .one i :: r => match l[i]? with
    | some o => .one o :: pickU l r
    | none => pickU l r
  | .both i j :: r => match l[i]?, l[j]? with
    | some o, some p => .both o p :: pickU l r
    | _, _ => pickU l r
section
variable {P : Program} {ops : Array Oper} {Q : Exit → Act → World → Prop} {S : World → Prop}
/-- an operation that changes the world -/
def wpO (P : Program) (ops : Array Oper) (Q : Exit → Act → World → Prop) (o : Oper) (K : Act → World → Prop) (a : Act) (w : World) : Prop :=
  if Region.wanted o (yielded ops a.tmps) then o.wp P a w K Q ∨ (o.asks P a w ∧ LetsOut Q) else K (a.put o.dst undef) w
def wpU (P : Program) (ops : Array Oper) (Q : Exit → Act → World → Prop) (S : World → Prop) (K : Act → World → Prop) : List RegO → Act → World → Prop
  | [], a, w => K a w
  | .rd o :: rest, a, w => if Region.wanted o (yielded ops a.tmps) then ∃ v, (∀ w', S w' → (execOp a.eval o).run P w' = .ok (.value v) w') ∧ wpU P ops Q S K rest (a.put o.dst v) w else wpU P ops Q S K rest (a.put o.dst undef) w
  | .one o :: rest, a, w => wpO P ops Q o (fun a' w' => S w' ∧ wpU P ops Q S K rest a' w') a w
  | .both o p :: rest, a, w => wpO P ops Q o (fun a' w' => S w' ∧ wpO P ops Q p (fun a2 w2 => S w2 ∧ wpU P ops Q S K rest a2 w2) a' w') a w ∧
      wpO P ops Q p (fun a' w' => S w' ∧ wpO P ops Q o (fun a2 w2 => S w2 ∧ wpU P ops Q S K rest a2 w2) a' w') a w
theorem wpU_nil {K : Act → World → Prop} {a : Act} {w : World} (h : K a w) : wpU P ops Q S K [] a w := h
theorem wpU_read {K : Act → World → Prop} {o : Oper} {rest : List RegO} {a : Act} {w : World} (v : Value) (hw : Region.wanted o (yielded ops a.tmps) = true)
    (hy : ∀ w', S w' → (execOp a.eval o).run P w' = .ok (.value v) w') (h : wpU P ops Q S K rest (a.put o.dst v) w) : wpU P ops Q S K (.rd o :: rest) a w := by
  unfold wpU; rw [if_pos hw]; exact ⟨v, hy, h⟩
theorem wpO_do {R : Act → World → Prop} {o : Oper} {a : Act} {w : World} (hw : Region.wanted o (yielded ops a.tmps) = true)
    (h : ∀ K' : Act → World → Prop, Shut (∀ a w, S w → (S w → R a w) → K' a w) → o.wp P a w K' Q) : wpO P ops Q o (fun a' w' => S w' ∧ R a' w') a w := by
  unfold wpO; rw [if_pos hw]; exact .inl (h _ (fun a w hS hT => ⟨hS, hT hS⟩))
theorem wpU_do {K : Act → World → Prop} {o : Oper} {rest : List RegO} {a : Act} {w : World} (hw : Region.wanted o (yielded ops a.tmps) = true)
    (h : ∀ K' : Act → World → Prop, Shut (∀ a w, S w → (S w → wpU P ops Q S K rest a w) → K' a w) → o.wp P a w K' Q) : wpU P ops Q S K (.one o :: rest) a w := wpO_do hw h
theorem wpU_both {K : Act → World → Prop} {o p : Oper} {rest : List RegO} {a : Act} {w : World}
    (h1 : wpO P ops Q o (fun a' w' => S w' ∧ wpO P ops Q p (fun a2 w2 => S w2 ∧ wpU P ops Q S K rest a2 w2) a' w') a w)
    (h2 : wpO P ops Q p (fun a' w' => S w' ∧ wpO P ops Q o (fun a2 w2 => S w2 ∧ wpU P ops Q S K rest a2 w2) a' w') a w) : wpU P ops Q S K (.both o p :: rest) a w := ⟨h1, h2⟩
theorem wpOp_of_O {l : List Oper} (hl : ops = l.toArray) {i : Nat} {o : Oper} (ho : l[i]? = some o) {K : Act → World → Prop} {a : Act} {w : World} (h : wpO P ops Q o K a w) : wpOp P ops Q i K a w := by
  have hoi : ops[i]? = some o := by rw [hl]; simpa using ho
  unfold wpOp
  simp only [hoi]
  exact h
theorem ready_get {ops : Array Oper} {l : List Oper} (hl : ops = l.toArray) {listed : Array Bool} {i : Nat} (h : i ∈ Region.ready .any ops listed) : ∃ o, l[i]? = some o ∧ ops[i]? = some o := by
  obtain ⟨_, oi, hoi, _⟩ := mem_ready.1 h
  exact ⟨oi, by rw [hl] at hoi; simpa using hoi, hoi⟩
theorem wpAnyT_of_U {l : List Oper} (hl : ops = l.toArray) {F : Nat} {Hd : Nat → Bool} {K : Act → World → Prop} {tl : List Nat} (hsel : Region.noSelect ops = true) (hT : ∀ t ∈ tl, Hd t = false)
    (hQ : ∀ c a d v w, Q (.panic c) (a.put d v) w → Q (.panic c) a w) :
    ∀ (hd : List RegE) (listed : Array Bool) (a : Act) (w : World), (∀ x ∈ hd, (∀ k, x.inE k = true → Hd k = true) ∧ ∀ t, t < ops.size → Hd t = false → needsU ops F t x = true) →
      InvT ops Hd listed → lexU ops tl hd listed = true → S w → wpU P ops Q S K (pickU l hd) a w →
      wpAnyT P ops Q S Hd (fun listed' a' w' => seqI ops tl listed' = true ∧ K a' w') (lenU hd) listed a w
  | [], listed, a, w, _, _, hB, _, h => ⟨by simpa [lexU] using hB, h⟩
  | .rd i :: r, listed, a, w, hh, inv, hB, hS, h => by
    simp only [lexU, Bool.and_eq_true] at hB
    obtain ⟨hr, hf, hB'⟩ := hB
    have hr' : i ∈ Region.ready .any ops listed := by simpa using hr
    obtain ⟨oi, hli, hoi⟩ := ready_get hl hr'
    unfold pickU at h
    rw [hli] at h
    obtain ⟨h1, h2⟩ := hh (.rd i) (by simp)
    have ih := wpAnyT_of_U (F := F) (K := K) hl hsel hT hQ r (listed.setIfInBounds i true)
    have hh' : ∀ x ∈ r, (∀ k, x.inE k = true → Hd k = true) ∧ ∀ t, t < ops.size → Hd t = false → needsU ops F t x = true := fun x hx => hh x (by simp [hx])
    have h1' : Hd i = true := h1 i (by simp [RegE.inE])
    have h2' : ∀ t, t < ops.size → Hd t = false → regNeeds ops F t i = true := h2
    unfold wpU at h
    by_cases hw : Region.wanted oi (yielded ops a.tmps) = true
    · rw [if_pos hw] at h
      obtain ⟨v, hy, hK⟩ := h
      exact wpAnyT_first hoi (Region.noSelect_spec hsel) (fun c a w => hQ c a _ _ w) h2' h1' (fun listed' a' w' hL => seqI_ready hT hL.1) (lenU r) listed a w inv (Region.free_spec hoi hf) hr' (.inl ⟨hw, hy⟩) hS
        (ih _ w hh' (inv.set hr') hB' hS hK)
    · rw [if_neg hw] at h
      exact wpAnyT_first hoi (Region.noSelect_spec hsel) (fun c a w => hQ c a _ _ w) h2' h1' (fun listed' a' w' hL => seqI_ready hT hL.1) (lenU r) listed a w inv (Region.free_spec hoi hf) hr' (.inr ⟨by simpa using hw, rfl⟩) hS
        (ih _ w hh' (inv.set hr') hB' hS h)
  | .one i :: r, listed, a, w, hh, inv, hB, hS, h => by
    simp only [lexU, Bool.and_eq_true, decide_eq_true_eq] at hB
    obtain ⟨hf, hB'⟩ := hB
    have hr' : i ∈ Region.ready .any ops listed := by rw [hf]; simp
    obtain ⟨oi, hli, hoi⟩ := ready_get hl hr'
    unfold pickU at h
    rw [hli] at h
    obtain ⟨h1, h2⟩ := hh (.one i) (by simp)
    have ih := wpAnyT_of_U (F := F) (K := K) hl hsel hT hQ r (listed.setIfInBounds i true)
    have hh' : ∀ x ∈ r, (∀ k, x.inE k = true → Hd k = true) ∧ ∀ t, t < ops.size → Hd t = false → needsU ops F t x = true := fun x hx => hh x (by simp [hx])
    unfold wpU at h
    refine ⟨fun h0 => (by rw [h0] at hr'; cases hr'), fun j hj => ?_⟩
    rw [hf] at hj
    have hji : j = i := by simpa using hj
    subst hji
    refine ⟨h1 j (by simp [RegE.inE]), ?_⟩
    exact wpOp_mono (fun a' w' hh2 => ⟨hh2.1, ih a' w' hh' (inv.set hr') hB' hh2.1 hh2.2⟩) (wpOp_of_O hl hli h)
  | .both i j :: r, listed, a, w, hh, inv, hB, hS, h => by
    simp only [lexU, Bool.and_eq_true, decide_eq_true_eq] at hB
    obtain ⟨⟨hf, hne⟩, hfi, hfj, hB'⟩ := hB
    have hri : i ∈ Region.ready .any ops listed := by rw [hf]; simp
    have hrj : j ∈ Region.ready .any ops listed := by rw [hf]; simp
    have hrij : j ∈ Region.ready .any ops (listed.setIfInBounds i true) := by rw [hfi]; simp
    have hrji : i ∈ Region.ready .any ops (listed.setIfInBounds j true) := by rw [hfj]; simp
    obtain ⟨oi, hli, hoi⟩ := ready_get hl hri
    obtain ⟨oj, hlj, hoj⟩ := ready_get hl hrj
    unfold pickU at h
    rw [hli, hlj] at h
    obtain ⟨h1, h2⟩ := hh (.both i j) (by simp)
    have hi1 : Hd i = true := h1 i (by simp [RegE.inE])
    have hj1 : Hd j = true := h1 j (by simp [RegE.inE])
    have ih := wpAnyT_of_U (F := F) (K := K) hl hsel hT hQ r ((listed.setIfInBounds i true).setIfInBounds j true)
    have hh' : ∀ x ∈ r, (∀ k, x.inE k = true → Hd k = true) ∧ ∀ t, t < ops.size → Hd t = false → needsU ops F t x = true := fun x hx => hh x (by simp [hx])
    unfold wpU at h
    have inv2 := (inv.set hri).set hrij
    refine ⟨fun h0 => (by rw [h0] at hri; cases hri), fun k hk => ?_⟩
    rw [hf] at hk
    rcases (by simpa using hk : k = i ∨ k = j) with rfl | rfl
    · refine ⟨hi1, wpOp_mono (fun a1 w1 hh1 => ⟨hh1.1, fun h0 => (by rw [h0] at hrij; cases hrij), fun m hm => ?_⟩) (wpOp_of_O hl hli h.1)⟩
      rw [hfi] at hm
      have hmj : m = j := by simpa using hm
      subst hmj
      exact ⟨hj1, wpOp_mono (fun a2 w2 hh2 => ⟨hh2.1, ih a2 w2 hh' inv2 hB' hh2.1 hh2.2⟩) (wpOp_of_O hl hlj hh1.2)⟩
    · refine ⟨hj1, wpOp_mono (fun a1 w1 hh1 => ⟨hh1.1, fun h0 => (by rw [h0] at hrji; cases hrji), fun m hm => ?_⟩) (wpOp_of_O hl hlj h.2)⟩
      rw [hfj] at hm
      have hmi : m = i := by simpa using hm
      subst hmi
      refine ⟨hi1, wpOp_mono (fun a2 w2 hh2 => ⟨hh2.1, ?_⟩) (wpOp_of_O hl hli hh1.2)⟩
      have := ih a2 w2 hh' inv2 hB' hh2.1 hh2.2
      rw [Array.setIfInBounds_comm _ _ hne] at this
      exact this
/-- one walk serves all orders -/
theorem wp_region_U {id : Nat} {a : Act} {w : World} {l : List Oper} (S : World → Prop) (F : Nat) (hd : List RegE) (tl : List Nat) (hm : P.follows .mixedOrders = true) (hB : takeU l.toArray F hd tl = true) (hsz : l.length = lenU hd + tl.length)
    (hQ : ∀ c a d v w, Q (.panic c) (a.put d v) w → Q (.panic c) a w) (hS : S w.drew)
    (h : wpU P l.toArray Q S (fun a' w' => wpList P l.toArray Q (pickN l tl) a' w') (pickU l hd) a w.drew) : (Code.region id l.toArray true).wp P Q a w := by
  simp only [takeU, Bool.and_eq_true] at hB
  obtain ⟨hsel, hT, hN, hlex⟩ := hB
  have hT' : ∀ t ∈ tl, inU hd t = false := fun t ht => by have := List.all_eq_true.1 hT t ht; simpa using this
  have inv0 : InvT l.toArray (inU hd) (Array.replicate l.toArray.size false) := ⟨by simp, fun j oj _ hl => by
    exfalso
    rcases Nat.lt_or_ge j l.toArray.size with h | h
    · simp at hl
      have : j < l.length := by simpa using h
      simp [this] at hl
    · have h' : ¬ j < l.length := by simpa using h
      simp [h'] at hl⟩
  have hh : ∀ x ∈ hd, (∀ k, x.inE k = true → inU hd k = true) ∧ ∀ t, t < l.toArray.size → inU hd t = false → needsU l.toArray F t x = true := fun x hx => by
    refine ⟨fun k hk => List.any_eq_true.2 ⟨x, hx, hk⟩, fun t ht hf => ?_⟩
    have h1 := List.all_eq_true.1 hN t (List.mem_range.2 ht)
    rw [hf, Bool.false_or] at h1
    exact List.all_eq_true.1 h1 x hx
  refine wp_region_any hm ?_
  have H := wpAnyT_of_U (P := P) (Q := Q) (S := S) (l := l) rfl hsel hT' hQ hd _ a w.drew hh inv0 hlex hS h
  have H2 := wpAny_of_T (g := tl.length) (fun listed' a' w' hL => wpAny_of_seqI (P := P) (Q := Q) (l := l) rfl tl listed' a' w' hL.1 hL.2) (lenU hd) _ a w.drew H
  have e : l.toArray.size = lenU hd + tl.length := by simpa using hsz
  rw [e]
  rw [e] at H2
  exact H2
end
attribute [irreducible] wpU wpO
end Go.Proofs.Ytbcaknmpbkapnaa
