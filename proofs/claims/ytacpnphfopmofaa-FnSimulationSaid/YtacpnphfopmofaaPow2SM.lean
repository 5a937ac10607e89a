/- A region that draws its order, walked in ONE order: reads may come up later (they yield the same in every world that meets S); the operations that change the world wait for one another; the last ones wait for all. No program is named here. -/
import Derived.Test.YtacpnphfopmofaaRows
import Derived.OrdersHeld
import Derived.Deep.RegionHeld
import Derived.Still
import Derived.WalkKit
import Derived.Test.YtacpnphfopmofaaPow1SM
namespace Go.Proofs.Ytacpnphfopmofaa
open Go.RowKit
set_option linter.unusedSimpArgs false
set_option linter.unusedVariables false

def afters (ops : Array Oper) (t : Nat) : List Nat := match ops[t]? with
  | some o => (o.after.toList.filter (Region.binds .any)).map (·.on)
  | none => []
/-- what stands ahead of some operations -/
def closeW (ops : Array Oper) : Nat → List Nat → List Nat → List Nat
  | 0, seen, _ => seen
  | _ + 1, seen, [] => seen
  | f + 1, seen, x :: r => if seen.contains x then closeW ops f seen r else closeW ops f (x :: seen) (afters ops x ++ r)
def regNeeds (ops : Array Oper) (F t i : Nat) : Bool := (closeW ops (F * 40) [] (afters ops t)).contains i
def seqI (ops : Array Oper) : List Nat → Array Bool → Bool
  | [], listed => (Region.ready .any ops listed).isEmpty
  | k :: r, listed => decide (Region.ready .any ops listed = [k]) && seqI ops r (listed.setIfInBounds k true)
def lexT (ops : Array Oper) (tl : List Nat) : List (Bool × Nat) → Array Bool → Bool
  | [], listed => seqI ops tl listed
  | (b, i) :: r, listed => (Region.ready .any ops listed).contains i && (if b then Region.free .any ops listed i else decide (Region.ready .any ops listed = [i])) && lexT ops tl r (listed.setIfInBounds i true)
def inHd (hd : List (Bool × Nat)) (i : Nat) : Bool := hd.any fun x => x.2 == i
/-- the order may serve for all orders -/
def takeB (ops : Array Oper) (F : Nat) (hd : List (Bool × Nat)) (tl : List Nat) : Bool :=
  Region.noSelect ops && (tl.all fun t => !inHd hd t) && ((List.range ops.size).all fun t => inHd hd t || hd.all fun x => regNeeds ops F t x.2) && lexT ops tl hd (Array.replicate ops.size false)
def pickL (l : List Oper) : List (Bool × Nat) → List (Bool × Oper)
  | [] => []
  | (b, i) :: r => match l[i]? with
    | some o => (b, o) :: pickL l r
    | none => pickL l r
def pickN (l : List Oper) : List Nat → List Oper
  | [] => []
  | i :: r => match l[i]? with
    | some o => o :: pickN l r
    | none => pickN l r
section
variable {P : Program} {ops : Array Oper} {Q : Exit → Act → World → Prop} {S : World → Prop}
/-- the walk: (true, o): a read; (false, o): it changes the world, S anew behind it -/
def wpTake (P : Program) (ops : Array Oper) (Q : Exit → Act → World → Prop) (S : World → Prop) (K : Act → World → Prop) : List (Bool × Oper) → Act → World → Prop
  | [], a, w => K a w
  | (true, o) :: rest, a, w => if Region.wanted o (yielded ops a.tmps) then ∃ v, (∀ w', S w' → (execOp a.eval o).run P w' = .ok (.value v) w') ∧ wpTake P ops Q S K rest (a.put o.dst v) w else wpTake P ops Q S K rest (a.put o.dst undef) w
  | (false, o) :: rest, a, w => if Region.wanted o (yielded ops a.tmps) then o.wp P a w (fun a' w' => S w' ∧ wpTake P ops Q S K rest a' w') Q ∨ (o.asks P a w ∧ LetsOut Q) else S w ∧ wpTake P ops Q S K rest (a.put o.dst undef) w
theorem wpTake_nil {K : Act → World → Prop} {a : Act} {w : World} (h : K a w) : wpTake P ops Q S K [] a w := h
theorem wpTake_read {K : Act → World → Prop} {o : Oper} {rest : List (Bool × Oper)} {a : Act} {w : World} (v : Value) (hw : Region.wanted o (yielded ops a.tmps) = true)
    (hy : ∀ w', S w' → (execOp a.eval o).run P w' = .ok (.value v) w') (h : wpTake P ops Q S K rest (a.put o.dst v) w) : wpTake P ops Q S K ((true, o) :: rest) a w := by
  unfold wpTake; rw [if_pos hw]; exact ⟨v, hy, h⟩
theorem wpTake_do {K : Act → World → Prop} {o : Oper} {rest : List (Bool × Oper)} {a : Act} {w : World} (hw : Region.wanted o (yielded ops a.tmps) = true)
    (h : ∀ K' : Act → World → Prop, Shut (∀ a w, S w → (S w → wpTake P ops Q S K rest a w) → K' a w) → o.wp P a w K' Q) : wpTake P ops Q S K ((false, o) :: rest) a w := by
  unfold wpTake; rw [if_pos hw]; exact .inl (h _ (fun a w hS hT => ⟨hS, hT hS⟩))
/-- the operations of the head, in whatever order -/
def wpAnyT (P : Program) (ops : Array Oper) (Q : Exit → Act → World → Prop) (S : World → Prop) (Hd : Nat → Bool) (L : Array Bool → Act → World → Prop) : Nat → Array Bool → Act → World → Prop
  | 0, listed, a, w => L listed a w
  | f + 1, listed, a, w => Region.ready .any ops listed ≠ [] ∧ ∀ i ∈ Region.ready .any ops listed, Hd i = true ∧ wpOp P ops Q i (fun a' w' => S w' ∧ wpAnyT P ops Q S Hd L f (listed.setIfInBounds i true) a' w') a w
theorem wpAny_of_T {Hd : Nat → Bool} {g : Nat} {L : Array Bool → Act → World → Prop} (hL : ∀ listed a w, L listed a w → wpAny P .any ops Q g listed a w) :
    ∀ (f : Nat) (listed : Array Bool) (a : Act) (w : World), wpAnyT P ops Q S Hd L f listed a w → wpAny P .any ops Q (f + g) listed a w
  | 0, _, _, _, h => by rw [Nat.zero_add]; exact hL _ _ _ h
  | f + 1, listed, a, w, h => by
    rw [show f + 1 + g = (f + g) + 1 by omega]
    exact ⟨fun h0 => absurd h0 h.1, fun i hi => wpOp_mono (fun a' w' h' => wpAny_of_T hL f _ a' w' h'.2) (h.2 i hi).2⟩
structure InvT (ops : Array Oper) (Hd : Nat → Bool) (listed : Array Bool) : Prop where
  size : listed.size = ops.size
  closed : ∀ j oj, ops[j]? = some oj → listed.getD j false = true → ∀ e ∈ oj.after, Region.binds .any e = true → listed.getD e.on false = true
theorem getD_bothT {listed : Array Bool} {i : Nat} (h : listed.getD i true = false) : listed.getD i false = false := by
  rcases Nat.lt_or_ge i listed.size with h' | h'
  · simp [h'] at h ⊢; exact h
  · simp [Array.getElem?_eq_none h'] at h
theorem InvT.set {Hd : Nat → Bool} {listed : Array Bool} {i : Nat} (inv : InvT ops Hd listed) (hi : i ∈ Region.ready .any ops listed) : InvT ops Hd (listed.setIfInBounds i true) := by
  obtain ⟨_, oi, hoi, hall⟩ := mem_ready.1 hi
  refine ⟨by simp [inv.size], fun j oj hj hl e he hb => ?_⟩
  by_cases hij : i = j
  · subst hij
    have : oj = oi := Option.some.inj (hj.symm.trans hoi)
    subst this
    exact getD_set_true (hall e he hb)
  · rw [getD_set_ne false hij] at hl
    exact getD_set_true (inv.closed j oj hj hl e he hb)
theorem afters_listed {Hd : Nat → Bool} {listed : Array Bool} (inv : InvT ops Hd listed) {x : Nat} (h : listed.getD x false = true) : ∀ y ∈ afters ops x, listed.getD y false = true := by
  intro y hy
  unfold afters at hy
  cases ho : ops[x]? with
  | none => rw [ho] at hy; simp at hy
  | some o =>
    rw [ho] at hy
    obtain ⟨e, he, rfl⟩ := List.mem_map.1 hy
    obtain ⟨he1, he2⟩ := List.mem_filter.1 he
    exact inv.closed x o ho h e (by simpa using he1) he2
theorem closeW_listed {Hd : Nat → Bool} {listed : Array Bool} (inv : InvT ops Hd listed) : ∀ (f : Nat) (seen work : List Nat), (∀ y ∈ seen, listed.getD y false = true) → (∀ y ∈ work, listed.getD y false = true) → ∀ y ∈ closeW ops f seen work, listed.getD y false = true := by
  intro f
  induction f with
  | zero => intro seen work h1 _ y hy; exact h1 y hy
  | succ f ih =>
    intro seen work h1 h2 y hy
    cases work with
    | nil => exact h1 y hy
    | cons x r =>
      unfold closeW at hy
      split at hy
      · exact ih seen r h1 (fun z hz => h2 z (List.mem_cons_of_mem _ hz)) y hy
      · refine ih (x :: seen) (afters ops x ++ r) (fun z hz => ?_) (fun z hz => ?_) y hy
        · rcases List.mem_cons.1 hz with rfl | hz
          · exact h2 z (by simp)
          · exact h1 z hz
        · rcases List.mem_append.1 hz with hz | hz
          · exact afters_listed inv (h2 x (by simp)) z hz
          · exact h2 z (List.mem_cons_of_mem _ hz)
theorem needs_listed {Hd : Nat → Bool} {listed : Array Bool} (inv : InvT ops Hd listed) : ∀ (F t i : Nat), regNeeds ops F t i = true → (∀ o, ops[t]? = some o → ∀ e ∈ o.after, Region.binds .any e = true → listed.getD e.on false = true) → listed.getD i false = true := by
  intro F t i h hd
  unfold regNeeds at h
  refine closeW_listed inv _ [] _ (fun y hy => by simp at hy) (fun y hy => ?_) i (by simpa using h)
  unfold afters at hy
  cases ho : ops[t]? with
  | none => rw [ho] at hy; simp at hy
  | some o =>
    rw [ho] at hy
    obtain ⟨e, he, rfl⟩ := List.mem_map.1 hy
    obtain ⟨he1, he2⟩ := List.mem_filter.1 he
    exact hd o ho e (by simpa using he1) he2
theorem blockedT {Hd : Nat → Bool} {listed : Array Bool} {i F : Nat} (inv : InvT ops Hd listed) (hn : ∀ t, t < ops.size → Hd t = false → regNeeds ops F t i = true) (hun : listed.getD i true = false) :
    ∀ j ∈ Region.ready .any ops listed, Hd j = true := by
  intro j hj
  cases hh : Hd j with
  | true => rfl
  | false =>
    obtain ⟨_, oj, hoj, hall⟩ := mem_ready.1 hj
    have h1 := needs_listed inv F j i (hn j (Array.getElem?_eq_some_iff.1 hoj).1 hh) (fun o ho e he hb => by
      have : o = oj := Option.some.inj (ho.symm.trans hoj)
      subst this; exact hall e he hb)
    rw [getD_bothT hun] at h1; cases h1
theorem wpAnyT_first {Hd : Nat → Bool} {i F : Nat} {oi : Oper} {v : Value} {L : Array Bool → Act → World → Prop} (hi : ops[i]? = some oi) (hsel : ∀ (j : Nat) (o : Oper) cs b, ops[j]? = some o → o.op ≠ .select cs b)
    (hQ : ∀ c a w, Q (.panic c) (a.put oi.dst v) w → Q (.panic c) a w) (hn : ∀ t, t < ops.size → Hd t = false → regNeeds ops F t i = true) (hHd : Hd i = true)
    (hdone : ∀ listed a w, L listed a w → ∀ j ∈ Region.ready .any ops listed, Hd j = false) :
    ∀ (f : Nat) (listed : Array Bool) (a : Act) (w : World), InvT ops Hd listed →
      (∀ j oj, ops[j]? = some oj → j ≠ i → listed.getD j true = false → (∀ e ∈ oj.after, Region.binds .any e = true → e.on ≠ i) → oi.apart ops oj = true) →
      i ∈ Region.ready .any ops listed → YieldsIf P ops S oi v a → S w →
      wpAnyT P ops Q S Hd L f (listed.setIfInBounds i true) (a.put oi.dst v) w → wpAnyT P ops Q S Hd L (f + 1) listed a w := by
  intro f
  induction f with
  | zero =>
    intro listed a w inv _ hr hy hS H
    have hun := (mem_ready.1 hr).1
    refine ⟨fun h => (by rw [h] at hr; cases hr), fun j hj => ?_⟩
    have hjH := blockedT inv hn hun j hj
    refine ⟨hjH, ?_⟩
    by_cases hji : j = i
    · subst hji; exact hy.wpOp hi hS ⟨hS, H⟩
    · have := hdone _ _ _ H j (ready_mono hj hji)
      rw [hjH] at this; cases this
  | succ f ih =>
    intro listed a w inv hfree hr hy hS H
    have hun := (mem_ready.1 hr).1
    refine ⟨fun h => (by rw [h] at hr; cases hr), fun j hj => ?_⟩
    refine ⟨blockedT inv hn hun j hj, ?_⟩
    by_cases hji : j = i
    · subst hji; exact hy.wpOp hi hS ⟨hS, H⟩
    · have h1 := (H.2 j (ready_mono hj hji)).2
      obtain ⟨hjun, oj, hoj, hall⟩ := mem_ready.1 hj
      have hnot : ∀ e ∈ oj.after, Region.binds .any e = true → e.on ≠ i := fun e he hb heq => by
        have h1 := hall e he hb
        rw [heq, getD_bothT hun] at h1
        cases h1
      have h2 := wpOp_putIf hoj (hfree j oj hoj hji hjun hnot) (fun cs b => hsel i oi cs b hi) (fun cs b => hsel j oj cs b hoj) hQ hy h1
      have hfree' : ∀ k ok, ops[k]? = some ok → k ≠ i → (listed.setIfInBounds j true).getD k true = false →
          (∀ e ∈ ok.after, Region.binds .any e = true → e.on ≠ i) → oi.apart ops ok = true := fun k ok hk hki hun hno => by
        refine hfree k ok hk hki ?_ hno
        by_cases hjk : j = k
        · subst hjk; exact hjun
        · rw [getD_set_ne true hjk] at hun; exact hun
      refine wpOp_mono (fun a' w' h3 => ⟨h3.2.1, ih (listed.setIfInBounds j true) a' w' (inv.set hj) hfree' (ready_mono hr (Ne.symm hji)) h3.1 h3.2.1 ?_⟩) h2
      rw [Array.setIfInBounds_comm _ _ hji]
      exact h3.2.2
theorem seqI_ready {tl : List Nat} {Hd : Nat → Bool} (hT : ∀ t ∈ tl, Hd t = false) {listed : Array Bool} (h : seqI ops tl listed = true) : ∀ j ∈ Region.ready .any ops listed, Hd j = false := by
  cases tl with
  | nil => intro j hj; simp only [seqI, List.isEmpty_iff] at h; rw [h] at hj; cases hj
  | cons k r =>
    intro j hj
    simp only [seqI, Bool.and_eq_true, decide_eq_true_eq] at h
    rw [h.1] at hj
    have : j = k := by simpa using hj
    subst this
    exact hT j (by simp)
theorem wpAny_of_seqI {l : List Oper} (hl : ops = l.toArray) : ∀ (tl : List Nat) (listed : Array Bool) (a : Act) (w : World),
    seqI ops tl listed = true → wpList P ops Q (pickN l tl) a w → wpAny P .any ops Q tl.length listed a w
  | [], _, _, _, hB, h => ⟨by simpa [seqI] using hB, h⟩
  | k :: r, listed, a, w, hB, h => by
    simp only [seqI, Bool.and_eq_true, decide_eq_true_eq] at hB
    refine ⟨fun h1 => (by rw [hB.1] at h1; cases h1), fun i hi => ?_⟩
    have hi' := hi
    rw [hB.1] at hi
    have hik : i = k := by simpa using hi
    subst hik
    obtain ⟨_, oi, hoi, _⟩ := mem_ready.1 hi'
    have hli : l[i]? = some oi := by rw [hl] at hoi; simpa using hoi
    unfold pickN at h
    rw [hli] at h
    have hw : wpOp P ops Q i (wpList P ops Q (pickN l r)) a w := by unfold wpOp; simp only [hoi]; exact h
    exact wpOp_mono (fun a' w' h' => wpAny_of_seqI hl r _ a' w' hB.2 h') hw
theorem wpAnyT_of_take {l : List Oper} (hl : ops = l.toArray) {F : Nat} {Hd : Nat → Bool} {K : Act → World → Prop} {tl : List Nat} (hsel : Region.noSelect ops = true) (hT : ∀ t ∈ tl, Hd t = false)
    (hQ : ∀ c a d v w, Q (.panic c) (a.put d v) w → Q (.panic c) a w) :
    ∀ (hd : List (Bool × Nat)) (listed : Array Bool) (a : Act) (w : World), (∀ x ∈ hd, Hd x.2 = true ∧ ∀ t, t < ops.size → Hd t = false → regNeeds ops F t x.2 = true) →
      InvT ops Hd listed → lexT ops tl hd listed = true → S w → wpTake P ops Q S K (pickL l hd) a w →
      wpAnyT P ops Q S Hd (fun listed' a' w' => seqI ops tl listed' = true ∧ K a' w') hd.length listed a w
  | [], listed, a, w, _, _, hB, _, h => ⟨by simpa [lexT] using hB, h⟩
  | (b, i) :: r, listed, a, w, hh, inv, hB, hS, h => by
    simp only [lexT, Bool.and_eq_true] at hB
    obtain ⟨⟨hr, hf⟩, hB'⟩ := hB
    have hr' : i ∈ Region.ready .any ops listed := by simpa using hr
    obtain ⟨_, oi, hoi, _⟩ := mem_ready.1 hr'
    have hli : l[i]? = some oi := by rw [hl] at hoi; simpa using hoi
    unfold pickL at h
    rw [hli] at h
    obtain ⟨h1, h2⟩ := hh (b, i) (by simp)
    have ih := wpAnyT_of_take (F := F) (K := K) hl hsel hT hQ r (listed.setIfInBounds i true)
    have hh' : ∀ x ∈ r, Hd x.2 = true ∧ ∀ t, t < ops.size → Hd t = false → regNeeds ops F t x.2 = true := fun x hx => hh x (by simp [hx])
    cases b with
    | true =>
      simp only [if_true] at hf
      unfold wpTake at h
      by_cases hw : Region.wanted oi (yielded ops a.tmps) = true
      · rw [if_pos hw] at h
        obtain ⟨v, hy, hK⟩ := h
        exact wpAnyT_first hoi (Region.noSelect_spec hsel) (fun c a w => hQ c a _ _ w) h2 h1 (fun listed' a' w' hL => seqI_ready hT hL.1) r.length listed a w inv (Region.free_spec hoi hf) hr' (.inl ⟨hw, hy⟩) hS
          (ih _ w hh' (inv.set hr') hB' hS hK)
      · rw [if_neg hw] at h
        exact wpAnyT_first hoi (Region.noSelect_spec hsel) (fun c a w => hQ c a _ _ w) h2 h1 (fun listed' a' w' hL => seqI_ready hT hL.1) r.length listed a w inv (Region.free_spec hoi hf) hr' (.inr ⟨by simpa using hw, rfl⟩) hS
          (ih _ w hh' (inv.set hr') hB' hS h)
    | false =>
      simp only [Bool.false_eq_true, if_false, decide_eq_true_eq] at hf
      unfold wpTake at h
      refine ⟨fun h0 => (by rw [h0] at hr'; cases hr'), fun j hj => ?_⟩
      rw [hf] at hj
      have hji : j = i := by simpa using hj
      subst hji
      refine ⟨h1, ?_⟩
      refine wpOp_mono (K := fun a' w' => S w' ∧ wpTake P ops Q S K (pickL l r) a' w') (fun a' w' hh2 => ⟨hh2.1, ih a' w' hh' (inv.set hr') hB' hh2.1 hh2.2⟩) ?_
      unfold wpOp
      simp only [hoi]
      exact h
/-- one walk serves all orders -/
theorem wp_region_take {id : Nat} {a : Act} {w : World} {l : List Oper} (S : World → Prop) (F : Nat) (hd : List (Bool × Nat)) (tl : List Nat) (hm : P.follows .mixedOrders = true) (hB : takeB l.toArray F hd tl = true) (hsz : l.length = hd.length + tl.length)
    (hQ : ∀ c a d v w, Q (.panic c) (a.put d v) w → Q (.panic c) a w) (hS : S w.drew)
    (h : wpTake P l.toArray Q S (fun a' w' => wpList P l.toArray Q (pickN l tl) a' w') (pickL l hd) a w.drew) : (Code.region id l.toArray true).wp P Q a w := by
  simp only [takeB, Bool.and_eq_true] at hB
  obtain ⟨⟨⟨hsel, hT⟩, hN⟩, hlex⟩ := hB
  have hT' : ∀ t ∈ tl, inHd hd t = false := fun t ht => by have := List.all_eq_true.1 hT t ht; simpa using this
  have inv0 : InvT l.toArray (inHd hd) (Array.replicate l.toArray.size false) := ⟨by simp, fun j oj _ hl => by
    exfalso
    rcases Nat.lt_or_ge j l.toArray.size with h | h
    · simp at hl
      have : j < l.length := by simpa using h
      simp [this] at hl
    · have h' : ¬ j < l.length := by simpa using h
      simp [h'] at hl⟩
  have hh : ∀ x ∈ hd, inHd hd x.2 = true ∧ ∀ t, t < l.toArray.size → inHd hd t = false → regNeeds l.toArray F t x.2 = true := fun x hx => by
    refine ⟨List.any_eq_true.2 ⟨x, hx, by simp⟩, fun t ht hf => ?_⟩
    have h1 := List.all_eq_true.1 hN t (List.mem_range.2 ht)
    rw [hf, Bool.false_or] at h1
    exact List.all_eq_true.1 h1 x hx
  refine wp_region_any hm ?_
  have H := wpAnyT_of_take (P := P) (Q := Q) (S := S) (l := l) rfl hsel hT' hQ hd _ a w.drew hh inv0 hlex hS h
  have H2 := wpAny_of_T (g := tl.length) (fun listed' a' w' hL => wpAny_of_seqI (P := P) (Q := Q) (l := l) rfl tl listed' a' w' hL.1 hL.2) hd.length _ a w.drew H
  have e : l.toArray.size = hd.length + tl.length := by simpa using hsz
  rw [e]
  rw [e] at H2
  exact H2
end
end Go.Proofs.Ytacpnphfopmofaa
namespace Go.Proofs.Ytacpnphfopmofaa
open Go.RowKit
set_option linter.unusedSimpArgs false
set_option linter.unusedVariables false

inductive RegO where
  | rd (o : Oper)
  | one (o : Oper)
  | both (o p : Oper)
section
variable {P : Program} {ops : Array Oper} {Q : Exit → Act → World → Prop} {S : World → Prop}
/-- an operation that changes the world -/
def wpO (P : Program) (ops : Array Oper) (Q : Exit → Act → World → Prop) (o : Oper) (K : Act → World → Prop) (a : Act) (w : World) : Prop :=
  if Region.wanted o (yielded ops a.tmps) then o.wp P a w K Q ∨ (o.asks P a w ∧ LetsOut Q) else K (a.put o.dst undef) w
def wpU (P : Program) (ops : Array Oper) (Q : Exit → Act → World → Prop) (S : World → Prop) (K : Act → World → Prop) : List RegO → Act → World → Prop
  | [], a, w => K a w
  | .rd o :: rest, a, w => if Region.wanted o (yielded ops a.tmps) then ∃ v, (∀ w', S w' → (execOp a.eval o).run P w' = .ok (.value v) w') ∧ wpU P ops Q S K rest (a.put o.dst v) w else wpU P ops Q S K rest (a.put o.dst undef) w
  | .one o :: rest, a, w => wpO P ops Q o (fun a' w' => S w' ∧ wpU P ops Q S K rest a' w') a w
  | .both o p :: rest, a, w => wpO P ops Q o (fun a' w' => S w' ∧ wpO P ops Q p (fun a2 w2 => S w2 ∧ wpU P ops Q S K rest a2 w2) a' w') a w ∧
      wpO P ops Q p (fun a' w' => S w' ∧ wpO P ops Q o (fun a2 w2 => S w2 ∧ wpU P ops Q S K rest a2 w2) a' w') a w
theorem wpO_do {R : Act → World → Prop} {o : Oper} {a : Act} {w : World} (hw : Region.wanted o (yielded ops a.tmps) = true)
    (h : ∀ K' : Act → World → Prop, Shut (∀ a w, S w → (S w → R a w) → K' a w) → o.wp P a w K' Q) : wpO P ops Q o (fun a' w' => S w' ∧ R a' w') a w := by
  unfold wpO; rw [if_pos hw]; exact .inl (h _ (fun a w hS hT => ⟨hS, hT hS⟩))
theorem wpOp_of_O {l : List Oper} (hl : ops = l.toArray) {i : Nat} {o : Oper} (ho : l[i]? = some o) {K : Act → World → Prop} {a : Act} {w : World} (h : wpO P ops Q o K a w) : wpOp P ops Q i K a w := by
  have hoi : ops[i]? = some o := by rw [hl]; simpa using ho
  unfold wpOp
  simp only [hoi]
  exact h
theorem ready_get {ops : Array Oper} {l : List Oper} (hl : ops = l.toArray) {listed : Array Bool} {i : Nat} (h : i ∈ Region.ready .any ops listed) : ∃ o, l[i]? = some o ∧ ops[i]? = some o := by
  obtain ⟨_, oi, hoi, _⟩ := mem_ready.1 h
  exact ⟨oi, by rw [hl] at hoi; simpa using hoi, hoi⟩
end
attribute [irreducible] wpU wpO
end Go.Proofs.Ytacpnphfopmofaa
namespace Go.Proofs.Ytacpnphfopmofaa
open Go.RowKit
set_option linter.unusedSimpArgs false
set_option linter.unusedVariables false

/-- what is known of a result: its value, or a property that stays true while the world grows -/
inductive SpecP where
  | val (v : Value)
  | pre (p : Value → World → Prop)
def SpecP.holds : SpecP → Value → World → Prop
  | .val u, v, _ => v = u
  | .pre p, v, w => p v w
def MonoP (s : SpecP) : Prop := ∀ (v : Value) (w w' : World), Below w.heap.size w w' → s.holds v w → s.holds v w'
def lookP (env : List (Option Tmp × SpecP)) : List Nat → List (Option Tmp × SpecP)
  | [] => []
  | k :: r => match env[k]? with
    | some x => x :: lookP env r
    | none => lookP env r
def allP (w : World) (F : Act → Prop) : List (Option Tmp × SpecP) → Act → Prop
  | [], a => F a
  | (d, .val v) :: r, a => allP w F r (a.put d v)
  | (d, .pre p) :: r, a => ∀ x, p x w → allP w F r (a.put d x)
def stepP (P : Program) (ops : Array Oper) (Q : Exit → Act → World → Prop) (o : Oper) (s : SpecP) (w : World) (a : Act) : Prop :=
  if Region.wanted o (yielded ops a.tmps) = true then o.wp P a w (fun a' w' => ∃ v, a' = a.put o.dst v ∧ s.holds v w' ∧ Below w.heap.size w w') Q else s.holds undef w
def chainP (P : Program) (ops : Array Oper) (Q : Exit → Act → World → Prop) (S : World → Prop) (K : Act → World → Prop) (a0 : Act) : List (Option Tmp × SpecP) → List (Oper × List Nat) → Prop
  | env, [] => ∀ w, S w → allP w (fun a => K a w) env a0
  | env, (o, deps) :: r => ∃ s : SpecP, MonoP s ∧ (∀ w, S w → allP w (stepP P ops Q o s w) (lookP env deps) a0) ∧ chainP P ops Q S K a0 ((o.dst, s) :: env) r
def pickP (l : List Oper) : List (Nat × List Nat) → List (Oper × List Nat)
  | [] => []
  | (i, d) :: r => match l[i]? with
    | some o => (o, d) :: pickP l r
    | none => pickP l r
def dstP (ops : Array Oper) (i : Nat) : Option Tmp := (ops[i]?).bind (·.dst)
def idxP (E : List Nat) : List Nat → List Nat
  | [] => []
  | k :: r => match E[k]? with
    | some x => x :: idxP E r
    | none => idxP E r
def resP : List Nat → List (Nat × List Nat) → List (Nat × List Nat)
  | _, [] => []
  | E, (i, d) :: r => (i, idxP E d) :: resP (i :: E) r
def okP (ops : Array Oper) : List Nat → List (Nat × List Nat) → Bool
  | _, [] => true
  | E, (i, _) :: r => (decide (i < ops.size) && (!E.contains i && (afters ops i).all fun j => E.contains j)) && okP ops (i :: E) r
def seesP (ops : Array Oper) (F : Nat) (H : List Nat) (i : Nat) (D : List Nat) : Bool := match ops[i]? with
  | some o => D.all (fun j => regNeeds ops F i j) && (o.looksAt ops).all fun t => H.all fun j => !(dstP ops j == some t) || (D.contains j || (j == i || regNeeds ops F j i))
  | none => false
def apartP (ops : Array Oper) (H : List Nat) : Bool := H.all fun i => H.all fun j => i == j || !((dstP ops i).isSome && dstP ops i == dstP ops j)
def heldP (ops : Array Oper) (H : List Nat) : Array Bool := ((List.range ops.size).map fun j => H.contains j).toArray
def checkP (ops : Array Oper) (F : Nat) (hd : List (Nat × List Nat)) (tl : List Nat) : Bool :=
  Region.noSelect ops && ((tl.all fun k => !(hd.map (·.1)).contains k) && (((List.range ops.size).all fun k => (hd.map (·.1)).contains k || (hd.map (·.1)).all fun i => regNeeds ops F k i) &&
    (okP ops [] hd && ((resP [] hd).all (fun x => seesP ops F (hd.map (·.1)) x.1 x.2) && (apartP ops (hd.map (·.1)) && seqI ops tl (heldP ops (hd.map (·.1))))))))
section
variable {P : Program} {ops : Array Oper} {Q : Exit → Act → World → Prop} {S : World → Prop} {K : Act → World → Prop} {a0 : Act}
theorem chainP_nil {env : List (Option Tmp × SpecP)} (h : ∀ w, S w → allP w (fun a => K a w) env a0) : chainP P ops Q S K a0 env [] := h
theorem allP_mono {w : World} {F G : Act → Prop} (h : ∀ a, F a → G a) : ∀ (e : List (Option Tmp × SpecP)) (a : Act), allP w F e a → allP w G e a
  | [], a, hh => h a hh
  | (d, .val v) :: r, a, hh => allP_mono h r (a.put d v) hh
  | (d, .pre p) :: r, a, hh => fun x hx => allP_mono h r (a.put d x) (hh x hx)
theorem wanted_free {o : Oper} (hg : o.guard = none) (a : Act) : Region.wanted o (yielded ops a.tmps) = true := by unfold Region.wanted; rw [hg]
/-- an operation whose value is known and that leaves the world as it is -/
theorem chainP_readG {o : Oper} {deps : List Nat} {r : List (Oper × List Nat)} {env : List (Option Tmp × SpecP)} {d : Option Tmp} (v : Value) (hd : o.dst = d)
    (h : ∀ w, S w → allP w (fun a => Region.wanted o (yielded ops a.tmps) = true ∧ (execOp a.eval o).run P w = .ok (.value v) w) (lookP env deps) a0)
    (hr : chainP P ops Q S K a0 ((d, .val v) :: env) r) : chainP P ops Q S K a0 env ((o, deps) :: r) := by
  subst hd
  refine ⟨.val v, fun _ _ _ _ h => h, fun w hS => allP_mono (fun a ⟨h1, h2⟩ => ?_) _ _ (h w hS), hr⟩
  unfold stepP Oper.wp
  rw [if_pos h1, h2]
  exact ⟨v, rfl, rfl, Below.refl _ _⟩
theorem chainP_read {o : Oper} {deps : List Nat} {r : List (Oper × List Nat)} {env : List (Option Tmp × SpecP)} {d : Option Tmp} (v : Value) (hd : o.dst = d) (hg : o.guard = none)
    (h : ∀ w, S w → allP w (fun a => (execOp a.eval o).run P w = .ok (.value v) w) (lookP env deps) a0)
    (hr : chainP P ops Q S K a0 ((d, .val v) :: env) r) : chainP P ops Q S K a0 env ((o, deps) :: r) :=
  chainP_readG v hd (fun w hS => allP_mono (fun a h => ⟨wanted_free hg a, h⟩) _ _ (h w hS)) hr
/-- an operation that does not run -/
theorem chainP_skip {o : Oper} {deps : List Nat} {r : List (Oper × List Nat)} {env : List (Option Tmp × SpecP)} {d : Option Tmp} (hd : o.dst = d)
    (h : ∀ w, S w → allP w (fun a => Region.wanted o (yielded ops a.tmps) = false) (lookP env deps) a0)
    (hr : chainP P ops Q S K a0 ((d, .val undef) :: env) r) : chainP P ops Q S K a0 env ((o, deps) :: r) := by
  subst hd
  refine ⟨.val undef, fun _ _ _ _ h => h, fun w hS => allP_mono (fun a h1 => ?_) _ _ (h w hS), hr⟩
  unfold stepP
  rw [if_neg (by simp [h1])]
  rfl
/-- an operation with a known result; the world grows -/
theorem chainP_callG {o : Oper} {deps : List Nat} {r : List (Oper × List Nat)} {env : List (Option Tmp × SpecP)} {d : Option Tmp} (v : Value) (hd : o.dst = d)
    (h : ∀ w, S w → allP w (fun a => Region.wanted o (yielded ops a.tmps) = true ∧ ∀ K' : Act → World → Prop, Shut (∀ w', Below w.heap.size w w' → K' (a.put d v) w') → o.wp P a w K' Q) (lookP env deps) a0)
    (hr : chainP P ops Q S K a0 ((d, .val v) :: env) r) : chainP P ops Q S K a0 env ((o, deps) :: r) := by
  subst hd
  refine ⟨.val v, fun _ _ _ _ h => h, fun w hS => allP_mono (fun a ⟨h1, h2⟩ => ?_) _ _ (h w hS), hr⟩
  unfold stepP
  rw [if_pos h1]
  exact h2 _ (fun w' hb => ⟨v, rfl, rfl, hb⟩)
theorem chainP_call {o : Oper} {deps : List Nat} {r : List (Oper × List Nat)} {env : List (Option Tmp × SpecP)} {d : Option Tmp} (v : Value) (hd : o.dst = d) (hg : o.guard = none)
    (h : ∀ w, S w → allP w (fun a => ∀ K' : Act → World → Prop, Shut (∀ w', Below w.heap.size w w' → K' (a.put d v) w') → o.wp P a w K' Q) (lookP env deps) a0)
    (hr : chainP P ops Q S K a0 ((d, .val v) :: env) r) : chainP P ops Q S K a0 env ((o, deps) :: r) :=
  chainP_callG v hd (fun w hS => allP_mono (fun a h => ⟨wanted_free hg a, h⟩) _ _ (h w hS)) hr
/-- an operation whose result has a property; the world grows -/
theorem chainP_doG {o : Oper} {deps : List Nat} {r : List (Oper × List Nat)} {env : List (Option Tmp × SpecP)} {d : Option Tmp} (p : Value → World → Prop)
    (hp : ∀ (v : Value) (w w' : World), Below w.heap.size w w' → p v w → p v w') (hd : o.dst = d)
    (h : ∀ w, S w → allP w (fun a => Region.wanted o (yielded ops a.tmps) = true ∧ ∀ K' : Act → World → Prop, Shut (∀ v w', Below w.heap.size w w' → p v w' → K' (a.put d v) w') → o.wp P a w K' Q) (lookP env deps) a0)
    (hr : chainP P ops Q S K a0 ((d, .pre p) :: env) r) : chainP P ops Q S K a0 env ((o, deps) :: r) := by
  subst hd
  refine ⟨.pre p, hp, fun w hS => allP_mono (fun a ⟨h1, h2⟩ => ?_) _ _ (h w hS), hr⟩
  unfold stepP
  rw [if_pos h1]
  exact h2 _ (fun v w' hb hv => ⟨v, rfl, hv, hb⟩)
theorem chainP_do {o : Oper} {deps : List Nat} {r : List (Oper × List Nat)} {env : List (Option Tmp × SpecP)} {d : Option Tmp} (p : Value → World → Prop)
    (hp : ∀ (v : Value) (w w' : World), Below w.heap.size w w' → p v w → p v w') (hd : o.dst = d) (hg : o.guard = none)
    (h : ∀ w, S w → allP w (fun a => ∀ K' : Act → World → Prop, Shut (∀ v w', Below w.heap.size w w' → p v w' → K' (a.put d v) w') → o.wp P a w K' Q) (lookP env deps) a0)
    (hr : chainP P ops Q S K a0 ((d, .pre p) :: env) r) : chainP P ops Q S K a0 env ((o, deps) :: r) :=
  chainP_doG p hp hd (fun w hS => allP_mono (fun a h => ⟨wanted_free hg a, h⟩) _ _ (h w hS)) hr
def envP (ops : Array Oper) (sp : Nat → SpecP) (j : Nat) : Option Tmp × SpecP := (dstP ops j, sp j)
theorem lookP_map (sp : Nat → SpecP) (E : List Nat) : ∀ d : List Nat, lookP (E.map (envP ops sp)) d = (idxP E d).map (envP ops sp)
  | [] => rfl
  | k :: r => by
    unfold lookP idxP
    rw [List.getElem?_map]
    cases E[k]? with
    | none => exact lookP_map sp E r
    | some x => simp only [Option.map_some, List.map_cons]; rw [lookP_map sp E r]
theorem idxP_mem {E : List Nat} : ∀ (d : List Nat) (j : Nat), j ∈ idxP E d → j ∈ E
  | [], j, h => by simp [idxP] at h
  | k :: r, j, h => by
    unfold idxP at h
    cases hk : E[k]? with
    | none => rw [hk] at h; exact idxP_mem r j h
    | some x =>
      rw [hk] at h
      rcases List.mem_cons.1 h with rfl | h
      · exact List.mem_of_getElem? hk
      · exact idxP_mem r j h
theorem envP_congr {sp sp' : Nat → SpecP} {D : List Nat} (h : ∀ j ∈ D, sp j = sp' j) : D.map (envP ops sp) = D.map (envP ops sp') :=
  List.map_congr_left fun j hj => by unfold envP; rw [h j hj]
theorem chainP_spec {l : List Oper} (hl : ops = l.toArray) : ∀ (hd : List (Nat × List Nat)) (E : List Nat) (sp0 : Nat → SpecP), okP ops E hd = true → chainP P ops Q S K a0 (E.map (envP ops sp0)) (pickP l hd) →
    ∃ sp : Nat → SpecP, (∀ j ∈ E, sp j = sp0 j) ∧ (∀ x ∈ resP E hd, MonoP (sp x.1) ∧ ∃ o, ops[x.1]? = some o ∧ ∀ w, S w → allP w (stepP P ops Q o (sp x.1) w) (x.2.map (envP ops sp)) a0) ∧
      ∀ w, S w → allP w (fun a => K a w) (((hd.map (·.1)).reverse ++ E).map (envP ops sp)) a0
  | [], E, sp0, _, h => ⟨sp0, fun _ _ => rfl, fun x hx => by simp [resP] at hx, by simpa [pickP, chainP] using h⟩
  | (i, d) :: r, E, sp0, hB, h => by
    simp only [okP, Bool.and_eq_true, decide_eq_true_eq] at hB
    obtain ⟨⟨hi, hE, _⟩, hB⟩ := hB
    have hE' : i ∉ E := by simpa using hE
    have hio : ops[i]? = some ops[i] := Array.getElem?_eq_getElem hi
    have hli : l[i]? = some ops[i] := by rw [← hio, hl]; simp
    unfold pickP at h
    rw [hli] at h
    obtain ⟨s, hs, ho, hr⟩ := h
    have hsame : ∀ j ∈ E, (fun j => if j = i then s else sp0 j) j = sp0 j := fun j hj => by
      have : j ≠ i := fun e => hE' (e ▸ hj)
      simp [this]
    have he : ((ops[i].dst, s) :: E.map (envP ops sp0)) = (i :: E).map (envP ops (fun j => if j = i then s else sp0 j)) := by
      rw [List.map_cons, envP_congr hsame]
      congr 1
      unfold envP dstP
      rw [hio]; simp
    rw [he] at hr
    obtain ⟨sp, h1, h2, h3⟩ := chainP_spec hl r (i :: E) _ hB hr
    have hspE : ∀ j ∈ E, sp j = sp0 j := fun j hj => (h1 j (List.mem_cons_of_mem _ hj)).trans (hsame j hj)
    have hsi : sp i = s := by have := h1 i (by simp); simpa using this
    refine ⟨sp, hspE, fun x hx => ?_, by simpa using h3⟩
    unfold resP at hx
    rcases List.mem_cons.1 hx with rfl | hx
    · refine ⟨by show MonoP (sp i); rw [hsi]; exact hs, ops[i], hio, fun w hS => ?_⟩
      have := ho w hS
      rw [lookP_map] at this
      show allP w (stepP P ops Q ops[i] (sp i) w) ((idxP E d).map (envP ops sp)) a0
      rw [hsi, envP_congr (fun j hj => hspE j (idxP_mem d j hj))]
      exact this
    · exact h2 x hx
def canP (ops : Array Oper) (vals : Nat → Value) (D : List Nat) (a : Act) : Act := D.foldl (fun a j => a.put (dstP ops j) (vals j)) a
theorem allP_inst {sp : Nat → SpecP} {vals : Nat → Value} {w : World} {F : Act → Prop} : ∀ (D : List Nat) (a : Act), allP w F (D.map (envP ops sp)) a → (∀ j ∈ D, (sp j).holds (vals j) w) → F (canP ops vals D a)
  | [], a, h, _ => h
  | j :: r, a, h, hv => by
    have hj := hv j (by simp)
    have hr := fun k hk => hv k (List.mem_cons_of_mem _ hk)
    rw [List.map_cons] at h
    unfold envP at h
    cases hs : sp j with
    | val v =>
      rw [hs] at h hj
      have hj' : vals j = v := hj
      have := allP_inst r _ h hr
      rw [← hj'] at this
      exact this
    | pre p =>
      rw [hs] at h hj
      exact allP_inst r _ (h (vals j) hj) hr
theorem can_defers (vals : Nat → Value) : ∀ (D : List Nat) (a : Act), (canP ops vals D a).defers = a.defers
  | [], a => rfl
  | j :: r, a => by
    have := can_defers vals r (a.put (dstP ops j) (vals j))
    refine this.trans ?_
    cases dstP ops j <;> rfl
theorem put_get_ne {a : Act} {d : Option Tmp} {v : Value} {t : Nat} (h : d ≠ some t) : (a.put d v).tmps[t]? = a.tmps[t]? := by
  cases d with
  | none => rfl
  | some e =>
    have : e ≠ t := fun he => h (by rw [he])
    simp [Act.put, Array.getElem?_setIfInBounds_ne this]
theorem put_get_same {a : Act} {v : Value} {t : Nat} : (a.put (some t) v).tmps[t]? = (a.tmps[t]?).map (fun _ => v) := by
  show (a.tmps.setIfInBounds t v)[t]? = _
  rw [Array.getElem?_setIfInBounds]
  by_cases h : t < a.tmps.size
  · simp [h]
  · simp [h]
theorem can_old (vals : Nat → Value) {t : Nat} : ∀ (D : List Nat) (a : Act), (∀ j ∈ D, dstP ops j ≠ some t) → (canP ops vals D a).tmps[t]? = a.tmps[t]?
  | [], a, _ => rfl
  | j :: r, a, h => by
    have := can_old vals r (a.put (dstP ops j) (vals j)) (fun k hk => h k (List.mem_cons_of_mem _ hk))
    exact this.trans (put_get_ne (h j (by simp)))
theorem can_new (vals : Nat → Value) {t i : Nat} (hi : dstP ops i = some t) : ∀ (D : List Nat) (a : Act), i ∈ D → (∀ j ∈ D, dstP ops j = some t → j = i) → (canP ops vals D a).tmps[t]? = (a.tmps[t]?).map (fun _ => vals i)
  | [], a, h, _ => by simp at h
  | j :: r, a, h, hu => by
    have hu' : ∀ k ∈ r, dstP ops k = some t → k = i := fun k hk => hu k (List.mem_cons_of_mem _ hk)
    show (canP ops vals r (a.put (dstP ops j) (vals j))).tmps[t]? = _
    by_cases hji : j = i
    · subst hji
      by_cases hjr : j ∈ r
      · rw [can_new vals hi r _ hjr hu', hi, put_get_same]
        cases a.tmps[t]? <;> rfl
      · rw [can_old vals r _ (fun k hk he => hjr (hu' k hk he ▸ hk)), hi, put_get_same]
    · have hd : dstP ops j ≠ some t := fun he => hji (hu j (by simp) he)
      have hir : i ∈ r := by
        rcases List.mem_cons.1 h with h | h
        · exact absurd h.symm hji
        · exact h
      rw [can_new vals hi r _ hir hu', put_get_ne hd]
theorem can_size (vals : Nat → Value) : ∀ (D : List Nat) (a : Act), (canP ops vals D a).tmps.size = a.tmps.size
  | [], a => rfl
  | j :: r, a => by
    have := can_size vals r (a.put (dstP ops j) (vals j))
    refine this.trans ?_
    cases dstP ops j with
    | none => rfl
    | some d => simp [Act.put]
theorem put_inj {a : Act} {d : Option Tmp} {u v : Value} (hd : ∀ t, d = some t → t < a.tmps.size) (h : a.put d u = a.put d v) : d = none ∨ u = v := by
  cases d with
  | none => exact .inl rfl
  | some t =>
    refine .inr ?_
    have h1 : (a.put (some t) u).tmps[t]? = (a.put (some t) v).tmps[t]? := by rw [h]
    rw [put_get_same, put_get_same] at h1
    have := hd t rfl
    simpa [this] using h1
theorem upon_moveP {o : Oper} {a b : Act} {R : Value → World → Prop} {K' : Act → World → Prop} (hQ : ∀ c (a a' : Act) w, Q (.panic c) a w → Q (.panic c) a' w) (hd : ∀ t, o.dst = some t → t < a.tmps.size)
    (hK : ∀ v w', R v w' → K' (b.put o.dst v) w') : ∀ r, o.upon P a (fun a' w' => ∃ v, a' = a.put o.dst v ∧ R v w') Q r → o.upon P b K' Q r := by
  have key : ∀ (v : Value) (w' : World), (∃ u, a.put o.dst v = a.put o.dst u ∧ R u w') → K' (b.put o.dst v) w' := fun v w' ⟨u, he, hu⟩ => by
    rcases put_inj hd he with h | h
    · have := hK u w' hu
      rw [h] at this ⊢
      exact this
    · rw [h]; exact hK u w' hu
  intro r h
  cases r with
  | ok n w' =>
    cases n <;> simp only [Oper.upon] at h ⊢
    case value u => exact key _ _ h
    case skip => exact key _ _ h
    case defer d =>
      exfalso
      obtain ⟨v, he, _⟩ := h
      have h1 : (({ a with defers := d :: a.defers } : Act).put o.dst undef).defers = (a.put o.dst v).defers := by rw [he]
      have h2 : ∀ (x : Act) (u : Value), (x.put o.dst u).defers = x.defers := fun x u => by cases o.dst <;> rfl
      rw [h2, h2] at h1
      have := congrArg List.length h1
      simp at this
    case enter f args =>
      refine Calls.mono h fun e w'' he => ?_
      cases e with
      | returned u => exact key _ _ he
      | panicked c => exact hQ _ _ _ _ he
      | outgrown => exact he
    case row row args => exact Rows.mono h fun u w'' he => key _ _ he
  | halt x w' =>
    cases x <;> simp only [Oper.upon] at h ⊢
    case panic u => exact hQ _ _ _ _ h
theorem ready_some {listed : Array Bool} (hsz : listed.size = ops.size) : ∀ (hd : List (Nat × List Nat)) (E : List Nat), okP ops E hd = true → (∀ j ∈ E, listed.getD j false = true) → (∃ j ∈ hd.map (·.1), listed.getD j false = false) → ∃ i, i ∈ Region.ready .any ops listed
  | [], E, _, _, h => by simp at h
  | (i, d) :: r, E, hB, hE, h => by
    simp only [okP, Bool.and_eq_true, decide_eq_true_eq] at hB
    obtain ⟨⟨hi, _, ha⟩, hB⟩ := hB
    cases hl : listed.getD i false with
    | true =>
      refine ready_some hsz r (i :: E) hB (fun j hj => ?_) ?_
      · rcases List.mem_cons.1 hj with rfl | hj
        · exact hl
        · exact hE j hj
      · obtain ⟨j, hj, hjl⟩ := h
        rw [List.map_cons] at hj
        rcases List.mem_cons.1 hj with rfl | hj
        · rw [hl] at hjl; cases hjl
        · exact ⟨j, hj, hjl⟩
    | false =>
      refine ⟨i, mem_ready.2 ⟨?_, ops[i], Array.getElem?_eq_getElem hi, fun e he hb => ?_⟩⟩
      · have : i < listed.size := by omega
        simp [this] at hl ⊢
        exact hl
      · refine hE _ ?_
        have h1 : e.on ∈ afters ops i := by
          unfold afters
          rw [Array.getElem?_eq_getElem hi]
          exact List.mem_map.2 ⟨e, List.mem_filter.2 ⟨by simpa using he, hb⟩, rfl⟩
        have := List.all_eq_true.1 ha _ h1
        simpa using this
theorem okP_nodup : ∀ (hd : List (Nat × List Nat)) (E : List Nat), okP ops E hd = true → (hd.map (·.1)).Nodup ∧ (∀ j ∈ hd.map (·.1), j ∉ E) ∧ ∀ j ∈ hd.map (·.1), j < ops.size
  | [], E, _ => ⟨List.nodup_nil, fun j hj => by simp at hj, fun j hj => by simp at hj⟩
  | (i, d) :: r, E, hB => by
    simp only [okP, Bool.and_eq_true, decide_eq_true_eq] at hB
    obtain ⟨⟨hi, hE, _⟩, hB⟩ := hB
    have hE' : i ∉ E := by simpa using hE
    obtain ⟨h1, h2, h3⟩ := okP_nodup r (i :: E) hB
    refine ⟨List.nodup_cons.2 ⟨fun hm => h2 i hm (by simp), h1⟩, fun j hj => ?_, fun j hj => ?_⟩
    · rw [List.map_cons] at hj
      rcases List.mem_cons.1 hj with rfl | hj
      · exact hE'
      · exact fun he => h2 j hj (List.mem_cons_of_mem _ he)
    · rw [List.map_cons] at hj
      rcases List.mem_cons.1 hj with rfl | hj
      · exact hi
      · exact h3 j hj
theorem resP_fst : ∀ (hd : List (Nat × List Nat)) (E : List Nat), ∀ j ∈ hd.map (·.1), ∃ D, (j, D) ∈ resP E hd ∧ ∀ k ∈ D, k ∈ E ∨ k ∈ hd.map (·.1)
  | [], E, j, h => by simp at h
  | (i, d) :: r, E, j, h => by
    rw [List.map_cons] at h
    rcases List.mem_cons.1 h with rfl | h
    · exact ⟨idxP E d, by simp [resP], fun k hk => .inl (idxP_mem d k hk)⟩
    · obtain ⟨D, h1, h2⟩ := resP_fst r (i :: E) j h
      refine ⟨D, by simp [resP, h1], fun k hk => ?_⟩
      rcases h2 k hk with hk | hk
      · rcases List.mem_cons.1 hk with rfl | hk
        · exact .inr (by simp)
        · exact .inl hk
      · exact .inr (by rw [List.map_cons]; exact List.mem_cons_of_mem _ hk)
/-- what stands while a region runs -/
structure InvP (ops : Array Oper) (S : World → Prop) (H : List Nat) (sp : Nat → SpecP) (a0 : Act) (vals : Nat → Value) (listed : Array Bool) (a : Act) (w : World) : Prop where
  inv : InvT ops (fun i => H.contains i) listed
  s : S w
  rest : ∀ j, j ∉ H → listed.getD j false = false
  defers : a.defers = a0.defers
  hold : ∀ j ∈ H, listed.getD j false = true → (sp j).holds (vals j) w
  put : ∀ j ∈ H, listed.getD j false = true → ∀ t, dstP ops j = some t → a.tmps[t]? = (a0.tmps[t]?).map (fun _ => vals j)
  old : ∀ t, (∀ j ∈ H, listed.getD j false = true → dstP ops j ≠ some t) → a.tmps[t]? = a0.tmps[t]?
theorem wpAnyT_of_P {F : Nat} {hd : List (Nat × List Nat)} {tl : List Nat} {sp : Nat → SpecP} (hsel : Region.noSelect ops = true) (hQ : ∀ c (a a' : Act) w, Q (.panic c) a w → Q (.panic c) a' w)
    (hmo : ∀ w w', S w → Below w.heap.size w w' → S w')
    (hT : ∀ k ∈ tl, (hd.map (·.1)).contains k = false) (hN : ∀ k, k < ops.size → (hd.map (·.1)).contains k = false → ∀ i ∈ hd.map (·.1), regNeeds ops F k i = true)
    (hok : okP ops [] hd = true) (hsee : ∀ x ∈ resP [] hd, seesP ops F (hd.map (·.1)) x.1 x.2 = true) (hap : apartP ops (hd.map (·.1)) = true) (hfin : seqI ops tl (heldP ops (hd.map (·.1))) = true)
    (hsz : ∀ i ∈ hd.map (·.1), ∀ t, dstP ops i = some t → t < a0.tmps.size)
    (hob : ∀ x ∈ resP [] hd, MonoP (sp x.1) ∧ ∃ o, ops[x.1]? = some o ∧ ∀ w, S w → allP w (stepP P ops Q o (sp x.1) w) (x.2.map (envP ops sp)) a0)
    (hK : ∀ w, S w → allP w (fun a => K a w) (((hd.map (fun x : Nat × List Nat => x.1)).reverse ++ []).map (envP ops sp)) a0) :
    ∀ (f : Nat) (R : List Nat) (vals : Nat → Value) (listed : Array Bool) (a : Act) (w : World), R.Nodup → R.length = f → (∀ j, j ∈ R ↔ j ∈ hd.map (·.1) ∧ listed.getD j false = false) →
      InvP ops S (hd.map (·.1)) sp a0 vals listed a w → wpAnyT P ops Q (fun _ => True) (fun i => (hd.map (·.1)).contains i) (fun listed' a' w' => seqI ops tl listed' = true ∧ K a' w') f listed a w := by
  obtain ⟨hnd, _, hlt⟩ := okP_nodup hd [] hok
  have hap' : ∀ i ∈ hd.map (·.1), ∀ j ∈ hd.map (·.1), ∀ t, dstP ops i = some t → dstP ops j = some t → i = j := fun i hi j hj t h1 h2 => by
    have := List.all_eq_true.1 (List.all_eq_true.1 hap i hi) j hj
    rw [h1, h2] at this
    simpa using this
  intro f
  induction f with
  | zero =>
    intro R vals listed a w _ hR hmem I
    have hall : ∀ j ∈ hd.map (·.1), listed.getD j false = true := fun j hj => by
      cases h : listed.getD j false with
      | true => rfl
      | false =>
        have := (hmem j).2 ⟨hj, h⟩
        rw [List.length_eq_zero_iff.1 hR] at this
        cases this
    have hli : listed = heldP ops (hd.map (·.1)) := by
      refine Array.ext_getElem? fun j => ?_
      have hs := I.inv.size
      by_cases hj : j < ops.size
      · have hjl : j < listed.size := by omega
        have h1 : listed.getD j false = (hd.map (·.1)).contains j := by
          by_cases hm : j ∈ hd.map (·.1)
          · rw [hall j hm]; simpa using hm
          · rw [I.rest j hm]; symm; simpa using hm
        have h2 : listed[j]? = some (listed.getD j false) := by simp [hjl]
        rw [h2, h1]
        simp [heldP, hj]
      · have hjl : ¬ j < listed.size := by omega
        simp [heldP, hj, hjl]
    refine ⟨by rw [hli]; exact hfin, ?_⟩
    have h1 := allP_inst (vals := vals) _ _ (hK w I.s) (fun j hj => I.hold j (by simpa using hj) (hall j (by simpa using hj)))
    have he : a = canP ops vals ((hd.map (·.1)).reverse ++ []) a0 := by
      have ht : a.tmps = (canP ops vals ((hd.map (·.1)).reverse ++ []) a0).tmps := by
        refine Array.ext_getElem? fun t => ?_
        by_cases hw : ∃ j ∈ hd.map (·.1), dstP ops j = some t
        · obtain ⟨j, hj, hjt⟩ := hw
          rw [I.put j hj (hall j hj) t hjt, can_new vals hjt _ _ (by simpa using hj) (fun k hk hkt => hap' k (by simpa using hk) j hj t hkt hjt)]
        · rw [I.old t (fun j hj _ he => hw ⟨j, hj, he⟩), can_old vals _ _ (fun j hj he => hw ⟨j, by simpa using hj, he⟩)]
      have hdf := I.defers
      have hdc := can_defers (ops := ops) vals ((hd.map (·.1)).reverse ++ []) a0
      cases a
      generalize canP ops vals ((hd.map (·.1)).reverse ++ []) a0 = c at *
      cases c
      simp only at ht hdf hdc
      rw [ht, hdf, hdc]
    rw [he]
    exact h1
  | succ f ih =>
    intro R vals listed a w hRn hR hmem I
    have hne : ∃ j ∈ hd.map (·.1), listed.getD j false = false := by
      cases R with
      | nil => cases hR
      | cons j r => exact ⟨j, (hmem j).1 (by simp)⟩
    obtain ⟨i0, hi0⟩ := ready_some I.inv.size hd [] hok (fun j hj => by cases hj) hne
    refine ⟨fun h => (by rw [h] at hi0; cases hi0), fun i hi => ?_⟩
    obtain ⟨hun, oi, hoi, haf⟩ := mem_ready.1 hi
    have hunl := getD_bothT hun
    have hiH : i ∈ hd.map (·.1) := by
      by_cases hc : (hd.map (·.1)).contains i = true
      · simpa using hc
      · exfalso
        obtain ⟨j, hj, hjl⟩ := hne
        have h1 := hN i (Array.getElem?_eq_some_iff.1 hoi).1 (by simpa using hc) j hj
        have h2 := needs_listed I.inv F i j h1 (fun o ho e he hb => by
          have : o = oi := Option.some.inj (ho.symm.trans hoi)
          subst this; exact haf e he hb)
        rw [h2] at hjl; cases hjl
    refine ⟨by simpa using hiH, ?_⟩
    obtain ⟨D, hD, _⟩ := resP_fst hd [] i hiH
    obtain ⟨hmon, o, ho, hstep⟩ := hob (i, D) hD
    have : o = oi := Option.some.inj (ho.symm.trans hoi)
    subst this
    have hs := hsee (i, D) hD
    unfold seesP at hs
    simp only [ho, Bool.and_eq_true] at hs
    have hDl : ∀ j ∈ D, listed.getD j false = true := fun j hj => needs_listed I.inv F i j (List.all_eq_true.1 hs.1 j hj) (fun o' ho' e he hb => by
      have : o' = o := Option.some.inj (ho'.symm.trans hoi)
      subst this; exact haf e he hb)
    have hDH : ∀ j ∈ D, j ∈ hd.map (·.1) := fun j hj => by
      by_cases hc : j ∈ hd.map (·.1)
      · exact hc
      · have h1 := I.rest j hc; rw [hDl j hj] at h1; cases h1
    have hst := allP_inst (vals := vals) D a0 (hstep w I.s) (fun j hj => I.hold j (hDH j hj) (hDl j hj))
    have hlook : ∀ t ∈ o.looksAt ops, a.tmps[t]? = (canP ops vals D a0).tmps[t]? := fun t ht => by
      have h1 := List.all_eq_true.1 hs.2 t ht
      by_cases hw : ∃ j ∈ hd.map (·.1), listed.getD j false = true ∧ dstP ops j = some t
      · obtain ⟨j, hj, hjl, hjt⟩ := hw
        have h2 := List.all_eq_true.1 h1 j hj
        rw [hjt] at h2
        simp only [beq_self_eq_true, Bool.not_true, Bool.false_or, Bool.or_eq_true] at h2
        have hjD : j ∈ D := by
          rcases h2 with h2 | h2 | h2
          · simpa using h2
          · have : j = i := by simpa using h2
            subst this; rw [hunl] at hjl; cases hjl
          · have hjo : ∃ oj, ops[j]? = some oj := by
              unfold dstP at hjt
              cases hh : ops[j]? with
              | none => rw [hh] at hjt; cases hjt
              | some oj => exact ⟨oj, rfl⟩
            have h3 := needs_listed I.inv F j i h2 (fun oj hoj e he hb => I.inv.closed j oj hoj hjl e he hb)
            rw [hunl] at h3; cases h3
        rw [I.put j hj hjl t hjt, can_new vals hjt D a0 hjD (fun k hk hkt => hap' k (hDH k hk) j hj t hkt hjt)]
      · rw [I.old t (fun j hj hjl he => hw ⟨j, hj, hjl, he⟩), can_old vals D a0 (fun j hj he => hw ⟨j, hDH j hj, hDl j hj, he⟩)]
    have hexec : execOp (canP ops vals D a0).eval o = execOp a.eval o := execOp_congr o (fun cs b => Region.noSelect_spec hsel i o cs b hoi) fun x hx => by
      cases x with
      | tmp t =>
        have := hlook t (List.mem_append_left _ (List.mem_filterMap.2 ⟨.tmp t, by simpa using hx, rfl⟩))
        simp only [Act.eval, Array.getD_eq_getD_getElem?]
        rw [this]
      | _ => rfl
    have hwant : Region.wanted o (yielded ops (canP ops vals D a0).tmps) = Region.wanted o (yielded ops a.tmps) := by
      unfold Region.wanted
      cases hg : o.guard with
      | none => rfl
      | some gw =>
        obtain ⟨g, want⟩ := gw
        have hy : yielded ops (canP ops vals D a0).tmps g = yielded ops a.tmps g := by
          unfold yielded
          cases ht : (ops[g]?).bind (·.dst) with
          | none => rfl
          | some t =>
            have := hlook t (by simp [Oper.looksAt, hg, ht])
            simp only [Option.bind_some]
            rw [this]
        simp only [hy]
    have hdst : ∀ t, o.dst = some t → dstP ops i = some t := fun t h => by unfold dstP; rw [ho]; exact h
    have hdst' : dstP ops i = o.dst := by unfold dstP; rw [ho]; rfl
    -- what stands behind it
    have next : ∀ (v : Value) (w' : World), (sp i).holds v w' → Below w.heap.size w w' →
        (fun _ => True) w' ∧ wpAnyT P ops Q (fun _ => True) (fun i => (hd.map (·.1)).contains i) (fun listed' a' w' => seqI ops tl listed' = true ∧ K a' w') f (listed.setIfInBounds i true) (a.put o.dst v) w' := by
      intro v w' hv hb
      refine ⟨trivial, ih (R.erase i) (fun j => if j = i then v else vals j) _ _ w' (hRn.erase i) ?_ (fun j => ?_) ⟨I.inv.set hi, hmo w w' I.s hb, fun j hj => ?_, ?_, fun j hj hjl => ?_, fun j hj hjl t hjt => ?_, fun t ht => ?_⟩⟩
      · rw [List.length_erase_of_mem ((hmem i).2 ⟨hiH, hunl⟩), hR]; rfl
      · rw [hRn.mem_erase_iff, hmem j]
        constructor
        · rintro ⟨hji, h1, h2⟩
          exact ⟨h1, by rw [getD_set_ne false (Ne.symm hji)]; exact h2⟩
        · rintro ⟨h1, h2⟩
          by_cases hji : j = i
          · subst hji
            have hl : j < listed.size := by have := I.inv.size; have := hlt j hiH; omega
            simp [hl] at h2
          · exact ⟨hji, h1, by rw [getD_set_ne false (Ne.symm hji)] at h2; exact h2⟩
      · have hji : j ≠ i := fun e => hj (e ▸ hiH)
        rw [getD_set_ne false (Ne.symm hji)]; exact I.rest j hj
      · rw [← I.defers]
        cases o.dst <;> rfl
      · by_cases hji : j = i
        · subst hji; simpa using hv
        · simp only [hji, if_false]
          rw [getD_set_ne false (Ne.symm hji)] at hjl
          have hmj : MonoP (sp j) := by
            obtain ⟨D', hD', _⟩ := resP_fst hd [] j hj
            exact (hob (j, D') hD').1
          exact hmj _ w w' hb (I.hold j hj hjl)
      · by_cases hji : j = i
        · subst hji
          simp only [if_true]
          rw [hdst'] at hjt
          rw [hjt, put_get_same]
          have := I.old t (fun k hk hkl hkt => by
            have := hap' k hk j hj t hkt (by rw [hdst']; exact hjt)
            subst this; rw [hunl] at hkl; cases hkl)
          rw [this]
        · simp only [hji, if_false]
          rw [getD_set_ne false (Ne.symm hji)] at hjl
          have hdi : o.dst ≠ some t := fun e => hji (hap' j hj i hiH t hjt (hdst t e))
          rw [put_get_ne hdi]
          exact I.put j hj hjl t hjt
      · have hdi : o.dst ≠ some t := fun e => ht i hiH (by
          have hl : i < listed.size := by have := I.inv.size; have := hlt i hiH; omega
          simp [hl]) (hdst t e)
        rw [put_get_ne hdi]
        refine I.old t fun j hj hjl => ht j hj ?_
        exact getD_set_true hjl
    unfold wpOp
    simp only [ho]
    unfold stepP at hst
    rw [hwant] at hst
    split
    · rename_i hwt
      rw [if_pos hwt] at hst
      refine .inl ?_
      unfold Oper.wp at hst ⊢
      rw [hexec] at hst
      exact upon_moveP (R := fun v w' => (sp i).holds v w' ∧ Below w.heap.size w w') hQ (fun t ht => by rw [can_size]; exact hsz i hiH t (hdst t ht)) (fun v w' h => next v w' h.1 h.2) _ hst
    · rename_i hwt
      rw [if_neg hwt] at hst
      exact next undef w hst (Below.refl _ _)
/-- each operation by itself serves for all orders -/
theorem wp_region_P {id : Nat} {a : Act} {w : World} {l : List Oper} (C : World → Prop) (F : Nat) (hd : List (Nat × List Nat)) (tl : List Nat) (hm : P.follows .mixedOrders = true) (hB : checkP l.toArray F hd tl = true) (hsz : (hd.all fun x => match dstP l.toArray x.1 with | some d => decide (d < a.tmps.size) | none => true) = true) (hn : l.length = hd.length + tl.length)
    (hQ : ∀ c (a a' : Act) w, Q (.panic c) a w → Q (.panic c) a' w) (hC : ∀ w', Below w.heap.size w w' → C w')
    (h : chainP P l.toArray Q (fun w' => Below w.heap.size w w' ∧ C w') (fun a' w' => wpList P l.toArray Q (pickN l tl) a' w') a [] (pickP l hd)) : (Code.region id l.toArray true).wp P Q a w := by
  simp only [checkP, Bool.and_eq_true] at hB
  obtain ⟨hsel, hT, hN, hok, hsee, hap, hfin⟩ := hB
  obtain ⟨sp, _, h2, h3⟩ := chainP_spec (ops := l.toArray) rfl hd [] (fun _ => .val undef) hok (by simpa using h)
  obtain ⟨hnd, _, hlt⟩ := okP_nodup hd [] hok
  have hrep : ∀ j, (Array.replicate l.toArray.size false).getD j false = false := fun j => by
    rw [Array.getD_eq_getD_getElem?, Array.getElem?_replicate]
    by_cases hj : j < l.toArray.size
    · rw [if_pos hj]; rfl
    · rw [if_neg hj]; rfl
  refine wp_region_any hm ?_
  have H := wpAnyT_of_P (P := P) (Q := Q) (S := fun w' => Below w.heap.size w w' ∧ C w') (K := fun a' w' => wpList P l.toArray Q (pickN l tl) a' w') (a0 := a) (F := F) (hd := hd) (tl := tl) (sp := sp) hsel hQ
    (fun w1 w2 h1 hb => ⟨h1.1.trans (hb.mono h1.1.size), hC _ (h1.1.trans (hb.mono h1.1.size))⟩)
    (fun k hk => by have := List.all_eq_true.1 hT k hk; simpa using this)
    (fun k hk hc i hi => by
      have := List.all_eq_true.1 hN k (List.mem_range.2 hk)
      rw [hc, Bool.false_or] at this
      exact List.all_eq_true.1 this i hi)
    hok (fun x hx => List.all_eq_true.1 hsee x hx) hap hfin
    (fun i hi t ht => by
      obtain ⟨x, hx, rfl⟩ := List.mem_map.1 hi
      have := List.all_eq_true.1 hsz x hx
      rw [ht] at this
      simpa using this) h2 h3
    hd.length (hd.map (·.1)) (fun _ => undef) (Array.replicate l.toArray.size false) a w.drew hnd (by simp) (fun j => ⟨fun h => ⟨h, hrep j⟩, fun h => h.1⟩)
    ⟨⟨by simp, fun j oj _ hl => by rw [hrep j] at hl; cases hl⟩, ⟨(Below.refl _ _).drew, hC _ (Below.refl _ _).drew⟩, fun j _ => hrep j, rfl, fun j _ hl => (by rw [hrep j] at hl; cases hl), fun j _ hl => (by rw [hrep j] at hl; cases hl), fun t _ => rfl⟩
  have H2 := wpAny_of_T (g := tl.length) (fun listed' a' w' hL => wpAny_of_seqI (P := P) (Q := Q) (l := l) rfl tl listed' a' w' hL.1 hL.2) hd.length _ a w.drew H
  have e : l.toArray.size = hd.length + tl.length := by simpa using hn
  rw [e]
  rw [e] at H2
  exact H2
end
attribute [irreducible] chainP
end Go.Proofs.Ytacpnphfopmofaa
namespace Go.Proofs.Ytacpnphfopmofaa
open Go.RowKit
set_option linter.unusedSimpArgs false
set_option linter.unusedVariables false

theorem small_64 {x : Int} (h : Small x) : I64 x := ⟨by have := h.1; omega, by have := h.2; omega⟩
theorem powE_small {gr : GroupD} (hg : OkG gr) (x e : Int) : Small (powE gr x e) := by
  have := powE_bd hg x e; have := hg.p2; exact ⟨by omega, by omega⟩
theorem AllSmall.nil : AllSmall [] := fun x hx => by cases hx
theorem AllSmall.cons {x : Int} {l : List Int} (h : Small x) (h' : AllSmall l) : AllSmall (x :: l) := fun y hy => by
  rcases List.mem_cons.1 hy with rfl | hy
  · exact h
  · exact h' y hy
end Go.Proofs.Ytacpnphfopmofaa
namespace Go.Proofs.Ytacpnphfopmofaa
open Go.RowKit
set_option linter.unusedSimpArgs false
set_option linter.unusedVariables false

/-- the k-th power -/
def yE (gr : GroupD) (b : Int) (k : Nat) : Int := powM b k gr.p
theorem yE_add (gr : GroupD) (b : Int) (a d : Nat) (h : yE gr b d = 1) : yE gr b (a + d) = yE gr b a := by
  have h' : b ^ d % gr.p = 1 := h
  show b ^ (a + d) % gr.p = b ^ a % gr.p
  rw [Int.pow_add, ← emod_mul_right, h', Int.mul_one]
theorem yE_mod (gr : GroupD) (b : Int) {d : Nat} (hd : 0 < d) (h : yE gr b d = 1) (j : Nat) : yE gr b j = yE gr b (j % d) := by
  induction j using Nat.strongRecOn with
  | ind j ih =>
    rcases Nat.lt_or_ge j d with hlt | hge
    · rw [Nat.mod_eq_of_lt hlt]
    · have e : j = (j - d) + d := by omega
      have h1 := ih (j - d) (by omega)
      rw [Nat.mod_eq_sub_mod hge, ← h1, ← yE_add gr b (j - d) d h, ← e]
theorem elB_pow {gr : GroupD} {x : Int} (h : elB gr x = true) : powM x gr.q gr.p = 1 := by
  unfold elB at h; simp only [Bool.and_eq_true, beq_iff_eq] at h; exact h.2
end Go.Proofs.Ytacpnphfopmofaa
