/- A region that draws its order, walked in ONE order: reads may come up later (they yield the same in every world that meets S); the operations that change the world wait for one another; the last ones wait for all. No program is named here. -/
import Derived.Test.YtbcaknmpbkapnaaRows
import Derived.OrdersHeld
import Derived.Deep.RegionHeld
import Derived.Still
import Derived.WalkKit
namespace Go.Proofs.Ytbcaknmpbkapnaa
open Go.RowKit
set_option linter.unusedSimpArgs false
set_option linter.unusedVariables false

def afters (ops : Array Oper) (t : Nat) : List Nat := match ops[t]? with
  | some o => (o.after.toList.filter (Region.binds .any)).map (·.on)
  | none => []
/-- what stands ahead of some operations -/
def closeW (ops : Array Oper) : Nat → List Nat → List Nat → List Nat
  | 0, seen, _ => seen
  | _ + 1, seen, [] => seen
  | f + 1, seen, x :: r => if seen.contains x then closeW ops f seen r else closeW ops f (x :: seen) (afters ops x ++ r)
def regNeeds (ops : Array Oper) (F t i : Nat) : Bool := (closeW ops (F * 40) [] (afters ops t)).contains i
def seqI (ops : Array Oper) : List Nat → Array Bool → Bool
  | [], listed => (Region.ready .any ops listed).isEmpty
  | k :: r, listed => decide (Region.ready .any ops listed = [k]) && seqI ops r (listed.setIfInBounds k true)
def lexT (ops : Array Oper) (tl : List Nat) : List (Bool × Nat) → Array Bool → Bool
  | [], listed => seqI ops tl listed
  | (b, i) :: r, listed => (Region.ready .any ops listed).contains i && (if b then Region.free .any ops listed i else decide (Region.ready .any ops listed = [i])) && lexT ops tl r (listed.setIfInBounds i true)
def inHd (hd : List (Bool × Nat)) (i : Nat) : Bool := hd.any fun x => x.2 == i
/-- the order may serve for all orders -/
def takeB (ops : Array Oper) (F : Nat) (hd : List (Bool × Nat)) (tl : List Nat) : Bool :=
  Region.noSelect ops && (tl.all fun t => !inHd hd t) && ((List.range ops.size).all fun t => inHd hd t || hd.all fun x => regNeeds ops F t x.2) && lexT ops tl hd (Array.replicate ops.size false)
def pickL (l : List Oper) : List (Bool × Nat) → List (Bool × Oper)
  | [] => []
  | (b, i) :: r => match l[i]? with
    | some o => (b, o) :: pickL l r
    | none => pickL l r
def pickN (l : List Oper) : List Nat → List Oper
  | [] => []
  | i :: r => match l[i]? with
    | some o => o :: pickN l r
    | none => pickN l r
section
variable {P : Program} {ops : Array Oper} {Q : Exit → Act → World → Prop} {S : World → Prop}
/-- the walk: (true, o): a read; (false, o): it changes the world, S anew behind it -/
def wpTake (P : Program) (ops : Array Oper) (Q : Exit → Act → World → Prop) (S : World → Prop) (K : Act → World → Prop) : List (Bool × Oper) → Act → World → Prop
  | [], a, w => K a w
  | (true, o) :: rest, a, w => if Region.wanted o (yielded ops a.tmps) then ∃ v, (∀ w', S w' → (execOp a.eval o).run P w' = .ok (.value v) w') ∧ wpTake P ops Q S K rest (a.put o.dst v) w else wpTake P ops Q S K rest (a.put o.dst undef) w
  | (false, o) :: rest, a, w => if Region.wanted o (yielded ops a.tmps) then o.wp P a w (fun a' w' => S w' ∧ wpTake P ops Q S K rest a' w') Q ∨ (o.asks P a w ∧ LetsOut Q) else S w ∧ wpTake P ops Q S K rest (a.put o.dst undef) w
theorem wpTake_nil {K : Act → World → Prop} {a : Act} {w : World} (h : K a w) : wpTake P ops Q S K [] a w := h
theorem wpTake_read {K : Act → World → Prop} {o : Oper} {rest : List (Bool × Oper)} {a : Act} {w : World} (v : Value) (hw : Region.wanted o (yielded ops a.tmps) = true)
    (hy : ∀ w', S w' → (execOp a.eval o).run P w' = .ok (.value v) w') (h : wpTake P ops Q S K rest (a.put o.dst v) w) : wpTake P ops Q S K ((true, o) :: rest) a w := by
  unfold wpTake; rw [if_pos hw]; exact ⟨v, hy, h⟩
theorem wpTake_do {K : Act → World → Prop} {o : Oper} {rest : List (Bool × Oper)} {a : Act} {w : World} (hw : Region.wanted o (yielded ops a.tmps) = true)
    (h : ∀ K' : Act → World → Prop, Shut (∀ a w, S w → (S w → wpTake P ops Q S K rest a w) → K' a w) → o.wp P a w K' Q) : wpTake P ops Q S K ((false, o) :: rest) a w := by
  unfold wpTake; rw [if_pos hw]; exact .inl (h _ (fun a w hS hT => ⟨hS, hT hS⟩))
/-- the operations of the head, in whatever order -/
def wpAnyT (P : Program) (ops : Array Oper) (Q : Exit → Act → World → Prop) (S : World → Prop) (Hd : Nat → Bool) (L : Array Bool → Act → World → Prop) : Nat → Array Bool → Act → World → Prop
  | 0, listed, a, w => L listed a w
  | f + 1, listed, a, w => Region.ready .any ops listed ≠ [] ∧ ∀ i ∈ Region.ready .any ops listed, Hd i = true ∧ wpOp P ops Q i (fun a' w' => S w' ∧ wpAnyT P ops Q S Hd L f (listed.setIfInBounds i true) a' w') a w
theorem wpAny_of_T {Hd : Nat → Bool} {g : Nat} {L : Array Bool → Act → World → Prop} (hL : ∀ listed a w, L listed a w → wpAny P .any ops Q g listed a w) :
    ∀ (f : Nat) (listed : Array Bool) (a : Act) (w : World), wpAnyT P ops Q S Hd L f listed a w → wpAny P .any ops Q (f + g) listed a w
  | 0, _, _, _, h => by rw [Nat.zero_add]; exact hL _ _ _ h
  | f + 1, listed, a, w, h => by
    rw [show f + 1 + g = (f + g) + 1 by omega]
    exact ⟨fun h0 => absurd h0 h.1, fun i hi => wpOp_mono (fun a' w' h' => wpAny_of_T hL f _ a' w' h'.2) (h.2 i hi).2⟩
structure InvT (ops : Array Oper) (Hd : Nat → Bool) (listed : Array Bool) : Prop where
  size : listed.size = ops.size
  closed : ∀ j oj, ops[j]? = some oj → listed.getD j false = true → ∀ e ∈ oj.after, Region.binds .any e = true → listed.getD e.on false = true
theorem getD_bothT {listed : Array Bool} {i : Nat} (h : listed.getD i true = false) : listed.getD i false = false := by
  rcases Nat.lt_or_ge i listed.size with h' | h'
  · simp [h'] at h ⊢; exact h
  · simp [Array.getElem?_eq_none h'] at h
theorem InvT.set {Hd : Nat → Bool} {listed : Array Bool} {i : Nat} (inv : InvT ops Hd listed) (hi : i ∈ Region.ready .any ops listed) : InvT ops Hd (listed.setIfInBounds i true) := by
  obtain ⟨_, oi, hoi, hall⟩ := mem_ready.1 hi
  refine ⟨by simp [inv.size], fun j oj hj hl e he hb => ?_⟩
  by_cases hij : i = j
  · subst hij
    have : oj = oi := Option.some.inj (hj.symm.trans hoi)
    subst this
    exact getD_set_true (hall e he hb)
  · rw [getD_set_ne false hij] at hl
    exact getD_set_true (inv.closed j oj hj hl e he hb)
theorem afters_listed {Hd : Nat → Bool} {listed : Array Bool} (inv : InvT ops Hd listed) {x : Nat} (h : listed.getD x false = true) : ∀ y ∈ afters ops x, listed.getD y false = true := by
  intro y hy
  unfold afters at hy
  cases ho : ops[x]? with
  | none => rw [ho] at hy; simp at hy
  | some o =>
    rw [ho] at hy
    obtain ⟨e, he, rfl⟩ := List.mem_map.1 hy
    obtain ⟨he1, he2⟩ := List.mem_filter.1 he
    exact inv.closed x o ho h e (by simpa using he1) he2
theorem closeW_listed {Hd : Nat → Bool} {listed : Array Bool} (inv : InvT ops Hd listed) : ∀ (f : Nat) (seen work : List Nat), (∀ y ∈ seen, listed.getD y false = true) → (∀ y ∈ work, listed.getD y false = true) → ∀ y ∈ closeW ops f seen work, listed.getD y false = true := by
  intro f
  induction f with
  | zero => intro seen work h1 _ y hy; exact h1 y hy
  | succ f ih =>
    intro seen work h1 h2 y hy
    cases work with
    | nil => exact h1 y hy
    | cons x r =>
      unfold closeW at hy
      split at hy
      · exact ih seen r h1 (fun z hz => h2 z (List.mem_cons_of_mem _ hz)) y hy
      · refine ih (x :: seen) (afters ops x ++ r) (fun z hz => ?_) (fun z hz => ?_) y hy
        · rcases List.mem_cons.1 hz with rfl | hz
          · exact h2 z (by simp)
          · exact h1 z hz
        · rcases List.mem_append.1 hz with hz | hz
          · exact afters_listed inv (h2 x (by simp)) z hz
          · exact h2 z (List.mem_cons_of_mem _ hz)
theorem needs_listed {Hd : Nat → Bool} {listed : Array Bool} (inv : InvT ops Hd listed) : ∀ (F t i : Nat), regNeeds ops F t i = true → (∀ o, ops[t]? = some o → ∀ e ∈ o.after, Region.binds .any e = true → listed.getD e.on false = true) → listed.getD i false = true := by
  intro F t i h hd
  unfold regNeeds at h
  refine closeW_listed inv _ [] _ (fun y hy => by simp at hy) (fun y hy => ?_) i (by simpa using h)
  unfold afters at hy
  cases ho : ops[t]? with
  | none => rw [ho] at hy; simp at hy
  | some o =>
    rw [ho] at hy
    obtain ⟨e, he, rfl⟩ := List.mem_map.1 hy
    obtain ⟨he1, he2⟩ := List.mem_filter.1 he
    exact hd o ho e (by simpa using he1) he2
theorem blockedT {Hd : Nat → Bool} {listed : Array Bool} {i F : Nat} (inv : InvT ops Hd listed) (hn : ∀ t, t < ops.size → Hd t = false → regNeeds ops F t i = true) (hun : listed.getD i true = false) :
    ∀ j ∈ Region.ready .any ops listed, Hd j = true := by
  intro j hj
  cases hh : Hd j with
  | true => rfl
  | false =>
    obtain ⟨_, oj, hoj, hall⟩ := mem_ready.1 hj
    have h1 := needs_listed inv F j i (hn j (Array.getElem?_eq_some_iff.1 hoj).1 hh) (fun o ho e he hb => by
      have : o = oj := Option.some.inj (ho.symm.trans hoj)
      subst this; exact hall e he hb)
    rw [getD_bothT hun] at h1; cases h1
theorem wpAnyT_first {Hd : Nat → Bool} {i F : Nat} {oi : Oper} {v : Value} {L : Array Bool → Act → World → Prop} (hi : ops[i]? = some oi) (hsel : ∀ (j : Nat) (o : Oper) cs b, ops[j]? = some o → o.op ≠ .select cs b)
    (hQ : ∀ c a w, Q (.panic c) (a.put oi.dst v) w → Q (.panic c) a w) (hn : ∀ t, t < ops.size → Hd t = false → regNeeds ops F t i = true) (hHd : Hd i = true)
    (hdone : ∀ listed a w, L listed a w → ∀ j ∈ Region.ready .any ops listed, Hd j = false) :
    ∀ (f : Nat) (listed : Array Bool) (a : Act) (w : World), InvT ops Hd listed →
      (∀ j oj, ops[j]? = some oj → j ≠ i → listed.getD j true = false → (∀ e ∈ oj.after, Region.binds .any e = true → e.on ≠ i) → oi.apart ops oj = true) →
      i ∈ Region.ready .any ops listed → YieldsIf P ops S oi v a → S w →
      wpAnyT P ops Q S Hd L f (listed.setIfInBounds i true) (a.put oi.dst v) w → wpAnyT P ops Q S Hd L (f + 1) listed a w := by
  intro f
  induction f with
  | zero =>
    intro listed a w inv _ hr hy hS H
    have hun := (mem_ready.1 hr).1
    refine ⟨fun h => (by rw [h] at hr; cases hr), fun j hj => ?_⟩
    have hjH := blockedT inv hn hun j hj
    refine ⟨hjH, ?_⟩
    by_cases hji : j = i
    · subst hji; exact hy.wpOp hi hS ⟨hS, H⟩
    · have := hdone _ _ _ H j (ready_mono hj hji)
      rw [hjH] at this; cases this
  | succ f ih =>
    intro listed a w inv hfree hr hy hS H
    have hun := (mem_ready.1 hr).1
    refine ⟨fun h => (by rw [h] at hr; cases hr), fun j hj => ?_⟩
    refine ⟨blockedT inv hn hun j hj, ?_⟩
    by_cases hji : j = i
    · subst hji; exact hy.wpOp hi hS ⟨hS, H⟩
    · have h1 := (H.2 j (ready_mono hj hji)).2
      obtain ⟨hjun, oj, hoj, hall⟩ := mem_ready.1 hj
      have hnot : ∀ e ∈ oj.after, Region.binds .any e = true → e.on ≠ i := fun e he hb heq => by
        have h1 := hall e he hb
        rw [heq, getD_bothT hun] at h1
        cases h1
      have h2 := wpOp_putIf hoj (hfree j oj hoj hji hjun hnot) (fun cs b => hsel i oi cs b hi) (fun cs b => hsel j oj cs b hoj) hQ hy h1
      have hfree' : ∀ k ok, ops[k]? = some ok → k ≠ i → (listed.setIfInBounds j true).getD k true = false →
          (∀ e ∈ ok.after, Region.binds .any e = true → e.on ≠ i) → oi.apart ops ok = true := fun k ok hk hki hun hno => by
        refine hfree k ok hk hki ?_ hno
        by_cases hjk : j = k
        · subst hjk; exact hjun
        · rw [getD_set_ne true hjk] at hun; exact hun
      refine wpOp_mono (fun a' w' h3 => ⟨h3.2.1, ih (listed.setIfInBounds j true) a' w' (inv.set hj) hfree' (ready_mono hr (Ne.symm hji)) h3.1 h3.2.1 ?_⟩) h2
      rw [Array.setIfInBounds_comm _ _ hji]
      exact h3.2.2
theorem seqI_ready {tl : List Nat} {Hd : Nat → Bool} (hT : ∀ t ∈ tl, Hd t = false) {listed : Array Bool} (h : seqI ops tl listed = true) : ∀ j ∈ Region.ready .any ops listed, Hd j = false := by
  cases tl with
  | nil => intro j hj; simp only [seqI, List.isEmpty_iff] at h; rw [h] at hj; cases hj
  | cons k r =>
    intro j hj
    simp only [seqI, Bool.and_eq_true, decide_eq_true_eq] at h
    rw [h.1] at hj
    have : j = k := by simpa using hj
    subst this
    exact hT j (by simp)
theorem wpAny_of_seqI {l : List Oper} (hl : ops = l.toArray) : ∀ (tl : List Nat) (listed : Array Bool) (a : Act) (w : World),
    seqI ops tl listed = true → wpList P ops Q (pickN l tl) a w → wpAny P .any ops Q tl.length listed a w
  | [], _, _, _, hB, h => ⟨by simpa [seqI] using hB, h⟩
  | k :: r, listed, a, w, hB, h => by
    simp only [seqI, Bool.and_eq_true, decide_eq_true_eq] at hB
    refine ⟨fun h1 => (by rw [hB.1] at h1; cases h1), fun i hi => ?_⟩
    have hi' := hi
    rw [hB.1] at hi
    have hik : i = k := by simpa using hi
    subst hik
    obtain ⟨_, oi, hoi, _⟩ := mem_ready.1 hi'
    have hli : l[i]? = some oi := by rw [hl] at hoi; simpa using hoi
    unfold pickN at h
    rw [hli] at h
    have hw : wpOp P ops Q i (wpList P ops Q (pickN l r)) a w := by unfold wpOp; simp only [hoi]; exact h
    exact wpOp_mono (fun a' w' h' => wpAny_of_seqI hl r _ a' w' hB.2 h') hw
theorem wpAnyT_of_take {l : List Oper} (hl : ops = l.toArray) {F : Nat} {Hd : Nat → Bool} {K : Act → World → Prop} {tl : List Nat} (hsel : Region.noSelect ops = true) (hT : ∀ t ∈ tl, Hd t = false)
    (hQ : ∀ c a d v w, Q (.panic c) (a.put d v) w → Q (.panic c) a w) :
    ∀ (hd : List (Bool × Nat)) (listed : Array Bool) (a : Act) (w : World), (∀ x ∈ hd, Hd x.2 = true ∧ ∀ t, t < ops.size → Hd t = false → regNeeds ops F t x.2 = true) →
      InvT ops Hd listed → lexT ops tl hd listed = true → S w → wpTake P ops Q S K (pickL l hd) a w →
      wpAnyT P ops Q S Hd (fun listed' a' w' => seqI ops tl listed' = true ∧ K a' w') hd.length listed a w
  | [], listed, a, w, _, _, hB, _, h => ⟨by simpa [lexT] using hB, h⟩
  | (b, i) :: r, listed, a, w, hh, inv, hB, hS, h => by
    simp only [lexT, Bool.and_eq_true] at hB
    obtain ⟨⟨hr, hf⟩, hB'⟩ := hB
    have hr' : i ∈ Region.ready .any ops listed := by simpa using hr
    obtain ⟨_, oi, hoi, _⟩ := mem_ready.1 hr'
    have hli : l[i]? = some oi := by rw [hl] at hoi; simpa using hoi
    unfold pickL at h
    rw [hli] at h
    obtain ⟨h1, h2⟩ := hh (b, i) (by simp)
    have ih := wpAnyT_of_take (F := F) (K := K) hl hsel hT hQ r (listed.setIfInBounds i true)
    have hh' : ∀ x ∈ r, Hd x.2 = true ∧ ∀ t, t < ops.size → Hd t = false → regNeeds ops F t x.2 = true := fun x hx => hh x (by simp [hx])
    cases b with
    | true =>
      simp only [if_true] at hf
      unfold wpTake at h
      by_cases hw : Region.wanted oi (yielded ops a.tmps) = true
      · rw [if_pos hw] at h
        obtain ⟨v, hy, hK⟩ := h
        exact wpAnyT_first hoi (Region.noSelect_spec hsel) (fun c a w => hQ c a _ _ w) h2 h1 (fun listed' a' w' hL => seqI_ready hT hL.1) r.length listed a w inv (Region.free_spec hoi hf) hr' (.inl ⟨hw, hy⟩) hS
          (ih _ w hh' (inv.set hr') hB' hS hK)
      · rw [if_neg hw] at h
        exact wpAnyT_first hoi (Region.noSelect_spec hsel) (fun c a w => hQ c a _ _ w) h2 h1 (fun listed' a' w' hL => seqI_ready hT hL.1) r.length listed a w inv (Region.free_spec hoi hf) hr' (.inr ⟨by simpa using hw, rfl⟩) hS
          (ih _ w hh' (inv.set hr') hB' hS h)
    | false =>
      simp only [Bool.false_eq_true, if_false, decide_eq_true_eq] at hf
      unfold wpTake at h
      refine ⟨fun h0 => (by rw [h0] at hr'; cases hr'), fun j hj => ?_⟩
      rw [hf] at hj
      have hji : j = i := by simpa using hj
      subst hji
      refine ⟨h1, ?_⟩
      refine wpOp_mono (K := fun a' w' => S w' ∧ wpTake P ops Q S K (pickL l r) a' w') (fun a' w' hh2 => ⟨hh2.1, ih a' w' hh' (inv.set hr') hB' hh2.1 hh2.2⟩) ?_
      unfold wpOp
      simp only [hoi]
      exact h
/-- one walk serves all orders -/
theorem wp_region_take {id : Nat} {a : Act} {w : World} {l : List Oper} (S : World → Prop) (F : Nat) (hd : List (Bool × Nat)) (tl : List Nat) (hm : P.follows .mixedOrders = true) (hB : takeB l.toArray F hd tl = true) (hsz : l.length = hd.length + tl.length)
    (hQ : ∀ c a d v w, Q (.panic c) (a.put d v) w → Q (.panic c) a w) (hS : S w.drew)
    (h : wpTake P l.toArray Q S (fun a' w' => wpList P l.toArray Q (pickN l tl) a' w') (pickL l hd) a w.drew) : (Code.region id l.toArray true).wp P Q a w := by
  simp only [takeB, Bool.and_eq_true] at hB
  obtain ⟨⟨⟨hsel, hT⟩, hN⟩, hlex⟩ := hB
  have hT' : ∀ t ∈ tl, inHd hd t = false := fun t ht => by have := List.all_eq_true.1 hT t ht; simpa using this
  have inv0 : InvT l.toArray (inHd hd) (Array.replicate l.toArray.size false) := ⟨by simp, fun j oj _ hl => by
    exfalso
    rcases Nat.lt_or_ge j l.toArray.size with h | h
    · simp at hl
      have : j < l.length := by simpa using h
      simp [this] at hl
    · have h' : ¬ j < l.length := by simpa using h
      simp [h'] at hl⟩
  have hh : ∀ x ∈ hd, inHd hd x.2 = true ∧ ∀ t, t < l.toArray.size → inHd hd t = false → regNeeds l.toArray F t x.2 = true := fun x hx => by
    refine ⟨List.any_eq_true.2 ⟨x, hx, by simp⟩, fun t ht hf => ?_⟩
    have h1 := List.all_eq_true.1 hN t (List.mem_range.2 ht)
    rw [hf, Bool.false_or] at h1
    exact List.all_eq_true.1 h1 x hx
  refine wp_region_any hm ?_
  have H := wpAnyT_of_take (P := P) (Q := Q) (S := S) (l := l) rfl hsel hT' hQ hd _ a w.drew hh inv0 hlex hS h
  have H2 := wpAny_of_T (g := tl.length) (fun listed' a' w' hL => wpAny_of_seqI (P := P) (Q := Q) (l := l) rfl tl listed' a' w' hL.1 hL.2) hd.length _ a w.drew H
  have e : l.toArray.size = hd.length + tl.length := by simpa using hsz
  rw [e]
  rw [e] at H2
  exact H2
end
end Go.Proofs.Ytbcaknmpbkapnaa
