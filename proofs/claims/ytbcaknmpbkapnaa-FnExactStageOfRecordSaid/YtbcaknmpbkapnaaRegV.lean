/- A region that draws its order, walked along a tree of its orders: reads in one place, operations that change the world in every order that is admissible. No program is named here. -/
import Derived.Test.YtbcaknmpbkapnaaRegU
namespace Go.Proofs.Ytbcaknmpbkapnaa
open Go.RowKit
set_option linter.unusedSimpArgs false
set_option linter.unusedVariables false

/-- a tree of orders: a read; an operation that is one of those that can be next, with what follows it, and the others that can be next -/
inductive RegV where
  | done
  | nil
  | rd (i : Nat) (r : RegV)
  | alt (i : Nat) (s m : RegV)
inductive RegW where
  | done
  | nil
  | rd (o : Oper) (r : RegW)
  | alt (o : Oper) (s m : RegW)
def altsV : RegV → List Nat
  | .alt i _ m => i :: altsV m
  | _ => []
def inV : RegV → Nat → Bool
  | .done, _ => false
  | .nil, _ => false
  | .rd i r, k => i == k || inV r k
  | .alt i s m, k => i == k || (inV s k || inV m k)
def rdsV : RegV → List Nat
  | .done => []
  | .nil => []
  | .rd i r => i :: rdsV r
  | .alt _ s m => rdsV s ++ rdsV m
def lexV (ops : Array Oper) (tl : List Nat) : Bool → Nat → RegV → Array Bool → Bool
  | b, n, .done, listed => !b && (n == 0 && seqI ops tl listed)
  | b, _, .nil, _ => b
  | b, n, .rd i r, listed => !b && (n != 0 && ((Region.ready .any ops listed).contains i && (Region.free .any ops listed i && lexV ops tl false (n - 1) r (listed.setIfInBounds i true))))
  | b, n, .alt i s m, listed => (b || decide (Region.ready .any ops listed = i :: altsV m)) && (n != 0 && (lexV ops tl false (n - 1) s (listed.setIfInBounds i true) && lexV ops tl true n m listed))
def takeV (ops : Array Oper) (F n : Nat) (t : RegV) (tl : List Nat) : Bool :=
  Region.noSelect ops && ((tl.all fun k => !inV t k) && (((List.range ops.size).all fun k => inV t k || (rdsV t).all fun i => regNeeds ops F k i) && lexV ops tl false n t (Array.replicate ops.size false)))
def pickV (l : List Oper) : RegV → RegW
  | .done => .done
  | .nil => .nil
  | .rd i r => match l[i]? with
    | some o => .rd o (pickV l r)
    | none => pickV l r
  | .alt i s m => match l[i]? with
    | some o => .alt o (pickV l s) (pickV l m)
    | none => pickV l m
section
variable {P : Program} {ops : Array Oper} {Q : Exit → Act → World → Prop} {S : World → Prop}
def wpV (P : Program) (ops : Array Oper) (Q : Exit → Act → World → Prop) (S : World → Prop) (K : Act → World → Prop) : RegW → Act → World → Prop
  | .done, a, w => K a w
  | .nil, _, _ => True
  | .rd o r, a, w => if Region.wanted o (yielded ops a.tmps) then ∃ v, (∀ w', S w' → (execOp a.eval o).run P w' = .ok (.value v) w') ∧ wpV P ops Q S K r (a.put o.dst v) w else wpV P ops Q S K r (a.put o.dst undef) w
  | .alt o s m, a, w => wpO P ops Q o (fun a' w' => S w' ∧ wpV P ops Q S K s a' w') a w ∧ wpV P ops Q S K m a w
theorem wpV_done {K : Act → World → Prop} {a : Act} {w : World} (h : K a w) : wpV P ops Q S K .done a w := h
theorem wpV_read {K : Act → World → Prop} {o : Oper} {r : RegW} {a : Act} {w : World} (v : Value) (hw : Region.wanted o (yielded ops a.tmps) = true)
    (hy : ∀ w', S w' → (execOp a.eval o).run P w' = .ok (.value v) w') (h : wpV P ops Q S K r (a.put o.dst v) w) : wpV P ops Q S K (.rd o r) a w := by
  unfold wpV; rw [if_pos hw]; exact ⟨v, hy, h⟩
theorem wpV_or {K : Act → World → Prop} {o : Oper} {s m : RegW} {a : Act} {w : World} (hw : Region.wanted o (yielded ops a.tmps) = true)
    (h : ∀ K' : Act → World → Prop, Shut (∀ a w, S w → (S w → wpV P ops Q S K s a w) → K' a w) → o.wp P a w K' Q) (hm : wpV P ops Q S K m a w) : wpV P ops Q S K (.alt o s m) a w := ⟨wpO_do hw h, hm⟩
theorem wpV_do {K : Act → World → Prop} {o : Oper} {s : RegW} {a : Act} {w : World} (hw : Region.wanted o (yielded ops a.tmps) = true)
    (h : ∀ K' : Act → World → Prop, Shut (∀ a w, S w → (S w → wpV P ops Q S K s a w) → K' a w) → o.wp P a w K' Q) : wpV P ops Q S K (.alt o s .nil) a w := ⟨wpO_do hw h, trivial⟩
theorem wpAnyT_of_V {l : List Oper} (hl : ops = l.toArray) {F : Nat} {Hd : Nat → Bool} {K : Act → World → Prop} {tl : List Nat} (hsel : Region.noSelect ops = true) (hT : ∀ t ∈ tl, Hd t = false)
    (hQ : ∀ c a d v w, Q (.panic c) (a.put d v) w → Q (.panic c) a w) :
    ∀ (t : RegV), (∀ k, inV t k = true → Hd k = true) → (∀ i ∈ rdsV t, ∀ u, u < ops.size → Hd u = false → regNeeds ops F u i = true) →
      (∀ (n : Nat) (listed : Array Bool) (a : Act) (w : World), InvT ops Hd listed → lexV ops tl false n t listed = true → S w → wpV P ops Q S K (pickV l t) a w →
        wpAnyT P ops Q S Hd (fun listed' a' w' => seqI ops tl listed' = true ∧ K a' w') n listed a w) ∧
      (∀ (n : Nat) (listed : Array Bool) (a : Act) (w : World), InvT ops Hd listed → lexV ops tl true n t listed = true → wpV P ops Q S K (pickV l t) a w →
        ∀ j ∈ altsV t, j ∈ Region.ready .any ops listed → Hd j = true ∧ n ≠ 0 ∧ wpOp P ops Q j (fun a' w' => S w' ∧ wpAnyT P ops Q S Hd (fun listed' a' w' => seqI ops tl listed' = true ∧ K a' w') (n - 1) (listed.setIfInBounds j true) a' w') a w)
  | .done, _, _ => ⟨fun n listed a w _ hB _ h => by
      simp only [lexV, Bool.not_false, Bool.true_and, Bool.and_eq_true, beq_iff_eq] at hB
      obtain ⟨rfl, hB⟩ := hB
      exact ⟨hB, h⟩, fun n listed a w _ hB => by simp [lexV] at hB⟩
  | .nil, _, _ => ⟨fun n listed a w _ hB => by simp [lexV] at hB, fun n listed a w _ _ _ j hj => by simp [altsV] at hj⟩
  | .rd i r, h1, h2 => by
    have ih := wpAnyT_of_V (F := F) (K := K) hl hsel hT hQ r (fun k hk => h1 k (by simp [inV, hk])) (fun i' hi' => h2 i' (by simp [rdsV, hi']))
    refine ⟨fun n listed a w inv hB hS h => ?_, fun n listed a w _ hB => by simp [lexV] at hB⟩
    simp only [lexV, Bool.not_false, Bool.true_and, Bool.and_eq_true, bne_iff_ne] at hB
    obtain ⟨hn, hr, hf, hB'⟩ := hB
    have hr' : i ∈ Region.ready .any ops listed := by simpa using hr
    obtain ⟨oi, hli, hoi⟩ := ready_get hl hr'
    obtain ⟨n', rfl⟩ : ∃ n', n = n' + 1 := ⟨n - 1, by omega⟩
    rw [Nat.add_sub_cancel] at hB'
    unfold pickV at h
    rw [hli] at h
    have h1' : Hd i = true := h1 i (by simp [inV])
    have h2' : ∀ u, u < ops.size → Hd u = false → regNeeds ops F u i = true := h2 i (by simp [rdsV])
    unfold wpV at h
    by_cases hw : Region.wanted oi (yielded ops a.tmps) = true
    · rw [if_pos hw] at h
      obtain ⟨v, hy, hK⟩ := h
      exact wpAnyT_first hoi (Region.noSelect_spec hsel) (fun c a w => hQ c a _ _ w) h2' h1' (fun listed' a' w' hL => seqI_ready hT hL.1) n' listed a w inv (Region.free_spec hoi hf) hr' (.inl ⟨hw, hy⟩) hS
        (ih.1 n' _ _ w (inv.set hr') hB' hS hK)
    · rw [if_neg hw] at h
      exact wpAnyT_first hoi (Region.noSelect_spec hsel) (fun c a w => hQ c a _ _ w) h2' h1' (fun listed' a' w' hL => seqI_ready hT hL.1) n' listed a w inv (Region.free_spec hoi hf) hr' (.inr ⟨by simpa using hw, rfl⟩) hS
        (ih.1 n' _ _ w (inv.set hr') hB' hS h)
  | .alt i s m, h1, h2 => by
    have ihs := wpAnyT_of_V (F := F) (K := K) hl hsel hT hQ s (fun k hk => h1 k (by simp [inV, hk])) (fun i' hi' => h2 i' (by simp [rdsV, hi']))
    have ihm := wpAnyT_of_V (F := F) (K := K) hl hsel hT hQ m (fun k hk => h1 k (by simp [inV, hk])) (fun i' hi' => h2 i' (by simp [rdsV, hi']))
    have key : ∀ (n : Nat) (listed : Array Bool) (a : Act) (w : World), InvT ops Hd listed → n ≠ 0 → lexV ops tl false (n - 1) s (listed.setIfInBounds i true) = true → lexV ops tl true n m listed = true → wpV P ops Q S K (pickV l (.alt i s m)) a w →
        ∀ j ∈ i :: altsV m, j ∈ Region.ready .any ops listed → Hd j = true ∧ n ≠ 0 ∧ wpOp P ops Q j (fun a' w' => S w' ∧ wpAnyT P ops Q S Hd (fun listed' a' w' => seqI ops tl listed' = true ∧ K a' w') (n - 1) (listed.setIfInBounds j true) a' w') a w := by
      intro n listed a w inv hn hBs hBm h j hj hr
      by_cases hji : j = i
      · subst hji
        obtain ⟨oi, hli, hoi⟩ := ready_get hl hr
        unfold pickV at h
        rw [hli] at h
        unfold wpV at h
        exact ⟨h1 j (by simp [inV]), hn, wpOp_mono (fun a' w' hh => ⟨hh.1, ihs.1 (n - 1) _ a' w' (inv.set hr) hBs hh.1 hh.2⟩) (wpOp_of_O hl hli h.1)⟩
      · have hj' : j ∈ altsV m := by
          rcases List.mem_cons.1 hj with h | h
          · exact absurd h hji
          · exact h
        have hm : wpV P ops Q S K (pickV l m) a w := by
          unfold pickV at h
          split at h
          · unfold wpV at h; exact h.2
          · exact h
        exact ihm.2 n listed a w inv hBm hm j hj' hr
    refine ⟨fun n listed a w inv hB hS h => ?_, fun n listed a w inv hB h j hj hr => ?_⟩
    · simp only [lexV, Bool.false_or, Bool.and_eq_true, decide_eq_true_eq, bne_iff_ne] at hB
      obtain ⟨hf, hn, hBs, hBm⟩ := hB
      obtain ⟨n', rfl⟩ : ∃ n', n = n' + 1 := ⟨n - 1, by omega⟩
      refine ⟨fun h0 => (by rw [h0] at hf; cases hf), fun j hj => ?_⟩
      have hk := key (n' + 1) listed a w inv hn hBs hBm h j (by rw [← hf]; exact hj) hj
      exact ⟨hk.1, hk.2.2⟩
    · simp only [lexV, Bool.true_or, Bool.true_and, Bool.and_eq_true, bne_iff_ne] at hB
      obtain ⟨hn, hBs, hBm⟩ := hB
      exact key n listed a w inv hn hBs hBm h j hj hr
/-- the tree's walk serves all orders -/
theorem wp_region_V {id : Nat} {a : Act} {w : World} {l : List Oper} (S : World → Prop) (F n : Nat) (t : RegV) (tl : List Nat) (hm : P.follows .mixedOrders = true) (hB : takeV l.toArray F n t tl = true) (hsz : l.length = n + tl.length)
    (hQ : ∀ c a d v w, Q (.panic c) (a.put d v) w → Q (.panic c) a w) (hS : S w.drew)
    (h : wpV P l.toArray Q S (fun a' w' => wpList P l.toArray Q (pickN l tl) a' w') (pickV l t) a w.drew) : (Code.region id l.toArray true).wp P Q a w := by
  simp only [takeV, Bool.and_eq_true] at hB
  obtain ⟨hsel, hT, hN, hlex⟩ := hB
  have hT' : ∀ k ∈ tl, inV t k = false := fun k hk => by have := List.all_eq_true.1 hT k hk; simpa using this
  have inv0 : InvT l.toArray (inV t) (Array.replicate l.toArray.size false) := ⟨by simp, fun j oj _ hl => by
    exfalso
    rcases Nat.lt_or_ge j l.toArray.size with h | h
    · simp at hl
      have : j < l.length := by simpa using h
      simp [this] at hl
    · have h' : ¬ j < l.length := by simpa using h
      simp [h'] at hl⟩
  have hh : ∀ i ∈ rdsV t, ∀ u, u < l.toArray.size → inV t u = false → regNeeds l.toArray F u i = true := fun i hi u hu hf => by
    have h1 := List.all_eq_true.1 hN u (List.mem_range.2 hu)
    rw [hf, Bool.false_or] at h1
    exact List.all_eq_true.1 h1 i hi
  refine wp_region_any hm ?_
  have H := (wpAnyT_of_V (P := P) (Q := Q) (S := S) (l := l) rfl hsel hT' hQ t (fun k hk => hk) hh).1 n _ a w.drew inv0 hlex hS h
  have H2 := wpAny_of_T (g := tl.length) (fun listed' a' w' hL => wpAny_of_seqI (P := P) (Q := Q) (l := l) rfl tl listed' a' w' hL.1 hL.2) n _ a w.drew H
  have e : l.toArray.size = n + tl.length := by simpa using hsz
  rw [e]
  rw [e] at H2
  exact H2
end
attribute [irreducible] wpV
end Go.Proofs.Ytbcaknmpbkapnaa
