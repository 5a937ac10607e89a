/- A region that draws its order, walked along a tree of its orders: reads in one place, operations that change the world in every order that is admissible. No program is named here. -/
import Derived.Test.YtacpnphfopmofaaDrG3KG
import Derived.Test.YtacpnphfopmofaaBaKG
import Derived.Test.YtacpnphfopmofaaBgKG
namespace Go.Proofs.Ytacpnphfopmofaa
open Go.RowKit
set_option linter.unusedSimpArgs false
set_option linter.unusedVariables false

/-- a tree of orders: a read; an operation that is one of those that can be next, with what follows it, and the others that can be next -/
inductive RegV where
  | done
  | nil
  | rd (i : Nat) (r : RegV)
  | alt (i : Nat) (s m : RegV)
inductive RegW where
  | done
  | nil
  | rd (o : Oper) (r : RegW)
  | alt (o : Oper) (s m : RegW)
def altsV : RegV → List Nat
  | .alt i _ m => i :: altsV m
  | _ => []
def inV : RegV → Nat → Bool
  | .done, _ => false
  | .nil, _ => false
  | .rd i r, k => i == k || inV r k
  | .alt i s m, k => i == k || (inV s k || inV m k)
def rdsV : RegV → List Nat
  | .done => []
  | .nil => []
  | .rd i r => i :: rdsV r
  | .alt _ s m => rdsV s ++ rdsV m
def lexV (ops : Array Oper) (tl : List Nat) : Bool → Nat → RegV → Array Bool → Bool
  | b, n, .done, listed => !b && (n == 0 && seqI ops tl listed)
  | b, _, .nil, _ => b
  | b, n, .rd i r, listed => !b && (n != 0 && ((Region.ready .any ops listed).contains i && (Region.free .any ops listed i && lexV ops tl false (n - 1) r (listed.setIfInBounds i true))))
  | b, n, .alt i s m, listed => (b || decide (Region.ready .any ops listed = i :: altsV m)) && (n != 0 && (lexV ops tl false (n - 1) s (listed.setIfInBounds i true) && lexV ops tl true n m listed))
def takeV (ops : Array Oper) (F n : Nat) (t : RegV) (tl : List Nat) : Bool :=
  Region.noSelect ops && ((tl.all fun k => !inV t k) && (((List.range ops.size).all fun k => inV t k || (rdsV t).all fun i => regNeeds ops F k i) && lexV ops tl false n t (Array.replicate ops.size false)))
def pickV (l : List Oper) : RegV → RegW
  | .done => .done
  | .nil => .nil
  | .rd i r => match l[i]? with
    | some o => .rd o (pickV l r)
    | none => pickV l r
  | .alt i s m => match l[i]? with
    | some o => .alt o (pickV l s) (pickV l m)
    | none => pickV l m
section
variable {P : Program} {ops : Array Oper} {Q : Exit → Act → World → Prop} {S : World → Prop}
def wpV (P : Program) (ops : Array Oper) (Q : Exit → Act → World → Prop) (S : World → Prop) (K : Act → World → Prop) : RegW → Act → World → Prop
  | .done, a, w => K a w
  | .nil, _, _ => True
  | .rd o r, a, w => if Region.wanted o (yielded ops a.tmps) then ∃ v, (∀ w', S w' → (execOp a.eval o).run P w' = .ok (.value v) w') ∧ wpV P ops Q S K r (a.put o.dst v) w else wpV P ops Q S K r (a.put o.dst undef) w
  | .alt o s m, a, w => wpO P ops Q o (fun a' w' => S w' ∧ wpV P ops Q S K s a' w') a w ∧ wpV P ops Q S K m a w
theorem wpV_done {K : Act → World → Prop} {a : Act} {w : World} (h : K a w) : wpV P ops Q S K .done a w := h
theorem wpV_read {K : Act → World → Prop} {o : Oper} {r : RegW} {a : Act} {w : World} (v : Value) (hw : Region.wanted o (yielded ops a.tmps) = true)
    (hy : ∀ w', S w' → (execOp a.eval o).run P w' = .ok (.value v) w') (h : wpV P ops Q S K r (a.put o.dst v) w) : wpV P ops Q S K (.rd o r) a w := by
  unfold wpV; rw [if_pos hw]; exact ⟨v, hy, h⟩
theorem wpV_or {K : Act → World → Prop} {o : Oper} {s m : RegW} {a : Act} {w : World} (hw : Region.wanted o (yielded ops a.tmps) = true)
    (h : ∀ K' : Act → World → Prop, Shut (∀ a w, S w → (S w → wpV P ops Q S K s a w) → K' a w) → o.wp P a w K' Q) (hm : wpV P ops Q S K m a w) : wpV P ops Q S K (.alt o s m) a w := ⟨wpO_do hw h, hm⟩
theorem wpV_do {K : Act → World → Prop} {o : Oper} {s : RegW} {a : Act} {w : World} (hw : Region.wanted o (yielded ops a.tmps) = true)
    (h : ∀ K' : Act → World → Prop, Shut (∀ a w, S w → (S w → wpV P ops Q S K s a w) → K' a w) → o.wp P a w K' Q) : wpV P ops Q S K (.alt o s .nil) a w := ⟨wpO_do hw h, trivial⟩
theorem wpAnyT_of_V {l : List Oper} (hl : ops = l.toArray) {F : Nat} {Hd : Nat → Bool} {K : Act → World → Prop} {tl : List Nat} (hsel : Region.noSelect ops = true) (hT : ∀ t ∈ tl, Hd t = false)
    (hQ : ∀ c a d v w, Q (.panic c) (a.put d v) w → Q (.panic c) a w) :
    ∀ (t : RegV), (∀ k, inV t k = true → Hd k = true) → (∀ i ∈ rdsV t, ∀ u, u < ops.size → Hd u = false → regNeeds ops F u i = true) →
      (∀ (n : Nat) (listed : Array Bool) (a : Act) (w : World), InvT ops Hd listed → lexV ops tl false n t listed = true → S w → wpV P ops Q S K (pickV l t) a w →
        wpAnyT P ops Q S Hd (fun listed' a' w' => seqI ops tl listed' = true ∧ K a' w') n listed a w) ∧
      (∀ (n : Nat) (listed : Array Bool) (a : Act) (w : World), InvT ops Hd listed → lexV ops tl true n t listed = true → wpV P ops Q S K (pickV l t) a w →
        ∀ j ∈ altsV t, j ∈ Region.ready .any ops listed → Hd j = true ∧ n ≠ 0 ∧ wpOp P ops Q j (fun a' w' => S w' ∧ wpAnyT P ops Q S Hd (fun listed' a' w' => seqI ops tl listed' = true ∧ K a' w') (n - 1) (listed.setIfInBounds j true) a' w') a w)
  | .done, _, _ => ⟨fun n listed a w _ hB _ h => by
      simp only [lexV, Bool.not_false, Bool.true_and, Bool.and_eq_true, beq_iff_eq] at hB
      obtain ⟨rfl, hB⟩ := hB
      exact ⟨hB, h⟩, fun n listed a w _ hB => by simp [lexV] at hB⟩
  | .nil, _, _ => ⟨fun n listed a w _ hB => by simp [lexV] at hB, fun n listed a w _ _ _ j hj => by simp [altsV] at hj⟩
  | .rd i r, h1, h2 => by
    have ih := wpAnyT_of_V (F := F) (K := K) hl hsel hT hQ r (fun k hk => h1 k (by simp [inV, hk])) (fun i' hi' => h2 i' (by simp [rdsV, hi']))
    refine ⟨fun n listed a w inv hB hS h => ?_, fun n listed a w _ hB => by simp [lexV] at hB⟩
    simp only [lexV, Bool.not_false, Bool.true_and, Bool.and_eq_true, bne_iff_ne] at hB
    obtain ⟨hn, hr, hf, hB'⟩ := hB
    have hr' : i ∈ Region.ready .any ops listed := by simpa using hr
    obtain ⟨oi, hli, hoi⟩ := ready_get hl hr'
    obtain ⟨n', rfl⟩ : ∃ n', n = n' + 1 := ⟨n - 1, by omega⟩
    rw [Nat.add_sub_cancel] at hB'
    unfold pickV at h
    rw [hli] at h
    have h1' : Hd i = true := h1 i (by simp [inV])
    have h2' : ∀ u, u < ops.size → Hd u = false → regNeeds ops F u i = true := h2 i (by simp [rdsV])
    unfold wpV at h
    by_cases hw : Region.wanted oi (yielded ops a.tmps) = true
    · rw [if_pos hw] at h
      obtain ⟨v, hy, hK⟩ := h
      exact wpAnyT_first hoi (Region.noSelect_spec hsel) (fun c a w => hQ c a _ _ w) h2' h1' (fun listed' a' w' hL => seqI_ready hT hL.1) n' listed a w inv (Region.free_spec hoi hf) hr' (.inl ⟨hw, hy⟩) hS
        (ih.1 n' _ _ w (inv.set hr') hB' hS hK)
    · rw [if_neg hw] at h
      exact wpAnyT_first hoi (Region.noSelect_spec hsel) (fun c a w => hQ c a _ _ w) h2' h1' (fun listed' a' w' hL => seqI_ready hT hL.1) n' listed a w inv (Region.free_spec hoi hf) hr' (.inr ⟨by simpa using hw, rfl⟩) hS
        (ih.1 n' _ _ w (inv.set hr') hB' hS h)
  | .alt i s m, h1, h2 => by
    have ihs := wpAnyT_of_V (F := F) (K := K) hl hsel hT hQ s (fun k hk => h1 k (by simp [inV, hk])) (fun i' hi' => h2 i' (by simp [rdsV, hi']))
    have ihm := wpAnyT_of_V (F := F) (K := K) hl hsel hT hQ m (fun k hk => h1 k (by simp [inV, hk])) (fun i' hi' => h2 i' (by simp [rdsV, hi']))
    have key : ∀ (n : Nat) (listed : Array Bool) (a : Act) (w : World), InvT ops Hd listed → n ≠ 0 → lexV ops tl false (n - 1) s (listed.setIfInBounds i true) = true → lexV ops tl true n m listed = true → wpV P ops Q S K (pickV l (.alt i s m)) a w →
        ∀ j ∈ i :: altsV m, j ∈ Region.ready .any ops listed → Hd j = true ∧ n ≠ 0 ∧ wpOp P ops Q j (fun a' w' => S w' ∧ wpAnyT P ops Q S Hd (fun listed' a' w' => seqI ops tl listed' = true ∧ K a' w') (n - 1) (listed.setIfInBounds j true) a' w') a w := by
      intro n listed a w inv hn hBs hBm h j hj hr
      by_cases hji : j = i
      · subst hji
        obtain ⟨oi, hli, hoi⟩ := ready_get hl hr
        unfold pickV at h
        rw [hli] at h
        unfold wpV at h
        exact ⟨h1 j (by simp [inV]), hn, wpOp_mono (fun a' w' hh => ⟨hh.1, ihs.1 (n - 1) _ a' w' (inv.set hr) hBs hh.1 hh.2⟩) (wpOp_of_O hl hli h.1)⟩
      · have hj' : j ∈ altsV m := by
          rcases List.mem_cons.1 hj with h | h
          · exact absurd h hji
          · exact h
        have hm : wpV P ops Q S K (pickV l m) a w := by
          unfold pickV at h
          split at h
          · unfold wpV at h; exact h.2
          · exact h
        exact ihm.2 n listed a w inv hBm hm j hj' hr
    refine ⟨fun n listed a w inv hB hS h => ?_, fun n listed a w inv hB h j hj hr => ?_⟩
    · simp only [lexV, Bool.false_or, Bool.and_eq_true, decide_eq_true_eq, bne_iff_ne] at hB
      obtain ⟨hf, hn, hBs, hBm⟩ := hB
      obtain ⟨n', rfl⟩ : ∃ n', n = n' + 1 := ⟨n - 1, by omega⟩
      refine ⟨fun h0 => (by rw [h0] at hf; cases hf), fun j hj => ?_⟩
      have hk := key (n' + 1) listed a w inv hn hBs hBm h j (by rw [← hf]; exact hj) hj
      exact ⟨hk.1, hk.2.2⟩
    · simp only [lexV, Bool.true_or, Bool.true_and, Bool.and_eq_true, bne_iff_ne] at hB
      obtain ⟨hn, hBs, hBm⟩ := hB
      exact key n listed a w inv hn hBs hBm h j hj hr
/-- the tree's walk serves all orders -/
theorem wp_region_V {id : Nat} {a : Act} {w : World} {l : List Oper} (S : World → Prop) (F n : Nat) (t : RegV) (tl : List Nat) (hm : P.follows .mixedOrders = true) (hB : takeV l.toArray F n t tl = true) (hsz : l.length = n + tl.length)
    (hQ : ∀ c a d v w, Q (.panic c) (a.put d v) w → Q (.panic c) a w) (hS : S w.drew)
    (h : wpV P l.toArray Q S (fun a' w' => wpList P l.toArray Q (pickN l tl) a' w') (pickV l t) a w.drew) : (Code.region id l.toArray true).wp P Q a w := by
  simp only [takeV, Bool.and_eq_true] at hB
  obtain ⟨hsel, hT, hN, hlex⟩ := hB
  have hT' : ∀ k ∈ tl, inV t k = false := fun k hk => by have := List.all_eq_true.1 hT k hk; simpa using this
  have inv0 : InvT l.toArray (inV t) (Array.replicate l.toArray.size false) := ⟨by simp, fun j oj _ hl => by
    exfalso
    rcases Nat.lt_or_ge j l.toArray.size with h | h
    · simp at hl
      have : j < l.length := by simpa using h
      simp [this] at hl
    · have h' : ¬ j < l.length := by simpa using h
      simp [h'] at hl⟩
  have hh : ∀ i ∈ rdsV t, ∀ u, u < l.toArray.size → inV t u = false → regNeeds l.toArray F u i = true := fun i hi u hu hf => by
    have h1 := List.all_eq_true.1 hN u (List.mem_range.2 hu)
    rw [hf, Bool.false_or] at h1
    exact List.all_eq_true.1 h1 i hi
  refine wp_region_any hm ?_
  have H := (wpAnyT_of_V (P := P) (Q := Q) (S := S) (l := l) rfl hsel hT' hQ t (fun k hk => hk) hh).1 n _ a w.drew inv0 hlex hS h
  have H2 := wpAny_of_T (g := tl.length) (fun listed' a' w' hL => wpAny_of_seqI (P := P) (Q := Q) (l := l) rfl tl listed' a' w' hL.1 hL.2) n _ a w.drew H
  have e : l.toArray.size = n + tl.length := by simpa using hsz
  rw [e]
  rw [e] at H2
  exact H2
end
attribute [irreducible] wpV
end Go.Proofs.Ytacpnphfopmofaa
namespace Go.Proofs.Ytacpnphfopmofaa
open Go.RowKit
set_option linter.unusedSimpArgs false
set_option linter.unusedVariables false

/-- own slices in blocks apart -/
structure RowsI (w : World) (B : Nat) (rs : List (Value × List Int)) : Prop where
  own : ∀ (i : Nat) v l, rs[i]? = some (v, l) → OwnI w B v l
  ne : ∀ (i j : Nat) v l y m, i ≠ j → rs[i]? = some (v, l) → rs[j]? = some (y, m) → ∀ k, v.ownBlock = some k → y.ownBlock ≠ some k
theorem RowsI.keep {w w' : World} {B : Nat} {rs : List (Value × List Int)} (h : RowsI w B rs) (hk : ∀ v l, OwnI w B v l → OwnI w' B v l) : RowsI w' B rs :=
  ⟨fun i v l e => hk v l (h.own i v l e), h.ne⟩
theorem RowsI.below {w w' : World} {B : Nat} {rs : List (Value × List Int)} (h : RowsI w B rs) (hb : Below w.heap.size w w') : RowsI w' B rs := h.keep fun _ _ q => q.below hb
theorem RowsI.mono {w : World} {B B' : Nat} {rs : List (Value × List Int)} (h : RowsI w B rs) (hb : B' ≤ B) : RowsI w B' rs := ⟨fun i v l e => (h.own i v l e).mono hb, h.ne⟩
theorem RowsI.put {w w' : World} {B : Nat} {rs : List (Value × List Int)} (h : RowsI w B rs) {i : Nat} {v v' : Value} {l l' : List Int} (hi : rs[i]? = some (v, l))
    (hg : w.grownBy w' v.ownBlock) (ho : OwnI w' B v' l') (hf : ∀ k, v'.ownBlock = some k → v.ownBlock = some k ∨ w.heap.size ≤ k) : RowsI w' B (rs.set i (v', l')) := by
  have hil : i < rs.length := (List.getElem?_eq_some_iff.1 hi).1
  have get : ∀ (j : Nat) y m, (rs.set i (v', l'))[j]? = some (y, m) → (j = i ∧ y = v' ∧ m = l') ∨ (j ≠ i ∧ rs[j]? = some (y, m)) := by
    intro j y m e
    by_cases hj : j = i
    · subst hj
      rw [List.getElem?_set_self hil] at e
      injection e with e
      injection e with e1 e2
      exact .inl ⟨rfl, e1.symm, e2.symm⟩
    · rw [List.getElem?_set_ne (Ne.symm hj)] at e
      exact .inr ⟨hj, e⟩
  have far : ∀ (j : Nat) y m, j ≠ i → rs[j]? = some (y, m) → ∀ k, v'.ownBlock = some k → y.ownBlock ≠ some k := by
    intro j y m hj e k hk hy
    rcases hf k hk with q | q
    · exact h.ne i j v l y m (Ne.symm hj) hi e k q hy
    · have := ((h.own j y m e).lt k hy).2; omega
  refine ⟨?_, ?_⟩
  · intro j y m e
    rcases get j y m e with ⟨rfl, rfl, rfl⟩ | ⟨hj, e⟩
    · exact ho
    · refine (h.own j y m e).kept hg ?_
      cases hy : y.ownBlock with
      | none => exact .inl rfl
      | some k => exact .inr fun q => h.ne i j v l y m (Ne.symm hj) hi e k q.symm hy
  · intro j1 j2 y1 m1 y2 m2 hne e1 e2 k hk
    rcases get j1 y1 m1 e1 with ⟨rfl, rfl, rfl⟩ | ⟨hj1, e1'⟩
    · rcases get j2 y2 m2 e2 with ⟨rfl, _, _⟩ | ⟨hj2, e2'⟩
      · exact absurd rfl hne
      · exact far j2 y2 m2 hj2 e2' k hk
    · rcases get j2 y2 m2 e2 with ⟨rfl, rfl, rfl⟩ | ⟨hj2, e2'⟩
      · intro q
        exact far j1 y1 m1 hj1 e1' k q hk
      · exact h.ne j1 j2 y1 m1 y2 m2 hne e1' e2' k hk
/-- a literal takes an empty place -/
theorem RowsI.lit {w : World} {B : Nat} {rs : List (Value × List Int)} (h : RowsI w B rs) (hB : B ≤ w.heap.size) {i : Nat} {l : List Int} {cs : Array Value} (hi : rs[i]? = some (.slice none 0 0, [])) (hl : AllI64 l) (hc : cs = (l.map (Value.int .i64)).toArray) (hn : l.length ≤ maxLen) (n : Nat) (hnn : n = l.length) :
    RowsI (w.alloc (.cells cs 3)) B (rs.set i (.slice (some ⟨w.heap.size, 0, none⟩) n n, l)) :=
  h.put hi (grownBy_of_below ((Below.refl _ _).alloc (Nat.le_refl _) _)) (OwnI.lit w hB hl hc hn n hnn) (fun k hk => .inr (by have hk : some w.heap.size = some k := hk; injection hk with hk; exact Nat.le_of_eq hk))
theorem OwnI.notbox {w : World} {B b : Nat} {t : TypeId} {v : Value} {l : List Int} {cs : List Value} (ht : t ≠ 3) (h : OwnI w B v l) (hx : BoxN w b t cs) : ∀ k, v.ownBlock = some k → b ≠ k := by
  rintro k hk rfl
  rcases h.2.2 with h2 | ⟨g, cap, cur, rfl, hg, hr, r⟩
  · rw [h2.1] at hk; cases hk
  · cases hk
    unfold BoxN at hx
    rw [hx] at hr
    injection hr with hr
    injection hr with h1 h2 h3
    exact ht h2
theorem RowsI.setbox {w : World} {B b : Nat} {t : TypeId} {rs : List (Value × List Int)} {cs : List Value} (ht : t ≠ 3) (h : RowsI w B rs) (hx : BoxN w b t cs) (j : Nat) (x : Value) : RowsI (w.setCell ⟨b, j, none⟩ x) B rs :=
  h.keep fun v l q => q.kept (grownBy_setCell _ b j x) (.inr fun e => q.notbox ht hx _ e rfl)
theorem RowsI.boxkept {w w' : World} {B b : Nat} {t : TypeId} {v : Value} {l : List Int} {cs : List Value} (ht : t ≠ 3) (h : OwnI w B v l) (hx : BoxN w b t cs) (hg : w.grownBy w' v.ownBlock) : BoxN w' b t cs :=
  (hg.block b hx.lt (fun e => h.notbox ht hx b e.symm rfl)).trans hx
/-- a store into a row -/
theorem RowsI.store {w : World} {B g n c : Nat} {rs : List (Value × List Int)} (h : RowsI w B rs) {i : Nat} {l : List Int} (hi : rs[i]? = some (.slice (some ⟨g, 0, none⟩) n c, l)) (hn : l.length = n) (k : Nat) {x : Int} (hx : I64 x) :
    RowsI (w.setCell ⟨g, k, none⟩ (.int .i64 x)) B (rs.set i (.slice (some ⟨g, 0, none⟩) n c, l.set k x)) :=
  h.put hi (grownBy_setCell _ g k _) ((h.own i _ _ hi).stored hn k hx).1 (fun k' hk => .inl hk)
theorem RowsI.boxstore {w : World} {B g b : Nat} {t : TypeId} {v : Value} {l : List Int} {cs : List Value} (ht : t ≠ 3) (h : OwnI w B v l) (hv : v.ownBlock = some g) (hx : BoxN w b t cs) (k : Nat) (x : Value) : BoxN (w.setCell ⟨g, k, none⟩ x) b t cs :=
  RowsI.boxkept ht h hx (by rw [hv]; exact grownBy_setCell _ g k x)
theorem BoxN.apartB {w : World} {b b' : Nat} {t t' : TypeId} {cs cs' : List Value} (h : BoxN w b t cs) (h' : BoxN w b' t' cs') (ht : t ≠ t') : b ≠ b' := by
  rintro rfl
  unfold BoxN at h h'
  rw [h] at h'
  injection h' with h'
  injection h' with h1 h2 h3
  exact ht h2
/-- a proof that grows: a box of three slices, the group, the box of the result -/
structure PSt (w0 w : World) (gb rb pb B : Nat) (gr : GroupD) (c h r : Value) (lc lh lr : List Int) : Prop where
  bel : Below w0.heap.size w0 w
  grp : BoxN w gb 24 [.int .i64 gr.p, .int .i64 gr.q, .int .i64 gr.g]
  res : BoxN w rb 115 [.slice none 0 0, .slice none 0 0, .slice none 0 0]
  prf : BoxN w pb 115 [c, h, r]
  rows : RowsI w B [(c, lc), (h, lh), (r, lr)]
  rne : pb ≠ rb
  lo : w0.heap.size ≤ pb
  loB : w0.heap.size ≤ B
  hi : B ≤ w.heap.size
theorem PSt.below {w0 w w' : World} {gb rb pb B : Nat} {gr : GroupD} {c h r : Value} {lc lh lr : List Int} (q : PSt w0 w gb rb pb B gr c h r lc lh lr) (hb : Below w.heap.size w w') : PSt w0 w' gb rb pb B gr c h r lc lh lr :=
  ⟨Below.next q.bel hb, q.grp.below hb, q.res.below hb, q.prf.below hb, q.rows.below hb, q.rne, q.lo, q.loB, Nat.le_trans q.hi hb.size⟩
theorem PSt.new {w0 w : World} {gb rb pb B : Nat} {gr : GroupD} (hb : Below w0.heap.size w0 w) (h1 : BoxN w gb 24 [.int .i64 gr.p, .int .i64 gr.q, .int .i64 gr.g]) (h2 : BoxN w rb 115 [.slice none 0 0, .slice none 0 0, .slice none 0 0])
    (h3 : BoxN w pb 115 [.slice none 0 0, .slice none 0 0, .slice none 0 0]) (h4 : pb ≠ rb) (h5 : w0.heap.size ≤ pb) (h6 : w0.heap.size ≤ B) (h7 : B ≤ w.heap.size) : PSt w0 w gb rb pb B gr (.slice none 0 0) (.slice none 0 0) (.slice none 0 0) [] [] [] := by
  refine ⟨hb, h1, h2, h3, ⟨?_, ?_⟩, h4, h5, h6, h7⟩
  · intro i v l e
    match i, e with
    | 0, e => cases e; exact OwnI.nil _ _
    | 1, e => cases e; exact OwnI.nil _ _
    | 2, e => cases e; exact OwnI.nil _ _
    | i + 3, e => simp at e
  · intro i j v l y m _ e1 e2 k hk
    match i, e1 with
    | 0, e => cases e; cases hk
    | 1, e => cases e; cases hk
    | 2, e => cases e; cases hk
    | i + 3, e => simp at e
theorem PSt.ownH {w0 w : World} {gb rb pb B : Nat} {gr : GroupD} {c h r : Value} {lc lh lr : List Int} (q : PSt w0 w gb rb pb B gr c h r lc lh lr) : OwnI w B h lh := q.rows.own 1 _ _ rfl
theorem PSt.ownR {w0 w : World} {gb rb pb B : Nat} {gr : GroupD} {c h r : Value} {lc lh lr : List Int} (q : PSt w0 w gb rb pb B gr c h r lc lh lr) : OwnI w B r lr := q.rows.own 2 _ _ rfl
section
variable {w0 w w' : World} {gb rb pb B : Nat} {gr : GroupD} {c h r v' : Value} {lc lh lr l' : List Int}
theorem PSt.grown (q : PSt w0 w gb rb pb B gr c h r lc lh lr) (hx : ∀ b t cs, t ≠ 3 → BoxN w b t cs → BoxN w' b t cs) (hb : Below B w w') {rs : List (Value × List Int)} (hr : RowsI w' B rs) (i : Nat) (y : Value) :
    Below w0.heap.size w0 (w'.setCell ⟨pb, i, none⟩ y) ∧ BoxN (w'.setCell ⟨pb, i, none⟩ y) gb 24 [.int .i64 gr.p, .int .i64 gr.q, .int .i64 gr.g] ∧ BoxN (w'.setCell ⟨pb, i, none⟩ y) rb 115 [.slice none 0 0, .slice none 0 0, .slice none 0 0] ∧ RowsI (w'.setCell ⟨pb, i, none⟩ y) B rs ∧ B ≤ (w'.setCell ⟨pb, i, none⟩ y).heap.size := by
  have hp := hx _ _ _ (by decide) q.prf
  refine ⟨?_, (hx _ _ _ (by decide) q.grp).other (BoxN.apartB hp (hx _ _ _ (by decide) q.grp) (by decide)) i y, (hx _ _ _ (by decide) q.res).other q.rne i y, hr.setbox (by decide) hp i y, ?_⟩
  · exact (q.bel.trans (hb.mono q.loB)).setCell (p := ⟨pb, i, none⟩) q.lo y
  · simpa using Nat.le_trans q.hi hb.size
theorem PSt.store1 {g n k0 : Nat} (q : PSt w0 w gb rb pb B gr c (.slice (some ⟨g, 0, none⟩) n k0) r lc lh lr) (hn : lh.length = n) (k : Nat) {x : Int} (hx : I64 x) : PSt w0 (w.setCell ⟨g, k, none⟩ (.int .i64 x)) gb rb pb B gr c (.slice (some ⟨g, 0, none⟩) n k0) r lc (lh.set k x) lr := by
  have hl := q.ownH.lt g rfl
  refine ⟨?_, RowsI.boxstore (by decide) q.ownH rfl q.grp k _, RowsI.boxstore (by decide) q.ownH rfl q.res k _, RowsI.boxstore (by decide) q.ownH rfl q.prf k _, q.rows.store (i := 1) rfl hn k hx, q.rne, q.lo, q.loB, ?_⟩
  · exact q.bel.setCell (p := ⟨g, k, none⟩) (Nat.le_trans q.loB hl.1) _
  · simpa using q.hi
theorem PSt.store2 {g n k0 : Nat} (q : PSt w0 w gb rb pb B gr c h (.slice (some ⟨g, 0, none⟩) n k0) lc lh lr) (hn : lr.length = n) (k : Nat) {x : Int} (hx : I64 x) : PSt w0 (w.setCell ⟨g, k, none⟩ (.int .i64 x)) gb rb pb B gr c h (.slice (some ⟨g, 0, none⟩) n k0) lc lh (lr.set k x) := by
  have hl := q.ownR.lt g rfl
  refine ⟨?_, RowsI.boxstore (by decide) q.ownR rfl q.grp k _, RowsI.boxstore (by decide) q.ownR rfl q.res k _, RowsI.boxstore (by decide) q.ownR rfl q.prf k _, q.rows.store (i := 2) rfl hn k hx, q.rne, q.lo, q.loB, ?_⟩
  · exact q.bel.setCell (p := ⟨g, k, none⟩) (Nat.le_trans q.loB hl.1) _
  · simpa using q.hi
theorem PSt.out {v : Value} {l : List Int} (q : PSt w0 w gb rb pb B gr c h r lc lh lr) (ho : OwnI w B v l) : OwnI (((w.setCell ⟨rb, 0, none⟩ c).setCell ⟨rb, 1, none⟩ h).setCell ⟨rb, 2, none⟩ r) w0.heap.size v l := by
  have h1 := ho.kept (grownBy_setCell w rb 0 c) (.inr fun e => ho.notbox (by decide) q.res _ e rfl)
  have h2 := h1.kept (grownBy_setCell _ rb 1 h) (.inr fun e => ho.notbox (by decide) q.res _ e rfl)
  have h3 := h2.kept (grownBy_setCell _ rb 2 r) (.inr fun e => ho.notbox (by decide) q.res _ e rfl)
  exact h3.mono q.loB
end
end Go.Proofs.Ytacpnphfopmofaa
