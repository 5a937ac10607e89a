/- A region that draws its order, walked once, as in RegP; the worlds move by a relation G, and what stands (S) may count the operations. No program is named here. -/
import Derived.Test.YtacpnphfopmofaaPow2SM
import Derived.Test.YtacpnphfopmofaaDrG1SM
import Derived.Test.YtacpnphfopmofaaDrG5SM
import Derived.Test.YtacpnphfopmofaaBmSM
namespace Go.Proofs.Ytacpnphfopmofaa
open Go.RowKit
set_option linter.unusedSimpArgs false
set_option linter.unusedVariables false

def MonoQ (G : World → World → Prop) (s : SpecP) : Prop := ∀ (v : Value) (w w' : World), G w w' → s.holds v w → s.holds v w'
def stepQ (P : Program) (ops : Array Oper) (Q : Exit → Act → World → Prop) (G : World → World → Prop) (S1 : World → Prop) (o : Oper) (s : SpecP) (w : World) (a : Act) : Prop :=
  if Region.wanted o (yielded ops a.tmps) = true then o.wp P a w (fun a' w' => ∃ v, a' = a.put o.dst v ∧ (s.holds v w' ∧ G w w' ∧ S1 w')) Q else s.holds undef w
def chainQ (P : Program) (ops : Array Oper) (Q : Exit → Act → World → Prop) (G : World → World → Prop) (S : Nat → World → Prop) (M : Nat) (K : Act → World → Prop) (a0 : Act) : List (Option Tmp × SpecP) → List (Oper × List Nat) → Prop
  | env, [] => ∀ w, S M w → allP w (fun a => K a w) env a0
  | env, (o, deps) :: r => ∃ s : SpecP, MonoQ G s ∧ (∀ m w, m < M → S m w → allP w (stepQ P ops Q G (S (m + 1)) o s w) (lookP env deps) a0) ∧ chainQ P ops Q G S M K a0 ((o.dst, s) :: env) r
def okQ (ops : Array Oper) (pre : List Nat) : List Nat → List (Nat × List Nat) → Bool
  | _, [] => true
  | E, (i, _) :: r => (decide (i < ops.size) && (!E.contains i && (!pre.contains i && (afters ops i).all fun j => E.contains j || pre.contains j))) && okQ ops pre (i :: E) r
def checkQ (ops : Array Oper) (F : Nat) (pre : List Nat) (hd : List (Nat × List Nat)) (tl : List Nat) : Bool :=
  Region.noSelect ops && ((tl.all fun k => !(hd.map (·.1)).contains k) && (((List.range ops.size).all fun k => pre.contains k || ((hd.map (·.1)).contains k || (hd.map (·.1)).all fun i => regNeeds ops F k i)) &&
    (okQ ops pre [] hd && ((resP [] hd).all (fun x => seesP ops F (hd.map (·.1)) x.1 x.2) && (apartP ops (hd.map (·.1)) && seqI ops tl (heldP ops (pre ++ hd.map (·.1))))))))
def preQ (ops : Array Oper) : List Nat → Array Bool → Bool
  | [], _ => true
  | i :: r, listed => (Region.ready .any ops listed).contains i && (Region.free .any ops listed i && preQ ops r (listed.setIfInBounds i true))
def listQ (pre : List Nat) (listed : Array Bool) : Array Bool := pre.foldl (fun l i => l.setIfInBounds i true) listed
section
variable {P : Program} {ops : Array Oper} {Q : Exit → Act → World → Prop} {G : World → World → Prop} {S : Nat → World → Prop} {M : Nat} {K : Act → World → Prop} {a0 : Act}
/-- the relation and what stands -/
structure GoodQ (G : World → World → Prop) (S : Nat → World → Prop) : Prop where
  refl : ∀ w, G w w
  up : ∀ m w, S m w → S (m + 1) w
theorem chainQ_nil {env : List (Option Tmp × SpecP)} (h : ∀ w, S M w → allP w (fun a => K a w) env a0) : chainQ P ops Q G S M K a0 env [] := h
/-- an operation whose value is known and that leaves the world as it is -/
theorem chainQ_readG (hgq : GoodQ G S) {o : Oper} {deps : List Nat} {r : List (Oper × List Nat)} {env : List (Option Tmp × SpecP)} {d : Option Tmp} (v : Value) (hd : o.dst = d)
    (h : ∀ m w, m < M → S m w → allP w (fun a => Region.wanted o (yielded ops a.tmps) = true ∧ (execOp a.eval o).run P w = .ok (.value v) w) (lookP env deps) a0)
    (hr : chainQ P ops Q G S M K a0 ((d, .val v) :: env) r) : chainQ P ops Q G S M K a0 env ((o, deps) :: r) := by
  subst hd
  refine ⟨.val v, fun _ _ _ _ h => h, fun m w hm hS => allP_mono (fun a ⟨h1, h2⟩ => ?_) _ _ (h m w hm hS), hr⟩
  unfold stepQ Oper.wp
  rw [if_pos h1, h2]
  exact ⟨v, rfl, rfl, hgq.refl _, hgq.up _ _ hS⟩
theorem chainQ_read (hgq : GoodQ G S) {o : Oper} {deps : List Nat} {r : List (Oper × List Nat)} {env : List (Option Tmp × SpecP)} {d : Option Tmp} (v : Value) (hd : o.dst = d) (hg : o.guard = none)
    (h : ∀ m w, m < M → S m w → allP w (fun a => (execOp a.eval o).run P w = .ok (.value v) w) (lookP env deps) a0)
    (hr : chainQ P ops Q G S M K a0 ((d, .val v) :: env) r) : chainQ P ops Q G S M K a0 env ((o, deps) :: r) :=
  chainQ_readG hgq v hd (fun m w hm hS => allP_mono (fun a h => ⟨wanted_free hg a, h⟩) _ _ (h m w hm hS)) hr
/-- an operation that leaves the world as it is and whose result has a property -/
theorem chainQ_haveG (hgq : GoodQ G S) {o : Oper} {deps : List Nat} {r : List (Oper × List Nat)} {env : List (Option Tmp × SpecP)} {d : Option Tmp} (p : Value → World → Prop)
    (hp : ∀ (v : Value) (w w' : World), G w w' → p v w → p v w') (hd : o.dst = d)
    (h : ∀ m w, m < M → S m w → allP w (fun a => Region.wanted o (yielded ops a.tmps) = true ∧ ∃ v, (execOp a.eval o).run P w = .ok (.value v) w ∧ p v w) (lookP env deps) a0)
    (hr : chainQ P ops Q G S M K a0 ((d, .pre p) :: env) r) : chainQ P ops Q G S M K a0 env ((o, deps) :: r) := by
  subst hd
  refine ⟨.pre p, hp, fun m w hm hS => allP_mono (fun a ⟨h1, v, h2, h3⟩ => ?_) _ _ (h m w hm hS), hr⟩
  unfold stepQ Oper.wp
  rw [if_pos h1, h2]
  exact ⟨v, rfl, h3, hgq.refl _, hgq.up _ _ hS⟩
theorem chainQ_have (hgq : GoodQ G S) {o : Oper} {deps : List Nat} {r : List (Oper × List Nat)} {env : List (Option Tmp × SpecP)} {d : Option Tmp} (p : Value → World → Prop)
    (hp : ∀ (v : Value) (w w' : World), G w w' → p v w → p v w') (hd : o.dst = d) (hg : o.guard = none)
    (h : ∀ m w, m < M → S m w → allP w (fun a => ∃ v, (execOp a.eval o).run P w = .ok (.value v) w ∧ p v w) (lookP env deps) a0)
    (hr : chainQ P ops Q G S M K a0 ((d, .pre p) :: env) r) : chainQ P ops Q G S M K a0 env ((o, deps) :: r) :=
  chainQ_haveG hgq p hp hd (fun m w hm hS => allP_mono (fun a h => ⟨wanted_free hg a, h⟩) _ _ (h m w hm hS)) hr
/-- an operation with a known result; the world grows -/
theorem chainQ_callG {o : Oper} {deps : List Nat} {r : List (Oper × List Nat)} {env : List (Option Tmp × SpecP)} {d : Option Tmp} (v : Value) (hd : o.dst = d)
    (h : ∀ m w, m < M → S m w → allP w (fun a => Region.wanted o (yielded ops a.tmps) = true ∧ ∀ K' : Act → World → Prop, Shut (∀ w', G w w' → S (m + 1) w' → K' (a.put d v) w') → o.wp P a w K' Q) (lookP env deps) a0)
    (hr : chainQ P ops Q G S M K a0 ((d, .val v) :: env) r) : chainQ P ops Q G S M K a0 env ((o, deps) :: r) := by
  subst hd
  refine ⟨.val v, fun _ _ _ _ h => h, fun m w hm hS => allP_mono (fun a ⟨h1, h2⟩ => ?_) _ _ (h m w hm hS), hr⟩
  unfold stepQ
  rw [if_pos h1]
  exact h2 _ (fun w' hb hs1 => ⟨v, rfl, rfl, hb, hs1⟩)
theorem chainQ_call {o : Oper} {deps : List Nat} {r : List (Oper × List Nat)} {env : List (Option Tmp × SpecP)} {d : Option Tmp} (v : Value) (hd : o.dst = d) (hg : o.guard = none)
    (h : ∀ m w, m < M → S m w → allP w (fun a => ∀ K' : Act → World → Prop, Shut (∀ w', G w w' → S (m + 1) w' → K' (a.put d v) w') → o.wp P a w K' Q) (lookP env deps) a0)
    (hr : chainQ P ops Q G S M K a0 ((d, .val v) :: env) r) : chainQ P ops Q G S M K a0 env ((o, deps) :: r) :=
  chainQ_callG v hd (fun m w hm hS => allP_mono (fun a h => ⟨wanted_free hg a, h⟩) _ _ (h m w hm hS)) hr
/-- an operation whose result has a property; the world grows -/
theorem chainQ_doG {o : Oper} {deps : List Nat} {r : List (Oper × List Nat)} {env : List (Option Tmp × SpecP)} {d : Option Tmp} (p : Value → World → Prop)
    (hp : ∀ (v : Value) (w w' : World), G w w' → p v w → p v w') (hd : o.dst = d)
    (h : ∀ m w, m < M → S m w → allP w (fun a => Region.wanted o (yielded ops a.tmps) = true ∧ ∀ K' : Act → World → Prop, Shut (∀ v w', G w w' → S (m + 1) w' → p v w' → K' (a.put d v) w') → o.wp P a w K' Q) (lookP env deps) a0)
    (hr : chainQ P ops Q G S M K a0 ((d, .pre p) :: env) r) : chainQ P ops Q G S M K a0 env ((o, deps) :: r) := by
  subst hd
  refine ⟨.pre p, hp, fun m w hm hS => allP_mono (fun a ⟨h1, h2⟩ => ?_) _ _ (h m w hm hS), hr⟩
  unfold stepQ
  rw [if_pos h1]
  exact h2 _ (fun v w' hb hs1 hv => ⟨v, rfl, hv, hb, hs1⟩)
theorem chainQ_do {o : Oper} {deps : List Nat} {r : List (Oper × List Nat)} {env : List (Option Tmp × SpecP)} {d : Option Tmp} (p : Value → World → Prop)
    (hp : ∀ (v : Value) (w w' : World), G w w' → p v w → p v w') (hd : o.dst = d) (hg : o.guard = none)
    (h : ∀ m w, m < M → S m w → allP w (fun a => ∀ K' : Act → World → Prop, Shut (∀ v w', G w w' → S (m + 1) w' → p v w' → K' (a.put d v) w') → o.wp P a w K' Q) (lookP env deps) a0)
    (hr : chainQ P ops Q G S M K a0 ((d, .pre p) :: env) r) : chainQ P ops Q G S M K a0 env ((o, deps) :: r) :=
  chainQ_doG p hp hd (fun m w hm hS => allP_mono (fun a h => ⟨wanted_free hg a, h⟩) _ _ (h m w hm hS)) hr
theorem chainQ_spec {pre : List Nat} {l : List Oper} (hl : ops = l.toArray) : ∀ (hd : List (Nat × List Nat)) (E : List Nat) (sp0 : Nat → SpecP), okQ ops pre E hd = true → chainQ P ops Q G S M K a0 (E.map (envP ops sp0)) (pickP l hd) →
    ∃ sp : Nat → SpecP, (∀ j ∈ E, sp j = sp0 j) ∧ (∀ x ∈ resP E hd, MonoQ G (sp x.1) ∧ ∃ o, ops[x.1]? = some o ∧ ∀ m w, m < M → S m w → allP w (stepQ P ops Q G (S (m + 1)) o (sp x.1) w) (x.2.map (envP ops sp)) a0) ∧
      ∀ w, S M w → allP w (fun a => K a w) (((hd.map (·.1)).reverse ++ E).map (envP ops sp)) a0
  | [], E, sp0, _, h => ⟨sp0, fun _ _ => rfl, fun x hx => by simp [resP] at hx, by simpa [pickP, chainQ] using h⟩
  | (i, d) :: r, E, sp0, hB, h => by
    simp only [okQ, Bool.and_eq_true, decide_eq_true_eq] at hB
    obtain ⟨⟨hi, hE, _, _⟩, hB⟩ := hB
    have hE' : i ∉ E := by simpa using hE
    have hio : ops[i]? = some ops[i] := Array.getElem?_eq_getElem hi
    have hli : l[i]? = some ops[i] := by rw [← hio, hl]; simp
    unfold pickP at h
    rw [hli] at h
    obtain ⟨s, hs, ho, hr⟩ := h
    have hsame : ∀ j ∈ E, (fun j => if j = i then s else sp0 j) j = sp0 j := fun j hj => by
      have : j ≠ i := fun e => hE' (e ▸ hj)
      simp [this]
    have he : ((ops[i].dst, s) :: E.map (envP ops sp0)) = (i :: E).map (envP ops (fun j => if j = i then s else sp0 j)) := by
      rw [List.map_cons, envP_congr hsame]
      congr 1
      unfold envP dstP
      rw [hio]; simp
    rw [he] at hr
    obtain ⟨sp, h1, h2, h3⟩ := chainQ_spec hl r (i :: E) _ hB hr
    have hspE : ∀ j ∈ E, sp j = sp0 j := fun j hj => (h1 j (List.mem_cons_of_mem _ hj)).trans (hsame j hj)
    have hsi : sp i = s := by have := h1 i (by simp); simpa using this
    refine ⟨sp, hspE, fun x hx => ?_, by simpa using h3⟩
    unfold resP at hx
    rcases List.mem_cons.1 hx with rfl | hx
    · refine ⟨by show MonoQ G (sp i); rw [hsi]; exact hs, ops[i], hio, fun m w hm hS => ?_⟩
      have := ho m w hm hS
      rw [lookP_map] at this
      show allP w (stepQ P ops Q G (S (m + 1)) ops[i] (sp i) w) ((idxP E d).map (envP ops sp)) a0
      rw [hsi, envP_congr (fun j hj => hspE j (idxP_mem d j hj))]
      exact this
    · exact h2 x hx
theorem ready_someQ {pre : List Nat} {listed : Array Bool} (hsz : listed.size = ops.size) (hpre : ∀ j ∈ pre, listed.getD j false = true) : ∀ (hd : List (Nat × List Nat)) (E : List Nat), okQ ops pre E hd = true → (∀ j ∈ E, listed.getD j false = true) → (∃ j ∈ hd.map (·.1), listed.getD j false = false) → ∃ i, i ∈ Region.ready .any ops listed
  | [], E, _, _, h => by simp at h
  | (i, d) :: r, E, hB, hE, h => by
    simp only [okQ, Bool.and_eq_true, decide_eq_true_eq] at hB
    obtain ⟨⟨hi, _, _, ha⟩, hB⟩ := hB
    cases hl : listed.getD i false with
    | true =>
      refine ready_someQ hsz hpre r (i :: E) hB (fun j hj => ?_) ?_
      · rcases List.mem_cons.1 hj with rfl | hj
        · exact hl
        · exact hE j hj
      · obtain ⟨j, hj, hjl⟩ := h
        rw [List.map_cons] at hj
        rcases List.mem_cons.1 hj with rfl | hj
        · rw [hl] at hjl; cases hjl
        · exact ⟨j, hj, hjl⟩
    | false =>
      refine ⟨i, mem_ready.2 ⟨?_, ops[i], Array.getElem?_eq_getElem hi, fun e he hb => ?_⟩⟩
      · have : i < listed.size := by omega
        simp [this] at hl ⊢
        exact hl
      · have h1 : e.on ∈ afters ops i := by
          unfold afters
          rw [Array.getElem?_eq_getElem hi]
          exact List.mem_map.2 ⟨e, List.mem_filter.2 ⟨by simpa using he, hb⟩, rfl⟩
        have := List.all_eq_true.1 ha _ h1
        rw [Bool.or_eq_true] at this
        rcases this with this | this
        · exact hE _ (by simpa using this)
        · exact hpre _ (by simpa using this)
theorem okQ_nodup {pre : List Nat} : ∀ (hd : List (Nat × List Nat)) (E : List Nat), okQ ops pre E hd = true → (hd.map (·.1)).Nodup ∧ (∀ j ∈ hd.map (·.1), j ∉ E) ∧ (∀ j ∈ hd.map (·.1), j < ops.size) ∧ ∀ j ∈ hd.map (·.1), j ∉ pre
  | [], E, _ => ⟨List.nodup_nil, fun j hj => by simp at hj, fun j hj => by simp at hj, fun j hj => by simp at hj⟩
  | (i, d) :: r, E, hB => by
    simp only [okQ, Bool.and_eq_true, decide_eq_true_eq] at hB
    obtain ⟨⟨hi, hE, hpr, _⟩, hB⟩ := hB
    have hE' : i ∉ E := by simpa using hE
    obtain ⟨h1, h2, h3, h4⟩ := okQ_nodup r (i :: E) hB
    refine ⟨List.nodup_cons.2 ⟨fun hm => h2 i hm (by simp), h1⟩, fun j hj => ?_, fun j hj => ?_, fun j hj => ?_⟩
    · rw [List.map_cons] at hj
      rcases List.mem_cons.1 hj with rfl | hj
      · exact hE'
      · exact fun he => h2 j hj (List.mem_cons_of_mem _ he)
    · rw [List.map_cons] at hj
      rcases List.mem_cons.1 hj with rfl | hj
      · exact hi
      · exact h3 j hj
    · rw [List.map_cons] at hj
      rcases List.mem_cons.1 hj with rfl | hj
      · simpa using hpr
      · exact h4 j hj
theorem resP_mem : ∀ (hd : List (Nat × List Nat)) (E : List Nat) (i : Nat) (D : List Nat), (i, D) ∈ resP E hd → i ∈ hd.map (·.1) ∧ ∀ k ∈ D, k ∈ E ∨ k ∈ hd.map (·.1)
  | [], E, i, D, h => by simp [resP] at h
  | (j, d) :: r, E, i, D, h => by
    unfold resP at h
    rcases List.mem_cons.1 h with h | h
    · obtain ⟨rfl, rfl⟩ := Prod.mk.inj h
      exact ⟨by simp, fun k hk => .inl (idxP_mem d k hk)⟩
    · obtain ⟨h1, h2⟩ := resP_mem r (j :: E) i D h
      refine ⟨by rw [List.map_cons]; exact List.mem_cons_of_mem _ h1, fun k hk => ?_⟩
      rcases h2 k hk with hk | hk
      · rcases List.mem_cons.1 hk with rfl | hk
        · exact .inr (by simp)
        · exact .inl hk
      · exact .inr (by rw [List.map_cons]; exact List.mem_cons_of_mem _ hk)
/-- what stands while a region runs -/
structure InvQ (ops : Array Oper) (S : Nat → World → Prop) (m : Nat) (pre H : List Nat) (sp : Nat → SpecP) (a0 : Act) (vals : Nat → Value) (listed : Array Bool) (a : Act) (w : World) : Prop where
  inv : InvT ops (fun i => H.contains i) listed
  s : S m w
  rest : ∀ j, j ∉ H → listed.getD j false = pre.contains j
  defers : a.defers = a0.defers
  hold : ∀ j ∈ H, listed.getD j false = true → (sp j).holds (vals j) w
  put : ∀ j ∈ H, listed.getD j false = true → ∀ t, dstP ops j = some t → a.tmps[t]? = (a0.tmps[t]?).map (fun _ => vals j)
  old : ∀ t, (∀ j ∈ H, listed.getD j false = true → dstP ops j ≠ some t) → a.tmps[t]? = a0.tmps[t]?
theorem wpAnyT_of_Q (hgq : GoodQ G S) {pre : List Nat} {F : Nat} {hd : List (Nat × List Nat)} {tl : List Nat} {sp : Nat → SpecP} (hsel : Region.noSelect ops = true) (hQ : ∀ c (a a' : Act) w, Q (.panic c) a w → Q (.panic c) a' w)
    (hM : M = hd.length)
    (hT : ∀ k ∈ tl, (hd.map (·.1)).contains k = false) (hN : ∀ k, k < ops.size → pre.contains k = false → (hd.map (·.1)).contains k = false → ∀ i ∈ hd.map (·.1), regNeeds ops F k i = true)
    (hok : okQ ops pre [] hd = true) (hsee : ∀ x ∈ resP [] hd, seesP ops F (hd.map (·.1)) x.1 x.2 = true) (hap : apartP ops (hd.map (·.1)) = true) (hfin : seqI ops tl (heldP ops (pre ++ hd.map (·.1))) = true)
    (hsz : ∀ i ∈ hd.map (·.1), ∀ t, dstP ops i = some t → t < a0.tmps.size)
    (hob : ∀ x ∈ resP [] hd, MonoQ G (sp x.1) ∧ ∃ o, ops[x.1]? = some o ∧ ∀ m w, m < M → S m w → allP w (stepQ P ops Q G (S (m + 1)) o (sp x.1) w) (x.2.map (envP ops sp)) a0)
    (hK : ∀ w, S M w → allP w (fun a => K a w) (((hd.map (fun x : Nat × List Nat => x.1)).reverse ++ []).map (envP ops sp)) a0) :
    ∀ (f : Nat) (R : List Nat) (vals : Nat → Value) (listed : Array Bool) (a : Act) (w : World), R.Nodup → R.length = f → f ≤ M → (∀ j, j ∈ R ↔ j ∈ hd.map (·.1) ∧ listed.getD j false = false) →
      InvQ ops S (M - f) pre (hd.map (·.1)) sp a0 vals listed a w → wpAnyT P ops Q (fun _ => True) (fun i => (hd.map (·.1)).contains i) (fun listed' a' w' => seqI ops tl listed' = true ∧ K a' w') f listed a w := by
  obtain ⟨hnd, _, hlt, hnp⟩ := okQ_nodup hd [] hok
  have hap' : ∀ i ∈ hd.map (·.1), ∀ j ∈ hd.map (·.1), ∀ t, dstP ops i = some t → dstP ops j = some t → i = j := fun i hi j hj t h1 h2 => by
    have := List.all_eq_true.1 (List.all_eq_true.1 hap i hi) j hj
    rw [h1, h2] at this
    simpa using this
  intro f
  induction f with
  | zero =>
    intro R vals listed a w _ hR hfM hmem I
    have hall : ∀ j ∈ hd.map (·.1), listed.getD j false = true := fun j hj => by
      cases h : listed.getD j false with
      | true => rfl
      | false =>
        have := (hmem j).2 ⟨hj, h⟩
        rw [List.length_eq_zero_iff.1 hR] at this
        cases this
    have hli : listed = heldP ops (pre ++ hd.map (·.1)) := by
      refine Array.ext_getElem? fun j => ?_
      have hs := I.inv.size
      by_cases hj : j < ops.size
      · have hjl : j < listed.size := by omega
        have h1 : listed.getD j false = (pre ++ hd.map (·.1)).contains j := by
          by_cases hm : j ∈ hd.map (·.1)
          · rw [hall j hm]; symm; simp only [List.contains_iff_mem, List.mem_append]; exact .inr hm
          · rw [I.rest j hm, Bool.eq_iff_iff]; simp only [List.contains_iff_mem, List.mem_append]; exact ⟨fun h => .inl h, fun h => h.resolve_right hm⟩
        have h2 : listed[j]? = some (listed.getD j false) := by simp [hjl]
        rw [h2, h1]
        simp [heldP, hj]
      · have hjl : ¬ j < listed.size := by omega
        simp [heldP, hj, hjl]
    refine ⟨by rw [hli]; exact hfin, ?_⟩
    have h1 := allP_inst (vals := vals) _ _ (hK w (by simpa using I.s)) (fun j hj => I.hold j (by simpa using hj) (hall j (by simpa using hj)))
    have he : a = canP ops vals ((hd.map (·.1)).reverse ++ []) a0 := by
      have ht : a.tmps = (canP ops vals ((hd.map (·.1)).reverse ++ []) a0).tmps := by
        refine Array.ext_getElem? fun t => ?_
        by_cases hw : ∃ j ∈ hd.map (·.1), dstP ops j = some t
        · obtain ⟨j, hj, hjt⟩ := hw
          rw [I.put j hj (hall j hj) t hjt, can_new vals hjt _ _ (by simpa using hj) (fun k hk hkt => hap' k (by simpa using hk) j hj t hkt hjt)]
        · rw [I.old t (fun j hj _ he => hw ⟨j, hj, he⟩), can_old vals _ _ (fun j hj he => hw ⟨j, by simpa using hj, he⟩)]
      have hdf := I.defers
      have hdc := can_defers (ops := ops) vals ((hd.map (·.1)).reverse ++ []) a0
      cases a
      generalize canP ops vals ((hd.map (·.1)).reverse ++ []) a0 = c at *
      cases c
      simp only at ht hdf hdc
      rw [ht, hdf, hdc]
    rw [he]
    exact h1
  | succ f ih =>
    intro R vals listed a w hRn hR hfM hmem I
    have hne : ∃ j ∈ hd.map (·.1), listed.getD j false = false := by
      cases R with
      | nil => cases hR
      | cons j r => exact ⟨j, (hmem j).1 (by simp)⟩
    obtain ⟨i0, hi0⟩ := ready_someQ I.inv.size (fun j hj => by rw [I.rest j (fun hm => hnp j hm hj)]; simpa using hj) hd [] hok (fun j hj => by cases hj) hne
    refine ⟨fun h => (by rw [h] at hi0; cases hi0), fun i hi => ?_⟩
    obtain ⟨hun, oi, hoi, haf⟩ := mem_ready.1 hi
    have hunl := getD_bothT hun
    have hiH : i ∈ hd.map (·.1) := by
      by_cases hc : (hd.map (·.1)).contains i = true
      · simpa using hc
      · exfalso
        obtain ⟨j, hj, hjl⟩ := hne
        have h1 := hN i (Array.getElem?_eq_some_iff.1 hoi).1 (by rw [← I.rest i (fun hm => hc (by simpa using hm))]; exact hunl) (by simpa using hc) j hj
        have h2 := needs_listed I.inv F i j h1 (fun o ho e he hb => by
          have : o = oi := Option.some.inj (ho.symm.trans hoi)
          subst this; exact haf e he hb)
        rw [h2] at hjl; cases hjl
    refine ⟨by simpa using hiH, ?_⟩
    obtain ⟨D, hD, _⟩ := resP_fst hd [] i hiH
    obtain ⟨hmon, o, ho, hstep⟩ := hob (i, D) hD
    have : o = oi := Option.some.inj (ho.symm.trans hoi)
    subst this
    have hs := hsee (i, D) hD
    unfold seesP at hs
    simp only [ho, Bool.and_eq_true] at hs
    have hDl : ∀ j ∈ D, listed.getD j false = true := fun j hj => needs_listed I.inv F i j (List.all_eq_true.1 hs.1 j hj) (fun o' ho' e he hb => by
      have : o' = o := Option.some.inj (ho'.symm.trans hoi)
      subst this; exact haf e he hb)
    have hDH : ∀ j ∈ D, j ∈ hd.map (·.1) := fun j hj => by
      by_cases hc : j ∈ hd.map (·.1)
      · exact hc
      · exfalso
        obtain ⟨_, hDm⟩ := resP_mem hd [] i D hD
        rcases hDm j hj with h | h
        · cases h
        · exact hc h
    have hst := allP_inst (vals := vals) D a0 (hstep (M - (f + 1)) w (by omega) I.s) (fun j hj => I.hold j (hDH j hj) (hDl j hj))
    have hlook : ∀ t ∈ o.looksAt ops, a.tmps[t]? = (canP ops vals D a0).tmps[t]? := fun t ht => by
      have h1 := List.all_eq_true.1 hs.2 t ht
      by_cases hw : ∃ j ∈ hd.map (·.1), listed.getD j false = true ∧ dstP ops j = some t
      · obtain ⟨j, hj, hjl, hjt⟩ := hw
        have h2 := List.all_eq_true.1 h1 j hj
        rw [hjt] at h2
        simp only [beq_self_eq_true, Bool.not_true, Bool.false_or, Bool.or_eq_true] at h2
        have hjD : j ∈ D := by
          rcases h2 with h2 | h2 | h2
          · simpa using h2
          · have : j = i := by simpa using h2
            subst this; rw [hunl] at hjl; cases hjl
          · have hjo : ∃ oj, ops[j]? = some oj := by
              unfold dstP at hjt
              cases hh : ops[j]? with
              | none => rw [hh] at hjt; cases hjt
              | some oj => exact ⟨oj, rfl⟩
            have h3 := needs_listed I.inv F j i h2 (fun oj hoj e he hb => I.inv.closed j oj hoj hjl e he hb)
            rw [hunl] at h3; cases h3
        rw [I.put j hj hjl t hjt, can_new vals hjt D a0 hjD (fun k hk hkt => hap' k (hDH k hk) j hj t hkt hjt)]
      · rw [I.old t (fun j hj hjl he => hw ⟨j, hj, hjl, he⟩), can_old vals D a0 (fun j hj he => hw ⟨j, hDH j hj, hDl j hj, he⟩)]
    have hexec : execOp (canP ops vals D a0).eval o = execOp a.eval o := execOp_congr o (fun cs b => Region.noSelect_spec hsel i o cs b hoi) fun x hx => by
      cases x with
      | tmp t =>
        have := hlook t (List.mem_append_left _ (List.mem_filterMap.2 ⟨.tmp t, by simpa using hx, rfl⟩))
        simp only [Act.eval, Array.getD_eq_getD_getElem?]
        rw [this]
      | _ => rfl
    have hwant : Region.wanted o (yielded ops (canP ops vals D a0).tmps) = Region.wanted o (yielded ops a.tmps) := by
      unfold Region.wanted
      cases hg : o.guard with
      | none => rfl
      | some gw =>
        obtain ⟨g, want⟩ := gw
        have hy : yielded ops (canP ops vals D a0).tmps g = yielded ops a.tmps g := by
          unfold yielded
          cases ht : (ops[g]?).bind (·.dst) with
          | none => rfl
          | some t =>
            have := hlook t (by simp [Oper.looksAt, hg, ht])
            simp only [Option.bind_some]
            rw [this]
        simp only [hy]
    have hdst : ∀ t, o.dst = some t → dstP ops i = some t := fun t h => by unfold dstP; rw [ho]; exact h
    have hdst' : dstP ops i = o.dst := by unfold dstP; rw [ho]; rfl
    -- what stands behind it
    have next : ∀ (v : Value) (w' : World), (sp i).holds v w' → G w w' → S (M - (f + 1) + 1) w' →
        (fun _ => True) w' ∧ wpAnyT P ops Q (fun _ => True) (fun i => (hd.map (·.1)).contains i) (fun listed' a' w' => seqI ops tl listed' = true ∧ K a' w') f (listed.setIfInBounds i true) (a.put o.dst v) w' := by
      intro v w' hv hb hs1
      refine ⟨trivial, ih (R.erase i) (fun j => if j = i then v else vals j) _ _ w' (hRn.erase i) ?_ (by omega) (fun j => ?_) ⟨I.inv.set hi, (by rw [show M - f = M - (f + 1) + 1 by omega]; exact hs1), fun j hj => ?_, ?_, fun j hj hjl => ?_, fun j hj hjl t hjt => ?_, fun t ht => ?_⟩⟩
      · rw [List.length_erase_of_mem ((hmem i).2 ⟨hiH, hunl⟩), hR]; rfl
      · rw [hRn.mem_erase_iff, hmem j]
        constructor
        · rintro ⟨hji, h1, h2⟩
          exact ⟨h1, by rw [getD_set_ne false (Ne.symm hji)]; exact h2⟩
        · rintro ⟨h1, h2⟩
          by_cases hji : j = i
          · subst hji
            have hl : j < listed.size := by have := I.inv.size; have := hlt j hiH; omega
            simp [hl] at h2
          · exact ⟨hji, h1, by rw [getD_set_ne false (Ne.symm hji)] at h2; exact h2⟩
      · have hji : j ≠ i := fun e => hj (e ▸ hiH)
        rw [getD_set_ne false (Ne.symm hji)]; exact I.rest j hj
      · rw [← I.defers]
        cases o.dst <;> rfl
      · by_cases hji : j = i
        · subst hji; simpa using hv
        · simp only [hji, if_false]
          rw [getD_set_ne false (Ne.symm hji)] at hjl
          have hmj : MonoQ G (sp j) := by
            obtain ⟨D', hD', _⟩ := resP_fst hd [] j hj
            exact (hob (j, D') hD').1
          exact hmj _ w w' hb (I.hold j hj hjl)
      · by_cases hji : j = i
        · subst hji
          simp only [if_true]
          rw [hdst'] at hjt
          rw [hjt, put_get_same]
          have := I.old t (fun k hk hkl hkt => by
            have := hap' k hk j hj t hkt (by rw [hdst']; exact hjt)
            subst this; rw [hunl] at hkl; cases hkl)
          rw [this]
        · simp only [hji, if_false]
          rw [getD_set_ne false (Ne.symm hji)] at hjl
          have hdi : o.dst ≠ some t := fun e => hji (hap' j hj i hiH t hjt (hdst t e))
          rw [put_get_ne hdi]
          exact I.put j hj hjl t hjt
      · have hdi : o.dst ≠ some t := fun e => ht i hiH (by
          have hl : i < listed.size := by have := I.inv.size; have := hlt i hiH; omega
          simp [hl]) (hdst t e)
        rw [put_get_ne hdi]
        refine I.old t fun j hj hjl => ht j hj ?_
        exact getD_set_true hjl
    unfold wpOp
    simp only [ho]
    unfold stepQ at hst
    rw [hwant] at hst
    split
    · rename_i hwt
      rw [if_pos hwt] at hst
      refine .inl ?_
      unfold Oper.wp at hst ⊢
      rw [hexec] at hst
      exact upon_moveP (R := fun v w' => (sp i).holds v w' ∧ G w w' ∧ S (M - (f + 1) + 1) w') hQ (fun t ht => by rw [can_size]; exact hsz i hiH t (hdst t ht)) (fun v w' h => next v w' h.1 h.2.1 h.2.2) _ hst
    · rename_i hwt
      rw [if_neg hwt] at hst
      exact next undef w hst (hgq.refl _) (hgq.up _ _ I.s)
/-- operations ahead of the region that yield the same in every world -/
def wpPre (P : Program) (K : Act → Prop) : List Oper → Act → Prop
  | [], a => K a
  | o :: r, a => ∃ v, (∀ w, (execOp a.eval o).run P w = .ok (.value v) w) ∧ wpPre P K r (a.put o.dst v)
theorem wpAny_of_pre {l : List Oper} (hl : ops = l.toArray) (hsel : Region.noSelect ops = true) (hQ : ∀ c (a a' : Act) w, Q (.panic c) a w → Q (.panic c) a' w) {w : World} :
    ∀ (pre : List Nat) (n : Nat) (listed : Array Bool) (a : Act), preQ ops pre listed = true → (∀ i ∈ pre, ∀ o, ops[i]? = some o → o.guard = none) → wpPre P (fun a' => wpAny P .any ops Q n (listQ pre listed) a' w) (pickN l pre) a → wpAny P .any ops Q (pre.length + n) listed a w
  | [], n, listed, a, _, _, h => by simpa [pickN, wpPre, listQ] using h
  | i :: r, n, listed, a, hB, hg, h => by
    simp only [preQ, Bool.and_eq_true] at hB
    obtain ⟨hr, hf, hB⟩ := hB
    have hr' : i ∈ Region.ready .any ops listed := by simpa using hr
    obtain ⟨oi, hli, hoi⟩ := ready_get hl hr'
    unfold pickN at h
    rw [hli] at h
    obtain ⟨v, hy, h⟩ := h
    have ih := wpAny_of_pre hl hsel hQ r n (listed.setIfInBounds i true) (a.put oi.dst v) hB (fun j hj => hg j (List.mem_cons_of_mem _ hj)) h
    rw [show (i :: r).length + n = (r.length + n) + 1 by simp; omega]
    exact wpAny_first hoi (Region.noSelect_spec hsel) (fun c a w h => hQ c _ _ w h) _ listed a w (Region.free_spec hoi hf) hr' (.inl ⟨wanted_free (hg i (by simp) oi hoi) a, hy⟩) ih
theorem listQ_get : ∀ (pre : List Nat) (listed : Array Bool) (j : Nat), (∀ i ∈ pre, i < listed.size) → (listQ pre listed).getD j false = (pre.contains j || listed.getD j false) ∧ (listQ pre listed).size = listed.size
  | [], listed, j, _ => by simp [listQ]
  | i :: r, listed, j, h => by
    obtain ⟨h1, h2⟩ := listQ_get r (listed.setIfInBounds i true) j (fun k hk => by simpa using h k (List.mem_cons_of_mem _ hk))
    refine ⟨?_, by show (listQ r _).size = _; rw [h2]; simp⟩
    show (listQ r _).getD j false = _
    rw [h1]
    by_cases hij : i = j
    · subst hij
      have hi : i < listed.size := h i (by simp)
      simp [hi]
    · rw [getD_set_ne false hij]
      have h3 : ¬ j = i := fun e => hij e.symm
      simp [List.contains_cons, h3]
/-- each operation by itself serves for all orders; some reads go ahead -/
theorem wp_region_Q1 {id : Nat} {a : Act} {w : World} {l : List Oper} (G : World → World → Prop) (S : Nat → World → Prop) (F : Nat) (pre : List Nat) (hd : List (Nat × List Nat)) (tl : List Nat) (hm : P.follows .mixedOrders = true) (hB : checkQ l.toArray F pre hd tl = true) (hpre : preQ l.toArray pre (Array.replicate l.toArray.size false) = true)
    (hpg : (pre.all fun i => match l.toArray[i]? with | some o => o.guard.isNone && (afters l.toArray i).all (fun j => pre.contains j) | none => false) = true) (hsz : (hd.all fun x => match dstP l.toArray x.1 with | some d => decide (d < a.tmps.size) | none => true) = true) (hn : l.length = pre.length + (hd.length + tl.length))
    (hQ : ∀ c (a a' : Act) w, Q (.panic c) a w → Q (.panic c) a' w) (hgq : GoodQ G S) (hS : S 0 w.drew)
    (h : wpPre P (fun a' => a'.tmps.size = a.tmps.size → chainQ P l.toArray Q G S hd.length (fun a' w' => wpList P l.toArray Q (pickN l tl) a' w') a' [] (pickP l hd)) (pickN l pre) a) : (Code.region id l.toArray true).wp P Q a w := by
  simp only [checkQ, Bool.and_eq_true] at hB
  obtain ⟨hsel, hT, hN, hok, hsee, hap, hfin⟩ := hB
  obtain ⟨hnd, _, hlt, hnp⟩ := okQ_nodup hd [] hok
  have hrep : ∀ j, (Array.replicate l.toArray.size false).getD j false = false := fun j => by
    rw [Array.getD_eq_getD_getElem?, Array.getElem?_replicate]
    by_cases hj : j < l.toArray.size
    · rw [if_pos hj]; rfl
    · rw [if_neg hj]; rfl
  have hpl : ∀ i ∈ pre, ∃ o, l.toArray[i]? = some o ∧ o.guard = none ∧ ∀ j ∈ afters l.toArray i, j ∈ pre := fun i hi => by
    have := List.all_eq_true.1 hpg i hi
    cases ho : l.toArray[i]? with
    | none => rw [ho] at this; cases this
    | some o =>
      rw [ho] at this
      simp only [Bool.and_eq_true] at this
      exact ⟨o, rfl, by simpa using this.1, fun j hj => by have := List.all_eq_true.1 this.2 j hj; simpa using this⟩
  have hlq := fun j => listQ_get pre (Array.replicate l.toArray.size false) j (fun i hi => by obtain ⟨o, ho, _⟩ := hpl i hi; simpa using (Array.getElem?_eq_some_iff.1 ho).1)
  refine wp_region_any hm ?_
  rw [show l.toArray.size = pre.length + (hd.length + tl.length) by simpa using hn]
  rw [show Array.replicate (pre.length + (hd.length + tl.length)) false = Array.replicate l.toArray.size false by rw [show l.toArray.size = pre.length + (hd.length + tl.length) by simpa using hn]]
  refine wpAny_of_pre (l := l) rfl hsel hQ pre (hd.length + tl.length) _ a hpre (fun i hi o ho => by obtain ⟨o', ho', hg, _⟩ := hpl i hi; rw [ho'] at ho; cases ho; exact hg) ?_
  -- what follows the reads
  suffices key : ∀ (os : List Oper) (b : Act), b.tmps.size = a.tmps.size → wpPre P (fun a' => a'.tmps.size = a.tmps.size → chainQ P l.toArray Q G S hd.length (fun a' w' => wpList P l.toArray Q (pickN l tl) a' w') a' [] (pickP l hd)) os b →
      wpPre P (fun a' => wpAny P .any l.toArray Q (hd.length + tl.length) (listQ pre (Array.replicate l.toArray.size false)) a' w.drew) os b from key _ a rfl h
  intro os
  induction os with
  | nil =>
    intro b hbs hh
    have h' := hh hbs
    obtain ⟨sp, _, h2, h3⟩ := chainQ_spec (ops := l.toArray) rfl hd [] (fun _ => .val undef) hok (by simpa using h')
    have H := wpAnyT_of_Q (P := P) (Q := Q) (G := G) (S := S) (M := hd.length) (K := fun a' w' => wpList P l.toArray Q (pickN l tl) a' w') (a0 := b) hgq (pre := pre) (F := F) (hd := hd) (tl := tl) (sp := sp) hsel hQ rfl
      (fun k hk => by have := List.all_eq_true.1 hT k hk; simpa using this)
      (fun k hk hp hc i hi => by
        have := List.all_eq_true.1 hN k (List.mem_range.2 hk)
        rw [hp, hc, Bool.false_or, Bool.false_or] at this
        exact List.all_eq_true.1 this i hi)
      hok (fun x hx => List.all_eq_true.1 hsee x hx) hap hfin
      (fun i hi t ht => by
        obtain ⟨x, hx, rfl⟩ := List.mem_map.1 hi
        have := List.all_eq_true.1 hsz x hx
        rw [ht] at this
        rw [hbs]
        simpa using this) h2 h3
      hd.length (hd.map (·.1)) (fun _ => undef) (listQ pre (Array.replicate l.toArray.size false)) b w.drew hnd (by simp) (Nat.le_refl _)
      (fun j => ⟨fun hj => ⟨hj, by rw [(hlq j).1, hrep j]; simpa using hnp j hj⟩, fun hj => hj.1⟩)
      ⟨⟨by rw [(hlq 0).2]; simp, fun j oj ho hl e he hb => by
          rw [(hlq j).1, hrep j, Bool.or_false] at hl
          rw [(hlq e.on).1]
          obtain ⟨o', ho', _, haf⟩ := hpl j (by simpa using hl)
          have := haf e.on (by unfold afters; rw [ho]; exact List.mem_map.2 ⟨e, List.mem_filter.2 ⟨by simpa using he, hb⟩, rfl⟩)
          rw [show pre.contains e.on = true by simpa using this]; rfl⟩, (by rw [Nat.sub_self]; exact hS), fun j _ => by rw [(hlq j).1, hrep j, Bool.or_false], rfl, fun j hj hl => (by rw [(hlq j).1, hrep j, Bool.or_false] at hl; exact absurd (by simpa using hl) (hnp j hj)), fun j hj hl => (by rw [(hlq j).1, hrep j, Bool.or_false] at hl; exact absurd (by simpa using hl) (hnp j hj)), fun t _ => rfl⟩
    exact wpAny_of_T (g := tl.length) (fun listed' a' w' hL => wpAny_of_seqI (P := P) (Q := Q) (l := l) rfl tl listed' a' w' hL.1 hL.2) hd.length _ b w.drew H
  | cons o r ih =>
    intro b hbs hh
    obtain ⟨v, hv, hr⟩ := hh
    exact ⟨v, hv, ih _ (by rw [← hbs]; cases o.dst <;> simp [Act.put]) hr⟩
/-- the same, with no read ahead -/
theorem wp_region_Q {id : Nat} {a : Act} {w : World} {l : List Oper} (G : World → World → Prop) (S : Nat → World → Prop) (F : Nat) (hd : List (Nat × List Nat)) (tl : List Nat) (hm : P.follows .mixedOrders = true) (hB : checkQ l.toArray F [] hd tl = true) (hsz : (hd.all fun x => match dstP l.toArray x.1 with | some d => decide (d < a.tmps.size) | none => true) = true) (hn : l.length = hd.length + tl.length)
    (hQ : ∀ c (a a' : Act) w, Q (.panic c) a w → Q (.panic c) a' w) (hgq : GoodQ G S) (hS : S 0 w.drew)
    (h : chainQ P l.toArray Q G S hd.length (fun a' w' => wpList P l.toArray Q (pickN l tl) a' w') a [] (pickP l hd)) : (Code.region id l.toArray true).wp P Q a w :=
  wp_region_Q1 G S F [] hd tl hm hB rfl rfl hsz (by simpa using hn) hQ hgq hS (fun _ => h)
end
attribute [irreducible] chainQ
/-- a region that draws from a cursor (block g): each operation moves it by at most c -/
def DrawS (U W : World) (g : Nat) (n : Int) (c : Nat) (C : World → Prop) (m : Nat) (w' : World) : Prop := Within g (g + 1) W w' ∧ Cur U w' g (n + (m * c : Nat)) ∧ C w'
theorem DrawS.good (U W : World) (g : Nat) (n : Int) (c : Nat) (C : World → Prop) : GoodQ (Within g (g + 1)) (DrawS U W g n c C) :=
  ⟨fun w => Within.refl _ _ _, fun m w h => ⟨h.1, h.2.1.mono (by have : m * c ≤ (m + 1) * c := Nat.mul_le_mul_right _ (Nat.le_succ m); omega), h.2.2⟩⟩
end Go.Proofs.Ytacpnphfopmofaa
namespace Go.Proofs.Ytacpnphfopmofaa
open Go.RowKit
set_option linter.unusedSimpArgs false
set_option linter.unusedVariables false

theorem Since.mono {B B' : Nat} {w : World} {P : World → Prop} (h : Since B w P) (hB : B' ≤ B) : Since B' w P := fun w' hs hb => h w' hs fun k hk hlt => hb k (by omega) hlt
theorem Within.setNew {lo hi : Nat} {w u : World} (h : Within lo hi w u) {b : Nat} (hb : w.heap.size ≤ b) (j : Nat) (x : Value) : Within lo hi w (u.setCell ⟨b, j, none⟩ x) :=
  h.belowStep ((Below.refl w.heap.size u).setCell (p := ⟨b, j, none⟩) hb x)
theorem Cur.setNew {w0 u : World} {g : Nat} {n : Int} (h : Cur w0 u g n) {b : Nat} (hb : g < b) (j : Nat) (x : Value) : Cur w0 (u.setCell ⟨b, j, none⟩ x) g n := by
  obtain ⟨h1, v, p, s, hB, h2⟩ := h
  exact ⟨h1, v, p, s, hB.other (by omega) j x, h2⟩
end Go.Proofs.Ytacpnphfopmofaa
namespace Go.Proofs.Ytacpnphfopmofaa
open Go.RowKit
set_option linter.unusedSimpArgs false
set_option linter.unusedVariables false

noncomputable def cntB (gr : GroupD) : Bool := decide (gr.q ≤ 23) && goodG gr
theorem impl_isCounted (gr : GroupD) (w : World) :
    Calls Try.prog 46 #[.agg #[.int .i64 gr.p, .int .i64 gr.q, .int .i64 gr.g]] w fun e w' => e = .returned (.bool (cntB gr)) ∧ Below w.heap.size w w' := by
  obtain ⟨W, hW⟩ : ∃ W, W = w.alloc (.cells #[.int .i64 gr.p, .int .i64 gr.q, .int .i64 gr.g] 24) := ⟨_, rfl⟩
  have HB : Hid (Below w.heap.size w W) := by unfold Hid; rw [hW]; exact (Below.refl _ _).alloc (Nat.le_refl _) _
  have HGB : Hid (BoxN W w.heap.size 24 [.int .i64 gr.p, .int .i64 gr.q, .int .i64 gr.g]) := by unfold Hid; rw [hW]; exact BoxN.new w [.int .i64 gr.p, .int .i64 gr.q, .int .i64 gr.g] _
  by_cases h : gr.q ≤ 23
  · have HE : Hid (cntB gr = goodG gr) := by unfold Hid cntB; rw [decide_eq_true h]; rfl
    rw [HE.out]
    have hd : decide (gr.q ≤ 23) = true := decide_eq_true h
    go_enter Try.func46, Try.ntmps46
    go_wp2_with fail
    rw [← hW]
    clear hW
    have g0 := HGB.out.cell (i := 0) rfl
    have g1 := HGB.out.cell (i := 1) rfl
    have g2 := HGB.out.cell (i := 2) rfl
    try (go_wp2_with fail)
    refine (impl_IsValidGroup gr W).mono ?_
    rintro e w1 ⟨rfl, hb⟩
    have HB1 := Lib.hid (HB.out.trans (hb.mono HB.out.size))
    clear hb g0 g1 g2
    go_wp2_with fail
    go_ret
    exact ⟨rfl, HB1.out⟩
  · have HE : Hid (cntB gr = false) := by unfold Hid cntB; rw [decide_eq_false h]; rfl
    rw [HE.out]
    have hd : decide (gr.q ≤ 23) = false := decide_eq_false h
    go_enter Try.func46, Try.ntmps46
    go_wp2_with fail
    rw [← hW]
    clear hW
    have g0 := HGB.out.cell (i := 0) rfl
    have g1 := HGB.out.cell (i := 1) rfl
    have g2 := HGB.out.cell (i := 2) rfl
    try (go_wp2_with fail)
    go_ret
    exact ⟨rfl, HB.out⟩
set_option maxRecDepth 100000 in
set_option maxHeartbeats 1000000 in
theorem spec_counted (w0 : World) (g : Nat) (n : Int) (w : World) (h : Cur w0 w g n) (hb : Below w0.heap.size w0 w) (hn : n ≤ 900000000000000) :
    Calls Try.prog 43 #[.pointer (some ⟨g, 0, none⟩)] w fun e w' => (∃ P Q G : Int, e = .returned (.agg #[.int .i64 P, .int .i64 Q, .int .i64 G]) ∧ (-7 ≤ P ∧ P ≤ 2000000010) ∧ (-7 ≤ Q ∧ Q ≤ 2000000010) ∧ (-7 ≤ G ∧ G ≤ 2000000010)) ∧ Cur w0 w' g (n + 20) ∧ Within g (g + 1) w w' := by
  have hgl := h.lt
  have hge := h.ge
  obtain ⟨W, hW⟩ : ∃ W, W = w.alloc (.cells #[.int .i64 0, .int .i64 0, .int .i64 0] 24) := ⟨_, rfl⟩
  have hbW : Below w.heap.size w W := by rw [hW]; exact (Below.refl _ _).alloc (Nat.le_refl _) _
  have HX : Hid (BoxN W w.heap.size 24 [.int .i64 0, .int .i64 0, .int .i64 0]) := by unfold Hid; rw [hW]; exact BoxN.new w [.int .i64 0, .int .i64 0, .int .i64 0] _
  have hsW : w.heap.size < W.heap.size := by rw [hW]; simp
  have HC := Lib.hid (h.keep hbW)
  have HWW : Hid (Within g (g + 1) w W) := Within.of_below hbW
  have HB1 : Hid (Below w0.heap.size w0 W) := hb.trans (hbW.mono hb.size)
  clear h hb hbW
  go_enter Try.func43, Try.ntmps43
  go_wp2_with fail
  rw [← hW]
  clear hW
  try (go_wp2_with fail)
  refine (spec_one w0 g _ 12 _ HC.out HB1.out (by omega)).mono ?_
  rintro e w1 ⟨⟨q, rfl⟩, hc, hw⟩
  have hs1 := hw.size
  replace HX := Lib.hid (HX.out.kept hw (.inr (by omega)))
  have HC1 := Lib.hid hc
  have HW1 := Lib.hid (HWW.out.trans hw)
  have HB2 := Lib.hid (hw.belowOf HB1.out hge)
  clear hc hw
  have r0 := HX.out.cell (i := 0) rfl
  cases q with
  | false =>
    clear r0
    go_wp2_with fail
    refine (spec_tiny w0 g _ _ HC1.out HB2.out (by omega)).mono ?_
    rintro e w2 ⟨⟨P, Q, G, rfl, P1, Q1, G1⟩, hc, hw⟩
    have hs2 := hw.size
    replace HX := Lib.hid (HX.out.kept hw (.inr (by omega)))
    have HC2 := Lib.hid hc
    have HW2 := Lib.hid (HW1.out.trans hw)
    clear hc hw
    have r0 := HX.out.cell (i := 0) rfl
    have r1 := HX.out.cell (i := 1) rfl
    have r2 := HX.out.cell (i := 2) rfl
    have fr := fun j => HX.out.frozen j
    go_wp2_with fail
    have HX9 := Lib.hid (((HX.out.set 0 (.int .i64 P)).set 1 (.int .i64 Q)).set 2 (.int .i64 G))
    have x0 := HX9.out.cell (i := 0) rfl
    have x1 := HX9.out.cell (i := 1) rfl
    have x2 := HX9.out.cell (i := 2) rfl
    clear r0 r1 r2 fr
    try (go_wp2_with fail)
    refine bodyPost_ret (v := .agg #[.int .i64 P, .int .i64 Q, .int .i64 G]) (by simp [results, Try.results43, go_sem, x0, x1, x2]) rfl ⟨⟨P, Q, G, rfl, ⟨by omega, by omega⟩, ⟨by omega, by omega⟩, ⟨by omega, by omega⟩⟩, (((HC2.out.setNew (b := w.heap.size) (by omega) 0 _).setNew (b := w.heap.size) (by omega) 1 _).setNew (b := w.heap.size) (by omega) 2 _).mono (by omega), ((HW2.out.setNew (b := w.heap.size) (Nat.le_refl _) 0 _).setNew (b := w.heap.size) (Nat.le_refl _) 1 _).setNew (b := w.heap.size) (Nat.le_refl _) 2 _⟩
  | true =>
    clear r0
    go_wp2_with fail
    refine (spec_anyGroup w0 g _ _ HC1.out HB2.out (by omega)).mono ?_
    rintro e w2 ⟨⟨P, Q, G, rfl, P1, Q1, G1⟩, hc, hw⟩
    have hs2 := hw.size
    replace HX := Lib.hid (HX.out.kept hw (.inr (by omega)))
    have HC2 := Lib.hid hc
    have HW2 := Lib.hid (HW1.out.trans hw)
    clear hc hw
    have r0 := HX.out.cell (i := 0) rfl
    have r1 := HX.out.cell (i := 1) rfl
    have r2 := HX.out.cell (i := 2) rfl
    have fr := fun j => HX.out.frozen j
    go_wp2_with fail
    have HX9 := Lib.hid (((HX.out.set 0 (.int .i64 P)).set 1 (.int .i64 Q)).set 2 (.int .i64 G))
    have x0 := HX9.out.cell (i := 0) rfl
    have x1 := HX9.out.cell (i := 1) rfl
    have x2 := HX9.out.cell (i := 2) rfl
    clear r0 r1 r2 fr
    try (go_wp2_with fail)
    refine bodyPost_ret (v := .agg #[.int .i64 P, .int .i64 Q, .int .i64 G]) (by simp [results, Try.results43, go_sem, x0, x1, x2]) rfl ⟨⟨P, Q, G, rfl, ⟨by omega, by omega⟩, ⟨by omega, by omega⟩, ⟨by omega, by omega⟩⟩, (((HC2.out.setNew (b := w.heap.size) (by omega) 0 _).setNew (b := w.heap.size) (by omega) 1 _).setNew (b := w.heap.size) (by omega) 2 _).mono (by omega), ((HW2.out.setNew (b := w.heap.size) (Nat.le_refl _) 0 _).setNew (b := w.heap.size) (Nat.le_refl _) 1 _).setNew (b := w.heap.size) (Nat.le_refl _) 2 _⟩
set_option maxRecDepth 100000 in
set_option maxHeartbeats 4000000 in
theorem spec_DrawRealTranscripts (v : Value) (w : World) (h : Bytes w v) :
    Calls Try.prog 7 #[v] w fun e w' => (∃ (P : Int) (Q : Int) (G : Int) (xr1 : Int) (xr2 : Int), e = .returned (.tuple #[.agg #[.int .i64 P, .int .i64 Q, .int .i64 G], .int .i64 xr1, .int .i64 xr2]) ∧ GrB ⟨P, Q, G⟩ ∧ (-10 ≤ xr1 ∧ xr1 ≤ 2000000010) ∧ (-10 ≤ xr2 ∧ xr2 ≤ 2000000010)) ∧ Below w.heap.size w w' := by
  obtain ⟨a, m, c, rfl, hk1, hk2, hv⟩ := h
  have HY : Hid (Bytes w (.slice a m c)) := ⟨a, m, c, rfl, hk1, hk2, hv⟩
  clear hv
  unfold maxLen at hk2
  obtain ⟨U, hU⟩ : ∃ U, U = w.alloc (.cells #[.int .i64 0, .int .i64 0, .int .i64 0] 24) := ⟨_, rfl⟩
  have hbU : Below w.heap.size w U := by rw [hU]; (repeat (first | exact Below.refl _ _ | assumption | refine Below.drew ?_ | refine Below.alloc ?_ (by first | (simp; done) | (simp; omega)) _ | refine Below.setCell ?_ (by first | (simp; done) | (simp; omega)) _))
  have HX0 : Hid (BoxN U w.heap.size 24 [.int .i64 0, .int .i64 0, .int .i64 0]) := by unfold Hid; rw [hU]; have h := (BoxN.new w [.int .i64 0, .int .i64 0, .int .i64 0] 24); simpa using h
  have hsU : U.heap.size = w.heap.size + 1 := by rw [hU]; simp
  obtain ⟨W, hW⟩ : ∃ W, W = U.alloc (.cells #[.slice a m c, .int .i64 0, .int .u64 0] 85) := ⟨_, rfl⟩
  have HC : Hid (Cur U W U.heap.size 0) := by unfold Hid; rw [hW]; exact Cur.new U (HY.out.below hbU)
  have hbW : Below U.heap.size U W := by rw [hW]; exact (Below.refl _ _).alloc (Nat.le_refl _) _
  have HBW := Lib.hid (Below.next hbU hbW)
  have HUB := Lib.hid hbW
  replace HX0 := Lib.hid (HX0.out.below hbW)
  obtain ⟨g, hg⟩ : ∃ g, g = U.heap.size := ⟨_, rfl⟩
  have HSU : Hid (w.heap.size + 1 = g) := by unfold Hid; rw [hg, hsU]
  have HWS : Hid (W.heap.size = g + 1) := by unfold Hid; rw [hW, hg]; simp
  go_enter Try.func7, Try.ntmps7
  go_wp2_with fail
  rw [← hU, ← hW]
  rw [HSU.out]
  rw [← hg] at HC HUB
  have HUS : Hid (U.heap.size = g) := hg.symm
  have hwg : w.heap.size + 1 = g := HSU.out
  have hsW := HWS.out
  have HW := Lib.hid (Within.refl g (g + 1) W)
  have HUC : Hid (Below U.heap.size U W) := by unfold Hid; rw [HUS.out]; exact HUB.out
  clear hU hW hbU hbW hsU hg
  have z_0_0 := HX0.out.cell (i := 0) rfl
  have z_0_1 := HX0.out.cell (i := 1) rfl
  have z_0_2 := HX0.out.cell (i := 2) rfl
  try (go_wp2_with fail)
  clear z_0_0 z_0_1 z_0_2
  refine (spec_counted U g _ _ HC.out (HW.out.belowOf HUC.out (Nat.le_of_eq HUS.out)) (by omega)).mono ?_
  rintro e u1 ⟨⟨P, Q, G, rfl, P1, Q1, G1⟩, hc, hw⟩
  have HGR : Hid (GrB ⟨P, Q, G⟩) := ⟨P1, Q1, G1⟩
  clear P1 Q1 G1
  have hsz1 := hw.size
  replace HX0 := Lib.hid (HX0.out.kept hw (.inl (by omega)))
  replace HW := Lib.hid (HW.out.trans hw)
  replace HC := Lib.hid hc
  clear hc hw
  have z_0_0 := HX0.out.cell (i := 0) rfl
  have z_0_1 := HX0.out.cell (i := 1) rfl
  have z_0_2 := HX0.out.cell (i := 2) rfl
  have lt_HX0 := HX0.out.lt
  obtain ⟨V2, hV⟩ : ∃ V, V = u1.alloc (.cells #[.int .i64 P, .int .i64 Q, .int .i64 G] 24) := ⟨_, rfl⟩
  have hbV : Below u1.heap.size u1 V2 := by rw [hV]; (repeat (first | exact Below.refl _ _ | assumption | refine Below.drew ?_ | refine Below.alloc ?_ (by first | (simp; done) | (simp; omega)) _ | refine Below.setCell ?_ (by first | (simp; done) | (simp; omega)) _))
  have HZ1 : Hid (BoxN V2 u1.heap.size 24 [.int .i64 P, .int .i64 Q, .int .i64 G]) := by unfold Hid; rw [hV]; have h := (BoxN.new u1 [.int .i64 P, .int .i64 Q, .int .i64 G] 24); simpa using h
  have hgc : g < u1.heap.size := HC.out.lt
  go_wp2_with fail
  rw [← hV]
  have hsV2 : V2.heap.size = u1.heap.size + 1 := by rw [hV]; simp
  clear hV hgc
  replace HX0 := Lib.hid (HX0.out.below hbV)
  replace HW := Lib.hid (HW.out.trans (Within.of_below hbV))
  replace HC := Lib.hid (HC.out.keep hbV)
  clear hbV
  clear z_0_0 z_0_1 z_0_2
  clear lt_HX0
  have z_0_0 := HX0.out.cell (i := 0) rfl
  have z_0_1 := HX0.out.cell (i := 1) rfl
  have z_0_2 := HX0.out.cell (i := 2) rfl
  have z_1_0 := HZ1.out.cell (i := 0) rfl
  have z_1_1 := HZ1.out.cell (i := 1) rfl
  have z_1_2 := HZ1.out.cell (i := 2) rfl
  refine wp_region_noPanic ?_
  refine wp_region_Q (Within g (g + 1)) (DrawS U V2 g _ 1000000 (fun w' => w'.cell? ⟨u1.heap.size, 0, none⟩ = some (.int .i64 P) ∧ w'.cell? ⟨u1.heap.size, 1, none⟩ = some (.int .i64 Q) ∧ w'.cell? ⟨u1.heap.size, 2, none⟩ = some (.int .i64 G))) 12 [(0, []), (1, []), (2, []), (3, [1, 0]), (4, []), (5, []), (6, [1, 0])] [7, 8, 9] (by kernel_rfl) (by kernel_rfl) (by kernel_rfl) rfl (fun _ _ _ _ h => h) (DrawS.good _ _ _ _ _ _) ⟨(Within.refl _ _ _).drew, by simpa using HC.out.keep (Below.refl _ _).drew, ⟨box_at z_1_0 (Below.refl _ _).drew, box_at z_1_1 (Below.refl _ _).drew, box_at z_1_2 (Below.refl _ _).drew⟩⟩ ?_
  simp only [pickP, pickN, List.getElem?_cons_zero, List.getElem?_cons_succ]
  iterate 3 (refine' chainQ_read (DrawS.good _ _ _ _ _ _) _ rfl rfl (fun m w' hm' hS' => ?_) ?_; rotate_left; · (simp only [lookP, allP, Act.put, List.getElem?_cons_zero, List.getElem?_cons_succ, List.setIfInBounds_toArray, List.set_cons_zero, List.set_cons_succ]; (try dsimp only [DrawS] at hS'); go_simp; (try with_reducible rfl)))
  -- 3: call { callee := value (func 44), args := #[t13, t14], argTypes := #[82, 24] }
  refine chainQ_do (d := (some 15)) (fun v u => ∃ (xq3 : Int), v = (.int .i64 xq3) ∧ (-10 ≤ xq3 ∧ xq3 ≤ 2000000010)) (fun v w1 w2 hw h => h) rfl rfl (fun m w' hm' hS' => ?_) ?_
  · simp only [lookP, allP, Act.put, List.getElem?_cons_zero, List.getElem?_cons_succ, List.setIfInBounds_toArray, List.set_cons_zero, List.set_cons_succ]
    intro K hK
    replace hm' : m < 7 := hm'
    go_simp
    go_at_call 44
    refine (spec_anyElement U g _ P Q G _ hS'.2.1 (hS'.1.belowOf (HW.out.belowOf HUC.out (Nat.le_of_eq HUS.out)) (by have := HUS.out; omega)) (by omega) HGR.out).mono ?_
    rintro e u ⟨⟨xq3, rfl, xq3l, xq3u⟩, hc, hw⟩
    exact hK.out _ _ hw ⟨hS'.1.trans hw, hc.mono (by omega), ⟨within_at (hS'.1.trans hw) z_1_0 (.inr (by omega)), within_at (hS'.1.trans hw) z_1_1 (.inr (by omega)), within_at (hS'.1.trans hw) z_1_2 (.inr (by omega))⟩⟩ ⟨xq3, rfl, ⟨xq3l, xq3u⟩⟩
  iterate 2 (refine' chainQ_read (DrawS.good _ _ _ _ _ _) _ rfl rfl (fun m w' hm' hS' => ?_) ?_; rotate_left; · (simp only [lookP, allP, Act.put, List.getElem?_cons_zero, List.getElem?_cons_succ, List.setIfInBounds_toArray, List.set_cons_zero, List.set_cons_succ]; (try dsimp only [DrawS] at hS'); go_simp; (try with_reducible rfl)))
  -- 6: call { callee := value (func 45), args := #[t16, t17], argTypes := #[82, 24] }
  refine chainQ_do (d := (some 18)) (fun v u => ∃ (xq6 : Int), v = (.int .i64 xq6) ∧ (-10 ≤ xq6 ∧ xq6 ≤ 2000000010)) (fun v w1 w2 hw h => h) rfl rfl (fun m w' hm' hS' => ?_) ?_
  · simp only [lookP, allP, Act.put, List.getElem?_cons_zero, List.getElem?_cons_succ, List.setIfInBounds_toArray, List.set_cons_zero, List.set_cons_succ]
    intro K hK
    replace hm' : m < 7 := hm'
    go_simp
    go_at_call 45
    refine (spec_anyExpo U g _ P Q G _ hS'.2.1 (hS'.1.belowOf (HW.out.belowOf HUC.out (Nat.le_of_eq HUS.out)) (by have := HUS.out; omega)) (by omega) HGR.out).mono ?_
    rintro e u ⟨⟨xq6, rfl, xq6l, xq6u⟩, hc, hw⟩
    exact hK.out _ _ hw ⟨hS'.1.trans hw, hc.mono (by omega), ⟨within_at (hS'.1.trans hw) z_1_0 (.inr (by omega)), within_at (hS'.1.trans hw) z_1_1 (.inr (by omega)), within_at (hS'.1.trans hw) z_1_2 (.inr (by omega))⟩⟩ ⟨xq6, rfl, ⟨xq6l, xq6u⟩⟩
  refine chainQ_nil (fun u3 hS' => ?_)
  simp only [allP, Act.put, List.setIfInBounds_toArray, List.set_cons_zero, List.set_cons_succ]
  intro x6 hx6
  intro x3 hx3
  replace hS' : DrawS U V2 g _ 1000000 _ 7 u3 := hS'
  obtain ⟨hw, hc, hC⟩ := hS'
  obtain ⟨xq3, rfl, xq3l, xq3u⟩ := hx3
  obtain ⟨xq6, rfl, xq6l, xq6u⟩ := hx6
  have hsz3 := hw.size
  replace HX0 := Lib.hid (HX0.out.kept hw (.inl (by omega)))
  replace HZ1 := Lib.hid (HZ1.out.kept hw (.inr (by omega)))
  replace HW := Lib.hid (HW.out.trans hw)
  replace HC := Lib.hid hc
  clear hc hw hC
  clear z_0_0 z_0_1 z_0_2 z_1_0 z_1_1 z_1_2
  have r_HX0_0 := HX0.out.cell (i := 0) rfl
  have r_HX0_1 := HX0.out.cell (i := 1) rfl
  have r_HX0_2 := HX0.out.cell (i := 2) rfl
  have fr_HX0 := fun j => HX0.out.frozen j
  go_wp2_with fail
  refine NoPanic.normal ?_
  have FHX0 := Lib.hid (((HX0.out.set 0 (.int .i64 P)).set 1 (.int .i64 Q)).set 2 (.int .i64 G))
  clear r_HX0_0 r_HX0_1 r_HX0_2 fr_HX0
  have t_HX0_0 := FHX0.out.cell (i := 0) rfl
  have t_HX0_1 := FHX0.out.cell (i := 1) rfl
  have t_HX0_2 := FHX0.out.cell (i := 2) rfl
  try (go_wp2_with fail)
  have HYS := Lib.hid ((((Within.refl w.heap.size (w.heap.size + 1) u3).setCell (b := w.heap.size) (by omega) (by omega) 0 (.int .i64 P)).setCell (b := w.heap.size) (by omega) (by omega) 1 (.int .i64 Q)).setCell (b := w.heap.size) (by omega) (by omega) 2 (.int .i64 G))
  refine bodyPost_ret (v := .tuple #[.agg #[.int .i64 P, .int .i64 Q, .int .i64 G], .int .i64 xq3, .int .i64 xq6]) (by simp [results, Try.results7, go_sem, t_HX0_0, t_HX0_1, t_HX0_2]) rfl ⟨⟨_, _, _, _, _, rfl, HGR.out, ⟨by omega, by omega⟩, ⟨by omega, by omega⟩⟩, ((((HW.out.belowOf HBW.out (by omega)).setCell (p := ⟨w.heap.size, 0, none⟩) (by show w.heap.size ≤ w.heap.size; omega) (.int .i64 P)).setCell (p := ⟨w.heap.size, 1, none⟩) (by show w.heap.size ≤ w.heap.size; omega) (.int .i64 Q)).setCell (p := ⟨w.heap.size, 2, none⟩) (by show w.heap.size ≤ w.heap.size; omega) (.int .i64 G))⟩
end Go.Proofs.Ytacpnphfopmofaa
