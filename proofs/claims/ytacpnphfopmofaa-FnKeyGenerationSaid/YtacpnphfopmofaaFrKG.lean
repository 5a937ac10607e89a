/- A region that draws its order, walked once, as in RegP; the worlds move by a relation G, and what stands (S) may count the operations. No program is named here. -/
import Derived.Test.YtacpnphfopmofaaRegPKG
import Derived.Test.YtacpnphfopmofaaDrG0KG
import Derived.Test.YtacpnphfopmofaaDrG5KG
import Derived.Test.YtacpnphfopmofaaBaKG
namespace Go.Proofs.Ytacpnphfopmofaa
open Go.RowKit
set_option linter.unusedSimpArgs false
set_option linter.unusedVariables false

def MonoQ (G : World → World → Prop) (s : SpecP) : Prop := ∀ (v : Value) (w w' : World), G w w' → s.holds v w → s.holds v w'
def stepQ (P : Program) (ops : Array Oper) (Q : Exit → Act → World → Prop) (G : World → World → Prop) (S1 : World → Prop) (o : Oper) (s : SpecP) (w : World) (a : Act) : Prop :=
  if Region.wanted o (yielded ops a.tmps) = true then o.wp P a w (fun a' w' => ∃ v, a' = a.put o.dst v ∧ (s.holds v w' ∧ G w w' ∧ S1 w')) Q else s.holds undef w
def chainQ (P : Program) (ops : Array Oper) (Q : Exit → Act → World → Prop) (G : World → World → Prop) (S : Nat → World → Prop) (M : Nat) (K : Act → World → Prop) (a0 : Act) : List (Option Tmp × SpecP) → List (Oper × List Nat) → Prop
  | env, [] => ∀ w, S M w → allP w (fun a => K a w) env a0
  | env, (o, deps) :: r => ∃ s : SpecP, MonoQ G s ∧ (∀ m w, m < M → S m w → allP w (stepQ P ops Q G (S (m + 1)) o s w) (lookP env deps) a0) ∧ chainQ P ops Q G S M K a0 ((o.dst, s) :: env) r
def okQ (ops : Array Oper) (pre : List Nat) : List Nat → List (Nat × List Nat) → Bool
  | _, [] => true
  | E, (i, _) :: r => (decide (i < ops.size) && (!E.contains i && (!pre.contains i && (afters ops i).all fun j => E.contains j || pre.contains j))) && okQ ops pre (i :: E) r
def checkQ (ops : Array Oper) (F : Nat) (pre : List Nat) (hd : List (Nat × List Nat)) (tl : List Nat) : Bool :=
  Region.noSelect ops && ((tl.all fun k => !(hd.map (·.1)).contains k) && (((List.range ops.size).all fun k => pre.contains k || ((hd.map (·.1)).contains k || (hd.map (·.1)).all fun i => regNeeds ops F k i)) &&
    (okQ ops pre [] hd && ((resP [] hd).all (fun x => seesP ops F (hd.map (·.1)) x.1 x.2) && (apartP ops (hd.map (·.1)) && seqI ops tl (heldP ops (pre ++ hd.map (·.1))))))))
def preQ (ops : Array Oper) : List Nat → Array Bool → Bool
  | [], _ => true
  | i :: r, listed => (Region.ready .any ops listed).contains i && (Region.free .any ops listed i && preQ ops r (listed.setIfInBounds i true))
def listQ (pre : List Nat) (listed : Array Bool) : Array Bool := pre.foldl (fun l i => l.setIfInBounds i true) listed
section
variable {P : Program} {ops : Array Oper} {Q : Exit → Act → World → Prop} {G : World → World → Prop} {S : Nat → World → Prop} {M : Nat} {K : Act → World → Prop} {a0 : Act}
/-- the relation and what stands -/
structure GoodQ (G : World → World → Prop) (S : Nat → World → Prop) : Prop where
  refl : ∀ w, G w w
  up : ∀ m w, S m w → S (m + 1) w
theorem chainQ_nil {env : List (Option Tmp × SpecP)} (h : ∀ w, S M w → allP w (fun a => K a w) env a0) : chainQ P ops Q G S M K a0 env [] := h
/-- an operation whose value is known and that leaves the world as it is -/
theorem chainQ_readG (hgq : GoodQ G S) {o : Oper} {deps : List Nat} {r : List (Oper × List Nat)} {env : List (Option Tmp × SpecP)} {d : Option Tmp} (v : Value) (hd : o.dst = d)
    (h : ∀ m w, m < M → S m w → allP w (fun a => Region.wanted o (yielded ops a.tmps) = true ∧ (execOp a.eval o).run P w = .ok (.value v) w) (lookP env deps) a0)
    (hr : chainQ P ops Q G S M K a0 ((d, .val v) :: env) r) : chainQ P ops Q G S M K a0 env ((o, deps) :: r) := by
  subst hd
  refine ⟨.val v, fun _ _ _ _ h => h, fun m w hm hS => allP_mono (fun a ⟨h1, h2⟩ => ?_) _ _ (h m w hm hS), hr⟩
  unfold stepQ Oper.wp
  rw [if_pos h1, h2]
  exact ⟨v, rfl, rfl, hgq.refl _, hgq.up _ _ hS⟩
theorem chainQ_read (hgq : GoodQ G S) {o : Oper} {deps : List Nat} {r : List (Oper × List Nat)} {env : List (Option Tmp × SpecP)} {d : Option Tmp} (v : Value) (hd : o.dst = d) (hg : o.guard = none)
    (h : ∀ m w, m < M → S m w → allP w (fun a => (execOp a.eval o).run P w = .ok (.value v) w) (lookP env deps) a0)
    (hr : chainQ P ops Q G S M K a0 ((d, .val v) :: env) r) : chainQ P ops Q G S M K a0 env ((o, deps) :: r) :=
  chainQ_readG hgq v hd (fun m w hm hS => allP_mono (fun a h => ⟨wanted_free hg a, h⟩) _ _ (h m w hm hS)) hr
/-- an operation that leaves the world as it is and whose result has a property -/
theorem chainQ_haveG (hgq : GoodQ G S) {o : Oper} {deps : List Nat} {r : List (Oper × List Nat)} {env : List (Option Tmp × SpecP)} {d : Option Tmp} (p : Value → World → Prop)
    (hp : ∀ (v : Value) (w w' : World), G w w' → p v w → p v w') (hd : o.dst = d)
    (h : ∀ m w, m < M → S m w → allP w (fun a => Region.wanted o (yielded ops a.tmps) = true ∧ ∃ v, (execOp a.eval o).run P w = .ok (.value v) w ∧ p v w) (lookP env deps) a0)
    (hr : chainQ P ops Q G S M K a0 ((d, .pre p) :: env) r) : chainQ P ops Q G S M K a0 env ((o, deps) :: r) := by
  subst hd
  refine ⟨.pre p, hp, fun m w hm hS => allP_mono (fun a ⟨h1, v, h2, h3⟩ => ?_) _ _ (h m w hm hS), hr⟩
  unfold stepQ Oper.wp
  rw [if_pos h1, h2]
  exact ⟨v, rfl, h3, hgq.refl _, hgq.up _ _ hS⟩
theorem chainQ_have (hgq : GoodQ G S) {o : Oper} {deps : List Nat} {r : List (Oper × List Nat)} {env : List (Option Tmp × SpecP)} {d : Option Tmp} (p : Value → World → Prop)
    (hp : ∀ (v : Value) (w w' : World), G w w' → p v w → p v w') (hd : o.dst = d) (hg : o.guard = none)
    (h : ∀ m w, m < M → S m w → allP w (fun a => ∃ v, (execOp a.eval o).run P w = .ok (.value v) w ∧ p v w) (lookP env deps) a0)
    (hr : chainQ P ops Q G S M K a0 ((d, .pre p) :: env) r) : chainQ P ops Q G S M K a0 env ((o, deps) :: r) :=
  chainQ_haveG hgq p hp hd (fun m w hm hS => allP_mono (fun a h => ⟨wanted_free hg a, h⟩) _ _ (h m w hm hS)) hr
/-- an operation whose result has a property; the world grows -/
theorem chainQ_doG {o : Oper} {deps : List Nat} {r : List (Oper × List Nat)} {env : List (Option Tmp × SpecP)} {d : Option Tmp} (p : Value → World → Prop)
    (hp : ∀ (v : Value) (w w' : World), G w w' → p v w → p v w') (hd : o.dst = d)
    (h : ∀ m w, m < M → S m w → allP w (fun a => Region.wanted o (yielded ops a.tmps) = true ∧ ∀ K' : Act → World → Prop, Shut (∀ v w', G w w' → S (m + 1) w' → p v w' → K' (a.put d v) w') → o.wp P a w K' Q) (lookP env deps) a0)
    (hr : chainQ P ops Q G S M K a0 ((d, .pre p) :: env) r) : chainQ P ops Q G S M K a0 env ((o, deps) :: r) := by
  subst hd
  refine ⟨.pre p, hp, fun m w hm hS => allP_mono (fun a ⟨h1, h2⟩ => ?_) _ _ (h m w hm hS), hr⟩
  unfold stepQ
  rw [if_pos h1]
  exact h2 _ (fun v w' hb hs1 hv => ⟨v, rfl, hv, hb, hs1⟩)
theorem chainQ_do {o : Oper} {deps : List Nat} {r : List (Oper × List Nat)} {env : List (Option Tmp × SpecP)} {d : Option Tmp} (p : Value → World → Prop)
    (hp : ∀ (v : Value) (w w' : World), G w w' → p v w → p v w') (hd : o.dst = d) (hg : o.guard = none)
    (h : ∀ m w, m < M → S m w → allP w (fun a => ∀ K' : Act → World → Prop, Shut (∀ v w', G w w' → S (m + 1) w' → p v w' → K' (a.put d v) w') → o.wp P a w K' Q) (lookP env deps) a0)
    (hr : chainQ P ops Q G S M K a0 ((d, .pre p) :: env) r) : chainQ P ops Q G S M K a0 env ((o, deps) :: r) :=
  chainQ_doG p hp hd (fun m w hm hS => allP_mono (fun a h => ⟨wanted_free hg a, h⟩) _ _ (h m w hm hS)) hr
theorem chainQ_spec {pre : List Nat} {l : List Oper} (hl : ops = l.toArray) : ∀ (hd : List (Nat × List Nat)) (E : List Nat) (sp0 : Nat → SpecP), okQ ops pre E hd = true → chainQ P ops Q G S M K a0 (E.map (envP ops sp0)) (pickP l hd) →
    ∃ sp : Nat → SpecP, (∀ j ∈ E, sp j = sp0 j) ∧ (∀ x ∈ resP E hd, MonoQ G (sp x.1) ∧ ∃ o, ops[x.1]? = some o ∧ ∀ m w, m < M → S m w → allP w (stepQ P ops Q G (S (m + 1)) o (sp x.1) w) (x.2.map (envP ops sp)) a0) ∧
      ∀ w, S M w → allP w (fun a => K a w) (((hd.map (·.1)).reverse ++ E).map (envP ops sp)) a0
  | [], E, sp0, _, h => ⟨sp0, fun _ _ => rfl, fun x hx => by simp [resP] at hx, by simpa [pickP, chainQ] using h⟩
  | (i, d) :: r, E, sp0, hB, h => by
    simp only [okQ, Bool.and_eq_true, decide_eq_true_eq] at hB
    obtain ⟨⟨hi, hE, _, _⟩, hB⟩ := hB
    have hE' : i ∉ E := by simpa using hE
    have hio : ops[i]? = some ops[i] := Array.getElem?_eq_getElem hi
    have hli : l[i]? = some ops[i] := by rw [← hio, hl]; simp
    unfold pickP at h
    rw [hli] at h
    obtain ⟨s, hs, ho, hr⟩ := h
    have hsame : ∀ j ∈ E, (fun j => if j = i then s else sp0 j) j = sp0 j := fun j hj => by
      have : j ≠ i := fun e => hE' (e ▸ hj)
      simp [this]
    have he : ((ops[i].dst, s) :: E.map (envP ops sp0)) = (i :: E).map (envP ops (fun j => if j = i then s else sp0 j)) := by
      rw [List.map_cons, envP_congr hsame]
      congr 1
      unfold envP dstP
      rw [hio]; simp
    rw [he] at hr
    obtain ⟨sp, h1, h2, h3⟩ := chainQ_spec hl r (i :: E) _ hB hr
    have hspE : ∀ j ∈ E, sp j = sp0 j := fun j hj => (h1 j (List.mem_cons_of_mem _ hj)).trans (hsame j hj)
    have hsi : sp i = s := by have := h1 i (by simp); simpa using this
    refine ⟨sp, hspE, fun x hx => ?_, by simpa using h3⟩
    unfold resP at hx
    rcases List.mem_cons.1 hx with rfl | hx
    · refine ⟨by show MonoQ G (sp i); rw [hsi]; exact hs, ops[i], hio, fun m w hm hS => ?_⟩
      have := ho m w hm hS
      rw [lookP_map] at this
      show allP w (stepQ P ops Q G (S (m + 1)) ops[i] (sp i) w) ((idxP E d).map (envP ops sp)) a0
      rw [hsi, envP_congr (fun j hj => hspE j (idxP_mem d j hj))]
      exact this
    · exact h2 x hx
theorem ready_someQ {pre : List Nat} {listed : Array Bool} (hsz : listed.size = ops.size) (hpre : ∀ j ∈ pre, listed.getD j false = true) : ∀ (hd : List (Nat × List Nat)) (E : List Nat), okQ ops pre E hd = true → (∀ j ∈ E, listed.getD j false = true) → (∃ j ∈ hd.map (·.1), listed.getD j false = false) → ∃ i, i ∈ Region.ready .any ops listed
  | [], E, _, _, h => by simp at h
  | (i, d) :: r, E, hB, hE, h => by
    simp only [okQ, Bool.and_eq_true, decide_eq_true_eq] at hB
    obtain ⟨⟨hi, _, _, ha⟩, hB⟩ := hB
    cases hl : listed.getD i false with
    | true =>
      refine ready_someQ hsz hpre r (i :: E) hB (fun j hj => ?_) ?_
      · rcases List.mem_cons.1 hj with rfl | hj
        · exact hl
        · exact hE j hj
      · obtain ⟨j, hj, hjl⟩ := h
        rw [List.map_cons] at hj
        rcases List.mem_cons.1 hj with rfl | hj
        · rw [hl] at hjl; cases hjl
        · exact ⟨j, hj, hjl⟩
    | false =>
      refine ⟨i, mem_ready.2 ⟨?_, ops[i], Array.getElem?_eq_getElem hi, fun e he hb => ?_⟩⟩
      · have : i < listed.size := by omega
        simp [this] at hl ⊢
        exact hl
      · have h1 : e.on ∈ afters ops i := by
          unfold afters
          rw [Array.getElem?_eq_getElem hi]
          exact List.mem_map.2 ⟨e, List.mem_filter.2 ⟨by simpa using he, hb⟩, rfl⟩
        have := List.all_eq_true.1 ha _ h1
        rw [Bool.or_eq_true] at this
        rcases this with this | this
        · exact hE _ (by simpa using this)
        · exact hpre _ (by simpa using this)
theorem okQ_nodup {pre : List Nat} : ∀ (hd : List (Nat × List Nat)) (E : List Nat), okQ ops pre E hd = true → (hd.map (·.1)).Nodup ∧ (∀ j ∈ hd.map (·.1), j ∉ E) ∧ (∀ j ∈ hd.map (·.1), j < ops.size) ∧ ∀ j ∈ hd.map (·.1), j ∉ pre
  | [], E, _ => ⟨List.nodup_nil, fun j hj => by simp at hj, fun j hj => by simp at hj, fun j hj => by simp at hj⟩
  | (i, d) :: r, E, hB => by
    simp only [okQ, Bool.and_eq_true, decide_eq_true_eq] at hB
    obtain ⟨⟨hi, hE, hpr, _⟩, hB⟩ := hB
    have hE' : i ∉ E := by simpa using hE
    obtain ⟨h1, h2, h3, h4⟩ := okQ_nodup r (i :: E) hB
    refine ⟨List.nodup_cons.2 ⟨fun hm => h2 i hm (by simp), h1⟩, fun j hj => ?_, fun j hj => ?_, fun j hj => ?_⟩
    · rw [List.map_cons] at hj
      rcases List.mem_cons.1 hj with rfl | hj
      · exact hE'
      · exact fun he => h2 j hj (List.mem_cons_of_mem _ he)
    · rw [List.map_cons] at hj
      rcases List.mem_cons.1 hj with rfl | hj
      · exact hi
      · exact h3 j hj
    · rw [List.map_cons] at hj
      rcases List.mem_cons.1 hj with rfl | hj
      · simpa using hpr
      · exact h4 j hj
theorem resP_mem : ∀ (hd : List (Nat × List Nat)) (E : List Nat) (i : Nat) (D : List Nat), (i, D) ∈ resP E hd → i ∈ hd.map (·.1) ∧ ∀ k ∈ D, k ∈ E ∨ k ∈ hd.map (·.1)
  | [], E, i, D, h => by simp [resP] at h
  | (j, d) :: r, E, i, D, h => by
    unfold resP at h
    rcases List.mem_cons.1 h with h | h
    · obtain ⟨rfl, rfl⟩ := Prod.mk.inj h
      exact ⟨by simp, fun k hk => .inl (idxP_mem d k hk)⟩
    · obtain ⟨h1, h2⟩ := resP_mem r (j :: E) i D h
      refine ⟨by rw [List.map_cons]; exact List.mem_cons_of_mem _ h1, fun k hk => ?_⟩
      rcases h2 k hk with hk | hk
      · rcases List.mem_cons.1 hk with rfl | hk
        · exact .inr (by simp)
        · exact .inl hk
      · exact .inr (by rw [List.map_cons]; exact List.mem_cons_of_mem _ hk)
/-- what stands while a region runs -/
structure InvQ (ops : Array Oper) (S : Nat → World → Prop) (m : Nat) (pre H : List Nat) (sp : Nat → SpecP) (a0 : Act) (vals : Nat → Value) (listed : Array Bool) (a : Act) (w : World) : Prop where
  inv : InvT ops (fun i => H.contains i) listed
  s : S m w
  rest : ∀ j, j ∉ H → listed.getD j false = pre.contains j
  defers : a.defers = a0.defers
  hold : ∀ j ∈ H, listed.getD j false = true → (sp j).holds (vals j) w
  put : ∀ j ∈ H, listed.getD j false = true → ∀ t, dstP ops j = some t → a.tmps[t]? = (a0.tmps[t]?).map (fun _ => vals j)
  old : ∀ t, (∀ j ∈ H, listed.getD j false = true → dstP ops j ≠ some t) → a.tmps[t]? = a0.tmps[t]?
theorem wpAnyT_of_Q (hgq : GoodQ G S) {pre : List Nat} {F : Nat} {hd : List (Nat × List Nat)} {tl : List Nat} {sp : Nat → SpecP} (hsel : Region.noSelect ops = true) (hQ : ∀ c (a a' : Act) w, Q (.panic c) a w → Q (.panic c) a' w)
    (hM : M = hd.length)
    (hT : ∀ k ∈ tl, (hd.map (·.1)).contains k = false) (hN : ∀ k, k < ops.size → pre.contains k = false → (hd.map (·.1)).contains k = false → ∀ i ∈ hd.map (·.1), regNeeds ops F k i = true)
    (hok : okQ ops pre [] hd = true) (hsee : ∀ x ∈ resP [] hd, seesP ops F (hd.map (·.1)) x.1 x.2 = true) (hap : apartP ops (hd.map (·.1)) = true) (hfin : seqI ops tl (heldP ops (pre ++ hd.map (·.1))) = true)
    (hsz : ∀ i ∈ hd.map (·.1), ∀ t, dstP ops i = some t → t < a0.tmps.size)
    (hob : ∀ x ∈ resP [] hd, MonoQ G (sp x.1) ∧ ∃ o, ops[x.1]? = some o ∧ ∀ m w, m < M → S m w → allP w (stepQ P ops Q G (S (m + 1)) o (sp x.1) w) (x.2.map (envP ops sp)) a0)
    (hK : ∀ w, S M w → allP w (fun a => K a w) (((hd.map (fun x : Nat × List Nat => x.1)).reverse ++ []).map (envP ops sp)) a0) :
    ∀ (f : Nat) (R : List Nat) (vals : Nat → Value) (listed : Array Bool) (a : Act) (w : World), R.Nodup → R.length = f → f ≤ M → (∀ j, j ∈ R ↔ j ∈ hd.map (·.1) ∧ listed.getD j false = false) →
      InvQ ops S (M - f) pre (hd.map (·.1)) sp a0 vals listed a w → wpAnyT P ops Q (fun _ => True) (fun i => (hd.map (·.1)).contains i) (fun listed' a' w' => seqI ops tl listed' = true ∧ K a' w') f listed a w := by
  obtain ⟨hnd, _, hlt, hnp⟩ := okQ_nodup hd [] hok
  have hap' : ∀ i ∈ hd.map (·.1), ∀ j ∈ hd.map (·.1), ∀ t, dstP ops i = some t → dstP ops j = some t → i = j := fun i hi j hj t h1 h2 => by
    have := List.all_eq_true.1 (List.all_eq_true.1 hap i hi) j hj
    rw [h1, h2] at this
    simpa using this
  intro f
  induction f with
  | zero =>
    intro R vals listed a w _ hR hfM hmem I
    have hall : ∀ j ∈ hd.map (·.1), listed.getD j false = true := fun j hj => by
      cases h : listed.getD j false with
      | true => rfl
      | false =>
        have := (hmem j).2 ⟨hj, h⟩
        rw [List.length_eq_zero_iff.1 hR] at this
        cases this
    have hli : listed = heldP ops (pre ++ hd.map (·.1)) := by
      refine Array.ext_getElem? fun j => ?_
      have hs := I.inv.size
      by_cases hj : j < ops.size
      · have hjl : j < listed.size := by omega
        have h1 : listed.getD j false = (pre ++ hd.map (·.1)).contains j := by
          by_cases hm : j ∈ hd.map (·.1)
          · rw [hall j hm]; symm; simp only [List.contains_iff_mem, List.mem_append]; exact .inr hm
          · rw [I.rest j hm, Bool.eq_iff_iff]; simp only [List.contains_iff_mem, List.mem_append]; exact ⟨fun h => .inl h, fun h => h.resolve_right hm⟩
        have h2 : listed[j]? = some (listed.getD j false) := by simp [hjl]
        rw [h2, h1]
        simp [heldP, hj]
      · have hjl : ¬ j < listed.size := by omega
        simp [heldP, hj, hjl]
    refine ⟨by rw [hli]; exact hfin, ?_⟩
    have h1 := allP_inst (vals := vals) _ _ (hK w (by simpa using I.s)) (fun j hj => I.hold j (by simpa using hj) (hall j (by simpa using hj)))
    have he : a = canP ops vals ((hd.map (·.1)).reverse ++ []) a0 := by
      have ht : a.tmps = (canP ops vals ((hd.map (·.1)).reverse ++ []) a0).tmps := by
        refine Array.ext_getElem? fun t => ?_
        by_cases hw : ∃ j ∈ hd.map (·.1), dstP ops j = some t
        · obtain ⟨j, hj, hjt⟩ := hw
          rw [I.put j hj (hall j hj) t hjt, can_new vals hjt _ _ (by simpa using hj) (fun k hk hkt => hap' k (by simpa using hk) j hj t hkt hjt)]
        · rw [I.old t (fun j hj _ he => hw ⟨j, hj, he⟩), can_old vals _ _ (fun j hj he => hw ⟨j, by simpa using hj, he⟩)]
      have hdf := I.defers
      have hdc := can_defers (ops := ops) vals ((hd.map (·.1)).reverse ++ []) a0
      cases a
      generalize canP ops vals ((hd.map (·.1)).reverse ++ []) a0 = c at *
      cases c
      simp only at ht hdf hdc
      rw [ht, hdf, hdc]
    rw [he]
    exact h1
  | succ f ih =>
    intro R vals listed a w hRn hR hfM hmem I
    have hne : ∃ j ∈ hd.map (·.1), listed.getD j false = false := by
      cases R with
      | nil => cases hR
      | cons j r => exact ⟨j, (hmem j).1 (by simp)⟩
    obtain ⟨i0, hi0⟩ := ready_someQ I.inv.size (fun j hj => by rw [I.rest j (fun hm => hnp j hm hj)]; simpa using hj) hd [] hok (fun j hj => by cases hj) hne
    refine ⟨fun h => (by rw [h] at hi0; cases hi0), fun i hi => ?_⟩
    obtain ⟨hun, oi, hoi, haf⟩ := mem_ready.1 hi
    have hunl := getD_bothT hun
    have hiH : i ∈ hd.map (·.1) := by
      by_cases hc : (hd.map (·.1)).contains i = true
      · simpa using hc
      · exfalso
        obtain ⟨j, hj, hjl⟩ := hne
        have h1 := hN i (Array.getElem?_eq_some_iff.1 hoi).1 (by rw [← I.rest i (fun hm => hc (by simpa using hm))]; exact hunl) (by simpa using hc) j hj
        have h2 := needs_listed I.inv F i j h1 (fun o ho e he hb => by
          have : o = oi := Option.some.inj (ho.symm.trans hoi)
          subst this; exact haf e he hb)
        rw [h2] at hjl; cases hjl
    refine ⟨by simpa using hiH, ?_⟩
    obtain ⟨D, hD, _⟩ := resP_fst hd [] i hiH
    obtain ⟨hmon, o, ho, hstep⟩ := hob (i, D) hD
    have : o = oi := Option.some.inj (ho.symm.trans hoi)
    subst this
    have hs := hsee (i, D) hD
    unfold seesP at hs
    simp only [ho, Bool.and_eq_true] at hs
    have hDl : ∀ j ∈ D, listed.getD j false = true := fun j hj => needs_listed I.inv F i j (List.all_eq_true.1 hs.1 j hj) (fun o' ho' e he hb => by
      have : o' = o := Option.some.inj (ho'.symm.trans hoi)
      subst this; exact haf e he hb)
    have hDH : ∀ j ∈ D, j ∈ hd.map (·.1) := fun j hj => by
      by_cases hc : j ∈ hd.map (·.1)
      · exact hc
      · exfalso
        obtain ⟨_, hDm⟩ := resP_mem hd [] i D hD
        rcases hDm j hj with h | h
        · cases h
        · exact hc h
    have hst := allP_inst (vals := vals) D a0 (hstep (M - (f + 1)) w (by omega) I.s) (fun j hj => I.hold j (hDH j hj) (hDl j hj))
    have hlook : ∀ t ∈ o.looksAt ops, a.tmps[t]? = (canP ops vals D a0).tmps[t]? := fun t ht => by
      have h1 := List.all_eq_true.1 hs.2 t ht
      by_cases hw : ∃ j ∈ hd.map (·.1), listed.getD j false = true ∧ dstP ops j = some t
      · obtain ⟨j, hj, hjl, hjt⟩ := hw
        have h2 := List.all_eq_true.1 h1 j hj
        rw [hjt] at h2
        simp only [beq_self_eq_true, Bool.not_true, Bool.false_or, Bool.or_eq_true] at h2
        have hjD : j ∈ D := by
          rcases h2 with h2 | h2 | h2
          · simpa using h2
          · have : j = i := by simpa using h2
            subst this; rw [hunl] at hjl; cases hjl
          · have hjo : ∃ oj, ops[j]? = some oj := by
              unfold dstP at hjt
              cases hh : ops[j]? with
              | none => rw [hh] at hjt; cases hjt
              | some oj => exact ⟨oj, rfl⟩
            have h3 := needs_listed I.inv F j i h2 (fun oj hoj e he hb => I.inv.closed j oj hoj hjl e he hb)
            rw [hunl] at h3; cases h3
        rw [I.put j hj hjl t hjt, can_new vals hjt D a0 hjD (fun k hk hkt => hap' k (hDH k hk) j hj t hkt hjt)]
      · rw [I.old t (fun j hj hjl he => hw ⟨j, hj, hjl, he⟩), can_old vals D a0 (fun j hj he => hw ⟨j, hDH j hj, hDl j hj, he⟩)]
    have hexec : execOp (canP ops vals D a0).eval o = execOp a.eval o := execOp_congr o (fun cs b => Region.noSelect_spec hsel i o cs b hoi) fun x hx => by
      cases x with
      | tmp t =>
        have := hlook t (List.mem_append_left _ (List.mem_filterMap.2 ⟨.tmp t, by simpa using hx, rfl⟩))
        simp only [Act.eval, Array.getD_eq_getD_getElem?]
        rw [this]
      | _ => rfl
    have hwant : Region.wanted o (yielded ops (canP ops vals D a0).tmps) = Region.wanted o (yielded ops a.tmps) := by
      unfold Region.wanted
      cases hg : o.guard with
      | none => rfl
      | some gw =>
        obtain ⟨g, want⟩ := gw
        have hy : yielded ops (canP ops vals D a0).tmps g = yielded ops a.tmps g := by
          unfold yielded
          cases ht : (ops[g]?).bind (·.dst) with
          | none => rfl
          | some t =>
            have := hlook t (by simp [Oper.looksAt, hg, ht])
            simp only [Option.bind_some]
            rw [this]
        simp only [hy]
    have hdst : ∀ t, o.dst = some t → dstP ops i = some t := fun t h => by unfold dstP; rw [ho]; exact h
    have hdst' : dstP ops i = o.dst := by unfold dstP; rw [ho]; rfl
    -- what stands behind it
    have next : ∀ (v : Value) (w' : World), (sp i).holds v w' → G w w' → S (M - (f + 1) + 1) w' →
        (fun _ => True) w' ∧ wpAnyT P ops Q (fun _ => True) (fun i => (hd.map (·.1)).contains i) (fun listed' a' w' => seqI ops tl listed' = true ∧ K a' w') f (listed.setIfInBounds i true) (a.put o.dst v) w' := by
      intro v w' hv hb hs1
      refine ⟨trivial, ih (R.erase i) (fun j => if j = i then v else vals j) _ _ w' (hRn.erase i) ?_ (by omega) (fun j => ?_) ⟨I.inv.set hi, (by rw [show M - f = M - (f + 1) + 1 by omega]; exact hs1), fun j hj => ?_, ?_, fun j hj hjl => ?_, fun j hj hjl t hjt => ?_, fun t ht => ?_⟩⟩
      · rw [List.length_erase_of_mem ((hmem i).2 ⟨hiH, hunl⟩), hR]; rfl
      · rw [hRn.mem_erase_iff, hmem j]
        constructor
        · rintro ⟨hji, h1, h2⟩
          exact ⟨h1, by rw [getD_set_ne false (Ne.symm hji)]; exact h2⟩
        · rintro ⟨h1, h2⟩
          by_cases hji : j = i
          · subst hji
            have hl : j < listed.size := by have := I.inv.size; have := hlt j hiH; omega
            simp [hl] at h2
          · exact ⟨hji, h1, by rw [getD_set_ne false (Ne.symm hji)] at h2; exact h2⟩
      · have hji : j ≠ i := fun e => hj (e ▸ hiH)
        rw [getD_set_ne false (Ne.symm hji)]; exact I.rest j hj
      · rw [← I.defers]
        cases o.dst <;> rfl
      · by_cases hji : j = i
        · subst hji; simpa using hv
        · simp only [hji, if_false]
          rw [getD_set_ne false (Ne.symm hji)] at hjl
          have hmj : MonoQ G (sp j) := by
            obtain ⟨D', hD', _⟩ := resP_fst hd [] j hj
            exact (hob (j, D') hD').1
          exact hmj _ w w' hb (I.hold j hj hjl)
      · by_cases hji : j = i
        · subst hji
          simp only [if_true]
          rw [hdst'] at hjt
          rw [hjt, put_get_same]
          have := I.old t (fun k hk hkl hkt => by
            have := hap' k hk j hj t hkt (by rw [hdst']; exact hjt)
            subst this; rw [hunl] at hkl; cases hkl)
          rw [this]
        · simp only [hji, if_false]
          rw [getD_set_ne false (Ne.symm hji)] at hjl
          have hdi : o.dst ≠ some t := fun e => hji (hap' j hj i hiH t hjt (hdst t e))
          rw [put_get_ne hdi]
          exact I.put j hj hjl t hjt
      · have hdi : o.dst ≠ some t := fun e => ht i hiH (by
          have hl : i < listed.size := by have := I.inv.size; have := hlt i hiH; omega
          simp [hl]) (hdst t e)
        rw [put_get_ne hdi]
        refine I.old t fun j hj hjl => ht j hj ?_
        exact getD_set_true hjl
    unfold wpOp
    simp only [ho]
    unfold stepQ at hst
    rw [hwant] at hst
    split
    · rename_i hwt
      rw [if_pos hwt] at hst
      refine .inl ?_
      unfold Oper.wp at hst ⊢
      rw [hexec] at hst
      exact upon_moveP (R := fun v w' => (sp i).holds v w' ∧ G w w' ∧ S (M - (f + 1) + 1) w') hQ (fun t ht => by rw [can_size]; exact hsz i hiH t (hdst t ht)) (fun v w' h => next v w' h.1 h.2.1 h.2.2) _ hst
    · rename_i hwt
      rw [if_neg hwt] at hst
      exact next undef w hst (hgq.refl _) (hgq.up _ _ I.s)
/-- operations ahead of the region that yield the same in every world -/
def wpPre (P : Program) (K : Act → Prop) : List Oper → Act → Prop
  | [], a => K a
  | o :: r, a => ∃ v, (∀ w, (execOp a.eval o).run P w = .ok (.value v) w) ∧ wpPre P K r (a.put o.dst v)
theorem wpPre_nil {K : Act → Prop} {a : Act} (h : K a) : wpPre P K [] a := h
theorem wpPre_read {K : Act → Prop} {o : Oper} {r : List Oper} {a : Act} (v : Value) (h : ∀ w, (execOp a.eval o).run P w = .ok (.value v) w) (hr : wpPre P K r (a.put o.dst v)) : wpPre P K (o :: r) a := ⟨v, h, hr⟩
theorem wpAny_of_pre {l : List Oper} (hl : ops = l.toArray) (hsel : Region.noSelect ops = true) (hQ : ∀ c (a a' : Act) w, Q (.panic c) a w → Q (.panic c) a' w) {w : World} :
    ∀ (pre : List Nat) (n : Nat) (listed : Array Bool) (a : Act), preQ ops pre listed = true → (∀ i ∈ pre, ∀ o, ops[i]? = some o → o.guard = none) → wpPre P (fun a' => wpAny P .any ops Q n (listQ pre listed) a' w) (pickN l pre) a → wpAny P .any ops Q (pre.length + n) listed a w
  | [], n, listed, a, _, _, h => by simpa [pickN, wpPre, listQ] using h
  | i :: r, n, listed, a, hB, hg, h => by
    simp only [preQ, Bool.and_eq_true] at hB
    obtain ⟨hr, hf, hB⟩ := hB
    have hr' : i ∈ Region.ready .any ops listed := by simpa using hr
    obtain ⟨oi, hli, hoi⟩ := ready_get hl hr'
    unfold pickN at h
    rw [hli] at h
    obtain ⟨v, hy, h⟩ := h
    have ih := wpAny_of_pre hl hsel hQ r n (listed.setIfInBounds i true) (a.put oi.dst v) hB (fun j hj => hg j (List.mem_cons_of_mem _ hj)) h
    rw [show (i :: r).length + n = (r.length + n) + 1 by simp; omega]
    exact wpAny_first hoi (Region.noSelect_spec hsel) (fun c a w h => hQ c _ _ w h) _ listed a w (Region.free_spec hoi hf) hr' (.inl ⟨wanted_free (hg i (by simp) oi hoi) a, hy⟩) ih
theorem listQ_get : ∀ (pre : List Nat) (listed : Array Bool) (j : Nat), (∀ i ∈ pre, i < listed.size) → (listQ pre listed).getD j false = (pre.contains j || listed.getD j false) ∧ (listQ pre listed).size = listed.size
  | [], listed, j, _ => by simp [listQ]
  | i :: r, listed, j, h => by
    obtain ⟨h1, h2⟩ := listQ_get r (listed.setIfInBounds i true) j (fun k hk => by simpa using h k (List.mem_cons_of_mem _ hk))
    refine ⟨?_, by show (listQ r _).size = _; rw [h2]; simp⟩
    show (listQ r _).getD j false = _
    rw [h1]
    by_cases hij : i = j
    · subst hij
      have hi : i < listed.size := h i (by simp)
      simp [hi]
    · rw [getD_set_ne false hij]
      have h3 : ¬ j = i := fun e => hij e.symm
      simp [List.contains_cons, h3]
/-- each operation by itself serves for all orders; some reads go ahead -/
theorem wp_region_Q1 {id : Nat} {a : Act} {w : World} {l : List Oper} (G : World → World → Prop) (S : Nat → World → Prop) (F : Nat) (pre : List Nat) (hd : List (Nat × List Nat)) (tl : List Nat) (hm : P.follows .mixedOrders = true) (hB : checkQ l.toArray F pre hd tl = true) (hpre : preQ l.toArray pre (Array.replicate l.toArray.size false) = true)
    (hpg : (pre.all fun i => match l.toArray[i]? with | some o => o.guard.isNone && (afters l.toArray i).all (fun j => pre.contains j) | none => false) = true) (hsz : (hd.all fun x => match dstP l.toArray x.1 with | some d => decide (d < a.tmps.size) | none => true) = true) (hn : l.length = pre.length + (hd.length + tl.length))
    (hQ : ∀ c (a a' : Act) w, Q (.panic c) a w → Q (.panic c) a' w) (hgq : GoodQ G S) (hS : S 0 w.drew)
    (h : wpPre P (fun a' => a'.tmps.size = a.tmps.size → chainQ P l.toArray Q G S hd.length (fun a' w' => wpList P l.toArray Q (pickN l tl) a' w') a' [] (pickP l hd)) (pickN l pre) a) : (Code.region id l.toArray true).wp P Q a w := by
  simp only [checkQ, Bool.and_eq_true] at hB
  obtain ⟨hsel, hT, hN, hok, hsee, hap, hfin⟩ := hB
  obtain ⟨hnd, _, hlt, hnp⟩ := okQ_nodup hd [] hok
  have hrep : ∀ j, (Array.replicate l.toArray.size false).getD j false = false := fun j => by
    rw [Array.getD_eq_getD_getElem?, Array.getElem?_replicate]
    by_cases hj : j < l.toArray.size
    · rw [if_pos hj]; rfl
    · rw [if_neg hj]; rfl
  have hpl : ∀ i ∈ pre, ∃ o, l.toArray[i]? = some o ∧ o.guard = none ∧ ∀ j ∈ afters l.toArray i, j ∈ pre := fun i hi => by
    have := List.all_eq_true.1 hpg i hi
    cases ho : l.toArray[i]? with
    | none => rw [ho] at this; cases this
    | some o =>
      rw [ho] at this
      simp only [Bool.and_eq_true] at this
      exact ⟨o, rfl, by simpa using this.1, fun j hj => by have := List.all_eq_true.1 this.2 j hj; simpa using this⟩
  have hlq := fun j => listQ_get pre (Array.replicate l.toArray.size false) j (fun i hi => by obtain ⟨o, ho, _⟩ := hpl i hi; simpa using (Array.getElem?_eq_some_iff.1 ho).1)
  refine wp_region_any hm ?_
  rw [show l.toArray.size = pre.length + (hd.length + tl.length) by simpa using hn]
  rw [show Array.replicate (pre.length + (hd.length + tl.length)) false = Array.replicate l.toArray.size false by rw [show l.toArray.size = pre.length + (hd.length + tl.length) by simpa using hn]]
  refine wpAny_of_pre (l := l) rfl hsel hQ pre (hd.length + tl.length) _ a hpre (fun i hi o ho => by obtain ⟨o', ho', hg, _⟩ := hpl i hi; rw [ho'] at ho; cases ho; exact hg) ?_
  -- what follows the reads
  suffices key : ∀ (os : List Oper) (b : Act), b.tmps.size = a.tmps.size → wpPre P (fun a' => a'.tmps.size = a.tmps.size → chainQ P l.toArray Q G S hd.length (fun a' w' => wpList P l.toArray Q (pickN l tl) a' w') a' [] (pickP l hd)) os b →
      wpPre P (fun a' => wpAny P .any l.toArray Q (hd.length + tl.length) (listQ pre (Array.replicate l.toArray.size false)) a' w.drew) os b from key _ a rfl h
  intro os
  induction os with
  | nil =>
    intro b hbs hh
    have h' := hh hbs
    obtain ⟨sp, _, h2, h3⟩ := chainQ_spec (ops := l.toArray) rfl hd [] (fun _ => .val undef) hok (by simpa using h')
    have H := wpAnyT_of_Q (P := P) (Q := Q) (G := G) (S := S) (M := hd.length) (K := fun a' w' => wpList P l.toArray Q (pickN l tl) a' w') (a0 := b) hgq (pre := pre) (F := F) (hd := hd) (tl := tl) (sp := sp) hsel hQ rfl
      (fun k hk => by have := List.all_eq_true.1 hT k hk; simpa using this)
      (fun k hk hp hc i hi => by
        have := List.all_eq_true.1 hN k (List.mem_range.2 hk)
        rw [hp, hc, Bool.false_or, Bool.false_or] at this
        exact List.all_eq_true.1 this i hi)
      hok (fun x hx => List.all_eq_true.1 hsee x hx) hap hfin
      (fun i hi t ht => by
        obtain ⟨x, hx, rfl⟩ := List.mem_map.1 hi
        have := List.all_eq_true.1 hsz x hx
        rw [ht] at this
        rw [hbs]
        simpa using this) h2 h3
      hd.length (hd.map (·.1)) (fun _ => undef) (listQ pre (Array.replicate l.toArray.size false)) b w.drew hnd (by simp) (Nat.le_refl _)
      (fun j => ⟨fun hj => ⟨hj, by rw [(hlq j).1, hrep j]; simpa using hnp j hj⟩, fun hj => hj.1⟩)
      ⟨⟨by rw [(hlq 0).2]; simp, fun j oj ho hl e he hb => by
          rw [(hlq j).1, hrep j, Bool.or_false] at hl
          rw [(hlq e.on).1]
          obtain ⟨o', ho', _, haf⟩ := hpl j (by simpa using hl)
          have := haf e.on (by unfold afters; rw [ho]; exact List.mem_map.2 ⟨e, List.mem_filter.2 ⟨by simpa using he, hb⟩, rfl⟩)
          rw [show pre.contains e.on = true by simpa using this]; rfl⟩, (by rw [Nat.sub_self]; exact hS), fun j _ => by rw [(hlq j).1, hrep j, Bool.or_false], rfl, fun j hj hl => (by rw [(hlq j).1, hrep j, Bool.or_false] at hl; exact absurd (by simpa using hl) (hnp j hj)), fun j hj hl => (by rw [(hlq j).1, hrep j, Bool.or_false] at hl; exact absurd (by simpa using hl) (hnp j hj)), fun t _ => rfl⟩
    exact wpAny_of_T (g := tl.length) (fun listed' a' w' hL => wpAny_of_seqI (P := P) (Q := Q) (l := l) rfl tl listed' a' w' hL.1 hL.2) hd.length _ b w.drew H
  | cons o r ih =>
    intro b hbs hh
    obtain ⟨v, hv, hr⟩ := hh
    exact ⟨v, hv, ih _ (by rw [← hbs]; cases o.dst <;> simp [Act.put]) hr⟩
/-- the same, with no read ahead -/
theorem wp_region_Q {id : Nat} {a : Act} {w : World} {l : List Oper} (G : World → World → Prop) (S : Nat → World → Prop) (F : Nat) (hd : List (Nat × List Nat)) (tl : List Nat) (hm : P.follows .mixedOrders = true) (hB : checkQ l.toArray F [] hd tl = true) (hsz : (hd.all fun x => match dstP l.toArray x.1 with | some d => decide (d < a.tmps.size) | none => true) = true) (hn : l.length = hd.length + tl.length)
    (hQ : ∀ c (a a' : Act) w, Q (.panic c) a w → Q (.panic c) a' w) (hgq : GoodQ G S) (hS : S 0 w.drew)
    (h : chainQ P l.toArray Q G S hd.length (fun a' w' => wpList P l.toArray Q (pickN l tl) a' w') a [] (pickP l hd)) : (Code.region id l.toArray true).wp P Q a w :=
  wp_region_Q1 G S F [] hd tl hm hB rfl rfl hsz (by simpa using hn) hQ hgq hS (fun _ => h)
end
attribute [irreducible] chainQ
/-- a region that draws from a cursor (block g): each operation moves it by at most c -/
def DrawS (U W : World) (g : Nat) (n : Int) (c : Nat) (C : World → Prop) (m : Nat) (w' : World) : Prop := Within g (g + 1) W w' ∧ Cur U w' g (n + (m * c : Nat)) ∧ C w'
theorem DrawS.good (U W : World) (g : Nat) (n : Int) (c : Nat) (C : World → Prop) : GoodQ (Within g (g + 1)) (DrawS U W g n c C) :=
  ⟨fun w => Within.refl _ _ _, fun m w h => ⟨h.1, h.2.1.mono (by have : m * c ≤ (m + 1) * c := Nat.mul_le_mul_right _ (Nat.le_succ m); omega), h.2.2⟩⟩
end Go.Proofs.Ytacpnphfopmofaa
namespace Go.Proofs.Ytacpnphfopmofaa
open Go.RowKit
set_option linter.unusedSimpArgs false
set_option linter.unusedVariables false

theorem Since.mono {B B' : Nat} {w : World} {P : World → Prop} (h : Since B w P) (hB : B' ≤ B) : Since B' w P := fun w' hs hb => h w' hs fun k hk hlt => hb k (by omega) hlt
theorem Within.setNew {lo hi : Nat} {w u : World} (h : Within lo hi w u) {b : Nat} (hb : w.heap.size ≤ b) (j : Nat) (x : Value) : Within lo hi w (u.setCell ⟨b, j, none⟩ x) :=
  h.belowStep ((Below.refl w.heap.size u).setCell (p := ⟨b, j, none⟩) hb x)
theorem Cur.setNew {w0 u : World} {g : Nat} {n : Int} (h : Cur w0 u g n) {b : Nat} (hb : g < b) (j : Nat) (x : Value) : Cur w0 (u.setCell ⟨b, j, none⟩ x) g n := by
  obtain ⟨h1, v, p, s, hB, h2⟩ := h
  exact ⟨h1, v, p, s, hB.other (by omega) j x, h2⟩
end Go.Proofs.Ytacpnphfopmofaa
namespace Go.Proofs.Ytacpnphfopmofaa
open Go.RowKit
set_option linter.unusedSimpArgs false
set_option linter.unusedVariables false

/-- a slice of own rows since block B: the row of slices, and its slices -/
def RowS (w : World) (B : Nat) (v : Value) (ls : List (List Int)) : Prop :=
  ∃ vs : List Value, vs.length = ls.length ∧ w.ownsRow B 42 1 v ls.length vs ∧ ∀ i (h1 : i < vs.length) (h2 : i < ls.length), OwnI w B vs[i] ls[i]
theorem RowS.rd {w : World} {B : Nat} {v : Value} {ls : List (List Int)} (h : RowS w B v ls) : RdL kInts w v ls := by
  obtain ⟨vs, hl, hO, hel⟩ := h
  have hO' := hO
  obtain ⟨hl1, ⟨rfl, h0⟩ | ⟨g, c, cur, rfl, hb, hgc, hnc, hcm, hcs, htake⟩⟩ := hO
  · have : ls = [] := List.eq_nil_of_length_eq_zero h0
    subst this; exact RdL.nil _ w
  · refine ⟨some ⟨g, 0, none⟩, ls.length, c, rfl, rfl, hnc, hcm, .inr (.inr ⟨g, 0, rfl, fun i => vs.getD i undef, fun i hi => ?_⟩)⟩
    have h1 := World.ownsRow.cellAt hO' i (by omega)
    refine ⟨?_, ?_⟩
    · rw [Nat.zero_add, h1]; simp [show i < vs.length by omega]
    · have : kInts.rd w vs[i] ls[i] := (hel i (by omega) hi).ints
      simpa [List.getD, show i < vs.length by omega] using this
theorem RowS.sinceS {w w' : World} {B : Nat} {v : Value} {ls : List (List Int)} (h : RowS w B v ls) (hs : w.heap.size ≤ w'.heap.size) (hb : ∀ k, B ≤ k → k < w.heap.size → w'.heap[k]? = w.heap[k]?) : RowS w' B v ls := by
  obtain ⟨vs, hl, hO, hel⟩ := h
  exact ⟨vs, hl, ownsRow_frame hO fun g hg => hb g (hO.lt g hg).1 (hO.lt g hg).2, fun i h1 h2 => (hel i h1 h2).since hs hb⟩
theorem RowS.since {w : World} {B B' : Nat} {v : Value} {ls : List (List Int)} (h : RowS w B v ls) (hB : B' ≤ B) : Since B' w (fun u => RdL kInts u v ls) := fun u hs hb => (h.sinceS hs fun k hk hlt => hb k (by omega) hlt).rd
theorem RowS.within {w w' : World} {B g : Nat} {v : Value} {ls : List (List Int)} (h : RowS w B v ls) (hw : Within g (g + 1) w w') (hg : g < B) : RowS w' B v ls := h.sinceS hw.size fun k hk hlt => hw.block k hlt (.inr (by omega))
theorem RowS.below {w w' : World} {B : Nat} {v : Value} {ls : List (List Int)} (h : RowS w B v ls) (hb : Below w.heap.size w w') : RowS w' B v ls := h.sinceS hb.size fun k _ hlt => hb.block k hlt
theorem OwnI.apartL {w : World} {B : Nat} {x v : Value} {l : List Int} {n : Nat} {vs : List Value} (h : OwnI w B x l) (hO : w.ownsRow B 42 1 v n vs) : ∀ k, x.ownBlock = some k → ∀ q, v.ownBlock = some q → k ≠ q := by
  intro k hk q hq e
  subst e
  obtain ⟨h1, h2⟩ := h
  rcases h2.2 with ⟨rfl, _⟩ | ⟨g1, c1, cur1, rfl, _, hg1, r1⟩
  · cases hk
  · rcases hO.2 with ⟨rfl, _⟩ | ⟨g2, c2, cur2, rfl, _, hg2, r2⟩
    · cases hq
    · cases hk
      cases hq
      rw [hg1] at hg2
      have e := Option.some.inj hg2
      injection e with e1 e2
      exact absurd e2 (by decide)
/-- one slice more, which may be one of before -/
theorem run_append_S {w : World} {B : Nat} {v x : Value} {ls : List (List Int)} {l : List Int} (h : RowS w B v ls) (hx : OwnI w B x l) (hB : B ≤ w.heap.size)
    (g c : Nat) (hc : w.cell? ⟨g, 0, none⟩ = some x) (hlen : ls.length ≤ 1000000000) (ty : TypeId) :
    ∃ v' w', (Builtin.append_ #[69, 69] ty #[v, .slice (some ⟨g, 0, none⟩) 1 c]).run Try.prog w = .ok v' w' ∧ RowS w' B v' (ls ++ [l]) ∧ Below B w w' := by
  obtain ⟨i, hi', hz, hsz, hby⟩ := info_parts info_intsA
  obtain ⟨vs, hvl, hO, hel⟩ := h
  obtain ⟨xa, xn, xc, rfl⟩ := Ints.shape hx.ints
  have hnews : ∀ j u, [Value.slice xa xn xc][j]? = some u → w.cell? ((⟨g, 0, none⟩ : Addr).add j) = some u := fun j u hu => by
    cases j with
    | zero => simp at hu; subst hu; simpa [Addr.add] using hc
    | succ j => simp at hu
  obtain ⟨v', w', hr, h1, h2, _⟩ := run_append_own (P := Try.prog) w B 69 ty 42 i (.slice none 0 0) 1 24 Try.underlying69 hi' hz hsz hby rfl (by decide) v ls.length vs hO ⟨g, 0, none⟩ 1 c [.slice xa xn xc] rfl hnews (fun u hu => by simp at hu; subst hu; rfl) (by unfold maxLen; omega) (by omega) hB
  have hsz2 := h2.size
  have hfr : ∀ k, k < w.heap.size → (∀ q, v.ownBlock = some q → k ≠ q) → w'.heap[k]? = w.heap[k]? := fun k hk hq => h2.block k hk (fun e => hq k e.symm rfl)
  have keep : ∀ {y : Value} {d : List Int}, OwnI w B y d → OwnI w' B y d := fun {y d} hy => by
    have hlt := hy.lt
    have hap := hy.apartL hO
    exact ⟨hy.1, ownsRow_frame hy.2 fun k hk => hfr k (hlt k hk).2 (hap k hk)⟩
  refine ⟨v', w', hr, ⟨vs ++ [.slice xa xn xc], by simp [hvl], by simpa using h1, fun j k1 k2 => ?_⟩, ?_⟩
  · simp only [List.length_append, List.length_cons, List.length_nil] at k1 k2
    by_cases hjn : j = ls.length
    · have e1 : (vs ++ [Value.slice xa xn xc])[j] = .slice xa xn xc := by simp [hjn, ← hvl]
      have e2 : (ls ++ [l])[j] = l := by simp [hjn]
      rw [e1, e2]; exact keep hx
    · rw [List.getElem_append_left (by omega), List.getElem_append_left (by omega)]
      exact keep (hel j (by omega) (by omega))
  · exact (Below.refl B w).grown h2 hB (fun k hk => (hO.lt k hk).1)
theorem wpList_append_S {ops : Array Oper} {rest : List Oper} {o : Oper} {ac : Act} {w : World} {Q : Exit → Act → World → Prop} (hgd : o.guard = none) (s y : Operand)
    (ho : o.op = .call { callee := .builtin .append, args := #[s, y], argTypes := #[69, 69] })
    (B : Nat) (v x : Value) (ls : List (List Int)) (l : List Int) (g c : Nat) (hs : ac.eval s = v) (hy : ac.eval y = .slice (some ⟨g, 0, none⟩) 1 c) (hown : RowS w B v ls) (hx : OwnI w B x l) (hB : B ≤ w.heap.size)
    (hc : w.cell? ⟨g, 0, none⟩ = some x) (hlen : ls.length ≤ 1000000000)
    (hK : ∀ v' w', RowS w' B v' (ls ++ [l]) → Below B w w' → wpList Try.prog ops Q rest (ac.put o.dst v') w') : wpList Try.prog ops Q (o :: rest) ac w := by
  obtain ⟨v', w', hr, h1, h2⟩ := run_append_S hown hx hB g c hc hlen o.type
  refine wpList_plain hgd fun K hK' => ?_
  unfold Oper.wp execOp
  simp only [ho, resolve, invoke, builtin, Sem.run_bind, Sem.run_pure, Result.andThen_ok, List.map_toArray, List.map_cons, List.map_nil, hs, hy, hr]
  exact hK' _ _ (hK v' w' h1 h2)
theorem OwnI.keptL {w : World} {B b : Nat} {x v : Value} {l : List Int} {n : Nat} {vs : List Value} (h : OwnI w B x l) (hO : w.ownsRow B 42 1 v n vs) (hv : v.ownBlock = some b) (j : Nat) (y : Value) : OwnI (w.setCell ⟨b, j, none⟩ y) B x l :=
  h.kept (grownBy_setCell _ b j y) (by
    cases e : x.ownBlock with
    | none => exact .inl rfl
    | some k => exact .inr fun e2 => h.apartL hO k e b hv (Option.some.inj e2))
/-- the first slice of an own slice of slices; another in its place -/
theorem RowS.first {w : World} {B : Nat} {v : Value} {l : List Int} {ls : List (List Int)} (h : RowS w B v (l :: ls)) :
    ∃ b c v0, v = .slice (some ⟨b, 0, none⟩) (ls.length + 1) c ∧ B ≤ b ∧ b < w.heap.size ∧ w.cell? ⟨b, 0, none⟩ = some v0 ∧ (∀ j, w.frozen? ⟨b, j, none⟩ = false) ∧ OwnI w B v0 l ∧
      ∀ y l', (∀ u, Ints u v0 l → Ints u y l') → Since B (w.setCell ⟨b, 0, none⟩ y) (fun u => RdL kInts u v (l' :: ls)) := by
  obtain ⟨vs, hl, hO, hel⟩ := h
  have hO' := hO
  obtain ⟨hl1, ⟨rfl, h0⟩ | ⟨b, c, cur, rfl, hb, hgc, hnc, hcm, hcs, htake⟩⟩ := hO
  · simp at h0
  · cases vs with
    | nil => simp at hl
    | cons v0 vs =>
      have h1 := World.ownsRow.cellAt hO' 0 (by simp)
      have hlt := (hO'.lt b rfl).2
      refine ⟨b, c, v0, rfl, hb, hlt, by simpa using h1, fun j => World.ownsRow.frozenAt hO' j, hel 0 (by simp) (by simp), fun y l' hy => fun u hs hbk => ?_⟩
      have hst := (hO'.stored 0 y).1
      have hsz : (w.setCell ⟨b, 0, none⟩ y).heap.size = w.heap.size := size_setC
      have hO2 : u.ownsRow B 42 1 (.slice (some ⟨b, 0, none⟩) (l :: ls).length c) (l :: ls).length (y :: vs) := ownsRow_frame (by simpa using hst) fun g hg => by
        cases hg; exact hbk b hb (by rw [hsz]; exact hlt)
      refine ⟨some ⟨b, 0, none⟩, (l :: ls).length, c, rfl, by simp, hnc, hcm, .inr (.inr ⟨b, 0, rfl, fun i => (y :: vs).getD i undef, fun i hi => ?_⟩)⟩
      have hi' : i < (y :: vs).length := by simp at hi hl ⊢; omega
      have h2 := World.ownsRow.cellAt hO2 i (by simp at hi ⊢; omega)
      have keep : ∀ {x : Value} {d : List Int}, OwnI w B x d → Ints u x d := fun {x d} hx => ((hx.keptL hO' rfl 0 y).since hs hbk).ints
      refine ⟨?_, ?_⟩
      · rw [Nat.zero_add, h2]; simp only [List.getD, List.getElem?_eq_getElem hi', Option.getD_some]
      · cases i with
        | zero => exact hy u (keep (hel 0 (by simp) (by simp)))
        | succ i =>
          have hi2 : i < vs.length := by simp at hi'; exact hi'
          have : kInts.rd u vs[i] (ls[i]'(by simp at hi; exact hi)) := keep (hel (i + 1) (by simp; exact hi2) (by simp at hi ⊢; exact hi))
          simpa [List.getD, hi2] using this
end Go.Proofs.Ytacpnphfopmofaa
namespace Go.Proofs.Ytacpnphfopmofaa
open Go.RowKit
set_option linter.unusedSimpArgs false
set_option linter.unusedVariables false

theorem RowS.nil (w : World) (B : Nat) : RowS w B (.slice none 0 0) [] := ⟨[], rfl, by simpa using World.ownsRow_nil w B 42 1, fun i h1 _ => by simp at h1⟩
theorem RowS.low {w : World} {B B' : Nat} {v : Value} {ls : List (List Int)} (h : RowS w B v ls) (hB : B' ≤ B) : RowS w B' v ls := by
  obtain ⟨vs, hl, hO, hel⟩ := h
  exact ⟨vs, hl, ownsRow_mono hO hB, fun i h1 h2 => (hel i h1 h2).mono hB⟩
theorem RowS.shape {w : World} {B : Nat} {v : Value} {ls : List (List Int)} (h : RowS w B v ls) : ∃ a c, v = .slice a ls.length c := by
  obtain ⟨a, n, c, e⟩ := h.rd.shape
  have := (e ▸ h.rd : RdL kInts w (.slice a n c) ls).len
  exact ⟨a, c, by rw [e, this]⟩
set_option maxRecDepth 100000 in
set_option maxHeartbeats 4000000 in
theorem spec_polynomials (w0 : World) (g : Nat) (n P Q G : Int) (m t : Nat) (w : World) (h : Cur w0 w g n) (hb : Below w0.heap.size w0 w) (hn : n ≤ 800000000000000) (hgr : GrB ⟨P, Q, G⟩) (hm : m ≤ 1000) (ht : t ≤ 1000) :
    Calls Try.prog 200 #[.pointer (some ⟨g, 0, none⟩), .agg #[.int .i64 P, .int .i64 Q, .int .i64 G], .int .i64 m, .int .i64 t] w fun e w' => (∃ v' ll, e = .returned v' ∧ RowS w' w.heap.size v' ll ∧ ll.length = m ∧ ∀ l ∈ ll, l.length = t) ∧ Cur w0 w' g (n + 5000000) ∧ Within g (g + 1) w w' := by
  have HGR := Lib.hid hgr
  clear hgr
  have HC0 := Lib.hid h
  have hgl := h.lt
  have hge := h.ge
  obtain ⟨W, hW⟩ : ∃ W, W = w.alloc (.cells #[.int .i64 P, .int .i64 Q, .int .i64 G] 24) := ⟨_, rfl⟩
  have hbW : Below w.heap.size w W := by rw [hW]; exact (Below.refl _ _).alloc (Nat.le_refl _) _
  have HX : Hid (BoxN W w.heap.size 24 [.int .i64 P, .int .i64 Q, .int .i64 G]) := by unfold Hid; rw [hW]; exact BoxN.new w [.int .i64 P, .int .i64 Q, .int .i64 G] _
  have hsW : w.heap.size < W.heap.size := by rw [hW]; simp
  have HC := Lib.hid (h.keep hbW)
  have HWW : Hid (Within g (g + 1) w W) := Within.of_below hbW
  have HB1 : Hid (Below w0.heap.size w0 W) := hb.trans (hbW.mono hb.size)
  have HO0 : Hid (∀ u B, RowS u B (.slice none 0 0) []) := fun u B => RowS.nil u _
  clear h hb hbW
  go_enter Try.func200, Try.ntmps200
  go_wp2_with fail
  rw [← hW]
  clear hW
  try (go_wp2_with fail)
  go_loopg [9, 2] m (fun gk ov kv wr => ∃ (ll : List (List Int)) (k : Nat), ll.length = k ∧ k + gk = m ∧ kv = .int .i64 (gk : Int) ∧ RowS wr W.heap.size ov ll ∧ (∀ l ∈ ll, l.length = t) ∧ Cur w0 wr g (n + 4000 * ((m : Int) - gk)) ∧ Within g (g + 1) W wr)
  case atStart => exact ⟨[], 0, rfl, by omega, rfl, HO0.out _ _, by simp, HC.out.mono (by omega), Within.refl _ _ _⟩
  case round =>
    obtain ⟨ll, k, hk, hkg, rfl, hO, hall, hC, hWr⟩ := hrel
    have HXr := Lib.hid (HX.out.kept hWr (.inr (by omega)))
    have c0 := HXr.out.cell (i := 0) rfl
    have c1 := HXr.out.cell (i := 1) rfl
    have c2 := HXr.out.cell (i := 2) rfl
    have HC' := Lib.hid hC
    have HWr := Lib.hid hWr
    have HAL := Lib.hid hall
    have hsr := hWr.size
    obtain ⟨ao, co, rfl⟩ := hO.shape
    rw [hk]
    rw [hk] at hO
    have HK := Lib.hid hk
    have HO := Lib.hid hO
    clear hC hWr hO hk hall
    cases gk with
    | zero =>
      go_wp2_with fail
      go_ret
      exact ⟨⟨_, ll, rfl, HO.out.low (by omega), by rw [HK.out]; omega, HAL.out⟩, HC'.out.mono (by omega), HWW.out.trans HWr.out⟩
    | succ f =>
      have ef : ((f + 1 : Nat) : Int) = (f : Int) + 1 := by omega
      have ew : IntKind.i64.wrap ((f : Int) + 1 - 1) = (f : Int) := by rw [show (f : Int) + 1 - 1 = f by omega]; exact IntWalk.i64_in _ (by omega)
      rw [ef]
      have hpos : (0 : Int) < (f : Int) + 1 := by omega
      go_wp2_with fail
      refine (spec_coins w0 g _ P Q G t _ HC'.out (HWr.out.belowOf HB1.out (by omega)) (by omega) HGR.out ht).mono ?_
      rintro e w3 ⟨⟨z, zl, rfl, hz0, hz1, _⟩, hc, hw⟩
      obtain ⟨za, zc, hzs⟩ := hz0.shape
      rw [hz1] at hzs
      subst hzs
      have hs3 := hw.size
      have HO3 := Lib.hid (HO.out.within hw (by omega))
      have HZ3 := Lib.hid (hz0.mono (show W.heap.size ≤ wr.heap.size by omega))
      have HZL := Lib.hid hz1
      have HC3 := Lib.hid (hc.mono (n' := n + 4000 * ((m : Int) - f)) (by omega))
      have HW3 := Lib.hid (HWr.out.trans hw)
      clear hc hw c0 c1 c2 HO hz0 hz1
      go_wp2_with (at_builtin; refine wpList_append_S rfl _ _ rfl W.heap.size _ (.slice za t zc) ll zl w3.heap.size 1 rfl rfl (HO3.out.below ((Below.refl _ _).alloc (Nat.le_refl _) _)) (HZ3.out.alloc _) (by simp; omega) ((BoxN.new w3 [.slice za t zc] 42).cell (i := 0) rfl) (by rw [HK.out]; omega) ?_; intro v4 w4 hown4 hb4)
      have hb5 := ((Below.refl W.heap.size w3).alloc (by omega) (.cells #[.slice za t zc] 42)).trans hb4
      go_roundg f
      case measure => omega
      case rel => exact ⟨ll ++ [zl], k + 1, by rw [List.length_append, HK.out]; rfl, by omega, by go_num, hown4, fun x hx => by
        rcases List.mem_append.1 hx with h1 | h1
        · exact HAL.out x h1
        · rw [List.mem_singleton.1 h1]; exact HZL.out, HC3.out.belowB hb5 (by omega), HW3.out.belowStep hb5⟩
end Go.Proofs.Ytacpnphfopmofaa
namespace Go.Proofs.Ytacpnphfopmofaa
open Go.RowKit
set_option linter.unusedSimpArgs false
set_option linter.unusedVariables false

def FrR {δ : Type} (e : TypeId) (R : RowK δ) (w0 w : World) (B : Nat) (v : Value) (ds : List δ) : Prop :=
  ∃ css : List (List Value), css.length = ds.length ∧ w.ownsRow B e R.width v ds.length css.flatten ∧ ∀ i (h1 : i < css.length) (h2 : i < ds.length), R.rd w0 css[i] ds[i]
section
variable {δ : Type} {e : TypeId} {R : RowK δ} {w0 w w' : World} {B : Nat} {v : Value} {ds es : List δ}
theorem FrR.lens {css : List (List Value)} (hl : css.length = ds.length) (hel : ∀ i (h1 : i < css.length) (h2 : i < ds.length), R.rd w0 css[i] ds[i]) : ∀ c ∈ css, c.length = R.width := by
  intro c hc
  obtain ⟨i, hi, rfl⟩ := List.getElem_of_mem hc
  exact R.rd_len (hel i hi (by omega))
theorem FrR.ones {css : List (List Value)} (hl : css.length = ds.length) (hel : ∀ i (h1 : i < css.length) (h2 : i < ds.length), R.rd w0 css[i] ds[i]) : ∀ u ∈ css.flatten, u.oneCell' = true := by
  intro u hu
  obtain ⟨c, hc, hu⟩ := List.mem_flatten.1 hu
  obtain ⟨i, hi, rfl⟩ := List.getElem_of_mem hc
  exact R.rd_one (hel i hi (by omega)) u hu
theorem FrR.rd (h : FrR e R w0 w B v ds) (hb : Below w0.heap.size w0 w) : RdR R w v ds := by
  obtain ⟨css, hl, hO, hel⟩ := h
  have hlen := FrR.lens hl hel
  have hO' := hO
  obtain ⟨hl1, ⟨rfl, h0⟩ | ⟨g, c, cur, rfl, hbb, hgc, hnc, hcm, hcs, htake⟩⟩ := hO
  · have : ds = [] := List.eq_nil_of_length_eq_zero h0
    subst this; exact RdR.nil R w
  · refine ⟨some ⟨g, 0, none⟩, ds.length, c, rfl, rfl, hnc, hcm, .inr (.inr ⟨g, 0, rfl, fun i hi => ?_⟩)⟩
    refine ⟨css[i]'(by omega), fun k hk => ?_, R.rd_below (hel i (by omega) hi) hb⟩
    have h1 := World.ownsRow.cellAt hO' (i * R.width + k) (by
      have : (i + 1) * R.width ≤ ds.length * R.width := Nat.mul_le_mul_right _ hi
      rw [Nat.succ_mul] at this; omega)
    rw [Nat.zero_add, h1, flat_get hlen hk, List.getElem?_eq_getElem (by omega)]
    rfl
theorem FrR.nil (e : TypeId) (R : RowK δ) (w0 w : World) (B : Nat) : FrR e R w0 w B (.slice none 0 0) [] :=
  ⟨[], rfl, by simpa using World.ownsRow_nil w B e R.width, fun i h1 _ => by simp at h1⟩
theorem FrR.lit0 (e : TypeId) (R : RowK δ) (w0 w : World) (B : Nat) (hB : B ≤ w.heap.size) : FrR e R w0 (w.alloc (.cells #[] e)) B (.slice (some ⟨w.heap.size, 0, none⟩) 0 0) [] :=
  ⟨[], rfl, World.ownsRow_lit (e := e) (size := R.width) w #[] 0 hB (Nat.zero_le _) (by simp), fun i h1 _ => by simp at h1⟩
theorem FrR.below (h : FrR e R w0 w B v ds) (hb : Below w.heap.size w w') : FrR e R w0 w' B v ds := by
  obtain ⟨css, hl, hO, hel⟩ := h
  exact ⟨css, hl, ownsRow_frame hO fun g hg => hb.block g (hO.lt g hg).2, hel⟩
theorem FrR.frame (h : FrR e R w0 w B v ds) (hf : ∀ g, v.ownBlock = some g → w'.heap[g]? = w.heap[g]?) : FrR e R w0 w' B v ds := by
  obtain ⟨css, hl, hO, hel⟩ := h
  exact ⟨css, hl, ownsRow_frame hO hf, hel⟩
theorem FrR.lt (h : FrR e R w0 w B v ds) : ∀ g, v.ownBlock = some g → B ≤ g ∧ g < w.heap.size := by
  obtain ⟨css, hl, hO, hel⟩ := h
  exact fun g hg => hO.lt g hg
theorem FrR.mono {B' : Nat} (h : FrR e R w0 w B v ds) (hB : B' ≤ B) : FrR e R w0 w B' v ds := by
  obtain ⟨css, hl, hO, hel⟩ := h
  exact ⟨css, hl, ownsRow_mono hO hB, hel⟩
/-- more structs -/
theorem run_append_Fr {P : Program} (ts : TypeId) (i : TypeInfo) (z : Value) (ht : P.underlying ts = some (.slice e)) (hi' : P.info? e = some i) (hz : i.zero = some z) (hsz : i.size = R.width) (hby : i.bytes ≤ 1000) (hzs : z.cells.size = R.width) (hpos : 0 < R.width)
    (hown : FrR e R w0 w B v ds) (ad : Addr) (m c : Nat) (css' : List (List Value)) (hl' : css'.length = es.length) (hm : es.length = m) (hnews : ∀ j u, css'.flatten[j]? = some u → w.cell? (ad.add j) = some u)
    (hrd : ∀ i (h1 : i < css'.length) (h2 : i < es.length), R.rd w0 css'[i] es[i]) (hB : B ≤ w.heap.size) (hlen : ds.length + es.length ≤ 1000000000) (ty : TypeId) :
    ∃ v' w', (Builtin.append_ #[ts, ts] ty #[v, .slice (some ad) m c]).run P w = .ok v' w' ∧ FrR e R w0 w' B v' (ds ++ es) ∧ Below B w w' := by
  obtain ⟨css, hvl, hO, hel⟩ := hown
  have hb1 : (ds.length + m) * i.bytes ≤ 140737488355328 := by
    have : (ds.length + m) * i.bytes ≤ 1000000000 * 1000 := Nat.mul_le_mul (by omega) hby
    omega
  have hfl := flat_len (FrR.lens hl' hrd)
  obtain ⟨v', w', hr, h1, h2, _⟩ := run_append_own (P := P) w B ts ty e i z R.width i.bytes ht hi' hz hsz rfl hzs hpos v ds.length css.flatten hO ad m c css'.flatten (by rw [hfl, hl', hm]) hnews (FrR.ones hl' hrd) (by unfold maxLen; omega) hb1 hB
  refine ⟨v', w', hr, ⟨css ++ css', by simp [hvl, hl'], by simpa [List.flatten_append, hm] using h1, fun k k1 k2 => ?_⟩, (Below.refl B w).grown h2 hB (fun k hk => (hO.lt k hk).1)⟩
  by_cases hk : k < ds.length
  · rw [List.getElem_append_left (by omega), List.getElem_append_left hk]
    exact hel k (by omega) hk
  · rw [List.getElem_append_right (by omega), List.getElem_append_right (by omega)]
    have e1 : k - css.length = k - ds.length := by omega
    simp only [List.length_append] at k2
    have := hrd (k - ds.length) (by omega) (by omega)
    simpa only [e1] using this
theorem wpList_append_Fr {P : Program} (ts : TypeId) (i : TypeInfo) (z : Value) (ht : P.underlying ts = some (.slice e)) (hi' : P.info? e = some i) (hz : i.zero = some z) (hsz : i.size = R.width) (hby : i.bytes ≤ 1000) (hzs : z.cells.size = R.width) (hpos : 0 < R.width)
    {ops : Array Oper} {rest : List Oper} {o : Oper} {ac : Act} {Q : Exit → Act → World → Prop} (hgd : o.guard = none) (s y : Operand)
    (ho : o.op = .call { callee := .builtin .append, args := #[s, y], argTypes := #[ts, ts] })
    (hown : FrR e R w0 w B v ds) (ad : Addr) (m c : Nat) (css' : List (List Value)) (hs : ac.eval s = v) (hy : ac.eval y = .slice (some ad) m c) (hl' : css'.length = es.length) (hm : es.length = m) (hnews : ∀ j u, css'.flatten[j]? = some u → w.cell? (ad.add j) = some u)
    (hrd : ∀ i (h1 : i < css'.length) (h2 : i < es.length), R.rd w0 css'[i] es[i]) (hB : B ≤ w.heap.size) (hlen : ds.length + es.length ≤ 1000000000)
    (hK : ∀ v' w', FrR e R w0 w' B v' (ds ++ es) → Below B w w' → wpList P ops Q rest (ac.put o.dst v') w') : wpList P ops Q (o :: rest) ac w := by
  obtain ⟨v', w', hr, h1, h2⟩ := run_append_Fr ts i z ht hi' hz hsz hby hzs hpos hown ad m c css' hl' hm hnews hrd hB hlen o.type
  refine wpList_plain hgd fun K hK' => ?_
  unfold Oper.wp execOp
  simp only [ho, resolve, invoke, builtin, Sem.run_bind, Sem.run_pure, Result.andThen_ok, List.map_toArray, List.map_cons, List.map_nil, hs, hy, hr]
  exact hK' _ _ (hK v' w' h1 h2)
end
end Go.Proofs.Ytacpnphfopmofaa
