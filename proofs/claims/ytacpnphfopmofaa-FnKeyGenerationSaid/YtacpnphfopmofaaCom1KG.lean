/- A region that draws its order, walked once, as in RegQ; some reads (late) may come up even behind operations of the tail. No program is named here. -/
import Derived.Test.YtacpnphfopmofaaFrKG
import Derived.Test.YtacpnphfopmofaaBgKG
import Derived.Test.YtacpnphfopmofaaRegPKG
namespace Go.Proofs.Ytacpnphfopmofaa
open Go.RowKit
set_option linter.unusedSimpArgs false
set_option linter.unusedVariables false

def lateR (P : Program) (o : Oper) (s : SpecP) (w : World) (a : Act) : Prop := o.guard = none ∧ ∃ v, (∀ w', (execOp a.eval o).run P w' = .ok (.value v) w') ∧ s.holds v w
def obR (P : Program) (ops : Array Oper) (Q : Exit → Act → World → Prop) (G : World → World → Prop) (S1 : World → Prop) (b : Bool) (o : Oper) (s : SpecP) (w : World) (a : Act) : Prop := if b = true then lateR P o s w a else stepQ P ops Q G S1 o s w a
def chainR (P : Program) (ops : Array Oper) (Q : Exit → Act → World → Prop) (G : World → World → Prop) (S : Nat → World → Prop) (M : Nat) (K : Act → World → Prop) (a0 : Act) : List (Option Tmp × SpecP) → List (Oper × List Nat × Bool) → Prop
  | env, [] => ∀ w, S M w → allP w (fun a => K a w) env a0
  | env, (o, deps, b) :: r => ∃ s : SpecP, MonoQ G s ∧ (∀ m w, m < M → S m w → allP w (obR P ops Q G (S (m + 1)) b o s w) (lookP env deps) a0) ∧ chainR P ops Q G S M K a0 ((o.dst, s) :: env) r
def pickR (l : List Oper) (late : List Nat) : List (Nat × List Nat) → List (Oper × List Nat × Bool)
  | [] => []
  | (i, d) :: r => match l[i]? with
    | some o => (o, d, late.contains i) :: pickR l late r
    | none => pickR l late r
def checkR (ops : Array Oper) (F : Nat) (pre late : List Nat) (hd : List (Nat × List Nat)) (tl : List Nat) : Bool :=
  Region.noSelect ops && ((tl.all fun k => !(hd.map (·.1)).contains k) && (((List.range ops.size).all fun k => pre.contains k || ((hd.map (·.1)).contains k || (hd.map (·.1)).all fun i => late.contains i || regNeeds ops F k i)) &&
    (okQ ops pre [] hd && ((resP [] hd).all (fun x => seesP ops F (hd.map (·.1)) x.1 x.2) && (apartP ops (hd.map (·.1)) && (seqI ops tl (heldP ops (pre ++ hd.map (·.1))) &&
      late.all fun i => (List.range ops.size).all fun j => j == i || ((pre.contains j || ((hd.map (·.1)).contains j && !late.contains j)) || ((afters ops j).contains i || match ops[i]?, ops[j]? with | some x, some y => x.apart ops y | _, _ => false))))))))
section
variable {P : Program} {ops : Array Oper} {Q : Exit → Act → World → Prop} {G : World → World → Prop} {S : Nat → World → Prop} {M : Nat} {K : Act → World → Prop} {a0 : Act}
theorem chainR_nil {env : List (Option Tmp × SpecP)} (h : ∀ w, S M w → allP w (fun a => K a w) env a0) : chainR P ops Q G S M K a0 env [] := h
/-- an operation whose value is known and that leaves the world as it is -/
theorem chainR_readG (hgq : GoodQ G S) {o : Oper} {deps : List Nat} {r : List (Oper × List Nat × Bool)} {env : List (Option Tmp × SpecP)} {d : Option Tmp} (v : Value) (hd : o.dst = d)
    (h : ∀ m w, m < M → S m w → allP w (fun a => Region.wanted o (yielded ops a.tmps) = true ∧ (execOp a.eval o).run P w = .ok (.value v) w) (lookP env deps) a0)
    (hr : chainR P ops Q G S M K a0 ((d, .val v) :: env) r) : chainR P ops Q G S M K a0 env ((o, deps, false) :: r) := by
  subst hd
  refine ⟨.val v, fun _ _ _ _ h => h, fun m w hm hS => allP_mono (fun a ⟨h1, h2⟩ => ?_) _ _ (h m w hm hS), hr⟩
  unfold obR
  rw [if_neg (by simp)]
  unfold stepQ Oper.wp
  rw [if_pos h1, h2]
  exact ⟨v, rfl, rfl, hgq.refl _, hgq.up _ _ hS⟩
theorem chainR_read (hgq : GoodQ G S) {o : Oper} {deps : List Nat} {r : List (Oper × List Nat × Bool)} {env : List (Option Tmp × SpecP)} {d : Option Tmp} (v : Value) (hd : o.dst = d) (hg : o.guard = none)
    (h : ∀ m w, m < M → S m w → allP w (fun a => (execOp a.eval o).run P w = .ok (.value v) w) (lookP env deps) a0)
    (hr : chainR P ops Q G S M K a0 ((d, .val v) :: env) r) : chainR P ops Q G S M K a0 env ((o, deps, false) :: r) :=
  chainR_readG hgq v hd (fun m w hm hS => allP_mono (fun a h => ⟨wanted_free hg a, h⟩) _ _ (h m w hm hS)) hr
/-- an operation that leaves the world as it is and whose result has a property -/
theorem chainR_haveG (hgq : GoodQ G S) {o : Oper} {deps : List Nat} {r : List (Oper × List Nat × Bool)} {env : List (Option Tmp × SpecP)} {d : Option Tmp} (p : Value → World → Prop)
    (hp : ∀ (v : Value) (w w' : World), G w w' → p v w → p v w') (hd : o.dst = d)
    (h : ∀ m w, m < M → S m w → allP w (fun a => Region.wanted o (yielded ops a.tmps) = true ∧ ∃ v, (execOp a.eval o).run P w = .ok (.value v) w ∧ p v w) (lookP env deps) a0)
    (hr : chainR P ops Q G S M K a0 ((d, .pre p) :: env) r) : chainR P ops Q G S M K a0 env ((o, deps, false) :: r) := by
  subst hd
  refine ⟨.pre p, hp, fun m w hm hS => allP_mono (fun a ⟨h1, v, h2, h3⟩ => ?_) _ _ (h m w hm hS), hr⟩
  unfold obR
  rw [if_neg (by simp)]
  unfold stepQ Oper.wp
  rw [if_pos h1, h2]
  exact ⟨v, rfl, h3, hgq.refl _, hgq.up _ _ hS⟩
theorem chainR_have (hgq : GoodQ G S) {o : Oper} {deps : List Nat} {r : List (Oper × List Nat × Bool)} {env : List (Option Tmp × SpecP)} {d : Option Tmp} (p : Value → World → Prop)
    (hp : ∀ (v : Value) (w w' : World), G w w' → p v w → p v w') (hd : o.dst = d) (hg : o.guard = none)
    (h : ∀ m w, m < M → S m w → allP w (fun a => ∃ v, (execOp a.eval o).run P w = .ok (.value v) w ∧ p v w) (lookP env deps) a0)
    (hr : chainR P ops Q G S M K a0 ((d, .pre p) :: env) r) : chainR P ops Q G S M K a0 env ((o, deps, false) :: r) :=
  chainR_haveG hgq p hp hd (fun m w hm hS => allP_mono (fun a h => ⟨wanted_free hg a, h⟩) _ _ (h m w hm hS)) hr
/-- an operation whose result has a property; the world grows -/
theorem chainR_doG {o : Oper} {deps : List Nat} {r : List (Oper × List Nat × Bool)} {env : List (Option Tmp × SpecP)} {d : Option Tmp} (p : Value → World → Prop)
    (hp : ∀ (v : Value) (w w' : World), G w w' → p v w → p v w') (hd : o.dst = d)
    (h : ∀ m w, m < M → S m w → allP w (fun a => Region.wanted o (yielded ops a.tmps) = true ∧ ∀ K' : Act → World → Prop, Shut (∀ v w', G w w' → S (m + 1) w' → p v w' → K' (a.put d v) w') → o.wp P a w K' Q) (lookP env deps) a0)
    (hr : chainR P ops Q G S M K a0 ((d, .pre p) :: env) r) : chainR P ops Q G S M K a0 env ((o, deps, false) :: r) := by
  subst hd
  refine ⟨.pre p, hp, fun m w hm hS => allP_mono (fun a ⟨h1, h2⟩ => ?_) _ _ (h m w hm hS), hr⟩
  unfold obR
  rw [if_neg (by simp)]
  unfold stepQ
  rw [if_pos h1]
  exact h2 _ (fun v w' hb hs1 hv => ⟨v, rfl, hv, hb, hs1⟩)
theorem chainR_do {o : Oper} {deps : List Nat} {r : List (Oper × List Nat × Bool)} {env : List (Option Tmp × SpecP)} {d : Option Tmp} (p : Value → World → Prop)
    (hp : ∀ (v : Value) (w w' : World), G w w' → p v w → p v w') (hd : o.dst = d) (hg : o.guard = none)
    (h : ∀ m w, m < M → S m w → allP w (fun a => ∀ K' : Act → World → Prop, Shut (∀ v w', G w w' → S (m + 1) w' → p v w' → K' (a.put d v) w') → o.wp P a w K' Q) (lookP env deps) a0)
    (hr : chainR P ops Q G S M K a0 ((d, .pre p) :: env) r) : chainR P ops Q G S M K a0 env ((o, deps, false) :: r) :=
  chainR_doG p hp hd (fun m w hm hS => allP_mono (fun a h => ⟨wanted_free hg a, h⟩) _ _ (h m w hm hS)) hr
/-- a late read with a known value -/
theorem chainR_late {o : Oper} {deps : List Nat} {r : List (Oper × List Nat × Bool)} {env : List (Option Tmp × SpecP)} {d : Option Tmp} (v : Value) (hd : o.dst = d) (hg : o.guard = none)
    (h : ∀ m w, m < M → S m w → allP w (fun a => ∀ w', (execOp a.eval o).run P w' = .ok (.value v) w') (lookP env deps) a0)
    (hr : chainR P ops Q G S M K a0 ((d, .val v) :: env) r) : chainR P ops Q G S M K a0 env ((o, deps, true) :: r) := by
  subst hd
  refine ⟨.val v, fun _ _ _ _ h => h, fun m w hm hS => allP_mono (fun a h1 => ?_) _ _ (h m w hm hS), hr⟩
  unfold obR
  rw [if_pos rfl]
  exact ⟨hg, v, h1, rfl⟩
theorem stepQ_of_late (hgq : GoodQ G S) {m : Nat} {o : Oper} {s : SpecP} {w : World} {a : Act} (hS : S m w) (h : lateR P o s w a) : stepQ P ops Q G (S (m + 1)) o s w a := by
  obtain ⟨hg, v, hv, hs⟩ := h
  unfold stepQ Oper.wp
  rw [if_pos (wanted_free hg a), hv w]
  exact ⟨v, rfl, hs, hgq.refl _, hgq.up _ _ hS⟩
theorem chainR_spec {pre late : List Nat} {l : List Oper} (hl : ops = l.toArray) : ∀ (hd : List (Nat × List Nat)) (E : List Nat) (sp0 : Nat → SpecP), okQ ops pre E hd = true → chainR P ops Q G S M K a0 (E.map (envP ops sp0)) (pickR l late hd) →
    ∃ sp : Nat → SpecP, (∀ j ∈ E, sp j = sp0 j) ∧ (∀ x ∈ resP E hd, MonoQ G (sp x.1) ∧ ∃ o, ops[x.1]? = some o ∧ ∀ m w, m < M → S m w → allP w (obR P ops Q G (S (m + 1)) (late.contains x.1) o (sp x.1) w) (x.2.map (envP ops sp)) a0) ∧
      ∀ w, S M w → allP w (fun a => K a w) (((hd.map (·.1)).reverse ++ E).map (envP ops sp)) a0
  | [], E, sp0, _, h => ⟨sp0, fun _ _ => rfl, fun x hx => by simp [resP] at hx, by simpa [pickR, chainR] using h⟩
  | (i, d) :: r, E, sp0, hB, h => by
    simp only [okQ, Bool.and_eq_true, decide_eq_true_eq] at hB
    obtain ⟨⟨hi, hE, _, _⟩, hB⟩ := hB
    have hE' : i ∉ E := by simpa using hE
    have hio : ops[i]? = some ops[i] := Array.getElem?_eq_getElem hi
    have hli : l[i]? = some ops[i] := by rw [← hio, hl]; simp
    unfold pickR at h
    rw [hli] at h
    obtain ⟨s, hs, ho, hr⟩ := h
    have hsame : ∀ j ∈ E, (fun j => if j = i then s else sp0 j) j = sp0 j := fun j hj => by
      have : j ≠ i := fun e => hE' (e ▸ hj)
      simp [this]
    have he : ((ops[i].dst, s) :: E.map (envP ops sp0)) = (i :: E).map (envP ops (fun j => if j = i then s else sp0 j)) := by
      rw [List.map_cons, envP_congr hsame]
      congr 1
      unfold envP dstP
      rw [hio]; simp
    rw [he] at hr
    obtain ⟨sp, h1, h2, h3⟩ := chainR_spec hl r (i :: E) _ hB hr
    have hspE : ∀ j ∈ E, sp j = sp0 j := fun j hj => (h1 j (List.mem_cons_of_mem _ hj)).trans (hsame j hj)
    have hsi : sp i = s := by have := h1 i (by simp); simpa using this
    refine ⟨sp, hspE, fun x hx => ?_, by simpa using h3⟩
    unfold resP at hx
    rcases List.mem_cons.1 hx with rfl | hx
    · refine ⟨by show MonoQ G (sp i); rw [hsi]; exact hs, ops[i], hio, fun m w hm hS => ?_⟩
      have := ho m w hm hS
      rw [lookP_map] at this
      show allP w (obR P ops Q G (S (m + 1)) (late.contains i) ops[i] (sp i) w) ((idxP E d).map (envP ops sp)) a0
      rw [hsi, envP_congr (fun j hj => hspE j (idxP_mem d j hj))]
      exact this
    · exact h2 x hx
theorem ready_someR {pre : List Nat} {listed : Array Bool} (hsz : listed.size = ops.size) (hpre : ∀ j ∈ pre, listed.getD j false = true) : ∀ (hd : List (Nat × List Nat)) (E : List Nat), okQ ops pre E hd = true → (∀ j ∈ E, listed.getD j false = true) → (∃ j ∈ hd.map (·.1), listed.getD j false = false) → ∃ i, i ∈ hd.map (·.1) ∧ i ∈ Region.ready .any ops listed
  | [], E, _, _, h => by simp at h
  | (i, d) :: r, E, hB, hE, h => by
    simp only [okQ, Bool.and_eq_true, decide_eq_true_eq] at hB
    obtain ⟨⟨hi, _, _, ha⟩, hB⟩ := hB
    cases hl : listed.getD i false with
    | true =>
      have hx : ∃ k, k ∈ r.map (·.1) ∧ k ∈ Region.ready .any ops listed := by
       refine ready_someR hsz hpre r (i :: E) hB (fun j hj => ?_) ?_
       · rcases List.mem_cons.1 hj with rfl | hj
         · exact hl
         · exact hE j hj
       · obtain ⟨j, hj, hjl⟩ := h
         rw [List.map_cons] at hj
         rcases List.mem_cons.1 hj with rfl | hj
         · rw [hl] at hjl; cases hjl
         · exact ⟨j, hj, hjl⟩
      obtain ⟨k, h1, h2⟩ := hx
      exact ⟨k, by rw [List.map_cons]; exact List.mem_cons_of_mem _ h1, h2⟩
    | false =>
      refine ⟨i, by simp, mem_ready.2 ⟨?_, ops[i], Array.getElem?_eq_getElem hi, fun e he hb => ?_⟩⟩
      · have : i < listed.size := by omega
        simp [this] at hl ⊢
        exact hl
      · have h1 : e.on ∈ afters ops i := by
          unfold afters
          rw [Array.getElem?_eq_getElem hi]
          exact List.mem_map.2 ⟨e, List.mem_filter.2 ⟨by simpa using he, hb⟩, rfl⟩
        have := List.all_eq_true.1 ha _ h1
        rw [Bool.or_eq_true] at this
        rcases this with this | this
        · exact hE _ (by simpa using this)
        · exact hpre _ (by simpa using this)
theorem wpAny_of_R (hgq : GoodQ G S) {pre late : List Nat} {F : Nat} {hd : List (Nat × List Nat)} {tl : List Nat} {l : List Oper} {sp : Nat → SpecP} (hl : ops = l.toArray) (hsel : Region.noSelect ops = true) (hQ : ∀ c (a a' : Act) w, Q (.panic c) a w → Q (.panic c) a' w)
    (hM : M = hd.length)
    (hT : ∀ k ∈ tl, (hd.map (·.1)).contains k = false) (hN : ∀ k, k < ops.size → pre.contains k = false → (hd.map (·.1)).contains k = false → ∀ i ∈ hd.map (·.1), late.contains i = false → regNeeds ops F k i = true)
    (hlate : ∀ i ∈ late, ∀ j, j < ops.size → j ≠ i → pre.contains j = false → ((hd.map (·.1)).contains j && !late.contains j) = false → (afters ops j).contains i = false → ∀ x y, ops[i]? = some x → ops[j]? = some y → x.apart ops y = true)
    (hok : okQ ops pre [] hd = true) (hsee : ∀ x ∈ resP [] hd, seesP ops F (hd.map (·.1)) x.1 x.2 = true) (hap : apartP ops (hd.map (·.1)) = true) (hfin : seqI ops tl (heldP ops (pre ++ hd.map (·.1))) = true)
    (hsz : ∀ i ∈ hd.map (·.1), ∀ t, dstP ops i = some t → t < a0.tmps.size)
    (hob : ∀ x ∈ resP [] hd, MonoQ G (sp x.1) ∧ ∃ o, ops[x.1]? = some o ∧ ∀ m w, m < M → S m w → allP w (obR P ops Q G (S (m + 1)) (late.contains x.1) o (sp x.1) w) (x.2.map (envP ops sp)) a0)
    (hK : ∀ w, S M w → allP w (fun a => wpList P ops Q (pickN l tl) a w) (((hd.map (fun x : Nat × List Nat => x.1)).reverse ++ []).map (envP ops sp)) a0) :
    ∀ (f : Nat) (R : List Nat) (vals : Nat → Value) (listed : Array Bool) (a : Act) (w : World), R.Nodup → R.length = f → f ≤ M → (∀ j, j ∈ R ↔ j ∈ hd.map (·.1) ∧ listed.getD j false = false) →
      InvQ ops S (M - f) pre (hd.map (·.1)) sp a0 vals listed a w → wpAny P .any ops Q (f + tl.length) listed a w := by
  obtain ⟨hnd, _, hlt, hnp⟩ := okQ_nodup hd [] hok
  have hap' : ∀ i ∈ hd.map (·.1), ∀ j ∈ hd.map (·.1), ∀ t, dstP ops i = some t → dstP ops j = some t → i = j := fun i hi j hj t h1 h2 => by
    have := List.all_eq_true.1 (List.all_eq_true.1 hap i hi) j hj
    rw [h1, h2] at this
    simpa using this
  intro f
  induction f with
  | zero =>
    intro R vals listed a w _ hR hfM hmem I
    have hall : ∀ j ∈ hd.map (·.1), listed.getD j false = true := fun j hj => by
      cases h : listed.getD j false with
      | true => rfl
      | false =>
        have := (hmem j).2 ⟨hj, h⟩
        rw [List.length_eq_zero_iff.1 hR] at this
        cases this
    have hli : listed = heldP ops (pre ++ hd.map (·.1)) := by
      refine Array.ext_getElem? fun j => ?_
      have hs := I.inv.size
      by_cases hj : j < ops.size
      · have hjl : j < listed.size := by omega
        have h1 : listed.getD j false = (pre ++ hd.map (·.1)).contains j := by
          by_cases hm : j ∈ hd.map (·.1)
          · rw [hall j hm]; symm; simp only [List.contains_iff_mem, List.mem_append]; exact .inr hm
          · rw [I.rest j hm, Bool.eq_iff_iff]; simp only [List.contains_iff_mem, List.mem_append]; exact ⟨fun h => .inl h, fun h => h.resolve_right hm⟩
        have h2 : listed[j]? = some (listed.getD j false) := by simp [hjl]
        rw [h2, h1]
        simp [heldP, hj]
      · have hjl : ¬ j < listed.size := by omega
        simp [heldP, hj, hjl]
    rw [Nat.zero_add]
    refine wpAny_of_seqI hl tl listed a w (by rw [hli]; exact hfin) ?_
    have h1 := allP_inst (vals := vals) _ _ (hK w (by simpa using I.s)) (fun j hj => I.hold j (by simpa using hj) (hall j (by simpa using hj)))
    have he : a = canP ops vals ((hd.map (·.1)).reverse ++ []) a0 := by
      have ht : a.tmps = (canP ops vals ((hd.map (·.1)).reverse ++ []) a0).tmps := by
        refine Array.ext_getElem? fun t => ?_
        by_cases hw : ∃ j ∈ hd.map (·.1), dstP ops j = some t
        · obtain ⟨j, hj, hjt⟩ := hw
          rw [I.put j hj (hall j hj) t hjt, can_new vals hjt _ _ (by simpa using hj) (fun k hk hkt => hap' k (by simpa using hk) j hj t hkt hjt)]
        · rw [I.old t (fun j hj _ he => hw ⟨j, hj, he⟩), can_old vals _ _ (fun j hj he => hw ⟨j, by simpa using hj, he⟩)]
      have hdf := I.defers
      have hdc := can_defers (ops := ops) vals ((hd.map (·.1)).reverse ++ []) a0
      cases a
      generalize canP ops vals ((hd.map (·.1)).reverse ++ []) a0 = c at *
      cases c
      simp only at ht hdf hdc
      rw [ht, hdf, hdc]
    rw [he]
    exact h1
  | succ f ih =>
    intro R vals listed a w hRn hR hfM hmem I
    have hne : ∃ j ∈ hd.map (·.1), listed.getD j false = false := by
      cases R with
      | nil => cases hR
      | cons j r => exact ⟨j, (hmem j).1 (by simp)⟩
    obtain ⟨i0, hi0H, hi0⟩ := ready_someR I.inv.size (fun j hj => by rw [I.rest j (fun hm => hnp j hm hj)]; simpa using hj) hd [] hok (fun j hj => by cases hj) hne
    rw [show f + 1 + tl.length = (f + tl.length) + 1 by omega]
    -- what a head operation that is ready needs
    have core : ∀ i ∈ hd.map (·.1), i ∈ Region.ready .any ops listed → (wpOp P ops Q i (wpAny P .any ops Q (f + tl.length) (listed.setIfInBounds i true)) a w) ∧ (late.contains i = true → ∃ oi v, ops[i]? = some oi ∧ oi.guard = none ∧ (∀ w', (execOp a.eval oi).run P w' = .ok (.value v) w') ∧ wpAny P .any ops Q (f + tl.length) (listed.setIfInBounds i true) (a.put oi.dst v) w) := by
     intro i hiH hi
     obtain ⟨hun, oi, hoi, haf⟩ := mem_ready.1 hi
     have hunl := getD_bothT hun
     obtain ⟨D, hD, _⟩ := resP_fst hd [] i hiH
     obtain ⟨hmon, o, ho, hstep⟩ := hob (i, D) hD
     have : o = oi := Option.some.inj (ho.symm.trans hoi)
     subst this
     have hs := hsee (i, D) hD
     unfold seesP at hs
     simp only [ho, Bool.and_eq_true] at hs
     have hDl : ∀ j ∈ D, listed.getD j false = true := fun j hj => needs_listed I.inv F i j (List.all_eq_true.1 hs.1 j hj) (fun o' ho' e he hb => by
       have : o' = o := Option.some.inj (ho'.symm.trans hoi)
       subst this; exact haf e he hb)
     have hDH : ∀ j ∈ D, j ∈ hd.map (·.1) := fun j hj => by
       by_cases hc : j ∈ hd.map (·.1)
       · exact hc
       · exfalso
         obtain ⟨_, hDm⟩ := resP_mem hd [] i D hD
         rcases hDm j hj with h | h
         · cases h
         · exact hc h
     have hst0 := allP_inst (vals := vals) D a0 (hstep (M - (f + 1)) w (by omega) I.s) (fun j hj => I.hold j (hDH j hj) (hDl j hj))
     have hst : stepQ P ops Q G (S (M - (f + 1) + 1)) o (sp i) w (canP ops vals D a0) := by
       unfold obR at hst0
       split at hst0
       · exact stepQ_of_late hgq I.s hst0
       · exact hst0
     have hlook : ∀ t ∈ o.looksAt ops, a.tmps[t]? = (canP ops vals D a0).tmps[t]? := fun t ht => by
       have h1 := List.all_eq_true.1 hs.2 t ht
       by_cases hw : ∃ j ∈ hd.map (·.1), listed.getD j false = true ∧ dstP ops j = some t
       · obtain ⟨j, hj, hjl, hjt⟩ := hw
         have h2 := List.all_eq_true.1 h1 j hj
         rw [hjt] at h2
         simp only [beq_self_eq_true, Bool.not_true, Bool.false_or, Bool.or_eq_true] at h2
         have hjD : j ∈ D := by
           rcases h2 with h2 | h2 | h2
           · simpa using h2
           · have : j = i := by simpa using h2
             subst this; rw [hunl] at hjl; cases hjl
           · have hjo : ∃ oj, ops[j]? = some oj := by
               unfold dstP at hjt
               cases hh : ops[j]? with
               | none => rw [hh] at hjt; cases hjt
               | some oj => exact ⟨oj, rfl⟩
             have h3 := needs_listed I.inv F j i h2 (fun oj hoj e he hb => I.inv.closed j oj hoj hjl e he hb)
             rw [hunl] at h3; cases h3
         rw [I.put j hj hjl t hjt, can_new vals hjt D a0 hjD (fun k hk hkt => hap' k (hDH k hk) j hj t hkt hjt)]
       · rw [I.old t (fun j hj hjl he => hw ⟨j, hj, hjl, he⟩), can_old vals D a0 (fun j hj he => hw ⟨j, hDH j hj, hDl j hj, he⟩)]
     have hexec : execOp (canP ops vals D a0).eval o = execOp a.eval o := execOp_congr o (fun cs b => Region.noSelect_spec hsel i o cs b hoi) fun x hx => by
       cases x with
       | tmp t =>
         have := hlook t (List.mem_append_left _ (List.mem_filterMap.2 ⟨.tmp t, by simpa using hx, rfl⟩))
         simp only [Act.eval, Array.getD_eq_getD_getElem?]
         rw [this]
       | _ => rfl
     have hwant : Region.wanted o (yielded ops (canP ops vals D a0).tmps) = Region.wanted o (yielded ops a.tmps) := by
       unfold Region.wanted
       cases hg : o.guard with
       | none => rfl
       | some gw =>
         obtain ⟨g, want⟩ := gw
         have hy : yielded ops (canP ops vals D a0).tmps g = yielded ops a.tmps g := by
           unfold yielded
           cases ht : (ops[g]?).bind (·.dst) with
           | none => rfl
           | some t =>
             have := hlook t (by simp [Oper.looksAt, hg, ht])
             simp only [Option.bind_some]
             rw [this]
         simp only [hy]
     have hdst : ∀ t, o.dst = some t → dstP ops i = some t := fun t h => by unfold dstP; rw [ho]; exact h
     have hdst' : dstP ops i = o.dst := by unfold dstP; rw [ho]; rfl
     -- what stands behind it
     have next : ∀ (v : Value) (w' : World), (sp i).holds v w' → G w w' → S (M - (f + 1) + 1) w' →
         wpAny P .any ops Q (f + tl.length) (listed.setIfInBounds i true) (a.put o.dst v) w' := by
       intro v w' hv hb hs1
       refine ih (R.erase i) (fun j => if j = i then v else vals j) _ _ w' (hRn.erase i) ?_ (by omega) (fun j => ?_) ⟨I.inv.set hi, (by rw [show M - f = M - (f + 1) + 1 by omega]; exact hs1), fun j hj => ?_, ?_, fun j hj hjl => ?_, fun j hj hjl t hjt => ?_, fun t ht => ?_⟩
       · rw [List.length_erase_of_mem ((hmem i).2 ⟨hiH, hunl⟩), hR]; rfl
       · rw [hRn.mem_erase_iff, hmem j]
         constructor
         · rintro ⟨hji, h1, h2⟩
           exact ⟨h1, by rw [getD_set_ne false (Ne.symm hji)]; exact h2⟩
         · rintro ⟨h1, h2⟩
           by_cases hji : j = i
           · subst hji
             have hl : j < listed.size := by have := I.inv.size; have := hlt j hiH; omega
             simp [hl] at h2
           · exact ⟨hji, h1, by rw [getD_set_ne false (Ne.symm hji)] at h2; exact h2⟩
       · have hji : j ≠ i := fun e => hj (e ▸ hiH)
         rw [getD_set_ne false (Ne.symm hji)]; exact I.rest j hj
       · rw [← I.defers]
         cases o.dst <;> rfl
       · by_cases hji : j = i
         · subst hji; simpa using hv
         · simp only [hji, if_false]
           rw [getD_set_ne false (Ne.symm hji)] at hjl
           have hmj : MonoQ G (sp j) := by
             obtain ⟨D', hD', _⟩ := resP_fst hd [] j hj
             exact (hob (j, D') hD').1
           exact hmj _ w w' hb (I.hold j hj hjl)
       · by_cases hji : j = i
         · subst hji
           simp only [if_true]
           rw [hdst'] at hjt
           rw [hjt, put_get_same]
           have := I.old t (fun k hk hkl hkt => by
             have := hap' k hk j hj t hkt (by rw [hdst']; exact hjt)
             subst this; rw [hunl] at hkl; cases hkl)
           rw [this]
         · simp only [hji, if_false]
           rw [getD_set_ne false (Ne.symm hji)] at hjl
           have hdi : o.dst ≠ some t := fun e => hji (hap' j hj i hiH t hjt (hdst t e))
           rw [put_get_ne hdi]
           exact I.put j hj hjl t hjt
       · have hdi : o.dst ≠ some t := fun e => ht i hiH (by
           have hl : i < listed.size := by have := I.inv.size; have := hlt i hiH; omega
           simp [hl]) (hdst t e)
         rw [put_get_ne hdi]
         refine I.old t fun j hj hjl => ht j hj ?_
         exact getD_set_true hjl
     refine ⟨?_, fun hlt' => ?_⟩
     rotate_left
     · unfold obR at hst0
       rw [if_pos hlt'] at hst0
       obtain ⟨hgd, v, hv, hs2⟩ := hst0
       refine ⟨o, v, ho, hgd, fun w' => by rw [← hexec]; exact hv w', next v w hs2 (hgq.refl _) (hgq.up _ _ I.s)⟩
     unfold wpOp
     simp only [ho]
     unfold stepQ at hst
     rw [hwant] at hst
     split
     · rename_i hwt
       rw [if_pos hwt] at hst
       refine .inl ?_
       unfold Oper.wp at hst ⊢
       rw [hexec] at hst
       exact upon_moveP (R := fun v w' => (sp i).holds v w' ∧ G w w' ∧ S (M - (f + 1) + 1) w') hQ (fun t ht => by rw [can_size]; exact hsz i hiH t (hdst t ht)) (fun v w' h => next v w' h.1 h.2.1 h.2.2) _ hst
     · rename_i hwt
       rw [if_neg hwt] at hst
       exact next undef w hst (hgq.refl _) (hgq.up _ _ I.s)
    by_cases hall : ∀ j ∈ R, late.contains j = true
    · have hi0R : i0 ∈ hd.map (·.1) ∧ i0 ∈ R := by
        have := hi0H
        exact ⟨this, (hmem i0).2 ⟨this, getD_bothT (mem_ready.1 hi0).1⟩⟩
      obtain ⟨_, hL⟩ := core i0 hi0R.1 hi0
      obtain ⟨oi, v, hoi, hgd, hv, hgo⟩ := hL (hall i0 hi0R.2)
      refine wpAny_first hoi (Region.noSelect_spec hsel) (fun c a w h => hQ c _ _ w h) (f + tl.length) listed a w (fun j oj hoj hji hjun hno => ?_) hi0 (.inl ⟨wanted_free hgd a, hv⟩) hgo
      have hjun' := getD_bothT hjun
      refine hlate i0 (by simpa using hall i0 hi0R.2) j (Array.getElem?_eq_some_iff.1 hoj).1 hji ?_ ?_ ?_ oi oj hoi hoj
      · by_cases hp : j ∈ hd.map (·.1)
        · have := hnp j hp; simpa using this
        · rw [← I.rest j hp]; exact hjun'
      · by_cases hp : j ∈ hd.map (·.1)
        · have := hall j ((hmem j).2 ⟨hp, hjun'⟩)
          rw [this]; simp
        · simp only [Bool.and_eq_false_iff]; left; simpa using hp
      · cases hh : (afters ops j).contains i0 with
        | false => rfl
        | true =>
          exfalso
          unfold afters at hh
          rw [hoj] at hh
          simp only [List.contains_iff_mem] at hh
          obtain ⟨e, he, heq⟩ := List.mem_map.1 hh
          obtain ⟨he1, he2⟩ := List.mem_filter.1 he
          exact hno e (by simpa using he1) he2 heq
    · refine ⟨fun h => (by rw [h] at hi0; cases hi0), fun i hi => ?_⟩
      have hiH : i ∈ hd.map (·.1) := by
        by_cases hc : (hd.map (·.1)).contains i = true
        · simpa using hc
        · exfalso
          obtain ⟨hun, oi, hoi, haf⟩ := mem_ready.1 hi
          have hunl := getD_bothT hun
          refine hall fun j hj => ?_
          cases hlj : late.contains j with
          | true => rfl
          | false =>
            exfalso
            obtain ⟨hjH, hjl⟩ := (hmem j).1 hj
            have h1 := hN i (Array.getElem?_eq_some_iff.1 hoi).1 (by rw [← I.rest i (fun hm => hc (by simpa using hm))]; exact hunl) (by simpa using hc) j hjH hlj
            have h2 := needs_listed I.inv F i j h1 (fun o ho e he hb => by
              have : o = oi := Option.some.inj (ho.symm.trans hoi)
              subst this; exact haf e he hb)
            rw [h2] at hjl; cases hjl
      exact (core i hiH hi).1
/-- each operation by itself serves for all orders; some reads go ahead -/
theorem wp_region_R {id : Nat} {a : Act} {w : World} {l : List Oper} (G : World → World → Prop) (S : Nat → World → Prop) (F : Nat) (pre late : List Nat) (hd : List (Nat × List Nat)) (tl : List Nat) (hm : P.follows .mixedOrders = true) (hB : checkR l.toArray F pre late hd tl = true) (hpre : preQ l.toArray pre (Array.replicate l.toArray.size false) = true)
    (hpg : (pre.all fun i => match l.toArray[i]? with | some o => o.guard.isNone && (afters l.toArray i).all (fun j => pre.contains j) | none => false) = true) (hsz : (hd.all fun x => match dstP l.toArray x.1 with | some d => decide (d < a.tmps.size) | none => true) = true) (hn : l.length = pre.length + (hd.length + tl.length))
    (hQ : ∀ c (a a' : Act) w, Q (.panic c) a w → Q (.panic c) a' w) (hgq : GoodQ G S) (hS : S 0 w.drew)
    (h : wpPre P (fun a' => a'.tmps.size = a.tmps.size → chainR P l.toArray Q G S hd.length (fun a' w' => wpList P l.toArray Q (pickN l tl) a' w') a' [] (pickR l late hd)) (pickN l pre) a) : (Code.region id l.toArray true).wp P Q a w := by
  simp only [checkR, Bool.and_eq_true] at hB
  obtain ⟨hsel, hT, hN, hok, hsee, hap, hfin, hlt⟩ := hB
  obtain ⟨hnd, _, _, hnp⟩ := okQ_nodup hd [] hok
  have hrep : ∀ j, (Array.replicate l.toArray.size false).getD j false = false := fun j => by
    rw [Array.getD_eq_getD_getElem?, Array.getElem?_replicate]
    by_cases hj : j < l.toArray.size
    · rw [if_pos hj]; rfl
    · rw [if_neg hj]; rfl
  have hpl : ∀ i ∈ pre, ∃ o, l.toArray[i]? = some o ∧ o.guard = none ∧ ∀ j ∈ afters l.toArray i, j ∈ pre := fun i hi => by
    have := List.all_eq_true.1 hpg i hi
    cases ho : l.toArray[i]? with
    | none => rw [ho] at this; cases this
    | some o =>
      rw [ho] at this
      simp only [Bool.and_eq_true] at this
      exact ⟨o, rfl, by simpa using this.1, fun j hj => by have := List.all_eq_true.1 this.2 j hj; simpa using this⟩
  have hlq := fun j => listQ_get pre (Array.replicate l.toArray.size false) j (fun i hi => by obtain ⟨o, ho, _⟩ := hpl i hi; simpa using (Array.getElem?_eq_some_iff.1 ho).1)
  refine wp_region_any hm ?_
  rw [show l.toArray.size = pre.length + (hd.length + tl.length) by simpa using hn]
  rw [show Array.replicate (pre.length + (hd.length + tl.length)) false = Array.replicate l.toArray.size false by rw [show l.toArray.size = pre.length + (hd.length + tl.length) by simpa using hn]]
  refine wpAny_of_pre (l := l) rfl hsel hQ pre (hd.length + tl.length) _ a hpre (fun i hi o ho => by obtain ⟨o', ho', hg, _⟩ := hpl i hi; rw [ho'] at ho; cases ho; exact hg) ?_
  -- what follows the reads
  suffices key : ∀ (os : List Oper) (b : Act), b.tmps.size = a.tmps.size → wpPre P (fun a' => a'.tmps.size = a.tmps.size → chainR P l.toArray Q G S hd.length (fun a' w' => wpList P l.toArray Q (pickN l tl) a' w') a' [] (pickR l late hd)) os b →
      wpPre P (fun a' => wpAny P .any l.toArray Q (hd.length + tl.length) (listQ pre (Array.replicate l.toArray.size false)) a' w.drew) os b from key _ a rfl h
  intro os
  induction os with
  | nil =>
    intro b hbs hh
    have h' := hh hbs
    obtain ⟨sp, _, h2, h3⟩ := chainR_spec (late := late) (ops := l.toArray) rfl hd [] (fun _ => .val undef) hok (by simpa using h')
    have H := wpAny_of_R (P := P) (Q := Q) (G := G) (S := S) (M := hd.length) (a0 := b) hgq (pre := pre) (late := late) (F := F) (hd := hd) (tl := tl) (l := l) (sp := sp) rfl hsel hQ rfl
      (fun k hk => by have := List.all_eq_true.1 hT k hk; simpa using this)
      (fun k hk hp hc i hi hli => by
        have := List.all_eq_true.1 hN k (List.mem_range.2 hk)
        rw [hp, hc, Bool.false_or, Bool.false_or] at this
        have := List.all_eq_true.1 this i hi
        rw [hli, Bool.false_or] at this
        exact this)
      (fun i hi j hj hji hp hh hno x y hx hy => by
        have := List.all_eq_true.1 (List.all_eq_true.1 hlt i hi) j (List.mem_range.2 hj)
        rw [hp, hh, hno, hx, hy] at this
        simpa [hji] using this)
      hok (fun x hx => List.all_eq_true.1 hsee x hx) hap hfin
      (fun i hi t ht => by
        obtain ⟨x, hx, rfl⟩ := List.mem_map.1 hi
        have := List.all_eq_true.1 hsz x hx
        rw [ht] at this
        rw [hbs]
        simpa using this) h2 h3
      hd.length (hd.map (·.1)) (fun _ => undef) (listQ pre (Array.replicate l.toArray.size false)) b w.drew hnd (by simp) (Nat.le_refl _)
      (fun j => ⟨fun hj => ⟨hj, by rw [(hlq j).1, hrep j]; simpa using hnp j hj⟩, fun hj => hj.1⟩)
      ⟨⟨by rw [(hlq 0).2]; simp, fun j oj ho hl e he hb => by
          rw [(hlq j).1, hrep j, Bool.or_false] at hl
          rw [(hlq e.on).1]
          obtain ⟨o', ho', _, haf⟩ := hpl j (by simpa using hl)
          have := haf e.on (by unfold afters; rw [ho]; exact List.mem_map.2 ⟨e, List.mem_filter.2 ⟨by simpa using he, hb⟩, rfl⟩)
          rw [show pre.contains e.on = true by simpa using this]; rfl⟩, (by rw [Nat.sub_self]; exact hS), fun j _ => by rw [(hlq j).1, hrep j, Bool.or_false], rfl, fun j hj hl => (by rw [(hlq j).1, hrep j, Bool.or_false] at hl; exact absurd (by simpa using hl) (hnp j hj)), fun j hj hl => (by rw [(hlq j).1, hrep j, Bool.or_false] at hl; exact absurd (by simpa using hl) (hnp j hj)), fun t _ => rfl⟩
    exact H
  | cons o r ih =>
    intro b hbs hh
    obtain ⟨v, hv, hr⟩ := hh
    exact ⟨v, hv, ih _ (by rw [← hbs]; cases o.dst <;> simp [Act.put]) hr⟩
end
/-! ### worlds that only grow -/
def GrowG (w w' : World) : Prop := Below w.heap.size w w'
def GrowS (W : World) (C : World → Prop) (_ : Nat) (w' : World) : Prop := Below W.heap.size W w' ∧ C w'
theorem grow_good {W : World} {C : World → Prop} : GoodQ GrowG (GrowS W C) := ⟨fun w => Below.refl _ _, fun m w h => h⟩
section
variable {P : Program} {ops : Array Oper} {Q : Exit → Act → World → Prop} {W : World} {C : World → Prop} {M : Nat} {K : Act → World → Prop} {a0 : Act}
theorem chainL_read {o : Oper} {deps : List Nat} {r : List (Oper × List Nat × Bool)} {env : List (Option Tmp × SpecP)} {d : Option Tmp} (v : Value) (hd : o.dst = d) (hg : o.guard = none)
    (h : ∀ w, (Below W.heap.size W w ∧ C w) → allP w (fun a => (execOp a.eval o).run P w = .ok (.value v) w) (lookP env deps) a0)
    (hr : chainR P ops Q GrowG (GrowS W C) M K a0 ((d, .val v) :: env) r) : chainR P ops Q GrowG (GrowS W C) M K a0 env ((o, deps, false) :: r) :=
  chainR_read grow_good v hd hg (fun m w _ hS => h w hS) hr
theorem chainL_have {o : Oper} {deps : List Nat} {r : List (Oper × List Nat × Bool)} {env : List (Option Tmp × SpecP)} {d : Option Tmp} (p : Value → World → Prop) (hp : ∀ (v : Value) (w w' : World), Below w.heap.size w w' → p v w → p v w') (hd : o.dst = d) (hg : o.guard = none)
    (h : ∀ w, (Below W.heap.size W w ∧ C w) → allP w (fun a => ∃ v, (execOp a.eval o).run P w = .ok (.value v) w ∧ p v w) (lookP env deps) a0)
    (hr : chainR P ops Q GrowG (GrowS W C) M K a0 ((d, .pre p) :: env) r) : chainR P ops Q GrowG (GrowS W C) M K a0 env ((o, deps, false) :: r) :=
  chainR_have grow_good p hp hd hg (fun m w _ hS => h w hS) hr
theorem chainL_late {o : Oper} {deps : List Nat} {r : List (Oper × List Nat × Bool)} {env : List (Option Tmp × SpecP)} {d : Option Tmp} (v : Value) (hd : o.dst = d) (hg : o.guard = none)
    (h : ∀ w, (Below W.heap.size W w ∧ C w) → allP w (fun a => ∀ w', (execOp a.eval o).run P w' = .ok (.value v) w') (lookP env deps) a0)
    (hr : chainR P ops Q GrowG (GrowS W C) M K a0 ((d, .val v) :: env) r) : chainR P ops Q GrowG (GrowS W C) M K a0 env ((o, deps, true) :: r) :=
  chainR_late v hd hg (fun m w _ hS => h w hS) hr
theorem chainL_do {o : Oper} {deps : List Nat} {r : List (Oper × List Nat × Bool)} {env : List (Option Tmp × SpecP)} {d : Option Tmp} (hC : ∀ w', Below W.heap.size W w' → C w') (p : Value → World → Prop) (hp : ∀ (v : Value) (w w' : World), Below w.heap.size w w' → p v w → p v w') (hd : o.dst = d) (hg : o.guard = none)
    (h : ∀ w, (Below W.heap.size W w ∧ C w) → allP w (fun a => ∀ K' : Act → World → Prop, Shut (∀ v w', Below w.heap.size w w' → p v w' → K' (a.put d v) w') → o.wp P a w K' Q) (lookP env deps) a0)
    (hr : chainR P ops Q GrowG (GrowS W C) M K a0 ((d, .pre p) :: env) r) : chainR P ops Q GrowG (GrowS W C) M K a0 env ((o, deps, false) :: r) :=
  chainR_do p hp hd hg (fun m w _ hS => allP_mono (fun a ha K' hK => ha K' (fun v w' hb hv => hK.out v w' hb ⟨hS.1.trans (hb.mono hS.1.size), hC _ (hS.1.trans (hb.mono hS.1.size))⟩ hv)) _ _ (h w hS)) hr
theorem chainL_nil {env : List (Option Tmp × SpecP)} (h : ∀ w, (Below W.heap.size W w ∧ C w) → allP w (fun a => K a w) env a0) : chainR P ops Q GrowG (GrowS W C) M K a0 env [] := chainR_nil h

/-- each operation by itself serves for all orders; the worlds grow; some reads go ahead, some come late -/
theorem wp_region_L {id : Nat} {a : Act} {w : World} {l : List Oper} (C : World → Prop) (F : Nat) (pre late : List Nat) (hd : List (Nat × List Nat)) (tl : List Nat) (hm : P.follows .mixedOrders = true) (hB : checkR l.toArray F pre late hd tl = true) (hpre : preQ l.toArray pre (Array.replicate l.toArray.size false) = true)
    (hpg : (pre.all fun i => match l.toArray[i]? with | some o => o.guard.isNone && (afters l.toArray i).all (fun j => pre.contains j) | none => false) = true) (hsz : (hd.all fun x => match dstP l.toArray x.1 with | some d => decide (d < a.tmps.size) | none => true) = true) (hn : l.length = pre.length + (hd.length + tl.length))
    (hQ : ∀ c (a a' : Act) w, Q (.panic c) a w → Q (.panic c) a' w) (hC : ∀ w', Below w.heap.size w w' → C w')
    (h : wpPre P (fun a' => a'.tmps.size = a.tmps.size → chainR P l.toArray Q GrowG (GrowS w C) hd.length (fun a' w' => wpList P l.toArray Q (pickN l tl) a' w') a' [] (pickR l late hd)) (pickN l pre) a) : (Code.region id l.toArray true).wp P Q a w :=
  wp_region_R GrowG (GrowS w C) F pre late hd tl hm hB hpre hpg hsz hn hQ grow_good ⟨(Below.refl _ _).drew, hC _ (Below.refl _ _).drew⟩ h
end
attribute [irreducible] chainR
end Go.Proofs.Ytacpnphfopmofaa
namespace Go.Proofs.Ytacpnphfopmofaa
open Go.RowKit
set_option linter.unusedSimpArgs false
set_option linter.unusedVariables false

noncomputable def exB (gr : GroupD) (x e : Int) : Bool := goodG gr && (elB gr x && expB gr e)
noncomputable def exR (gr : GroupD) (x e : Int) : Int := if exB gr x e = true then powE gr x e else 0
set_option maxRecDepth 100000 in
set_option maxHeartbeats 2000000 in
theorem impl_ExpOf (gr : GroupD) (x e0 : Int) (w : World) (he0 : I64 e0) :
    Calls Try.prog 14 #[.agg #[.int .i64 gr.p, .int .i64 gr.q, .int .i64 gr.g], .int .i64 x, .int .i64 e0] w fun e w' => e = .returned (.tuple #[.int .i64 (exR gr x e0), .bool (exB gr x e0)]) ∧ Below w.heap.size w w' := by
  obtain ⟨p, q, g⟩ := gr
  obtain ⟨W, hW⟩ : ∃ W, W = w.alloc (.cells #[.int .i64 p, .int .i64 q, .int .i64 g] 24) := ⟨_, rfl⟩
  have HB : Hid (Below w.heap.size w W) := by unfold Hid; rw [hW]; exact (Below.refl _ _).alloc (Nat.le_refl _) _
  have HX : Hid (BoxN W w.heap.size 24 [.int .i64 p, .int .i64 q, .int .i64 g]) := by unfold Hid; rw [hW]; exact BoxN.new w _ _
  have HSW : Hid (W.heap.size = w.heap.size + 1) := by unfold Hid; rw [hW]; simp
  have HWW := Lib.hid hW
  clear hW
  have HE0 := Lib.hid he0; clear he0
  obtain ⟨b3, hb3⟩ : ∃ b, elB ⟨p, q, g⟩ x = b := ⟨_, rfl⟩
  obtain ⟨b4, hb4⟩ : ∃ b, expB ⟨p, q, g⟩ e0 = b := ⟨_, rfl⟩
  have H3 := Lib.hid hb3
  have H4 := Lib.hid hb4
  cases hgd : goodG ⟨p, q, g⟩ with
  | false =>
    have H1 := Lib.hid hgd
    have HR : Hid (exB ⟨p, q, g⟩ x e0 = false) := by unfold Hid exB; rw [hgd]; rfl
    have HV : Hid (exR ⟨p, q, g⟩ x e0 = 0) := by unfold Hid exR; rw [HR.out]; rfl
    rw [HR.out, HV.out]
    clear hgd hb3 hb4
    go_enter Try.func14, Try.ntmps14
    go_wp2_with fail
    rw [← HWW.out]
    try rw [← HSW.out]
    clear HWW
    refine (impl_IsValidGroup ⟨p, q, g⟩ _).mono ?_
    rintro e w1 ⟨rfl, hcum⟩
    rw [H1.out]
    have c0 := box_at (HX.out.cell (i := 0) rfl) hcum
    have c1 := box_at (HX.out.cell (i := 1) rfl) hcum
    have c2 := box_at (HX.out.cell (i := 2) rfl) hcum
    go_wp2_with fail
    go_ret2
    exact ⟨rfl, HB.out.trans (hcum.mono HB.out.size)⟩
  | true =>
    have H1 := Lib.hid hgd
    have HG := Lib.hid (goodG_ok hgd)
    have HRR : Hid (exB ⟨p, q, g⟩ x e0 = (b3 && b4)) := by unfold Hid exB; rw [hgd, hb3, hb4]; rfl
    have HVV : Hid (exR ⟨p, q, g⟩ x e0 = if (b3 && b4) = true then powE ⟨p, q, g⟩ x e0 else 0) := by unfold Hid exR; rw [HRR.out]
    rw [HRR.out, HVV.out]
    clear hgd hb3 hb4
    go_enter Try.func14, Try.ntmps14
    go_wp2_with fail
    rw [← HWW.out]
    try rw [← HSW.out]
    clear HWW
    refine (impl_IsValidGroup ⟨p, q, g⟩ _).mono ?_
    rintro e w1 ⟨rfl, hcum⟩
    rw [H1.out]
    have c0 := box_at (HX.out.cell (i := 0) rfl) hcum
    have c1 := box_at (HX.out.cell (i := 1) rfl) hcum
    have c2 := box_at (HX.out.cell (i := 2) rfl) hcum
    cases b3
    rotate_left
    all_goals cases b4
    all_goals
      go_wp2_with (first
        | (go_at_call 47; refine (impl_has ⟨p, q, g⟩ x _ HG.out).mono ?_; rintro e wa ⟨rfl, hba⟩; rw [H3.out]; (replace hcum := Below.next hcum hba); (replace c0 := box_at c0 hba); (replace c1 := box_at c1 hba); (replace c2 := box_at c2 hba); clear hba)
        | (go_at_call 48; refine (impl_isExp ⟨p, q, g⟩ e0 _ HG.out).mono ?_; rintro e wa ⟨rfl, hba⟩; rw [H4.out]; (replace hcum := Below.next hcum hba); (replace c0 := box_at c0 hba); (replace c1 := box_at c1 hba); (replace c2 := box_at c2 hba); clear hba)
        | (go_at_call 51; refine (impl_pow ⟨p, q, g⟩ x e0 _ HG.out (elB_small HG.out H3.out) HE0.out).mono ?_; rintro e wa ⟨rfl, hba⟩; (replace hcum := Below.next hcum hba); clear hba)
        | fail)
      go_ret2
      exact ⟨ret_int_bool (by first | rfl | simp) rfl, HB.out.trans (hcum.mono HB.out.size)⟩
end Go.Proofs.Ytacpnphfopmofaa
namespace Go.Proofs.Ytacpnphfopmofaa
open Go.RowKit
set_option linter.unusedSimpArgs false
set_option linter.unusedVariables false

/-- the k-th power -/
def yE (gr : GroupD) (b : Int) (k : Nat) : Int := powM b k gr.p
/-- the first of n exponents from k on whose power is x, or -1 -/
def lgF (gr : GroupD) (b x : Int) : Nat → Nat → Int
  | _, 0 => -1
  | k, n + 1 => if yE gr b k = x then (k : Int) else lgF gr b x (k + 1) n
theorem yE_add (gr : GroupD) (b : Int) (a d : Nat) (h : yE gr b d = 1) : yE gr b (a + d) = yE gr b a := by
  have h' : b ^ d % gr.p = 1 := h
  show b ^ (a + d) % gr.p = b ^ a % gr.p
  rw [Int.pow_add, ← emod_mul_right, h', Int.mul_one]
theorem yE_mod (gr : GroupD) (b : Int) {d : Nat} (hd : 0 < d) (h : yE gr b d = 1) (j : Nat) : yE gr b j = yE gr b (j % d) := by
  induction j using Nat.strongRecOn with
  | ind j ih =>
    rcases Nat.lt_or_ge j d with hlt | hge
    · rw [Nat.mod_eq_of_lt hlt]
    · have e : j = (j - d) + d := by omega
      have h1 := ih (j - d) (by omega)
      rw [Nat.mod_eq_sub_mod hge, ← h1, ← yE_add gr b (j - d) d h, ← e]
/-- the number of exponents that are tried -/
def lgM (gr : GroupD) (m : Int) : Nat := (min m (gr.q - 1) + 1).toNat
noncomputable def loA (gr : GroupD) (b x m : Int) : Bool := goodG gr && ((elB gr b && elB gr x) && decide (0 ≤ m ∧ m ≤ 1000000))
noncomputable def loB (gr : GroupD) (b x m : Int) : Bool := loA gr b x m && decide (0 ≤ lgF gr b x 0 (lgM gr m))
theorem elB_pow {gr : GroupD} {x : Int} (h : elB gr x = true) : powM x gr.q gr.p = 1 := by
  unfold elB at h; simp only [Bool.and_eq_true, beq_iff_eq] at h; exact h.2
end Go.Proofs.Ytacpnphfopmofaa
namespace Go.Proofs.Ytacpnphfopmofaa
open Go.RowKit
set_option linter.unusedSimpArgs false
set_option linter.unusedVariables false

/-- the product of two residues -/
theorem mulT {gr : GroupD} (a b : Int) : mulL gr [a, b] = a * b % gr.p := by
  unfold mulL
  simp only [List.foldl_cons, List.foldl_nil, Int.one_mul]
  rw [emod_mul_left]
theorem elT {gr : GroupD} (hg : OkG gr) {x : Int} (h0 : 0 ≤ x) (h1 : x < gr.p) (h : powM x gr.q gr.p = 1) : elB gr x = true := by
  have hp := hg.p1
  have hq := hg.q1
  have h2 : x ≠ 0 := fun h3 => by
    rw [h3] at h
    unfold powM at h
    obtain ⟨n, hn⟩ : ∃ n, gr.q.toNat = n + 1 := ⟨gr.q.toNat - 1, by omega⟩
    rw [hn, Int.pow_succ, Int.mul_zero] at h
    simp at h
  unfold elB
  rw [h, Bool.and_eq_true, decide_eq_true_iff]
  exact ⟨by omega, rfl⟩
theorem elT_mul {gr : GroupD} (hg : OkG gr) {a b : Int} (ha : elB gr a = true) (hb : elB gr b = true) : elB gr (a * b % gr.p) = true := by
  have hp := hg.p1
  refine elT hg (Int.emod_nonneg _ (by omega)) (Int.emod_lt_of_pos _ (by omega)) ?_
  have h1 := elB_pow ha
  have h2 := elB_pow hb
  unfold powM at h1 h2 ⊢
  rw [emod_pow, Int.mul_pow, Int.mul_emod, h1, h2]
  exact Int.emod_eq_of_lt (by omega) (by omega)
theorem elT_gen {gr : GroupD} (h : goodG gr = true) : elB gr gr.g = true := by
  have hg := goodG_ok h
  refine elT hg (by have := hg.g1; omega) (by have := hg.g2; omega) ?_
  unfold goodG at h
  simp only [Bool.and_eq_true, beq_iff_eq] at h
  exact h.2.2.2.2.2.2
theorem pow_one_mod {a p : Int} (hp : 1 < p) (h : a % p = 1) (k : Nat) : a ^ k % p = 1 := by
  rw [← emod_pow, h, Int.one_pow]
  exact Int.emod_eq_of_lt (by omega) hp
theorem elT_pow {gr : GroupD} (hg : OkG gr) {x : Int} (h : elB gr x = true) (e : Int) : elB gr (powE gr x e) = true := by
  have hp := hg.p1
  obtain ⟨h1, h2⟩ := powE_bd hg x e
  refine elT hg h1 h2 ?_
  have h3 := elB_pow h
  unfold powM at h3
  unfold powE powM
  rw [emod_pow, ← Int.pow_mul, Nat.mul_comm, Int.pow_mul]
  exact pow_one_mod (by omega) h3 _
theorem powE_emod (gr : GroupD) (x e : Int) : powE gr x (e % gr.q) = powE gr x e := by
  unfold powE; rw [Int.emod_emod]
/-- a power of an element goes by the residue of the exponent -/
theorem powE_nat {gr : GroupD} (hg : OkG gr) {x : Int} (h : elB gr x = true) (k : Nat) : powE gr x (k : Int) = x ^ k % gr.p := by
  have hq := hg.q1
  have h1 := elB_pow h
  obtain ⟨d, hd⟩ : ∃ d : Nat, gr.q = d := ⟨gr.q.toNat, by omega⟩
  have h2 : yE gr x d = 1 := by rw [hd] at h1; exact h1
  have h3 := yE_mod gr x (d := d) (by omega) h2 k
  have e1 : ((k : Int) % gr.q) = ((k % d : Nat) : Int) := by rw [hd]; omega
  show powM x ((k : Int) % gr.q) gr.p = x ^ k % gr.p
  rw [e1]
  exact h3.symm
theorem powE_add {gr : GroupD} (hg : OkG gr) {x : Int} (h : elB gr x = true) (a b : Int) : powE gr x (a + b) = powE gr x a * powE gr x b % gr.p := by
  have hq := hg.q1
  have e1 : 0 ≤ a % gr.q := Int.emod_nonneg _ (by omega)
  have e2 : 0 ≤ b % gr.q := Int.emod_nonneg _ (by omega)
  obtain ⟨i, hi⟩ : ∃ i : Nat, a % gr.q = i := ⟨(a % gr.q).toNat, by omega⟩
  obtain ⟨j, hj⟩ : ∃ j : Nat, b % gr.q = j := ⟨(b % gr.q).toNat, by omega⟩
  rw [← powE_emod gr x (a + b), Int.add_emod, hi, hj, powE_emod, ← powE_emod gr x a, ← powE_emod gr x b, hi, hj, powE_nat hg h, powE_nat hg h, show ((i : Int) + (j : Int)) = ((i + j : Nat) : Int) by omega, powE_nat hg h, Int.pow_add, Int.mul_emod]
theorem powE_mulB (gr : GroupD) (a b e : Int) : powE gr (a * b % gr.p) e = powE gr a e * powE gr b e % gr.p := by
  unfold powE powM
  rw [emod_pow, Int.mul_pow, Int.mul_emod]
end Go.Proofs.Ytacpnphfopmofaa
namespace Go.Proofs.Ytacpnphfopmofaa
open Go.RowKit
set_option linter.unusedSimpArgs false
set_option linter.unusedVariables false

theorem small_64 {x : Int} (h : Small x) : I64 x := ⟨by have := h.1; omega, by have := h.2; omega⟩
theorem powE_small {gr : GroupD} (hg : OkG gr) (x e : Int) : Small (powE gr x e) := by
  have := powE_bd hg x e; have := hg.p2; exact ⟨by omega, by omega⟩
theorem mulL_small {gr : GroupD} (hg : OkG gr) (l : List Int) : Small (mulL gr l) := by
  have := mulL_bd hg l; have := hg.p2; exact ⟨by omega, by omega⟩
theorem AllSmall.nil : AllSmall [] := fun x hx => by cases hx
theorem AllSmall.cons {x : Int} {l : List Int} (h : Small x) (h' : AllSmall l) : AllSmall (x :: l) := fun y hy => by
  rcases List.mem_cons.1 hy with rfl | hy
  · exact h
  · exact h' y hy
end Go.Proofs.Ytacpnphfopmofaa
