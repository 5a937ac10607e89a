/- Sums of dealings: walks (printed by gen_sh4.py). -/
import Derived.Test.YtacpnphfopmofaaDrG0D
import Derived.Test.YtacpnphfopmofaaLag3D
import Derived.Test.YtacpnphfopmofaaRegVD
import Derived.Deep.CutRange
import Derived.Test.YtacpnphfopmofaaFindRD
import Derived.Test.YtacpnphfopmofaaRowJD
namespace Go.Proofs.Ytacpnphfopmofaa
open Go.RowKit
set_option linter.unusedSimpArgs false
set_option linter.unusedVariables false

def smL (f : Int → Int → Int) (a b : List Int) : Nat → List Int
  | 0 => a
  | k + 1 => (smL f a b k).set k (f (nth (smL f a b k) k) (nth b k))
def mulF (gr : GroupD) (x y : Int) : Int := mulL gr [x, y]
def addF (gr : GroupD) (x y : Int) : Int := (x + y) % gr.q
def suX (gr : GroupD) (a d : DealingD) : DealingD := ⟨smL (mulF gr) a.c d.c d.c.length, smL (addF gr) a.s d.s d.s.length⟩
theorem smL_len (f : Int → Int → Int) (a b : List Int) (k : Nat) : (smL f a b k).length = a.length := by
  induction k with
  | zero => rfl
  | succ k ih => unfold smL; rw [List.length_set, ih]
theorem nth_mem' {l : List Int} {k : Nat} (h : k < l.length) : nth l k ∈ l := by
  have e : nth l k = l[k] := by simp [nth, List.getD, h]
  rw [e]; exact List.getElem_mem h
theorem smL_all {P : Int → Prop} {f : Int → Int → Int} {a b : List Int} (ha : ∀ x ∈ a, P x) (hb : ∀ x ∈ b, P x) (hf : ∀ x y, P x → P y → P (f x y)) (hl : a.length = b.length) : ∀ k, k ≤ b.length → ∀ x ∈ smL f a b k, P x := by
  intro k
  induction k with
  | zero => exact fun _ => ha
  | succ k ih =>
    intro hk x hx
    unfold smL at hx
    have ih' := ih (by omega)
    rcases List.mem_or_eq_of_mem_set hx with h | rfl
    · exact ih' x h
    · exact hf _ _ (ih' _ (nth_mem' (by rw [smL_len]; omega))) (hb _ (nth_mem' (by omega)))
theorem addF_exp {gr : GroupD} (hg : OkG gr) (x y : Int) : expB gr (addF gr x y) = true := by
  have hq := hg.q1
  unfold expB addF; rw [decide_eq_true_iff]
  exact ⟨Int.emod_nonneg _ (by omega), by have := Int.emod_lt_of_pos (x + y) (show 0 < gr.q by omega); omega⟩
/-- dealings of one shape -/
structure SameD (gr : GroupD) (f d : DealingD) : Prop where
  lc : d.c.length = f.c.length
  ls : d.s.length = f.s.length
  ec : ∀ x ∈ d.c, elB gr x = true
  es : ∀ x ∈ d.s, expB gr x = true
theorem SameD.sum {gr : GroupD} {f a d : DealingD} (hg : OkG gr) (h1 : SameD gr f a) (h2 : SameD gr f d) : SameD gr f (suX gr a d) := by
  have hq := hg.q1
  refine ⟨?_, ?_, ?_, ?_⟩
  · show (smL _ _ _ _).length = _; rw [smL_len]; exact h1.lc
  · show (smL _ _ _ _).length = _; rw [smL_len]; exact h1.ls
  · exact smL_all (P := fun x => elB gr x = true) h1.ec h2.ec (fun x y hx hy => by show elB gr (mulL gr [x, y]) = true; rw [mulT]; exact elT_mul hg hx hy) (by rw [h1.lc, h2.lc]) _ (Nat.le_refl _)
  · exact smL_all (P := fun x => expB gr x = true) h1.es h2.es (fun x y hx hy => addF_exp hg x y) (by rw [h1.ls, h2.ls]) _ (Nat.le_refl _)
/-- a sum under way in memory: its box and its two rows -/
structure SuS (W u : World) (bz : Nat) (v1 v2 : Value) (L1 L2 : List Int) : Prop where
  bel : Below W.heap.size W u
  box : BoxN u bz 57 [v1, v2]
  o1 : OwnI u W.heap.size v1 L1
  o2 : OwnI u W.heap.size v2 L2
  ne : ∀ k, v1.ownBlock = some k → v2.ownBlock ≠ some k
  lo : W.heap.size ≤ bz
theorem OwnI.apartX {w : World} {B b : Nat} {v : Value} {l : List Int} {t : TypeId} {cs : List Value} (h : OwnI w B v l) (hx : BoxN w b t cs) (ht : t ≠ 3) : ∀ k, v.ownBlock = some k → b ≠ k := by
  rintro k hk rfl
  rcases h.2.2 with h2 | ⟨g, cap, cur, rfl, hg, hr, r⟩
  · rw [h2.1] at hk; cases hk
  · cases hk
    unfold BoxN at hx
    rw [hx] at hr
    injection hr with hr
    injection hr with h1 h2 h3
    exact ht h2
theorem SuS.below {W u u' : World} {bz : Nat} {v1 v2 : Value} {L1 L2 : List Int} (h : SuS W u bz v1 v2 L1 L2) (hb : Below u.heap.size u u') : SuS W u' bz v1 v2 L1 L2 :=
  ⟨Below.next h.bel hb, h.box.below hb, h.o1.below hb, h.o2.below hb, h.ne, h.lo⟩
/-- two own rows and a box are a sum's beginning -/
theorem SuS.start {W u : World} {bz : Nat} {v1 v2 : Value} {L1 L2 : List Int} (hb : Below W.heap.size W u) (hx : BoxN u bz 57 [.slice none 0 0, .slice none 0 0]) (h1 : OwnI u W.heap.size v1 L1) (h2 : OwnI u W.heap.size v2 L2) (hne : ∀ k, v1.ownBlock = some k → v2.ownBlock ≠ some k) (hlo : W.heap.size ≤ bz) :
    SuS W ((u.setCell ⟨bz, 0, none⟩ v1).setCell ⟨bz, 1, none⟩ v2) bz v1 v2 L1 L2 := by
  have p1 := hx.set 0 v1
  have a1 : ∀ k, v1.ownBlock = some k → bz ≠ k := h1.apartX hx (by decide)
  have a2 : ∀ k, v2.ownBlock = some k → bz ≠ k := h2.apartX hx (by decide)
  have k1 : ∀ {x : World} {j : Nat} {y : Value}, OwnI x W.heap.size v1 L1 → OwnI (x.setCell ⟨bz, j, none⟩ y) W.heap.size v1 L1 := fun h => h.kept (grownBy_setCell _ bz _ _) (by
    cases e : v1.ownBlock with
    | none => exact .inl rfl
    | some k => exact .inr fun e2 => a1 k e (Option.some.inj e2).symm)
  have k2 : ∀ {x : World} {j : Nat} {y : Value}, OwnI x W.heap.size v2 L2 → OwnI (x.setCell ⟨bz, j, none⟩ y) W.heap.size v2 L2 := fun h => h.kept (grownBy_setCell _ bz _ _) (by
    cases e : v2.ownBlock with
    | none => exact .inl rfl
    | some k => exact .inr fun e2 => a2 k e (Option.some.inj e2).symm)
  exact ⟨(hb.setCell (p := ⟨bz, 0, none⟩) hlo _).setCell (p := ⟨bz, 1, none⟩) hlo _, by simpa using p1.set 1 v2, k1 (k1 h1), k2 (k2 h2), hne, hlo⟩
end Go.Proofs.Ytacpnphfopmofaa
namespace Go.Proofs.Ytacpnphfopmofaa
open Go.RowKit
set_option linter.unusedSimpArgs false
set_option linter.unusedVariables false

/-- a dealing in new memory and a Bool are returned -/
def RetDB (e : Ending) (w : World) (B : Nat) (b : Bool) (d : DealingD) : Prop := ∃ x y, e = .returned (.tuple #[.agg #[x, y], .bool b]) ∧ OwnI w B x d.c ∧ OwnI w B y d.s
theorem RetDB.mk {w : World} {B : Nat} {x y : Value} {b : Bool} {d : DealingD} (h1 : OwnI w B x d.c) (h2 : OwnI w B y d.s) : RetDB (.returned (.tuple #[.agg #[x, y], .bool b])) w B b d := ⟨x, y, rfl, h1, h2⟩
end Go.Proofs.Ytacpnphfopmofaa
namespace Go.Proofs.Ytacpnphfopmofaa
open Go.RowKit
set_option linter.unusedSimpArgs false
set_option linter.unusedVariables false

theorem mul4_mod (a b c d p : Int) : (a * b % p) * (c * d % p) % p = (a * c % p) * (b * d % p) % p := by
  rw [← Int.mul_emod, ← Int.mul_emod]; congr 1; ac_rfl
theorem bad_nil (gr : GroupD) (d : DealingD) : ∀ n, bdL gr d n = [] ↔ ∀ k, k < n → shrB gr d.c ((k : Int) + 1) (nth d.s k) = true := by
  intro n
  induction n with
  | zero => simp [bdL]
  | succ n ih =>
    unfold bdL
    by_cases h : shrB gr d.c ((n : Int) + 1) (nth d.s n) = true
    · rw [if_pos h, ih]
      constructor
      · intro h2 k hk
        rcases Nat.lt_or_ge k n with h3 | h3
        · exact h2 k h3
        · obtain rfl : k = n := by omega
          exact h
      · exact fun h2 k hk => h2 k (by omega)
    · rw [if_neg h]
      constructor
      · intro h2; simp at h2
      · exact fun h2 => absurd (h2 n (by omega)) h
end Go.Proofs.Ytacpnphfopmofaa
namespace Go.Proofs.Ytacpnphfopmofaa
open Go.RowKit
set_option linter.unusedSimpArgs false
set_option linter.unusedVariables false

/-- the numbers from 1 on -/
def upL : Nat → List Int
  | 0 => []
  | n + 1 => upL n ++ [(n : Int) + 1]
theorem upL_len (n : Nat) : (upL n).length = n := by
  induction n with
  | zero => rfl
  | succ n ih => simp [upL, ih]
theorem upL_nth {n i : Nat} (h : i < n) : nth (upL n) i = (i : Int) + 1 := by
  induction n with
  | zero => omega
  | succ n ih =>
    unfold upL
    rcases Nat.lt_or_ge i n with h1 | h1
    · rw [nth_app (by rw [upL_len]; exact h1)]; exact ih h1
    · obtain rfl : i = n := by omega
      have := nth_app' (a := upL i) (x := (i : Int) + 1)
      rwa [upL_len] at this
theorem upL_mem {n : Nat} {y : Int} (h : y ∈ upL n) : 1 ≤ y ∧ y ≤ n := by
  obtain ⟨i, hi, e⟩ := mem_nth h
  rw [upL_len] at hi
  rw [upL_nth hi] at e
  omega
theorem upL_nodup (n : Nat) : (upL n).Nodup := by
  induction n with
  | zero => exact List.nodup_nil
  | succ n ih =>
    unfold upL
    rw [List.nodup_append]
    refine ⟨ih, by simp, fun a ha b hb => ?_⟩
    rw [List.mem_singleton] at hb
    have := upL_mem ha
    omega
end Go.Proofs.Ytacpnphfopmofaa
namespace Go.Proofs.Ytacpnphfopmofaa
open Go.RowKit
set_option linter.unusedSimpArgs false
set_option linter.unusedVariables false

theorem shG_gen {gr : GroupD} (hG : shG gr = true) : elB gr gr.g = true := elT_gen (by unfold shG at hG; rw [Bool.and_eq_true] at hG; exact hG.2)
theorem atS_pow {gr : GroupD} (hq : 2 ≤ gr.q) (x : Int) (cs : List Int) : ∀ k, (atS gr x cs k).2 = x ^ k % gr.q := by
  intro k
  induction k with
  | zero => show (1 : Int) = _; rw [Int.pow_zero, Int.emod_eq_of_lt (by omega) (by omega)]
  | succ k ih => show (atS gr x cs k).2 * x % gr.q = _; rw [ih, Int.pow_succ, Int.mul_emod, Int.emod_emod, ← Int.mul_emod]
/-- a product of elements -/
def prG (gr : GroupD) (f : Nat → Int) : Nat → Int
  | 0 => 1
  | n + 1 => prG gr f n * f n % gr.p
theorem one_mod {gr : GroupD} (hg : OkG gr) : (1 : Int) % gr.p = 1 := Int.emod_eq_of_lt (by omega) (by have := hg.p1; omega)
theorem prG_congr {gr : GroupD} {f g : Nat → Int} : ∀ n, (∀ i, i < n → f i = g i) → prG gr f n = prG gr g n := by
  intro n
  induction n with
  | zero => intro _; rfl
  | succ n ih => intro h; unfold prG; rw [ih (fun i hi => h i (by omega)), h n (by omega)]
theorem prG_mul {gr : GroupD} (hg : OkG gr) (f g : Nat → Int) : ∀ n, prG gr (fun i => f i * g i % gr.p) n = prG gr f n * prG gr g n % gr.p := by
  intro n
  induction n with
  | zero => show (1 : Int) = 1 * 1 % gr.p; rw [Int.one_mul, one_mod hg]
  | succ n ih => unfold prG; rw [ih, mul4_mod]
theorem powE_dot {gr : GroupD} (hg : OkG gr) {c : Int} (hc : elB gr c = true) (e l : Nat → Int) : ∀ n, powE gr c (dotI n e l) = prG gr (fun i => powE gr (powE gr c (e i)) (l i)) n := by
  intro n
  induction n with
  | zero => exact powE_zero hg
  | succ n ih => unfold prG; rw [dotI_succ, powE_add hg hc, ih, powE_pow hg hc]
/-- the powers with values of polynomials at some points, raised and multiplied, are the powers with the value at another point -/
theorem prG_at {gr : GroupD} (hg : OkG gr) {cs : List Int} (hc : cs.all (elB gr) = true) (t : Nat) (xs l : Nat → Int) (x : Int) (hx : ∀ k, k < cs.length → dotI t (fun i => xs i ^ k % gr.q) l % gr.q = x ^ k % gr.q) :
    ∀ n, n ≤ cs.length → prG gr (fun i => powE gr (atS gr (xs i) cs n).1 (l i)) t = (atS gr x cs n).1 := by
  intro n
  induction n with
  | zero =>
    intro _
    show prG gr (fun i => powE gr 1 (l i)) t = 1
    induction t with
    | zero => rfl
    | succ t _ =>
      clear hx
      have : ∀ m, prG gr (fun i => powE gr 1 (l i)) m = 1 := by
        intro m
        induction m with
        | zero => rfl
        | succ m ih =>
          unfold prG; rw [ih, Int.one_mul]
          have h1 : powE gr 1 (l m) = 1 := by
            show (1 : Int) ^ _ % gr.p = 1
            rw [Int.one_pow, one_mod hg]
          rw [h1, one_mod hg]
      exact this _
  | succ n ih =>
    intro hn
    have hq := hg.q1
    have hcn : elB gr (nth cs n) = true := List.all_eq_true.1 hc _ (nth_mem' (by omega))
    show prG gr (fun i => powE gr (mulL gr [(atS gr (xs i) cs n).1, powE gr (nth cs n) (atS gr (xs i) cs n).2]) (l i)) t = mulL gr [(atS gr x cs n).1, powE gr (nth cs n) (atS gr x cs n).2]
    rw [mulT, ← ih (by omega), atS_pow hq, ← hx n (by omega), powE_emod, powE_dot hg hcn, ← prG_mul hg]
    refine prG_congr _ fun i _ => ?_
    show powE gr (mulL gr [_, _]) _ = _
    rw [mulT, powE_mulB, atS_pow hq]
theorem pow_isP (k : Nat) : IsP (k + 1) (fun x => x ^ k) := by
  induction k with
  | zero => exact ⟨[1], rfl, fun x => by simp [evI]⟩
  | succ k ih =>
    obtain ⟨f, hf, h⟩ := ih.shift
    exact ⟨f, hf, fun x => by rw [← h x]; exact Int.pow_succ ..⟩
theorem dotI_comm (n : Nat) (f g : Nat → Int) : dotI n f g = dotI n g f := by
  unfold dotI; congr 1; refine List.map_congr_left fun i _ => Int.mul_comm ..
theorem lagL_nth {q : Int} {xs : List Int} {x : Int} {i : Nat} (h : i < xs.length) : nth (lagL q xs x) i = lagI q xs x i := by
  simp [lagL, nth, List.getD, h]
theorem dotI_congr {n : Nat} {f g f' g' : Nat → Int} (h : ∀ i, i < n → f i = f' i) (h' : ∀ i, i < n → g i = g' i) : dotI n f g = dotI n f' g' := by
  unfold dotI; congr 1
  refine List.map_congr_left fun i hi => ?_
  rw [List.mem_range] at hi
  show f i * g i = f' i * g' i
  rw [h i hi, h' i hi]
theorem dotM_lag {q : Int} {xs ys : List Int} (x : Int) : dotM q (lagL q xs x) ys (lagL q xs x).length = dotI xs.length (nth ys) (lagI q xs x) % q := by
  unfold dotM
  rw [lagL_len, dotI_comm, dotI_congr (f' := nth ys) (g' := lagI q xs x) (fun _ _ => rfl) (fun i hi => lagL_nth hi)]
theorem va_full {gr : GroupD} {cs ix ss : List Int} (hl : ss.length = ix.length) (hv : vaB gr cs ix ss = true) : (pkX gr cs ix ss).length = cs.length := by
  have P := pk_s gr cs ix ss hl ix.length (Nat.le_refl _)
  unfold vaB at hv
  rw [Bool.not_eq_true', decide_eq_false_iff_not] at hv
  have h1 := P.cap
  unfold pkX at *
  omega
/-- the value that right shares give is right -/
theorem va_right {gr : GroupD} {cs ix ss : List Int} {x : Int} (hG : shG gr = true) (hc : cmsB gr cs = true) (ht : trL ix = true) (hl : ss.length = ix.length) (hs : ss.all (expB gr) = true) (hv : vaB gr cs ix ss = true) :
    powE gr gr.g (vaV gr cs ix ss x) = atE gr cs x := by
  obtain ⟨hpr, _, hq7⟩ := shG_prm hG
  have hg := shG_ok hG
  have F := pk_f (cs := cs) hq7 ht hl hs
  have P := pk_s gr cs ix ss hl ix.length (Nat.le_refl _)
  have hn := va_full hl hv
  have hfit : ∀ j, j < (pkX gr cs ix ss).length → shrB gr cs (nth (pkX gr cs ix ss) j) (nth (pkY gr cs ix ss) j) = true := P.fit
  unfold vaV
  have e : prG gr (fun i => powE gr (powE gr gr.g (nth (pkY gr cs ix ss) i)) (lagI gr.q (pkX gr cs ix ss) x i)) (pkX gr cs ix ss).length = prG gr (fun i => powE gr (atS gr (nth (pkX gr cs ix ss) i) cs cs.length).1 (lagI gr.q (pkX gr cs ix ss) x i)) (pkX gr cs ix ss).length :=
    prG_congr _ fun i hi => by
      have h := hfit i hi
      unfold shrB at h
      rw [beq_iff_eq] at h
      show powE gr (powE gr gr.g _) _ = powE gr (atE gr cs _) _
      rw [h]
  rw [dotM_lag, powE_emod, powE_dot hg (shG_gen hG), e]
  refine prG_at hg (cmsB_parts hc).2 _ (nth (pkX gr cs ix ss)) (lagI gr.q (pkX gr cs ix ss) x) x (fun k hk => ?_) _ (Nat.le_refl _)
  exact interp hpr F.df ((pow_isP k).le (by omega)) x _ (fun i _ => Int.emod_emod ..)
theorem vaV_bd {gr : GroupD} (hG : shG gr = true) (cs ix ss : List Int) (x : Int) : expB gr (vaV gr cs ix ss x) = true := by
  unfold vaV dotM; exact expT (shG_ok hG) _
theorem atE_zero {gr : GroupD} (hg : OkG gr) {cs : List Int} (hc : cs.all (elB gr) = true) (hl : 1 ≤ cs.length) : atE gr cs 0 = nth cs 0 := by
  have key : ∀ k, 1 ≤ k → k ≤ cs.length → (atS gr 0 cs k).1 = nth cs 0 ∧ (atS gr 0 cs k).2 = 0 := by
    intro k
    induction k with
    | zero => intro h; omega
    | succ k ih =>
      intro _ hk
      have h0 : elB gr (nth cs 0) = true := List.all_eq_true.1 hc _ (nth_mem' (by omega))
      refine ⟨?_, by show _ * 0 % gr.q = 0; rw [Int.mul_zero, Int.zero_emod]⟩
      show mulL gr [_, _] = _
      rw [mulT]
      by_cases e : k = 0
      · subst e
        show 1 * powE gr (nth cs 0) 1 % gr.p = _
        rw [Int.one_mul, powE_single hg h0, elT_mod hg h0]
      · obtain ⟨h1, h2⟩ := ih (by omega) (by omega)
        rw [h1, h2, powE_zero hg, Int.mul_one, elT_mod hg h0]
  exact (key _ hl (Nat.le_refl _)).1
/-- what is reconstructed from drawn shares -/
theorem rc_right {gr : GroupD} {cs ix ss : List Int} (h : rcB gr cs ix ss = true) : exB gr gr.g (rcR gr cs ix ss) = true ∧ exR gr gr.g (rcR gr cs ix ss) = nth cs 0 := by
  have h0 := h
  unfold rcB asB at h
  simp only [Bool.and_eq_true, decide_eq_true_iff] at h
  obtain ⟨⟨hG, hc, ht, hl, hs⟩, hv⟩ := h
  have hg := shG_ok hG
  have e : rcR gr cs ix ss = vaV gr cs ix ss 0 := by unfold rcR; rw [if_pos h0]
  have h1 := va_right (x := 0) hG hc ht hl hs hv
  have h2 : goodG gr = true := by unfold shG at hG; rw [Bool.and_eq_true] at hG; exact hG.2
  have h3 : exB gr gr.g (vaV gr cs ix ss 0) = true := by
    unfold exB; rw [h2, shG_gen hG, vaV_bd hG]; rfl
  rw [e]
  refine ⟨h3, ?_⟩
  unfold exR
  rw [if_pos h3, h1, atE_zero hg (cmsB_parts hc).2 (cmsB_parts hc).1.1]
/-- a dealing -/
def deD (gr : GroupD) (cs : List Int) (n : Int) : DealingD := ⟨dcL gr cs cs.length, dsL gr cs n.toNat⟩
noncomputable def dlB (gr : GroupD) (cs : List Int) (n : Int) : Bool := shG gr && (decide (1 ≤ n ∧ n ≤ 7) && (decide (1 ≤ (cs.length : Int) ∧ (cs.length : Int) ≤ n) && cs.all (expB gr)))
noncomputable def dlR (gr : GroupD) (cs : List Int) (n : Int) : DealingD := if dlB gr cs n = true then deD gr cs n else ⟨[], []⟩
theorem dcL_nth (gr : GroupD) (cs : List Int) {i : Nat} : ∀ k, i < k → nth (dcL gr cs k) i = powE gr gr.g (nth cs i) := by
  intro k
  induction k with
  | zero => intro h; omega
  | succ k ih =>
    intro h
    unfold dcL
    rcases Nat.lt_or_ge i k with h1 | h1
    · rw [nth_app (by rw [dcL_len]; exact h1)]; exact ih h1
    · obtain rfl : i = k := by omega
      have := nth_app' (a := dcL gr cs i) (x := powE gr gr.g (nth cs i))
      rwa [dcL_len] at this
theorem dsL_nth (gr : GroupD) (cs : List Int) {i : Nat} : ∀ k, i < k → nth (dsL gr cs k) i = hornE gr.q ((i : Int) + 1) cs := by
  intro k
  induction k with
  | zero => intro h; omega
  | succ k ih =>
    intro h
    unfold dsL
    rcases Nat.lt_or_ge i k with h1 | h1
    · rw [nth_app (by rw [dsL_len]; exact h1)]; exact ih h1
    · obtain rfl : i = k := by omega
      have := nth_app' (a := dsL gr cs i) (x := hornE gr.q ((i : Int) + 1) cs)
      rwa [dsL_len] at this
theorem deal_at {gr : GroupD} (hG : shG gr = true) (cs : List Int) (x : Int) : atE gr (dcL gr cs cs.length) x = powE gr gr.g (hornE gr.q x cs) := by
  have hg := shG_ok hG
  have hq := hg.q1
  have key : ∀ k, k ≤ cs.length → (atS gr x (dcL gr cs cs.length) k).1 = powE gr gr.g (evI (cs.take k) x) := by
    intro k
    induction k with
    | zero => intro _; exact (powE_zero hg).symm
    | succ k ih =>
      intro hk
      show mulL gr [_, _] = _
      rw [mulT, ih (by omega), evI_take_succ (by omega), powE_add hg (shG_gen hG), dcL_nth gr cs _ (by omega), atS_pow hq, powE_emod, powE_pow hg (shG_gen hG)]
  unfold atE
  rw [dcL_len, key _ (Nat.le_refl _), List.take_length, hornE_evI (by omega), powE_emod]
theorem dlB_parts {gr : GroupD} {cs : List Int} {n : Int} (h : dlB gr cs n = true) : shG gr = true ∧ (1 ≤ n ∧ n ≤ 7) ∧ (1 ≤ cs.length ∧ (cs.length : Int) ≤ n) ∧ cs.all (expB gr) = true := by
  unfold dlB at h
  simp only [Bool.and_eq_true, decide_eq_true_iff] at h
  exact ⟨h.1, h.2.1, ⟨by omega, h.2.2.1.2⟩, h.2.2.2⟩
theorem deal_fit {gr : GroupD} {cs : List Int} {n : Int} (hG : shG gr = true) {i : Nat} (hi : i < n.toNat) : shrB gr (deD gr cs n).c ((i : Int) + 1) (nth (deD gr cs n).s i) = true := by
  unfold shrB deD
  rw [dsL_nth gr cs _ hi, deal_at hG, beq_iff_eq]
theorem deal_bad {gr : GroupD} {cs : List Int} {n : Int} (hG : shG gr = true) : badE gr (deD gr cs n) = [] := by
  unfold badE
  rw [bad_nil]
  intro k hk
  rw [show (deD gr cs n).s.length = n.toNat from dsL_len ..] at hk
  exact deal_fit hG hk
theorem mem_dcL {gr : GroupD} {cs : List Int} {y : Int} {k : Nat} (h : y ∈ dcL gr cs k) : ∃ a, y = powE gr gr.g a := by
  obtain ⟨i, hi, e⟩ := mem_nth h
  rw [dcL_len] at hi
  rw [dcL_nth gr cs _ hi] at e
  exact ⟨_, e.symm⟩
theorem mem_dsL {gr : GroupD} (hg : OkG gr) {cs : List Int} {y : Int} {k : Nat} (h : y ∈ dsL gr cs k) : expB gr y = true := by
  obtain ⟨i, hi, e⟩ := mem_nth h
  rw [dsL_len] at hi
  rw [dsL_nth gr cs _ hi] at e
  rw [← e, hornE_evI (by have := hg.q1; omega)]
  exact expT hg _
theorem deal_de {gr : GroupD} {cs : List Int} {n : Int} (hG : shG gr = true) (h1 : 1 ≤ cs.length) (h2 : (cs.length : Int) ≤ n) (h3 : n ≤ 7) : deB gr (deD gr cs n) = true := by
  have hg := shG_ok hG
  unfold deB cmsB lnB
  rw [show (deD gr cs n).s.length = n.toNat from dsL_len .., show (deD gr cs n).c.length = cs.length from dcL_len .., decide_eq_true (by omega), decide_eq_true (by omega), Bool.true_and, Bool.true_and, Bool.and_eq_true, List.all_eq_true, List.all_eq_true]
  refine ⟨fun y hy => ?_, fun y hy => mem_dsL hg hy⟩
  obtain ⟨a, rfl⟩ := mem_dcL hy
  exact elT_pow hg (shG_gen hG) _
/-- all of a dealing -/
theorem deal_right {gr : GroupD} {cs : List Int} {n : Int} (h : dlB gr cs n = true) : dlR gr cs n = deD gr cs n ∧ vdB gr (deD gr cs n) = true ∧ bsR gr (deD gr cs n) = [] := by
  obtain ⟨hG, hn, hl, he⟩ := dlB_parts h
  have h1 : vdB gr (deD gr cs n) = true := by unfold vdB; rw [hG, deal_de hG hl.1 hl.2 hn.2]; rfl
  refine ⟨by unfold dlR; rw [if_pos h], h1, ?_⟩
  unfold bsR
  rw [if_pos h1]; exact deal_bad hG
theorem evI_zero' (cs : List Int) (h : 1 ≤ cs.length) : evI cs 0 = nth cs 0 := by
  cases cs with
  | nil => simp at h
  | cons a l => rw [evI_cons]; simp [nth]
/-- shares that are values of a polynomial -/
theorem share_dot {gr : GroupD} {cs xs ys : List Int} {x : Int} (hq : Prm gr.q) (hd : Diff gr.q xs) (hl : cs.length ≤ xs.length) (hv : ∀ i, i < xs.length → nth ys i = hornE gr.q (nth xs i) cs) :
    dotM gr.q (lagL gr.q xs x) ys (lagL gr.q xs x).length = hornE gr.q x cs := by
  have h1 := hq.1
  rw [dotM_lag, interp hq hd ((IsP.ev cs).le hl) x (nth ys) (fun i hi => by rw [hv i hi, hornE_evI (by omega), Int.emod_emod]), hornE_evI (by omega)]
theorem diff_up {q : Int} (hq : 7 < q) {n : Nat} (h : n ≤ 7) : Diff q (upL n) :=
  diff_tr hq (fun y hy => by have := upL_mem hy; omega) (upL_nodup n)
theorem deal_even {gr : GroupD} {cs : List Int} {n : Int} (h : dlB gr cs n = true) {i : Nat} (hi : i < n.toNat) :
    dotM gr.q (lagL gr.q (upL cs.length) ((i : Int) + 1)) ((deD gr cs n).s.take cs.length) cs.length = nth (deD gr cs n).s i := by
  obtain ⟨hG, hn, hl, he⟩ := dlB_parts h
  obtain ⟨hpr, _, hq7⟩ := shG_prm hG
  have e := share_dot (gr := gr) (cs := cs) (xs := upL cs.length) (ys := (deD gr cs n).s.take cs.length) (x := (i : Int) + 1) hpr (diff_up hq7 (by omega)) (by rw [upL_len]; exact Nat.le_refl _) (fun j hj => by
    rw [upL_len] at hj
    rw [nth_take hj, upL_nth hj]
    exact dsL_nth gr cs _ (by omega))
  rw [lagL_len, upL_len] at e
  rw [e]
  exact (dsL_nth gr cs _ hi).symm
/-- from the last to the first -/
def dnW (n : Int) : Nat → List Int
  | 0 => []
  | k + 1 => dnW n k ++ [n - (k : Int)]
def dnS (ss : List Int) (n : Int) : Nat → List Int
  | 0 => []
  | k + 1 => dnS ss n k ++ [nth ss (n - (k : Int) - 1).toNat]
theorem dnW_len (n : Int) (k : Nat) : (dnW n k).length = k := by
  induction k with
  | zero => rfl
  | succ k ih => simp [dnW, ih]
theorem dnS_len (ss : List Int) (n : Int) (k : Nat) : (dnS ss n k).length = k := by
  induction k with
  | zero => rfl
  | succ k ih => simp [dnS, ih]
theorem dnW_nth (n : Int) {i : Nat} : ∀ k, i < k → nth (dnW n k) i = n - (i : Int) := by
  intro k
  induction k with
  | zero => intro h; omega
  | succ k ih =>
    intro h
    unfold dnW
    rcases Nat.lt_or_ge i k with h1 | h1
    · rw [nth_app (by rw [dnW_len]; exact h1)]; exact ih h1
    · obtain rfl : i = k := by omega
      have := nth_app' (a := dnW n i) (x := n - (i : Int))
      rwa [dnW_len] at this
theorem dnS_nth (ss : List Int) (n : Int) {i : Nat} : ∀ k, i < k → nth (dnS ss n k) i = nth ss (n - (i : Int) - 1).toNat := by
  intro k
  induction k with
  | zero => intro h; omega
  | succ k ih =>
    intro h
    unfold dnS
    rcases Nat.lt_or_ge i k with h1 | h1
    · rw [nth_app (by rw [dnS_len]; exact h1)]; exact ih h1
    · obtain rfl : i = k := by omega
      have := nth_app' (a := dnS ss n i) (x := nth ss (n - (i : Int) - 1).toNat)
      rwa [dnS_len] at this
theorem dnW_mem {n y : Int} {k : Nat} (h : y ∈ dnW n k) : n - (k : Int) < y ∧ y ≤ n := by
  obtain ⟨i, hi, e⟩ := mem_nth h
  rw [dnW_len] at hi
  rw [dnW_nth n _ hi] at e
  omega
theorem dnW_nodup (n : Int) (k : Nat) : (dnW n k).Nodup := by
  induction k with
  | zero => exact List.nodup_nil
  | succ k ih =>
    unfold dnW
    rw [List.nodup_append]
    refine ⟨ih, by simp, fun a ha b hb => ?_⟩
    rw [List.mem_singleton] at hb
    have := dnW_mem ha
    omega
theorem pk_all {gr : GroupD} {cs ix ss : List Int} (h : ∀ j, j < ix.length → shrB gr cs (nth ix j) (nth ss j) = true) : ∀ k, k ≤ ix.length → (pk gr cs ix ss k).1.length = min k cs.length := by
  intro k
  induction k with
  | zero => intro _; simp [pk]
  | succ k ih =>
    intro hk
    have ih := ih (by omega)
    unfold pk
    rw [h k (by omega), Bool.and_true]
    split
    · rename_i hc
      rw [decide_eq_true_iff] at hc
      simp only [List.length_append, List.length_singleton]; omega
    · rename_i hc
      rw [decide_eq_true_iff] at hc
      omega
theorem pk_val {gr : GroupD} {cs ix ss : List Int} {f : Int → Int} (hl : ss.length = ix.length) (h : ∀ j, j < ix.length → nth ss j = f (nth ix j)) : ∀ k, k ≤ ix.length → ∀ j, j < (pk gr cs ix ss k).1.length → nth (pk gr cs ix ss k).2 j = f (nth (pk gr cs ix ss k).1 j) := by
  intro k
  induction k with
  | zero => intro _ j hj; simp [pk] at hj
  | succ k ih =>
    intro hk
    have ih := ih (by omega)
    have hlen := (pk_s gr cs ix ss hl k (by omega)).len
    unfold pk
    split
    · intro j hj
      simp only [List.length_append, List.length_singleton] at hj
      rcases Nat.lt_or_ge j (pk gr cs ix ss k).1.length with h1 | h1
      · rw [nth_app h1, nth_app (by rw [← hlen]; exact h1)]; exact ih j h1
      · obtain rfl : j = (pk gr cs ix ss k).1.length := by omega
        rw [nth_app', hlen, nth_app']; exact h k (by omega)
    · exact ih
/-- the secret is reconstructed from right shares -/
theorem rc_secret {gr : GroupD} {cs ix ss : List Int} (hG : shG gr = true) (h1 : 1 ≤ cs.length) (h7 : cs.length ≤ 7) (he : cs.all (expB gr) = true) (ht : trL ix = true) (hl : ss.length = ix.length) (hs : ss.all (expB gr) = true) (hn : cs.length ≤ ix.length) (hv : ∀ j, j < ix.length → nth ss j = hornE gr.q (nth ix j) cs) :
    rcB gr (dcL gr cs cs.length) ix ss = true ∧ rcR gr (dcL gr cs cs.length) ix ss = nth cs 0 := by
  obtain ⟨hpr, _, hq7⟩ := shG_prm hG
  have hg := shG_ok hG
  have hfit : ∀ j, j < ix.length → shrB gr (dcL gr cs cs.length) (nth ix j) (nth ss j) = true := fun j hj => by
    unfold shrB; rw [deal_at hG, hv j hj, beq_iff_eq]
  have hlen : (pkX gr (dcL gr cs cs.length) ix ss).length = cs.length := by
    unfold pkX; rw [pk_all hfit _ (Nat.le_refl _), dcL_len]; omega
  have hva : vaB gr (dcL gr cs cs.length) ix ss = true := by
    unfold vaB; rw [hlen, dcL_len]; simp
  have hcm : cmsB gr (dcL gr cs cs.length) = true := by
    unfold cmsB
    rw [dcL_len, decide_eq_true (by omega), Bool.true_and, List.all_eq_true]
    intro y hy
    obtain ⟨a, rfl⟩ := mem_dcL hy
    exact elT_pow hg (shG_gen hG) _
  have hrc : rcB gr (dcL gr cs cs.length) ix ss = true := by
    unfold rcB asB; rw [hG, hcm, ht, hs, hva, decide_eq_true hl]; rfl
  refine ⟨hrc, ?_⟩
  unfold rcR
  rw [if_pos hrc]
  unfold vaV
  have F := pk_f (cs := dcL gr cs cs.length) hq7 ht hl hs
  have hpv : ∀ j, j < (pkX gr (dcL gr cs cs.length) ix ss).length → nth (pkY gr (dcL gr cs cs.length) ix ss) j = hornE gr.q (nth (pkX gr (dcL gr cs cs.length) ix ss) j) cs := pk_val (gr := gr) (f := fun x => hornE gr.q x cs) hl hv _ (Nat.le_refl _)
  rw [share_dot (cs := cs) hpr F.df (by omega) hpv, hornE_evI (by omega), evI_zero' cs h1]
  exact expT_mod (List.all_eq_true.1 he _ (nth_mem' (by omega)))
/-- the dealing's shares, from the last to the first -/
theorem deal_back {gr : GroupD} {cs : List Int} {n : Int} (h : dlB gr cs n = true) :
    rcB gr (deD gr cs n).c (dnW n n.toNat) (dnS (deD gr cs n).s n n.toNat) = true ∧ rcR gr (deD gr cs n).c (dnW n n.toNat) (dnS (deD gr cs n).s n n.toNat) = nth cs 0 := by
  obtain ⟨hG, hn, hl, he⟩ := dlB_parts h
  have hg := shG_ok hG
  have hN : ∀ j, j < n.toNat → nth (dnS (deD gr cs n).s n n.toNat) j = hornE gr.q (nth (dnW n n.toNat) j) cs := fun j hj => by
    rw [dnS_nth _ n _ hj, dnW_nth n _ hj]
    show nth (dsL gr cs n.toNat) _ = _
    rw [dsL_nth gr cs _ (by omega)]
    congr 1; omega
  refine rc_secret hG hl.1 (by omega) he ?_ (by rw [dnS_len, dnW_len]) ?_ (by rw [dnW_len]; omega) (fun j hj => hN j (by rwa [dnW_len] at hj))
  · unfold trL ptsB
    rw [Bool.and_eq_true, decide_eq_true_iff, List.all_eq_true]
    exact ⟨fun y hy => by have := dnW_mem hy; exact decide_eq_true (by omega), dnW_nodup _ _⟩
  · rw [List.all_eq_true]
    intro y hy
    obtain ⟨i, hi, e⟩ := mem_nth hy
    rw [dnS_len] at hi
    rw [hN i hi, hornE_evI (by have := hg.q1; omega)] at e
    rw [← e]; exact expT hg _
end Go.Proofs.Ytacpnphfopmofaa
