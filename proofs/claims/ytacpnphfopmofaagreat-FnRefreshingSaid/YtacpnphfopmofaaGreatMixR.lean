/- SumDealings (printed by gen_sh5.py). -/
import Derived.Test.YtacpnphfopmofaaGreatSh4R
import Derived.Test.YtacpnphfopmofaaGreatFindRR
import Derived.Test.YtacpnphfopmofaaGreatRc0R
import Derived.Test.YtacpnphfopmofaaGreatSh2R
import Derived.Test.YtacpnphfopmofaaGreatDrShR
import Derived.Test.YtacpnphfopmofaaGreatBaR
import Derived.Test.YtacpnphfopmofaaGreatRegPR
import Derived.Test.YtacpnphfopmofaaGreatRowIR
namespace Go.Proofs.YtacpnphfopmofaaGreat
open Go.RowKit
set_option linter.unusedSimpArgs false
set_option linter.unusedVariables false

/-- a dealing in new memory and a Bool are returned -/
def RetDB (e : Ending) (w : World) (B : Nat) (b : Bool) (d : DealingD) : Prop := ∃ x y, e = .returned (.tuple #[.agg #[x, y], .bool b]) ∧ OwnI w B x d.c ∧ OwnI w B y d.s
theorem RetDB.mk {w : World} {B : Nat} {x y : Value} {b : Bool} {d : DealingD} (h1 : OwnI w B x d.c) (h2 : OwnI w B y d.s) : RetDB (.returned (.tuple #[.agg #[x, y], .bool b])) w B b d := ⟨x, y, rfl, h1, h2⟩
end Go.Proofs.YtacpnphfopmofaaGreat
namespace Go.Proofs.YtacpnphfopmofaaGreat
open Go.RowKit
set_option linter.unusedSimpArgs false
set_option linter.unusedVariables false

theorem smL_nth (f : Int → Int → Int) (a b : List Int) (j : Nat) : ∀ k, k ≤ a.length → nth (smL f a b k) j = if j < k then f (nth a j) (nth b j) else nth a j := by
  intro k
  induction k with
  | zero => intro _; simp [smL]
  | succ k ih =>
    intro hk
    have ih := ih (by omega)
    have hl := smL_len f a b k
    unfold smL
    by_cases e : j = k
    · subst e
      have h1 : nth ((smL f a b j).set j (f (nth (smL f a b j) j) (nth b j))) j = f (nth (smL f a b j) j) (nth b j) := by
        simp [nth, List.getD, show j < (smL f a b j).length by omega]
      rw [h1, ih]; simp
    · have h1 : nth ((smL f a b k).set k (f (nth (smL f a b k) k) (nth b k))) j = nth (smL f a b k) j := by
        simp [nth, List.getD, List.getElem?_set_ne (show k ≠ j by omega)]
      rw [h1, ih]
      by_cases h2 : j < k
      · rw [if_pos h2, if_pos (by omega)]
      · rw [if_neg h2, if_neg (by omega)]
theorem smL_all_nth (f : Int → Int → Int) {a b : List Int} (hl : a.length = b.length) {j : Nat} (hj : j < b.length) : nth (smL f a b b.length) j = f (nth a j) (nth b j) := by
  rw [smL_nth f a b j _ (by omega), if_pos hj]
theorem atS_two (gr : GroupD) (i : Int) (a b : List Int) (k : Nat) : (atS gr i a k).2 = (atS gr i b k).2 := by
  induction k with
  | zero => rfl
  | succ k ih => unfold atS; show _ * i % gr.q = _ * i % gr.q; rw [ih]
theorem mul4_mod (a b c d p : Int) : (a * b % p) * (c * d % p) % p = (a * c % p) * (b * d % p) % p := by
  rw [← Int.mul_emod, ← Int.mul_emod]; congr 1; ac_rfl
theorem atS_sum {gr : GroupD} (hg : OkG gr) (i : Int) {a b : List Int} (hl : a.length = b.length) : ∀ k, k ≤ b.length → (atS gr i (smL (mulF gr) a b b.length) k).1 = (atS gr i a k).1 * (atS gr i b k).1 % gr.p := by
  intro k
  induction k with
  | zero =>
    intro _
    have h1 := hg.q1; have h2 := hg.q2
    show (1 : Int) = 1 * 1 % gr.p
    rw [Int.one_mul, Int.emod_eq_of_lt (by omega) (by omega)]
  | succ k ih =>
    intro hk
    have ih := ih (by omega)
    have e : nth (smL (mulF gr) a b b.length) k = nth a k * nth b k % gr.p := by
      rw [smL_all_nth _ hl (by omega)]; unfold mulF; rw [mulT]
    unfold atS
    show mulL gr [_, powE gr (nth (smL (mulF gr) a b b.length) k) _] = _
    rw [e, mulT, mulT, mulT, ih, powE_mulB, atS_two gr i (smL (mulF gr) a b b.length) b k, atS_two gr i a b k]
    rw [mul4_mod, ← Int.mul_emod]
theorem atE_sum {gr : GroupD} (hg : OkG gr) (i : Int) {a b : List Int} (hl : a.length = b.length) : atE gr (smL (mulF gr) a b b.length) i = atE gr a i * atE gr b i % gr.p := by
  unfold atE
  rw [smL_len, hl]
  exact atS_sum hg i hl _ (Nat.le_refl _)
theorem shrB_sum {gr : GroupD} (hG : shG gr = true) {a b : List Int} (hl : a.length = b.length) {i s t : Int} (h1 : shrB gr a i s = true) (h2 : shrB gr b i t = true) : shrB gr (smL (mulF gr) a b b.length) i (addF gr s t) = true := by
  have hg := shG_ok hG
  have hgen : elB gr gr.g = true := elT_gen (by unfold shG at hG; rw [Bool.and_eq_true] at hG; exact hG.2)
  unfold shrB at *
  rw [beq_iff_eq] at *
  rw [atE_sum hg i hl, ← h1, ← h2]
  unfold addF
  rw [powE_emod, powE_add hg hgen]
theorem bad_nil (gr : GroupD) (d : DealingD) : ∀ n, bdL gr d n = [] ↔ ∀ k, k < n → shrB gr d.c ((k : Int) + 1) (nth d.s k) = true := by
  intro n
  induction n with
  | zero => simp [bdL]
  | succ n ih =>
    unfold bdL
    by_cases h : shrB gr d.c ((n : Int) + 1) (nth d.s n) = true
    · rw [if_pos h, ih]
      constructor
      · intro h2 k hk
        rcases Nat.lt_or_ge k n with h3 | h3
        · exact h2 k h3
        · obtain rfl : k = n := by omega
          exact h
      · exact fun h2 k hk => h2 k (by omega)
    · rw [if_neg h]
      constructor
      · intro h2; simp at h2
      · exact fun h2 => absurd (h2 n (by omega)) h
theorem suX_bad {gr : GroupD} {f a d : DealingD} (hG : shG gr = true) (h1 : SameD gr f a) (h2 : SameD gr f d) (ha : badE gr a = []) (hd : badE gr d = []) : badE gr (suX gr a d) = [] := by
  have hlc : a.c.length = d.c.length := by rw [h1.lc, h2.lc]
  have hls : a.s.length = d.s.length := by rw [h1.ls, h2.ls]
  unfold badE at *
  rw [bad_nil] at *
  intro k hk
  have hk' : k < a.s.length := by rw [show (suX gr a d).s.length = a.s.length from smL_len _ _ _ _] at hk; exact hk
  show shrB gr (smL (mulF gr) a.c d.c d.c.length) _ (nth (smL (addF gr) a.s d.s d.s.length) k) = true
  rw [smL_all_nth _ hls (by omega)]
  exact shrB_sum hG hlc (ha k hk') (hd k (by omega))
theorem deB_same {gr : GroupD} {f d : DealingD} (h : deB gr f = true) (hs : SameD gr f d) : deB gr d = true := by
  unfold deB lnB cmsB at *
  simp only [Bool.and_eq_true, decide_eq_true_iff, List.all_eq_true] at *
  rw [hs.lc, hs.ls]
  exact ⟨⟨h.1.1, hs.ec⟩, h.2.1, hs.es⟩
end Go.Proofs.YtacpnphfopmofaaGreat
namespace Go.Proofs.YtacpnphfopmofaaGreat
open Go.RowKit
set_option linter.unusedSimpArgs false
set_option linter.unusedVariables false

theorem shG_gen {gr : GroupD} (hG : shG gr = true) : elB gr gr.g = true := elT_gen (by unfold shG at hG; rw [Bool.and_eq_true] at hG; exact hG.2)
theorem atS_pow {gr : GroupD} (hq : 2 ≤ gr.q) (x : Int) (cs : List Int) : ∀ k, (atS gr x cs k).2 = x ^ k % gr.q := by
  intro k
  induction k with
  | zero => show (1 : Int) = _; rw [Int.pow_zero, Int.emod_eq_of_lt (by omega) (by omega)]
  | succ k ih => show (atS gr x cs k).2 * x % gr.q = _; rw [ih, Int.pow_succ, Int.mul_emod, Int.emod_emod, ← Int.mul_emod]
/-- a product of elements -/
def prG (gr : GroupD) (f : Nat → Int) : Nat → Int
  | 0 => 1
  | n + 1 => prG gr f n * f n % gr.p
theorem one_mod {gr : GroupD} (hg : OkG gr) : (1 : Int) % gr.p = 1 := Int.emod_eq_of_lt (by omega) (by have := hg.p1; omega)
theorem prG_congr {gr : GroupD} {f g : Nat → Int} : ∀ n, (∀ i, i < n → f i = g i) → prG gr f n = prG gr g n := by
  intro n
  induction n with
  | zero => intro _; rfl
  | succ n ih => intro h; unfold prG; rw [ih (fun i hi => h i (by omega)), h n (by omega)]
theorem prG_mul {gr : GroupD} (hg : OkG gr) (f g : Nat → Int) : ∀ n, prG gr (fun i => f i * g i % gr.p) n = prG gr f n * prG gr g n % gr.p := by
  intro n
  induction n with
  | zero => show (1 : Int) = 1 * 1 % gr.p; rw [Int.one_mul, one_mod hg]
  | succ n ih => unfold prG; rw [ih, mul4_mod]
theorem powE_dot {gr : GroupD} (hg : OkG gr) {c : Int} (hc : elB gr c = true) (e l : Nat → Int) : ∀ n, powE gr c (dotI n e l) = prG gr (fun i => powE gr (powE gr c (e i)) (l i)) n := by
  intro n
  induction n with
  | zero => exact powE_zero hg
  | succ n ih => unfold prG; rw [dotI_succ, powE_add hg hc, ih, powE_pow hg hc]
/-- the powers with values of polynomials at some points, raised and multiplied, are the powers with the value at another point -/
theorem prG_at {gr : GroupD} (hg : OkG gr) {cs : List Int} (hc : cs.all (elB gr) = true) (t : Nat) (xs l : Nat → Int) (x : Int) (hx : ∀ k, k < cs.length → dotI t (fun i => xs i ^ k % gr.q) l % gr.q = x ^ k % gr.q) :
    ∀ n, n ≤ cs.length → prG gr (fun i => powE gr (atS gr (xs i) cs n).1 (l i)) t = (atS gr x cs n).1 := by
  intro n
  induction n with
  | zero =>
    intro _
    show prG gr (fun i => powE gr 1 (l i)) t = 1
    induction t with
    | zero => rfl
    | succ t _ =>
      clear hx
      have : ∀ m, prG gr (fun i => powE gr 1 (l i)) m = 1 := by
        intro m
        induction m with
        | zero => rfl
        | succ m ih =>
          unfold prG; rw [ih, Int.one_mul]
          have h1 : powE gr 1 (l m) = 1 := by
            show (1 : Int) ^ _ % gr.p = 1
            rw [Int.one_pow, one_mod hg]
          rw [h1, one_mod hg]
      exact this _
  | succ n ih =>
    intro hn
    have hq := hg.q1
    have hcn : elB gr (nth cs n) = true := List.all_eq_true.1 hc _ (nth_mem' (by omega))
    show prG gr (fun i => powE gr (mulL gr [(atS gr (xs i) cs n).1, powE gr (nth cs n) (atS gr (xs i) cs n).2]) (l i)) t = mulL gr [(atS gr x cs n).1, powE gr (nth cs n) (atS gr x cs n).2]
    rw [mulT, ← ih (by omega), atS_pow hq, ← hx n (by omega), powE_emod, powE_dot hg hcn, ← prG_mul hg]
    refine prG_congr _ fun i _ => ?_
    show powE gr (mulL gr [_, _]) _ = _
    rw [mulT, powE_mulB, atS_pow hq]
theorem pow_isP (k : Nat) : IsP (k + 1) (fun x => x ^ k) := by
  induction k with
  | zero => exact ⟨[1], rfl, fun x => by simp [evI]⟩
  | succ k ih =>
    obtain ⟨f, hf, h⟩ := ih.shift
    exact ⟨f, hf, fun x => by rw [← h x]; exact Int.pow_succ ..⟩
theorem dotI_comm (n : Nat) (f g : Nat → Int) : dotI n f g = dotI n g f := by
  unfold dotI; congr 1; refine List.map_congr_left fun i _ => Int.mul_comm ..
theorem lagL_nth {q : Int} {xs : List Int} {x : Int} {i : Nat} (h : i < xs.length) : nth (lagL q xs x) i = lagI q xs x i := by
  simp [lagL, nth, List.getD, h]
theorem dotI_congr {n : Nat} {f g f' g' : Nat → Int} (h : ∀ i, i < n → f i = f' i) (h' : ∀ i, i < n → g i = g' i) : dotI n f g = dotI n f' g' := by
  unfold dotI; congr 1
  refine List.map_congr_left fun i hi => ?_
  rw [List.mem_range] at hi
  show f i * g i = f' i * g' i
  rw [h i hi, h' i hi]
theorem dotM_lag {q : Int} {xs ys : List Int} (x : Int) : dotM q (lagL q xs x) ys (lagL q xs x).length = dotI xs.length (nth ys) (lagI q xs x) % q := by
  unfold dotM
  rw [lagL_len, dotI_comm, dotI_congr (f' := nth ys) (g' := lagI q xs x) (fun _ _ => rfl) (fun i hi => lagL_nth hi)]
theorem va_full {gr : GroupD} {cs ix ss : List Int} (hl : ss.length = ix.length) (hv : vaB gr cs ix ss = true) : (pkX gr cs ix ss).length = cs.length := by
  have P := pk_s gr cs ix ss hl ix.length (Nat.le_refl _)
  unfold vaB at hv
  rw [Bool.not_eq_true', decide_eq_false_iff_not] at hv
  have h1 := P.cap
  unfold pkX at *
  omega
/-- the value that right shares give is right -/
theorem va_right {gr : GroupD} {cs ix ss : List Int} {x : Int} (hG : shG gr = true) (hc : cmsB gr cs = true) (ht : trL ix = true) (hl : ss.length = ix.length) (hs : ss.all (expB gr) = true) (hv : vaB gr cs ix ss = true) :
    powE gr gr.g (vaV gr cs ix ss x) = atE gr cs x := by
  obtain ⟨hpr, _, hq7⟩ := shG_prm hG
  have hg := shG_ok hG
  have F := pk_f (cs := cs) hq7 ht hl hs
  have P := pk_s gr cs ix ss hl ix.length (Nat.le_refl _)
  have hn := va_full hl hv
  have hfit : ∀ j, j < (pkX gr cs ix ss).length → shrB gr cs (nth (pkX gr cs ix ss) j) (nth (pkY gr cs ix ss) j) = true := P.fit
  unfold vaV
  have e : prG gr (fun i => powE gr (powE gr gr.g (nth (pkY gr cs ix ss) i)) (lagI gr.q (pkX gr cs ix ss) x i)) (pkX gr cs ix ss).length = prG gr (fun i => powE gr (atS gr (nth (pkX gr cs ix ss) i) cs cs.length).1 (lagI gr.q (pkX gr cs ix ss) x i)) (pkX gr cs ix ss).length :=
    prG_congr _ fun i hi => by
      have h := hfit i hi
      unfold shrB at h
      rw [beq_iff_eq] at h
      show powE gr (powE gr gr.g _) _ = powE gr (atE gr cs _) _
      rw [h]
  rw [dotM_lag, powE_emod, powE_dot hg (shG_gen hG), e]
  refine prG_at hg (cmsB_parts hc).2 _ (nth (pkX gr cs ix ss)) (lagI gr.q (pkX gr cs ix ss) x) x (fun k hk => ?_) _ (Nat.le_refl _)
  exact interp hpr F.df ((pow_isP k).le (by omega)) x _ (fun i _ => Int.emod_emod ..)
theorem vaV_bd {gr : GroupD} (hG : shG gr = true) (cs ix ss : List Int) (x : Int) : expB gr (vaV gr cs ix ss x) = true := by
  unfold vaV dotM; exact expT (shG_ok hG) _
theorem atE_zero {gr : GroupD} (hg : OkG gr) {cs : List Int} (hc : cs.all (elB gr) = true) (hl : 1 ≤ cs.length) : atE gr cs 0 = nth cs 0 := by
  have key : ∀ k, 1 ≤ k → k ≤ cs.length → (atS gr 0 cs k).1 = nth cs 0 ∧ (atS gr 0 cs k).2 = 0 := by
    intro k
    induction k with
    | zero => intro h; omega
    | succ k ih =>
      intro _ hk
      have h0 : elB gr (nth cs 0) = true := List.all_eq_true.1 hc _ (nth_mem' (by omega))
      refine ⟨?_, by show _ * 0 % gr.q = 0; rw [Int.mul_zero, Int.zero_emod]⟩
      show mulL gr [_, _] = _
      rw [mulT]
      by_cases e : k = 0
      · subst e
        show 1 * powE gr (nth cs 0) 1 % gr.p = _
        rw [Int.one_mul, powE_single hg h0, elT_mod hg h0]
      · obtain ⟨h1, h2⟩ := ih (by omega) (by omega)
        rw [h1, h2, powE_zero hg, Int.mul_one, elT_mod hg h0]
  exact (key _ hl (Nat.le_refl _)).1
theorem pk_all {gr : GroupD} {cs ix ss : List Int} (h : ∀ j, j < ix.length → shrB gr cs (nth ix j) (nth ss j) = true) : ∀ k, k ≤ ix.length → (pk gr cs ix ss k).1.length = min k cs.length := by
  intro k
  induction k with
  | zero => intro _; simp [pk]
  | succ k ih =>
    intro hk
    have ih := ih (by omega)
    unfold pk
    rw [h k (by omega), Bool.and_true]
    split
    · rename_i hc
      rw [decide_eq_true_iff] at hc
      simp only [List.length_append, List.length_singleton]; omega
    · rename_i hc
      rw [decide_eq_true_iff] at hc
      omega
end Go.Proofs.YtacpnphfopmofaaGreat
namespace Go.Proofs.YtacpnphfopmofaaGreat
open Go.RowKit
set_option linter.unusedSimpArgs false
set_option linter.unusedVariables false
set_option maxRecDepth 100000 in
set_option maxHeartbeats 2000000 in
theorem spec_sBad (gr : GroupD) (pv : Value) (d : DealingD) (w : World) (hg : OkG gr) (hp : DlR w pv d) (hel : AllSmall d.c) (hd : d.c.length ≤ 1000 ∧ d.s.length ≤ 7) :
    Calls Tryz.prog 61 #[.agg #[.int .i64 gr.p, .int .i64 gr.q, .int .i64 gr.g], pv] w fun e w' => (∃ v', e = .returned v' ∧ OwnI w' w.heap.size v' (badE gr d)) ∧ Below w.heap.size w w' := by
  have HG := Lib.hid hg
  have HD := Lib.hid hd
  have HEL := Lib.hid hel
  clear hg hd hel
  obtain ⟨xcv, xsv, rfl, hxc, hxs⟩ := hp
  obtain ⟨xca, xcn, xcc, rfl⟩ := hxc.shape
  have Exc := Lib.hid hxc.len
  have Kxc := Lib.hid hxc.capMax
  have Hxc := Lib.hid hxc
  clear hxc
  obtain ⟨xsa, xsn, xsc, rfl⟩ := hxs.shape
  have Exs := Lib.hid hxs.len
  have Kxs := Lib.hid hxs.capMax
  have Hxs := Lib.hid hxs
  clear hxs
  obtain ⟨W, hW⟩ : ∃ W, W = (w.alloc (.cells #[.int .i64 gr.p, .int .i64 gr.q, .int .i64 gr.g] 24)).alloc (.cells #[.slice xca xcn xcc, .slice xsa xsn xsc] 61) := ⟨_, rfl⟩
  have HB : Hid (Below w.heap.size w W) := by unfold Hid; rw [hW]; (repeat (first | exact Below.refl _ _ | assumption | refine Below.drew ?_ | refine Below.alloc ?_ (by first | (simp; done) | (simp; omega)) _ | refine Below.setCell ?_ (by first | (simp; done) | (simp; omega)) _))
  have HBG : Hid (BoxN W w.heap.size 24 [.int .i64 gr.p, .int .i64 gr.q, .int .i64 gr.g]) := by unfold Hid; rw [hW]; have h := (BoxN.new w [.int .i64 gr.p, .int .i64 gr.q, .int .i64 gr.g] 24).alloc (.cells #[.slice xca xcn xcc, .slice xsa xsn xsc] 61); simpa using h
  have HBD : Hid (BoxN W (w.heap.size + 1) 61 [.slice xca xcn xcc, .slice xsa xsn xsc]) := by unfold Hid; rw [hW]; have h := BoxN.new (w.alloc (.cells #[.int .i64 gr.p, .int .i64 gr.q, .int .i64 gr.g] 24)) [.slice xca xcn xcc, .slice xsa xsn xsc] 61; simpa using h
  have HSW : w.heap.size ≤ W.heap.size := HB.out.size
  have HW2 : Hid (W.heap.size = w.heap.size + 1 + 1) := by unfold Hid; rw [hW]; simp
  have d0 := HBD.out.cell (i := 0) rfl
  have d1 := HBD.out.cell (i := 1) rfl
  go_enter Tryz.func61, Tryz.ntmps61
  go_wp2_with fail
  rw [← hW]
  clear hW d0 d1
  have HO0 : Hid (OwnI W W.heap.size (.slice none 0 0) []) := OwnI.nil _ _
  have hbV : Below W.heap.size W W := Below.refl _ _
  have d1 := HBD.out.cell (i := 1) rfl
  have d0 := HBD.out.cell (i := 0) rfl
  (try (go_wp2_with fail))
  clear d0 d1
  go_loopg [5, 11] xsn (fun gk ov iv wr => ∃ k : Nat, k + gk = xsn ∧ iv = .int .i64 (k : Int) ∧ OwnI wr W.heap.size ov (bdL gr d k) ∧ Below W.heap.size W wr)
  case atStart => exact ⟨0, by omega, rfl, HO0.out, hbV⟩
  case round =>
    obtain ⟨k, hkg, rfl, hO, hbr⟩ := hrel
    have HKG := Lib.hid hkg
    have HBR := Lib.hid hbr
    have hgl : k < xsn → xsn - (k + 1) < gk := by omega
    have hsr := hbr.size
    have HLB := Lib.hid (bdL_len gr d k)
    obtain ⟨LB, hLB⟩ : ∃ l, bdL gr d k = l := ⟨_, rfl⟩
    rw [hLB] at hO HLB
    have HLe := Lib.hid hLB
    obtain ⟨ao, co, rfl⟩ := hO.shape
    have HO := Lib.hid hO
    clear hkg hbr hO hLB
    have hN7 : xsn ≤ 7 := by have := HD.out; have := Exs.out; omega
    by_cases hlt : k < xsn
    · obtain ⟨b, o, e, hcx⟩ := Hxs.out.at_ (by have := Exs.out; omega)
      cases e
      have yk := box_at (box_at (hcx k hlt) HB.out) HBR.out
      clear hcx
      have HXI : Hid (I64 (nth d.s k)) := nth_64 Hxs.out k
      obtain ⟨x, hx⟩ : ∃ z, nth d.s k = z := ⟨_, rfl⟩
      rw [hx] at yk HXI
      have HXe := Lib.hid hx
      clear hx
      have kk0 : (0 : Int) ≤ (k : Int) := by omega
      have kk1 : (k : Int) < (xsn : Int) := by omega
      have hwk : IntKind.i64.wrap ((k : Int) + 1) = (k : Int) + 1 := IntWalk.i64_in _ (by omega)
      have HKI : Hid (0 ≤ (k : Int) + 1 ∧ (k : Int) + 1 ≤ 1000) := ⟨by omega, by omega⟩
      have c0 := (HBG.out.below HBR.out).cell (i := 0) rfl
      have c1 := (HBG.out.below HBR.out).cell (i := 1) rfl
      have c2 := (HBG.out.below HBR.out).cell (i := 2) rfl
      have d0 := (HBD.out.below HBR.out).cell (i := 0) rfl
      have d1 := (HBD.out.below HBR.out).cell (i := 1) rfl
      go_wp2_with fail
      refine (spec_sFits gr _ d.c ((k : Int) + 1) x _ HG.out ((Hxc.out.below HB.out).below HBR.out) HEL.out (by have := HD.out; omega) HKI.out HXI.out).mono ?_
      rintro e w1 ⟨rfl, hb1⟩
      have hs1 := hb1.size
      have HO1 := Lib.hid (HO.out.below hb1)
      have HB1 := Lib.hid (HBR.out.trans (hb1.mono HBR.out.size))
      clear hb1 c0 c1 c2 d0 d1 yk
      obtain ⟨q, hq⟩ : ∃ q, shrB gr d.c ((k : Int) + 1) x = q := ⟨_, rfl⟩
      have HQ := Lib.hid hq
      rw [hq]
      clear hq
      cases q with
      | true =>
        have HN : Hid (bdL gr d (k + 1) = LB) := by unfold Hid bdL; rw [HXe.out, if_pos HQ.out]; exact HLe.out
        go_wp2_with fail
        go_roundg (xsn - (k + 1))
        case measure => exact hgl hlt
        case rel => exact ⟨k + 1, by have := HKG.out; omega, by go_num, by rw [HN.out]; exact HO1.out, HB1.out⟩
      | false =>
        have HN : Hid (bdL gr d (k + 1) = LB ++ [(k : Int) + 1]) := by unfold Hid bdL; rw [HXe.out, if_neg (by rw [HQ.out]; simp), HLe.out]
        go_wp2_with (at_builtin; refine wpList_append_ints rfl _ _ rfl W.heap.size _ _ LB [(k : Int) + 1] rfl (HO1.out.alloc _) rfl (Ints.lit1 _ ⟨by omega, by omega⟩) (by have := HLB.out; simp; omega) (by simp; omega) ?_; intro v4 w4 hown4 hgr4)
        have hb4 := (HO1.out.alloc _).grown hgr4 (by simp; omega)
        have hb5 := ((Below.refl W.heap.size w1).alloc (by omega) _).trans hb4
        go_roundg (xsn - (k + 1))
        case measure => exact hgl hlt
        case rel => exact ⟨k + 1, by have := HKG.out; omega, by go_num, by rw [HN.out]; exact hown4, HB1.out.trans hb5⟩
    · obtain rfl : k = xsn := by have := HKG.out; omega
      have HV : Hid (badE gr d = LB) := by unfold Hid badE; rw [Exs.out]; exact HLe.out
      go_wp2_with fail
      go_ret
      exact ⟨⟨_, rfl, by rw [HV.out]; exact HO.out.mono HSW⟩, HB.out.trans (HBR.out.mono HB.out.size)⟩
theorem spec_sBadD (gr : GroupD) (pv : Value) (d : DealingD) (w : World) (hg : OkG gr) (hp : DlR w pv d) (hd : deB gr d = true) :
    Calls Tryz.prog 61 #[.agg #[.int .i64 gr.p, .int .i64 gr.q, .int .i64 gr.g], pv] w fun e w' => (∃ v', e = .returned v' ∧ OwnI w' w.heap.size v' (badE gr d)) ∧ Below w.heap.size w w' :=
  spec_sBad gr pv d w hg hp (cms_small hg (deB_parts hd).2.1) (by have := (deB_parts hd).1; omega)
end Go.Proofs.YtacpnphfopmofaaGreat
namespace Go.Proofs.YtacpnphfopmofaaGreat
open Go.RowKit
set_option linter.unusedSimpArgs false
set_option linter.unusedVariables false

def FrR {δ : Type} (e : TypeId) (R : RowK δ) (w0 w : World) (B : Nat) (v : Value) (ds : List δ) : Prop :=
  ∃ css : List (List Value), css.length = ds.length ∧ w.ownsRow B e R.width v ds.length css.flatten ∧ ∀ i (h1 : i < css.length) (h2 : i < ds.length), R.rd w0 css[i] ds[i]
section
variable {δ : Type} {e : TypeId} {R : RowK δ} {w0 w w' : World} {B : Nat} {v : Value} {ds es : List δ}
theorem FrR.lens {css : List (List Value)} (hl : css.length = ds.length) (hel : ∀ i (h1 : i < css.length) (h2 : i < ds.length), R.rd w0 css[i] ds[i]) : ∀ c ∈ css, c.length = R.width := by
  intro c hc
  obtain ⟨i, hi, rfl⟩ := List.getElem_of_mem hc
  exact R.rd_len (hel i hi (by omega))
theorem FrR.ones {css : List (List Value)} (hl : css.length = ds.length) (hel : ∀ i (h1 : i < css.length) (h2 : i < ds.length), R.rd w0 css[i] ds[i]) : ∀ u ∈ css.flatten, u.oneCell' = true := by
  intro u hu
  obtain ⟨c, hc, hu⟩ := List.mem_flatten.1 hu
  obtain ⟨i, hi, rfl⟩ := List.getElem_of_mem hc
  exact R.rd_one (hel i hi (by omega)) u hu
theorem FrR.rd (h : FrR e R w0 w B v ds) (hb : Below w0.heap.size w0 w) : RdR R w v ds := by
  obtain ⟨css, hl, hO, hel⟩ := h
  have hlen := FrR.lens hl hel
  have hO' := hO
  obtain ⟨hl1, ⟨rfl, h0⟩ | ⟨g, c, cur, rfl, hbb, hgc, hnc, hcm, hcs, htake⟩⟩ := hO
  · have : ds = [] := List.eq_nil_of_length_eq_zero h0
    subst this; exact RdR.nil R w
  · refine ⟨some ⟨g, 0, none⟩, ds.length, c, rfl, rfl, hnc, hcm, .inr (.inr ⟨g, 0, rfl, fun i hi => ?_⟩)⟩
    refine ⟨css[i]'(by omega), fun k hk => ?_, R.rd_below (hel i (by omega) hi) hb⟩
    have h1 := World.ownsRow.cellAt hO' (i * R.width + k) (by
      have : (i + 1) * R.width ≤ ds.length * R.width := Nat.mul_le_mul_right _ hi
      rw [Nat.succ_mul] at this; omega)
    rw [Nat.zero_add, h1, flat_get hlen hk, List.getElem?_eq_getElem (by omega)]
    rfl
theorem FrR.nil (e : TypeId) (R : RowK δ) (w0 w : World) (B : Nat) : FrR e R w0 w B (.slice none 0 0) [] :=
  ⟨[], rfl, by simpa using World.ownsRow_nil w B e R.width, fun i h1 _ => by simp at h1⟩
theorem FrR.lit0 (e : TypeId) (R : RowK δ) (w0 w : World) (B : Nat) (hB : B ≤ w.heap.size) : FrR e R w0 (w.alloc (.cells #[] e)) B (.slice (some ⟨w.heap.size, 0, none⟩) 0 0) [] :=
  ⟨[], rfl, World.ownsRow_lit (e := e) (size := R.width) w #[] 0 hB (Nat.zero_le _) (by simp), fun i h1 _ => by simp at h1⟩
theorem FrR.below (h : FrR e R w0 w B v ds) (hb : Below w.heap.size w w') : FrR e R w0 w' B v ds := by
  obtain ⟨css, hl, hO, hel⟩ := h
  exact ⟨css, hl, ownsRow_frame hO fun g hg => hb.block g (hO.lt g hg).2, hel⟩
theorem FrR.frame (h : FrR e R w0 w B v ds) (hf : ∀ g, v.ownBlock = some g → w'.heap[g]? = w.heap[g]?) : FrR e R w0 w' B v ds := by
  obtain ⟨css, hl, hO, hel⟩ := h
  exact ⟨css, hl, ownsRow_frame hO hf, hel⟩
theorem FrR.lt (h : FrR e R w0 w B v ds) : ∀ g, v.ownBlock = some g → B ≤ g ∧ g < w.heap.size := by
  obtain ⟨css, hl, hO, hel⟩ := h
  exact fun g hg => hO.lt g hg
theorem FrR.mono {B' : Nat} (h : FrR e R w0 w B v ds) (hB : B' ≤ B) : FrR e R w0 w B' v ds := by
  obtain ⟨css, hl, hO, hel⟩ := h
  exact ⟨css, hl, ownsRow_mono hO hB, hel⟩
/-- the rows of a slice that is read -/
theorem rows_of_RdR {ad : Addr} {n c : Nat} (h : RdR R w (.slice (some ad) n c) ds) : ∃ css : List (List Value), css.length = ds.length ∧ (∀ j u, css.flatten[j]? = some u → w.cell? (ad.add j) = some u) ∧ ∀ i (h1 : i < css.length) (h2 : i < ds.length), R.rd w css[i] ds[i] := by
  have hn := h.len
  rcases Nat.eq_zero_or_pos n with h0 | h0
  · have : ds = [] := List.eq_nil_of_length_eq_zero (by omega)
    subst this
    exact ⟨[], rfl, fun j u hu => by simp at hu, fun i h1 _ => by simp at h1⟩
  · obtain ⟨b, o, hab, hc⟩ := h.at_ h0
    cases hab
    have h' : ∀ i : Fin ds.length, ∃ vs, (∀ k, k < R.width → w.cell? ⟨b, o + (i.1 * R.width + k), none⟩ = vs[k]?) ∧ R.rd w vs ds[i.1] := fun i => hc i.1 i.2
    let f : Fin ds.length → List Value := fun i => Classical.choose (h' i)
    have hf : ∀ i : Fin ds.length, (∀ k, k < R.width → w.cell? ⟨b, o + (i.1 * R.width + k), none⟩ = (f i)[k]?) ∧ R.rd w (f i) ds[i.1] := fun i => Classical.choose_spec (h' i)
    have hlen : ∀ c ∈ (List.finRange ds.length).map f, c.length = R.width := fun c hc => by
      obtain ⟨i, _, rfl⟩ := List.mem_map.1 hc
      exact R.rd_len (hf i).2
    refine ⟨(List.finRange ds.length).map f, by simp, fun j u hu => ?_, fun i h1 h2 => ?_⟩
    · have hj : j < ((List.finRange ds.length).map f).flatten.length := (List.getElem?_eq_some_iff.1 hu).1
      have hfl := flat_len hlen
      rw [hfl] at hj
      have hW : 0 < R.width := by
        rcases Nat.eq_zero_or_pos R.width with hz | hz
        · rw [hz] at hj; omega
        · exact hz
      have hd : j / R.width < ds.length := Nat.div_lt_of_lt_mul (by rw [Nat.mul_comm]; simpa using hj)
      have hm := Nat.mod_lt j hW
      have e1 : j = (j / R.width) * R.width + j % R.width := by rw [Nat.mul_comm]; exact (Nat.div_add_mod j R.width).symm
      have h3 := flat_get hlen (i := j / R.width) (k := j % R.width) hm
      rw [← e1] at h3
      rw [h3, List.getElem?_map, List.getElem?_eq_getElem (by simpa using hd)] at hu
      simp only [Option.map_some, Option.bind_some, List.getElem_finRange] at hu
      have h4 := (hf ⟨j / R.width, hd⟩).1 (j % R.width) hm
      rw [Addr.add_lit, e1, h4]
      simpa using hu
    · simpa using (hf ⟨i, h2⟩).2
end
end Go.Proofs.YtacpnphfopmofaaGreat
namespace Go.Proofs.YtacpnphfopmofaaGreat
open Go.RowKit
set_option linter.unusedSimpArgs false
set_option linter.unusedVariables false

theorem infoDl : ∃ i, Tryz.prog.info? 61 = some i ∧ i.zero = some (.agg #[.slice none 0 0, .slice none 0 0]) ∧ i.size = 2 ∧ i.bytes ≤ 1000 := by
  have h : (Tryz.prog.info? 61).map (fun i => (i.zero, i.size, decide (i.bytes ≤ 1000))) = some (some (.agg #[.slice none 0 0, .slice none 0 0]), 2, true) := by kernel_rfl
  obtain ⟨i, hi, hz⟩ := Option.map_eq_some_iff.1 h
  simp only [Prod.mk.injEq] at hz
  exact ⟨i, hi, hz.1, hz.2.1, of_decide_eq_true hz.2.2⟩
/-- a row of dealings: each in rows of its own -/
def OwnDs (w : World) (B : Nat) (v : Value) (ds : List DealingD) : Prop :=
  ∃ css : List (List Value), css.length = ds.length ∧ w.ownsRow B 61 2 v ds.length css.flatten ∧
    ∀ i (h1 : i < css.length) (h2 : i < ds.length), ∃ x y, css[i] = [x, y] ∧ OwnI w B x ds[i].c ∧ OwnI w B y ds[i].s
section
variable {w w' : World} {B : Nat} {v : Value} {ds : List DealingD} {d : DealingD}
theorem OwnDs.nil (w : World) (B : Nat) : OwnDs w B (.slice none 0 0) [] :=
  ⟨[], rfl, by simpa using World.ownsRow_nil w B 61 2, fun i h1 _ => by simp at h1⟩
theorem OwnDs.lens {css : List (List Value)} (hl : css.length = ds.length)
    (hel : ∀ i (h1 : i < css.length) (h2 : i < ds.length), ∃ x y, css[i] = [x, y] ∧ OwnI w B x ds[i].c ∧ OwnI w B y ds[i].s) : ∀ c ∈ css, c.length = 2 := by
  intro c hc
  obtain ⟨i, hi, rfl⟩ := List.getElem_of_mem hc
  obtain ⟨x, y, e, _⟩ := hel i hi (by omega)
  rw [e]; rfl
theorem rowDl {x y : Value} (h1 : Ints w x d.c) (h2 : Ints w y d.s) : rDealing.rd w [x, y] d := by
  obtain ⟨a1, n1, c1, rfl⟩ := h1.shape
  obtain ⟨a2, n2, c2, rfl⟩ := h2.shape
  obtain ⟨vs, e, h⟩ := rdDealing.2 ⟨_, _, _, _, _, _, rfl, h1, h2⟩
  obtain rfl : vs = [.slice a1 n1 c1, .slice a2 n2 c2] := by have h := Value.agg.inj e; simpa using (congrArg Array.toList h).symm
  exact h
theorem OwnDs.rd (h : OwnDs w B v ds) : RdR rDealing w v ds := by
  obtain ⟨css, hl, hO, hel⟩ := h
  refine FrR.rd (e := 61) (w0 := w) (B := B) ⟨css, hl, hO, fun i h1 h2 => ?_⟩ (Below.refl _ _)
  obtain ⟨x, y, e, q1, q2⟩ := hel i h1 h2
  rw [e]
  exact rowDl q1.ints q2.ints
theorem OwnDs.frame (h : OwnDs w B v ds) (hs : w.heap.size ≤ w'.heap.size) (hb : ∀ k, B ≤ k → k < w.heap.size → w'.heap[k]? = w.heap[k]?) : OwnDs w' B v ds := by
  obtain ⟨css, hl, hO, hel⟩ := h
  refine ⟨css, hl, ownsRow_frame hO fun g hg => hb g (hO.lt g hg).1 (hO.lt g hg).2, fun i h1 h2 => ?_⟩
  obtain ⟨x, y, e, q1, q2⟩ := hel i h1 h2
  exact ⟨x, y, e, q1.since hs hb, q2.since hs hb⟩
theorem OwnDs.below (h : OwnDs w B v ds) (hb : Below w.heap.size w w') : OwnDs w' B v ds := h.frame hb.size fun k _ hk => hb.block k hk
theorem OwnDs.within {lo hi : Nat} (h : OwnDs w B v ds) (hw : Within lo hi w w') (hd : hi ≤ B) : OwnDs w' B v ds := h.frame hw.size fun k hk hlt => hw.block k hlt (.inr (by omega))
theorem Since.of_ownDs {B' : Nat} (h : OwnDs w B v ds) (hB : B' ≤ B) : Since B' w (fun u => RdR rDealing u v ds) := fun u hs hb => (h.frame hs fun k hk hlt => hb k (by omega) hlt).rd
theorem OwnI.apartDs {l : List Int} {n : Nat} {xs : List Value} {q : Value} (h : OwnI w B q l) (hO : w.ownsRow B 61 2 v n xs) : q.ownBlock = none ∨ q.ownBlock ≠ v.ownBlock := by
  cases e : q.ownBlock with
  | none => exact .inl rfl
  | some k =>
    refine .inr fun e2 => ?_
    rcases hO.2 with ⟨rfl, _⟩ | ⟨g, c, cur, rfl, hb, hg, _⟩
    · cases e2
    · have hk : some k = some g := e2
      cases hk
      rcases h.2.2 with h2 | ⟨g', c', cur', rfl, hb', hg', _⟩
      · rw [h2.1] at e; cases e
      · cases e
        rw [hg] at hg'
        injection hg' with hg'
        injection hg' with h1 h2 h3
        exact absurd h2 (by decide)
theorem run_append_Ds {b : Nat} {x y : Value} (h : OwnDs w B v ds) (hx : OwnI w B x d.c) (hy : OwnI w B y d.s)
    (hc0 : w.cell? ⟨b, 0, none⟩ = some x) (hc1 : w.cell? ⟨b, 1, none⟩ = some y) (hB : B ≤ w.heap.size) (hlen : ds.length ≤ 1000000) (ty : TypeId) :
    ∃ v' w', (Builtin.append_ #[28, 28] ty #[v, .slice (some ⟨b, 0, none⟩) 1 1]).run Tryz.prog w = .ok v' w' ∧ OwnDs w' B v' (ds ++ [d]) ∧ Below B w w' := by
  obtain ⟨css, hl, hO, hel⟩ := h
  obtain ⟨i, hi, hzr, hsz, hby⟩ := infoDl
  have hfl := flat_len (OwnDs.lens hl hel)
  obtain ⟨a1, c1, e1⟩ := hx.shape
  obtain ⟨a2, c2, e2⟩ := hy.shape
  have hnews : ∀ j t, [x, y][j]? = some t → w.cell? ((⟨b, 0, none⟩ : Addr).add j) = some t := by
    intro j t ht
    rw [Addr.add_lit, Nat.zero_add]
    rcases j with _ | _ | j
    · simp at ht; subst ht; exact hc0
    · simp at ht; subst ht; exact hc1
    · simp at ht
  have hones : ∀ t ∈ [x, y], t.oneCell' = true := by
    intro t ht
    simp only [List.mem_cons, List.not_mem_nil, or_false] at ht
    rcases ht with rfl | rfl
    · rw [e1]; rfl
    · rw [e2]; rfl
  obtain ⟨v', w', hr, h1, h2, _⟩ := run_append_own (P := Tryz.prog) w B 28 ty 61 i _ 2 i.bytes Tryz.underlying28 hi hzr hsz rfl rfl (by decide) v ds.length css.flatten hO ⟨b, 0, none⟩ 1 1 [x, y] (by simp) hnews hones (by unfold maxLen; omega) (by
    have : (ds.length + 1) * i.bytes ≤ 1000000000 * 1000 := Nat.mul_le_mul (by omega) hby
    omega) hB
  refine ⟨v', w', hr, ⟨css ++ [[x, y]], by simp [hl], by simpa [List.flatten_append] using h1, fun k k1 k2 => ?_⟩, (Below.refl B w).grown h2 hB (fun k hk => (hO.lt k hk).1)⟩
  by_cases hk : k < ds.length
  · rw [List.getElem_append_left (by omega), List.getElem_append_left hk]
    obtain ⟨x', y', e, q1, q2⟩ := hel k (by omega) hk
    exact ⟨x', y', e, q1.kept h2 (q1.apartDs hO), q2.kept h2 (q2.apartDs hO)⟩
  · have hk' : k = ds.length := by simp at k2; omega
    subst hk'
    refine ⟨x, y, ?_, ?_, ?_⟩
    · rw [List.getElem_append_right (by omega)]; simp [hl]
    · rw [List.getElem_append_right (by omega)]; simp only [Nat.sub_self, List.getElem_cons_zero]; exact hx.kept h2 (hx.apartDs hO)
    · rw [List.getElem_append_right (by omega)]; simp only [Nat.sub_self, List.getElem_cons_zero]; exact hy.kept h2 (hy.apartDs hO)
theorem wpList_append_Ds {ops : Array Oper} {rest : List Oper} {o : Oper} {a : Act} {Q : Exit → Act → World → Prop} (hg : o.guard = none) (s y0 : Operand)
    (ho : o.op = .call { callee := .builtin .append, args := #[s, y0], argTypes := #[28, 28] })
    {b : Nat} {x y : Value} (hs : a.eval s = v) (he : a.eval y0 = .slice (some ⟨b, 0, none⟩) 1 1) (h : OwnDs w B v ds) (hx : OwnI w B x d.c) (hy : OwnI w B y d.s)
    (hbx : BoxN w b 61 [x, y]) (hB : B ≤ w.heap.size) (hlen : ds.length ≤ 1000000)
    (hK : ∀ v' w', OwnDs w' B v' (ds ++ [d]) → Below B w w' → wpList Tryz.prog ops Q rest (a.put o.dst v') w') : wpList Tryz.prog ops Q (o :: rest) a w := by
  obtain ⟨v', w', hr, h1, h3⟩ := run_append_Ds h hx hy (hbx.cell (i := 0) rfl) (hbx.cell (i := 1) rfl) hB hlen o.type
  refine wpList_plain hg fun K hK' => ?_
  unfold Oper.wp execOp
  simp only [ho, resolve, invoke, builtin, Sem.run_bind, Sem.run_pure, Result.andThen_ok, List.map_toArray, List.map_cons, List.map_nil, hs, he, hr]
  exact hK' _ _ (hK v' w' h1 h3)
end
end Go.Proofs.YtacpnphfopmofaaGreat
namespace Go.Proofs.YtacpnphfopmofaaGreat
open Go.RowKit
set_option linter.unusedSimpArgs false
set_option linter.unusedVariables false

/-- a list of the call's own (not in block u), or one of before (in W) -/
def MemI (W w : World) (B : Nat) (u : Option Nat) (x : Value) (l : List Int) : Prop := (OwnI w B x l ∧ ∀ k, u = some k → x.ownBlock ≠ some k) ∨ Ints W x l
/-- a row of dealings with such lists -/
structure MixDs (W w : World) (B : Nat) (u : Option Nat) (v : Value) (ds : List DealingD) : Prop where
  bel : Below W.heap.size W w
  le : W.heap.size ≤ B
  row : ∃ css : List (List Value), css.length = ds.length ∧ w.ownsRow B 61 2 v ds.length css.flatten ∧
    ∀ i (h1 : i < css.length) (h2 : i < ds.length), ∃ x y, css[i] = [x, y] ∧ MemI W w B u x ds[i].c ∧ MemI W w B u y ds[i].s
section
variable {W w w' : World} {B : Nat} {u : Option Nat} {v : Value} {ds : List DealingD} {d : DealingD}
theorem MemI.ints {x : Value} {l : List Int} (h : MemI W w B u x l) (hb : Below W.heap.size W w) : Ints w x l := by
  rcases h with h | h
  · exact h.1.ints
  · exact h.below hb
theorem MemI.shape {x : Value} {l : List Int} (h : MemI W w B u x l) : ∃ a n c, x = .slice a n c := by
  rcases h with h | h
  · obtain ⟨a, c, e⟩ := h.1.shape; exact ⟨a, _, c, e⟩
  · exact h.shape
theorem MemI.below {x : Value} {l : List Int} (h : MemI W w B u x l) (hb : Below w.heap.size w w') : MemI W w' B u x l := by
  rcases h with h | h
  · exact .inl ⟨h.1.below hb, h.2⟩
  · exact .inr h
theorem MixDs.nil (hb : Below W.heap.size W w) (hle : W.heap.size ≤ B) : MixDs W w B u (.slice none 0 0) [] :=
  ⟨hb, hle, [], rfl, by simpa using World.ownsRow_nil w B 61 2, fun i h1 _ => by simp at h1⟩
theorem MixDs.lit0 (hb : Below W.heap.size W w) (hle : W.heap.size ≤ B) (hB : B ≤ w.heap.size) : MixDs W (w.alloc (.cells #[] 61)) B u (.slice (some ⟨w.heap.size, 0, none⟩) 0 0) [] :=
  ⟨hb.trans ((Below.refl _ _).alloc hb.size _), hle, [], rfl, World.ownsRow_lit (e := 61) (size := 2) w #[] 0 hB (Nat.zero_le _) (by simp), fun i h1 _ => by simp at h1⟩
theorem MixDs.lit1 {x y : Value} (hb : Below W.heap.size W w) (hle : W.heap.size ≤ B) (hB : B ≤ w.heap.size) (hx : MemI W w B u x d.c) (hy : MemI W w B u y d.s) : MixDs W (w.alloc (.cells #[x, y] 61)) B u (.slice (some ⟨w.heap.size, 0, none⟩) 1 1) [d] := by
  have hal : Below w.heap.size w (w.alloc (.cells #[x, y] 61)) := (Below.refl _ _).alloc (Nat.le_refl _) _
  refine ⟨hb.trans ((Below.refl _ _).alloc hb.size _), hle, [[x, y]], rfl, ?_, fun i h1 h2 => ?_⟩
  · exact World.ownsRow_lit (e := 61) (size := 2) w #[x, y] 1 hB (by simp [maxLen]) (by simp)
  · have hi : i = 0 := by simp at h1; omega
    subst hi
    exact ⟨x, y, rfl, hx.below hal, hy.below hal⟩
theorem MixDs.lens {css : List (List Value)} (hl : css.length = ds.length)
    (hel : ∀ i (h1 : i < css.length) (h2 : i < ds.length), ∃ x y, css[i] = [x, y] ∧ MemI W w B u x ds[i].c ∧ MemI W w B u y ds[i].s) : ∀ c ∈ css, c.length = 2 := by
  intro c hc
  obtain ⟨i, hi, rfl⟩ := List.getElem_of_mem hc
  obtain ⟨x, y, e, _⟩ := hel i hi (by omega)
  rw [e]; rfl
theorem MixDs.rd (h : MixDs W w B u v ds) : RdR rDealing w v ds := by
  obtain ⟨hb, hle, css, hl, hO, hel⟩ := h
  refine FrR.rd (e := 61) (w0 := w) (B := B) ⟨css, hl, hO, fun i h1 h2 => ?_⟩ (Below.refl _ _)
  obtain ⟨x, y, e, q1, q2⟩ := hel i h1 h2
  rw [e]
  exact rowDl (q1.ints hb) (q2.ints hb)
theorem MixDs.below (h : MixDs W w B u v ds) (hb : Below w.heap.size w w') : MixDs W w' B u v ds := by
  obtain ⟨hb0, hle, css, hl, hO, hel⟩ := h
  refine ⟨Below.next hb0 hb, hle, css, hl, ownsRow_frame hO fun g hg => hb.block g (hO.lt g hg).2, fun i h1 h2 => ?_⟩
  obtain ⟨x, y, e, q1, q2⟩ := hel i h1 h2
  exact ⟨x, y, e, q1.below hb, q2.below hb⟩
theorem MixDs.shape (h : MixDs W w B u v ds) : ∃ a c, v = .slice a ds.length c := by
  obtain ⟨a, n, c, e⟩ := h.rd.shape
  have := (e ▸ h.rd : RdR rDealing w (.slice a n c) ds).len
  exact ⟨a, c, by rw [e, this]⟩
theorem MemI.keepRow {row : Option Nat} {x : Value} {l : List Int} {n : Nat} {xs : List Value} (h : MemI W w B u x l) (hO : w.ownsRow B 61 2 v n xs) (hg : w.grownBy w' v.ownBlock) : MemI W w' B u x l := by
  rcases h with h | h
  · exact .inl ⟨h.1.kept hg (h.1.apartDs hO), h.2⟩
  · exact .inr h
/-- more dealings, whose cells stand somewhere -/
theorem run_append_Mix {es : List DealingD} (h : MixDs W w B u v ds) (ad : Addr) (m c : Nat) (css' : List (List Value)) (hl' : css'.length = es.length) (hm : es.length = m) (hnews : ∀ j t, css'.flatten[j]? = some t → w.cell? (ad.add j) = some t)
    (hel' : ∀ i (h1 : i < css'.length) (h2 : i < es.length), ∃ x y, css'[i] = [x, y] ∧ MemI W w B u x es[i].c ∧ MemI W w B u y es[i].s) (hB : B ≤ w.heap.size) (hlen : ds.length + es.length ≤ 1000000) (ty : TypeId) :
    ∃ v' w', (Builtin.append_ #[28, 28] ty #[v, .slice (some ad) m c]).run Tryz.prog w = .ok v' w' ∧ MixDs W w' B u v' (ds ++ es) ∧ Below B w w' ∧ (∀ q l, OwnI w B q l → OwnI w' B q l) ∧ w.grownBy w' v.ownBlock := by
  obtain ⟨hb0, hle, css, hl, hO, hel⟩ := h
  obtain ⟨i, hi, hzr, hsz, hby⟩ := infoDl
  have hfl' := flat_len (MixDs.lens hl' hel')
  have hones : ∀ t ∈ css'.flatten, t.oneCell' = true := by
    intro t ht
    obtain ⟨r, hr, ht⟩ := List.mem_flatten.1 ht
    obtain ⟨j, hj, rfl⟩ := List.getElem_of_mem hr
    obtain ⟨x, y, e, q1, q2⟩ := hel' j hj (by omega)
    rw [e] at ht
    obtain ⟨a1, n1, c1, e1⟩ := q1.shape
    obtain ⟨a2, n2, c2, e2⟩ := q2.shape
    simp only [List.mem_cons, List.not_mem_nil, or_false] at ht
    rcases ht with rfl | rfl
    · rw [e1]; rfl
    · rw [e2]; rfl
  obtain ⟨v', w', hr, h1, h2, _⟩ := run_append_own (P := Tryz.prog) w B 28 ty 61 i _ 2 i.bytes Tryz.underlying28 hi hzr hsz rfl rfl (by decide) v ds.length css.flatten hO ad m c css'.flatten (by rw [hfl', hl', hm]) hnews hones (by unfold maxLen; omega) (by
    have : (ds.length + m) * i.bytes ≤ 1000000000 * 1000 := Nat.mul_le_mul (by omega) hby
    omega) hB
  have hbb : Below B w w' := (Below.refl B w).grown h2 hB (fun k hk => (hO.lt k hk).1)
  refine ⟨v', w', hr, ⟨hb0.trans (hbb.mono hle), hle, css ++ css', by simp [hl, hl'], by simpa [List.flatten_append, hm] using h1, fun k k1 k2 => ?_⟩, hbb, fun q l hq => hq.kept h2 (hq.apartDs hO), h2⟩
  by_cases hk : k < ds.length
  · rw [List.getElem_append_left (by omega), List.getElem_append_left hk]
    obtain ⟨x', y', e, q1, q2⟩ := hel k (by omega) hk
    exact ⟨x', y', e, q1.keepRow (row := none) hO h2, q2.keepRow (row := none) hO h2⟩
  · rw [List.getElem_append_right (by omega), List.getElem_append_right (by omega)]
    simp only [List.length_append] at k2
    obtain ⟨x', y', e, q1, q2⟩ := hel' (k - css.length) (by simp only [List.length_append] at k1; omega) (by omega)
    have e2 : k - css.length = k - ds.length := by omega
    refine ⟨x', y', e, ?_, ?_⟩
    · have := q1.keepRow (row := none) hO h2; simpa only [e2] using this
    · have := q2.keepRow (row := none) hO h2; simpa only [e2] using this
theorem run_append_Mix1 {b : Nat} {x y : Value} (h : MixDs W w B u v ds) (hx : MemI W w B u x d.c) (hy : MemI W w B u y d.s)
    (hc0 : w.cell? ⟨b, 0, none⟩ = some x) (hc1 : w.cell? ⟨b, 1, none⟩ = some y) (hB : B ≤ w.heap.size) (hlen : ds.length ≤ 100000) (ty : TypeId) :
    ∃ v' w', (Builtin.append_ #[28, 28] ty #[v, .slice (some ⟨b, 0, none⟩) 1 1]).run Tryz.prog w = .ok v' w' ∧ MixDs W w' B u v' (ds ++ [d]) ∧ Below B w w' ∧ (∀ q l, OwnI w B q l → OwnI w' B q l) ∧ w.grownBy w' v.ownBlock := by
  refine run_append_Mix h ⟨b, 0, none⟩ 1 1 [[x, y]] rfl rfl ?_ (fun i h1 h2 => ?_) hB (by simp; omega) ty
  · intro j t ht
    rw [Addr.add_lit, Nat.zero_add]
    rcases j with _ | _ | j
    · simp at ht; subst ht; exact hc0
    · simp at ht; subst ht; exact hc1
    · simp at ht
  · have hi : i = 0 := by simp at h1; omega
    subst hi
    exact ⟨x, y, rfl, hx, hy⟩
theorem rows2_of_RdDl {ad : Addr} {n c : Nat} {es : List DealingD} (h : RdR rDealing W (.slice (some ad) n c) es) : ∃ css : List (List Value), css.length = es.length ∧ (∀ j t, css.flatten[j]? = some t → W.cell? (ad.add j) = some t) ∧ ∀ i (h1 : i < css.length) (h2 : i < es.length), ∃ x y, css[i] = [x, y] ∧ Ints W x es[i].c ∧ Ints W y es[i].s := by
  obtain ⟨css, h1, h2, h3⟩ := rows_of_RdR h
  refine ⟨css, h1, h2, fun i k1 k2 => ?_⟩
  have h4 := h3 i k1 k2
  obtain ⟨a1, n1, c1, a2, n2, c2, e, g1, g2⟩ := rdDealing.1 (⟨css[i], rfl, h4⟩ : (kS rDealing).rd W (.agg css[i].toArray) es[i])
  refine ⟨_, _, ?_, g1, g2⟩
  have := Value.agg.inj e
  simpa using congrArg Array.toList this
/-- append of a whole list of dealings of before -/
theorem run_append_MixA {es : List DealingD} {lv : Value} (h : MixDs W w B u v ds) (hl : RdR rDealing W lv es) (hB : B ≤ w.heap.size) (hlen : ds.length + es.length ≤ 1000000) (ty : TypeId) :
    ∃ v' w', (Builtin.append_ #[28, 28] ty #[v, lv]).run Tryz.prog w = .ok v' w' ∧ MixDs W w' B u v' (ds ++ es) ∧ Below B w w' := by
  obtain ⟨a, n, c, rfl⟩ := hl.shape
  have hn := hl.len
  cases a with
  | some ad =>
    obtain ⟨css, h1, h2, h3⟩ := rows2_of_RdDl hl
    obtain ⟨v', w', hr, q1, q2, _⟩ := run_append_Mix h ad n c css h1 hn (fun j t ht => (h.bel.cell (World.block_lt_of_cell? W _ (h2 j t ht))).trans (h2 j t ht)) (fun i k1 k2 => by
      obtain ⟨x, y, e, g1, g2⟩ := h3 i k1 k2
      exact ⟨x, y, e, .inr g1, .inr g2⟩) hB hlen ty
    exact ⟨v', w', hr, q1, q2⟩
  | none =>
    obtain ⟨_, n', c', e, hn', _, _, hc⟩ := hl
    cases e
    rcases hc with ⟨_, rfl, rfl⟩ | ⟨ad, e, _⟩ | ⟨b, off, e, _⟩
    · have he : es = [] := List.eq_nil_of_length_eq_zero (by omega)
      subst he
      obtain ⟨hb0, hle, css, hcl, hO, hel⟩ := h
      obtain ⟨i, hi, hzr, hsz, hby⟩ := infoDl
      exact ⟨v, w, run_append_owned_none (P := Tryz.prog) (w := w) B 28 ty 61 i 2 Tryz.underlying28 hi v ds.length css.flatten hO, by rw [List.append_nil]; exact ⟨hb0, hle, css, hcl, hO, hel⟩, Below.refl _ _⟩
    · cases e
    · cases e
/-- the integers beside it grow -/
theorem MixDs.growU {q q' : Value} {l : List Int} (h : MixDs W w B q.ownBlock v ds) (ho : OwnI w B q l) (hg : w.grownBy w' q.ownBlock) (hq' : ∀ k, q'.ownBlock = some k → q.ownBlock = some k ∨ w.heap.size ≤ k) (hB : B ≤ w.heap.size) : MixDs W w' B q'.ownBlock v ds := by
  obtain ⟨hb0, hle, css, hl, hO, hel⟩ := h
  have hbb : Below B w w' := ho.grown hg hB
  have hne : v.ownBlock = none ∨ v.ownBlock ≠ q.ownBlock := by
    cases e : v.ownBlock with
    | none => exact .inl rfl
    | some k =>
      refine .inr fun e2 => ?_
      rcases ho.apartDs hO with h1 | h1
      · rw [h1] at e2; cases e2
      · exact h1 (by rw [e, ← e2])
  have one : ∀ x l', MemI W w B q.ownBlock x l' → MemI W w' B q'.ownBlock x l' := by
    intro x l' hx
    rcases hx with hx | hx
    · refine .inl ⟨hx.1.kept hg ?_, fun k hk => ?_⟩
      · cases e : x.ownBlock with
        | none => exact .inl rfl
        | some k => exact .inr fun e2 => hx.2 k e2.symm e
      · rcases hq' k hk with h1 | h1
        · exact hx.2 k h1
        · intro e; have := (hx.1.lt k e).2; omega
    · exact .inr hx
  refine ⟨hb0.trans (hbb.mono hle), hle, css, hl, hO.kept hg hne, fun i h1 h2 => ?_⟩
  obtain ⟨x, y, e, q1, q2⟩ := hel i h1 h2
  exact ⟨x, y, e, one _ _ q1, one _ _ q2⟩
theorem wpList_append_Mix {ops : Array Oper} {rest : List Oper} {o : Oper} {a : Act} {Q : Exit → Act → World → Prop} (hg : o.guard = none) (s y0 : Operand)
    (ho : o.op = .call { callee := .builtin .append, args := #[s, y0], argTypes := #[28, 28] })
    {b : Nat} {x y : Value} (hs : a.eval s = v) (he : a.eval y0 = .slice (some ⟨b, 0, none⟩) 1 1) (h : MixDs W w B u v ds) (hx : MemI W w B u x d.c) (hy : MemI W w B u y d.s)
    (hbx : BoxN w b 61 [x, y]) (hB : B ≤ w.heap.size) (hlen : ds.length ≤ 100000) (N : Nat) (hN : ds.length + 1 = N)
    (hK : ∀ a' c' w', MixDs W w' B u (.slice a' N c') (ds ++ [d]) → Below B w w' → (∀ q l, OwnI w B q l → OwnI w' B q l) → wpList Tryz.prog ops Q rest (a.put o.dst (.slice a' N c')) w') : wpList Tryz.prog ops Q (o :: rest) a w := by
  obtain ⟨v', w', hr, h1, h3, h4, _⟩ := run_append_Mix1 h hx hy (hbx.cell (i := 0) rfl) (hbx.cell (i := 1) rfl) hB hlen o.type
  obtain ⟨a', c', e⟩ := h1.shape
  rw [List.length_append, List.length_singleton, hN] at e
  subst e
  refine wpList_plain hg fun K hK' => ?_
  unfold Oper.wp execOp
  simp only [ho, resolve, invoke, builtin, Sem.run_bind, Sem.run_pure, Result.andThen_ok, List.map_toArray, List.map_cons, List.map_nil, hs, he, hr]
  exact hK' _ _ (hK a' c' w' h1 h3 h4)
theorem oper_append_MixA {o : Oper} {a : Act} {K : Act → World → Prop} {Q : Exit → Act → World → Prop} (s y0 : Operand)
    (ho : o.op = .call { callee := .builtin .append, args := #[s, y0], argTypes := #[28, 28] })
    {es : List DealingD} {lv : Value} (hs : a.eval s = v) (he : a.eval y0 = lv) (h : MixDs W w B u v ds) (hl : RdR rDealing W lv es) (hB : B ≤ w.heap.size) (hlen : ds.length + es.length ≤ 1000000)
    (hK : ∀ v' w', MixDs W w' B u v' (ds ++ es) → Below B w w' → K (a.put o.dst v') w') : Oper.wp Tryz.prog o a w K Q := by
  obtain ⟨v', w', hr, h1, h3⟩ := run_append_MixA h hl hB hlen o.type
  unfold Oper.wp execOp
  simp only [ho, resolve, invoke, builtin, Sem.run_bind, Sem.run_pure, Result.andThen_ok, List.map_toArray, List.map_cons, List.map_nil, hs, he, hr]
  exact hK v' w' h1 h3
theorem wpList_append_intsU {ops : Array Oper} {rest : List Oper} {o : Oper} {a : Act} {Q : Exit → Act → World → Prop} (hgd : o.guard = none) (s x : Operand)
    (ho : o.op = .call { callee := .builtin .append, args := #[s, x], argTypes := #[25, 25] })
    {q y : Value} {l m : List Int} (hown : OwnI w B q l) (hM : MixDs W w B q.ownBlock v ds) (hy : Ints w y m) (hm : m ≠ []) (N : Nat) (hN : l.length + m.length = N) (hlen : N ≤ 1000000) (hB : B ≤ w.heap.size) (hs : a.eval s = q) (hxx : a.eval x = y)
    (hK : ∀ a' c' w', OwnI w' B (.slice a' N c') (l ++ m) → MixDs W w' B (Value.slice a' N c').ownBlock v ds → Below B w w' → wpList Tryz.prog ops Q rest (a.put o.dst (.slice a' N c')) w') : wpList Tryz.prog ops Q (o :: rest) a w := by
  obtain ⟨v', w', hr, h1, h2, h3⟩ := run_append_intsB hown hy hm (by omega) hB o.type
  obtain ⟨a', c', e⟩ := h1.shape
  rw [List.length_append, hN] at e
  subst e
  refine wpList_plain hgd fun K hK' => ?_
  unfold Oper.wp execOp
  simp only [ho, resolve, invoke, builtin, Sem.run_bind, Sem.run_pure, Result.andThen_ok, List.map_toArray, List.map_cons, List.map_nil, hs, hxx, hr]
  exact hK' _ _ (hK a' c' w' h1 (hM.growU hown h2 h3 hB) (hown.grown h2 hB))
end
end Go.Proofs.YtacpnphfopmofaaGreat
