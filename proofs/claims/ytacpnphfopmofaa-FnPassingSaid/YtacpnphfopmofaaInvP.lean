/- A region that draws its order, walked along a tree of its orders: reads in one place, operations that change the world in every order that is admissible. No program is named here. -/
import Derived.Test.YtacpnphfopmofaaRegPP
import Derived.Test.YtacpnphfopmofaaDrG3P
import Derived.Test.YtacpnphfopmofaaDrTP
import Derived.Deep.Cut
import Derived.Test.YtacpnphfopmofaaBaP
import Derived.Test.YtacpnphfopmofaaOpLP
namespace Go.Proofs.Ytacpnphfopmofaa
open Go.RowKit
set_option linter.unusedSimpArgs false
set_option linter.unusedVariables false

/-- a tree of orders: a read; an operation that is one of those that can be next, with what follows it, and the others that can be next -/
inductive RegV where
  | done
  | nil
  | rd (i : Nat) (r : RegV)
  | alt (i : Nat) (s m : RegV)
inductive RegW where
  | done
  | nil
  | rd (o : Oper) (r : RegW)
  | alt (o : Oper) (s m : RegW)
def altsV : RegV → List Nat
  | .alt i _ m => i :: altsV m
  | _ => []
def inV : RegV → Nat → Bool
  | .done, _ => false
  | .nil, _ => false
  | .rd i r, k => i == k || inV r k
  | .alt i s m, k => i == k || (inV s k || inV m k)
def rdsV : RegV → List Nat
  | .done => []
  | .nil => []
  | .rd i r => i :: rdsV r
  | .alt _ s m => rdsV s ++ rdsV m
def lexV (ops : Array Oper) (tl : List Nat) : Bool → Nat → RegV → Array Bool → Bool
  | b, n, .done, listed => !b && (n == 0 && seqI ops tl listed)
  | b, _, .nil, _ => b
  | b, n, .rd i r, listed => !b && (n != 0 && ((Region.ready .any ops listed).contains i && (Region.free .any ops listed i && lexV ops tl false (n - 1) r (listed.setIfInBounds i true))))
  | b, n, .alt i s m, listed => (b || decide (Region.ready .any ops listed = i :: altsV m)) && (n != 0 && (lexV ops tl false (n - 1) s (listed.setIfInBounds i true) && lexV ops tl true n m listed))
def takeV (ops : Array Oper) (F n : Nat) (t : RegV) (tl : List Nat) : Bool :=
  Region.noSelect ops && ((tl.all fun k => !inV t k) && (((List.range ops.size).all fun k => inV t k || (rdsV t).all fun i => regNeeds ops F k i) && lexV ops tl false n t (Array.replicate ops.size false)))
def pickV (l : List Oper) : RegV → RegW
  | .done => .done
  | .nil => .nil
  | .rd i r => match l[i]? with
    | some o => .rd o (pickV l r)
    | none => pickV l r
  | .alt i s m => match l[i]? with
    | some o => .alt o (pickV l s) (pickV l m)
    | none => pickV l m
section
variable {P : Program} {ops : Array Oper} {Q : Exit → Act → World → Prop} {S : World → Prop}
def wpV (P : Program) (ops : Array Oper) (Q : Exit → Act → World → Prop) (S : World → Prop) (K : Act → World → Prop) : RegW → Act → World → Prop
  | .done, a, w => K a w
  | .nil, _, _ => True
  | .rd o r, a, w => if Region.wanted o (yielded ops a.tmps) then ∃ v, (∀ w', S w' → (execOp a.eval o).run P w' = .ok (.value v) w') ∧ wpV P ops Q S K r (a.put o.dst v) w else wpV P ops Q S K r (a.put o.dst undef) w
  | .alt o s m, a, w => wpO P ops Q o (fun a' w' => S w' ∧ wpV P ops Q S K s a' w') a w ∧ wpV P ops Q S K m a w
theorem wpV_done {K : Act → World → Prop} {a : Act} {w : World} (h : K a w) : wpV P ops Q S K .done a w := h
theorem wpV_read {K : Act → World → Prop} {o : Oper} {r : RegW} {a : Act} {w : World} (v : Value) (hw : Region.wanted o (yielded ops a.tmps) = true)
    (hy : ∀ w', S w' → (execOp a.eval o).run P w' = .ok (.value v) w') (h : wpV P ops Q S K r (a.put o.dst v) w) : wpV P ops Q S K (.rd o r) a w := by
  unfold wpV; rw [if_pos hw]; exact ⟨v, hy, h⟩
theorem wpV_or {K : Act → World → Prop} {o : Oper} {s m : RegW} {a : Act} {w : World} (hw : Region.wanted o (yielded ops a.tmps) = true)
    (h : ∀ K' : Act → World → Prop, Shut (∀ a w, S w → (S w → wpV P ops Q S K s a w) → K' a w) → o.wp P a w K' Q) (hm : wpV P ops Q S K m a w) : wpV P ops Q S K (.alt o s m) a w := ⟨wpO_do hw h, hm⟩
theorem wpV_do {K : Act → World → Prop} {o : Oper} {s : RegW} {a : Act} {w : World} (hw : Region.wanted o (yielded ops a.tmps) = true)
    (h : ∀ K' : Act → World → Prop, Shut (∀ a w, S w → (S w → wpV P ops Q S K s a w) → K' a w) → o.wp P a w K' Q) : wpV P ops Q S K (.alt o s .nil) a w := ⟨wpO_do hw h, trivial⟩
theorem wpAnyT_of_V {l : List Oper} (hl : ops = l.toArray) {F : Nat} {Hd : Nat → Bool} {K : Act → World → Prop} {tl : List Nat} (hsel : Region.noSelect ops = true) (hT : ∀ t ∈ tl, Hd t = false)
    (hQ : ∀ c a d v w, Q (.panic c) (a.put d v) w → Q (.panic c) a w) :
    ∀ (t : RegV), (∀ k, inV t k = true → Hd k = true) → (∀ i ∈ rdsV t, ∀ u, u < ops.size → Hd u = false → regNeeds ops F u i = true) →
      (∀ (n : Nat) (listed : Array Bool) (a : Act) (w : World), InvT ops Hd listed → lexV ops tl false n t listed = true → S w → wpV P ops Q S K (pickV l t) a w →
        wpAnyT P ops Q S Hd (fun listed' a' w' => seqI ops tl listed' = true ∧ K a' w') n listed a w) ∧
      (∀ (n : Nat) (listed : Array Bool) (a : Act) (w : World), InvT ops Hd listed → lexV ops tl true n t listed = true → wpV P ops Q S K (pickV l t) a w →
        ∀ j ∈ altsV t, j ∈ Region.ready .any ops listed → Hd j = true ∧ n ≠ 0 ∧ wpOp P ops Q j (fun a' w' => S w' ∧ wpAnyT P ops Q S Hd (fun listed' a' w' => seqI ops tl listed' = true ∧ K a' w') (n - 1) (listed.setIfInBounds j true) a' w') a w)
  | .done, _, _ => ⟨fun n listed a w _ hB _ h => by
      simp only [lexV, Bool.not_false, Bool.true_and, Bool.and_eq_true, beq_iff_eq] at hB
      obtain ⟨rfl, hB⟩ := hB
      exact ⟨hB, h⟩, fun n listed a w _ hB => by simp [lexV] at hB⟩
  | .nil, _, _ => ⟨fun n listed a w _ hB => by simp [lexV] at hB, fun n listed a w _ _ _ j hj => by simp [altsV] at hj⟩
  | .rd i r, h1, h2 => by
    have ih := wpAnyT_of_V (F := F) (K := K) hl hsel hT hQ r (fun k hk => h1 k (by simp [inV, hk])) (fun i' hi' => h2 i' (by simp [rdsV, hi']))
    refine ⟨fun n listed a w inv hB hS h => ?_, fun n listed a w _ hB => by simp [lexV] at hB⟩
    simp only [lexV, Bool.not_false, Bool.true_and, Bool.and_eq_true, bne_iff_ne] at hB
    obtain ⟨hn, hr, hf, hB'⟩ := hB
    have hr' : i ∈ Region.ready .any ops listed := by simpa using hr
    obtain ⟨oi, hli, hoi⟩ := ready_get hl hr'
    obtain ⟨n', rfl⟩ : ∃ n', n = n' + 1 := ⟨n - 1, by omega⟩
    rw [Nat.add_sub_cancel] at hB'
    unfold pickV at h
    rw [hli] at h
    have h1' : Hd i = true := h1 i (by simp [inV])
    have h2' : ∀ u, u < ops.size → Hd u = false → regNeeds ops F u i = true := h2 i (by simp [rdsV])
    unfold wpV at h
    by_cases hw : Region.wanted oi (yielded ops a.tmps) = true
    · rw [if_pos hw] at h
      obtain ⟨v, hy, hK⟩ := h
      exact wpAnyT_first hoi (Region.noSelect_spec hsel) (fun c a w => hQ c a _ _ w) h2' h1' (fun listed' a' w' hL => seqI_ready hT hL.1) n' listed a w inv (Region.free_spec hoi hf) hr' (.inl ⟨hw, hy⟩) hS
        (ih.1 n' _ _ w (inv.set hr') hB' hS hK)
    · rw [if_neg hw] at h
      exact wpAnyT_first hoi (Region.noSelect_spec hsel) (fun c a w => hQ c a _ _ w) h2' h1' (fun listed' a' w' hL => seqI_ready hT hL.1) n' listed a w inv (Region.free_spec hoi hf) hr' (.inr ⟨by simpa using hw, rfl⟩) hS
        (ih.1 n' _ _ w (inv.set hr') hB' hS h)
  | .alt i s m, h1, h2 => by
    have ihs := wpAnyT_of_V (F := F) (K := K) hl hsel hT hQ s (fun k hk => h1 k (by simp [inV, hk])) (fun i' hi' => h2 i' (by simp [rdsV, hi']))
    have ihm := wpAnyT_of_V (F := F) (K := K) hl hsel hT hQ m (fun k hk => h1 k (by simp [inV, hk])) (fun i' hi' => h2 i' (by simp [rdsV, hi']))
    have key : ∀ (n : Nat) (listed : Array Bool) (a : Act) (w : World), InvT ops Hd listed → n ≠ 0 → lexV ops tl false (n - 1) s (listed.setIfInBounds i true) = true → lexV ops tl true n m listed = true → wpV P ops Q S K (pickV l (.alt i s m)) a w →
        ∀ j ∈ i :: altsV m, j ∈ Region.ready .any ops listed → Hd j = true ∧ n ≠ 0 ∧ wpOp P ops Q j (fun a' w' => S w' ∧ wpAnyT P ops Q S Hd (fun listed' a' w' => seqI ops tl listed' = true ∧ K a' w') (n - 1) (listed.setIfInBounds j true) a' w') a w := by
      intro n listed a w inv hn hBs hBm h j hj hr
      by_cases hji : j = i
      · subst hji
        obtain ⟨oi, hli, hoi⟩ := ready_get hl hr
        unfold pickV at h
        rw [hli] at h
        unfold wpV at h
        exact ⟨h1 j (by simp [inV]), hn, wpOp_mono (fun a' w' hh => ⟨hh.1, ihs.1 (n - 1) _ a' w' (inv.set hr) hBs hh.1 hh.2⟩) (wpOp_of_O hl hli h.1)⟩
      · have hj' : j ∈ altsV m := by
          rcases List.mem_cons.1 hj with h | h
          · exact absurd h hji
          · exact h
        have hm : wpV P ops Q S K (pickV l m) a w := by
          unfold pickV at h
          split at h
          · unfold wpV at h; exact h.2
          · exact h
        exact ihm.2 n listed a w inv hBm hm j hj' hr
    refine ⟨fun n listed a w inv hB hS h => ?_, fun n listed a w inv hB h j hj hr => ?_⟩
    · simp only [lexV, Bool.false_or, Bool.and_eq_true, decide_eq_true_eq, bne_iff_ne] at hB
      obtain ⟨hf, hn, hBs, hBm⟩ := hB
      obtain ⟨n', rfl⟩ : ∃ n', n = n' + 1 := ⟨n - 1, by omega⟩
      refine ⟨fun h0 => (by rw [h0] at hf; cases hf), fun j hj => ?_⟩
      have hk := key (n' + 1) listed a w inv hn hBs hBm h j (by rw [← hf]; exact hj) hj
      exact ⟨hk.1, hk.2.2⟩
    · simp only [lexV, Bool.true_or, Bool.true_and, Bool.and_eq_true, bne_iff_ne] at hB
      obtain ⟨hn, hBs, hBm⟩ := hB
      exact key n listed a w inv hn hBs hBm h j hj hr
/-- the tree's walk serves all orders -/
theorem wp_region_V {id : Nat} {a : Act} {w : World} {l : List Oper} (S : World → Prop) (F n : Nat) (t : RegV) (tl : List Nat) (hm : P.follows .mixedOrders = true) (hB : takeV l.toArray F n t tl = true) (hsz : l.length = n + tl.length)
    (hQ : ∀ c a d v w, Q (.panic c) (a.put d v) w → Q (.panic c) a w) (hS : S w.drew)
    (h : wpV P l.toArray Q S (fun a' w' => wpList P l.toArray Q (pickN l tl) a' w') (pickV l t) a w.drew) : (Code.region id l.toArray true).wp P Q a w := by
  simp only [takeV, Bool.and_eq_true] at hB
  obtain ⟨hsel, hT, hN, hlex⟩ := hB
  have hT' : ∀ k ∈ tl, inV t k = false := fun k hk => by have := List.all_eq_true.1 hT k hk; simpa using this
  have inv0 : InvT l.toArray (inV t) (Array.replicate l.toArray.size false) := ⟨by simp, fun j oj _ hl => by
    exfalso
    rcases Nat.lt_or_ge j l.toArray.size with h | h
    · simp at hl
      have : j < l.length := by simpa using h
      simp [this] at hl
    · have h' : ¬ j < l.length := by simpa using h
      simp [h'] at hl⟩
  have hh : ∀ i ∈ rdsV t, ∀ u, u < l.toArray.size → inV t u = false → regNeeds l.toArray F u i = true := fun i hi u hu hf => by
    have h1 := List.all_eq_true.1 hN u (List.mem_range.2 hu)
    rw [hf, Bool.false_or] at h1
    exact List.all_eq_true.1 h1 i hi
  refine wp_region_any hm ?_
  have H := (wpAnyT_of_V (P := P) (Q := Q) (S := S) (l := l) rfl hsel hT' hQ t (fun k hk => hk) hh).1 n _ a w.drew inv0 hlex hS h
  have H2 := wpAny_of_T (g := tl.length) (fun listed' a' w' hL => wpAny_of_seqI (P := P) (Q := Q) (l := l) rfl tl listed' a' w' hL.1 hL.2) n _ a w.drew H
  have e : l.toArray.size = n + tl.length := by simpa using hsz
  rw [e]
  rw [e] at H2
  exact H2
end
attribute [irreducible] wpV
end Go.Proofs.Ytacpnphfopmofaa
namespace Go.Proofs.Ytacpnphfopmofaa
open Go.RowKit
set_option linter.unusedSimpArgs false
set_option linter.unusedVariables false

/-- a dealing in rows of its own, apart -/
structure OwnD (w : World) (B : Nat) (x y : Value) (la lb : List Int) : Prop where
  oa : OwnI w B x la
  ob : OwnI w B y lb
  ne : ∀ k, x.ownBlock = some k → y.ownBlock ≠ some k
theorem OwnD.within {w w' : World} {B g : Nat} {x y : Value} {la lb : List Int} (h : OwnD w B x y la lb) (hw : Within g (g + 1) w w') (hg : g < B) : OwnD w' B x y la lb := ⟨h.oa.within hw hg, h.ob.within hw hg, h.ne⟩
theorem OwnD.below {w w' : World} {B : Nat} {x y : Value} {la lb : List Int} (h : OwnD w B x y la lb) (hb : Below w.heap.size w w') : OwnD w' B x y la lb := ⟨h.oa.below hb, h.ob.below hb, h.ne⟩
theorem OwnD.mono {w : World} {B B' : Nat} {x y : Value} {la lb : List Int} (h : OwnD w B x y la lb) (hB : B' ≤ B) : OwnD w B' x y la lb := ⟨h.oa.mono hB, h.ob.mono hB, h.ne⟩
theorem OwnD.other {w : World} {B b : Nat} {x y : Value} {la lb : List Int} (h : OwnD w B x y la lb) (hb : b < B) (j : Nat) (z : Value) : OwnD (w.setCell ⟨b, j, none⟩ z) B x y la lb := ⟨h.oa.other hb j z, h.ob.other hb j z, h.ne⟩
end Go.Proofs.Ytacpnphfopmofaa
namespace Go.Proofs.Ytacpnphfopmofaa
open Go.RowKit
set_option linter.unusedSimpArgs false
set_option linter.unusedVariables false

theorem Since.take {B : Nat} {w : World} {a : Option Addr} {n c k : Nat} {l : List Int} (h : Since B w (fun u => Ints u (.slice a n c) l)) (hk : k ≤ n) : Since B w (fun u => Ints u (.slice a k c) (l.take k)) := fun u hs hb => (h u hs hb).take hk
end Go.Proofs.Ytacpnphfopmofaa
namespace Go.Proofs.Ytacpnphfopmofaa
open Go.RowKit
set_option linter.unusedSimpArgs false
set_option linter.unusedVariables false

theorem mem11 {x : Int} (h : x ∈ [2, 3, 5, 7, 11, 23, 5, 7, 4, 29, 1]) : 1 ≤ x ∧ x ≤ 29 := by
  have h1 : ([2, 3, 5, 7, 11, 23, 5, 7, 4, 29, 1] : List Int).all (fun x => decide (1 ≤ x ∧ x ≤ 29)) = true := by decide
  exact of_decide_eq_true (List.all_eq_true.1 h1 x h)
set_option maxRecDepth 100000 in
set_option maxHeartbeats 4000000 in
theorem spec_DrawCountPassing (v : Value) (w : World) (h : Bytes w v) :
    Calls Try.prog 17 #[v] w fun e w' => (∃ (xr0 : Int) (vr1 : Value) (lr1 : List Int), e = .returned (.tuple #[.int .i64 xr0, vr1]) ∧ (-10 ≤ xr0 ∧ xr0 ≤ 2000000010) ∧ (Ints w' vr1 lr1 ∧ lr1.length ≤ 4)) ∧ Below w.heap.size w w' := by
  obtain ⟨a, m, c, rfl, hk1, hk2, hv⟩ := h
  have HY : Hid (Bytes w (.slice a m c)) := ⟨a, m, c, rfl, hk1, hk2, hv⟩
  clear hv
  unfold maxLen at hk2
  obtain ⟨U, hU⟩ : ∃ U, U = w := ⟨_, rfl⟩
  have hbU : Below w.heap.size w U := by subst hU; exact Below.refl _ _
  have hsU : U.heap.size = w.heap.size := by rw [hU]
  obtain ⟨W, hW⟩ : ∃ W, W = U.alloc (.cells #[.slice a m c, .int .i64 0, .int .u64 0] 85) := ⟨_, rfl⟩
  have HC : Hid (Cur U W U.heap.size 0) := by unfold Hid; rw [hW]; exact Cur.new U (HY.out.below hbU)
  have hbW : Below U.heap.size U W := by rw [hW]; exact (Below.refl _ _).alloc (Nat.le_refl _) _
  have HBW := Lib.hid (Below.next hbU hbW)
  have HUB := Lib.hid hbW
  obtain ⟨g, hg⟩ : ∃ g, g = U.heap.size := ⟨_, rfl⟩
  have HSU : Hid (w.heap.size = g) := by unfold Hid; rw [hg, hsU]
  have HWS : Hid (W.heap.size = g + 1) := by unfold Hid; rw [hW, hg]; simp
  go_enter Try.func17, Try.ntmps17
  go_wp2_with fail
  rw [← hU, ← hW]
  rw [← hg]
  (try rw [← HWS.out])
  rw [← hg] at HC HUB
  have HUS : Hid (U.heap.size = g) := hg.symm
  have hwg : w.heap.size + 0 = g := HSU.out
  have hsW := HWS.out
  have HW := Lib.hid (Within.refl g (g + 1) W)
  have HUC : Hid (Below U.heap.size U W) := by unfold Hid; rw [HUS.out]; exact HUB.out
  clear hU hW hbU hbW hsU hg
  obtain ⟨V1, hV⟩ : ∃ V, V = W.alloc (.cells #[.int .i64 2, .int .i64 3, .int .i64 5, .int .i64 7, .int .i64 11, .int .i64 23, .int .i64 5, .int .i64 7, .int .i64 4, .int .i64 29, .int .i64 1] 3) := ⟨_, rfl⟩
  have hbV : Below W.heap.size W V1 := by rw [hV]; (repeat (first | exact Below.refl _ _ | assumption | refine Below.drew ?_ | refine Below.alloc ?_ (by first | (simp; done) | (simp; omega)) _ | refine Below.setCell ?_ (by first | (simp; done) | (simp; omega)) _))
  have HO1 : Hid (OwnI V1 W.heap.size (.slice (some ⟨W.heap.size, 0, none⟩) 11 11) [2, 3, 5, 7, 11, 23, 5, 7, 4, 29, 1]) := by unfold Hid; rw [hV]; have h := (OwnI.lit (B := W.heap.size) W (by simp) (l := [2, 3, 5, 7, 11, 23, 5, 7, 4, 29, 1]) (AllI64.cons ⟨by decide, by decide⟩ (AllI64.cons ⟨by decide, by decide⟩ (AllI64.cons ⟨by decide, by decide⟩ (AllI64.cons ⟨by decide, by decide⟩ (AllI64.cons ⟨by decide, by decide⟩ (AllI64.cons ⟨by decide, by decide⟩ (AllI64.cons ⟨by decide, by decide⟩ (AllI64.cons ⟨by decide, by decide⟩ (AllI64.cons ⟨by decide, by decide⟩ (AllI64.cons ⟨by decide, by decide⟩ (AllI64.cons ⟨by decide, by decide⟩ AllI64.nil))))))))))) rfl (by simp [maxLen]) 11 rfl); simpa using h
  have HZ2 : Hid (BoxN V1 W.heap.size 3 [.int .i64 2, .int .i64 3, .int .i64 5, .int .i64 7, .int .i64 11, .int .i64 23, .int .i64 5, .int .i64 7, .int .i64 4, .int .i64 29, .int .i64 1]) := by unfold Hid; rw [hV]; have h := (BoxN.new W [.int .i64 2, .int .i64 3, .int .i64 5, .int .i64 7, .int .i64 11, .int .i64 23, .int .i64 5, .int .i64 7, .int .i64 4, .int .i64 29, .int .i64 1] 3); simpa using h
  have hgc : g < W.heap.size := HC.out.lt
  go_wp2_with fail
  rw [← hV]
  have hsV1 : V1.heap.size = W.heap.size + 1 := by rw [hV]; simp
  clear hV hgc
  replace HW := Lib.hid (HW.out.trans (Within.of_below hbV))
  replace HC := Lib.hid (HC.out.keep hbV)
  clear hbV
  refine (spec_among U g _ _ [2, 3, 5, 7, 11, 23, 5, 7, 4, 29, 1] _ HC.out (HW.out.belowOf HUC.out (Nat.le_of_eq HUS.out)) (by omega) (Apart.of_ownI HO1.out (by omega)) (by simp)).mono ?_
  rintro e u2 ⟨⟨x2, rfl, hm2⟩, hc, hw⟩
  obtain ⟨x2l, x2u⟩ := mem11 hm2
  clear hm2
  have hsz2 := hw.size
  replace HZ2 := Lib.hid (HZ2.out.kept hw (.inr (by omega)))
  replace HW := Lib.hid (HW.out.trans hw)
  replace HC := Lib.hid hc
  clear hc hw
  have z_0_0 := HZ2.out.cell (i := 0) rfl
  have z_0_1 := HZ2.out.cell (i := 1) rfl
  have z_0_2 := HZ2.out.cell (i := 2) rfl
  have z_0_3 := HZ2.out.cell (i := 3) rfl
  have z_0_4 := HZ2.out.cell (i := 4) rfl
  have z_0_5 := HZ2.out.cell (i := 5) rfl
  have z_0_6 := HZ2.out.cell (i := 6) rfl
  have z_0_7 := HZ2.out.cell (i := 7) rfl
  have z_0_8 := HZ2.out.cell (i := 8) rfl
  have z_0_9 := HZ2.out.cell (i := 9) rfl
  have z_0_10 := HZ2.out.cell (i := 10) rfl
  try (go_wp2_with fail)
  clear z_0_0 z_0_1 z_0_2 z_0_3 z_0_4 z_0_5 z_0_6 z_0_7 z_0_8 z_0_9 z_0_10
  refine (spec_pick U g _ 4 _ HC.out (HW.out.belowOf HUC.out (Nat.le_of_eq HUS.out)) (by omega) ).mono ?_
  rintro e u3 ⟨⟨x3, rfl, x3l, x3u, x3m, _⟩, hc, hw⟩
  replace x3m := x3m (by omega)
  have hsz3 := hw.size
  replace HZ2 := Lib.hid (HZ2.out.kept hw (.inr (by omega)))
  replace HW := Lib.hid (HW.out.trans hw)
  replace HC := Lib.hid hc
  clear hc hw
  have z_0_0 := HZ2.out.cell (i := 0) rfl
  have z_0_1 := HZ2.out.cell (i := 1) rfl
  have z_0_2 := HZ2.out.cell (i := 2) rfl
  have z_0_3 := HZ2.out.cell (i := 3) rfl
  have z_0_4 := HZ2.out.cell (i := 4) rfl
  have z_0_5 := HZ2.out.cell (i := 5) rfl
  have z_0_6 := HZ2.out.cell (i := 6) rfl
  have z_0_7 := HZ2.out.cell (i := 7) rfl
  have z_0_8 := HZ2.out.cell (i := 8) rfl
  have z_0_9 := HZ2.out.cell (i := 9) rfl
  have z_0_10 := HZ2.out.cell (i := 10) rfl
  try (go_wp2_with fail)
  clear z_0_0 z_0_1 z_0_2 z_0_3 z_0_4 z_0_5 z_0_6 z_0_7 z_0_8 z_0_9 z_0_10
  obtain ⟨uE, rfl⟩ : ∃ z, z = u3 := ⟨_, rfl⟩
  obtain ⟨J, hJ⟩ : ∃ z : Nat, (z : Int) = x3 := ⟨(x3).toNat, by omega⟩
  rw [← hJ]
  have hJ3 : J ≤ 3 := by omega
  clear hJ
  have hq1 : 1 ≤ x2 ∧ x2 ≤ 29 := ⟨by omega, by omega⟩
  have hgE : g < uE.heap.size := HC.out.lt
  have HC0 := Lib.hid (HC.out.mono (n' := 1000) (by omega))
  clear HC
  go_loopg [6, 7] J (fun gk lv kv wr => ∃ l : List Int, kv = .int .i64 (gk : Int) ∧ l.length + gk ≤ 3 ∧ Hid (OwnI wr uE.heap.size lv l) ∧ Hid (Cur U wr g (1000 + 100 * (l.length : Int))) ∧ Hid (Within g (g + 1) uE wr))
  case atStart => exact ⟨[], rfl, by simp; omega, OwnI.nil _ _, HC0.out.mono (by simp), Within.refl _ _ _⟩
  case round =>
    clear HC0
    obtain ⟨l, rfl, hlg, HO, HC, HWz⟩ := hrel
    have hsr := HWz.out.size
    obtain ⟨la, lc, rfl⟩ := HO.out.shape
    obtain ⟨ln, hln⟩ : ∃ z, l.length = z := ⟨_, rfl⟩
    have HLN := Lib.hid hln
    rw [hln] at HO HC hlg ⊢
    clear hln
    by_cases hlt : 0 < gk
    · have hgp : decide ((0 : Int) < (gk : Int)) = true := decide_eq_true (by omega)
      have hgq : decide (0 < gk) = true := decide_eq_true hlt
      have ewk : IntKind.i64.wrap ((gk : Int) - 1) = ((gk - 1 : Nat) : Int) := by rw [show (gk : Int) - 1 = ((gk - 1 : Nat) : Int) by omega]; exact IntWalk.i64_in _ (by omega)
      go_wp2_with fail
      refine (spec_pick U g _ x2 _ HC.out ((HW.out.trans HWz.out).belowOf (HUC.out) (Nat.le_of_eq HUS.out)) (by omega)).mono ?_
      rintro e w5 ⟨⟨x5, rfl, x5l, x5u, _, _⟩, hc, hw⟩
      have hs5 := hw.size
      have HXI : Hid (I64 x5) := ⟨by omega, by omega⟩
      replace HO := Lib.hid (HO.out.within hw (by omega))
      replace HC := Lib.hid hc
      replace HWz := Lib.hid (HWz.out.trans hw)
      clear hc hw
      have hub : uE.heap.size ≤ w5.heap.size := by omega
      go_wp2_with (at_builtin; refine wpList_append_intsN rfl _ _ rfl uE.heap.size _ _ l [x5] rfl (HO.out.alloc _) rfl (Ints.lit1 _ HXI.out) (by rw [HLN.out]; simp; omega) (by simp; omega) (ln + 1) (by rw [HLN.out]; rfl) ?_; intro a5 c5 w6 hown5 hgr5; have hb5 : Below uE.heap.size w5 w6 := ((Below.refl uE.heap.size w5).alloc (by omega) _).trans ((HO.out.alloc _).grown hgr5 (by simp; omega)); have HO5 := Lib.hid hown5; have HB5 := Lib.hid hb5; clear hown5 hgr5 hb5)
      go_roundg (gk - 1)
      case measure => omega
      case rel => exact ⟨l ++ [x5], by first | rfl | go_num, by rw [List.length_append, HLN.out]; simp only [List.length_cons, List.length_nil]; omega, HO5, Lib.hid ((HC.out.belowB HB5.out (by omega)).mono (by rw [List.length_append, HLN.out]; simp only [List.length_cons, List.length_nil]; push_cast; omega)), Lib.hid (HWz.out.belowStep HB5.out)⟩
    · obtain rfl : gk = 0 := by omega
      go_wp2_with fail
      refine (spec_one U g _ 16 _ HC.out ((HW.out.trans HWz.out).belowOf (HUC.out) (Nat.le_of_eq HUS.out)) (by omega)).mono ?_
      rintro e w5 ⟨⟨b5, rfl⟩, hc, hw⟩
      have hs5 := hw.size
      replace HO := Lib.hid (HO.out.within hw (by omega))
      replace HC := Lib.hid hc
      replace HWz := Lib.hid (HWz.out.trans hw)
      clear hc hw
      cases b5 with
      | false =>
        go_wp2_with fail
        go_ret2
        exact ⟨⟨x2, _, l, rfl, ⟨by omega, by omega⟩, HO.out.ints, by have := HLN.out; omega⟩, (HW.out.trans HWz.out).belowOf HBW.out (by omega)⟩
      | true =>
        obtain ⟨V, hV⟩ : ∃ V, V = w5.alloc (.cells #[.int .i64 (-1), .int .i64 x2, .int .i64 0, .int .i64 0] 3) := ⟨_, rfl⟩
        have hbV : Below w5.heap.size w5 V := by rw [hV]; (repeat (first | exact Below.refl _ _ | assumption | refine Below.drew ?_ | refine Below.alloc ?_ (by first | (simp; done) | (simp; omega)) _ | refine Below.setCell ?_ (by first | (simp; done) | (simp; omega)) _))
        have HO2 : Hid (OwnI V w5.heap.size (.slice (some ⟨w5.heap.size, 0, none⟩) 4 4) [-1, x2, 0, 0]) := by unfold Hid; rw [hV]; exact (OwnI.lit (B := w5.heap.size) w5 (Nat.le_refl _) (l := [-1, x2, 0, 0]) (AllI64.cons ⟨by decide, by decide⟩ (AllI64.cons (⟨by omega, by omega⟩ : I64 _) (AllI64.cons ⟨by decide, by decide⟩ (AllI64.cons ⟨by decide, by decide⟩ AllI64.nil)))) rfl (by simp [maxLen]) 4 rfl)
        have hgc : g < w5.heap.size := HC.out.lt
        go_wp2_with fail
        rw [← hV]
        have hsV : V.heap.size = w5.heap.size + 1 := by rw [hV]; simp
        clear hV
        replace HO := Lib.hid (HO.out.below hbV)
        replace HC := Lib.hid (HC.out.keep hbV)
        replace HWz := Lib.hid (HWz.out.trans (Within.of_below hbV))
        clear hbV
        refine (spec_among U g _ _ [-1, x2, 0, 0] _ HC.out ((HW.out.trans HWz.out).belowOf (HUC.out) (Nat.le_of_eq HUS.out)) (by omega) (Apart.of_ownI HO2.out (by omega)) (by simp)).mono ?_
        rintro e w6 ⟨⟨x6, rfl, hm6⟩, hc, hw⟩
        have hs6 := hw.size
        have x6b : -1 ≤ x6 ∧ x6 ≤ 29 := by
          simp only [List.mem_cons, List.not_mem_nil, or_false] at hm6
          omega
        clear hm6 HO2
        have HXI : Hid (I64 x6) := ⟨by omega, by omega⟩
        replace HO := Lib.hid (HO.out.within hw (by omega))
        replace HC := Lib.hid hc
        replace HWz := Lib.hid (HWz.out.trans hw)
        clear hc hw
        have hub : uE.heap.size ≤ w6.heap.size := by omega
        go_wp2_with (at_builtin; refine wpList_append_intsN rfl _ _ rfl uE.heap.size _ _ l [x6] rfl (HO.out.alloc _) rfl (Ints.lit1 _ HXI.out) (by rw [HLN.out]; simp; omega) (by simp; omega) (ln + 1) (by rw [HLN.out]; rfl) ?_; intro a7 c7 w7 hown7 hgr7; have hb7 : Below uE.heap.size w6 w7 := ((Below.refl uE.heap.size w6).alloc (by omega) _).trans ((HO.out.alloc _).grown hgr7 (by simp; omega)); have HO7 := Lib.hid hown7; have HB7 := Lib.hid hb7; clear hown7 hgr7 hb7)
        go_ret2
        exact ⟨⟨x2, _, l ++ [x6], rfl, ⟨by omega, by omega⟩, HO7.out.ints, by have := HLN.out; rw [List.length_append]; simp only [List.length_cons, List.length_nil]; omega⟩, ((HW.out.trans HWz.out).belowOf HBW.out (by omega)).trans (HB7.out.mono (by omega))⟩
end Go.Proofs.Ytacpnphfopmofaa
namespace Go.Proofs.Ytacpnphfopmofaa
open Go.RowKit
set_option linter.unusedSimpArgs false
set_option linter.unusedVariables false

theorem OwnI.hi {w : World} {B b : Nat} {v : Value} {l : List Int} (h : OwnI w B v l) (hb : w.heap.size ≤ b) (j : Nat) (x : Value) : OwnI (w.setCell ⟨b, j, none⟩ x) B v l :=
  h.kept (grownBy_setCell _ b j x) (.inr fun e => by have := (h.lt _ e).2; omega)
/-- a row below T, a row from T on: different blocks -/
structure LowI (w : World) (B T : Nat) (v : Value) (l : List Int) : Prop where
  own : OwnI w B v l
  lt : ∀ k, v.ownBlock = some k → k < T
theorem LowI.of {w : World} {B T : Nat} {v : Value} {l : List Int} (h : OwnI w B v l) (hT : w.heap.size ≤ T) : LowI w B T v l := ⟨h, fun k e => by have := (h.lt k e).2; omega⟩
theorem LowI.below {w w' : World} {B T : Nat} {v : Value} {l : List Int} (h : LowI w B T v l) (hb : Below w.heap.size w w') : LowI w' B T v l := ⟨h.own.below hb, h.lt⟩
theorem LowI.within {w w' : World} {B T g : Nat} {v : Value} {l : List Int} (h : LowI w B T v l) (hw : Within g (g + 1) w w') (hg : g < B) : LowI w' B T v l := ⟨h.own.within hw hg, h.lt⟩
theorem LowI.other {w : World} {B T b : Nat} {v : Value} {l : List Int} (h : LowI w B T v l) (hb : b < B ∨ T ≤ b) (j : Nat) (x : Value) : LowI (w.setCell ⟨b, j, none⟩ x) B T v l :=
  ⟨h.own.kept (grownBy_setCell _ b j x) (.inr fun e => by have := (h.own.lt _ e).1; have := h.lt _ e; omega), h.lt⟩
theorem LowI.stored {w : World} {B T r n c : Nat} {l : List Int} (h : LowI w B T (.slice (some ⟨r, 0, none⟩) n c) l) (hn : l.length = n) (k : Nat) {x : Int} (hx : I64 x) : LowI (w.setCell ⟨r, k, none⟩ (.int .i64 x)) B T (.slice (some ⟨r, 0, none⟩) n c) (l.set k x) :=
  ⟨(h.own.stored hn k hx).1, h.lt⟩
theorem LowI.grown {w w' : World} {B T B2 T2 : Nat} {v v2 : Value} {l l2 : List Int} (h : LowI w B T v l) (h2 : LowI w B2 T2 v2 l2) (hg : w.grownBy w' v2.ownBlock) (hd : T ≤ B2 ∨ T2 ≤ B) : LowI w' B T v l :=
  ⟨h.own.kept hg (by
    cases e : v.ownBlock with
    | none => exact .inl rfl
    | some k => exact .inr fun e2 => by have := (h.own.lt k e).1; have := h.lt k e; have := (h2.own.lt k e2.symm).1; have := h2.lt k e2.symm; omega), h.lt⟩
end Go.Proofs.Ytacpnphfopmofaa
namespace Go.Proofs.Ytacpnphfopmofaa
open Go.RowKit
set_option linter.unusedSimpArgs false
set_option linter.unusedVariables false

/-- the sum of a list, modulo q -/
def sumM (q : Int) (l : List Int) : Int := l.foldl (fun o x => (o + x) % q) 0
theorem sumM_succ {q : Int} {l : List Int} {k : Nat} (h : k < l.length) : sumM q (l.take (k + 1)) = (sumM q (l.take k) + nth l k) % q := by
  unfold sumM
  rw [List.take_succ_eq_append_getElem h, List.foldl_append]
  simp [nth, List.getD, h]
theorem sumM_bd {q : Int} (hq : 0 < q) (l : List Int) : 0 ≤ sumM q l ∧ sumM q l < q := by
  unfold sumM
  suffices h : ∀ o : Int, 0 ≤ o → o < q → 0 ≤ l.foldl (fun o x => (o + x) % q) o ∧ l.foldl (fun o x => (o + x) % q) o < q from h 0 (by omega) (by omega)
  induction l with
  | nil => intro o h1 h2; exact ⟨h1, h2⟩
  | cons a l ih => intro o _ _; exact ih _ (Int.emod_nonneg _ (by omega)) (Int.emod_lt_of_pos _ (by omega))
/-! ### sums -/
/-! ### bits -/
/-- what H to some power is in a case of a bit -/
def bcI (gr : GroupD) (c k : Int) : Int := if k = 1 then mulL gr [c, powE gr gr.g (-1)] else c
def btE (gr : GroupD) (s : ByteArray) (bh c x y : Int) : Int := chV gr s [bh, c, x, y]
noncomputable def pbB (gr : GroupD) (bh : Int) (bl : List Int) (m r : Int) (cs : List Int) : Bool := baB gr bh bl && (decide (0 ≤ m ∧ m ≤ 1) && (expB gr r && (decide (cs.length = 3) && cs.all (expB gr))))
/-- the commit of the case that is not so, of the one that is so -/
def btX (gr : GroupD) (bh c k e z : Int) : Int := mulL gr [powE gr bh z, powE gr (bcI gr c k) (-e)]
def btD (gr : GroupD) (s : ByteArray) (bh m r : Int) (cs : List Int) : ProofD :=
  if m = 0 then
    ⟨[powE gr bh (nth cs 0), btX gr bh (coM gr bh m r) 1 (nth cs 1) (nth cs 2)],
     [(btE gr s bh (coM gr bh m r) (powE gr bh (nth cs 0)) (btX gr bh (coM gr bh m r) 1 (nth cs 1) (nth cs 2)) - nth cs 1) % gr.q, nth cs 1],
     [(nth cs 0 + (btE gr s bh (coM gr bh m r) (powE gr bh (nth cs 0)) (btX gr bh (coM gr bh m r) 1 (nth cs 1) (nth cs 2)) - nth cs 1) % gr.q * r) % gr.q, nth cs 2]⟩
  else
    ⟨[btX gr bh (coM gr bh m r) 0 (nth cs 1) (nth cs 2), powE gr bh (nth cs 0)],
     [nth cs 1, (btE gr s bh (coM gr bh m r) (btX gr bh (coM gr bh m r) 0 (nth cs 1) (nth cs 2)) (powE gr bh (nth cs 0)) - nth cs 1) % gr.q],
     [nth cs 2, (nth cs 0 + (btE gr s bh (coM gr bh m r) (btX gr bh (coM gr bh m r) 0 (nth cs 1) (nth cs 2)) (powE gr bh (nth cs 0)) - nth cs 1) % gr.q * r) % gr.q]⟩
noncomputable def pbR (gr : GroupD) (s : ByteArray) (bh : Int) (bl : List Int) (m r : Int) (cs : List Int) : ProofD := if pbB gr bh bl m r cs = true then btD gr s bh m r cs else ⟨[], [], []⟩
theorem all_three {f : Int → Bool} {l : List Int} (h : l.length = 3) (ha : l.all f = true) : f (nth l 0) = true ∧ f (nth l 1) = true ∧ f (nth l 2) = true := by
  rw [list_three h] at ha
  simpa using ha
end Go.Proofs.Ytacpnphfopmofaa
namespace Go.Proofs.Ytacpnphfopmofaa
open Go.RowKit
set_option linter.unusedSimpArgs false
set_option linter.unusedVariables false

set_option maxRecDepth 100000 in
set_option maxHeartbeats 2000000 in
theorem spec_l9Form (gr : GroupD) (pv : Value) (d : ProofD) (na nb nc : Nat) (w : World) (hg : OkG gr) (hp : PfR w pv d) :
    Calls Try.prog 93 #[.agg #[.int .i64 gr.p, .int .i64 gr.q, .int .i64 gr.g], pv, .int .i64 (na : Int), .int .i64 (nb : Int), .int .i64 (nc : Int)] w fun e w' => e = .returned (.bool (fmB gr d na nb nc)) ∧ Below w.heap.size w w' := by
  have HG := Lib.hid hg
  clear hg
  obtain ⟨xcv, xhv, xrv, rfl, hxc, hxh, hxr⟩ := hp
  obtain ⟨xca, xcn, xcc, rfl⟩ := hxc.shape
  have Exc := Lib.hid hxc.len
  have Kxc := Lib.hid hxc.capMax
  have Hxc := Lib.hid hxc
  clear hxc
  obtain ⟨xha, xhn, xhc, rfl⟩ := hxh.shape
  have Exh := Lib.hid hxh.len
  have Kxh := Lib.hid hxh.capMax
  have Hxh := Lib.hid hxh
  clear hxh
  obtain ⟨xra, xrn, xrc, rfl⟩ := hxr.shape
  have Exr := Lib.hid hxr.len
  have Kxr := Lib.hid hxr.capMax
  have Hxr := Lib.hid hxr
  clear hxr
  cases hc1 : ((xcn : Int) == (na : Int)) with
  | false =>
    have HLxc : Hid (decide (d.c.length = na) = false) := by have q := hc1; rw [beq_eq_false_iff_ne] at q; exact decide_eq_false (by have := Exc.out; omega)
    have HV : Hid ((.bool (fmB gr d na nb nc) : Value) = .bool false) := by unfold Hid; simp [fmB, hc1, HLxc.out]
    rw [HV.out]
    go_enter Try.func93, Try.ntmps93
    go_wp2_with fail
    go_ret
    exact ⟨rfl, by (repeat (first | exact Below.refl _ _ | assumption | refine Below.drew ?_ | refine Below.alloc ?_ (by first | (simp; done) | (simp; omega)) _ | refine Below.setCell ?_ (by first | (simp; done) | (simp; omega)) _))⟩
  | true =>
    have HLxc : Hid (decide (d.c.length = na) = true) := by have q := hc1; rw [beq_iff_eq] at q; exact decide_eq_true (by have := Exc.out; omega)
    cases hc2 : ((xhn : Int) == (nb : Int)) with
    | false =>
      have HLxh : Hid (decide (d.h.length = nb) = false) := by have q := hc2; rw [beq_eq_false_iff_ne] at q; exact decide_eq_false (by have := Exh.out; omega)
      have HV : Hid ((.bool (fmB gr d na nb nc) : Value) = .bool false) := by unfold Hid; simp [fmB, hc1, hc2, HLxc.out, HLxh.out]
      rw [HV.out]
      go_enter Try.func93, Try.ntmps93
      go_wp2_with fail
      go_ret
      exact ⟨rfl, by (repeat (first | exact Below.refl _ _ | assumption | refine Below.drew ?_ | refine Below.alloc ?_ (by first | (simp; done) | (simp; omega)) _ | refine Below.setCell ?_ (by first | (simp; done) | (simp; omega)) _))⟩
    | true =>
      have HLxh : Hid (decide (d.h.length = nb) = true) := by have q := hc2; rw [beq_iff_eq] at q; exact decide_eq_true (by have := Exh.out; omega)
      cases hc3 : ((xrn : Int) == (nc : Int)) with
      | false =>
        have HLxr : Hid (decide (d.r.length = nc) = false) := by have q := hc3; rw [beq_eq_false_iff_ne] at q; exact decide_eq_false (by have := Exr.out; omega)
        have HV : Hid ((.bool (fmB gr d na nb nc) : Value) = .bool false) := by unfold Hid; simp [fmB, hc1, hc2, hc3, HLxc.out, HLxh.out, HLxr.out]
        rw [HV.out]
        go_enter Try.func93, Try.ntmps93
        go_wp2_with fail
        go_ret
        exact ⟨rfl, by (repeat (first | exact Below.refl _ _ | assumption | refine Below.drew ?_ | refine Below.alloc ?_ (by first | (simp; done) | (simp; omega)) _ | refine Below.setCell ?_ (by first | (simp; done) | (simp; omega)) _))⟩
      | true =>
        have HLxr : Hid (decide (d.r.length = nc) = true) := by have q := hc3; rw [beq_iff_eq] at q; exact decide_eq_true (by have := Exr.out; omega)
        cases hc4 : d.c.all (elB gr) with
        | false =>
          have HV : Hid ((.bool (fmB gr d na nb nc) : Value) = .bool false) := by unfold Hid; simp [fmB, hc1, hc2, hc3, hc4, HLxc.out, HLxh.out, HLxr.out]
          rw [HV.out]
          have Hhc4 := Lib.hid hc4
          clear hc4
          obtain ⟨W, hW⟩ : ∃ W, W = (w.alloc (.cells #[.int .i64 gr.p, .int .i64 gr.q, .int .i64 gr.g] 24)).alloc (.cells #[(.slice xca xcn xcc), (.slice xha xhn xhc), (.slice xra xrn xrc)] 115) := ⟨_, rfl⟩
          have HB : Hid (Below w.heap.size w W) := by unfold Hid; rw [hW]; (repeat (first | exact Below.refl _ _ | assumption | refine Below.drew ?_ | refine Below.alloc ?_ (by first | (simp; done) | (simp; omega)) _ | refine Below.setCell ?_ (by first | (simp; done) | (simp; omega)) _))
          have c0_0 : W.cell? ⟨w.heap.size, 0, none⟩ = some (.int .i64 gr.p) := by rw [hW]; simp [go_sem]
          have c0_1 : W.cell? ⟨w.heap.size, 1, none⟩ = some (.int .i64 gr.q) := by rw [hW]; simp [go_sem]
          have c0_2 : W.cell? ⟨w.heap.size, 2, none⟩ = some (.int .i64 gr.g) := by rw [hW]; simp [go_sem]
          have c1_0 : W.cell? ⟨w.heap.size + 1, 0, none⟩ = some ((.slice xca xcn xcc)) := by rw [hW]; simp [go_sem]
          have c1_1 : W.cell? ⟨w.heap.size + 1, 1, none⟩ = some ((.slice xha xhn xhc)) := by rw [hW]; simp [go_sem]
          have c1_2 : W.cell? ⟨w.heap.size + 1, 2, none⟩ = some ((.slice xra xrn xrc)) := by rw [hW]; simp [go_sem]
          have HSW : Hid (W.heap.size = w.heap.size + 2) := by unfold Hid; rw [hW]; simp
          go_enter Try.func93, Try.ntmps93
          go_wp2_with fail
          rw [← hW]
          have hse : w.heap.size + 1 + 1 = W.heap.size := by have := HSW.out; omega
          (try rw [hse])
          clear hse
          clear hW
          have hc : Below W.heap.size W W := Below.refl _ _
          go_wp2_with fail
          refine (spec_gIs gr _ d.c _ HG.out (Hxc.out.below (HB.out.trans (hc.mono HB.out.size)))).mono ?_
          rintro e u1 ⟨rfl, hq1⟩
          replace hc := Below.next hc hq1
          replace c0_0 := box_at c0_0 hq1
          replace c0_1 := box_at c0_1 hq1
          replace c0_2 := box_at c0_2 hq1
          replace c1_0 := box_at c1_0 hq1
          replace c1_1 := box_at c1_1 hq1
          replace c1_2 := box_at c1_2 hq1
          clear hq1
          rw [Hhc4.out]
          go_wp2_with fail
          go_ret
          exact ⟨rfl, HB.out.trans (hc.mono HB.out.size)⟩
        | true =>
          cases hc5 : d.h.all (expB gr) with
          | false =>
            have HV : Hid ((.bool (fmB gr d na nb nc) : Value) = .bool false) := by unfold Hid; simp [fmB, hc1, hc2, hc3, hc4, hc5, HLxc.out, HLxh.out, HLxr.out]
            rw [HV.out]
            have Hhc4 := Lib.hid hc4
            clear hc4
            have Hhc5 := Lib.hid hc5
            clear hc5
            obtain ⟨W, hW⟩ : ∃ W, W = (w.alloc (.cells #[.int .i64 gr.p, .int .i64 gr.q, .int .i64 gr.g] 24)).alloc (.cells #[(.slice xca xcn xcc), (.slice xha xhn xhc), (.slice xra xrn xrc)] 115) := ⟨_, rfl⟩
            have HB : Hid (Below w.heap.size w W) := by unfold Hid; rw [hW]; (repeat (first | exact Below.refl _ _ | assumption | refine Below.drew ?_ | refine Below.alloc ?_ (by first | (simp; done) | (simp; omega)) _ | refine Below.setCell ?_ (by first | (simp; done) | (simp; omega)) _))
            have c0_0 : W.cell? ⟨w.heap.size, 0, none⟩ = some (.int .i64 gr.p) := by rw [hW]; simp [go_sem]
            have c0_1 : W.cell? ⟨w.heap.size, 1, none⟩ = some (.int .i64 gr.q) := by rw [hW]; simp [go_sem]
            have c0_2 : W.cell? ⟨w.heap.size, 2, none⟩ = some (.int .i64 gr.g) := by rw [hW]; simp [go_sem]
            have c1_0 : W.cell? ⟨w.heap.size + 1, 0, none⟩ = some ((.slice xca xcn xcc)) := by rw [hW]; simp [go_sem]
            have c1_1 : W.cell? ⟨w.heap.size + 1, 1, none⟩ = some ((.slice xha xhn xhc)) := by rw [hW]; simp [go_sem]
            have c1_2 : W.cell? ⟨w.heap.size + 1, 2, none⟩ = some ((.slice xra xrn xrc)) := by rw [hW]; simp [go_sem]
            have HSW : Hid (W.heap.size = w.heap.size + 2) := by unfold Hid; rw [hW]; simp
            go_enter Try.func93, Try.ntmps93
            go_wp2_with fail
            rw [← hW]
            have hse : w.heap.size + 1 + 1 = W.heap.size := by have := HSW.out; omega
            (try rw [hse])
            clear hse
            clear hW
            have hc : Below W.heap.size W W := Below.refl _ _
            go_wp2_with fail
            refine (spec_gIs gr _ d.c _ HG.out (Hxc.out.below (HB.out.trans (hc.mono HB.out.size)))).mono ?_
            rintro e u1 ⟨rfl, hq1⟩
            replace hc := Below.next hc hq1
            replace c0_0 := box_at c0_0 hq1
            replace c0_1 := box_at c0_1 hq1
            replace c0_2 := box_at c0_2 hq1
            replace c1_0 := box_at c1_0 hq1
            replace c1_1 := box_at c1_1 hq1
            replace c1_2 := box_at c1_2 hq1
            clear hq1
            rw [Hhc4.out]
            go_wp2_with fail
            refine (spec_gExps gr _ d.h _ HG.out (Hxh.out.below (HB.out.trans (hc.mono HB.out.size)))).mono ?_
            rintro e u2 ⟨rfl, hq2⟩
            replace hc := Below.next hc hq2
            replace c0_0 := box_at c0_0 hq2
            replace c0_1 := box_at c0_1 hq2
            replace c0_2 := box_at c0_2 hq2
            replace c1_0 := box_at c1_0 hq2
            replace c1_1 := box_at c1_1 hq2
            replace c1_2 := box_at c1_2 hq2
            clear hq2
            rw [Hhc5.out]
            go_wp2_with fail
            go_ret
            exact ⟨rfl, HB.out.trans (hc.mono HB.out.size)⟩
          | true =>
            cases hc6 : d.r.all (expB gr) with
            | false =>
              have HV : Hid ((.bool (fmB gr d na nb nc) : Value) = .bool false) := by unfold Hid; simp [fmB, hc1, hc2, hc3, hc4, hc5, hc6, HLxc.out, HLxh.out, HLxr.out]
              rw [HV.out]
              have Hhc4 := Lib.hid hc4
              clear hc4
              have Hhc5 := Lib.hid hc5
              clear hc5
              have Hhc6 := Lib.hid hc6
              clear hc6
              obtain ⟨W, hW⟩ : ∃ W, W = (w.alloc (.cells #[.int .i64 gr.p, .int .i64 gr.q, .int .i64 gr.g] 24)).alloc (.cells #[(.slice xca xcn xcc), (.slice xha xhn xhc), (.slice xra xrn xrc)] 115) := ⟨_, rfl⟩
              have HB : Hid (Below w.heap.size w W) := by unfold Hid; rw [hW]; (repeat (first | exact Below.refl _ _ | assumption | refine Below.drew ?_ | refine Below.alloc ?_ (by first | (simp; done) | (simp; omega)) _ | refine Below.setCell ?_ (by first | (simp; done) | (simp; omega)) _))
              have c0_0 : W.cell? ⟨w.heap.size, 0, none⟩ = some (.int .i64 gr.p) := by rw [hW]; simp [go_sem]
              have c0_1 : W.cell? ⟨w.heap.size, 1, none⟩ = some (.int .i64 gr.q) := by rw [hW]; simp [go_sem]
              have c0_2 : W.cell? ⟨w.heap.size, 2, none⟩ = some (.int .i64 gr.g) := by rw [hW]; simp [go_sem]
              have c1_0 : W.cell? ⟨w.heap.size + 1, 0, none⟩ = some ((.slice xca xcn xcc)) := by rw [hW]; simp [go_sem]
              have c1_1 : W.cell? ⟨w.heap.size + 1, 1, none⟩ = some ((.slice xha xhn xhc)) := by rw [hW]; simp [go_sem]
              have c1_2 : W.cell? ⟨w.heap.size + 1, 2, none⟩ = some ((.slice xra xrn xrc)) := by rw [hW]; simp [go_sem]
              have HSW : Hid (W.heap.size = w.heap.size + 2) := by unfold Hid; rw [hW]; simp
              go_enter Try.func93, Try.ntmps93
              go_wp2_with fail
              rw [← hW]
              have hse : w.heap.size + 1 + 1 = W.heap.size := by have := HSW.out; omega
              (try rw [hse])
              clear hse
              clear hW
              have hc : Below W.heap.size W W := Below.refl _ _
              go_wp2_with fail
              refine (spec_gIs gr _ d.c _ HG.out (Hxc.out.below (HB.out.trans (hc.mono HB.out.size)))).mono ?_
              rintro e u1 ⟨rfl, hq1⟩
              replace hc := Below.next hc hq1
              replace c0_0 := box_at c0_0 hq1
              replace c0_1 := box_at c0_1 hq1
              replace c0_2 := box_at c0_2 hq1
              replace c1_0 := box_at c1_0 hq1
              replace c1_1 := box_at c1_1 hq1
              replace c1_2 := box_at c1_2 hq1
              clear hq1
              rw [Hhc4.out]
              go_wp2_with fail
              refine (spec_gExps gr _ d.h _ HG.out (Hxh.out.below (HB.out.trans (hc.mono HB.out.size)))).mono ?_
              rintro e u2 ⟨rfl, hq2⟩
              replace hc := Below.next hc hq2
              replace c0_0 := box_at c0_0 hq2
              replace c0_1 := box_at c0_1 hq2
              replace c0_2 := box_at c0_2 hq2
              replace c1_0 := box_at c1_0 hq2
              replace c1_1 := box_at c1_1 hq2
              replace c1_2 := box_at c1_2 hq2
              clear hq2
              rw [Hhc5.out]
              go_wp2_with fail
              refine (spec_gExps gr _ d.r _ HG.out (Hxr.out.below (HB.out.trans (hc.mono HB.out.size)))).mono ?_
              rintro e u3 ⟨rfl, hq3⟩
              replace hc := Below.next hc hq3
              replace c0_0 := box_at c0_0 hq3
              replace c0_1 := box_at c0_1 hq3
              replace c0_2 := box_at c0_2 hq3
              replace c1_0 := box_at c1_0 hq3
              replace c1_1 := box_at c1_1 hq3
              replace c1_2 := box_at c1_2 hq3
              clear hq3
              rw [Hhc6.out]
              go_wp2_with fail
              go_ret
              exact ⟨rfl, HB.out.trans (hc.mono HB.out.size)⟩
            | true =>
              have HV : Hid ((.bool (fmB gr d na nb nc) : Value) = .bool true) := by unfold Hid; simp [fmB, hc1, hc2, hc3, hc4, hc5, hc6, HLxc.out, HLxh.out, HLxr.out]
              rw [HV.out]
              have Hhc4 := Lib.hid hc4
              clear hc4
              have Hhc5 := Lib.hid hc5
              clear hc5
              have Hhc6 := Lib.hid hc6
              clear hc6
              obtain ⟨W, hW⟩ : ∃ W, W = (w.alloc (.cells #[.int .i64 gr.p, .int .i64 gr.q, .int .i64 gr.g] 24)).alloc (.cells #[(.slice xca xcn xcc), (.slice xha xhn xhc), (.slice xra xrn xrc)] 115) := ⟨_, rfl⟩
              have HB : Hid (Below w.heap.size w W) := by unfold Hid; rw [hW]; (repeat (first | exact Below.refl _ _ | assumption | refine Below.drew ?_ | refine Below.alloc ?_ (by first | (simp; done) | (simp; omega)) _ | refine Below.setCell ?_ (by first | (simp; done) | (simp; omega)) _))
              have c0_0 : W.cell? ⟨w.heap.size, 0, none⟩ = some (.int .i64 gr.p) := by rw [hW]; simp [go_sem]
              have c0_1 : W.cell? ⟨w.heap.size, 1, none⟩ = some (.int .i64 gr.q) := by rw [hW]; simp [go_sem]
              have c0_2 : W.cell? ⟨w.heap.size, 2, none⟩ = some (.int .i64 gr.g) := by rw [hW]; simp [go_sem]
              have c1_0 : W.cell? ⟨w.heap.size + 1, 0, none⟩ = some ((.slice xca xcn xcc)) := by rw [hW]; simp [go_sem]
              have c1_1 : W.cell? ⟨w.heap.size + 1, 1, none⟩ = some ((.slice xha xhn xhc)) := by rw [hW]; simp [go_sem]
              have c1_2 : W.cell? ⟨w.heap.size + 1, 2, none⟩ = some ((.slice xra xrn xrc)) := by rw [hW]; simp [go_sem]
              have HSW : Hid (W.heap.size = w.heap.size + 2) := by unfold Hid; rw [hW]; simp
              go_enter Try.func93, Try.ntmps93
              go_wp2_with fail
              rw [← hW]
              have hse : w.heap.size + 1 + 1 = W.heap.size := by have := HSW.out; omega
              (try rw [hse])
              clear hse
              clear hW
              have hc : Below W.heap.size W W := Below.refl _ _
              go_wp2_with fail
              refine (spec_gIs gr _ d.c _ HG.out (Hxc.out.below (HB.out.trans (hc.mono HB.out.size)))).mono ?_
              rintro e u1 ⟨rfl, hq1⟩
              replace hc := Below.next hc hq1
              replace c0_0 := box_at c0_0 hq1
              replace c0_1 := box_at c0_1 hq1
              replace c0_2 := box_at c0_2 hq1
              replace c1_0 := box_at c1_0 hq1
              replace c1_1 := box_at c1_1 hq1
              replace c1_2 := box_at c1_2 hq1
              clear hq1
              rw [Hhc4.out]
              go_wp2_with fail
              refine (spec_gExps gr _ d.h _ HG.out (Hxh.out.below (HB.out.trans (hc.mono HB.out.size)))).mono ?_
              rintro e u2 ⟨rfl, hq2⟩
              replace hc := Below.next hc hq2
              replace c0_0 := box_at c0_0 hq2
              replace c0_1 := box_at c0_1 hq2
              replace c0_2 := box_at c0_2 hq2
              replace c1_0 := box_at c1_0 hq2
              replace c1_1 := box_at c1_1 hq2
              replace c1_2 := box_at c1_2 hq2
              clear hq2
              rw [Hhc5.out]
              go_wp2_with fail
              refine (spec_gExps gr _ d.r _ HG.out (Hxr.out.below (HB.out.trans (hc.mono HB.out.size)))).mono ?_
              rintro e u3 ⟨rfl, hq3⟩
              replace hc := Below.next hc hq3
              replace c0_0 := box_at c0_0 hq3
              replace c0_1 := box_at c0_1 hq3
              replace c0_2 := box_at c0_2 hq3
              replace c1_0 := box_at c1_0 hq3
              replace c1_1 := box_at c1_1 hq3
              replace c1_2 := box_at c1_2 hq3
              clear hq3
              rw [Hhc6.out]
              go_wp2_with fail
              go_ret
              exact ⟨rfl, HB.out.trans (hc.mono HB.out.size)⟩
end Go.Proofs.Ytacpnphfopmofaa
namespace Go.Proofs.Ytacpnphfopmofaa
open Go.RowKit
set_option linter.unusedSimpArgs false
set_option linter.unusedVariables false

set_option maxRecDepth 100000 in
set_option maxHeartbeats 2000000 in
theorem impl_inv (gr : GroupD) (x : Int) (w : World) (hg : OkG gr) (hx : Small x) :
    Calls Try.prog 154 #[.agg #[.int .i64 gr.p, .int .i64 gr.q, .int .i64 gr.g], .int .i64 x] w fun e w' => e = .returned (.int .i64 (powE gr x (-1))) ∧ Below w.heap.size w w' := by
  have HG := Lib.hid hg
  clear hg
  obtain ⟨W, hW⟩ : ∃ W, W = w.alloc (.cells #[.int .i64 gr.p, .int .i64 gr.q, .int .i64 gr.g] 24) := ⟨_, rfl⟩
  have HB : Hid (Below w.heap.size w W) := by unfold Hid; rw [hW]; (repeat (first | exact Below.refl _ _ | assumption | refine Below.drew ?_ | refine Below.alloc ?_ (by first | (simp; done) | (simp; omega)) _ | refine Below.setCell ?_ (by first | (simp; done) | (simp; omega)) _))
  have c0_0 : W.cell? ⟨w.heap.size, 0, none⟩ = some (.int .i64 gr.p) := by rw [hW]; simp [go_sem]
  have c0_1 : W.cell? ⟨w.heap.size, 1, none⟩ = some (.int .i64 gr.q) := by rw [hW]; simp [go_sem]
  have c0_2 : W.cell? ⟨w.heap.size, 2, none⟩ = some (.int .i64 gr.g) := by rw [hW]; simp [go_sem]
  have HSW : Hid (W.heap.size = w.heap.size + 1) := by unfold Hid; rw [hW]; simp
  go_enter Try.func154, Try.ntmps154
  go_wp2_with fail
  rw [← hW]
  clear hW
  have hc : Below W.heap.size W W := Below.refl _ _
  go_wp2_with fail
  refine (impl_pow gr x (-1) _ HG.out hx ⟨by decide, by decide⟩).mono ?_
  rintro e u1 ⟨rfl, hq1⟩
  replace hc := Below.next hc hq1
  replace c0_0 := box_at c0_0 hq1
  replace c0_1 := box_at c0_1 hq1
  replace c0_2 := box_at c0_2 hq1
  clear hq1
  go_wp2_with fail
  go_ret
  exact ⟨rfl, HB.out.trans (hc.mono HB.out.size)⟩
set_option maxRecDepth 100000 in
set_option maxHeartbeats 2000000 in
theorem spec_gInv (gr : GroupD) (x : Int) (w : World) (hg : OkG gr) (hx : Small x) :
    Calls Try.prog 159 #[.agg #[.int .i64 gr.p, .int .i64 gr.q, .int .i64 gr.g], .int .i64 x] w fun e w' => e = .returned (.int .i64 (powE gr x (-1))) ∧ Below w.heap.size w w' := by
  have HG := Lib.hid hg
  have hg1 := hg.g1
  have hg2 := hg.g2
  have hp1 := hg.p1
  have hp2 := hg.p2
  have hq1 := hg.q1
  have hq2 := hg.q2
  clear hg
  obtain ⟨hx1, hx2⟩ := hx
  have hw1 : IntKind.i64.wrap (gr.q - 1) = gr.q - 1 := IntWalk.i64_in _ (by omega)
  have HEQ : Hid (powE gr x (-1) = powM x (gr.q - 1) gr.p) := by unfold Hid powE; rw [show (-1 : Int) % gr.q = gr.q - 1 from by rw [show (-1 : Int) = (gr.q - 1) - gr.q by omega, Int.sub_emod, Int.emod_self, Int.sub_zero, Int.emod_emod, Int.emod_eq_of_lt (by omega) (by omega)]]
  rw [HEQ.out]
  obtain ⟨W, hW⟩ : ∃ W, W = w.alloc (.cells #[.int .i64 gr.p, .int .i64 gr.q, .int .i64 gr.g] 24) := ⟨_, rfl⟩
  have HB : Hid (Below w.heap.size w W) := by unfold Hid; rw [hW]; (repeat (first | exact Below.refl _ _ | assumption | refine Below.drew ?_ | refine Below.alloc ?_ (by first | (simp; done) | (simp; omega)) _ | refine Below.setCell ?_ (by first | (simp; done) | (simp; omega)) _))
  have c0_0 : W.cell? ⟨w.heap.size, 0, none⟩ = some (.int .i64 gr.p) := by rw [hW]; simp [go_sem]
  have c0_1 : W.cell? ⟨w.heap.size, 1, none⟩ = some (.int .i64 gr.q) := by rw [hW]; simp [go_sem]
  have c0_2 : W.cell? ⟨w.heap.size, 2, none⟩ = some (.int .i64 gr.g) := by rw [hW]; simp [go_sem]
  have HSW : Hid (W.heap.size = w.heap.size + 1) := by unfold Hid; rw [hW]; simp
  go_enter Try.func159, Try.ntmps159
  go_wp2_with fail
  rw [← hW]
  clear hW
  have hc : Below W.heap.size W W := Below.refl _ _
  go_wp2_with fail
  refine (spec_nPower x (gr.q - 1) gr.p _ ⟨by omega, by omega⟩ ⟨by omega, by omega⟩ ⟨by omega, by omega⟩).mono ?_
  rintro e u1 ⟨rfl, rfl⟩
  go_wp2_with fail
  go_ret
  exact ⟨rfl, HB.out.trans (hc.mono HB.out.size)⟩
end Go.Proofs.Ytacpnphfopmofaa
