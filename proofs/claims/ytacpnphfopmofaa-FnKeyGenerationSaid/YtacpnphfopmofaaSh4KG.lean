/- Sums of dealings: walks (printed by gen_sh4.py). -/
import Derived.Test.YtacpnphfopmofaaSh3KG
import Derived.Test.YtacpnphfopmofaaRowIKG
import Derived.Deep.CutRange
namespace Go.Proofs.Ytacpnphfopmofaa
open Go.RowKit
set_option linter.unusedSimpArgs false
set_option linter.unusedVariables false

def smL (f : Int → Int → Int) (a b : List Int) : Nat → List Int
  | 0 => a
  | k + 1 => (smL f a b k).set k (f (nth (smL f a b k) k) (nth b k))
def mulF (gr : GroupD) (x y : Int) : Int := mulL gr [x, y]
def addF (gr : GroupD) (x y : Int) : Int := (x + y) % gr.q
def suX (gr : GroupD) (a d : DealingD) : DealingD := ⟨smL (mulF gr) a.c d.c d.c.length, smL (addF gr) a.s d.s d.s.length⟩
def atD (l : List DealingD) (i : Nat) : DealingD := l.getD i ⟨[], []⟩
def smF (gr : GroupD) (l : List DealingD) : Nat → DealingD
  | 0 => hdD l
  | j + 1 => suX gr (smF gr l j) (atD l (j + 1))
/-- the sum of dealings -/
def smD (gr : GroupD) (l : List DealingD) : DealingD := smF gr l (l.length - 1)
theorem smL_len (f : Int → Int → Int) (a b : List Int) (k : Nat) : (smL f a b k).length = a.length := by
  induction k with
  | zero => rfl
  | succ k ih => unfold smL; rw [List.length_set, ih]
theorem nth_mem' {l : List Int} {k : Nat} (h : k < l.length) : nth l k ∈ l := by
  have e : nth l k = l[k] := by simp [nth, List.getD, h]
  rw [e]; exact List.getElem_mem h
theorem smL_all {P : Int → Prop} {f : Int → Int → Int} {a b : List Int} (ha : ∀ x ∈ a, P x) (hb : ∀ x ∈ b, P x) (hf : ∀ x y, P x → P y → P (f x y)) (hl : a.length = b.length) : ∀ k, k ≤ b.length → ∀ x ∈ smL f a b k, P x := by
  intro k
  induction k with
  | zero => exact fun _ => ha
  | succ k ih =>
    intro hk x hx
    unfold smL at hx
    have ih' := ih (by omega)
    rcases List.mem_or_eq_of_mem_set hx with h | rfl
    · exact ih' x h
    · exact hf _ _ (ih' _ (nth_mem' (by rw [smL_len]; omega))) (hb _ (nth_mem' (by omega)))
theorem atD_eq {l : List DealingD} {i : Nat} (h : i < l.length) : atD l i = l[i] := by simp [atD, List.getD, h]
theorem addF_exp {gr : GroupD} (hg : OkG gr) (x y : Int) : expB gr (addF gr x y) = true := by
  have hq := hg.q1
  unfold expB addF; rw [decide_eq_true_iff]
  exact ⟨Int.emod_nonneg _ (by omega), by have := Int.emod_lt_of_pos (x + y) (show 0 < gr.q by omega); omega⟩
/-- dealings of one shape -/
structure SameD (gr : GroupD) (f d : DealingD) : Prop where
  lc : d.c.length = f.c.length
  ls : d.s.length = f.s.length
  ec : ∀ x ∈ d.c, elB gr x = true
  es : ∀ x ∈ d.s, expB gr x = true
theorem SameD.sum {gr : GroupD} {f a d : DealingD} (hg : OkG gr) (h1 : SameD gr f a) (h2 : SameD gr f d) : SameD gr f (suX gr a d) := by
  have hq := hg.q1
  refine ⟨?_, ?_, ?_, ?_⟩
  · show (smL _ _ _ _).length = _; rw [smL_len]; exact h1.lc
  · show (smL _ _ _ _).length = _; rw [smL_len]; exact h1.ls
  · exact smL_all (P := fun x => elB gr x = true) h1.ec h2.ec (fun x y hx hy => by show elB gr (mulL gr [x, y]) = true; rw [mulT]; exact elT_mul hg hx hy) (by rw [h1.lc, h2.lc]) _ (Nat.le_refl _)
  · exact smL_all (P := fun x => expB gr x = true) h1.es h2.es (fun x y hx hy => addF_exp hg x y) (by rw [h1.ls, h2.ls]) _ (Nat.le_refl _)
theorem alB_parts {gr : GroupD} {l : List DealingD} (h : alB gr l = true) : (1 ≤ l.length ∧ l.length ≤ 7) ∧ ∀ d ∈ l, deB gr d = true ∧ SameD gr (hdD l) d := by
  unfold alB at h
  rw [Bool.and_eq_true, decide_eq_true_iff] at h
  refine ⟨⟨by omega, by omega⟩, fun d hd => ?_⟩
  have h2 := List.all_eq_true.1 h.2 d hd
  rw [Bool.and_eq_true] at h2
  obtain ⟨h3, h4⟩ := h2
  unfold smB at h4
  simp only [Bool.and_eq_true, decide_eq_true_iff] at h4
  obtain ⟨_, p1, p2⟩ := deB_parts h3
  exact ⟨h3, ⟨h4.1, h4.2, fun x hx => List.all_eq_true.1 p1 x hx, fun x hx => List.all_eq_true.1 p2 x hx⟩⟩
theorem hdD_mem {l : List DealingD} (h : 0 < l.length) : hdD l ∈ l := by rw [hdD_eq h]; exact List.getElem_mem h
theorem smF_same {gr : GroupD} {l : List DealingD} (hg : OkG gr) (h : alB gr l = true) : ∀ j, j < l.length → SameD gr (hdD l) (smF gr l j) := by
  obtain ⟨h1, h2⟩ := alB_parts h
  intro j
  induction j with
  | zero => exact fun _ => (h2 _ (hdD_mem (by omega))).2
  | succ j ih =>
    intro hj
    unfold smF
    rw [atD_eq hj]
    exact (ih (by omega)).sum hg (h2 _ (List.getElem_mem hj)).2
/-- a sum under way in memory: its box and its two rows -/
structure SuS (W u : World) (bz : Nat) (v1 v2 : Value) (L1 L2 : List Int) : Prop where
  bel : Below W.heap.size W u
  box : BoxN u bz 57 [v1, v2]
  o1 : OwnI u W.heap.size v1 L1
  o2 : OwnI u W.heap.size v2 L2
  ne : ∀ k, v1.ownBlock = some k → v2.ownBlock ≠ some k
  lo : W.heap.size ≤ bz
theorem OwnI.apartX {w : World} {B b : Nat} {v : Value} {l : List Int} {t : TypeId} {cs : List Value} (h : OwnI w B v l) (hx : BoxN w b t cs) (ht : t ≠ 3) : ∀ k, v.ownBlock = some k → b ≠ k := by
  rintro k hk rfl
  rcases h.2.2 with h2 | ⟨g, cap, cur, rfl, hg, hr, r⟩
  · rw [h2.1] at hk; cases hk
  · cases hk
    unfold BoxN at hx
    rw [hx] at hr
    injection hr with hr
    injection hr with h1 h2 h3
    exact ht h2
theorem SuS.below {W u u' : World} {bz : Nat} {v1 v2 : Value} {L1 L2 : List Int} (h : SuS W u bz v1 v2 L1 L2) (hb : Below u.heap.size u u') : SuS W u' bz v1 v2 L1 L2 :=
  ⟨Below.next h.bel hb, h.box.below hb, h.o1.below hb, h.o2.below hb, h.ne, h.lo⟩
theorem SuS.store1 {W u : World} {bz r n c : Nat} {v2 : Value} {L1 L2 : List Int} (h : SuS W u bz (.slice (some ⟨r, 0, none⟩) n c) v2 L1 L2) (hn : L1.length = n) (k : Nat) {x : Int} (hx : I64 x) :
    SuS W (u.setCell ⟨r, k, none⟩ (.int .i64 x)) bz (.slice (some ⟨r, 0, none⟩) n c) v2 (L1.set k x) L2 := by
  have hr := h.o1.lt r rfl
  exact ⟨h.bel.setCell (p := ⟨r, k, none⟩) hr.1 _, h.box.other (fun e => h.o1.apartX h.box (by decide) r rfl e.symm) _ _, (h.o1.stored hn k hx).1, h.o2.kept (grownBy_setCell _ r k _) (.inr (h.ne r rfl)), h.ne, h.lo⟩
theorem SuS.store2 {W u : World} {bz r n c : Nat} {v1 : Value} {L1 L2 : List Int} (h : SuS W u bz v1 (.slice (some ⟨r, 0, none⟩) n c) L1 L2) (hn : L2.length = n) (k : Nat) {x : Int} (hx : I64 x) :
    SuS W (u.setCell ⟨r, k, none⟩ (.int .i64 x)) bz v1 (.slice (some ⟨r, 0, none⟩) n c) L1 (L2.set k x) := by
  have hr := h.o2.lt r rfl
  exact ⟨h.bel.setCell (p := ⟨r, k, none⟩) hr.1 _, h.box.other (fun e => h.o2.apartX h.box (by decide) r rfl e.symm) _ _, h.o1.kept (grownBy_setCell _ r k _) (.inr (fun e => h.ne r e rfl)), (h.o2.stored hn k hx).1, h.ne, h.lo⟩
theorem BoxN.outOf {w : World} {b r k : Nat} {t : TypeId} {cs : List Value} {x : Value} (h : BoxN w b t cs) (hne : r ≠ b) : BoxN (w.setCell ⟨r, k, none⟩ x) b t cs := h.other hne k x
theorem RdR.dropD {δ : Type} {R : RowK δ} {w : World} {a : Option Addr} {n c k : Nat} {ds : List δ} (h : RdR R w (.slice a n c) ds) (hk : k ≤ n) : RdR R w (.slice (if c = k then a else a.map (·.add (k * R.width))) (n - k) (c - k)) (ds.drop k) := by
  obtain ⟨a', n', c', e, h1, h2, h3, h5⟩ := h; cases e
  refine ⟨_, n - k, c - k, rfl, by simp; omega, by omega, by omega, ?_⟩
  rcases h5 with ⟨h5, h6, h7⟩ | ⟨ad, h5, h6⟩ | ⟨b, o, h5, hc⟩
  · refine .inl ⟨?_, by omega, by omega⟩
    rw [h5]; split <;> rfl
  · refine .inr (.inl ?_)
    rw [h5]
    split
    · exact ⟨ad, rfl, by omega⟩
    · exact ⟨ad.add (k * R.width), rfl, by omega⟩
  · rw [h5]
    by_cases hck : c = k
    · rw [if_pos hck]; exact .inr (.inl ⟨_, rfl, by omega⟩)
    · rw [if_neg hck]
      refine .inr (.inr ⟨b, o + k * R.width, by simp [Addr.add_lit], fun i hi => ?_⟩)
      have hi' : i < ds.length - k := by simpa using hi
      obtain ⟨vs, hv, hr⟩ := hc (k + i) (by omega)
      refine ⟨vs, fun j hj => ?_, by rw [List.getElem_drop]; exact hr⟩
      rw [← hv j hj, Nat.add_mul]
      congr 2
      omega
theorem sl_dropDl {w : World} {a : Option Addr} {n c : Nat} {ds : List DealingD} (h : RdR rDealing w (.slice a n c) ds) {x : Int} {k : Nat} (hx : x = k) (hk : k ≤ n) :
    ∃ a', (∀ W, (Instr.slice 68 (.slice a n c) (some (.int .i64 x)) none none).run Try.prog W = .ok (.slice a' (n - k) (c - k)) W) ∧ RdR rDealing w (.slice a' (n - k) (c - k)) (ds.drop k) := by
  subst hx
  refine ⟨_, fun W => ?_, h.dropD hk⟩
  have hs : Try.prog.cellsOf 57 = 2 := by kernel_rfl
  have hw : rDealing.width = 2 := rfl
  rw [hw]
  simp [Try.underlying68, go_sem, hk, run_slice_l, run_underlying, hs]
/-- two own rows and a box are a sum's beginning -/
theorem SuS.start {W u : World} {bz : Nat} {v1 v2 : Value} {L1 L2 : List Int} (hb : Below W.heap.size W u) (hx : BoxN u bz 57 [.slice none 0 0, .slice none 0 0]) (h1 : OwnI u W.heap.size v1 L1) (h2 : OwnI u W.heap.size v2 L2) (hne : ∀ k, v1.ownBlock = some k → v2.ownBlock ≠ some k) (hlo : W.heap.size ≤ bz) :
    SuS W ((u.setCell ⟨bz, 0, none⟩ v1).setCell ⟨bz, 1, none⟩ v2) bz v1 v2 L1 L2 := by
  have p1 := hx.set 0 v1
  have a1 : ∀ k, v1.ownBlock = some k → bz ≠ k := h1.apartX hx (by decide)
  have a2 : ∀ k, v2.ownBlock = some k → bz ≠ k := h2.apartX hx (by decide)
  have k1 : ∀ {x : World} {j : Nat} {y : Value}, OwnI x W.heap.size v1 L1 → OwnI (x.setCell ⟨bz, j, none⟩ y) W.heap.size v1 L1 := fun h => h.kept (grownBy_setCell _ bz _ _) (by
    cases e : v1.ownBlock with
    | none => exact .inl rfl
    | some k => exact .inr fun e2 => a1 k e (Option.some.inj e2).symm)
  have k2 : ∀ {x : World} {j : Nat} {y : Value}, OwnI x W.heap.size v2 L2 → OwnI (x.setCell ⟨bz, j, none⟩ y) W.heap.size v2 L2 := fun h => h.kept (grownBy_setCell _ bz _ _) (by
    cases e : v2.ownBlock with
    | none => exact .inl rfl
    | some k => exact .inr fun e2 => a2 k e (Option.some.inj e2).symm)
  exact ⟨(hb.setCell (p := ⟨bz, 0, none⟩) hlo _).setCell (p := ⟨bz, 1, none⟩) hlo _, by simpa using p1.set 1 v2, k1 (k1 h1), k2 (k2 h2), hne, hlo⟩
/-- a dealing in new memory is returned -/
def RetDl (e : Ending) (w : World) (B : Nat) (d : DealingD) : Prop := ∃ x y, e = .returned (.agg #[x, y]) ∧ OwnI w B x d.c ∧ OwnI w B y d.s
set_option maxRecDepth 100000 in
set_option maxHeartbeats 8000000 in
theorem impl_sumOf (gr : GroupD) (v : Value) (l : List DealingD) (w : World) (hg : OkG gr) (h : RdR rDealing w v l) (hal : alB gr l = true) :
    Calls Try.prog 124 #[.agg #[.int .i64 gr.p, .int .i64 gr.q, .int .i64 gr.g], v] w fun e w' => RetDl e w' w.heap.size (smD gr l) ∧ Below w.heap.size w w' := by
  have HG := Lib.hid hg
  have HAL := Lib.hid hal
  have HAP := Lib.hid (alB_parts hal)
  clear hg hal
  obtain ⟨a, n, c, rfl⟩ := h.shape
  have HE := Lib.hid h.len
  obtain ⟨k1', k2'⟩ := h.capMax
  unfold maxLen at k2'
  have H := Lib.hid h
  clear h
  have hn1 : 1 ≤ n := by have := HAP.out.1; have := HE.out; omega
  have hn7 : n ≤ 7 := by have := HAP.out.1; have := HE.out; omega
  have hl0 : 0 < l.length := by rw [HE.out]; omega
  obtain ⟨b, o, a0, n0, c0, a1, n1, c1, e, x0, x1, f0, f1⟩ := RdDl.first H.out hl0
  cases e
  rw [← hdD_eq hl0] at f0 f1
  have HL0 : Hid ((hdD l).c.length = n0) := f0.len
  have HL1 : Hid ((hdD l).s.length = n1) := f1.len
  have HDB := Lib.hid (deB_parts (HAP.out.2 _ (hdD_mem hl0)).1)
  have HLB : Hid ((hdD l).c.length ≤ 7 ∧ (hdD l).s.length ≤ 7) := ⟨by have := HDB.out.1; omega, by have := HDB.out.1; omega⟩
  have HF1' := Lib.hid f0
  have HF2' := Lib.hid f1
  clear f0 f1
  obtain ⟨W, hW⟩ : ∃ W, W = (w.alloc (.cells #[.int .i64 gr.p, .int .i64 gr.q, .int .i64 gr.g] 24)).alloc (.cells #[.slice none 0 0, .slice none 0 0] 57) := ⟨_, rfl⟩
  have HB : Hid (Below w.heap.size w W) := by unfold Hid; rw [hW]; (repeat (first | exact Below.refl _ _ | assumption | refine Below.drew ?_ | refine Below.alloc ?_ (by first | (simp; done) | (simp; omega)) _ | refine Below.setCell ?_ (by first | (simp; done) | (simp; omega)) _))
  have HGX : Hid (BoxN W w.heap.size 24 [.int .i64 gr.p, .int .i64 gr.q, .int .i64 gr.g]) := by unfold Hid; rw [hW]; have h := (BoxN.new w [.int .i64 gr.p, .int .i64 gr.q, .int .i64 gr.g] 24).alloc (.cells #[.slice none 0 0, .slice none 0 0] 57); simpa using h
  have HRX : Hid (BoxN W (w.heap.size + 1) 57 [.slice none 0 0, .slice none 0 0]) := by unfold Hid; rw [hW]; have h := BoxN.new (w.alloc (.cells #[.int .i64 gr.p, .int .i64 gr.q, .int .i64 gr.g] 24)) [.slice none 0 0, .slice none 0 0] 57; simpa using h
  have hwW : w.heap.size + 1 < W.heap.size := HRX.out.lt
  have HF1 := Lib.hid (HF1'.out.below HB.out)
  have HF2 := Lib.hid (HF2'.out.below HB.out)
  clear HF1' HF2'
  go_enter Try.func124, Try.ntmps124
  go_upto_region 1 with fail
  rw [← hW]
  clear hW
  have hk0 : 0 < n := by omega
  have g0 := box_at x0 HB.out
  have g1 := box_at x1 HB.out
  have HSS : Hid (∀ w', Below W.heap.size W w' → w'.cell? ⟨b, o, none⟩ = some (.slice a0 n0 c0) ∧ w'.cell? ⟨b, o + 1, none⟩ = some (.slice a1 n1 c1)) := fun w' h => ⟨box_at g0 h, box_at g1 h⟩
  go_cut [5] from 12 (fun v5 wx => ∃ q1 q2 bz, v5 = .pointer (some ⟨bz, 0, none⟩) ∧ Hid (SuS W wx bz q1 q2 (hdD l).c (hdD l).s))
  case first =>
    (try (go_wp2_with fail))
    refine wp_region_noPanic ?_
    refine wp_region_V (fun w' => w'.cell? ⟨b, o, none⟩ = some (.slice a0 n0 c0) ∧ w'.cell? ⟨b, o + 1, none⟩ = some (.slice a1 n1 c1)) 15 12 (.rd 0 (.rd 1 (.rd 2 (.rd 3 (.rd 5 (.rd 6 (.rd 7 (.rd 8 (.alt 4 (.alt 9 (.rd 10 (.alt 11 .done .nil)) (.alt 11 (.alt 9 (.rd 10 .done) .nil) .nil)) (.alt 11 (.alt 4 (.alt 9 (.rd 10 .done) .nil) .nil) .nil)))))))))) [12] (by kernel_rfl) (by kernel_rfl) rfl (fun _ _ _ _ _ h => h) (HSS.out _ (Below.refl _ _).drew) ?_
    simp only [pickV, pickN, List.getElem?_cons_zero, List.getElem?_cons_succ]
    iterate 8 (refine' wpV_read _ (by kernel_rfl) (fun w' hS' => ?_) ?_; rotate_left; (focus ((try dsimp only at hS'); go_simp; (try with_reducible rfl))); (try simp only [Act.put, List.setIfInBounds_toArray, List.set_cons_zero, List.set_cons_succ]))
    have hbw0 : Below W.heap.size W W.drew := (Below.refl _ _).drew
    obtain ⟨x0', hx0'⟩ : ∃ u, u = W.drew := ⟨_, rfl⟩
    rw [← hx0'] at hbw0 ⊢
    clear hx0' g0 g1
    refine wpV_or (by kernel_rfl) (fun K hK => ?_) ?_
    · skip
      go_simp
      go_at_call 123
      refine (slices_Clone _ (hdD l).c _ (HF1.out.below hbw0) (by have := HLB.out; omega)).mono ?_
      rintro e x1 ⟨q1, rfl, ho1, hb⟩
      obtain ⟨qa1, qc1, rfl⟩ := ho1.shapeN HL0.out
      have hsz1 := hb.size
      have hbw1 : Below W.heap.size W x1 := Below.next hbw0 hb
      have hol := ho1
      replace ho1 := ho1.mono (B' := W.heap.size) (by have := hbw0.size; omega)
      clear hb
      refine hK.out _ _ (HSS.out _ hbw1) (fun _ => ?_)
      clear hK K
      (try simp only [Act.put, List.setIfInBounds_toArray, List.set_cons_zero, List.set_cons_succ])
      refine wpV_or (by kernel_rfl) (fun K hK => ?_) ?_
      · skip
        go_simp
        go_at_call 123
        refine (slices_Clone _ (hdD l).s _ (HF2.out.below hbw1) (by have := HLB.out; omega)).mono ?_
        rintro e x2 ⟨q2, rfl, ho2, hb⟩
        obtain ⟨qa2, qc2, rfl⟩ := ho2.shapeN HL1.out
        have hsz2 := hb.size
        have hbw2 : Below W.heap.size W x2 := Below.next hbw1 hb
        have hlt := hol.lt
        have ho1 := ho1.below hb
        have hol := hol.below hb
        have hne : ∀ z, (Value.slice qa1 n0 qc1).ownBlock = some z → (Value.slice qa2 n1 qc2).ownBlock ≠ some z := fun z e1 e2 => by have h1 := (hlt z e1).2; have h2 := (ho2.lt z e2).1; omega
        have hol := ho2
        replace ho2 := ho2.mono (B' := W.heap.size) (by have := hbw1.size; omega)
        clear hb
        refine hK.out _ _ (HSS.out _ hbw2) (fun _ => ?_)
        clear hK K
        (try simp only [Act.put, List.setIfInBounds_toArray, List.set_cons_zero, List.set_cons_succ])
        refine' wpV_read _ (by kernel_rfl) (fun w' hS' => ?_) ?_; rotate_left; (focus ((try dsimp only at hS'); go_simp; (try with_reducible rfl))); (try simp only [Act.put, List.setIfInBounds_toArray, List.set_cons_zero, List.set_cons_succ])
        refine wpV_do (by kernel_rfl) (fun K hK => ?_)
        obtain ⟨x3, hV⟩ : ∃ V, V = x2.alloc (.cells #[.slice none 0 0, .slice none 0 0] 57) := ⟨_, rfl⟩
        have hb : Below x2.heap.size x2 x3 := by rw [hV]; exact (Below.refl _ _).alloc (Nat.le_refl _) _
        have hbx : BoxN x3 x2.heap.size 57 [.slice none 0 0, .slice none 0 0] := by rw [hV]; exact BoxN.new x2 _ _
        have hbw3 : Below W.heap.size W x3 := Below.next hbw2 hb
        have hsz3 := hb.size
        have ho1 := ho1.below hb
        have hol := hol.below hb
        have ho2 := ho2.below hb
        go_simp
        rw [← hV]
        clear hV hb
        refine hK.out _ _ (HSS.out _ hbw3) (fun _ => ?_)
        clear hK K
        (try simp only [Act.put, List.setIfInBounds_toArray, List.set_cons_zero, List.set_cons_succ])
        refine wpV_done ?_
        have r0 := hbx.cell (i := 0) rfl
        have r1 := hbx.cell (i := 1) rfl
        have fr := fun j => hbx.frozen j
        go_wp2_with fail
        refine NoPanic.normal ?_
        (try (go_wp2_with fail))
        go_meet
        exact ⟨_, _, x2.heap.size, rfl, Lib.hid (SuS.start hbw3 hbx ho1 ho2 hne (by have := hbw2.size; omega))⟩
      refine wpV_do (by kernel_rfl) (fun K hK => ?_)
      obtain ⟨x2, hV⟩ : ∃ V, V = x1.alloc (.cells #[.slice none 0 0, .slice none 0 0] 57) := ⟨_, rfl⟩
      have hb : Below x1.heap.size x1 x2 := by rw [hV]; exact (Below.refl _ _).alloc (Nat.le_refl _) _
      have hbx : BoxN x2 x1.heap.size 57 [.slice none 0 0, .slice none 0 0] := by rw [hV]; exact BoxN.new x1 _ _
      have hbw2 : Below W.heap.size W x2 := Below.next hbw1 hb
      have hsz2 := hb.size
      have ho1 := ho1.below hb
      have hol := hol.below hb
      go_simp
      rw [← hV]
      clear hV hb
      refine hK.out _ _ (HSS.out _ hbw2) (fun _ => ?_)
      clear hK K
      (try simp only [Act.put, List.setIfInBounds_toArray, List.set_cons_zero, List.set_cons_succ])
      refine wpV_do (by kernel_rfl) (fun K hK => ?_)
      go_simp
      go_at_call 123
      refine (slices_Clone _ (hdD l).s _ (HF2.out.below hbw2) (by have := HLB.out; omega)).mono ?_
      rintro e x3 ⟨q2, rfl, ho2, hb⟩
      obtain ⟨qa2, qc2, rfl⟩ := ho2.shapeN HL1.out
      have hsz3 := hb.size
      have hbw3 : Below W.heap.size W x3 := Below.next hbw2 hb
      have hlt := hol.lt
      have ho1 := ho1.below hb
      have hol := hol.below hb
      have hbx := hbx.below hb
      have hne : ∀ z, (Value.slice qa1 n0 qc1).ownBlock = some z → (Value.slice qa2 n1 qc2).ownBlock ≠ some z := fun z e1 e2 => by have h1 := (hlt z e1).2; have h2 := (ho2.lt z e2).1; omega
      have hol := ho2
      replace ho2 := ho2.mono (B' := W.heap.size) (by have := hbw2.size; omega)
      clear hb
      refine hK.out _ _ (HSS.out _ hbw3) (fun _ => ?_)
      clear hK K
      (try simp only [Act.put, List.setIfInBounds_toArray, List.set_cons_zero, List.set_cons_succ])
      refine' wpV_read _ (by kernel_rfl) (fun w' hS' => ?_) ?_; rotate_left; (focus ((try dsimp only at hS'); go_simp; (try with_reducible rfl))); (try simp only [Act.put, List.setIfInBounds_toArray, List.set_cons_zero, List.set_cons_succ])
      refine wpV_done ?_
      have r0 := hbx.cell (i := 0) rfl
      have r1 := hbx.cell (i := 1) rfl
      have fr := fun j => hbx.frozen j
      go_wp2_with fail
      refine NoPanic.normal ?_
      (try (go_wp2_with fail))
      go_meet
      exact ⟨_, _, x1.heap.size, rfl, Lib.hid (SuS.start hbw3 hbx ho1 ho2 hne (by have := hbw1.size; omega))⟩
    refine wpV_do (by kernel_rfl) (fun K hK => ?_)
    obtain ⟨x1, hV⟩ : ∃ V, V = x0'.alloc (.cells #[.slice none 0 0, .slice none 0 0] 57) := ⟨_, rfl⟩
    have hb : Below x0'.heap.size x0' x1 := by rw [hV]; exact (Below.refl _ _).alloc (Nat.le_refl _) _
    have hbx : BoxN x1 x0'.heap.size 57 [.slice none 0 0, .slice none 0 0] := by rw [hV]; exact BoxN.new x0' _ _
    have hbw1 : Below W.heap.size W x1 := Below.next hbw0 hb
    have hsz1 := hb.size
    go_simp
    rw [← hV]
    clear hV hb
    refine hK.out _ _ (HSS.out _ hbw1) (fun _ => ?_)
    clear hK K
    (try simp only [Act.put, List.setIfInBounds_toArray, List.set_cons_zero, List.set_cons_succ])
    refine wpV_do (by kernel_rfl) (fun K hK => ?_)
    go_simp
    go_at_call 123
    refine (slices_Clone _ (hdD l).c _ (HF1.out.below hbw1) (by have := HLB.out; omega)).mono ?_
    rintro e x2 ⟨q1, rfl, ho1, hb⟩
    obtain ⟨qa1, qc1, rfl⟩ := ho1.shapeN HL0.out
    have hsz2 := hb.size
    have hbw2 : Below W.heap.size W x2 := Below.next hbw1 hb
    have hbx := hbx.below hb
    have hol := ho1
    replace ho1 := ho1.mono (B' := W.heap.size) (by have := hbw1.size; omega)
    clear hb
    refine hK.out _ _ (HSS.out _ hbw2) (fun _ => ?_)
    clear hK K
    (try simp only [Act.put, List.setIfInBounds_toArray, List.set_cons_zero, List.set_cons_succ])
    refine wpV_do (by kernel_rfl) (fun K hK => ?_)
    go_simp
    go_at_call 123
    refine (slices_Clone _ (hdD l).s _ (HF2.out.below hbw2) (by have := HLB.out; omega)).mono ?_
    rintro e x3 ⟨q2, rfl, ho2, hb⟩
    obtain ⟨qa2, qc2, rfl⟩ := ho2.shapeN HL1.out
    have hsz3 := hb.size
    have hbw3 : Below W.heap.size W x3 := Below.next hbw2 hb
    have hlt := hol.lt
    have hbx := hbx.below hb
    have ho1 := ho1.below hb
    have hol := hol.below hb
    have hne : ∀ z, (Value.slice qa1 n0 qc1).ownBlock = some z → (Value.slice qa2 n1 qc2).ownBlock ≠ some z := fun z e1 e2 => by have h1 := (hlt z e1).2; have h2 := (ho2.lt z e2).1; omega
    have hol := ho2
    replace ho2 := ho2.mono (B' := W.heap.size) (by have := hbw2.size; omega)
    clear hb
    refine hK.out _ _ (HSS.out _ hbw3) (fun _ => ?_)
    clear hK K
    (try simp only [Act.put, List.setIfInBounds_toArray, List.set_cons_zero, List.set_cons_succ])
    refine' wpV_read _ (by kernel_rfl) (fun w' hS' => ?_) ?_; rotate_left; (focus ((try dsimp only at hS'); go_simp; (try with_reducible rfl))); (try simp only [Act.put, List.setIfInBounds_toArray, List.set_cons_zero, List.set_cons_succ])
    refine wpV_done ?_
    have r0 := hbx.cell (i := 0) rfl
    have r1 := hbx.cell (i := 1) rfl
    have fr := fun j => hbx.frozen j
    go_wp2_with fail
    refine NoPanic.normal ?_
    (try (go_wp2_with fail))
    go_meet
    exact ⟨_, _, x0'.heap.size, rfl, Lib.hid (SuS.start hbw3 hbx ho1 ho2 hne (by have := hbw0.size; omega))⟩
  case rest =>
    obtain ⟨V1, V2, bz, rfl, HS⟩ := hcut
    clear g0 g1 HSS x0 x1
    obtain ⟨ra, hdrop, hrd⟩ := sl_dropDl H.out (x := 1) (k := 1) rfl hn1
    have HR1 := Lib.hid hrd
    clear hrd
    have hq7 : n - 1 ≤ 6 := by omega
    have HNN : Hid (n - 1 + 1 = n) := by unfold Hid; omega
    go_wp2_with fail
    clear hdrop
    go_loopg [26] (n - 1) (fun gk iv wr => ∃ j : Nat, j + gk = n - 1 ∧ iv = .int .i64 (j : Int) ∧ Hid (SuS W wr bz V1 V2 (smF gr l j).c (smF gr l j).s))
    case atStart => exact ⟨0, by omega, rfl, HS⟩
    case round =>
      clear HS
      obtain ⟨wo, rfl⟩ : ∃ u, u = wr := ⟨_, rfl⟩
      obtain ⟨go', rfl⟩ : ∃ u, u = gk := ⟨_, rfl⟩
      obtain ⟨j, hjg, rfl, HS⟩ := hrel
      have HJG := Lib.hid hjg
      have hjl : j < n - 1 → n - 1 - (j + 1) < go' := by omega
      clear hjg
      by_cases hlj : j < n - 1
      · have hwj : IntKind.i64.wrap ((j : Int) + 1) = (j : Int) + 1 := IntWalk.i64_in _ (by omega)
        have HK : Hid (j < (l.drop 1).length) := by unfold Hid; rw [List.length_drop, HE.out]; exact hlj
        have HKL : Hid (j + 1 < l.length) := by unfold Hid; rw [HE.out]; omega
        have HAS := Lib.hid (smF_same HG.out HAL.out j (by have := HKL.out; omega))
        have HDS := Lib.hid (HAP.out.2 _ (List.getElem_mem HK.out |> List.mem_of_mem_drop)).2
        have HNX : Hid (smF gr l (j + 1) = suX gr (smF gr l j) ((l.drop 1)[j]'HK.out)) := by unfold Hid; show suX gr (smF gr l j) (atD l (j + 1)) = _; rw [atD_eq HKL.out]; simp [Nat.add_comm]
        obtain ⟨b2, o2, p0, m0, k0, p1, m1, k1, e, y0, y1, f0, f1⟩ := RdDl.get HR1.out HK.out
        subst e
        obtain ⟨A, hA⟩ : ∃ A, smF gr l j = A := ⟨_, rfl⟩
        rw [hA] at HAS HNX HS
        clear hA
        generalize (l.drop 1)[j]'HK.out = d at f0 f1 HDS HNX
        have HM1 : Hid (d.c.length = m0) := f0.len
        have HM2 : Hid (d.s.length = m1) := f1.len
        have HD1 := Lib.hid f0
        have HD2 := Lib.hid f1
        have HA1 : Hid (A.c.length = n0) := by unfold Hid; rw [HAS.out.lc]; exact HL0.out
        have HA2 : Hid (A.s.length = n1) := by unfold Hid; rw [HAS.out.ls]; exact HL1.out
        have HMN : Hid ((m0 = n0 ∧ m1 = n1) ∧ n0 ≤ 7 ∧ n1 ≤ 7) := ⟨⟨by have := HM1.out; have := HDS.out.lc; have := HL0.out; omega, by have := HM2.out; have := HDS.out.ls; have := HL1.out; omega⟩, by have := HL0.out; have := HLB.out; omega, by have := HL1.out; have := HLB.out; omega⟩
        have y0 := box_at (box_at y0 HB.out) HS.out.bel
        have y1 := box_at (box_at y1 HB.out) HS.out.bel
        clear f0 f1
        obtain ⟨V, hV⟩ : ∃ V, V = wo.alloc (.cells #[.slice p0 m0 k0, .slice p1 m1 k1] 57) := ⟨_, rfl⟩
        have hbV : Below wo.heap.size wo V := by rw [hV]; exact (Below.refl _ _).alloc (Nat.le_refl _) _
        have HZ : Hid (BoxN V wo.heap.size 57 [.slice p0 m0 k0, .slice p1 m1 k1]) := by unfold Hid; rw [hV]; exact BoxN.new wo _ _
        replace HS := Lib.hid (HS.out.below hbV)
        have kk0 : (0 : Int) ≤ (j : Int) := by omega
        have kk1 : (j : Int) < ((n - 1 : Nat) : Int) := by omega
        have hly := World.block_lt_of_cell? wo _ y0
        have d0 := HZ.out.cell (i := 0) rfl
        have d1 := HZ.out.cell (i := 1) rfl
        obtain ⟨zb, hzb⟩ : ∃ z, z = wo.heap.size := ⟨_, rfl⟩
        go_upto_region 5 with fail
        rw [← hV]
        rw [← hzb] at HZ d0 d1 ⊢
        clear hV y0 y1 kk0 kk1 hzb hbV hly
        go_wp2_with fail
        clear d0 d1
        go_loopg [33] m0 (fun gi iv wi => ∃ i : Nat, i + gi = m0 ∧ iv = .int .i64 (i : Int) ∧ Hid (SuS W wi bz V1 V2 (smL (mulF gr) A.c d.c i) A.s) ∧ Hid (BoxN wi zb 57 [.slice p0 m0 k0, .slice p1 m1 k1]))
        case atStart => exact ⟨0, by omega, rfl, HS, HZ⟩
        case round =>
          clear HS HZ
          obtain ⟨wi, rfl⟩ : ∃ u, u = wr := ⟨_, rfl⟩
          obtain ⟨gi, rfl⟩ : ∃ u, u = gk := ⟨_, rfl⟩
          obtain ⟨i, hig, rfl, HS, HZ⟩ := hrel
          have HIG := Lib.hid hig
          have hil : i < m0 → m0 - (i + 1) < gi := by omega
          clear hig
          by_cases hli : i < m0
          · have hwi : IntKind.i64.wrap ((i : Int) + 1) = (i : Int) + 1 := IntWalk.i64_in _ (by have := HMN.out; omega)
            have HLL : Hid ((smL (mulF gr) A.c d.c i).length = n0) := by unfold Hid; rw [smL_len]; exact HA1.out
            obtain ⟨rr, cc, hv1⟩ : ∃ rr cc, V1 = .slice (some ⟨rr, 0, none⟩) n0 cc := by
              obtain ⟨a, c, e⟩ := HS.out.o1.shape
              obtain ⟨g, rfl, _⟩ := (e ▸ HS.out.o1 : OwnI wi W.heap.size (.slice a _ c) _).at_ (by have := HLL.out; have := HMN.out; omega)
              rw [HLL.out] at e
              exact ⟨g, c, e⟩
            subst hv1
            obtain ⟨_, e, _, hle, hrx⟩ := HS.out.o1.at_ (by have := HLL.out; have := HMN.out; omega)
            cases e
            obtain ⟨yy, ff⟩ := hrx i (by have := HMN.out; omega)
            clear hrx hle
            obtain ⟨tb, tto, e, hcx⟩ := HD1.out.at_ (by have := HM1.out; omega)
            cases e
            have xx := box_at (box_at (hcx i hli) HB.out) HS.out.bel
            clear hcx
            have HSM : Hid ((fun z => elB gr z = true) (nth (smL (mulF gr) A.c d.c i) i) ∧ (fun z => elB gr z = true) (nth d.c i)) := ⟨smL_all (P := fun x => elB gr x = true) HAS.out.ec HDS.out.ec (fun x y hx hy => by show elB gr (mulL gr [x, y]) = true; rw [mulT]; exact elT_mul HG.out hx hy) (by rw [HAS.out.lc, HDS.out.lc]) _ (by have := HM1.out; omega) _ (nth_mem' (by rw [HLL.out]; have := HMN.out; omega)), HDS.out.ec _ (nth_mem' (by have := HM1.out; omega))⟩
            obtain ⟨y, hy⟩ : ∃ y, nth (smL (mulF gr) A.c d.c i) i = y := ⟨_, rfl⟩
            obtain ⟨x, hx⟩ : ∃ x, nth d.c i = x := ⟨_, rfl⟩
            rw [hy] at yy HSM
            rw [hx] at xx HSM
            have HN1 : Hid ((smL (mulF gr) A.c d.c (i + 1)) = (smL (mulF gr) A.c d.c i).set i (mulF gr y x)) := by unfold Hid; rw [← hy, ← hx]; rfl
            clear hy hx
            have HYS : Hid (Small y) := elB_small HG.out HSM.out.1
            have HXS : Hid (Small x) := elB_small HG.out HSM.out.2
            have HZI : Hid (I64 (mulF gr y x)) := small_64 (mulL_small HG.out _)
            have ki0 : (0 : Int) ≤ (i : Int) := by omega
            have ki1 : (i : Int) < (m0 : Int) := by omega
            have ki2 : (i : Int) < (n0 : Int) := by have := HMN.out; omega
            have c0_0 := (HGX.out.below HS.out.bel).cell (i := 0) rfl
            have c0_1 := (HGX.out.below HS.out.bel).cell (i := 1) rfl
            have c0_2 := (HGX.out.below HS.out.bel).cell (i := 2) rfl
            have z0 := HS.out.box.cell (i := 0) rfl
            have z1 := HS.out.box.cell (i := 1) rfl
            have hc : Below wi.heap.size wi wi := Below.refl _ _
            go_wp2_with fail
            clear xx
            try (go_wp2_with fail)
            refine wp_region_noPanic ?_
            refine wp_region_P (fun w' => w'.cell? ⟨w.heap.size, 0, none⟩ = some (.int .i64 gr.p) ∧ w'.cell? ⟨w.heap.size, 1, none⟩ = some (.int .i64 gr.q) ∧ w'.cell? ⟨w.heap.size, 2, none⟩ = some (.int .i64 gr.g) ∧ w'.cell? ⟨bz, 0, none⟩ = some (.slice (some ⟨rr, 0, none⟩) n0 cc) ∧ w'.cell? ⟨bz, 1, none⟩ = some (V2) ∧ w'.cell? ⟨rr, i, none⟩ = some (.int .i64 y)) 16 [(0, []), (1, [0]), (2, []), (3, []), (4, []), (5, [0]), (6, []), (7, [1, 0]), (8, [0]), (9, []), (10, [1, 0]), (11, [7, 0]), (12, [10, 9])] [13] (by kernel_rfl) (by kernel_rfl) (by kernel_rfl) rfl (fun _ _ _ _ h => h) (fun w' h => ⟨box_at c0_0 h, box_at c0_1 h, box_at c0_2 h, box_at z0 h, box_at z1 h, box_at yy h⟩) ?_
            simp only [pickP, pickN, List.getElem?_cons_zero, List.getElem?_cons_succ]
            iterate 10 (refine' chainP_read _ rfl rfl (fun w' hS' => ?_) ?_; rotate_left; · (simp only [lookP, allP, Act.put, List.getElem?_cons_zero, List.getElem?_cons_succ, List.setIfInBounds_toArray, List.set_cons_zero, List.set_cons_succ]; (try dsimp only at hS'); go_simp; (try with_reducible rfl)))
            -- 10: buildSlice 43 2 #[(0, t46), (1, t47)]
            refine chainP_do (d := (some 48)) (fun v w => Ints w v [y, x]) (fun v w w' hb h => Ints.below h hb) rfl rfl (fun w' hS' => ?_) ?_
            · simp only [lookP, allP, Act.put, List.getElem?_cons_zero, List.getElem?_cons_succ, List.setIfInBounds_toArray, List.set_cons_zero, List.set_cons_succ]
              intro K hK
              go_simp
              refine hK.out _ _ ((Below.refl _ _).alloc (Nat.le_refl _) _) ?_
              exact (OwnI.lit (B := w'.heap.size) w' (Nat.le_refl _) (l := [y, x]) (AllI64.cons (small_64 HYS.out) (AllI64.cons (small_64 HXS.out) AllI64.nil)) rfl (by simp [maxLen]) 2 rfl).ints
            -- 11: call { callee := value (func 155), args := #[t41, t48], argTypes := #[24, 43] }
            refine chainP_call (d := (some 49)) (.int .i64 (mulL gr [y, x])) rfl rfl (fun w' hS' => ?_) ?_
            · simp only [lookP, allP, Act.put, List.getElem?_cons_zero, List.getElem?_cons_succ, List.setIfInBounds_toArray, List.set_cons_zero, List.set_cons_succ]
              intro x10 hx10
              intro K hK
              go_simp
              go_at_call 90
              refine (impl_mul gr _ [y, x] _ HG.out hx10 (AllSmall.cons HYS.out (AllSmall.cons HXS.out AllSmall.nil))).mono ?_
              rintro e u ⟨rfl, hq⟩
              exact hK.out _ hq
            -- 12: indexAddr 43 t39 t40
            refine' chainP_read (d := (some 50)) _ rfl rfl (fun w' hS' => ?_) ?_; rotate_left
            · simp only [lookP, allP, Act.put, List.getElem?_cons_zero, List.getElem?_cons_succ, List.setIfInBounds_toArray, List.set_cons_zero, List.set_cons_succ]
              (try dsimp only at hS')
              go_simp
              (try with_reducible rfl)
            refine chainP_nil (fun ua hS' => ?_)
            simp only [allP, Act.put, List.setIfInBounds_toArray, List.set_cons_zero, List.set_cons_succ]
            intro x10 hx10
            have hq1 := hS'.1
            clear hS'
            replace hc := Below.next hc hq1
            replace c0_0 := box_at c0_0 hq1
            replace c0_1 := box_at c0_1 hq1
            replace c0_2 := box_at c0_2 hq1
            replace z0 := box_at z0 hq1
            replace z1 := box_at z1 hq1
            replace yy := box_at yy hq1
            clear hq1
            replace HS := Lib.hid (HS.out.below hc)
            replace HZ := Lib.hid (HZ.out.below hc)
            clear hc c0_0 c0_1 c0_2 z0 z1 yy ff
            obtain ⟨_, e, _, hle, hrx⟩ := HS.out.o1.at_ (by have := HLL.out; have := HMN.out; omega)
            cases e
            obtain ⟨yy, ff⟩ := hrx i (by have := HMN.out; omega)
            have hrz : rr ≠ zb := fun e => HS.out.o1.apartX HZ.out (by decide) rr rfl e.symm
            clear hrx hle
            go_wp2_with fail
            refine NoPanic.normal ?_
            (try (go_wp2_with fail))
            clear yy ff
            go_roundg (m0 - (i + 1))
            case measure => exact hil hli
            case rel => exact ⟨i + 1, by have := HIG.out; omega, by go_num, by unfold Hid; rw [HN1.out]; exact HS.out.store1 HLL.out i HZI.out, Lib.hid (HZ.out.outOf hrz)⟩
          · obtain rfl : m0 = i := by have := HIG.out; omega
            have d0 := HZ.out.cell (i := 0) rfl
            have d1 := HZ.out.cell (i := 1) rfl
            replace HS : Hid (SuS W wi bz V1 V2 (smL (mulF gr) A.c d.c d.c.length) A.s) := by unfold Hid; rw [HM1.out]; exact HS.out
            go_wp2_with fail
            clear d0 d1
            go_loopg [55] m1 (fun gi iv wi => ∃ i : Nat, i + gi = m1 ∧ iv = .int .i64 (i : Int) ∧ Hid (SuS W wi bz V1 V2 (smL (mulF gr) A.c d.c d.c.length) (smL (addF gr) A.s d.s i)) ∧ Hid (BoxN wi zb 57 [.slice p0 m0 k0, .slice p1 m1 k1]))
            case atStart => exact ⟨0, by omega, rfl, HS, HZ⟩
            case round =>
              clear HS HZ
              obtain ⟨wi, rfl⟩ : ∃ u, u = wr := ⟨_, rfl⟩
              obtain ⟨gi, rfl⟩ : ∃ u, u = gk := ⟨_, rfl⟩
              obtain ⟨i, hig, rfl, HS, HZ⟩ := hrel
              have HIG := Lib.hid hig
              have hil : i < m1 → m1 - (i + 1) < gi := by omega
              clear hig
              by_cases hli : i < m1
              · have hwi : IntKind.i64.wrap ((i : Int) + 1) = (i : Int) + 1 := IntWalk.i64_in _ (by have := HMN.out; omega)
                have HLL : Hid ((smL (addF gr) A.s d.s i).length = n1) := by unfold Hid; rw [smL_len]; exact HA2.out
                obtain ⟨rr, cc, hv2⟩ : ∃ rr cc, V2 = .slice (some ⟨rr, 0, none⟩) n1 cc := by
                  obtain ⟨a, c, e⟩ := HS.out.o2.shape
                  obtain ⟨g, rfl, _⟩ := (e ▸ HS.out.o2 : OwnI wi W.heap.size (.slice a _ c) _).at_ (by have := HLL.out; have := HMN.out; omega)
                  rw [HLL.out] at e
                  exact ⟨g, c, e⟩
                subst hv2
                obtain ⟨_, e, _, hle, hrx⟩ := HS.out.o2.at_ (by have := HLL.out; have := HMN.out; omega)
                cases e
                obtain ⟨yy, ff⟩ := hrx i (by have := HMN.out; omega)
                clear hrx hle
                obtain ⟨tb, tto, e, hcx⟩ := HD2.out.at_ (by have := HM2.out; omega)
                cases e
                have xx := box_at (box_at (hcx i hli) HB.out) HS.out.bel
                clear hcx
                have HSM : Hid ((fun z => expB gr z = true) (nth (smL (addF gr) A.s d.s i) i) ∧ (fun z => expB gr z = true) (nth d.s i)) := ⟨smL_all (P := fun x => expB gr x = true) HAS.out.es HDS.out.es (fun x y _ _ => addF_exp HG.out x y) (by rw [HAS.out.ls, HDS.out.ls]) _ (by have := HM2.out; omega) _ (nth_mem' (by rw [HLL.out]; have := HMN.out; omega)), HDS.out.es _ (nth_mem' (by have := HM2.out; omega))⟩
                obtain ⟨y, hy⟩ : ∃ y, nth (smL (addF gr) A.s d.s i) i = y := ⟨_, rfl⟩
                obtain ⟨x, hx⟩ : ∃ x, nth d.s i = x := ⟨_, rfl⟩
                rw [hy] at yy HSM
                rw [hx] at xx HSM
                have HN1 : Hid ((smL (addF gr) A.s d.s (i + 1)) = (smL (addF gr) A.s d.s i).set i (addF gr y x)) := by unfold Hid; rw [← hy, ← hx]; rfl
                clear hy hx
                obtain ⟨y1, y2⟩ := expB_bd HSM.out.1
                obtain ⟨x1', x2'⟩ := expB_bd HSM.out.2
                have zq1 := HG.out.q1
                have zq2 := HG.out.q2
                have zp2 := HG.out.p2
                have ewy : IntKind.i64.wrap (y + x) = y + x := IntWalk.i64_in _ (by omega)
                have HYX : Hid (I64 (y + x)) := ⟨by omega, by omega⟩
                have hz1 : 0 ≤ (y + x) % gr.q := Int.emod_nonneg _ (by omega)
                have hz2 : (y + x) % gr.q < gr.q := Int.emod_lt_of_pos _ (by omega)
                have etm : Int.tmod (y + x) gr.q = (y + x) % gr.q := Int.tmod_eq_emod_of_nonneg (by omega)
                obtain ⟨Z, hZ⟩ : ∃ z, (y + x) % gr.q = z := ⟨_, rfl⟩
                rw [hZ] at hz1 hz2 etm
                have HZZ := Lib.hid hZ
                have ewz : IntKind.i64.wrap Z = Z := IntWalk.i64_in _ (by omega)
                have HZI : Hid (I64 Z) := ⟨by omega, by omega⟩
                have HN2 : Hid (addF gr y x = Z) := hZ
                have hqz : ¬ gr.q = 0 := by omega
                have hqz2 : (gr.q == 0) = false := by rw [beq_eq_false_iff_ne]; omega
                clear hZ
                have ki0 : (0 : Int) ≤ (i : Int) := by omega
                have ki1 : (i : Int) < (m1 : Int) := by omega
                have ki2 : (i : Int) < (n1 : Int) := by have := HMN.out; omega
                have c0_0 := (HGX.out.below HS.out.bel).cell (i := 0) rfl
                have c0_1 := (HGX.out.below HS.out.bel).cell (i := 1) rfl
                have c0_2 := (HGX.out.below HS.out.bel).cell (i := 2) rfl
                have z0 := HS.out.box.cell (i := 0) rfl
                have z1 := HS.out.box.cell (i := 1) rfl
                have hc : Below wi.heap.size wi wi := Below.refl _ _
                go_wp2_with fail
                clear xx
                try (go_wp2_with fail)
                refine wp_region_noPanic ?_
                refine wp_region_P (fun w' => w'.cell? ⟨w.heap.size, 0, none⟩ = some (.int .i64 gr.p) ∧ w'.cell? ⟨w.heap.size, 1, none⟩ = some (.int .i64 gr.q) ∧ w'.cell? ⟨w.heap.size, 2, none⟩ = some (.int .i64 gr.g) ∧ w'.cell? ⟨bz, 0, none⟩ = some (V1) ∧ w'.cell? ⟨bz, 1, none⟩ = some (.slice (some ⟨rr, 0, none⟩) n1 cc) ∧ w'.cell? ⟨rr, i, none⟩ = some (.int .i64 y)) 16 [(0, []), (1, [0]), (2, []), (3, []), (4, []), (5, [0]), (6, []), (7, [1, 0]), (8, [0]), (9, []), (10, [1, 0]), (11, [7, 0]), (12, [10, 9])] [13] (by kernel_rfl) (by kernel_rfl) (by kernel_rfl) rfl (fun _ _ _ _ h => h) (fun w' h => ⟨box_at c0_0 h, box_at c0_1 h, box_at c0_2 h, box_at z0 h, box_at z1 h, box_at yy h⟩) ?_
                simp only [pickP, pickN, List.getElem?_cons_zero, List.getElem?_cons_succ]
                iterate 11 (refine' chainP_read _ rfl rfl (fun w' hS' => ?_) ?_; rotate_left; · (simp only [lookP, allP, Act.put, List.getElem?_cons_zero, List.getElem?_cons_succ, List.setIfInBounds_toArray, List.set_cons_zero, List.set_cons_succ]; (try dsimp only at hS'); go_simp; (try with_reducible rfl)))
                -- 11: call { callee := value (func 75), args := #[t63, t70], argTypes := #[24, 3] }
                refine chainP_call (d := (some 71)) (.int .i64 Z) rfl rfl (fun w' hS' => ?_) ?_
                · simp only [lookP, allP, Act.put, List.getElem?_cons_zero, List.getElem?_cons_succ, List.setIfInBounds_toArray, List.set_cons_zero, List.set_cons_succ]
                  intro K hK
                  go_simp
                  go_at_call 52
                  refine (impl_exp gr (y + x) _ HG.out HYX.out).mono ?_
                  rintro e u ⟨rfl, hq⟩
                  rw [HZZ.out]
                  exact hK.out _ hq
                -- 12: indexAddr 43 t61 t62
                refine' chainP_read (d := (some 72)) _ rfl rfl (fun w' hS' => ?_) ?_; rotate_left
                · simp only [lookP, allP, Act.put, List.getElem?_cons_zero, List.getElem?_cons_succ, List.setIfInBounds_toArray, List.set_cons_zero, List.set_cons_succ]
                  (try dsimp only at hS')
                  go_simp
                  (try with_reducible rfl)
                refine chainP_nil (fun ua hS' => ?_)
                simp only [allP, Act.put, List.setIfInBounds_toArray, List.set_cons_zero, List.set_cons_succ]
                have hq1 := hS'.1
                clear hS'
                replace hc := Below.next hc hq1
                replace c0_0 := box_at c0_0 hq1
                replace c0_1 := box_at c0_1 hq1
                replace c0_2 := box_at c0_2 hq1
                replace z0 := box_at z0 hq1
                replace z1 := box_at z1 hq1
                replace yy := box_at yy hq1
                clear hq1
                replace HS := Lib.hid (HS.out.below hc)
                replace HZ := Lib.hid (HZ.out.below hc)
                clear hc c0_0 c0_1 c0_2 z0 z1 yy ff
                obtain ⟨_, e, _, hle, hrx⟩ := HS.out.o2.at_ (by have := HLL.out; have := HMN.out; omega)
                cases e
                obtain ⟨yy, ff⟩ := hrx i (by have := HMN.out; omega)
                have hrz : rr ≠ zb := fun e => HS.out.o2.apartX HZ.out (by decide) rr rfl e.symm
                clear hrx hle
                go_wp2_with fail
                refine NoPanic.normal ?_
                (try (go_wp2_with fail))
                clear yy ff
                go_roundg (m1 - (i + 1))
                case measure => exact hil hli
                case rel => exact ⟨i + 1, by have := HIG.out; omega, by go_num, by unfold Hid; rw [HN1.out, HN2.out]; exact HS.out.store2 HLL.out i HZI.out, Lib.hid (HZ.out.outOf hrz)⟩
              · obtain rfl : m1 = i := by have := HIG.out; omega
                replace HS : Hid (SuS W wi bz V1 V2 (smF gr l (j + 1)).c (smF gr l (j + 1)).s) := by unfold Hid; rw [HNX.out]; unfold suX; rw [HM2.out]; exact HS.out
                go_wp2_with fail
                go_roundg (n - 1 - (j + 1))
                case measure => exact hjl hlj
                case rel => exact ⟨j + 1, by have := HJG.out; omega, by go_num, HS⟩
      · obtain rfl : j = n - 1 := by have := HJG.out; omega
        have HV : Hid (smD gr l = smF gr l (n - 1)) := by unfold Hid smD; rw [HE.out]
        obtain ⟨va1, vc1, e1⟩ := HS.out.o1.shape
        obtain ⟨va2, vc2, e2⟩ := HS.out.o2.shape
        obtain ⟨ln1, hln1⟩ : ∃ z, (smF gr l (n - 1)).c.length = z := ⟨_, rfl⟩
        obtain ⟨ln2, hln2⟩ : ∃ z, (smF gr l (n - 1)).s.length = z := ⟨_, rfl⟩
        rw [hln1] at e1
        rw [hln2] at e2
        subst e1
        subst e2
        clear hln1 hln2
        have z0 := HS.out.box.cell (i := 0) rfl
        have z1 := HS.out.box.cell (i := 1) rfl
        have HR := Lib.hid (HRX.out.below HS.out.bel)
        have r0 := HR.out.cell (i := 0) rfl
        have r1 := HR.out.cell (i := 1) rfl
        have fr := fun j => HR.out.frozen j
        go_wp2_with fail
        have HRF := Lib.hid ((HR.out.set 0 (.slice va1 ln1 vc1)).set 1 (.slice va2 ln2 vc2))
        have t0 := HRF.out.cell (i := 0) rfl
        have t1 := HRF.out.cell (i := 1) rfl
        (try (go_wp2_with fail))
        refine bodyPost_ret (v := .agg #[(.slice va1 ln1 vc1), (.slice va2 ln2 vc2)]) (by simp [results, Try.results124, go_sem, t0, t1]) rfl ⟨⟨(.slice va1 ln1 vc1), (.slice va2 ln2 vc2), rfl, by rw [HV.out]; exact ((HS.out.o1.oth (b := w.heap.size + 1) (by omega) 0 (.slice va1 ln1 vc1)).oth (b := w.heap.size + 1) (by omega) 1 (.slice va2 ln2 vc2)).mono (by omega), by rw [HV.out]; exact ((HS.out.o2.oth (b := w.heap.size + 1) (by omega) 0 (.slice va1 ln1 vc1)).oth (b := w.heap.size + 1) (by omega) 1 (.slice va2 ln2 vc2)).mono (by omega)⟩, ((HB.out.trans (HS.out.bel.mono (by omega))).setCell (p := ⟨w.heap.size + 1, 0, none⟩) (by show w.heap.size ≤ w.heap.size + 1; omega) (.slice va1 ln1 vc1)).setCell (p := ⟨w.heap.size + 1, 1, none⟩) (by show w.heap.size ≤ w.heap.size + 1; omega) (.slice va2 ln2 vc2)⟩
set_option maxRecDepth 100000 in
set_option maxHeartbeats 8000000 in
theorem spec_sSum (gr : GroupD) (v : Value) (l : List DealingD) (w : World) (hg : OkG gr) (h : RdR rDealing w v l) (hal : alB gr l = true) :
    Calls Try.prog 174 #[.agg #[.int .i64 gr.p, .int .i64 gr.q, .int .i64 gr.g], v] w fun e w' => RetDl e w' w.heap.size (smD gr l) ∧ Below w.heap.size w w' := by
  have HG := Lib.hid hg
  have HAL := Lib.hid hal
  have HAP := Lib.hid (alB_parts hal)
  clear hg hal
  obtain ⟨a, n, c, rfl⟩ := h.shape
  have HE := Lib.hid h.len
  obtain ⟨k1', k2'⟩ := h.capMax
  unfold maxLen at k2'
  have H := Lib.hid h
  clear h
  have hn1 : 1 ≤ n := by have := HAP.out.1; have := HE.out; omega
  have hn7 : n ≤ 7 := by have := HAP.out.1; have := HE.out; omega
  have hl0 : 0 < l.length := by rw [HE.out]; omega
  obtain ⟨b, o, a0, n0, c0, a1, n1, c1, e, x0, x1, f0, f1⟩ := RdDl.first H.out hl0
  cases e
  rw [← hdD_eq hl0] at f0 f1
  have HL0 : Hid ((hdD l).c.length = n0) := f0.len
  have HL1 : Hid ((hdD l).s.length = n1) := f1.len
  have HDB := Lib.hid (deB_parts (HAP.out.2 _ (hdD_mem hl0)).1)
  have HLB : Hid ((hdD l).c.length ≤ 7 ∧ (hdD l).s.length ≤ 7) := ⟨by have := HDB.out.1; omega, by have := HDB.out.1; omega⟩
  have HF1' := Lib.hid f0
  have HF2' := Lib.hid f1
  clear f0 f1
  obtain ⟨W, hW⟩ : ∃ W, W = (w.alloc (.cells #[.int .i64 gr.p, .int .i64 gr.q, .int .i64 gr.g] 24)).alloc (.cells #[.slice none 0 0, .slice none 0 0] 57) := ⟨_, rfl⟩
  have HB : Hid (Below w.heap.size w W) := by unfold Hid; rw [hW]; (repeat (first | exact Below.refl _ _ | assumption | refine Below.drew ?_ | refine Below.alloc ?_ (by first | (simp; done) | (simp; omega)) _ | refine Below.setCell ?_ (by first | (simp; done) | (simp; omega)) _))
  have HGX : Hid (BoxN W w.heap.size 24 [.int .i64 gr.p, .int .i64 gr.q, .int .i64 gr.g]) := by unfold Hid; rw [hW]; have h := (BoxN.new w [.int .i64 gr.p, .int .i64 gr.q, .int .i64 gr.g] 24).alloc (.cells #[.slice none 0 0, .slice none 0 0] 57); simpa using h
  have HRX : Hid (BoxN W (w.heap.size + 1) 57 [.slice none 0 0, .slice none 0 0]) := by unfold Hid; rw [hW]; have h := BoxN.new (w.alloc (.cells #[.int .i64 gr.p, .int .i64 gr.q, .int .i64 gr.g] 24)) [.slice none 0 0, .slice none 0 0] 57; simpa using h
  have hwW : w.heap.size + 1 < W.heap.size := HRX.out.lt
  have HF1 := Lib.hid (HF1'.out.below HB.out)
  have HF2 := Lib.hid (HF2'.out.below HB.out)
  clear HF1' HF2'
  go_enter Try.func174, Try.ntmps174
  go_upto_region 1 with fail
  rw [← hW]
  clear hW
  have hk0 : 0 < n := by omega
  have g0 := box_at x0 HB.out
  have g1 := box_at x1 HB.out
  have HSS : Hid (∀ w', Below W.heap.size W w' → w'.cell? ⟨b, o, none⟩ = some (.slice a0 n0 c0) ∧ w'.cell? ⟨b, o + 1, none⟩ = some (.slice a1 n1 c1)) := fun w' h => ⟨box_at g0 h, box_at g1 h⟩
  go_cut [5] from 12 (fun v5 wx => ∃ q1 q2 bz, v5 = .pointer (some ⟨bz, 0, none⟩) ∧ Hid (SuS W wx bz q1 q2 (hdD l).c (hdD l).s))
  case first =>
    (try (go_wp2_with fail))
    refine wp_region_noPanic ?_
    refine wp_region_V (fun w' => w'.cell? ⟨b, o, none⟩ = some (.slice a0 n0 c0) ∧ w'.cell? ⟨b, o + 1, none⟩ = some (.slice a1 n1 c1)) 15 12 (.rd 0 (.rd 1 (.rd 2 (.rd 3 (.rd 5 (.rd 6 (.rd 7 (.rd 8 (.alt 4 (.alt 9 (.rd 10 (.alt 11 .done .nil)) (.alt 11 (.alt 9 (.rd 10 .done) .nil) .nil)) (.alt 11 (.alt 4 (.alt 9 (.rd 10 .done) .nil) .nil) .nil)))))))))) [12] (by kernel_rfl) (by kernel_rfl) rfl (fun _ _ _ _ _ h => h) (HSS.out _ (Below.refl _ _).drew) ?_
    simp only [pickV, pickN, List.getElem?_cons_zero, List.getElem?_cons_succ]
    iterate 8 (refine' wpV_read _ (by kernel_rfl) (fun w' hS' => ?_) ?_; rotate_left; (focus ((try dsimp only at hS'); go_simp; (try with_reducible rfl))); (try simp only [Act.put, List.setIfInBounds_toArray, List.set_cons_zero, List.set_cons_succ]))
    have hbw0 : Below W.heap.size W W.drew := (Below.refl _ _).drew
    obtain ⟨x0', hx0'⟩ : ∃ u, u = W.drew := ⟨_, rfl⟩
    rw [← hx0'] at hbw0 ⊢
    clear hx0' g0 g1
    refine wpV_or (by kernel_rfl) (fun K hK => ?_) ?_
    · skip
      go_simp
      go_at_call 151
      refine (spec_l1Own _ (hdD l).c _ (HF1.out.below hbw0) (by have := HLB.out; omega)).mono ?_
      rintro e x1 ⟨q1, rfl, ho1, hb⟩
      obtain ⟨qa1, qc1, rfl⟩ := ho1.shapeN HL0.out
      have hsz1 := hb.size
      have hbw1 : Below W.heap.size W x1 := Below.next hbw0 hb
      have hol := ho1
      replace ho1 := ho1.mono (B' := W.heap.size) (by have := hbw0.size; omega)
      clear hb
      refine hK.out _ _ (HSS.out _ hbw1) (fun _ => ?_)
      clear hK K
      (try simp only [Act.put, List.setIfInBounds_toArray, List.set_cons_zero, List.set_cons_succ])
      refine wpV_or (by kernel_rfl) (fun K hK => ?_) ?_
      · skip
        go_simp
        go_at_call 151
        refine (spec_l1Own _ (hdD l).s _ (HF2.out.below hbw1) (by have := HLB.out; omega)).mono ?_
        rintro e x2 ⟨q2, rfl, ho2, hb⟩
        obtain ⟨qa2, qc2, rfl⟩ := ho2.shapeN HL1.out
        have hsz2 := hb.size
        have hbw2 : Below W.heap.size W x2 := Below.next hbw1 hb
        have hlt := hol.lt
        have ho1 := ho1.below hb
        have hol := hol.below hb
        have hne : ∀ z, (Value.slice qa1 n0 qc1).ownBlock = some z → (Value.slice qa2 n1 qc2).ownBlock ≠ some z := fun z e1 e2 => by have h1 := (hlt z e1).2; have h2 := (ho2.lt z e2).1; omega
        have hol := ho2
        replace ho2 := ho2.mono (B' := W.heap.size) (by have := hbw1.size; omega)
        clear hb
        refine hK.out _ _ (HSS.out _ hbw2) (fun _ => ?_)
        clear hK K
        (try simp only [Act.put, List.setIfInBounds_toArray, List.set_cons_zero, List.set_cons_succ])
        refine' wpV_read _ (by kernel_rfl) (fun w' hS' => ?_) ?_; rotate_left; (focus ((try dsimp only at hS'); go_simp; (try with_reducible rfl))); (try simp only [Act.put, List.setIfInBounds_toArray, List.set_cons_zero, List.set_cons_succ])
        refine wpV_do (by kernel_rfl) (fun K hK => ?_)
        obtain ⟨x3, hV⟩ : ∃ V, V = x2.alloc (.cells #[.slice none 0 0, .slice none 0 0] 57) := ⟨_, rfl⟩
        have hb : Below x2.heap.size x2 x3 := by rw [hV]; exact (Below.refl _ _).alloc (Nat.le_refl _) _
        have hbx : BoxN x3 x2.heap.size 57 [.slice none 0 0, .slice none 0 0] := by rw [hV]; exact BoxN.new x2 _ _
        have hbw3 : Below W.heap.size W x3 := Below.next hbw2 hb
        have hsz3 := hb.size
        have ho1 := ho1.below hb
        have hol := hol.below hb
        have ho2 := ho2.below hb
        go_simp
        rw [← hV]
        clear hV hb
        refine hK.out _ _ (HSS.out _ hbw3) (fun _ => ?_)
        clear hK K
        (try simp only [Act.put, List.setIfInBounds_toArray, List.set_cons_zero, List.set_cons_succ])
        refine wpV_done ?_
        have r0 := hbx.cell (i := 0) rfl
        have r1 := hbx.cell (i := 1) rfl
        have fr := fun j => hbx.frozen j
        go_wp2_with fail
        refine NoPanic.normal ?_
        (try (go_wp2_with fail))
        go_meet
        exact ⟨_, _, x2.heap.size, rfl, Lib.hid (SuS.start hbw3 hbx ho1 ho2 hne (by have := hbw2.size; omega))⟩
      refine wpV_do (by kernel_rfl) (fun K hK => ?_)
      obtain ⟨x2, hV⟩ : ∃ V, V = x1.alloc (.cells #[.slice none 0 0, .slice none 0 0] 57) := ⟨_, rfl⟩
      have hb : Below x1.heap.size x1 x2 := by rw [hV]; exact (Below.refl _ _).alloc (Nat.le_refl _) _
      have hbx : BoxN x2 x1.heap.size 57 [.slice none 0 0, .slice none 0 0] := by rw [hV]; exact BoxN.new x1 _ _
      have hbw2 : Below W.heap.size W x2 := Below.next hbw1 hb
      have hsz2 := hb.size
      have ho1 := ho1.below hb
      have hol := hol.below hb
      go_simp
      rw [← hV]
      clear hV hb
      refine hK.out _ _ (HSS.out _ hbw2) (fun _ => ?_)
      clear hK K
      (try simp only [Act.put, List.setIfInBounds_toArray, List.set_cons_zero, List.set_cons_succ])
      refine wpV_do (by kernel_rfl) (fun K hK => ?_)
      go_simp
      go_at_call 151
      refine (spec_l1Own _ (hdD l).s _ (HF2.out.below hbw2) (by have := HLB.out; omega)).mono ?_
      rintro e x3 ⟨q2, rfl, ho2, hb⟩
      obtain ⟨qa2, qc2, rfl⟩ := ho2.shapeN HL1.out
      have hsz3 := hb.size
      have hbw3 : Below W.heap.size W x3 := Below.next hbw2 hb
      have hlt := hol.lt
      have ho1 := ho1.below hb
      have hol := hol.below hb
      have hbx := hbx.below hb
      have hne : ∀ z, (Value.slice qa1 n0 qc1).ownBlock = some z → (Value.slice qa2 n1 qc2).ownBlock ≠ some z := fun z e1 e2 => by have h1 := (hlt z e1).2; have h2 := (ho2.lt z e2).1; omega
      have hol := ho2
      replace ho2 := ho2.mono (B' := W.heap.size) (by have := hbw2.size; omega)
      clear hb
      refine hK.out _ _ (HSS.out _ hbw3) (fun _ => ?_)
      clear hK K
      (try simp only [Act.put, List.setIfInBounds_toArray, List.set_cons_zero, List.set_cons_succ])
      refine' wpV_read _ (by kernel_rfl) (fun w' hS' => ?_) ?_; rotate_left; (focus ((try dsimp only at hS'); go_simp; (try with_reducible rfl))); (try simp only [Act.put, List.setIfInBounds_toArray, List.set_cons_zero, List.set_cons_succ])
      refine wpV_done ?_
      have r0 := hbx.cell (i := 0) rfl
      have r1 := hbx.cell (i := 1) rfl
      have fr := fun j => hbx.frozen j
      go_wp2_with fail
      refine NoPanic.normal ?_
      (try (go_wp2_with fail))
      go_meet
      exact ⟨_, _, x1.heap.size, rfl, Lib.hid (SuS.start hbw3 hbx ho1 ho2 hne (by have := hbw1.size; omega))⟩
    refine wpV_do (by kernel_rfl) (fun K hK => ?_)
    obtain ⟨x1, hV⟩ : ∃ V, V = x0'.alloc (.cells #[.slice none 0 0, .slice none 0 0] 57) := ⟨_, rfl⟩
    have hb : Below x0'.heap.size x0' x1 := by rw [hV]; exact (Below.refl _ _).alloc (Nat.le_refl _) _
    have hbx : BoxN x1 x0'.heap.size 57 [.slice none 0 0, .slice none 0 0] := by rw [hV]; exact BoxN.new x0' _ _
    have hbw1 : Below W.heap.size W x1 := Below.next hbw0 hb
    have hsz1 := hb.size
    go_simp
    rw [← hV]
    clear hV hb
    refine hK.out _ _ (HSS.out _ hbw1) (fun _ => ?_)
    clear hK K
    (try simp only [Act.put, List.setIfInBounds_toArray, List.set_cons_zero, List.set_cons_succ])
    refine wpV_do (by kernel_rfl) (fun K hK => ?_)
    go_simp
    go_at_call 151
    refine (spec_l1Own _ (hdD l).c _ (HF1.out.below hbw1) (by have := HLB.out; omega)).mono ?_
    rintro e x2 ⟨q1, rfl, ho1, hb⟩
    obtain ⟨qa1, qc1, rfl⟩ := ho1.shapeN HL0.out
    have hsz2 := hb.size
    have hbw2 : Below W.heap.size W x2 := Below.next hbw1 hb
    have hbx := hbx.below hb
    have hol := ho1
    replace ho1 := ho1.mono (B' := W.heap.size) (by have := hbw1.size; omega)
    clear hb
    refine hK.out _ _ (HSS.out _ hbw2) (fun _ => ?_)
    clear hK K
    (try simp only [Act.put, List.setIfInBounds_toArray, List.set_cons_zero, List.set_cons_succ])
    refine wpV_do (by kernel_rfl) (fun K hK => ?_)
    go_simp
    go_at_call 151
    refine (spec_l1Own _ (hdD l).s _ (HF2.out.below hbw2) (by have := HLB.out; omega)).mono ?_
    rintro e x3 ⟨q2, rfl, ho2, hb⟩
    obtain ⟨qa2, qc2, rfl⟩ := ho2.shapeN HL1.out
    have hsz3 := hb.size
    have hbw3 : Below W.heap.size W x3 := Below.next hbw2 hb
    have hlt := hol.lt
    have hbx := hbx.below hb
    have ho1 := ho1.below hb
    have hol := hol.below hb
    have hne : ∀ z, (Value.slice qa1 n0 qc1).ownBlock = some z → (Value.slice qa2 n1 qc2).ownBlock ≠ some z := fun z e1 e2 => by have h1 := (hlt z e1).2; have h2 := (ho2.lt z e2).1; omega
    have hol := ho2
    replace ho2 := ho2.mono (B' := W.heap.size) (by have := hbw2.size; omega)
    clear hb
    refine hK.out _ _ (HSS.out _ hbw3) (fun _ => ?_)
    clear hK K
    (try simp only [Act.put, List.setIfInBounds_toArray, List.set_cons_zero, List.set_cons_succ])
    refine' wpV_read _ (by kernel_rfl) (fun w' hS' => ?_) ?_; rotate_left; (focus ((try dsimp only at hS'); go_simp; (try with_reducible rfl))); (try simp only [Act.put, List.setIfInBounds_toArray, List.set_cons_zero, List.set_cons_succ])
    refine wpV_done ?_
    have r0 := hbx.cell (i := 0) rfl
    have r1 := hbx.cell (i := 1) rfl
    have fr := fun j => hbx.frozen j
    go_wp2_with fail
    refine NoPanic.normal ?_
    (try (go_wp2_with fail))
    go_meet
    exact ⟨_, _, x0'.heap.size, rfl, Lib.hid (SuS.start hbw3 hbx ho1 ho2 hne (by have := hbw0.size; omega))⟩
  case rest =>
    obtain ⟨V1, V2, bz, rfl, HS⟩ := hcut
    clear g0 g1 HSS x0 x1
    obtain ⟨ra, hdrop, hrd⟩ := sl_dropDl H.out (x := 1) (k := 1) rfl hn1
    have HR1 := Lib.hid hrd
    clear hrd
    have hq7 : n - 1 ≤ 6 := by omega
    have HNN : Hid (n - 1 + 1 = n) := by unfold Hid; omega
    go_wp2_with fail
    clear hdrop
    go_loopg [26] (n - 1) (fun gk iv wr => ∃ j : Nat, j + gk = n - 1 ∧ iv = .int .i64 (j : Int) ∧ Hid (SuS W wr bz V1 V2 (smF gr l j).c (smF gr l j).s))
    case atStart => exact ⟨0, by omega, rfl, HS⟩
    case round =>
      clear HS
      obtain ⟨wo, rfl⟩ : ∃ u, u = wr := ⟨_, rfl⟩
      obtain ⟨go', rfl⟩ : ∃ u, u = gk := ⟨_, rfl⟩
      obtain ⟨j, hjg, rfl, HS⟩ := hrel
      have HJG := Lib.hid hjg
      have hjl : j < n - 1 → n - 1 - (j + 1) < go' := by omega
      clear hjg
      by_cases hlj : j < n - 1
      · have hwj : IntKind.i64.wrap ((j : Int) + 1) = (j : Int) + 1 := IntWalk.i64_in _ (by omega)
        have HK : Hid (j < (l.drop 1).length) := by unfold Hid; rw [List.length_drop, HE.out]; exact hlj
        have HKL : Hid (j + 1 < l.length) := by unfold Hid; rw [HE.out]; omega
        have HAS := Lib.hid (smF_same HG.out HAL.out j (by have := HKL.out; omega))
        have HDS := Lib.hid (HAP.out.2 _ (List.getElem_mem HK.out |> List.mem_of_mem_drop)).2
        have HNX : Hid (smF gr l (j + 1) = suX gr (smF gr l j) ((l.drop 1)[j]'HK.out)) := by unfold Hid; show suX gr (smF gr l j) (atD l (j + 1)) = _; rw [atD_eq HKL.out]; simp [Nat.add_comm]
        obtain ⟨b2, o2, p0, m0, k0, p1, m1, k1, e, y0, y1, f0, f1⟩ := RdDl.get HR1.out HK.out
        subst e
        obtain ⟨A, hA⟩ : ∃ A, smF gr l j = A := ⟨_, rfl⟩
        rw [hA] at HAS HNX HS
        clear hA
        generalize (l.drop 1)[j]'HK.out = d at f0 f1 HDS HNX
        have HM1 : Hid (d.c.length = m0) := f0.len
        have HM2 : Hid (d.s.length = m1) := f1.len
        have HD1 := Lib.hid f0
        have HD2 := Lib.hid f1
        have HA1 : Hid (A.c.length = n0) := by unfold Hid; rw [HAS.out.lc]; exact HL0.out
        have HA2 : Hid (A.s.length = n1) := by unfold Hid; rw [HAS.out.ls]; exact HL1.out
        have HMN : Hid ((m0 = n0 ∧ m1 = n1) ∧ n0 ≤ 7 ∧ n1 ≤ 7) := ⟨⟨by have := HM1.out; have := HDS.out.lc; have := HL0.out; omega, by have := HM2.out; have := HDS.out.ls; have := HL1.out; omega⟩, by have := HL0.out; have := HLB.out; omega, by have := HL1.out; have := HLB.out; omega⟩
        have y0 := box_at (box_at y0 HB.out) HS.out.bel
        have y1 := box_at (box_at y1 HB.out) HS.out.bel
        clear f0 f1
        obtain ⟨V, hV⟩ : ∃ V, V = wo.alloc (.cells #[.slice p0 m0 k0, .slice p1 m1 k1] 57) := ⟨_, rfl⟩
        have hbV : Below wo.heap.size wo V := by rw [hV]; exact (Below.refl _ _).alloc (Nat.le_refl _) _
        have HZ : Hid (BoxN V wo.heap.size 57 [.slice p0 m0 k0, .slice p1 m1 k1]) := by unfold Hid; rw [hV]; exact BoxN.new wo _ _
        replace HS := Lib.hid (HS.out.below hbV)
        have kk0 : (0 : Int) ≤ (j : Int) := by omega
        have kk1 : (j : Int) < ((n - 1 : Nat) : Int) := by omega
        have hly := World.block_lt_of_cell? wo _ y0
        have d0 := HZ.out.cell (i := 0) rfl
        have d1 := HZ.out.cell (i := 1) rfl
        obtain ⟨zb, hzb⟩ : ∃ z, z = wo.heap.size := ⟨_, rfl⟩
        go_upto_region 5 with fail
        rw [← hV]
        rw [← hzb] at HZ d0 d1 ⊢
        clear hV y0 y1 kk0 kk1 hzb hbV hly
        go_wp2_with fail
        clear d0 d1
        go_loopg [33] m0 (fun gi iv wi => ∃ i : Nat, i + gi = m0 ∧ iv = .int .i64 (i : Int) ∧ Hid (SuS W wi bz V1 V2 (smL (mulF gr) A.c d.c i) A.s) ∧ Hid (BoxN wi zb 57 [.slice p0 m0 k0, .slice p1 m1 k1]))
        case atStart => exact ⟨0, by omega, rfl, HS, HZ⟩
        case round =>
          clear HS HZ
          obtain ⟨wi, rfl⟩ : ∃ u, u = wr := ⟨_, rfl⟩
          obtain ⟨gi, rfl⟩ : ∃ u, u = gk := ⟨_, rfl⟩
          obtain ⟨i, hig, rfl, HS, HZ⟩ := hrel
          have HIG := Lib.hid hig
          have hil : i < m0 → m0 - (i + 1) < gi := by omega
          clear hig
          by_cases hli : i < m0
          · have hwi : IntKind.i64.wrap ((i : Int) + 1) = (i : Int) + 1 := IntWalk.i64_in _ (by have := HMN.out; omega)
            have HLL : Hid ((smL (mulF gr) A.c d.c i).length = n0) := by unfold Hid; rw [smL_len]; exact HA1.out
            obtain ⟨rr, cc, hv1⟩ : ∃ rr cc, V1 = .slice (some ⟨rr, 0, none⟩) n0 cc := by
              obtain ⟨a, c, e⟩ := HS.out.o1.shape
              obtain ⟨g, rfl, _⟩ := (e ▸ HS.out.o1 : OwnI wi W.heap.size (.slice a _ c) _).at_ (by have := HLL.out; have := HMN.out; omega)
              rw [HLL.out] at e
              exact ⟨g, c, e⟩
            subst hv1
            obtain ⟨_, e, _, hle, hrx⟩ := HS.out.o1.at_ (by have := HLL.out; have := HMN.out; omega)
            cases e
            obtain ⟨yy, ff⟩ := hrx i (by have := HMN.out; omega)
            clear hrx hle
            obtain ⟨tb, tto, e, hcx⟩ := HD1.out.at_ (by have := HM1.out; omega)
            cases e
            have xx := box_at (box_at (hcx i hli) HB.out) HS.out.bel
            clear hcx
            have HSM : Hid ((fun z => elB gr z = true) (nth (smL (mulF gr) A.c d.c i) i) ∧ (fun z => elB gr z = true) (nth d.c i)) := ⟨smL_all (P := fun x => elB gr x = true) HAS.out.ec HDS.out.ec (fun x y hx hy => by show elB gr (mulL gr [x, y]) = true; rw [mulT]; exact elT_mul HG.out hx hy) (by rw [HAS.out.lc, HDS.out.lc]) _ (by have := HM1.out; omega) _ (nth_mem' (by rw [HLL.out]; have := HMN.out; omega)), HDS.out.ec _ (nth_mem' (by have := HM1.out; omega))⟩
            obtain ⟨y, hy⟩ : ∃ y, nth (smL (mulF gr) A.c d.c i) i = y := ⟨_, rfl⟩
            obtain ⟨x, hx⟩ : ∃ x, nth d.c i = x := ⟨_, rfl⟩
            rw [hy] at yy HSM
            rw [hx] at xx HSM
            have HN1 : Hid ((smL (mulF gr) A.c d.c (i + 1)) = (smL (mulF gr) A.c d.c i).set i (mulF gr y x)) := by unfold Hid; rw [← hy, ← hx]; rfl
            clear hy hx
            have HYS : Hid (Small y) := elB_small HG.out HSM.out.1
            have HXS : Hid (Small x) := elB_small HG.out HSM.out.2
            have HZI : Hid (I64 (mulF gr y x)) := small_64 (mulL_small HG.out _)
            have ki0 : (0 : Int) ≤ (i : Int) := by omega
            have ki1 : (i : Int) < (m0 : Int) := by omega
            have ki2 : (i : Int) < (n0 : Int) := by have := HMN.out; omega
            have c0_0 := (HGX.out.below HS.out.bel).cell (i := 0) rfl
            have c0_1 := (HGX.out.below HS.out.bel).cell (i := 1) rfl
            have c0_2 := (HGX.out.below HS.out.bel).cell (i := 2) rfl
            have z0 := HS.out.box.cell (i := 0) rfl
            have z1 := HS.out.box.cell (i := 1) rfl
            have hc : Below wi.heap.size wi wi := Below.refl _ _
            go_wp2_with fail
            clear xx
            try (go_wp2_with fail)
            refine wp_region_noPanic ?_
            refine wp_region_P (fun w' => w'.cell? ⟨w.heap.size, 0, none⟩ = some (.int .i64 gr.p) ∧ w'.cell? ⟨w.heap.size, 1, none⟩ = some (.int .i64 gr.q) ∧ w'.cell? ⟨w.heap.size, 2, none⟩ = some (.int .i64 gr.g) ∧ w'.cell? ⟨bz, 0, none⟩ = some (.slice (some ⟨rr, 0, none⟩) n0 cc) ∧ w'.cell? ⟨bz, 1, none⟩ = some (V2) ∧ w'.cell? ⟨rr, i, none⟩ = some (.int .i64 y)) 16 [(0, []), (1, [0]), (2, []), (3, []), (4, []), (5, [0]), (6, []), (7, [1, 0]), (8, [0]), (9, []), (10, [1, 0]), (11, [7, 0]), (12, [10, 9])] [13] (by kernel_rfl) (by kernel_rfl) (by kernel_rfl) rfl (fun _ _ _ _ h => h) (fun w' h => ⟨box_at c0_0 h, box_at c0_1 h, box_at c0_2 h, box_at z0 h, box_at z1 h, box_at yy h⟩) ?_
            simp only [pickP, pickN, List.getElem?_cons_zero, List.getElem?_cons_succ]
            iterate 10 (refine' chainP_read _ rfl rfl (fun w' hS' => ?_) ?_; rotate_left; · (simp only [lookP, allP, Act.put, List.getElem?_cons_zero, List.getElem?_cons_succ, List.setIfInBounds_toArray, List.set_cons_zero, List.set_cons_succ]; (try dsimp only at hS'); go_simp; (try with_reducible rfl)))
            -- 10: buildSlice 43 2 #[(0, t46), (1, t47)]
            refine chainP_do (d := (some 48)) (fun v w => Ints w v [y, x]) (fun v w w' hb h => Ints.below h hb) rfl rfl (fun w' hS' => ?_) ?_
            · simp only [lookP, allP, Act.put, List.getElem?_cons_zero, List.getElem?_cons_succ, List.setIfInBounds_toArray, List.set_cons_zero, List.set_cons_succ]
              intro K hK
              go_simp
              refine hK.out _ _ ((Below.refl _ _).alloc (Nat.le_refl _) _) ?_
              exact (OwnI.lit (B := w'.heap.size) w' (Nat.le_refl _) (l := [y, x]) (AllI64.cons (small_64 HYS.out) (AllI64.cons (small_64 HXS.out) AllI64.nil)) rfl (by simp [maxLen]) 2 rfl).ints
            -- 11: call { callee := value (func 89), args := #[t41, t48], argTypes := #[24, 43] }
            refine chainP_call (d := (some 49)) (.int .i64 (mulL gr [y, x])) rfl rfl (fun w' hS' => ?_) ?_
            · simp only [lookP, allP, Act.put, List.getElem?_cons_zero, List.getElem?_cons_succ, List.setIfInBounds_toArray, List.set_cons_zero, List.set_cons_succ]
              intro x10 hx10
              intro K hK
              go_simp
              go_at_call 66
              refine (spec_gMul gr _ [y, x] _ HG.out hx10 (AllSmall.cons HYS.out (AllSmall.cons HXS.out AllSmall.nil))).mono ?_
              rintro e u ⟨rfl, hq⟩
              exact hK.out _ hq
            -- 12: indexAddr 43 t39 t40
            refine' chainP_read (d := (some 50)) _ rfl rfl (fun w' hS' => ?_) ?_; rotate_left
            · simp only [lookP, allP, Act.put, List.getElem?_cons_zero, List.getElem?_cons_succ, List.setIfInBounds_toArray, List.set_cons_zero, List.set_cons_succ]
              (try dsimp only at hS')
              go_simp
              (try with_reducible rfl)
            refine chainP_nil (fun ua hS' => ?_)
            simp only [allP, Act.put, List.setIfInBounds_toArray, List.set_cons_zero, List.set_cons_succ]
            intro x10 hx10
            have hq1 := hS'.1
            clear hS'
            replace hc := Below.next hc hq1
            replace c0_0 := box_at c0_0 hq1
            replace c0_1 := box_at c0_1 hq1
            replace c0_2 := box_at c0_2 hq1
            replace z0 := box_at z0 hq1
            replace z1 := box_at z1 hq1
            replace yy := box_at yy hq1
            clear hq1
            replace HS := Lib.hid (HS.out.below hc)
            replace HZ := Lib.hid (HZ.out.below hc)
            clear hc c0_0 c0_1 c0_2 z0 z1 yy ff
            obtain ⟨_, e, _, hle, hrx⟩ := HS.out.o1.at_ (by have := HLL.out; have := HMN.out; omega)
            cases e
            obtain ⟨yy, ff⟩ := hrx i (by have := HMN.out; omega)
            have hrz : rr ≠ zb := fun e => HS.out.o1.apartX HZ.out (by decide) rr rfl e.symm
            clear hrx hle
            go_wp2_with fail
            refine NoPanic.normal ?_
            (try (go_wp2_with fail))
            clear yy ff
            go_roundg (m0 - (i + 1))
            case measure => exact hil hli
            case rel => exact ⟨i + 1, by have := HIG.out; omega, by go_num, by unfold Hid; rw [HN1.out]; exact HS.out.store1 HLL.out i HZI.out, Lib.hid (HZ.out.outOf hrz)⟩
          · obtain rfl : m0 = i := by have := HIG.out; omega
            have d0 := HZ.out.cell (i := 0) rfl
            have d1 := HZ.out.cell (i := 1) rfl
            replace HS : Hid (SuS W wi bz V1 V2 (smL (mulF gr) A.c d.c d.c.length) A.s) := by unfold Hid; rw [HM1.out]; exact HS.out
            go_wp2_with fail
            clear d0 d1
            go_loopg [55] m1 (fun gi iv wi => ∃ i : Nat, i + gi = m1 ∧ iv = .int .i64 (i : Int) ∧ Hid (SuS W wi bz V1 V2 (smL (mulF gr) A.c d.c d.c.length) (smL (addF gr) A.s d.s i)) ∧ Hid (BoxN wi zb 57 [.slice p0 m0 k0, .slice p1 m1 k1]))
            case atStart => exact ⟨0, by omega, rfl, HS, HZ⟩
            case round =>
              clear HS HZ
              obtain ⟨wi, rfl⟩ : ∃ u, u = wr := ⟨_, rfl⟩
              obtain ⟨gi, rfl⟩ : ∃ u, u = gk := ⟨_, rfl⟩
              obtain ⟨i, hig, rfl, HS, HZ⟩ := hrel
              have HIG := Lib.hid hig
              have hil : i < m1 → m1 - (i + 1) < gi := by omega
              clear hig
              by_cases hli : i < m1
              · have hwi : IntKind.i64.wrap ((i : Int) + 1) = (i : Int) + 1 := IntWalk.i64_in _ (by have := HMN.out; omega)
                have HLL : Hid ((smL (addF gr) A.s d.s i).length = n1) := by unfold Hid; rw [smL_len]; exact HA2.out
                obtain ⟨rr, cc, hv2⟩ : ∃ rr cc, V2 = .slice (some ⟨rr, 0, none⟩) n1 cc := by
                  obtain ⟨a, c, e⟩ := HS.out.o2.shape
                  obtain ⟨g, rfl, _⟩ := (e ▸ HS.out.o2 : OwnI wi W.heap.size (.slice a _ c) _).at_ (by have := HLL.out; have := HMN.out; omega)
                  rw [HLL.out] at e
                  exact ⟨g, c, e⟩
                subst hv2
                obtain ⟨_, e, _, hle, hrx⟩ := HS.out.o2.at_ (by have := HLL.out; have := HMN.out; omega)
                cases e
                obtain ⟨yy, ff⟩ := hrx i (by have := HMN.out; omega)
                clear hrx hle
                obtain ⟨tb, tto, e, hcx⟩ := HD2.out.at_ (by have := HM2.out; omega)
                cases e
                have xx := box_at (box_at (hcx i hli) HB.out) HS.out.bel
                clear hcx
                have HSM : Hid ((fun z => expB gr z = true) (nth (smL (addF gr) A.s d.s i) i) ∧ (fun z => expB gr z = true) (nth d.s i)) := ⟨smL_all (P := fun x => expB gr x = true) HAS.out.es HDS.out.es (fun x y _ _ => addF_exp HG.out x y) (by rw [HAS.out.ls, HDS.out.ls]) _ (by have := HM2.out; omega) _ (nth_mem' (by rw [HLL.out]; have := HMN.out; omega)), HDS.out.es _ (nth_mem' (by have := HM2.out; omega))⟩
                obtain ⟨y, hy⟩ : ∃ y, nth (smL (addF gr) A.s d.s i) i = y := ⟨_, rfl⟩
                obtain ⟨x, hx⟩ : ∃ x, nth d.s i = x := ⟨_, rfl⟩
                rw [hy] at yy HSM
                rw [hx] at xx HSM
                have HN1 : Hid ((smL (addF gr) A.s d.s (i + 1)) = (smL (addF gr) A.s d.s i).set i (addF gr y x)) := by unfold Hid; rw [← hy, ← hx]; rfl
                clear hy hx
                obtain ⟨y1, y2⟩ := expB_bd HSM.out.1
                obtain ⟨x1', x2'⟩ := expB_bd HSM.out.2
                have zq1 := HG.out.q1
                have zq2 := HG.out.q2
                have zp2 := HG.out.p2
                have ewy : IntKind.i64.wrap (y + x) = y + x := IntWalk.i64_in _ (by omega)
                have HYX : Hid (I64 (y + x)) := ⟨by omega, by omega⟩
                have hz1 : 0 ≤ (y + x) % gr.q := Int.emod_nonneg _ (by omega)
                have hz2 : (y + x) % gr.q < gr.q := Int.emod_lt_of_pos _ (by omega)
                have etm : Int.tmod (y + x) gr.q = (y + x) % gr.q := Int.tmod_eq_emod_of_nonneg (by omega)
                obtain ⟨Z, hZ⟩ : ∃ z, (y + x) % gr.q = z := ⟨_, rfl⟩
                rw [hZ] at hz1 hz2 etm
                have HZZ := Lib.hid hZ
                have ewz : IntKind.i64.wrap Z = Z := IntWalk.i64_in _ (by omega)
                have HZI : Hid (I64 Z) := ⟨by omega, by omega⟩
                have HN2 : Hid (addF gr y x = Z) := hZ
                have hqz : ¬ gr.q = 0 := by omega
                have hqz2 : (gr.q == 0) = false := by rw [beq_eq_false_iff_ne]; omega
                clear hZ
                have ki0 : (0 : Int) ≤ (i : Int) := by omega
                have ki1 : (i : Int) < (m1 : Int) := by omega
                have ki2 : (i : Int) < (n1 : Int) := by have := HMN.out; omega
                have c0_0 := (HGX.out.below HS.out.bel).cell (i := 0) rfl
                have c0_1 := (HGX.out.below HS.out.bel).cell (i := 1) rfl
                have c0_2 := (HGX.out.below HS.out.bel).cell (i := 2) rfl
                have z0 := HS.out.box.cell (i := 0) rfl
                have z1 := HS.out.box.cell (i := 1) rfl
                have hc : Below wi.heap.size wi wi := Below.refl _ _
                go_wp2_with fail
                clear xx
                try (go_wp2_with fail)
                refine wp_region_noPanic ?_
                refine wp_region_P (fun w' => w'.cell? ⟨w.heap.size, 0, none⟩ = some (.int .i64 gr.p) ∧ w'.cell? ⟨w.heap.size, 1, none⟩ = some (.int .i64 gr.q) ∧ w'.cell? ⟨w.heap.size, 2, none⟩ = some (.int .i64 gr.g) ∧ w'.cell? ⟨bz, 0, none⟩ = some (V1) ∧ w'.cell? ⟨bz, 1, none⟩ = some (.slice (some ⟨rr, 0, none⟩) n1 cc) ∧ w'.cell? ⟨rr, i, none⟩ = some (.int .i64 y)) 17 [(0, []), (1, [0]), (2, []), (3, []), (4, [0]), (5, []), (6, [1, 0]), (7, [0]), (8, []), (9, [1, 0]), (10, []), (11, [0]), (12, [2, 0]), (13, [11, 10])] [14] (by kernel_rfl) (by kernel_rfl) (by kernel_rfl) rfl (fun _ _ _ _ h => h) (fun w' h => ⟨box_at c0_0 h, box_at c0_1 h, box_at c0_2 h, box_at z0 h, box_at z1 h, box_at yy h⟩) ?_
                simp only [pickP, pickN, List.getElem?_cons_zero, List.getElem?_cons_succ]
                iterate 14 (refine' chainP_read _ rfl rfl (fun w' hS' => ?_) ?_; rotate_left; · (simp only [lookP, allP, Act.put, List.getElem?_cons_zero, List.getElem?_cons_succ, List.setIfInBounds_toArray, List.set_cons_zero, List.set_cons_succ]; (try dsimp only at hS'); go_simp; (try with_reducible rfl)))
                refine chainP_nil (fun ua hS' => ?_)
                simp only [allP, Act.put, List.setIfInBounds_toArray, List.set_cons_zero, List.set_cons_succ]
                have hq1 := hS'.1
                clear hS'
                replace hc := Below.next hc hq1
                replace c0_0 := box_at c0_0 hq1
                replace c0_1 := box_at c0_1 hq1
                replace c0_2 := box_at c0_2 hq1
                replace z0 := box_at z0 hq1
                replace z1 := box_at z1 hq1
                replace yy := box_at yy hq1
                clear hq1
                replace HS := Lib.hid (HS.out.below hc)
                replace HZ := Lib.hid (HZ.out.below hc)
                clear hc c0_0 c0_1 c0_2 z0 z1 yy ff
                obtain ⟨_, e, _, hle, hrx⟩ := HS.out.o2.at_ (by have := HLL.out; have := HMN.out; omega)
                cases e
                obtain ⟨yy, ff⟩ := hrx i (by have := HMN.out; omega)
                have hrz : rr ≠ zb := fun e => HS.out.o2.apartX HZ.out (by decide) rr rfl e.symm
                clear hrx hle
                go_wp2_with fail
                refine NoPanic.normal ?_
                (try (go_wp2_with fail))
                clear yy ff
                go_roundg (m1 - (i + 1))
                case measure => exact hil hli
                case rel => exact ⟨i + 1, by have := HIG.out; omega, by go_num, by unfold Hid; rw [HN1.out, HN2.out]; exact HS.out.store2 HLL.out i HZI.out, Lib.hid (HZ.out.outOf hrz)⟩
              · obtain rfl : m1 = i := by have := HIG.out; omega
                replace HS : Hid (SuS W wi bz V1 V2 (smF gr l (j + 1)).c (smF gr l (j + 1)).s) := by unfold Hid; rw [HNX.out]; unfold suX; rw [HM2.out]; exact HS.out
                go_wp2_with fail
                go_roundg (n - 1 - (j + 1))
                case measure => exact hjl hlj
                case rel => exact ⟨j + 1, by have := HJG.out; omega, by go_num, HS⟩
      · obtain rfl : j = n - 1 := by have := HJG.out; omega
        have HV : Hid (smD gr l = smF gr l (n - 1)) := by unfold Hid smD; rw [HE.out]
        obtain ⟨va1, vc1, e1⟩ := HS.out.o1.shape
        obtain ⟨va2, vc2, e2⟩ := HS.out.o2.shape
        obtain ⟨ln1, hln1⟩ : ∃ z, (smF gr l (n - 1)).c.length = z := ⟨_, rfl⟩
        obtain ⟨ln2, hln2⟩ : ∃ z, (smF gr l (n - 1)).s.length = z := ⟨_, rfl⟩
        rw [hln1] at e1
        rw [hln2] at e2
        subst e1
        subst e2
        clear hln1 hln2
        have z0 := HS.out.box.cell (i := 0) rfl
        have z1 := HS.out.box.cell (i := 1) rfl
        have HR := Lib.hid (HRX.out.below HS.out.bel)
        have r0 := HR.out.cell (i := 0) rfl
        have r1 := HR.out.cell (i := 1) rfl
        have fr := fun j => HR.out.frozen j
        go_wp2_with fail
        have HRF := Lib.hid ((HR.out.set 0 (.slice va1 ln1 vc1)).set 1 (.slice va2 ln2 vc2))
        have t0 := HRF.out.cell (i := 0) rfl
        have t1 := HRF.out.cell (i := 1) rfl
        (try (go_wp2_with fail))
        refine bodyPost_ret (v := .agg #[(.slice va1 ln1 vc1), (.slice va2 ln2 vc2)]) (by simp [results, Try.results174, go_sem, t0, t1]) rfl ⟨⟨(.slice va1 ln1 vc1), (.slice va2 ln2 vc2), rfl, by rw [HV.out]; exact ((HS.out.o1.oth (b := w.heap.size + 1) (by omega) 0 (.slice va1 ln1 vc1)).oth (b := w.heap.size + 1) (by omega) 1 (.slice va2 ln2 vc2)).mono (by omega), by rw [HV.out]; exact ((HS.out.o2.oth (b := w.heap.size + 1) (by omega) 0 (.slice va1 ln1 vc1)).oth (b := w.heap.size + 1) (by omega) 1 (.slice va2 ln2 vc2)).mono (by omega)⟩, ((HB.out.trans (HS.out.bel.mono (by omega))).setCell (p := ⟨w.heap.size + 1, 0, none⟩) (by show w.heap.size ≤ w.heap.size + 1; omega) (.slice va1 ln1 vc1)).setCell (p := ⟨w.heap.size + 1, 1, none⟩) (by show w.heap.size ≤ w.heap.size + 1; omega) (.slice va2 ln2 vc2)⟩
end Go.Proofs.Ytacpnphfopmofaa
