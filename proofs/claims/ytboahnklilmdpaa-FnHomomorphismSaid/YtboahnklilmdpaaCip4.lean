/- Ciphertexts: valid lists, powers, re-encryption: walks (printed by gen_cip4.py). -/
import Derived.Test.YtboahnklilmdpaaCip3
import Derived.Test.YtboahnklilmdpaaFindCipher
import Derived.Test.YtboahnklilmdpaaFr
namespace Go.Proofs.Ytboahnklilmdpaa
open Go.RowKit
set_option linter.unusedSimpArgs false
set_option linter.unusedVariables false

theorem ciB_any (gr : GroupD) (ds : List CipherD) : (ds.any fun d => !ciB gr d) = !(ds.all (ciB gr)) := by
  induction ds with
  | nil => rfl
  | cons a ds ih => simp only [List.any_cons, List.all_cons, ih, Bool.not_and]
noncomputable def cisB (gr : GroupD) (l : List CipherD) : Bool := decide (l.length ≤ 24) && l.all (ciB gr)
theorem cisB_small {gr : GroupD} (hg : OkG gr) {l : List CipherD} (h : cisB gr l = true) : AllSmallC l := fun c hc => by
  unfold cisB at h
  rw [Bool.and_eq_true] at h
  exact ciB_small hg (List.all_eq_true.1 h.2 c hc)
set_option maxHeartbeats 1000000 in
theorem impl_hasCiphers1 (gr : GroupD) (v : Value) (d : CipherD) (b : Nat) (w : World) (hg : OkG gr) (h : (kS rCipher).rd w v d) (hx : BoxN w b 39 [.int .i64 gr.p, .int .i64 gr.q, .int .i64 gr.g]) :
    Calls Try.prog 262 #[v, .pointer (some ⟨b, 0, none⟩)] w fun e w' => e = .returned (.bool (!ciB gr d)) ∧ Below w.heap.size w w' := by
  obtain ⟨q, hq⟩ : ∃ q, ciB gr d = q := ⟨_, rfl⟩
  have HQ := Lib.hid hq
  have HG := Lib.hid hg
  rw [hq]; clear hq hg
  obtain ⟨rfl, j0, j1⟩ := rdCipher.1 h
  clear h
  obtain ⟨W, hW⟩ : ∃ W, W = w.alloc (.cells #[.int .i64 d.a, .int .i64 d.b] 58) := ⟨_, rfl⟩
  have HB : Hid (Below w.heap.size w W) := by unfold Hid; rw [hW]; (repeat (first | exact Below.refl _ _ | assumption | refine Below.drew ?_ | refine Below.alloc ?_ (by first | (simp; done) | (simp; omega)) _ | refine Below.setCell ?_ (by first | (simp; done) | (simp; omega)) _))
  have c0 := box_at (hx.cell (i := 0) rfl) HB.out
  have c1 := box_at (hx.cell (i := 1) rfl) HB.out
  have c2 := box_at (hx.cell (i := 2) rfl) HB.out
  have hlt := hx.lt
  have e0 := hx.cell (i := 0) rfl
  have e1 := hx.cell (i := 1) rfl
  have e2 := hx.cell (i := 2) rfl
  clear hx
  have d0 : W.cell? ⟨w.heap.size, 0, none⟩ = some (.int .i64 d.a) := by rw [hW]; simp [go_sem]
  have d1 : W.cell? ⟨w.heap.size, 1, none⟩ = some (.int .i64 d.b) := by rw [hW]; simp [go_sem]
  go_enter Try.func262, Try.ntmps262
  go_wp2_with fail
  rw [← hW]
  clear hW
  refine (impl_hasCipher gr d _ HG.out).mono ?_
  rintro e w1 ⟨rfl, hb1⟩
  rw [HQ.out]
  go_wp2_with fail
  go_ret
  exact ⟨rfl, HB.out.trans (hb1.mono HB.out.size)⟩
set_option maxHeartbeats 1000000 in
theorem impl_hasCiphers (gr : GroupD) (v : Value) (ds : List CipherD) (w : World) (hg : OkG gr) (h : RdR rCipher w v ds) :
    Calls Try.prog 139 #[.agg #[.int .i64 gr.p, .int .i64 gr.q, .int .i64 gr.g], v] w fun e w' => e = .returned (.bool (cisB gr ds)) ∧ Below w.heap.size w w' := by
  obtain ⟨a, n, c, rfl⟩ := h.shape
  have e := h.len
  have HG := Lib.hid hg
  obtain ⟨W, hW⟩ : ∃ W, W = w.alloc (.cells #[.int .i64 gr.p, .int .i64 gr.q, .int .i64 gr.g] 39) := ⟨_, rfl⟩
  have HB : Hid (Below w.heap.size w W) := by unfold Hid; rw [hW]; (repeat (first | exact Below.refl _ _ | assumption | refine Below.drew ?_ | refine Below.alloc ?_ (by first | (simp; done) | (simp; omega)) _ | refine Below.setCell ?_ (by first | (simp; done) | (simp; omega)) _))
  have HX : Hid (BoxN W w.heap.size 39 [.int .i64 gr.p, .int .i64 gr.q, .int .i64 gr.g]) := by unfold Hid; rw [hW]; exact BoxN.new w _ _
  have H : Hid ((kR 58 rCipher).rd W (.slice a n c) ds) := (kR 58 rCipher).rd_below h HB.out
  clear h
  have HD : Hid (DecidesS rCipher W 262 #[.pointer (some ⟨w.heap.size, 0, none⟩)] (fun d => !ciB gr d)) :=
    ⟨Try.call262, fun v d wr hx hb => impl_hasCiphers1 gr v d _ wr HG.out hx (HX.out.below hb)⟩
  by_cases hn : (n : Int) ≤ 24
  · have HR : Hid (cisB gr ds = !(ds.any fun d => !ciB gr d)) := by unfold Hid cisB; rw [ciB_any, decide_eq_true (by omega)]; simp
    obtain ⟨q, hq⟩ : ∃ q, (ds.any fun d => !ciB gr d) = q := ⟨_, rfl⟩
    have HQ := Lib.hid hq
    rw [hq] at HR; clear hq e hg
    go_enter Try.func139, Try.ntmps139
    go_wp2_with fail
    rw [← hW]
    clear hW
    refine (slices_ContainsFuncCipher _ ds _ _ (fun d => !ciB gr d) _ H.out HD.out).mono ?_
    rintro e w1 ⟨rfl, hb⟩
    rw [HQ.out]
    go_wp2_with fail
    go_ret
    exact ⟨ret_bool (by first | (rw [HR.out]; done) | (rw [HR.out]; rfl) | exact HR.out.symm), HB.out.trans (hb.mono HB.out.size)⟩
  · have HR : Hid (cisB gr ds = false) := by unfold Hid cisB; rw [decide_eq_false (by omega)]; rfl
    clear e hg
    go_enter Try.func139, Try.ntmps139
    go_wp2_with fail
    go_ret
    exact ⟨ret_bool (by first | (rw [HR.out]; done) | (rw [HR.out]; rfl) | exact HR.out.symm), by rw [← hW]; exact HB.out⟩
theorem mulL_one {gr : GroupD} {x : Int} (h : 0 ≤ x) (h2 : x < gr.p) : mulL gr [1, x] = x := by
  unfold mulL
  simp only [List.foldl_cons, List.foldl_nil, Int.one_mul]
  rw [emod_mul_left]
  rw [Int.one_mul]
  exact Int.emod_eq_of_lt h h2
theorem c2_one {gr : GroupD} (hg : OkG gr) {c : CipherD} (h : ciB gr c = true) : c2 gr ⟨1, 1⟩ c = c := by
  unfold ciB at h
  rw [Bool.and_eq_true] at h
  have h1 := elB_bd h.1
  have h2 := elB_bd h.2
  unfold c2
  rw [mulL_one (by omega) (by omega), mulL_one (by omega) (by omega)]
theorem eM_two {gr : GroupD} (hg : OkG gr) {c d : CipherD} (h : ciB gr c = true) : eM gr [c, d] = c2 gr c d := by
  unfold eM
  rw [List.foldl_cons, c2_one hg h]; rfl
theorem FrR.lit {δ : Type} {e : TypeId} {R : RowK δ} (w : World) (css : List (List Value)) {ds : List δ} {cs : Array Value} {n : Nat} (hcs : cs = css.flatten.toArray) (hl : css.length = ds.length) (hn : n = ds.length) (hm : n ≤ maxLen) (hsz : cs.size = n * R.width)
    (hel : ∀ i (h1 : i < css.length) (h2 : i < ds.length), R.rd w css[i] ds[i]) : FrR e R w (w.alloc (.cells cs e)) w.heap.size (.slice (some ⟨w.heap.size, 0, none⟩) n n) ds := by
  have hO := World.ownsRow_lit (e := e) (size := R.width) w cs n (Nat.le_refl _) hm hsz
  subst hcs
  rw [hn] at hO ⊢
  exact ⟨css, hl, by simpa using hO, hel⟩
def SmallCI (c : CipherD) : Prop := I64 c.a ∧ I64 c.b
theorem SmallC.ci {c : CipherD} (h : SmallC c) : SmallCI c := ⟨small_64 h.1, small_64 h.2⟩
def AllCI (l : List CipherD) : Prop := ∀ c ∈ l, SmallCI c
theorem rowC {w : World} {c : CipherD} (h : SmallCI c) : rCipher.rd w [.int .i64 c.a, .int .i64 c.b] c := by
  obtain ⟨us, e, hr⟩ := (rdCipher (w := w)).2 ⟨rfl, h.1, h.2⟩
  obtain rfl : us = [.int .i64 c.a, .int .i64 c.b] := by have h := Value.agg.inj e; simpa using (congrArg Array.toList h).symm
  exact hr
def rowsC (c : CipherD) : List Value := [.int .i64 c.a, .int .i64 c.b]
theorem RdC.lit (w : World) {l : List CipherD} (h : AllCI l) {cs : Array Value} (hcs : cs = (l.map rowsC).flatten.toArray) (n : Nat) (hn : n = l.length) (hm : n ≤ maxLen) :
    RdR rCipher (w.alloc (.cells cs 58)) (.slice (some ⟨w.heap.size, 0, none⟩) n n) l := by
  refine (FrR.lit (e := 58) (R := rCipher) w (l.map rowsC) hcs (by simp) hn hm ?_ (fun i h1 h2 => ?_)).rd ((Below.refl _ _).alloc (Nat.le_refl _) _)
  · subst hcs
    rw [List.size_toArray, flat_len (s := 2) (fun c hc => by obtain ⟨d, _, rfl⟩ := List.mem_map.1 hc; rfl), List.length_map, hn]
    rfl
  · simp only [List.getElem_map]
    exact rowC (h _ (List.getElem_mem _))
theorem AllSmallC.nil : AllSmallC [] := fun x hx => by cases hx
theorem AllSmallC.cons {x : CipherD} {l : List CipherD} (h : SmallC x) (h' : AllSmallC l) : AllSmallC (x :: l) := fun y hy => by
  rcases List.mem_cons.1 hy with rfl | hy
  · exact h
  · exact h' y hy
theorem AllCI.nil : AllCI [] := fun x hx => by cases hx
theorem AllCI.cons {x : CipherD} {l : List CipherD} (h : SmallCI x) (h' : AllCI l) : AllCI (x :: l) := fun y hy => by
  rcases List.mem_cons.1 hy with rfl | hy
  · exact h
  · exact h' y hy
theorem eGood1 (gr : GroupD) (v : Value) (c : CipherD) (w : World) (hg : OkG gr) (h : RdR rCipher w v [c]) :
    Calls Try.prog 143 #[.agg #[.int .i64 gr.p, .int .i64 gr.q, .int .i64 gr.g], v] w fun e w' => e = .returned (.bool (ciB gr c)) ∧ Below w.heap.size w w' := by
  have := spec_eGood gr v [c] w hg h
  simpa using this
theorem spec_eGoodC (gr : GroupD) (v : Value) (l : List CipherD) (w : World) (hg : OkG gr) (h : RdR rCipher w v l) :
    Calls Try.prog 143 #[.agg #[.int .i64 gr.p, .int .i64 gr.q, .int .i64 gr.g], v] w fun e w' => e = .returned (.bool (cisB gr l)) ∧ Below w.heap.size w w' := spec_eGood gr v l w hg h
noncomputable def pcB (gr : GroupD) (c : CipherD) (e : Int) : Bool := goodG gr && (ciB gr c && expB gr e)
noncomputable def pcR (gr : GroupD) (c : CipherD) (e : Int) : CipherD := if pcB gr c e = true then pwC gr c e else ⟨0, 0⟩
noncomputable def rcB (gr : GroupD) (key : Int) (c : CipherD) (r : Int) : Bool := goodG gr && (elB gr key && (ciB gr c && expB gr r))
noncomputable def rcR (gr : GroupD) (key : Int) (c : CipherD) (r : Int) : CipherD := if rcB gr key c r = true then reC gr key c r else ⟨0, 0⟩
set_option maxRecDepth 100000 in
set_option maxHeartbeats 2000000 in
theorem spec_eRe (gr : GroupD) (key : Int) (c : CipherD) (r : Int) (w : World) (hg : OkG gr) (hk : Small key) (hcc : ciB gr c = true) (hr : I64 r) :
    Calls Try.prog 145 #[.agg #[.int .i64 gr.p, .int .i64 gr.q, .int .i64 gr.g], .int .i64 key, .agg #[.int .i64 c.a, .int .i64 c.b], .int .i64 r] w fun e w' => e = .returned (.agg #[.int .i64 (reC gr key c r).a, .int .i64 (reC gr key c r).b]) ∧ Below w.heap.size w w' := by
  have HG := Lib.hid hg
  clear hg
  have Hc := Lib.hid hcc
  clear hcc
  have HEQ : Hid (reC gr key c r = eM gr [c, (enC gr key 1 r)]) := by unfold Hid reC; rw [eM_two HG.out Hc.out]
  rw [HEQ.out]
  have HV : Hid ((.agg #[.int .i64 (eM gr [c, (enC gr key 1 r)]).a, .int .i64 (eM gr [c, (enC gr key 1 r)]).b] : Value) = .agg #[.int .i64 ((eM gr [c, (enC gr key 1 r)]).a), .int .i64 ((eM gr [c, (enC gr key 1 r)]).b)]) := by unfold Hid; simp []
  rw [HV.out]
  obtain ⟨W, hW⟩ : ∃ W, W = ((w.alloc (.cells #[.int .i64 gr.p, .int .i64 gr.q, .int .i64 gr.g] 39)).alloc (.cells #[.int .i64 c.a, .int .i64 c.b] 58)).alloc (.cells #[.int .i64 0, .int .i64 0] 58) := ⟨_, rfl⟩
  have HB : Hid (Below w.heap.size w W) := by unfold Hid; rw [hW]; (repeat (first | exact Below.refl _ _ | assumption | refine Below.drew ?_ | refine Below.alloc ?_ (by first | (simp; done) | (simp; omega)) _ | refine Below.setCell ?_ (by first | (simp; done) | (simp; omega)) _))
  have c0_0 : W.cell? ⟨w.heap.size, 0, none⟩ = some (.int .i64 gr.p) := by rw [hW]; simp [go_sem]
  have c0_1 : W.cell? ⟨w.heap.size, 1, none⟩ = some (.int .i64 gr.q) := by rw [hW]; simp [go_sem]
  have c0_2 : W.cell? ⟨w.heap.size, 2, none⟩ = some (.int .i64 gr.g) := by rw [hW]; simp [go_sem]
  have c1_0 : W.cell? ⟨w.heap.size + 1, 0, none⟩ = some (.int .i64 c.a) := by rw [hW]; simp [go_sem]
  have c1_1 : W.cell? ⟨w.heap.size + 1, 1, none⟩ = some (.int .i64 c.b) := by rw [hW]; simp [go_sem]
  have c2_0x : W.cell? ⟨w.heap.size + 1 + 1, 0, none⟩ = some (.int .i64 0) := by rw [hW]; simp [go_sem]
  have c2_1x : W.cell? ⟨w.heap.size + 1 + 1, 1, none⟩ = some (.int .i64 0) := by rw [hW]; simp [go_sem]
  have HR2 : Hid (BoxN W (w.heap.size + 1 + 1) 58 [.int .i64 0, .int .i64 0]) := by unfold Hid; rw [hW]; have h := (BoxN.new ((w.alloc (.cells #[.int .i64 gr.p, .int .i64 gr.q, .int .i64 gr.g] 39)).alloc (.cells #[.int .i64 c.a, .int .i64 c.b] 58)) [.int .i64 0, .int .i64 0] 58); simpa using h
  have HSW : Hid (W.heap.size = w.heap.size + 3) := by unfold Hid; rw [hW]; simp
  have lr2 : w.heap.size + 1 + 1 < W.heap.size := by have := HSW.out; omega
  clear c2_0x
  clear c2_1x
  go_enter Try.func145, Try.ntmps145
  go_wp2_with fail
  rw [← hW]
  clear hW
  have hc : Below W.heap.size W W := Below.refl _ _
  try (go_wp2_with fail)
  refine wp_region_noPanic ?_
  refine wp_region_P (fun w' => w'.cell? ⟨w.heap.size, 0, none⟩ = some (.int .i64 gr.p) ∧ w'.cell? ⟨w.heap.size, 1, none⟩ = some (.int .i64 gr.q) ∧ w'.cell? ⟨w.heap.size, 2, none⟩ = some (.int .i64 gr.g) ∧ w'.cell? ⟨w.heap.size + 1, 0, none⟩ = some (.int .i64 c.a) ∧ w'.cell? ⟨w.heap.size + 1, 1, none⟩ = some (.int .i64 c.b)) 11 [(0, []), (1, []), (2, []), (3, []), (4, []), (5, [2, 1, 0]), (6, [4, 0]), (7, [6, 0])] [8] (by kernel_rfl) (by kernel_rfl) (by kernel_rfl) rfl (fun _ _ _ _ h => h) (fun w' h => ⟨box_at c0_0 h, box_at c0_1 h, box_at c0_2 h, box_at c1_0 h, box_at c1_1 h⟩) ?_
  simp only [pickP, pickN, List.getElem?_cons_zero, List.getElem?_cons_succ]
  -- 0: load 39 t4
  refine' chainP_read (d := (some 9)) _ rfl rfl (fun w' hS' => ?_) ?_; rotate_left
  · simp only [lookP, allP, Act.put, List.getElem?_cons_zero, List.getElem?_cons_succ, List.setIfInBounds_toArray, List.set_cons_zero, List.set_cons_succ]
    (try dsimp only at hS')
    go_simp
    (try with_reducible rfl)
  -- 1: load 58 t6
  refine' chainP_read (d := (some 10)) _ rfl rfl (fun w' hS' => ?_) ?_; rotate_left
  · simp only [lookP, allP, Act.put, List.getElem?_cons_zero, List.getElem?_cons_succ, List.setIfInBounds_toArray, List.set_cons_zero, List.set_cons_succ]
    (try dsimp only at hS')
    go_simp
    (try with_reducible rfl)
  -- 2: load 39 t4
  refine' chainP_read (d := (some 11)) _ rfl rfl (fun w' hS' => ?_) ?_; rotate_left
  · simp only [lookP, allP, Act.put, List.getElem?_cons_zero, List.getElem?_cons_succ, List.setIfInBounds_toArray, List.set_cons_zero, List.set_cons_succ]
    (try dsimp only at hS')
    go_simp
    (try with_reducible rfl)
  -- 3: move t1
  refine' chainP_read (d := (some 12)) _ rfl rfl (fun w' hS' => ?_) ?_; rotate_left
  · simp only [lookP, allP, Act.put, List.getElem?_cons_zero, List.getElem?_cons_succ, List.setIfInBounds_toArray, List.set_cons_zero, List.set_cons_succ]
    (try dsimp only at hS')
    go_simp
    (try with_reducible rfl)
  -- 4: move t3
  refine' chainP_read (d := (some 13)) _ rfl rfl (fun w' hS' => ?_) ?_; rotate_left
  · simp only [lookP, allP, Act.put, List.getElem?_cons_zero, List.getElem?_cons_succ, List.setIfInBounds_toArray, List.set_cons_zero, List.set_cons_succ]
    (try dsimp only at hS')
    go_simp
    (try with_reducible rfl)
  -- 5: call { callee := value (func 157), args := #[t11, t12, const (int i64 1), t13], argTypes := #[39, 3, 3, 3] }
  refine chainP_call (d := (some 14)) (.agg #[.int .i64 ((enC gr key 1 r).a), .int .i64 ((enC gr key 1 r).b)]) rfl rfl (fun w' hS' => ?_) ?_
  · simp only [lookP, allP, Act.put, List.getElem?_cons_zero, List.getElem?_cons_succ, List.setIfInBounds_toArray, List.set_cons_zero, List.set_cons_succ]
    intro K hK
    go_simp
    go_at_call 157
    refine (spec_eEnc gr key 1 r _ HG.out hk ⟨by decide, by decide⟩ hr).mono ?_
    rintro e u ⟨rfl, hq⟩
    exact hK.out _ hq
  -- 6: buildSlice 52 2 #[(0, t10), (1, t14)]
  refine chainP_do (d := (some 15)) (fun v w => RdR rCipher w v [c, (enC gr key 1 r)]) (fun v w w' hb h => RdR.below h hb) rfl rfl (fun w' hS' => ?_) ?_
  · simp only [lookP, allP, Act.put, List.getElem?_cons_zero, List.getElem?_cons_succ, List.setIfInBounds_toArray, List.set_cons_zero, List.set_cons_succ]
    intro K hK
    go_simp
    refine hK.out _ _ ((Below.refl _ _).alloc (Nat.le_refl _) _) ?_
    exact RdC.lit w' (l := [c, (enC gr key 1 r)]) (AllCI.cons (SmallC.ci (ciB_small HG.out Hc.out)) (AllCI.cons (SmallC.ci (enC_small HG.out _ _ _)) AllCI.nil)) rfl 2 rfl (by unfold maxLen; omega)
  -- 7: call { callee := value (func 265), args := #[t9, t15], argTypes := #[39, 52] }
  refine chainP_call (d := (some 16)) (.agg #[.int .i64 ((eM gr [c, (enC gr key 1 r)]).a), .int .i64 ((eM gr [c, (enC gr key 1 r)]).b)]) rfl rfl (fun w' hS' => ?_) ?_
  · simp only [lookP, allP, Act.put, List.getElem?_cons_zero, List.getElem?_cons_succ, List.setIfInBounds_toArray, List.set_cons_zero, List.set_cons_succ]
    intro x6 hx6
    intro K hK
    go_simp
    go_at_call 265
    refine (spec_eMul gr _ [c, (enC gr key 1 r)] _ HG.out hx6 (AllSmallC.cons (ciB_small HG.out Hc.out) (AllSmallC.cons (enC_small HG.out _ _ _) AllSmallC.nil))).mono ?_
    rintro e u ⟨rfl, hq⟩
    exact hK.out _ hq
  refine chainP_nil (fun u1 hS' => ?_)
  simp only [allP, Act.put, List.setIfInBounds_toArray, List.set_cons_zero, List.set_cons_succ]
  intro x6 hx6
  have hq1 := hS'.1
  clear hS'
  replace hc := Below.next hc hq1
  replace c0_0 := box_at c0_0 hq1
  replace c0_1 := box_at c0_1 hq1
  replace c0_2 := box_at c0_2 hq1
  replace c1_0 := box_at c1_0 hq1
  replace c1_1 := box_at c1_1 hq1
  clear hq1
  have HRE2 := Lib.hid (HR2.out.below hc)
  clear HR2
  have HBE := Lib.hid (HB.out.trans (hc.mono HB.out.size))
  have r2_0 := HRE2.out.cell (i := 0) rfl
  have r2_1 := HRE2.out.cell (i := 1) rfl
  have fr2 := fun j => HRE2.out.frozen j
  go_wp2_with fail
  refine NoPanic.normal ?_
  have HRF := Lib.hid ((HRE2.out.set 0 (.int .i64 ((eM gr [c, (enC gr key 1 r)]).a))).set 1 (.int .i64 ((eM gr [c, (enC gr key 1 r)]).b)))
  have HBF := Lib.hid ((HBE.out.setCell (p := ⟨w.heap.size + 1 + 1, 0, none⟩) (by show w.heap.size ≤ w.heap.size + 1 + 1; omega) (.int .i64 ((eM gr [c, (enC gr key 1 r)]).a))).setCell (p := ⟨w.heap.size + 1 + 1, 1, none⟩) (by show w.heap.size ≤ w.heap.size + 1 + 1; omega) (.int .i64 ((eM gr [c, (enC gr key 1 r)]).b)))
  clear r2_0 r2_1 fr2
  have r2_0 := HRF.out.cell (i := 0) rfl
  have r2_1 := HRF.out.cell (i := 1) rfl
  try (go_wp2_with fail)
  refine bodyPost_ret (v := .agg #[.int .i64 ((eM gr [c, (enC gr key 1 r)]).a), .int .i64 ((eM gr [c, (enC gr key 1 r)]).b)]) (by simp [results, Try.results145, go_sem, r2_0, r2_1]) rfl ⟨rfl, HBF.out⟩
set_option maxRecDepth 100000 in
set_option maxHeartbeats 2000000 in
theorem impl_PowCipher (gr : GroupD) (c : CipherD) (e0 : Int) (w : World) (jc : SmallCI c) (he : I64 e0) :
    Calls Try.prog 31 #[.agg #[.int .i64 gr.p, .int .i64 gr.q, .int .i64 gr.g], .agg #[.int .i64 c.a, .int .i64 c.b], .int .i64 e0] w fun e w' => e = .returned (.tuple #[.agg #[.int .i64 (pcR gr c e0).a, .int .i64 (pcR gr c e0).b], .bool (pcB gr c e0)]) ∧ Below w.heap.size w w' := by
  cases hc1 : goodG gr with
  | false =>
    have HV : Hid ((.tuple #[.agg #[.int .i64 (pcR gr c e0).a, .int .i64 (pcR gr c e0).b], .bool (pcB gr c e0)] : Value) = .tuple #[.agg #[.int .i64 0, .int .i64 0], .bool false]) := by unfold Hid; simp [pcR, pcB, hc1]
    rw [HV.out]
    have Hhc1 := Lib.hid hc1
    clear hc1
    obtain ⟨W, hW⟩ : ∃ W, W = ((w.alloc (.cells #[.int .i64 gr.p, .int .i64 gr.q, .int .i64 gr.g] 39)).alloc (.cells #[.int .i64 c.a, .int .i64 c.b] 58)).alloc (.cells #[.int .i64 0, .int .i64 0] 58) := ⟨_, rfl⟩
    have HB : Hid (Below w.heap.size w W) := by unfold Hid; rw [hW]; (repeat (first | exact Below.refl _ _ | assumption | refine Below.drew ?_ | refine Below.alloc ?_ (by first | (simp; done) | (simp; omega)) _ | refine Below.setCell ?_ (by first | (simp; done) | (simp; omega)) _))
    have c0_0 : W.cell? ⟨w.heap.size, 0, none⟩ = some (.int .i64 gr.p) := by rw [hW]; simp [go_sem]
    have c0_1 : W.cell? ⟨w.heap.size, 1, none⟩ = some (.int .i64 gr.q) := by rw [hW]; simp [go_sem]
    have c0_2 : W.cell? ⟨w.heap.size, 2, none⟩ = some (.int .i64 gr.g) := by rw [hW]; simp [go_sem]
    have c1_0 : W.cell? ⟨w.heap.size + 1, 0, none⟩ = some (.int .i64 c.a) := by rw [hW]; simp [go_sem]
    have c1_1 : W.cell? ⟨w.heap.size + 1, 1, none⟩ = some (.int .i64 c.b) := by rw [hW]; simp [go_sem]
    have c2_0x : W.cell? ⟨w.heap.size + 1 + 1, 0, none⟩ = some (.int .i64 0) := by rw [hW]; simp [go_sem]
    have c2_1x : W.cell? ⟨w.heap.size + 1 + 1, 1, none⟩ = some (.int .i64 0) := by rw [hW]; simp [go_sem]
    have HR2 : Hid (BoxN W (w.heap.size + 1 + 1) 58 [.int .i64 0, .int .i64 0]) := by unfold Hid; rw [hW]; have h := (BoxN.new ((w.alloc (.cells #[.int .i64 gr.p, .int .i64 gr.q, .int .i64 gr.g] 39)).alloc (.cells #[.int .i64 c.a, .int .i64 c.b] 58)) [.int .i64 0, .int .i64 0] 58); simpa using h
    have HSW : Hid (W.heap.size = w.heap.size + 3) := by unfold Hid; rw [hW]; simp
    have lr2 : w.heap.size + 1 + 1 < W.heap.size := by have := HSW.out; omega
    clear c2_0x
    clear c2_1x
    go_enter Try.func31, Try.ntmps31
    go_wp2_with fail
    rw [← hW]
    clear hW
    have hc : Below W.heap.size W W := Below.refl _ _
    go_wp2_with fail
    refine (impl_IsValidGroup gr _).mono ?_
    rintro e u1 ⟨rfl, hq1⟩
    replace hc := Below.next hc hq1
    replace c0_0 := box_at c0_0 hq1
    replace c0_1 := box_at c0_1 hq1
    replace c0_2 := box_at c0_2 hq1
    replace c1_0 := box_at c1_0 hq1
    replace c1_1 := box_at c1_1 hq1
    clear hq1
    rw [Hhc1.out]
    have HRE2 := Lib.hid (HR2.out.below hc)
    clear HR2
    have HBE := Lib.hid (HB.out.trans (hc.mono HB.out.size))
    have r2_0 := HRE2.out.cell (i := 0) rfl
    have r2_1 := HRE2.out.cell (i := 1) rfl
    have fr2 := fun j => HRE2.out.frozen j
    go_wp2_with fail
    have HRF := Lib.hid ((HRE2.out.set 0 (.int .i64 0)).set 1 (.int .i64 0))
    have HBF := Lib.hid ((HBE.out.setCell (p := ⟨w.heap.size + 1 + 1, 0, none⟩) (by show w.heap.size ≤ w.heap.size + 1 + 1; omega) (.int .i64 0)).setCell (p := ⟨w.heap.size + 1 + 1, 1, none⟩) (by show w.heap.size ≤ w.heap.size + 1 + 1; omega) (.int .i64 0))
    clear r2_0 r2_1 fr2
    have r2_0 := HRF.out.cell (i := 0) rfl
    have r2_1 := HRF.out.cell (i := 1) rfl
    try (go_wp2_with fail)
    refine bodyPost_ret (v := .tuple #[.agg #[.int .i64 0, .int .i64 0], .bool false]) (by simp [results, Try.results31, go_sem, r2_0, r2_1]) rfl ⟨rfl, HBF.out⟩
  | true =>
    have HG := Lib.hid (goodG_ok hc1)
    cases hc2 : ciB gr c with
    | false =>
      have HV : Hid ((.tuple #[.agg #[.int .i64 (pcR gr c e0).a, .int .i64 (pcR gr c e0).b], .bool (pcB gr c e0)] : Value) = .tuple #[.agg #[.int .i64 0, .int .i64 0], .bool false]) := by unfold Hid; simp [pcR, pcB, hc1, hc2]
      rw [HV.out]
      have Hhc1 := Lib.hid hc1
      clear hc1
      have Hhc2 := Lib.hid hc2
      clear hc2
      obtain ⟨W, hW⟩ : ∃ W, W = ((w.alloc (.cells #[.int .i64 gr.p, .int .i64 gr.q, .int .i64 gr.g] 39)).alloc (.cells #[.int .i64 c.a, .int .i64 c.b] 58)).alloc (.cells #[.int .i64 0, .int .i64 0] 58) := ⟨_, rfl⟩
      have HB : Hid (Below w.heap.size w W) := by unfold Hid; rw [hW]; (repeat (first | exact Below.refl _ _ | assumption | refine Below.drew ?_ | refine Below.alloc ?_ (by first | (simp; done) | (simp; omega)) _ | refine Below.setCell ?_ (by first | (simp; done) | (simp; omega)) _))
      have c0_0 : W.cell? ⟨w.heap.size, 0, none⟩ = some (.int .i64 gr.p) := by rw [hW]; simp [go_sem]
      have c0_1 : W.cell? ⟨w.heap.size, 1, none⟩ = some (.int .i64 gr.q) := by rw [hW]; simp [go_sem]
      have c0_2 : W.cell? ⟨w.heap.size, 2, none⟩ = some (.int .i64 gr.g) := by rw [hW]; simp [go_sem]
      have c1_0 : W.cell? ⟨w.heap.size + 1, 0, none⟩ = some (.int .i64 c.a) := by rw [hW]; simp [go_sem]
      have c1_1 : W.cell? ⟨w.heap.size + 1, 1, none⟩ = some (.int .i64 c.b) := by rw [hW]; simp [go_sem]
      have c2_0x : W.cell? ⟨w.heap.size + 1 + 1, 0, none⟩ = some (.int .i64 0) := by rw [hW]; simp [go_sem]
      have c2_1x : W.cell? ⟨w.heap.size + 1 + 1, 1, none⟩ = some (.int .i64 0) := by rw [hW]; simp [go_sem]
      have HR2 : Hid (BoxN W (w.heap.size + 1 + 1) 58 [.int .i64 0, .int .i64 0]) := by unfold Hid; rw [hW]; have h := (BoxN.new ((w.alloc (.cells #[.int .i64 gr.p, .int .i64 gr.q, .int .i64 gr.g] 39)).alloc (.cells #[.int .i64 c.a, .int .i64 c.b] 58)) [.int .i64 0, .int .i64 0] 58); simpa using h
      have HSW : Hid (W.heap.size = w.heap.size + 3) := by unfold Hid; rw [hW]; simp
      have lr2 : w.heap.size + 1 + 1 < W.heap.size := by have := HSW.out; omega
      clear c2_0x
      clear c2_1x
      go_enter Try.func31, Try.ntmps31
      go_wp2_with fail
      rw [← hW]
      clear hW
      have hc : Below W.heap.size W W := Below.refl _ _
      go_wp2_with fail
      refine (impl_IsValidGroup gr _).mono ?_
      rintro e u1 ⟨rfl, hq1⟩
      replace hc := Below.next hc hq1
      replace c0_0 := box_at c0_0 hq1
      replace c0_1 := box_at c0_1 hq1
      replace c0_2 := box_at c0_2 hq1
      replace c1_0 := box_at c1_0 hq1
      replace c1_1 := box_at c1_1 hq1
      clear hq1
      rw [Hhc1.out]
      go_wp2_with fail
      refine (impl_hasCipher gr c _ HG.out).mono ?_
      rintro e u2 ⟨rfl, hq2⟩
      replace hc := Below.next hc hq2
      replace c0_0 := box_at c0_0 hq2
      replace c0_1 := box_at c0_1 hq2
      replace c0_2 := box_at c0_2 hq2
      replace c1_0 := box_at c1_0 hq2
      replace c1_1 := box_at c1_1 hq2
      clear hq2
      rw [Hhc2.out]
      have HRE2 := Lib.hid (HR2.out.below hc)
      clear HR2
      have HBE := Lib.hid (HB.out.trans (hc.mono HB.out.size))
      have r2_0 := HRE2.out.cell (i := 0) rfl
      have r2_1 := HRE2.out.cell (i := 1) rfl
      have fr2 := fun j => HRE2.out.frozen j
      go_wp2_with fail
      have HRF := Lib.hid ((HRE2.out.set 0 (.int .i64 0)).set 1 (.int .i64 0))
      have HBF := Lib.hid ((HBE.out.setCell (p := ⟨w.heap.size + 1 + 1, 0, none⟩) (by show w.heap.size ≤ w.heap.size + 1 + 1; omega) (.int .i64 0)).setCell (p := ⟨w.heap.size + 1 + 1, 1, none⟩) (by show w.heap.size ≤ w.heap.size + 1 + 1; omega) (.int .i64 0))
      clear r2_0 r2_1 fr2
      have r2_0 := HRF.out.cell (i := 0) rfl
      have r2_1 := HRF.out.cell (i := 1) rfl
      try (go_wp2_with fail)
      refine bodyPost_ret (v := .tuple #[.agg #[.int .i64 0, .int .i64 0], .bool false]) (by simp [results, Try.results31, go_sem, r2_0, r2_1]) rfl ⟨rfl, HBF.out⟩
    | true =>
      have Hc := Lib.hid hc2
      cases hc3 : expB gr e0 with
      | false =>
        have HV : Hid ((.tuple #[.agg #[.int .i64 (pcR gr c e0).a, .int .i64 (pcR gr c e0).b], .bool (pcB gr c e0)] : Value) = .tuple #[.agg #[.int .i64 0, .int .i64 0], .bool false]) := by unfold Hid; simp [pcR, pcB, hc1, hc2, hc3]
        rw [HV.out]
        have Hhc1 := Lib.hid hc1
        clear hc1
        have Hhc2 := Lib.hid hc2
        clear hc2
        have Hhc3 := Lib.hid hc3
        clear hc3
        obtain ⟨W, hW⟩ : ∃ W, W = ((w.alloc (.cells #[.int .i64 gr.p, .int .i64 gr.q, .int .i64 gr.g] 39)).alloc (.cells #[.int .i64 c.a, .int .i64 c.b] 58)).alloc (.cells #[.int .i64 0, .int .i64 0] 58) := ⟨_, rfl⟩
        have HB : Hid (Below w.heap.size w W) := by unfold Hid; rw [hW]; (repeat (first | exact Below.refl _ _ | assumption | refine Below.drew ?_ | refine Below.alloc ?_ (by first | (simp; done) | (simp; omega)) _ | refine Below.setCell ?_ (by first | (simp; done) | (simp; omega)) _))
        have c0_0 : W.cell? ⟨w.heap.size, 0, none⟩ = some (.int .i64 gr.p) := by rw [hW]; simp [go_sem]
        have c0_1 : W.cell? ⟨w.heap.size, 1, none⟩ = some (.int .i64 gr.q) := by rw [hW]; simp [go_sem]
        have c0_2 : W.cell? ⟨w.heap.size, 2, none⟩ = some (.int .i64 gr.g) := by rw [hW]; simp [go_sem]
        have c1_0 : W.cell? ⟨w.heap.size + 1, 0, none⟩ = some (.int .i64 c.a) := by rw [hW]; simp [go_sem]
        have c1_1 : W.cell? ⟨w.heap.size + 1, 1, none⟩ = some (.int .i64 c.b) := by rw [hW]; simp [go_sem]
        have c2_0x : W.cell? ⟨w.heap.size + 1 + 1, 0, none⟩ = some (.int .i64 0) := by rw [hW]; simp [go_sem]
        have c2_1x : W.cell? ⟨w.heap.size + 1 + 1, 1, none⟩ = some (.int .i64 0) := by rw [hW]; simp [go_sem]
        have HR2 : Hid (BoxN W (w.heap.size + 1 + 1) 58 [.int .i64 0, .int .i64 0]) := by unfold Hid; rw [hW]; have h := (BoxN.new ((w.alloc (.cells #[.int .i64 gr.p, .int .i64 gr.q, .int .i64 gr.g] 39)).alloc (.cells #[.int .i64 c.a, .int .i64 c.b] 58)) [.int .i64 0, .int .i64 0] 58); simpa using h
        have HSW : Hid (W.heap.size = w.heap.size + 3) := by unfold Hid; rw [hW]; simp
        have lr2 : w.heap.size + 1 + 1 < W.heap.size := by have := HSW.out; omega
        clear c2_0x
        clear c2_1x
        go_enter Try.func31, Try.ntmps31
        go_wp2_with fail
        rw [← hW]
        clear hW
        have hc : Below W.heap.size W W := Below.refl _ _
        go_wp2_with fail
        refine (impl_IsValidGroup gr _).mono ?_
        rintro e u1 ⟨rfl, hq1⟩
        replace hc := Below.next hc hq1
        replace c0_0 := box_at c0_0 hq1
        replace c0_1 := box_at c0_1 hq1
        replace c0_2 := box_at c0_2 hq1
        replace c1_0 := box_at c1_0 hq1
        replace c1_1 := box_at c1_1 hq1
        clear hq1
        rw [Hhc1.out]
        go_wp2_with fail
        refine (impl_hasCipher gr c _ HG.out).mono ?_
        rintro e u2 ⟨rfl, hq2⟩
        replace hc := Below.next hc hq2
        replace c0_0 := box_at c0_0 hq2
        replace c0_1 := box_at c0_1 hq2
        replace c0_2 := box_at c0_2 hq2
        replace c1_0 := box_at c1_0 hq2
        replace c1_1 := box_at c1_1 hq2
        clear hq2
        rw [Hhc2.out]
        go_wp2_with fail
        refine (impl_isExp gr e0 _ HG.out).mono ?_
        rintro e u3 ⟨rfl, hq3⟩
        replace hc := Below.next hc hq3
        replace c0_0 := box_at c0_0 hq3
        replace c0_1 := box_at c0_1 hq3
        replace c0_2 := box_at c0_2 hq3
        replace c1_0 := box_at c1_0 hq3
        replace c1_1 := box_at c1_1 hq3
        clear hq3
        rw [Hhc3.out]
        have HRE2 := Lib.hid (HR2.out.below hc)
        clear HR2
        have HBE := Lib.hid (HB.out.trans (hc.mono HB.out.size))
        have r2_0 := HRE2.out.cell (i := 0) rfl
        have r2_1 := HRE2.out.cell (i := 1) rfl
        have fr2 := fun j => HRE2.out.frozen j
        go_wp2_with fail
        have HRF := Lib.hid ((HRE2.out.set 0 (.int .i64 0)).set 1 (.int .i64 0))
        have HBF := Lib.hid ((HBE.out.setCell (p := ⟨w.heap.size + 1 + 1, 0, none⟩) (by show w.heap.size ≤ w.heap.size + 1 + 1; omega) (.int .i64 0)).setCell (p := ⟨w.heap.size + 1 + 1, 1, none⟩) (by show w.heap.size ≤ w.heap.size + 1 + 1; omega) (.int .i64 0))
        clear r2_0 r2_1 fr2
        have r2_0 := HRF.out.cell (i := 0) rfl
        have r2_1 := HRF.out.cell (i := 1) rfl
        try (go_wp2_with fail)
        refine bodyPost_ret (v := .tuple #[.agg #[.int .i64 0, .int .i64 0], .bool false]) (by simp [results, Try.results31, go_sem, r2_0, r2_1]) rfl ⟨rfl, HBF.out⟩
      | true =>
        have HV : Hid ((.tuple #[.agg #[.int .i64 (pcR gr c e0).a, .int .i64 (pcR gr c e0).b], .bool (pcB gr c e0)] : Value) = .tuple #[.agg #[.int .i64 ((pwC gr c e0).a), .int .i64 ((pwC gr c e0).b)], .bool true]) := by unfold Hid; simp [pcR, pcB, hc1, hc2, hc3]
        rw [HV.out]
        have Hhc1 := Lib.hid hc1
        clear hc1
        have Hhc2 := Lib.hid hc2
        clear hc2
        have Hhc3 := Lib.hid hc3
        clear hc3
        obtain ⟨W, hW⟩ : ∃ W, W = ((w.alloc (.cells #[.int .i64 gr.p, .int .i64 gr.q, .int .i64 gr.g] 39)).alloc (.cells #[.int .i64 c.a, .int .i64 c.b] 58)).alloc (.cells #[.int .i64 0, .int .i64 0] 58) := ⟨_, rfl⟩
        have HB : Hid (Below w.heap.size w W) := by unfold Hid; rw [hW]; (repeat (first | exact Below.refl _ _ | assumption | refine Below.drew ?_ | refine Below.alloc ?_ (by first | (simp; done) | (simp; omega)) _ | refine Below.setCell ?_ (by first | (simp; done) | (simp; omega)) _))
        have c0_0 : W.cell? ⟨w.heap.size, 0, none⟩ = some (.int .i64 gr.p) := by rw [hW]; simp [go_sem]
        have c0_1 : W.cell? ⟨w.heap.size, 1, none⟩ = some (.int .i64 gr.q) := by rw [hW]; simp [go_sem]
        have c0_2 : W.cell? ⟨w.heap.size, 2, none⟩ = some (.int .i64 gr.g) := by rw [hW]; simp [go_sem]
        have c1_0 : W.cell? ⟨w.heap.size + 1, 0, none⟩ = some (.int .i64 c.a) := by rw [hW]; simp [go_sem]
        have c1_1 : W.cell? ⟨w.heap.size + 1, 1, none⟩ = some (.int .i64 c.b) := by rw [hW]; simp [go_sem]
        have c2_0x : W.cell? ⟨w.heap.size + 1 + 1, 0, none⟩ = some (.int .i64 0) := by rw [hW]; simp [go_sem]
        have c2_1x : W.cell? ⟨w.heap.size + 1 + 1, 1, none⟩ = some (.int .i64 0) := by rw [hW]; simp [go_sem]
        have HR2 : Hid (BoxN W (w.heap.size + 1 + 1) 58 [.int .i64 0, .int .i64 0]) := by unfold Hid; rw [hW]; have h := (BoxN.new ((w.alloc (.cells #[.int .i64 gr.p, .int .i64 gr.q, .int .i64 gr.g] 39)).alloc (.cells #[.int .i64 c.a, .int .i64 c.b] 58)) [.int .i64 0, .int .i64 0] 58); simpa using h
        have HSW : Hid (W.heap.size = w.heap.size + 3) := by unfold Hid; rw [hW]; simp
        have lr2 : w.heap.size + 1 + 1 < W.heap.size := by have := HSW.out; omega
        clear c2_0x
        clear c2_1x
        go_enter Try.func31, Try.ntmps31
        go_wp2_with fail
        rw [← hW]
        clear hW
        have hc : Below W.heap.size W W := Below.refl _ _
        go_wp2_with fail
        refine (impl_IsValidGroup gr _).mono ?_
        rintro e u1 ⟨rfl, hq1⟩
        replace hc := Below.next hc hq1
        replace c0_0 := box_at c0_0 hq1
        replace c0_1 := box_at c0_1 hq1
        replace c0_2 := box_at c0_2 hq1
        replace c1_0 := box_at c1_0 hq1
        replace c1_1 := box_at c1_1 hq1
        clear hq1
        rw [Hhc1.out]
        go_wp2_with fail
        refine (impl_hasCipher gr c _ HG.out).mono ?_
        rintro e u2 ⟨rfl, hq2⟩
        replace hc := Below.next hc hq2
        replace c0_0 := box_at c0_0 hq2
        replace c0_1 := box_at c0_1 hq2
        replace c0_2 := box_at c0_2 hq2
        replace c1_0 := box_at c1_0 hq2
        replace c1_1 := box_at c1_1 hq2
        clear hq2
        rw [Hhc2.out]
        go_wp2_with fail
        refine (impl_isExp gr e0 _ HG.out).mono ?_
        rintro e u3 ⟨rfl, hq3⟩
        replace hc := Below.next hc hq3
        replace c0_0 := box_at c0_0 hq3
        replace c0_1 := box_at c0_1 hq3
        replace c0_2 := box_at c0_2 hq3
        replace c1_0 := box_at c1_0 hq3
        replace c1_1 := box_at c1_1 hq3
        clear hq3
        rw [Hhc3.out]
        go_wp2_with fail
        refine (impl_powCipher gr c e0 _ HG.out (ciB_small HG.out Hc.out) he).mono ?_
        rintro e u4 ⟨rfl, hq4⟩
        replace hc := Below.next hc hq4
        replace c0_0 := box_at c0_0 hq4
        replace c0_1 := box_at c0_1 hq4
        replace c0_2 := box_at c0_2 hq4
        replace c1_0 := box_at c1_0 hq4
        replace c1_1 := box_at c1_1 hq4
        clear hq4
        have HRE2 := Lib.hid (HR2.out.below hc)
        clear HR2
        have HBE := Lib.hid (HB.out.trans (hc.mono HB.out.size))
        have r2_0 := HRE2.out.cell (i := 0) rfl
        have r2_1 := HRE2.out.cell (i := 1) rfl
        have fr2 := fun j => HRE2.out.frozen j
        go_wp2_with fail
        have HRF := Lib.hid ((HRE2.out.set 0 (.int .i64 ((pwC gr c e0).a))).set 1 (.int .i64 ((pwC gr c e0).b)))
        have HBF := Lib.hid ((HBE.out.setCell (p := ⟨w.heap.size + 1 + 1, 0, none⟩) (by show w.heap.size ≤ w.heap.size + 1 + 1; omega) (.int .i64 ((pwC gr c e0).a))).setCell (p := ⟨w.heap.size + 1 + 1, 1, none⟩) (by show w.heap.size ≤ w.heap.size + 1 + 1; omega) (.int .i64 ((pwC gr c e0).b)))
        clear r2_0 r2_1 fr2
        have r2_0 := HRF.out.cell (i := 0) rfl
        have r2_1 := HRF.out.cell (i := 1) rfl
        try (go_wp2_with fail)
        refine bodyPost_ret (v := .tuple #[.agg #[.int .i64 ((pwC gr c e0).a), .int .i64 ((pwC gr c e0).b)], .bool true]) (by simp [results, Try.results31, go_sem, r2_0, r2_1]) rfl ⟨rfl, HBF.out⟩
set_option maxRecDepth 100000 in
set_option maxHeartbeats 2000000 in
theorem spec_PowCipher (gr : GroupD) (c : CipherD) (e0 : Int) (w : World) (jc : SmallCI c) (he : I64 e0) :
    Calls Try.prog 32 #[.agg #[.int .i64 gr.p, .int .i64 gr.q, .int .i64 gr.g], .agg #[.int .i64 c.a, .int .i64 c.b], .int .i64 e0] w fun e w' => e = .returned (.tuple #[.agg #[.int .i64 (pcR gr c e0).a, .int .i64 (pcR gr c e0).b], .bool (pcB gr c e0)]) ∧ Below w.heap.size w w' := by
  cases hc1 : goodG gr with
  | false =>
    have HV : Hid ((.tuple #[.agg #[.int .i64 (pcR gr c e0).a, .int .i64 (pcR gr c e0).b], .bool (pcB gr c e0)] : Value) = .tuple #[.agg #[.int .i64 0, .int .i64 0], .bool false]) := by unfold Hid; simp [pcR, pcB, hc1]
    rw [HV.out]
    have Hhc1 := Lib.hid hc1
    clear hc1
    obtain ⟨W, hW⟩ : ∃ W, W = ((w.alloc (.cells #[.int .i64 gr.p, .int .i64 gr.q, .int .i64 gr.g] 39)).alloc (.cells #[.int .i64 c.a, .int .i64 c.b] 58)).alloc (.cells #[.int .i64 0, .int .i64 0] 58) := ⟨_, rfl⟩
    have HB : Hid (Below w.heap.size w W) := by unfold Hid; rw [hW]; (repeat (first | exact Below.refl _ _ | assumption | refine Below.drew ?_ | refine Below.alloc ?_ (by first | (simp; done) | (simp; omega)) _ | refine Below.setCell ?_ (by first | (simp; done) | (simp; omega)) _))
    have c0_0 : W.cell? ⟨w.heap.size, 0, none⟩ = some (.int .i64 gr.p) := by rw [hW]; simp [go_sem]
    have c0_1 : W.cell? ⟨w.heap.size, 1, none⟩ = some (.int .i64 gr.q) := by rw [hW]; simp [go_sem]
    have c0_2 : W.cell? ⟨w.heap.size, 2, none⟩ = some (.int .i64 gr.g) := by rw [hW]; simp [go_sem]
    have c1_0 : W.cell? ⟨w.heap.size + 1, 0, none⟩ = some (.int .i64 c.a) := by rw [hW]; simp [go_sem]
    have c1_1 : W.cell? ⟨w.heap.size + 1, 1, none⟩ = some (.int .i64 c.b) := by rw [hW]; simp [go_sem]
    have c2_0x : W.cell? ⟨w.heap.size + 1 + 1, 0, none⟩ = some (.int .i64 0) := by rw [hW]; simp [go_sem]
    have c2_1x : W.cell? ⟨w.heap.size + 1 + 1, 1, none⟩ = some (.int .i64 0) := by rw [hW]; simp [go_sem]
    have HR2 : Hid (BoxN W (w.heap.size + 1 + 1) 58 [.int .i64 0, .int .i64 0]) := by unfold Hid; rw [hW]; have h := (BoxN.new ((w.alloc (.cells #[.int .i64 gr.p, .int .i64 gr.q, .int .i64 gr.g] 39)).alloc (.cells #[.int .i64 c.a, .int .i64 c.b] 58)) [.int .i64 0, .int .i64 0] 58); simpa using h
    have HSW : Hid (W.heap.size = w.heap.size + 3) := by unfold Hid; rw [hW]; simp
    have lr2 : w.heap.size + 1 + 1 < W.heap.size := by have := HSW.out; omega
    clear c2_0x
    clear c2_1x
    go_enter Try.func32, Try.ntmps32
    go_wp2_with fail
    rw [← hW]
    clear hW
    have hc : Below W.heap.size W W := Below.refl _ _
    go_wp2_with fail
    refine (spec_l2Good gr _).mono ?_
    rintro e u1 ⟨rfl, hq1⟩
    replace hc := Below.next hc hq1
    replace c0_0 := box_at c0_0 hq1
    replace c0_1 := box_at c0_1 hq1
    replace c0_2 := box_at c0_2 hq1
    replace c1_0 := box_at c1_0 hq1
    replace c1_1 := box_at c1_1 hq1
    clear hq1
    rw [Hhc1.out]
    have HRE2 := Lib.hid (HR2.out.below hc)
    clear HR2
    have HBE := Lib.hid (HB.out.trans (hc.mono HB.out.size))
    have r2_0 := HRE2.out.cell (i := 0) rfl
    have r2_1 := HRE2.out.cell (i := 1) rfl
    have fr2 := fun j => HRE2.out.frozen j
    go_wp2_with fail
    have HRF := Lib.hid ((HRE2.out.set 0 (.int .i64 0)).set 1 (.int .i64 0))
    have HBF := Lib.hid ((HBE.out.setCell (p := ⟨w.heap.size + 1 + 1, 0, none⟩) (by show w.heap.size ≤ w.heap.size + 1 + 1; omega) (.int .i64 0)).setCell (p := ⟨w.heap.size + 1 + 1, 1, none⟩) (by show w.heap.size ≤ w.heap.size + 1 + 1; omega) (.int .i64 0))
    clear r2_0 r2_1 fr2
    have r2_0 := HRF.out.cell (i := 0) rfl
    have r2_1 := HRF.out.cell (i := 1) rfl
    try (go_wp2_with fail)
    refine bodyPost_ret (v := .tuple #[.agg #[.int .i64 0, .int .i64 0], .bool false]) (by simp [results, Try.results32, go_sem, r2_0, r2_1]) rfl ⟨rfl, HBF.out⟩
  | true =>
    have HG := Lib.hid (goodG_ok hc1)
    cases hc2 : ciB gr c with
    | false =>
      have HV : Hid ((.tuple #[.agg #[.int .i64 (pcR gr c e0).a, .int .i64 (pcR gr c e0).b], .bool (pcB gr c e0)] : Value) = .tuple #[.agg #[.int .i64 0, .int .i64 0], .bool false]) := by unfold Hid; simp [pcR, pcB, hc1, hc2]
      rw [HV.out]
      have Hhc1 := Lib.hid hc1
      clear hc1
      have Hhc2 := Lib.hid hc2
      clear hc2
      obtain ⟨W, hW⟩ : ∃ W, W = ((w.alloc (.cells #[.int .i64 gr.p, .int .i64 gr.q, .int .i64 gr.g] 39)).alloc (.cells #[.int .i64 c.a, .int .i64 c.b] 58)).alloc (.cells #[.int .i64 0, .int .i64 0] 58) := ⟨_, rfl⟩
      have HB : Hid (Below w.heap.size w W) := by unfold Hid; rw [hW]; (repeat (first | exact Below.refl _ _ | assumption | refine Below.drew ?_ | refine Below.alloc ?_ (by first | (simp; done) | (simp; omega)) _ | refine Below.setCell ?_ (by first | (simp; done) | (simp; omega)) _))
      have c0_0 : W.cell? ⟨w.heap.size, 0, none⟩ = some (.int .i64 gr.p) := by rw [hW]; simp [go_sem]
      have c0_1 : W.cell? ⟨w.heap.size, 1, none⟩ = some (.int .i64 gr.q) := by rw [hW]; simp [go_sem]
      have c0_2 : W.cell? ⟨w.heap.size, 2, none⟩ = some (.int .i64 gr.g) := by rw [hW]; simp [go_sem]
      have c1_0 : W.cell? ⟨w.heap.size + 1, 0, none⟩ = some (.int .i64 c.a) := by rw [hW]; simp [go_sem]
      have c1_1 : W.cell? ⟨w.heap.size + 1, 1, none⟩ = some (.int .i64 c.b) := by rw [hW]; simp [go_sem]
      have c2_0x : W.cell? ⟨w.heap.size + 1 + 1, 0, none⟩ = some (.int .i64 0) := by rw [hW]; simp [go_sem]
      have c2_1x : W.cell? ⟨w.heap.size + 1 + 1, 1, none⟩ = some (.int .i64 0) := by rw [hW]; simp [go_sem]
      have HR2 : Hid (BoxN W (w.heap.size + 1 + 1) 58 [.int .i64 0, .int .i64 0]) := by unfold Hid; rw [hW]; have h := (BoxN.new ((w.alloc (.cells #[.int .i64 gr.p, .int .i64 gr.q, .int .i64 gr.g] 39)).alloc (.cells #[.int .i64 c.a, .int .i64 c.b] 58)) [.int .i64 0, .int .i64 0] 58); simpa using h
      have HSW : Hid (W.heap.size = w.heap.size + 3) := by unfold Hid; rw [hW]; simp
      have lr2 : w.heap.size + 1 + 1 < W.heap.size := by have := HSW.out; omega
      clear c2_0x
      clear c2_1x
      go_enter Try.func32, Try.ntmps32
      go_wp2_with fail
      rw [← hW]
      clear hW
      have hc : Below W.heap.size W W := Below.refl _ _
      go_wp2_with fail
      refine (spec_l2Good gr _).mono ?_
      rintro e u1 ⟨rfl, hq1⟩
      replace hc := Below.next hc hq1
      replace c0_0 := box_at c0_0 hq1
      replace c0_1 := box_at c0_1 hq1
      replace c0_2 := box_at c0_2 hq1
      replace c1_0 := box_at c1_0 hq1
      replace c1_1 := box_at c1_1 hq1
      clear hq1
      rw [Hhc1.out]
      go_wp2_with fail
      refine (eGood1 gr _ c _ HG.out (RdC.lit _ (l := [c]) (AllCI.cons jc AllCI.nil) rfl 1 rfl (by unfold maxLen; omega))).mono ?_
      rintro e u2 ⟨rfl, hq2⟩
      replace hq2 := Below.next (keep_al (Below.refl _ _) _) hq2
      replace hc := Below.next hc hq2
      replace c0_0 := box_at c0_0 hq2
      replace c0_1 := box_at c0_1 hq2
      replace c0_2 := box_at c0_2 hq2
      replace c1_0 := box_at c1_0 hq2
      replace c1_1 := box_at c1_1 hq2
      clear hq2
      rw [Hhc2.out]
      have HRE2 := Lib.hid (HR2.out.below hc)
      clear HR2
      have HBE := Lib.hid (HB.out.trans (hc.mono HB.out.size))
      have r2_0 := HRE2.out.cell (i := 0) rfl
      have r2_1 := HRE2.out.cell (i := 1) rfl
      have fr2 := fun j => HRE2.out.frozen j
      go_wp2_with fail
      have HRF := Lib.hid ((HRE2.out.set 0 (.int .i64 0)).set 1 (.int .i64 0))
      have HBF := Lib.hid ((HBE.out.setCell (p := ⟨w.heap.size + 1 + 1, 0, none⟩) (by show w.heap.size ≤ w.heap.size + 1 + 1; omega) (.int .i64 0)).setCell (p := ⟨w.heap.size + 1 + 1, 1, none⟩) (by show w.heap.size ≤ w.heap.size + 1 + 1; omega) (.int .i64 0))
      clear r2_0 r2_1 fr2
      have r2_0 := HRF.out.cell (i := 0) rfl
      have r2_1 := HRF.out.cell (i := 1) rfl
      try (go_wp2_with fail)
      refine bodyPost_ret (v := .tuple #[.agg #[.int .i64 0, .int .i64 0], .bool false]) (by simp [results, Try.results32, go_sem, r2_0, r2_1]) rfl ⟨rfl, HBF.out⟩
    | true =>
      have Hc := Lib.hid hc2
      cases hc3 : [e0].all (expB gr) with
      | false =>
        have HV : Hid ((.tuple #[.agg #[.int .i64 (pcR gr c e0).a, .int .i64 (pcR gr c e0).b], .bool (pcB gr c e0)] : Value) = .tuple #[.agg #[.int .i64 0, .int .i64 0], .bool false]) := by unfold Hid; have qhc3 := hc3; simp only [List.all_cons, List.all_nil, Bool.and_true] at qhc3; simp [pcR, pcB, hc1, hc2, qhc3]
        rw [HV.out]
        have Hhc1 := Lib.hid hc1
        clear hc1
        have Hhc2 := Lib.hid hc2
        clear hc2
        have Hhc3 := Lib.hid hc3
        clear hc3
        obtain ⟨W, hW⟩ : ∃ W, W = ((w.alloc (.cells #[.int .i64 gr.p, .int .i64 gr.q, .int .i64 gr.g] 39)).alloc (.cells #[.int .i64 c.a, .int .i64 c.b] 58)).alloc (.cells #[.int .i64 0, .int .i64 0] 58) := ⟨_, rfl⟩
        have HB : Hid (Below w.heap.size w W) := by unfold Hid; rw [hW]; (repeat (first | exact Below.refl _ _ | assumption | refine Below.drew ?_ | refine Below.alloc ?_ (by first | (simp; done) | (simp; omega)) _ | refine Below.setCell ?_ (by first | (simp; done) | (simp; omega)) _))
        have c0_0 : W.cell? ⟨w.heap.size, 0, none⟩ = some (.int .i64 gr.p) := by rw [hW]; simp [go_sem]
        have c0_1 : W.cell? ⟨w.heap.size, 1, none⟩ = some (.int .i64 gr.q) := by rw [hW]; simp [go_sem]
        have c0_2 : W.cell? ⟨w.heap.size, 2, none⟩ = some (.int .i64 gr.g) := by rw [hW]; simp [go_sem]
        have c1_0 : W.cell? ⟨w.heap.size + 1, 0, none⟩ = some (.int .i64 c.a) := by rw [hW]; simp [go_sem]
        have c1_1 : W.cell? ⟨w.heap.size + 1, 1, none⟩ = some (.int .i64 c.b) := by rw [hW]; simp [go_sem]
        have c2_0x : W.cell? ⟨w.heap.size + 1 + 1, 0, none⟩ = some (.int .i64 0) := by rw [hW]; simp [go_sem]
        have c2_1x : W.cell? ⟨w.heap.size + 1 + 1, 1, none⟩ = some (.int .i64 0) := by rw [hW]; simp [go_sem]
        have HR2 : Hid (BoxN W (w.heap.size + 1 + 1) 58 [.int .i64 0, .int .i64 0]) := by unfold Hid; rw [hW]; have h := (BoxN.new ((w.alloc (.cells #[.int .i64 gr.p, .int .i64 gr.q, .int .i64 gr.g] 39)).alloc (.cells #[.int .i64 c.a, .int .i64 c.b] 58)) [.int .i64 0, .int .i64 0] 58); simpa using h
        have HSW : Hid (W.heap.size = w.heap.size + 3) := by unfold Hid; rw [hW]; simp
        have lr2 : w.heap.size + 1 + 1 < W.heap.size := by have := HSW.out; omega
        clear c2_0x
        clear c2_1x
        go_enter Try.func32, Try.ntmps32
        go_wp2_with fail
        rw [← hW]
        clear hW
        have hc : Below W.heap.size W W := Below.refl _ _
        go_wp2_with fail
        refine (spec_l2Good gr _).mono ?_
        rintro e u1 ⟨rfl, hq1⟩
        replace hc := Below.next hc hq1
        replace c0_0 := box_at c0_0 hq1
        replace c0_1 := box_at c0_1 hq1
        replace c0_2 := box_at c0_2 hq1
        replace c1_0 := box_at c1_0 hq1
        replace c1_1 := box_at c1_1 hq1
        clear hq1
        rw [Hhc1.out]
        go_wp2_with fail
        refine (eGood1 gr _ c _ HG.out (RdC.lit _ (l := [c]) (AllCI.cons jc AllCI.nil) rfl 1 rfl (by unfold maxLen; omega))).mono ?_
        rintro e u2 ⟨rfl, hq2⟩
        replace hq2 := Below.next (keep_al (Below.refl _ _) _) hq2
        replace hc := Below.next hc hq2
        replace c0_0 := box_at c0_0 hq2
        replace c0_1 := box_at c0_1 hq2
        replace c0_2 := box_at c0_2 hq2
        replace c1_0 := box_at c1_0 hq2
        replace c1_1 := box_at c1_1 hq2
        clear hq2
        rw [Hhc2.out]
        go_wp2_with fail
        refine (spec_gExps gr _ [e0] _ HG.out (OwnI.lit (B := 0) _ (Nat.zero_le _) (l := [e0]) (AllI64.cons he AllI64.nil) rfl (by simp [maxLen]) 1 rfl).ints).mono ?_
        rintro e u3 ⟨rfl, hq3⟩
        replace hq3 := Below.next (keep_al (Below.refl _ _) _) hq3
        replace hc := Below.next hc hq3
        replace c0_0 := box_at c0_0 hq3
        replace c0_1 := box_at c0_1 hq3
        replace c0_2 := box_at c0_2 hq3
        replace c1_0 := box_at c1_0 hq3
        replace c1_1 := box_at c1_1 hq3
        clear hq3
        rw [Hhc3.out]
        have HRE2 := Lib.hid (HR2.out.below hc)
        clear HR2
        have HBE := Lib.hid (HB.out.trans (hc.mono HB.out.size))
        have r2_0 := HRE2.out.cell (i := 0) rfl
        have r2_1 := HRE2.out.cell (i := 1) rfl
        have fr2 := fun j => HRE2.out.frozen j
        go_wp2_with fail
        have HRF := Lib.hid ((HRE2.out.set 0 (.int .i64 0)).set 1 (.int .i64 0))
        have HBF := Lib.hid ((HBE.out.setCell (p := ⟨w.heap.size + 1 + 1, 0, none⟩) (by show w.heap.size ≤ w.heap.size + 1 + 1; omega) (.int .i64 0)).setCell (p := ⟨w.heap.size + 1 + 1, 1, none⟩) (by show w.heap.size ≤ w.heap.size + 1 + 1; omega) (.int .i64 0))
        clear r2_0 r2_1 fr2
        have r2_0 := HRF.out.cell (i := 0) rfl
        have r2_1 := HRF.out.cell (i := 1) rfl
        try (go_wp2_with fail)
        refine bodyPost_ret (v := .tuple #[.agg #[.int .i64 0, .int .i64 0], .bool false]) (by simp [results, Try.results32, go_sem, r2_0, r2_1]) rfl ⟨rfl, HBF.out⟩
      | true =>
        have HV : Hid ((.tuple #[.agg #[.int .i64 (pcR gr c e0).a, .int .i64 (pcR gr c e0).b], .bool (pcB gr c e0)] : Value) = .tuple #[.agg #[.int .i64 ((pwC gr c e0).a), .int .i64 ((pwC gr c e0).b)], .bool true]) := by unfold Hid; have qhc3 := hc3; simp only [List.all_cons, List.all_nil, Bool.and_true] at qhc3; simp [pcR, pcB, hc1, hc2, qhc3]
        rw [HV.out]
        have Hhc1 := Lib.hid hc1
        clear hc1
        have Hhc2 := Lib.hid hc2
        clear hc2
        have Hhc3 := Lib.hid hc3
        clear hc3
        obtain ⟨W, hW⟩ : ∃ W, W = ((w.alloc (.cells #[.int .i64 gr.p, .int .i64 gr.q, .int .i64 gr.g] 39)).alloc (.cells #[.int .i64 c.a, .int .i64 c.b] 58)).alloc (.cells #[.int .i64 0, .int .i64 0] 58) := ⟨_, rfl⟩
        have HB : Hid (Below w.heap.size w W) := by unfold Hid; rw [hW]; (repeat (first | exact Below.refl _ _ | assumption | refine Below.drew ?_ | refine Below.alloc ?_ (by first | (simp; done) | (simp; omega)) _ | refine Below.setCell ?_ (by first | (simp; done) | (simp; omega)) _))
        have c0_0 : W.cell? ⟨w.heap.size, 0, none⟩ = some (.int .i64 gr.p) := by rw [hW]; simp [go_sem]
        have c0_1 : W.cell? ⟨w.heap.size, 1, none⟩ = some (.int .i64 gr.q) := by rw [hW]; simp [go_sem]
        have c0_2 : W.cell? ⟨w.heap.size, 2, none⟩ = some (.int .i64 gr.g) := by rw [hW]; simp [go_sem]
        have c1_0 : W.cell? ⟨w.heap.size + 1, 0, none⟩ = some (.int .i64 c.a) := by rw [hW]; simp [go_sem]
        have c1_1 : W.cell? ⟨w.heap.size + 1, 1, none⟩ = some (.int .i64 c.b) := by rw [hW]; simp [go_sem]
        have c2_0x : W.cell? ⟨w.heap.size + 1 + 1, 0, none⟩ = some (.int .i64 0) := by rw [hW]; simp [go_sem]
        have c2_1x : W.cell? ⟨w.heap.size + 1 + 1, 1, none⟩ = some (.int .i64 0) := by rw [hW]; simp [go_sem]
        have HR2 : Hid (BoxN W (w.heap.size + 1 + 1) 58 [.int .i64 0, .int .i64 0]) := by unfold Hid; rw [hW]; have h := (BoxN.new ((w.alloc (.cells #[.int .i64 gr.p, .int .i64 gr.q, .int .i64 gr.g] 39)).alloc (.cells #[.int .i64 c.a, .int .i64 c.b] 58)) [.int .i64 0, .int .i64 0] 58); simpa using h
        have HSW : Hid (W.heap.size = w.heap.size + 3) := by unfold Hid; rw [hW]; simp
        have lr2 : w.heap.size + 1 + 1 < W.heap.size := by have := HSW.out; omega
        clear c2_0x
        clear c2_1x
        go_enter Try.func32, Try.ntmps32
        go_wp2_with fail
        rw [← hW]
        clear hW
        have hc : Below W.heap.size W W := Below.refl _ _
        go_wp2_with fail
        refine (spec_l2Good gr _).mono ?_
        rintro e u1 ⟨rfl, hq1⟩
        replace hc := Below.next hc hq1
        replace c0_0 := box_at c0_0 hq1
        replace c0_1 := box_at c0_1 hq1
        replace c0_2 := box_at c0_2 hq1
        replace c1_0 := box_at c1_0 hq1
        replace c1_1 := box_at c1_1 hq1
        clear hq1
        rw [Hhc1.out]
        go_wp2_with fail
        refine (eGood1 gr _ c _ HG.out (RdC.lit _ (l := [c]) (AllCI.cons jc AllCI.nil) rfl 1 rfl (by unfold maxLen; omega))).mono ?_
        rintro e u2 ⟨rfl, hq2⟩
        replace hq2 := Below.next (keep_al (Below.refl _ _) _) hq2
        replace hc := Below.next hc hq2
        replace c0_0 := box_at c0_0 hq2
        replace c0_1 := box_at c0_1 hq2
        replace c0_2 := box_at c0_2 hq2
        replace c1_0 := box_at c1_0 hq2
        replace c1_1 := box_at c1_1 hq2
        clear hq2
        rw [Hhc2.out]
        go_wp2_with fail
        refine (spec_gExps gr _ [e0] _ HG.out (OwnI.lit (B := 0) _ (Nat.zero_le _) (l := [e0]) (AllI64.cons he AllI64.nil) rfl (by simp [maxLen]) 1 rfl).ints).mono ?_
        rintro e u3 ⟨rfl, hq3⟩
        replace hq3 := Below.next (keep_al (Below.refl _ _) _) hq3
        replace hc := Below.next hc hq3
        replace c0_0 := box_at c0_0 hq3
        replace c0_1 := box_at c0_1 hq3
        replace c0_2 := box_at c0_2 hq3
        replace c1_0 := box_at c1_0 hq3
        replace c1_1 := box_at c1_1 hq3
        clear hq3
        rw [Hhc3.out]
        go_wp2_with fail
        refine (spec_ePow gr c e0 _ HG.out (ciB_small HG.out Hc.out) he).mono ?_
        rintro e u4 ⟨rfl, hq4⟩
        replace hc := Below.next hc hq4
        replace c0_0 := box_at c0_0 hq4
        replace c0_1 := box_at c0_1 hq4
        replace c0_2 := box_at c0_2 hq4
        replace c1_0 := box_at c1_0 hq4
        replace c1_1 := box_at c1_1 hq4
        clear hq4
        have HRE2 := Lib.hid (HR2.out.below hc)
        clear HR2
        have HBE := Lib.hid (HB.out.trans (hc.mono HB.out.size))
        have r2_0 := HRE2.out.cell (i := 0) rfl
        have r2_1 := HRE2.out.cell (i := 1) rfl
        have fr2 := fun j => HRE2.out.frozen j
        go_wp2_with fail
        have HRF := Lib.hid ((HRE2.out.set 0 (.int .i64 ((pwC gr c e0).a))).set 1 (.int .i64 ((pwC gr c e0).b)))
        have HBF := Lib.hid ((HBE.out.setCell (p := ⟨w.heap.size + 1 + 1, 0, none⟩) (by show w.heap.size ≤ w.heap.size + 1 + 1; omega) (.int .i64 ((pwC gr c e0).a))).setCell (p := ⟨w.heap.size + 1 + 1, 1, none⟩) (by show w.heap.size ≤ w.heap.size + 1 + 1; omega) (.int .i64 ((pwC gr c e0).b)))
        clear r2_0 r2_1 fr2
        have r2_0 := HRF.out.cell (i := 0) rfl
        have r2_1 := HRF.out.cell (i := 1) rfl
        try (go_wp2_with fail)
        refine bodyPost_ret (v := .tuple #[.agg #[.int .i64 ((pwC gr c e0).a), .int .i64 ((pwC gr c e0).b)], .bool true]) (by simp [results, Try.results32, go_sem, r2_0, r2_1]) rfl ⟨rfl, HBF.out⟩
set_option maxRecDepth 100000 in
set_option maxHeartbeats 2000000 in
theorem impl_Reencrypt (gr : GroupD) (key : Int) (c : CipherD) (r : Int) (w : World) (hr : I64 r) :
    Calls Try.prog 34 #[.agg #[.int .i64 gr.p, .int .i64 gr.q, .int .i64 gr.g], .int .i64 key, .agg #[.int .i64 c.a, .int .i64 c.b], .int .i64 r] w fun e w' => e = .returned (.tuple #[.agg #[.int .i64 (rcR gr key c r).a, .int .i64 (rcR gr key c r).b], .bool (rcB gr key c r)]) ∧ Below w.heap.size w w' := by
  cases hc1 : goodG gr with
  | false =>
    have HV : Hid ((.tuple #[.agg #[.int .i64 (rcR gr key c r).a, .int .i64 (rcR gr key c r).b], .bool (rcB gr key c r)] : Value) = .tuple #[.agg #[.int .i64 0, .int .i64 0], .bool false]) := by unfold Hid; simp [rcR, rcB, hc1]
    rw [HV.out]
    have Hhc1 := Lib.hid hc1
    clear hc1
    obtain ⟨W, hW⟩ : ∃ W, W = ((w.alloc (.cells #[.int .i64 gr.p, .int .i64 gr.q, .int .i64 gr.g] 39)).alloc (.cells #[.int .i64 c.a, .int .i64 c.b] 58)).alloc (.cells #[.int .i64 0, .int .i64 0] 58) := ⟨_, rfl⟩
    have HB : Hid (Below w.heap.size w W) := by unfold Hid; rw [hW]; (repeat (first | exact Below.refl _ _ | assumption | refine Below.drew ?_ | refine Below.alloc ?_ (by first | (simp; done) | (simp; omega)) _ | refine Below.setCell ?_ (by first | (simp; done) | (simp; omega)) _))
    have c0_0 : W.cell? ⟨w.heap.size, 0, none⟩ = some (.int .i64 gr.p) := by rw [hW]; simp [go_sem]
    have c0_1 : W.cell? ⟨w.heap.size, 1, none⟩ = some (.int .i64 gr.q) := by rw [hW]; simp [go_sem]
    have c0_2 : W.cell? ⟨w.heap.size, 2, none⟩ = some (.int .i64 gr.g) := by rw [hW]; simp [go_sem]
    have c1_0 : W.cell? ⟨w.heap.size + 1, 0, none⟩ = some (.int .i64 c.a) := by rw [hW]; simp [go_sem]
    have c1_1 : W.cell? ⟨w.heap.size + 1, 1, none⟩ = some (.int .i64 c.b) := by rw [hW]; simp [go_sem]
    have c2_0x : W.cell? ⟨w.heap.size + 1 + 1, 0, none⟩ = some (.int .i64 0) := by rw [hW]; simp [go_sem]
    have c2_1x : W.cell? ⟨w.heap.size + 1 + 1, 1, none⟩ = some (.int .i64 0) := by rw [hW]; simp [go_sem]
    have HR2 : Hid (BoxN W (w.heap.size + 1 + 1) 58 [.int .i64 0, .int .i64 0]) := by unfold Hid; rw [hW]; have h := (BoxN.new ((w.alloc (.cells #[.int .i64 gr.p, .int .i64 gr.q, .int .i64 gr.g] 39)).alloc (.cells #[.int .i64 c.a, .int .i64 c.b] 58)) [.int .i64 0, .int .i64 0] 58); simpa using h
    have HSW : Hid (W.heap.size = w.heap.size + 3) := by unfold Hid; rw [hW]; simp
    have lr2 : w.heap.size + 1 + 1 < W.heap.size := by have := HSW.out; omega
    clear c2_0x
    clear c2_1x
    go_enter Try.func34, Try.ntmps34
    go_wp2_with fail
    rw [← hW]
    clear hW
    have hc : Below W.heap.size W W := Below.refl _ _
    go_wp2_with fail
    refine (impl_IsValidGroup gr _).mono ?_
    rintro e u1 ⟨rfl, hq1⟩
    replace hc := Below.next hc hq1
    replace c0_0 := box_at c0_0 hq1
    replace c0_1 := box_at c0_1 hq1
    replace c0_2 := box_at c0_2 hq1
    replace c1_0 := box_at c1_0 hq1
    replace c1_1 := box_at c1_1 hq1
    clear hq1
    rw [Hhc1.out]
    have HRE2 := Lib.hid (HR2.out.below hc)
    clear HR2
    have HBE := Lib.hid (HB.out.trans (hc.mono HB.out.size))
    have r2_0 := HRE2.out.cell (i := 0) rfl
    have r2_1 := HRE2.out.cell (i := 1) rfl
    have fr2 := fun j => HRE2.out.frozen j
    go_wp2_with fail
    have HRF := Lib.hid ((HRE2.out.set 0 (.int .i64 0)).set 1 (.int .i64 0))
    have HBF := Lib.hid ((HBE.out.setCell (p := ⟨w.heap.size + 1 + 1, 0, none⟩) (by show w.heap.size ≤ w.heap.size + 1 + 1; omega) (.int .i64 0)).setCell (p := ⟨w.heap.size + 1 + 1, 1, none⟩) (by show w.heap.size ≤ w.heap.size + 1 + 1; omega) (.int .i64 0))
    clear r2_0 r2_1 fr2
    have r2_0 := HRF.out.cell (i := 0) rfl
    have r2_1 := HRF.out.cell (i := 1) rfl
    try (go_wp2_with fail)
    refine bodyPost_ret (v := .tuple #[.agg #[.int .i64 0, .int .i64 0], .bool false]) (by simp [results, Try.results34, go_sem, r2_0, r2_1]) rfl ⟨rfl, HBF.out⟩
  | true =>
    have HG := Lib.hid (goodG_ok hc1)
    cases hc2 : elB gr key with
    | false =>
      have HV : Hid ((.tuple #[.agg #[.int .i64 (rcR gr key c r).a, .int .i64 (rcR gr key c r).b], .bool (rcB gr key c r)] : Value) = .tuple #[.agg #[.int .i64 0, .int .i64 0], .bool false]) := by unfold Hid; simp [rcR, rcB, hc1, hc2]
      rw [HV.out]
      have Hhc1 := Lib.hid hc1
      clear hc1
      have Hhc2 := Lib.hid hc2
      clear hc2
      obtain ⟨W, hW⟩ : ∃ W, W = ((w.alloc (.cells #[.int .i64 gr.p, .int .i64 gr.q, .int .i64 gr.g] 39)).alloc (.cells #[.int .i64 c.a, .int .i64 c.b] 58)).alloc (.cells #[.int .i64 0, .int .i64 0] 58) := ⟨_, rfl⟩
      have HB : Hid (Below w.heap.size w W) := by unfold Hid; rw [hW]; (repeat (first | exact Below.refl _ _ | assumption | refine Below.drew ?_ | refine Below.alloc ?_ (by first | (simp; done) | (simp; omega)) _ | refine Below.setCell ?_ (by first | (simp; done) | (simp; omega)) _))
      have c0_0 : W.cell? ⟨w.heap.size, 0, none⟩ = some (.int .i64 gr.p) := by rw [hW]; simp [go_sem]
      have c0_1 : W.cell? ⟨w.heap.size, 1, none⟩ = some (.int .i64 gr.q) := by rw [hW]; simp [go_sem]
      have c0_2 : W.cell? ⟨w.heap.size, 2, none⟩ = some (.int .i64 gr.g) := by rw [hW]; simp [go_sem]
      have c1_0 : W.cell? ⟨w.heap.size + 1, 0, none⟩ = some (.int .i64 c.a) := by rw [hW]; simp [go_sem]
      have c1_1 : W.cell? ⟨w.heap.size + 1, 1, none⟩ = some (.int .i64 c.b) := by rw [hW]; simp [go_sem]
      have c2_0x : W.cell? ⟨w.heap.size + 1 + 1, 0, none⟩ = some (.int .i64 0) := by rw [hW]; simp [go_sem]
      have c2_1x : W.cell? ⟨w.heap.size + 1 + 1, 1, none⟩ = some (.int .i64 0) := by rw [hW]; simp [go_sem]
      have HR2 : Hid (BoxN W (w.heap.size + 1 + 1) 58 [.int .i64 0, .int .i64 0]) := by unfold Hid; rw [hW]; have h := (BoxN.new ((w.alloc (.cells #[.int .i64 gr.p, .int .i64 gr.q, .int .i64 gr.g] 39)).alloc (.cells #[.int .i64 c.a, .int .i64 c.b] 58)) [.int .i64 0, .int .i64 0] 58); simpa using h
      have HSW : Hid (W.heap.size = w.heap.size + 3) := by unfold Hid; rw [hW]; simp
      have lr2 : w.heap.size + 1 + 1 < W.heap.size := by have := HSW.out; omega
      clear c2_0x
      clear c2_1x
      go_enter Try.func34, Try.ntmps34
      go_wp2_with fail
      rw [← hW]
      clear hW
      have hc : Below W.heap.size W W := Below.refl _ _
      go_wp2_with fail
      refine (impl_IsValidGroup gr _).mono ?_
      rintro e u1 ⟨rfl, hq1⟩
      replace hc := Below.next hc hq1
      replace c0_0 := box_at c0_0 hq1
      replace c0_1 := box_at c0_1 hq1
      replace c0_2 := box_at c0_2 hq1
      replace c1_0 := box_at c1_0 hq1
      replace c1_1 := box_at c1_1 hq1
      clear hq1
      rw [Hhc1.out]
      go_wp2_with fail
      refine (impl_has gr key _ HG.out).mono ?_
      rintro e u2 ⟨rfl, hq2⟩
      replace hc := Below.next hc hq2
      replace c0_0 := box_at c0_0 hq2
      replace c0_1 := box_at c0_1 hq2
      replace c0_2 := box_at c0_2 hq2
      replace c1_0 := box_at c1_0 hq2
      replace c1_1 := box_at c1_1 hq2
      clear hq2
      rw [Hhc2.out]
      have HRE2 := Lib.hid (HR2.out.below hc)
      clear HR2
      have HBE := Lib.hid (HB.out.trans (hc.mono HB.out.size))
      have r2_0 := HRE2.out.cell (i := 0) rfl
      have r2_1 := HRE2.out.cell (i := 1) rfl
      have fr2 := fun j => HRE2.out.frozen j
      go_wp2_with fail
      have HRF := Lib.hid ((HRE2.out.set 0 (.int .i64 0)).set 1 (.int .i64 0))
      have HBF := Lib.hid ((HBE.out.setCell (p := ⟨w.heap.size + 1 + 1, 0, none⟩) (by show w.heap.size ≤ w.heap.size + 1 + 1; omega) (.int .i64 0)).setCell (p := ⟨w.heap.size + 1 + 1, 1, none⟩) (by show w.heap.size ≤ w.heap.size + 1 + 1; omega) (.int .i64 0))
      clear r2_0 r2_1 fr2
      have r2_0 := HRF.out.cell (i := 0) rfl
      have r2_1 := HRF.out.cell (i := 1) rfl
      try (go_wp2_with fail)
      refine bodyPost_ret (v := .tuple #[.agg #[.int .i64 0, .int .i64 0], .bool false]) (by simp [results, Try.results34, go_sem, r2_0, r2_1]) rfl ⟨rfl, HBF.out⟩
    | true =>
      have Hk := Lib.hid hc2
      cases hc3 : ciB gr c with
      | false =>
        have HV : Hid ((.tuple #[.agg #[.int .i64 (rcR gr key c r).a, .int .i64 (rcR gr key c r).b], .bool (rcB gr key c r)] : Value) = .tuple #[.agg #[.int .i64 0, .int .i64 0], .bool false]) := by unfold Hid; simp [rcR, rcB, hc1, hc2, hc3]
        rw [HV.out]
        have Hhc1 := Lib.hid hc1
        clear hc1
        have Hhc2 := Lib.hid hc2
        clear hc2
        have Hhc3 := Lib.hid hc3
        clear hc3
        obtain ⟨W, hW⟩ : ∃ W, W = ((w.alloc (.cells #[.int .i64 gr.p, .int .i64 gr.q, .int .i64 gr.g] 39)).alloc (.cells #[.int .i64 c.a, .int .i64 c.b] 58)).alloc (.cells #[.int .i64 0, .int .i64 0] 58) := ⟨_, rfl⟩
        have HB : Hid (Below w.heap.size w W) := by unfold Hid; rw [hW]; (repeat (first | exact Below.refl _ _ | assumption | refine Below.drew ?_ | refine Below.alloc ?_ (by first | (simp; done) | (simp; omega)) _ | refine Below.setCell ?_ (by first | (simp; done) | (simp; omega)) _))
        have c0_0 : W.cell? ⟨w.heap.size, 0, none⟩ = some (.int .i64 gr.p) := by rw [hW]; simp [go_sem]
        have c0_1 : W.cell? ⟨w.heap.size, 1, none⟩ = some (.int .i64 gr.q) := by rw [hW]; simp [go_sem]
        have c0_2 : W.cell? ⟨w.heap.size, 2, none⟩ = some (.int .i64 gr.g) := by rw [hW]; simp [go_sem]
        have c1_0 : W.cell? ⟨w.heap.size + 1, 0, none⟩ = some (.int .i64 c.a) := by rw [hW]; simp [go_sem]
        have c1_1 : W.cell? ⟨w.heap.size + 1, 1, none⟩ = some (.int .i64 c.b) := by rw [hW]; simp [go_sem]
        have c2_0x : W.cell? ⟨w.heap.size + 1 + 1, 0, none⟩ = some (.int .i64 0) := by rw [hW]; simp [go_sem]
        have c2_1x : W.cell? ⟨w.heap.size + 1 + 1, 1, none⟩ = some (.int .i64 0) := by rw [hW]; simp [go_sem]
        have HR2 : Hid (BoxN W (w.heap.size + 1 + 1) 58 [.int .i64 0, .int .i64 0]) := by unfold Hid; rw [hW]; have h := (BoxN.new ((w.alloc (.cells #[.int .i64 gr.p, .int .i64 gr.q, .int .i64 gr.g] 39)).alloc (.cells #[.int .i64 c.a, .int .i64 c.b] 58)) [.int .i64 0, .int .i64 0] 58); simpa using h
        have HSW : Hid (W.heap.size = w.heap.size + 3) := by unfold Hid; rw [hW]; simp
        have lr2 : w.heap.size + 1 + 1 < W.heap.size := by have := HSW.out; omega
        clear c2_0x
        clear c2_1x
        go_enter Try.func34, Try.ntmps34
        go_wp2_with fail
        rw [← hW]
        clear hW
        have hc : Below W.heap.size W W := Below.refl _ _
        go_wp2_with fail
        refine (impl_IsValidGroup gr _).mono ?_
        rintro e u1 ⟨rfl, hq1⟩
        replace hc := Below.next hc hq1
        replace c0_0 := box_at c0_0 hq1
        replace c0_1 := box_at c0_1 hq1
        replace c0_2 := box_at c0_2 hq1
        replace c1_0 := box_at c1_0 hq1
        replace c1_1 := box_at c1_1 hq1
        clear hq1
        rw [Hhc1.out]
        go_wp2_with fail
        refine (impl_has gr key _ HG.out).mono ?_
        rintro e u2 ⟨rfl, hq2⟩
        replace hc := Below.next hc hq2
        replace c0_0 := box_at c0_0 hq2
        replace c0_1 := box_at c0_1 hq2
        replace c0_2 := box_at c0_2 hq2
        replace c1_0 := box_at c1_0 hq2
        replace c1_1 := box_at c1_1 hq2
        clear hq2
        rw [Hhc2.out]
        go_wp2_with fail
        refine (impl_hasCipher gr c _ HG.out).mono ?_
        rintro e u3 ⟨rfl, hq3⟩
        replace hc := Below.next hc hq3
        replace c0_0 := box_at c0_0 hq3
        replace c0_1 := box_at c0_1 hq3
        replace c0_2 := box_at c0_2 hq3
        replace c1_0 := box_at c1_0 hq3
        replace c1_1 := box_at c1_1 hq3
        clear hq3
        rw [Hhc3.out]
        have HRE2 := Lib.hid (HR2.out.below hc)
        clear HR2
        have HBE := Lib.hid (HB.out.trans (hc.mono HB.out.size))
        have r2_0 := HRE2.out.cell (i := 0) rfl
        have r2_1 := HRE2.out.cell (i := 1) rfl
        have fr2 := fun j => HRE2.out.frozen j
        go_wp2_with fail
        have HRF := Lib.hid ((HRE2.out.set 0 (.int .i64 0)).set 1 (.int .i64 0))
        have HBF := Lib.hid ((HBE.out.setCell (p := ⟨w.heap.size + 1 + 1, 0, none⟩) (by show w.heap.size ≤ w.heap.size + 1 + 1; omega) (.int .i64 0)).setCell (p := ⟨w.heap.size + 1 + 1, 1, none⟩) (by show w.heap.size ≤ w.heap.size + 1 + 1; omega) (.int .i64 0))
        clear r2_0 r2_1 fr2
        have r2_0 := HRF.out.cell (i := 0) rfl
        have r2_1 := HRF.out.cell (i := 1) rfl
        try (go_wp2_with fail)
        refine bodyPost_ret (v := .tuple #[.agg #[.int .i64 0, .int .i64 0], .bool false]) (by simp [results, Try.results34, go_sem, r2_0, r2_1]) rfl ⟨rfl, HBF.out⟩
      | true =>
        have Hc := Lib.hid hc3
        cases hc4 : expB gr r with
        | false =>
          have HV : Hid ((.tuple #[.agg #[.int .i64 (rcR gr key c r).a, .int .i64 (rcR gr key c r).b], .bool (rcB gr key c r)] : Value) = .tuple #[.agg #[.int .i64 0, .int .i64 0], .bool false]) := by unfold Hid; simp [rcR, rcB, hc1, hc2, hc3, hc4]
          rw [HV.out]
          have Hhc1 := Lib.hid hc1
          clear hc1
          have Hhc2 := Lib.hid hc2
          clear hc2
          have Hhc3 := Lib.hid hc3
          clear hc3
          have Hhc4 := Lib.hid hc4
          clear hc4
          obtain ⟨W, hW⟩ : ∃ W, W = ((w.alloc (.cells #[.int .i64 gr.p, .int .i64 gr.q, .int .i64 gr.g] 39)).alloc (.cells #[.int .i64 c.a, .int .i64 c.b] 58)).alloc (.cells #[.int .i64 0, .int .i64 0] 58) := ⟨_, rfl⟩
          have HB : Hid (Below w.heap.size w W) := by unfold Hid; rw [hW]; (repeat (first | exact Below.refl _ _ | assumption | refine Below.drew ?_ | refine Below.alloc ?_ (by first | (simp; done) | (simp; omega)) _ | refine Below.setCell ?_ (by first | (simp; done) | (simp; omega)) _))
          have c0_0 : W.cell? ⟨w.heap.size, 0, none⟩ = some (.int .i64 gr.p) := by rw [hW]; simp [go_sem]
          have c0_1 : W.cell? ⟨w.heap.size, 1, none⟩ = some (.int .i64 gr.q) := by rw [hW]; simp [go_sem]
          have c0_2 : W.cell? ⟨w.heap.size, 2, none⟩ = some (.int .i64 gr.g) := by rw [hW]; simp [go_sem]
          have c1_0 : W.cell? ⟨w.heap.size + 1, 0, none⟩ = some (.int .i64 c.a) := by rw [hW]; simp [go_sem]
          have c1_1 : W.cell? ⟨w.heap.size + 1, 1, none⟩ = some (.int .i64 c.b) := by rw [hW]; simp [go_sem]
          have c2_0x : W.cell? ⟨w.heap.size + 1 + 1, 0, none⟩ = some (.int .i64 0) := by rw [hW]; simp [go_sem]
          have c2_1x : W.cell? ⟨w.heap.size + 1 + 1, 1, none⟩ = some (.int .i64 0) := by rw [hW]; simp [go_sem]
          have HR2 : Hid (BoxN W (w.heap.size + 1 + 1) 58 [.int .i64 0, .int .i64 0]) := by unfold Hid; rw [hW]; have h := (BoxN.new ((w.alloc (.cells #[.int .i64 gr.p, .int .i64 gr.q, .int .i64 gr.g] 39)).alloc (.cells #[.int .i64 c.a, .int .i64 c.b] 58)) [.int .i64 0, .int .i64 0] 58); simpa using h
          have HSW : Hid (W.heap.size = w.heap.size + 3) := by unfold Hid; rw [hW]; simp
          have lr2 : w.heap.size + 1 + 1 < W.heap.size := by have := HSW.out; omega
          clear c2_0x
          clear c2_1x
          go_enter Try.func34, Try.ntmps34
          go_wp2_with fail
          rw [← hW]
          clear hW
          have hc : Below W.heap.size W W := Below.refl _ _
          go_wp2_with fail
          refine (impl_IsValidGroup gr _).mono ?_
          rintro e u1 ⟨rfl, hq1⟩
          replace hc := Below.next hc hq1
          replace c0_0 := box_at c0_0 hq1
          replace c0_1 := box_at c0_1 hq1
          replace c0_2 := box_at c0_2 hq1
          replace c1_0 := box_at c1_0 hq1
          replace c1_1 := box_at c1_1 hq1
          clear hq1
          rw [Hhc1.out]
          go_wp2_with fail
          refine (impl_has gr key _ HG.out).mono ?_
          rintro e u2 ⟨rfl, hq2⟩
          replace hc := Below.next hc hq2
          replace c0_0 := box_at c0_0 hq2
          replace c0_1 := box_at c0_1 hq2
          replace c0_2 := box_at c0_2 hq2
          replace c1_0 := box_at c1_0 hq2
          replace c1_1 := box_at c1_1 hq2
          clear hq2
          rw [Hhc2.out]
          go_wp2_with fail
          refine (impl_hasCipher gr c _ HG.out).mono ?_
          rintro e u3 ⟨rfl, hq3⟩
          replace hc := Below.next hc hq3
          replace c0_0 := box_at c0_0 hq3
          replace c0_1 := box_at c0_1 hq3
          replace c0_2 := box_at c0_2 hq3
          replace c1_0 := box_at c1_0 hq3
          replace c1_1 := box_at c1_1 hq3
          clear hq3
          rw [Hhc3.out]
          go_wp2_with fail
          refine (impl_isExp gr r _ HG.out).mono ?_
          rintro e u4 ⟨rfl, hq4⟩
          replace hc := Below.next hc hq4
          replace c0_0 := box_at c0_0 hq4
          replace c0_1 := box_at c0_1 hq4
          replace c0_2 := box_at c0_2 hq4
          replace c1_0 := box_at c1_0 hq4
          replace c1_1 := box_at c1_1 hq4
          clear hq4
          rw [Hhc4.out]
          have HRE2 := Lib.hid (HR2.out.below hc)
          clear HR2
          have HBE := Lib.hid (HB.out.trans (hc.mono HB.out.size))
          have r2_0 := HRE2.out.cell (i := 0) rfl
          have r2_1 := HRE2.out.cell (i := 1) rfl
          have fr2 := fun j => HRE2.out.frozen j
          go_wp2_with fail
          have HRF := Lib.hid ((HRE2.out.set 0 (.int .i64 0)).set 1 (.int .i64 0))
          have HBF := Lib.hid ((HBE.out.setCell (p := ⟨w.heap.size + 1 + 1, 0, none⟩) (by show w.heap.size ≤ w.heap.size + 1 + 1; omega) (.int .i64 0)).setCell (p := ⟨w.heap.size + 1 + 1, 1, none⟩) (by show w.heap.size ≤ w.heap.size + 1 + 1; omega) (.int .i64 0))
          clear r2_0 r2_1 fr2
          have r2_0 := HRF.out.cell (i := 0) rfl
          have r2_1 := HRF.out.cell (i := 1) rfl
          try (go_wp2_with fail)
          refine bodyPost_ret (v := .tuple #[.agg #[.int .i64 0, .int .i64 0], .bool false]) (by simp [results, Try.results34, go_sem, r2_0, r2_1]) rfl ⟨rfl, HBF.out⟩
        | true =>
          have HV : Hid ((.tuple #[.agg #[.int .i64 (rcR gr key c r).a, .int .i64 (rcR gr key c r).b], .bool (rcB gr key c r)] : Value) = .tuple #[.agg #[.int .i64 ((reC gr key c r).a), .int .i64 ((reC gr key c r).b)], .bool true]) := by unfold Hid; simp [rcR, rcB, hc1, hc2, hc3, hc4]
          rw [HV.out]
          have Hhc1 := Lib.hid hc1
          clear hc1
          have Hhc2 := Lib.hid hc2
          clear hc2
          have Hhc3 := Lib.hid hc3
          clear hc3
          have Hhc4 := Lib.hid hc4
          clear hc4
          obtain ⟨W, hW⟩ : ∃ W, W = ((w.alloc (.cells #[.int .i64 gr.p, .int .i64 gr.q, .int .i64 gr.g] 39)).alloc (.cells #[.int .i64 c.a, .int .i64 c.b] 58)).alloc (.cells #[.int .i64 0, .int .i64 0] 58) := ⟨_, rfl⟩
          have HB : Hid (Below w.heap.size w W) := by unfold Hid; rw [hW]; (repeat (first | exact Below.refl _ _ | assumption | refine Below.drew ?_ | refine Below.alloc ?_ (by first | (simp; done) | (simp; omega)) _ | refine Below.setCell ?_ (by first | (simp; done) | (simp; omega)) _))
          have c0_0 : W.cell? ⟨w.heap.size, 0, none⟩ = some (.int .i64 gr.p) := by rw [hW]; simp [go_sem]
          have c0_1 : W.cell? ⟨w.heap.size, 1, none⟩ = some (.int .i64 gr.q) := by rw [hW]; simp [go_sem]
          have c0_2 : W.cell? ⟨w.heap.size, 2, none⟩ = some (.int .i64 gr.g) := by rw [hW]; simp [go_sem]
          have c1_0 : W.cell? ⟨w.heap.size + 1, 0, none⟩ = some (.int .i64 c.a) := by rw [hW]; simp [go_sem]
          have c1_1 : W.cell? ⟨w.heap.size + 1, 1, none⟩ = some (.int .i64 c.b) := by rw [hW]; simp [go_sem]
          have c2_0x : W.cell? ⟨w.heap.size + 1 + 1, 0, none⟩ = some (.int .i64 0) := by rw [hW]; simp [go_sem]
          have c2_1x : W.cell? ⟨w.heap.size + 1 + 1, 1, none⟩ = some (.int .i64 0) := by rw [hW]; simp [go_sem]
          have HR2 : Hid (BoxN W (w.heap.size + 1 + 1) 58 [.int .i64 0, .int .i64 0]) := by unfold Hid; rw [hW]; have h := (BoxN.new ((w.alloc (.cells #[.int .i64 gr.p, .int .i64 gr.q, .int .i64 gr.g] 39)).alloc (.cells #[.int .i64 c.a, .int .i64 c.b] 58)) [.int .i64 0, .int .i64 0] 58); simpa using h
          have HSW : Hid (W.heap.size = w.heap.size + 3) := by unfold Hid; rw [hW]; simp
          have lr2 : w.heap.size + 1 + 1 < W.heap.size := by have := HSW.out; omega
          clear c2_0x
          clear c2_1x
          go_enter Try.func34, Try.ntmps34
          go_wp2_with fail
          rw [← hW]
          clear hW
          have hc : Below W.heap.size W W := Below.refl _ _
          go_wp2_with fail
          refine (impl_IsValidGroup gr _).mono ?_
          rintro e u1 ⟨rfl, hq1⟩
          replace hc := Below.next hc hq1
          replace c0_0 := box_at c0_0 hq1
          replace c0_1 := box_at c0_1 hq1
          replace c0_2 := box_at c0_2 hq1
          replace c1_0 := box_at c1_0 hq1
          replace c1_1 := box_at c1_1 hq1
          clear hq1
          rw [Hhc1.out]
          go_wp2_with fail
          refine (impl_has gr key _ HG.out).mono ?_
          rintro e u2 ⟨rfl, hq2⟩
          replace hc := Below.next hc hq2
          replace c0_0 := box_at c0_0 hq2
          replace c0_1 := box_at c0_1 hq2
          replace c0_2 := box_at c0_2 hq2
          replace c1_0 := box_at c1_0 hq2
          replace c1_1 := box_at c1_1 hq2
          clear hq2
          rw [Hhc2.out]
          go_wp2_with fail
          refine (impl_hasCipher gr c _ HG.out).mono ?_
          rintro e u3 ⟨rfl, hq3⟩
          replace hc := Below.next hc hq3
          replace c0_0 := box_at c0_0 hq3
          replace c0_1 := box_at c0_1 hq3
          replace c0_2 := box_at c0_2 hq3
          replace c1_0 := box_at c1_0 hq3
          replace c1_1 := box_at c1_1 hq3
          clear hq3
          rw [Hhc3.out]
          go_wp2_with fail
          refine (impl_isExp gr r _ HG.out).mono ?_
          rintro e u4 ⟨rfl, hq4⟩
          replace hc := Below.next hc hq4
          replace c0_0 := box_at c0_0 hq4
          replace c0_1 := box_at c0_1 hq4
          replace c0_2 := box_at c0_2 hq4
          replace c1_0 := box_at c1_0 hq4
          replace c1_1 := box_at c1_1 hq4
          clear hq4
          rw [Hhc4.out]
          go_wp2_with fail
          refine (impl_reencrypt gr key c r _ HG.out (elB_small HG.out Hk.out) (ciB_small HG.out Hc.out) hr).mono ?_
          rintro e u5 ⟨rfl, hq5⟩
          replace hc := Below.next hc hq5
          replace c0_0 := box_at c0_0 hq5
          replace c0_1 := box_at c0_1 hq5
          replace c0_2 := box_at c0_2 hq5
          replace c1_0 := box_at c1_0 hq5
          replace c1_1 := box_at c1_1 hq5
          clear hq5
          have HRE2 := Lib.hid (HR2.out.below hc)
          clear HR2
          have HBE := Lib.hid (HB.out.trans (hc.mono HB.out.size))
          have r2_0 := HRE2.out.cell (i := 0) rfl
          have r2_1 := HRE2.out.cell (i := 1) rfl
          have fr2 := fun j => HRE2.out.frozen j
          go_wp2_with fail
          have HRF := Lib.hid ((HRE2.out.set 0 (.int .i64 ((reC gr key c r).a))).set 1 (.int .i64 ((reC gr key c r).b)))
          have HBF := Lib.hid ((HBE.out.setCell (p := ⟨w.heap.size + 1 + 1, 0, none⟩) (by show w.heap.size ≤ w.heap.size + 1 + 1; omega) (.int .i64 ((reC gr key c r).a))).setCell (p := ⟨w.heap.size + 1 + 1, 1, none⟩) (by show w.heap.size ≤ w.heap.size + 1 + 1; omega) (.int .i64 ((reC gr key c r).b)))
          clear r2_0 r2_1 fr2
          have r2_0 := HRF.out.cell (i := 0) rfl
          have r2_1 := HRF.out.cell (i := 1) rfl
          try (go_wp2_with fail)
          refine bodyPost_ret (v := .tuple #[.agg #[.int .i64 ((reC gr key c r).a), .int .i64 ((reC gr key c r).b)], .bool true]) (by simp [results, Try.results34, go_sem, r2_0, r2_1]) rfl ⟨rfl, HBF.out⟩
end Go.Proofs.Ytboahnklilmdpaa
