/- Walks: groups: powers, products. -/
import Derived.Test.YtapfceghgkmgoaaGrp2
import Derived.Test.YtapfceghgkmgoaaStdI
namespace Go.Proofs.Ytapfceghgkmgoaa
open Go.RowKit
set_option linter.unusedSimpArgs false
set_option linter.unusedVariables false

/-- the power of an element with any exponent -/
def powE (gr : GroupD) (x e : Int) : Int := powM x (e % gr.q) gr.p
/-- the product of elements -/
def mulL (gr : GroupD) (l : List Int) : Int := l.foldl (fun o x => o * x % gr.p) 1
/-- the product of powers -/
def prodL (gr : GroupD) (l es : List Int) : Int := (l.zip es).foldl (fun o x => o * powE gr x.1 x.2 % gr.p) 1
/-- numbers that can be multiplied -/
def Small (x : Int) : Prop := 0 ≤ x ∧ x ≤ 2000000000
def AllSmall (l : List Int) : Prop := ∀ x ∈ l, Small x
theorem AllSmall.at_ {l : List Int} (h : AllSmall l) (i : Nat) : Small (nth l i) := by
  by_cases hi : i < l.length
  · rw [nth_eq hi]; exact h _ (List.getElem_mem _)
  · have : nth l i = 0 := by simp [nth, List.getD, Nat.le_of_not_lt hi]
    rw [this]; exact ⟨by decide, by decide⟩
theorem elB_small {gr : GroupD} (hg : OkG gr) {x : Int} (h : elB gr x = true) : Small x := by
  have := elB_bd h; have := hg.p2; exact ⟨by omega, by omega⟩
theorem all_small {gr : GroupD} (hg : OkG gr) {l : List Int} (h : l.all (elB gr) = true) : AllSmall l := fun x hx => elB_small hg (List.all_eq_true.1 h x hx)
theorem powE_bd {gr : GroupD} (hg : OkG gr) (x e : Int) : 0 ≤ powE gr x e ∧ powE gr x e < gr.p := powM_bd (by have := hg.p1; omega)
theorem fold_bd {α : Type} {p : Int} (hp : 3 ≤ p) {f : Int → α → Int} (l : List α) : ∀ o : Int, 0 ≤ o → o < p → 0 ≤ l.foldl (fun o x => f o x % p) o ∧ l.foldl (fun o x => f o x % p) o < p := by
  induction l with
  | nil => intro o h1 h2; exact ⟨h1, h2⟩
  | cons a l ih => intro o _ _; exact ih _ (Int.emod_nonneg _ (by omega)) (Int.emod_lt_of_pos _ (by omega))
theorem mulL_bd {gr : GroupD} (hg : OkG gr) (l : List Int) : 0 ≤ mulL gr l ∧ mulL gr l < gr.p := fold_bd (f := fun o x => o * x) hg.p1 l 1 (by omega) (by have := hg.p1; omega)
theorem prodL_bd {gr : GroupD} (hg : OkG gr) (l es : List Int) : 0 ≤ prodL gr l es ∧ prodL gr l es < gr.p := fold_bd (f := fun o (x : Int × Int) => o * powE gr x.1 x.2) hg.p1 (l.zip es) 1 (by omega) (by have := hg.p1; omega)
theorem mulL_succ {gr : GroupD} {l : List Int} {k : Nat} (h : k < l.length) : mulL gr (l.take (k + 1)) = mulL gr (l.take k) * nth l k % gr.p := by
  unfold mulL; rw [take_succ_nth h, List.foldl_append]; rfl
theorem zip_take_succ {l es : List Int} {k : Nat} (h : k < l.length) (h2 : k < es.length) : (l.zip es).take (k + 1) = (l.zip es).take k ++ [(nth l k, nth es k)] := by
  rw [List.take_succ_eq_append_getElem (by rw [List.length_zip]; omega), List.getElem_zip, nth_eq h, nth_eq h2]
/-- the product of the first k powers -/
def prodTo (gr : GroupD) (l es : List Int) (k : Nat) : Int := ((l.zip es).take k).foldl (fun o x => o * powE gr x.1 x.2 % gr.p) 1
theorem prodTo_succ {gr : GroupD} {l es : List Int} {k : Nat} (h : k < l.length) (h2 : k < es.length) : prodTo gr l es (k + 1) = prodTo gr l es k * powE gr (nth l k) (nth es k) % gr.p := by
  unfold prodTo; rw [zip_take_succ h h2, List.foldl_append]; rfl
theorem prodTo_bd {gr : GroupD} (hg : OkG gr) (l es : List Int) (k : Nat) : 0 ≤ prodTo gr l es k ∧ prodTo gr l es k < gr.p := fold_bd (f := fun o (x : Int × Int) => o * powE gr x.1 x.2) hg.p1 ((l.zip es).take k) 1 (by omega) (by have := hg.p1; omega)
theorem prodTo_all {gr : GroupD} {l es : List Int} (h : l.length ≤ es.length) : prodTo gr l es l.length = prodL gr l es := by
  unfold prodTo prodL; rw [List.take_of_length_le (by rw [List.length_zip]; omega)]
theorem keep_al {w wa : World} (h : Below w.heap.size w wa) (o : Obj) : Below w.heap.size w (wa.alloc o) := h.alloc h.size o
theorem Ints.lit2 (w : World) {x y : Int} (hx : I64 x) (hy : I64 y) : Ints (w.alloc (.cells #[.int .i64 x, .int .i64 y] 3)) (.slice (some ⟨w.heap.size, 0, none⟩) 2 2) [x, y] :=
  (OwnI.lit w (Nat.le_refl _) (AllI64.cons hx (AllI64.one hy)) rfl (by simp [maxLen]) 2 rfl).ints
set_option maxHeartbeats 1000000 in
theorem impl_pow (gr : GroupD) (x e : Int) (w : World) (hg : OkG gr) (hx : Small x) (he : I64 e) :
    Calls Try.prog 285 #[.agg #[.int .i64 gr.p, .int .i64 gr.q, .int .i64 gr.g], .int .i64 x, .int .i64 e] w fun e' w' => e' = .returned (.int .i64 (powE gr x e)) ∧ Below w.heap.size w w' := by
  obtain ⟨hp1, hp2, hq1, hq2, _, _, _, _, _, _⟩ := hg
  obtain ⟨p, q, g⟩ := gr
  obtain ⟨hx1, hx2⟩ := hx
  simp only [] at hp1 hp2 hq1 hq2
  have HR : Hid (powM x (e % q) p = powE ⟨p, q, g⟩ x e) := rfl
  have hm0 : 0 ≤ e % q := Int.emod_nonneg _ (by omega)
  have hm1 : e % q < q := Int.emod_lt_of_pos _ (by omega)
  have HE := Lib.hid he; clear he
  go_enter Try.func285, Try.ntmps285
  go_wp2
  go_quiet (first
    | (go_at_call 282; exact Calls.quiet_of_same ((impl_mod e q _ HE.out (by omega) (by omega)).mono fun e' w' h => ⟨h.1, h.2.symm⟩))
    | (go_at_call 226; exact Calls.quiet_of_same ((impl_power x (e % q) p _ (by omega) (by omega) (by omega)).mono fun e' w' h => ⟨h.1, h.2.symm⟩))
    | fail)
  go_wp2
  go_ret
  exact ⟨ret_int HR.out, by (repeat (first | exact Below.refl _ _ | assumption | refine Below.drew ?_ | refine below_drewN ?_ _ | refine Below.alloc ?_ (by first | (simp; done) | (simp; omega)) _ | refine Below.setCell ?_ (by first | (simp; done) | (simp; omega)) _))⟩
set_option maxHeartbeats 1000000 in
theorem spec_gExp (gr : GroupD) (x e : Int) (w : World) (hg : OkG gr) (hx : Small x) (he : I64 e) :
    Calls Try.prog 280 #[.agg #[.int .i64 gr.p, .int .i64 gr.q, .int .i64 gr.g], .int .i64 x, .int .i64 e] w fun e' w' => e' = .returned (.int .i64 (powE gr x e)) ∧ Below w.heap.size w w' := by
  obtain ⟨hp1, hp2, hq1, hq2, _, _, _, _, _, _⟩ := hg
  obtain ⟨p, q, g⟩ := gr
  obtain ⟨hx1, hx2⟩ := hx
  simp only [] at hp1 hp2 hq1 hq2
  have HR : Hid (powM x (e % q) p = powE ⟨p, q, g⟩ x e) := rfl
  have hm0 : 0 ≤ e % q := Int.emod_nonneg _ (by omega)
  have hm1 : e % q < q := Int.emod_lt_of_pos _ (by omega)
  have HE := Lib.hid he; clear he
  go_enter Try.func280, Try.ntmps280
  go_wp2
  go_quiet (first
    | (go_at_call 286; exact Calls.quiet_of_same ((spec_nMod e q _ HE.out (by omega) (by omega)).mono fun e' w' h => ⟨h.1, h.2.symm⟩))
    | (go_at_call 209; exact Calls.quiet_of_same ((spec_nPower x (e % q) p _ (by omega) (by omega) (by omega)).mono fun e' w' h => ⟨h.1, h.2.symm⟩))
    | fail)
  go_wp2
  go_ret
  exact ⟨ret_int HR.out, by (repeat (first | exact Below.refl _ _ | assumption | refine Below.drew ?_ | refine below_drewN ?_ _ | refine Below.alloc ?_ (by first | (simp; done) | (simp; omega)) _ | refine Below.setCell ?_ (by first | (simp; done) | (simp; omega)) _))⟩
theorem impl_exp (gr : GroupD) (n : Int) (w : World) (hg : OkG gr) (hn : I64 n) :
    Calls Try.prog 276 #[.agg #[.int .i64 gr.p, .int .i64 gr.q, .int .i64 gr.g], .int .i64 n] w fun e' w' => e' = .returned (.int .i64 (n % gr.q)) ∧ Below w.heap.size w w' := by
  obtain ⟨hp1, hp2, hq1, hq2, _, _, _, _, _, _⟩ := hg
  obtain ⟨p, q, g⟩ := gr
  simp only [] at hp1 hp2 hq1 hq2
  have HE := Lib.hid hn; clear hn
  go_enter Try.func276, Try.ntmps276
  go_wp2_with (first
    | (go_at_call 282; refine (impl_mod n q _ HE.out (by omega) (by omega)).mono ?_; rintro e w1 ⟨rfl, rfl⟩)
    | fail)
  go_ret
  exact ⟨rfl, by (repeat (first | exact Below.refl _ _ | assumption | refine Below.drew ?_ | refine Below.alloc ?_ (by first | (simp; done) | (simp; omega)) _ | refine Below.setCell ?_ (by first | (simp; done) | (simp; omega)) _))⟩
set_option maxHeartbeats 1000000 in
theorem impl_mul (gr : GroupD) (v : Value) (l : List Int) (w : World) (hg : OkG gr) (h : Ints w v l) (hl : AllSmall l) :
    Calls Try.prog 284 #[.agg #[.int .i64 gr.p, .int .i64 gr.q, .int .i64 gr.g], v] w fun e w' => e = .returned (.int .i64 (mulL gr l)) ∧ Below w.heap.size w w' := by
  have HG := Lib.hid hg
  obtain ⟨hp1, hp2, hq1, hq2, _, _, _, _, _, _⟩ := hg
  obtain ⟨p, q, g⟩ := gr
  simp only [] at hp1 hp2 hq1 hq2
  obtain ⟨a, n, c, rfl⟩ := h.shape
  have e := h.len
  obtain ⟨k1, k2⟩ := h.capMax
  unfold maxLen at k2
  have HE := Lib.hid e; clear e
  have HL := Lib.hid hl; clear hl
  have H := Lib.hid h; clear h
  go_enter Try.func284, Try.ntmps284
  go_wp2
  obtain ⟨W, hW⟩ : ∃ W, W = w.alloc (.cells #[.int .i64 p, .int .i64 q, .int .i64 g] 88) := ⟨_, rfl⟩
  rw [← hW]
  have hb : Below w.heap.size w W := by rw [hW]; exact (Below.refl _ _).alloc (Nat.le_refl _) _
  have c0 : W.cell? ⟨w.heap.size, 0, none⟩ = some (.int .i64 p) := by rw [hW]; simp [go_sem]
  clear hW
  go_loopg [5, 10] n (fun gh ov i wr => ∃ (k : Nat) (o : Int), k + gh = n ∧ i = .int .i64 k ∧ ov = .int .i64 o ∧ Hid (mulL ⟨p, q, g⟩ (l.take k) = o) ∧ 0 ≤ o ∧ o < p ∧ W = wr)
  case atStart => exact ⟨0, 1, by omega, rfl, rfl, rfl, by omega, by omega, rfl⟩
  case round =>
    obtain ⟨k, o, hk, rfl, rfl, HF, ho0, ho1, rfl⟩ := hrel
    by_cases hlt : k < n
    · have HK : Hid (k < l.length) := by unfold Hid; rw [HE.out]; exact hlt
      obtain ⟨bk, oo, rfl, hcx⟩ := (H.out.below hb).at_ (by omega)
      have hy := hcx k hlt
      obtain ⟨s0, s1⟩ := HL.out.at_ k
      have HS : Hid (mulL ⟨p, q, g⟩ (l.take (k + 1)) = o * nth l k % p) := by unfold Hid; rw [mulL_succ HK.out, HF.out]
      clear hcx
      generalize nth l k = x at hy HS s0 s1
      obtain ⟨m0, m1⟩ := mul_bd ho0 (show o ≤ 2000000000 by omega) s0 s1
      have r0 : 0 ≤ o * x % p := Int.emod_nonneg _ (by omega)
      have r1 : o * x % p < p := Int.emod_lt_of_pos _ (by omega)
      go_wp2
      go_roundg (n - (k + 1))
      case measure => omega
      case rel => exact ⟨k + 1, o * x % p, by omega, by go_num, rfl, HS.out, r0, r1, rfl⟩
    · obtain rfl : n = k := by omega
      have HA : Hid (o = mulL ⟨p, q, g⟩ l) := by
        have := HF.out
        rw [List.take_of_length_le (by rw [HE.out]; exact Nat.le_refl _)] at this; exact this.symm
      go_wp2
      go_ret
      exact ⟨ret_int HA.out, hb⟩
set_option maxHeartbeats 1000000 in
theorem spec_gMul (gr : GroupD) (v : Value) (l : List Int) (w : World) (hg : OkG gr) (h : Ints w v l) (hl : AllSmall l) :
    Calls Try.prog 283 #[.agg #[.int .i64 gr.p, .int .i64 gr.q, .int .i64 gr.g], v] w fun e w' => e = .returned (.int .i64 (mulL gr l)) ∧ Below w.heap.size w w' := by
  have HG := Lib.hid hg
  obtain ⟨hp1, hp2, hq1, hq2, _, _, _, _, _, _⟩ := hg
  obtain ⟨p, q, g⟩ := gr
  simp only [] at hp1 hp2 hq1 hq2
  obtain ⟨a, n, c, rfl⟩ := h.shape
  have e := h.len
  obtain ⟨k1, k2⟩ := h.capMax
  unfold maxLen at k2
  have HE := Lib.hid e; clear e
  have HL := Lib.hid hl; clear hl
  have H := Lib.hid h; clear h
  go_enter Try.func283, Try.ntmps283
  go_wp2
  obtain ⟨W, hW⟩ : ∃ W, W = w.alloc (.cells #[.int .i64 p, .int .i64 q, .int .i64 g] 88) := ⟨_, rfl⟩
  rw [← hW]
  have hb : Below w.heap.size w W := by rw [hW]; exact (Below.refl _ _).alloc (Nat.le_refl _) _
  have c0 : W.cell? ⟨w.heap.size, 0, none⟩ = some (.int .i64 p) := by rw [hW]; simp [go_sem]
  clear hW
  go_loopg [5, 10] n (fun gh ov i wr => ∃ (k : Nat) (o : Int), k + gh = n ∧ i = .int .i64 k ∧ ov = .int .i64 o ∧ Hid (mulL ⟨p, q, g⟩ (l.take k) = o) ∧ 0 ≤ o ∧ o < p ∧ W = wr)
  case atStart => exact ⟨0, 1, by omega, rfl, rfl, rfl, by omega, by omega, rfl⟩
  case round =>
    obtain ⟨k, o, hk, rfl, rfl, HF, ho0, ho1, rfl⟩ := hrel
    by_cases hlt : k < n
    · have HK : Hid (k < l.length) := by unfold Hid; rw [HE.out]; exact hlt
      obtain ⟨bk, oo, rfl, hcx⟩ := (H.out.below hb).at_ (by omega)
      have hy := hcx k hlt
      obtain ⟨s0, s1⟩ := HL.out.at_ k
      have HS : Hid (mulL ⟨p, q, g⟩ (l.take (k + 1)) = o * nth l k % p) := by unfold Hid; rw [mulL_succ HK.out, HF.out]
      clear hcx
      generalize nth l k = x at hy HS s0 s1
      obtain ⟨m0, m1⟩ := mul_bd ho0 (show o ≤ 2000000000 by omega) s0 s1
      have r0 : 0 ≤ o * x % p := Int.emod_nonneg _ (by omega)
      have r1 : o * x % p < p := Int.emod_lt_of_pos _ (by omega)
      go_wp2
      go_roundg (n - (k + 1))
      case measure => omega
      case rel => exact ⟨k + 1, o * x % p, by omega, by go_num, rfl, HS.out, r0, r1, rfl⟩
    · obtain rfl : n = k := by omega
      have HA : Hid (o = mulL ⟨p, q, g⟩ l) := by
        have := HF.out
        rw [List.take_of_length_le (by rw [HE.out]; exact Nat.le_refl _)] at this; exact this.symm
      go_wp2
      go_ret
      exact ⟨ret_int HA.out, hb⟩
set_option maxRecDepth 100000 in
set_option maxHeartbeats 2000000 in
theorem impl_powers (gr : GroupD) (v v2 : Value) (l es : List Int) (w : World) (hg : OkG gr) (h : Ints w v l) (h2 : Ints w v2 es) (hl : AllSmall l) (hle : l.length ≤ es.length) :
    Calls Try.prog 281 #[.agg #[.int .i64 gr.p, .int .i64 gr.q, .int .i64 gr.g], v, v2] w fun e w' => e = .returned (.int .i64 (prodL gr l es)) ∧ Below w.heap.size w w' := by
  have HG := Lib.hid hg
  have HT := Lib.hid (prodTo_all (gr := gr) hle)
  obtain ⟨hp1, hp2, hq1, hq2, _, _, _, _, _, _⟩ := hg
  obtain ⟨p, q, g⟩ := gr
  simp only [] at hp1 hp2 hq1 hq2
  obtain ⟨a, n, c, rfl⟩ := h.shape
  obtain ⟨a2, n2, c2, rfl⟩ := h2.shape
  have e := h.len
  have e2 := h2.len
  obtain ⟨k1, k2⟩ := h.capMax
  obtain ⟨k3, k4⟩ := h2.capMax
  unfold maxLen at k2 k4
  have hnn : n ≤ n2 := by omega
  have HE := Lib.hid e; have HE2 := Lib.hid e2; clear e e2 hle
  have HL := Lib.hid hl; clear hl
  have H := Lib.hid h; clear h
  have H2 := Lib.hid h2; clear h2
  go_enter Try.func281, Try.ntmps281
  go_wp2
  obtain ⟨W, hW⟩ : ∃ W, W = w.alloc (.cells #[.int .i64 p, .int .i64 q, .int .i64 g] 88) := ⟨_, rfl⟩
  rw [← hW]
  have hb : Below w.heap.size w W := by rw [hW]; exact (Below.refl _ _).alloc (Nat.le_refl _) _
  have C0 : Hid (W.cell? ⟨w.heap.size, 0, none⟩ = some (.int .i64 p)) := by unfold Hid; rw [hW]; simp [go_sem]
  have C1 : Hid (W.cell? ⟨w.heap.size, 1, none⟩ = some (.int .i64 q)) := by unfold Hid; rw [hW]; simp [go_sem]
  have C2 : Hid (W.cell? ⟨w.heap.size, 2, none⟩ = some (.int .i64 g)) := by unfold Hid; rw [hW]; simp [go_sem]
  clear hW
  go_loopg [7, 12] n (fun gh ov i wr => ∃ (k : Nat) (o : Int), k + gh = n ∧ i = .int .i64 k ∧ ov = .int .i64 o ∧ Hid (prodTo ⟨p, q, g⟩ l es k = o) ∧ 0 ≤ o ∧ o < p ∧ Below W.heap.size W wr)
  case atStart => exact ⟨0, 1, by omega, rfl, rfl, rfl, by omega, by omega, Below.refl _ _⟩
  case round =>
    obtain ⟨k, o, hk, rfl, rfl, HF, ho0, ho1, hbw⟩ := hrel
    have HB := Lib.hid (Below.next hb hbw)
    by_cases hlt : k < n
    · have HK : Hid (k < l.length) := by unfold Hid; rw [HE.out]; exact hlt
      have HK2 : Hid (k < es.length) := by unfold Hid; rw [HE2.out]; omega
      obtain ⟨bk, oo, rfl, hcx⟩ := (H.out.below HB.out).at_ (by omega)
      have hy := hcx k hlt
      obtain ⟨bk2, oo2, rfl, hcx2⟩ := (H2.out.below HB.out).at_ (by omega)
      have hy2 := hcx2 k (by omega)
      have HSX := Lib.hid (HL.out.at_ k)
      have HEX := Lib.hid (H2.out.all.at_ k)
      have HS : Hid (prodTo ⟨p, q, g⟩ l es (k + 1) = o * powE ⟨p, q, g⟩ (nth l k) (nth es k) % p) := by unfold Hid; rw [prodTo_succ HK.out HK2.out, HF.out]
      clear hcx hcx2
      generalize nth l k = x at hy HS HSX
      generalize nth es k = y at hy2 HS HEX
      have HPB := Lib.hid (powE_bd HG.out x y)
      obtain ⟨z, hz⟩ : ∃ z, powE ⟨p, q, g⟩ x y = z := ⟨_, rfl⟩
      rw [hz] at HS HPB
      have HZ := Lib.hid hz; clear hz
      obtain ⟨z0, z1⟩ := HPB.out
      simp only [] at z0 z1
      have d0 := box_at C0.out hbw
      have d1 := box_at C1.out hbw
      have d2 := box_at C2.out hbw
      have HBW := Lib.hid hbw
      clear hbw
      have HSM : Hid (AllSmall [o, z]) := fun u hu => by simp at hu; rcases hu with rfl | rfl <;> exact ⟨by omega, by omega⟩
      have b0 : (0 : Int) ≤ (k : Int) := by omega
      have b1 : (k : Int) < (n2 : Int) := by omega
      have r0 : 0 ≤ o * z % p := Int.emod_nonneg _ (by omega)
      have r1 : o * z % p < p := Int.emod_lt_of_pos _ (by omega)
      have HML : Hid (mulL ⟨p, q, g⟩ [o, z] = o * z % p) := by
        unfold Hid mulL
        simp only [List.foldl_cons, List.foldl_nil, Int.one_mul]
        rw [Int.emod_eq_of_lt ho0 ho1]
      go_wp2
      go_region_held3 (fun w' => Below wr.heap.size wr w' ∧ w'.cell? ⟨w.heap.size, 0, none⟩ = some (.int .i64 p) ∧ w'.cell? ⟨w.heap.size, 1, none⟩ = some (.int .i64 q) ∧ w'.cell? ⟨w.heap.size, 2, none⟩ = some (.int .i64 g) ∧ w'.cell? ⟨bk2, oo2 + k, none⟩ = some (.int .i64 y)) (first | (have hbq : Below wr.heap.size wr _ := (Below.refl _ _).drew; exact ⟨hbq, box_at d0 hbq, box_at d1 hbq, box_at d2 hbq, box_at hy2 hbq⟩) | (have hbq := keep_b (by with_reducible assumption) (‹Below wr.heap.size wr _ ∧ _›).1; exact ⟨hbq, box_at d0 hbq, box_at d1 hbq, box_at d2 hbq, box_at hy2 hbq⟩) | (refine (fun (hbq : Below wr.heap.size wr _) => ⟨hbq, box_at d0 hbq, box_at d1 hbq, box_at d2 hbq, box_at hy2 hbq⟩) ?_; exact keep_al (And.left (by assumption)) _) | fail) ((first
        | (go_at_call 285; refine (impl_pow ⟨p, q, g⟩ x y _ HG.out HSX.out HEX.out).mono ?_; rintro e w1 ⟨rfl, hb1⟩; rw [HZ.out])
        | (go_at_call 284; refine (impl_mul ⟨p, q, g⟩ _ [o, z] _ HG.out (Ints.lit2 _ ⟨by omega, by omega⟩ ⟨by omega, by omega⟩) HSM.out).mono ?_; rintro e w2 ⟨rfl, hb2⟩; rw [HML.out])
        | fail))
      have HBX := (‹Below wr.heap.size wr _ ∧ _›).1
      go_wp2
      go_roundg (n - (k + 1))
      case measure => omega
      case rel => exact ⟨k + 1, o * z % p, by omega, by go_num, rfl, HS.out, r0, r1, Below.next HBW.out HBX⟩
    · obtain rfl : n = k := by omega
      have HA : Hid (o = prodL ⟨p, q, g⟩ l es) := by rw [← HT.out, HE.out]; exact HF.out.symm
      go_wp2
      go_ret
      exact ⟨ret_int HA.out, HB.out⟩
set_option maxRecDepth 100000 in
set_option maxHeartbeats 2000000 in
theorem spec_gProd (gr : GroupD) (v v2 : Value) (l es : List Int) (w : World) (hg : OkG gr) (h : Ints w v l) (h2 : Ints w v2 es) (hl : AllSmall l) (hle : l.length ≤ es.length) :
    Calls Try.prog 271 #[.agg #[.int .i64 gr.p, .int .i64 gr.q, .int .i64 gr.g], v, v2] w fun e w' => e = .returned (.int .i64 (prodL gr l es)) ∧ Below w.heap.size w w' := by
  have HG := Lib.hid hg
  have HT := Lib.hid (prodTo_all (gr := gr) hle)
  obtain ⟨hp1, hp2, hq1, hq2, _, _, _, _, _, _⟩ := hg
  obtain ⟨p, q, g⟩ := gr
  simp only [] at hp1 hp2 hq1 hq2
  obtain ⟨a, n, c, rfl⟩ := h.shape
  obtain ⟨a2, n2, c2, rfl⟩ := h2.shape
  have e := h.len
  have e2 := h2.len
  obtain ⟨k1, k2⟩ := h.capMax
  obtain ⟨k3, k4⟩ := h2.capMax
  unfold maxLen at k2 k4
  have hnn : n ≤ n2 := by omega
  have HE := Lib.hid e; have HE2 := Lib.hid e2; clear e e2 hle
  have HL := Lib.hid hl; clear hl
  have H := Lib.hid h; clear h
  have H2 := Lib.hid h2; clear h2
  go_enter Try.func271, Try.ntmps271
  go_wp2
  obtain ⟨W, hW⟩ : ∃ W, W = w.alloc (.cells #[.int .i64 p, .int .i64 q, .int .i64 g] 88) := ⟨_, rfl⟩
  rw [← hW]
  have hb : Below w.heap.size w W := by rw [hW]; exact (Below.refl _ _).alloc (Nat.le_refl _) _
  have C0 : Hid (W.cell? ⟨w.heap.size, 0, none⟩ = some (.int .i64 p)) := by unfold Hid; rw [hW]; simp [go_sem]
  have C1 : Hid (W.cell? ⟨w.heap.size, 1, none⟩ = some (.int .i64 q)) := by unfold Hid; rw [hW]; simp [go_sem]
  have C2 : Hid (W.cell? ⟨w.heap.size, 2, none⟩ = some (.int .i64 g)) := by unfold Hid; rw [hW]; simp [go_sem]
  clear hW
  go_loopg [7, 12] n (fun gh ov i wr => ∃ (k : Nat) (o : Int), k + gh = n ∧ i = .int .i64 k ∧ ov = .int .i64 o ∧ Hid (prodTo ⟨p, q, g⟩ l es k = o) ∧ 0 ≤ o ∧ o < p ∧ Below W.heap.size W wr)
  case atStart => exact ⟨0, 1, by omega, rfl, rfl, rfl, by omega, by omega, Below.refl _ _⟩
  case round =>
    obtain ⟨k, o, hk, rfl, rfl, HF, ho0, ho1, hbw⟩ := hrel
    have HB := Lib.hid (Below.next hb hbw)
    by_cases hlt : k < n
    · have HK : Hid (k < l.length) := by unfold Hid; rw [HE.out]; exact hlt
      have HK2 : Hid (k < es.length) := by unfold Hid; rw [HE2.out]; omega
      obtain ⟨bk, oo, rfl, hcx⟩ := (H.out.below HB.out).at_ (by omega)
      have hy := hcx k hlt
      obtain ⟨bk2, oo2, rfl, hcx2⟩ := (H2.out.below HB.out).at_ (by omega)
      have hy2 := hcx2 k (by omega)
      have HSX := Lib.hid (HL.out.at_ k)
      have HEX := Lib.hid (H2.out.all.at_ k)
      have HS : Hid (prodTo ⟨p, q, g⟩ l es (k + 1) = o * powE ⟨p, q, g⟩ (nth l k) (nth es k) % p) := by unfold Hid; rw [prodTo_succ HK.out HK2.out, HF.out]
      clear hcx hcx2
      generalize nth l k = x at hy HS HSX
      generalize nth es k = y at hy2 HS HEX
      have HPB := Lib.hid (powE_bd HG.out x y)
      obtain ⟨z, hz⟩ : ∃ z, powE ⟨p, q, g⟩ x y = z := ⟨_, rfl⟩
      rw [hz] at HS HPB
      have HZ := Lib.hid hz; clear hz
      obtain ⟨z0, z1⟩ := HPB.out
      simp only [] at z0 z1
      have d0 := box_at C0.out hbw
      have d1 := box_at C1.out hbw
      have d2 := box_at C2.out hbw
      have HBW := Lib.hid hbw
      clear hbw
      have HSM : Hid (AllSmall [o, z]) := fun u hu => by simp at hu; rcases hu with rfl | rfl <;> exact ⟨by omega, by omega⟩
      have b0 : (0 : Int) ≤ (k : Int) := by omega
      have b1 : (k : Int) < (n2 : Int) := by omega
      have r0 : 0 ≤ o * z % p := Int.emod_nonneg _ (by omega)
      have r1 : o * z % p < p := Int.emod_lt_of_pos _ (by omega)
      have HML : Hid (mulL ⟨p, q, g⟩ [o, z] = o * z % p) := by
        unfold Hid mulL
        simp only [List.foldl_cons, List.foldl_nil, Int.one_mul]
        rw [Int.emod_eq_of_lt ho0 ho1]
      go_wp2
      have ew : IntKind.i64.wrap (o * z) = o * z := IntWalk.i64_in _ (by have := mul_bd ho0 (show o ≤ 2000000000 by omega) z0 (show z ≤ 2000000000 by omega); omega)
      have hpz : ¬ p = 0 := by omega
      have hpz2 : (p == 0) = false := by rw [beq_eq_false_iff_ne]; omega
      have et : Int.tmod (o * z) p = o * z % p := Int.tmod_eq_emod_of_nonneg (Int.mul_nonneg ho0 z0)
      go_region_held3 (fun w' => Below wr.heap.size wr w' ∧ w'.cell? ⟨w.heap.size, 0, none⟩ = some (.int .i64 p) ∧ w'.cell? ⟨w.heap.size, 1, none⟩ = some (.int .i64 q) ∧ w'.cell? ⟨w.heap.size, 2, none⟩ = some (.int .i64 g) ∧ w'.cell? ⟨bk2, oo2 + k, none⟩ = some (.int .i64 y)) (first | (have hbq : Below wr.heap.size wr _ := (Below.refl _ _).drew; exact ⟨hbq, box_at d0 hbq, box_at d1 hbq, box_at d2 hbq, box_at hy2 hbq⟩) | (have hbq := keep_b (by with_reducible assumption) (‹Below wr.heap.size wr _ ∧ _›).1; exact ⟨hbq, box_at d0 hbq, box_at d1 hbq, box_at d2 hbq, box_at hy2 hbq⟩) | assumption | fail) ((first
        | (go_at_call 280; refine (spec_gExp ⟨p, q, g⟩ x y _ HG.out HSX.out HEX.out).mono ?_; rintro e w1 ⟨rfl, hb1⟩; rw [HZ.out])
        | fail))
      clear ew et
      have HBX := (‹Below wr.heap.size wr _ ∧ _›).1
      go_wp2
      go_roundg (n - (k + 1))
      case measure => omega
      case rel => exact ⟨k + 1, o * z % p, by omega, by go_num, rfl, HS.out, r0, r1, Below.next HBW.out HBX⟩
    · obtain rfl : n = k := by omega
      have HA : Hid (o = prodL ⟨p, q, g⟩ l es) := by rw [← HT.out, HE.out]; exact HF.out.symm
      go_wp2
      go_ret
      exact ⟨ret_int HA.out, HB.out⟩
end Go.Proofs.Ytapfceghgkmgoaa
