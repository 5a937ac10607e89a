/- Ciphertexts: products, re-encryption of the model: walks (printed by gen_cip3.py). -/
import Derived.Test.YtboahnklilmdpaaCip2
import Derived.Test.YtboahnklilmdpaaKCipherS
import Derived.Test.YtboahnklilmdpaaRegP
namespace Go.Proofs.Ytboahnklilmdpaa
open Go.RowKit
set_option linter.unusedSimpArgs false
set_option linter.unusedVariables false

theorem AllSmall.nil : AllSmall [] := fun x hx => by cases hx
theorem AllSmall.cons {x : Int} {l : List Int} (h : Small x) (h' : AllSmall l) : AllSmall (x :: l) := fun y hy => by
  rcases List.mem_cons.1 hy with rfl | hy
  · exact h
  · exact h' y hy
/-- the product of ciphertexts -/
def eM (gr : GroupD) (l : List CipherD) : CipherD := l.foldl (c2 gr) ⟨1, 1⟩
def AllSmallC (l : List CipherD) : Prop := ∀ c ∈ l, SmallC c
theorem eM_succ {gr : GroupD} {l : List CipherD} {k : Nat} (h : k < l.length) : eM gr (l.take (k + 1)) = c2 gr (eM gr (l.take k)) l[k] := by
  unfold eM
  rw [List.take_succ_eq_append_getElem h, List.foldl_append]; rfl
theorem eM_small {gr : GroupD} (hg : OkG gr) (l : List CipherD) : SmallC (eM gr l) := by
  unfold eM
  suffices h : ∀ (l : List CipherD) (o : CipherD), SmallC o → SmallC (l.foldl (c2 gr) o) from h l ⟨1, 1⟩ ⟨⟨by decide, by decide⟩, ⟨by decide, by decide⟩⟩
  intro l
  induction l with
  | nil => intro o h; exact h
  | cons x l ih => intro o h; exact ih _ (c2_small hg _ _)
set_option maxRecDepth 100000 in
set_option maxHeartbeats 2000000 in
theorem spec_eMul (gr : GroupD) (v : Value) (l : List CipherD) (w : World) (hg : OkG gr) (h : RdR rCipher w v l) (hl : AllSmallC l) :
    Calls Try.prog 265 #[.agg #[.int .i64 gr.p, .int .i64 gr.q, .int .i64 gr.g], v] w fun e w' => e = .returned (.agg #[.int .i64 (eM gr l).a, .int .i64 (eM gr l).b]) ∧ Below w.heap.size w w' := by
  obtain ⟨a, n, c, rfl⟩ := h.shape
  have e := h.len
  obtain ⟨k1, k2⟩ := h.capMax
  unfold maxLen at k2
  have HE := Lib.hid e; clear e
  have H := Lib.hid h; clear h
  have HG := Lib.hid hg; clear hg
  have HL := Lib.hid hl; clear hl
  obtain ⟨W, hW⟩ : ∃ W, W = ((w.alloc (.cells #[.int .i64 gr.p, .int .i64 gr.q, .int .i64 gr.g] 39)).alloc (.cells #[.int .i64 0, .int .i64 0] 58)).alloc (.cells #[.int .i64 1, .int .i64 1] 58) := ⟨_, rfl⟩
  have HB : Hid (Below w.heap.size w W) := by unfold Hid; rw [hW]; (repeat (first | exact Below.refl _ _ | assumption | refine Below.drew ?_ | refine Below.alloc ?_ (by first | (simp; done) | (simp; omega)) _ | refine Below.setCell ?_ (by first | (simp; done) | (simp; omega)) _))
  have HX0 : Hid (BoxN W w.heap.size 39 [.int .i64 gr.p, .int .i64 gr.q, .int .i64 gr.g]) := by unfold Hid; rw [hW]; exact ((BoxN.new w _ _).alloc _).alloc _
  have HX1 : Hid (BoxN W (w.heap.size + 1) 58 [.int .i64 0, .int .i64 0]) := by unfold Hid; rw [hW]; have h := (BoxN.new (w.alloc (.cells #[.int .i64 gr.p, .int .i64 gr.q, .int .i64 gr.g] 39)) [.int .i64 0, .int .i64 0] 58).alloc (.cells #[.int .i64 1, .int .i64 1] 58); simpa using h
  have HX2 : Hid (BoxN W (w.heap.size + 1 + 1) 58 [.int .i64 1, .int .i64 1]) := by unfold Hid; rw [hW]; have h := BoxN.new ((w.alloc (.cells #[.int .i64 gr.p, .int .i64 gr.q, .int .i64 gr.g] 39)).alloc (.cells #[.int .i64 0, .int .i64 0] 58)) [.int .i64 1, .int .i64 1] 58; simpa using h
  go_enter Try.func265, Try.ntmps265
  go_wp2_with fail
  rw [← hW]
  clear hW
  go_loopg [11] n (fun gh iv wr => ∃ k : Nat, ∃ o : CipherD, k + gh = n ∧ iv = .int .i64 k ∧ o = eM gr (l.take k) ∧ BoxN wr w.heap.size 39 [.int .i64 gr.p, .int .i64 gr.q, .int .i64 gr.g] ∧ BoxN wr (w.heap.size + 1) 58 [.int .i64 0, .int .i64 0] ∧ BoxN wr (w.heap.size + 1 + 1) 58 [.int .i64 o.a, .int .i64 o.b] ∧ Below w.heap.size w wr)
  case atStart => exact ⟨0, ⟨1, 1⟩, by omega, rfl, rfl, HX0.out, HX1.out, HX2.out, HB.out⟩
  case round =>
    obtain ⟨k, o, hkg, rfl, ho, hx0, hx1, hx2, hb⟩ := hrel
    clear HX0 HX1 HX2
    have HX0 := Lib.hid hx0
    have HX1 := Lib.hid hx1
    have HX2 := Lib.hid hx2
    have HO := Lib.hid ho
    clear hx0 hx1 hx2 ho
    have HSO : Hid (SmallC o) := by unfold Hid; rw [HO.out]; exact eM_small HG.out _
    by_cases hlt : k < n
    · have HK : Hid (k < l.length) := by unfold Hid; rw [HE.out]; exact hlt
      have HS := Lib.hid (eM_succ (gr := gr) HK.out)
      have HSX : Hid (SmallC (l[k]'HK.out)) := HL.out _ (List.getElem_mem _)
      obtain ⟨b_x, o_x, rfl, hcx⟩ := H.out.at_ (by omega)
      obtain ⟨us, hcell, hrd⟩ := hcx k HK.out
      clear hcx
      generalize l[k]'HK.out = x at hrd HS HSX
      obtain ⟨ers, jx_0, jx_1⟩ := rdCipher.1 ⟨us, rfl, hrd⟩
      obtain rfl : us = [.int .i64 x.a, .int .i64 x.b] := by have h := Value.agg.inj ers; simpa using congrArg Array.toList h
      clear ers hrd
      have y_x_0 : wr.cell? ⟨b_x, o_x + k * 2, none⟩ = some (.int .i64 x.a) := box_at (hcell 0 (by decide)) hb
      have y_x_1 : wr.cell? ⟨b_x, o_x + k * 2 + 1, none⟩ = some (.int .i64 x.b) := box_at (hcell 1 (by decide)) hb
      clear hcell
      have HR_x := Lib.hid ((kS rCipher).rd_below (rdCipher.2 ⟨rfl, jx_0, jx_1⟩ : (kS rCipher).rd w (.agg #[.int .i64 x.a, .int .i64 x.b]) x) hb)
      have J_x_0 := Lib.hid jx_0
      have J_x_1 := Lib.hid jx_1
      clear jx_0 jx_1
      have hwk : IntKind.i64.wrap ((k : Int) + 1) = (k : Int) + 1 := IntWalk.i64_in _ (by omega)
      have HBW := Lib.hid hb; clear hb
      obtain ⟨V, hV⟩ : ∃ V, V = wr.alloc (.cells #[.int .i64 x.a, .int .i64 x.b] 58) := ⟨_, rfl⟩
      have hc : Below wr.heap.size wr V := by rw [hV]; exact (Below.refl _ _).alloc (Nat.le_refl _) _
      have c0_0 := box_at (HX0.out.cell (i := 0) rfl) hc
      have c0_1 := box_at (HX0.out.cell (i := 1) rfl) hc
      have c0_2 := box_at (HX0.out.cell (i := 2) rfl) hc
      have c1_0 := box_at (HX2.out.cell (i := 0) rfl) hc
      have c1_1 := box_at (HX2.out.cell (i := 1) rfl) hc
      have c2_0 : V.cell? ⟨wr.heap.size, 0, none⟩ = some (.int .i64 x.a) := by rw [hV]; simp [go_sem]
      have c2_1 : V.cell? ⟨wr.heap.size, 1, none⟩ = some (.int .i64 x.b) := by rw [hV]; simp [go_sem]
      go_wp2_with fail
      rw [← hV]
      clear hV
      try (go_wp2_with fail)
      refine wp_region_noPanic ?_
      refine wp_region_P (fun w' => w'.cell? ⟨w.heap.size, 0, none⟩ = some (.int .i64 gr.p) ∧ w'.cell? ⟨w.heap.size, 1, none⟩ = some (.int .i64 gr.q) ∧ w'.cell? ⟨w.heap.size, 2, none⟩ = some (.int .i64 gr.g) ∧ w'.cell? ⟨w.heap.size + 1 + 1, 0, none⟩ = some (.int .i64 o.a) ∧ w'.cell? ⟨w.heap.size + 1 + 1, 1, none⟩ = some (.int .i64 o.b) ∧ w'.cell? ⟨wr.heap.size, 0, none⟩ = some (.int .i64 x.a) ∧ w'.cell? ⟨wr.heap.size, 1, none⟩ = some (.int .i64 x.b)) 18 [(0, []), (1, []), (2, [0]), (3, []), (4, [0]), (5, [2, 0]), (6, [5, 0]), (7, []), (8, []), (9, [0]), (10, []), (11, [0]), (12, [2, 0]), (13, [5, 0]), (14, [7, 0])] [15] (by kernel_rfl) (by kernel_rfl) (by kernel_rfl) rfl (fun _ _ _ _ h => h) (fun w' h => ⟨box_at c0_0 h, box_at c0_1 h, box_at c0_2 h, box_at c1_0 h, box_at c1_1 h, box_at c2_0 h, box_at c2_1 h⟩) ?_
      simp only [pickP, pickN, List.getElem?_cons_zero, List.getElem?_cons_succ]
      -- 0: load 39 t2
      refine' chainP_read (d := (some 15)) _ rfl rfl (fun w' hS' => ?_) ?_; rotate_left
      · simp only [lookP, allP, Act.put, List.getElem?_cons_zero, List.getElem?_cons_succ, List.setIfInBounds_toArray, List.set_cons_zero, List.set_cons_succ]
        (try dsimp only at hS')
        go_simp
        (try with_reducible rfl)
      -- 1: fieldAddr 58 t5 0
      refine' chainP_read (d := (some 16)) _ rfl rfl (fun w' hS' => ?_) ?_; rotate_left
      · simp only [lookP, allP, Act.put, List.getElem?_cons_zero, List.getElem?_cons_succ, List.setIfInBounds_toArray, List.set_cons_zero, List.set_cons_succ]
        (try dsimp only at hS')
        go_simp
        (try with_reducible rfl)
      -- 2: load 3 t16
      refine' chainP_read (d := (some 17)) _ rfl rfl (fun w' hS' => ?_) ?_; rotate_left
      · simp only [lookP, allP, Act.put, List.getElem?_cons_zero, List.getElem?_cons_succ, List.setIfInBounds_toArray, List.set_cons_zero, List.set_cons_succ]
        (try dsimp only at hS')
        go_simp
        (try with_reducible rfl)
      -- 3: fieldAddr 58 t7 0
      refine' chainP_read (d := (some 18)) _ rfl rfl (fun w' hS' => ?_) ?_; rotate_left
      · simp only [lookP, allP, Act.put, List.getElem?_cons_zero, List.getElem?_cons_succ, List.setIfInBounds_toArray, List.set_cons_zero, List.set_cons_succ]
        (try dsimp only at hS')
        go_simp
        (try with_reducible rfl)
      -- 4: load 3 t18
      refine' chainP_read (d := (some 19)) _ rfl rfl (fun w' hS' => ?_) ?_; rotate_left
      · simp only [lookP, allP, Act.put, List.getElem?_cons_zero, List.getElem?_cons_succ, List.setIfInBounds_toArray, List.set_cons_zero, List.set_cons_succ]
        (try dsimp only at hS')
        go_simp
        (try with_reducible rfl)
      -- 5: buildSlice 24 2 #[(0, t17), (1, t19)]
      refine chainP_do (d := (some 20)) (fun v w => Ints w v [o.a, x.a]) (fun v w w' hb h => Ints.below h hb) rfl rfl (fun w' hS' => ?_) ?_
      · simp only [lookP, allP, Act.put, List.getElem?_cons_zero, List.getElem?_cons_succ, List.setIfInBounds_toArray, List.set_cons_zero, List.set_cons_succ]
        intro K hK
        go_simp
        refine hK.out _ _ ((Below.refl _ _).alloc (Nat.le_refl _) _) ?_
        exact (OwnI.lit (B := w'.heap.size) w' (Nat.le_refl _) (l := [o.a, x.a]) (AllI64.cons (small_64 HSO.out.1) (AllI64.cons (small_64 HSX.out.1) AllI64.nil)) rfl (by simp [maxLen]) 2 rfl).ints
      -- 6: call { callee := value (func 211), args := #[t15, t20], argTypes := #[39, 24] }
      refine chainP_call (d := (some 21)) (.int .i64 (mulL gr [o.a, x.a])) rfl rfl (fun w' hS' => ?_) ?_
      · simp only [lookP, allP, Act.put, List.getElem?_cons_zero, List.getElem?_cons_succ, List.setIfInBounds_toArray, List.set_cons_zero, List.set_cons_succ]
        intro x5 hx5
        intro K hK
        go_simp
        go_at_call 211
        refine (spec_gMul gr _ [o.a, x.a] _ HG.out hx5 (AllSmall.cons HSO.out.1 (AllSmall.cons HSX.out.1 AllSmall.nil))).mono ?_
        rintro e u ⟨rfl, hq⟩
        exact hK.out _ hq
      -- 7: load 39 t2
      refine' chainP_read (d := (some 22)) _ rfl rfl (fun w' hS' => ?_) ?_; rotate_left
      · simp only [lookP, allP, Act.put, List.getElem?_cons_zero, List.getElem?_cons_succ, List.setIfInBounds_toArray, List.set_cons_zero, List.set_cons_succ]
        (try dsimp only at hS')
        go_simp
        (try with_reducible rfl)
      -- 8: fieldAddr 58 t5 1
      refine' chainP_read (d := (some 23)) _ rfl rfl (fun w' hS' => ?_) ?_; rotate_left
      · simp only [lookP, allP, Act.put, List.getElem?_cons_zero, List.getElem?_cons_succ, List.setIfInBounds_toArray, List.set_cons_zero, List.set_cons_succ]
        (try dsimp only at hS')
        go_simp
        (try with_reducible rfl)
      -- 9: load 3 t23
      refine' chainP_read (d := (some 24)) _ rfl rfl (fun w' hS' => ?_) ?_; rotate_left
      · simp only [lookP, allP, Act.put, List.getElem?_cons_zero, List.getElem?_cons_succ, List.setIfInBounds_toArray, List.set_cons_zero, List.set_cons_succ]
        (try dsimp only at hS')
        go_simp
        (try with_reducible rfl)
      -- 10: fieldAddr 58 t7 1
      refine' chainP_read (d := (some 25)) _ rfl rfl (fun w' hS' => ?_) ?_; rotate_left
      · simp only [lookP, allP, Act.put, List.getElem?_cons_zero, List.getElem?_cons_succ, List.setIfInBounds_toArray, List.set_cons_zero, List.set_cons_succ]
        (try dsimp only at hS')
        go_simp
        (try with_reducible rfl)
      -- 11: load 3 t25
      refine' chainP_read (d := (some 26)) _ rfl rfl (fun w' hS' => ?_) ?_; rotate_left
      · simp only [lookP, allP, Act.put, List.getElem?_cons_zero, List.getElem?_cons_succ, List.setIfInBounds_toArray, List.set_cons_zero, List.set_cons_succ]
        (try dsimp only at hS')
        go_simp
        (try with_reducible rfl)
      -- 12: buildSlice 24 2 #[(0, t24), (1, t26)]
      refine chainP_do (d := (some 27)) (fun v w => Ints w v [o.b, x.b]) (fun v w w' hb h => Ints.below h hb) rfl rfl (fun w' hS' => ?_) ?_
      · simp only [lookP, allP, Act.put, List.getElem?_cons_zero, List.getElem?_cons_succ, List.setIfInBounds_toArray, List.set_cons_zero, List.set_cons_succ]
        intro K hK
        go_simp
        refine hK.out _ _ ((Below.refl _ _).alloc (Nat.le_refl _) _) ?_
        exact (OwnI.lit (B := w'.heap.size) w' (Nat.le_refl _) (l := [o.b, x.b]) (AllI64.cons (small_64 HSO.out.2) (AllI64.cons (small_64 HSX.out.2) AllI64.nil)) rfl (by simp [maxLen]) 2 rfl).ints
      -- 13: call { callee := value (func 211), args := #[t22, t27], argTypes := #[39, 24] }
      refine chainP_call (d := (some 28)) (.int .i64 (mulL gr [o.b, x.b])) rfl rfl (fun w' hS' => ?_) ?_
      · simp only [lookP, allP, Act.put, List.getElem?_cons_zero, List.getElem?_cons_succ, List.setIfInBounds_toArray, List.set_cons_zero, List.set_cons_succ]
        intro x12 hx12
        intro K hK
        go_simp
        go_at_call 211
        refine (spec_gMul gr _ [o.b, x.b] _ HG.out hx12 (AllSmall.cons HSO.out.2 (AllSmall.cons HSX.out.2 AllSmall.nil))).mono ?_
        rintro e u ⟨rfl, hq⟩
        exact hK.out _ hq
      -- 14: build 58 #[(0, t21), (1, t28)]
      refine' chainP_read (d := (some 29)) _ rfl rfl (fun w' hS' => ?_) ?_; rotate_left
      · simp only [lookP, allP, Act.put, List.getElem?_cons_zero, List.getElem?_cons_succ, List.setIfInBounds_toArray, List.set_cons_zero, List.set_cons_succ]
        (try dsimp only at hS')
        go_simp
        (try with_reducible rfl)
      refine chainP_nil (fun u1 hS' => ?_)
      simp only [allP, Act.put, List.setIfInBounds_toArray, List.set_cons_zero, List.set_cons_succ]
      intro x12 hx12
      intro x5 hx5
      have hq1 := hS'.1
      clear hS'
      replace hc := Below.next hc hq1
      replace c0_0 := box_at c0_0 hq1
      replace c0_1 := box_at c0_1 hq1
      replace c0_2 := box_at c0_2 hq1
      replace c1_0 := box_at c1_0 hq1
      replace c1_1 := box_at c1_1 hq1
      replace c2_0 := box_at c2_0 hq1
      replace c2_1 := box_at c2_1 hq1
      clear hq1

      have HR2 := Lib.hid (HX2.out.below hc)
      have HR1 := Lib.hid (HX1.out.below hc)
      have HR0 := Lib.hid (HX0.out.below hc)
      have HBU := Lib.hid (HBW.out.trans (hc.mono HBW.out.size))
      clear hc c0_0 c0_1 c0_2 c1_0 c1_1 c2_0 c2_1
      have r0 := HR2.out.cell (i := 0) rfl
      have r1 := HR2.out.cell (i := 1) rfl
      have fr := fun j => HR2.out.frozen j
      go_wp2_with fail
      refine NoPanic.normal ?_
      have HF2 := Lib.hid ((HR2.out.set 0 (.int .i64 (mulL gr [o.a, x.a]))).set 1 (.int .i64 (mulL gr [o.b, x.b])))
      have HF1 := Lib.hid ((HR1.out.other (b' := w.heap.size + 1 + 1) (by omega) 0 (.int .i64 (mulL gr [o.a, x.a]))).other (b' := w.heap.size + 1 + 1) (by omega) 1 (.int .i64 (mulL gr [o.b, x.b])))
      have HF0 := Lib.hid ((HR0.out.other (b' := w.heap.size + 1 + 1) (by omega) 0 (.int .i64 (mulL gr [o.a, x.a]))).other (b' := w.heap.size + 1 + 1) (by omega) 1 (.int .i64 (mulL gr [o.b, x.b])))
      have HBF := Lib.hid ((HBU.out.setCell (p := ⟨w.heap.size + 1 + 1, 0, none⟩) (by show w.heap.size ≤ w.heap.size + 1 + 1; omega) (.int .i64 (mulL gr [o.a, x.a]))).setCell (p := ⟨w.heap.size + 1 + 1, 1, none⟩) (by show w.heap.size ≤ w.heap.size + 1 + 1; omega) (.int .i64 (mulL gr [o.b, x.b])))
      clear r0 r1 fr
      go_wp2_with fail
      go_roundg (n - (k + 1))
      case measure => omega
      case rel => exact ⟨k + 1, c2 gr o x, by omega, by go_num, by rw [HS.out, HO.out], HF0.out, HF1.out, HF2.out, HBF.out⟩
    · obtain rfl : n = k := by omega
      have HL1 : Hid (eM gr l = o) := by unfold Hid; rw [HO.out, List.take_of_length_le (by rw [HE.out]; exact Nat.le_refl _)]
      have r0 := HX2.out.cell (i := 0) rfl
      have r1 := HX2.out.cell (i := 1) rfl
      have s0 := HX1.out.cell (i := 0) rfl
      have s1 := HX1.out.cell (i := 1) rfl
      have fr := fun j => HX1.out.frozen j
      have HBR := Lib.hid hb; clear hb
      go_wp2_with fail
      have HRF := Lib.hid ((HX1.out.set 0 (.int .i64 o.a)).set 1 (.int .i64 o.b))
      have HBF := Lib.hid ((HBR.out.setCell (p := ⟨w.heap.size + 1, 0, none⟩) (by show w.heap.size ≤ w.heap.size + 1; omega) (.int .i64 o.a)).setCell (p := ⟨w.heap.size + 1, 1, none⟩) (by show w.heap.size ≤ w.heap.size + 1; omega) (.int .i64 o.b))
      clear s0 s1 fr
      have s0 := HRF.out.cell (i := 0) rfl
      have s1 := HRF.out.cell (i := 1) rfl
      refine bodyPost_ret (v := .agg #[.int .i64 o.a, .int .i64 o.b]) (by simp [results, Try.results265, go_sem, s0, s1]) rfl ⟨by rw [HL1.out], HBF.out⟩
end Go.Proofs.Ytboahnklilmdpaa
