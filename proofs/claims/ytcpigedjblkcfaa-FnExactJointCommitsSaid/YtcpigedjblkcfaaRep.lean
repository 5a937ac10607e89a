/- slices.Repeat of one element, few times. -/
import Derived.Test.YtcpigedjblkcfaaBa
import Derived.Laws.CopyOwn
import Derived.Test.YtcpigedjblkcfaaRegT
namespace Go.Proofs.Ytcpigedjblkcfaa
open Go.RowKit
set_option linter.unusedSimpArgs false
set_option linter.unusedVariables false

theorem ret_uu {a a' b b' : Int} (h : a = a') (h' : b = b') : Ending.returned (.tuple #[.int .u64 a, .int .u64 b]) = .returned (.tuple #[.int .u64 a', .int .u64 b']) := by rw [h, h']
set_option maxRecDepth 100000 in
set_option maxHeartbeats 2000000 in
theorem bits_Mul64_1 (n : Int) (w : World) (h : 1 ≤ n ∧ n ≤ 4) : Calls Try.prog 259 #[.int .u64 1, .int .u64 n] w fun e w' => e = .returned (.tuple #[.int .u64 0, .int .u64 n]) ∧ w = w' := by
  rcases (by omega : n = 1 ∨ n = 2 ∨ n = 3 ∨ n = 4) with rfl | rfl | rfl | rfl
  all_goals
    go_enter Try.func259, Try.ntmps259
    go_wp2_with fail
    go_ret2
    exact ⟨ret_uu (by decide +kernel) (by decide +kernel), rfl⟩
set_option maxRecDepth 100000 in
set_option maxHeartbeats 2000000 in
theorem bits_Mul_1 (n : Int) (w : World) (h : 1 ≤ n ∧ n ≤ 4) : Calls Try.prog 233 #[.int .u64 1, .int .u64 n] w fun e w' => e = .returned (.tuple #[.int .u64 0, .int .u64 n]) ∧ w = w' := by
  go_enter Try.func233, Try.ntmps233
  go_wp2_with fail
  refine (bits_Mul64_1 n _ h).mono ?_
  rintro e w1 ⟨rfl, rfl⟩
  go_wp2_with fail
  go_ret2
  exact ⟨rfl, rfl⟩
theorem ownI_row {w : World} {B g n : Nat} {l : List Int} (hl : AllI64 l) (h : w.heap[g]? = some (.cells (l.map (Value.int .i64)).toArray 3 (0, 0))) (hB : B ≤ g) (hn : l.length = n) (hm : n ≤ maxLen) : OwnI w B (.slice (some ⟨g, 0, none⟩) n n) l := by
  subst hn
  refine ⟨hl, by simp, .inr ⟨g, _, _, rfl, hB, h, Nat.le_refl _, hm, by simp, ?_⟩⟩
  rw [List.take_of_length_le (by simp)]
theorem BoxN.new' (w : World) (cs : Array Value) (t : TypeId) : (w.alloc (.cells cs t)).heap[w.heap.size]? = some (.cells cs t (0, 0)) := by have h := BoxN.new w cs.toList t; simpa [BoxN] using h
/-- a row of n cells whose first k are one -/
def rowK (n k : Nat) : List Int := List.replicate k 1 ++ List.replicate (n - k) 0
theorem rowK_zero (n : Nat) : rowK n 0 = List.replicate n 0 := by simp [rowK]
theorem rowK_all (n : Nat) : rowK n n = List.replicate n 1 := by simp [rowK]
theorem rowK_length {n k : Nat} (h : k ≤ n) : (rowK n k).length = n := by simp [rowK]; omega
theorem rowK_step {n k m : Nat} (h : k + m ≤ n) : ((rowK n k).map (Value.int .i64)).take k ++ List.replicate m (Value.int .i64 1) ++ ((rowK n k).map (Value.int .i64)).drop (k + m) = (rowK n (k + m)).map (Value.int .i64) := by
  have e1 : (rowK n k).map (Value.int .i64) = List.replicate k (.int .i64 1) ++ List.replicate (n - k) (.int .i64 0) := by simp [rowK]
  have e2 : (rowK n (k + m)).map (Value.int .i64) = List.replicate (k + m) (.int .i64 1) ++ List.replicate (n - (k + m)) (.int .i64 0) := by simp [rowK]
  rw [e1, e2, List.take_append_of_le_length (by simp), List.take_of_length_le (by simp), List.drop_append, List.drop_of_length_le (by simp), List.nil_append, List.drop_replicate, List.length_replicate, List.replicate_append_replicate]
  congr 2
  omega
theorem rowK_cell {n k j : Nat} {w : World} {g : Nat} (h : w.heap[g]? = some (.cells ((rowK n k).map (Value.int .i64)).toArray 3 (0, 0))) (hj : j < k) : w.cell? ⟨g, j, none⟩ = some (.int .i64 1) := by
  rw [cell_of_row w g j _ _ _ h]
  simp [rowK, List.getElem?_append, hj]
theorem copyK {W : World} {g n k m : Nat} (hrow : W.heap[g]? = some (.cells ((rowK n k).map (Value.int .i64)).toArray 3 (0, 0))) (hkm : k + m ≤ n) (a : Addr) (dLen dCap sLen sCap : Nat) (hm : m = Nat.min sLen dLen) (hsrc : ∀ j, j < m → W.cell? (a.add j) = some (.int .i64 1)) (ty : TypeId) :
    (Builtin.copy_ #[38, 38] ty #[.slice (some ⟨g, k, none⟩) dLen dCap, .slice (some a) sLen sCap]).run Try.prog W = .ok (goInt m) (W.setRow g ((rowK n (k + m)).map (Value.int .i64)).toArray) := by
  have h := run_copy_row (P := Try.prog) W 38 38 ty 3 g k dLen dCap a sLen sCap _ 3 (List.replicate m (.int .i64 1)) Try.underlying38 (by kernel_rfl) hrow (by simp; exact hm) (fun j v hv => by
    obtain ⟨h1, h2⟩ := List.getElem?_eq_some_iff.1 hv
    rw [List.length_replicate] at h1
    rw [List.getElem_replicate] at h2
    rw [← h2]; exact hsrc j h1) (by simp [rowK]; omega) (fun v hv => by rw [List.eq_of_mem_replicate hv]; rfl)
  rw [h, List.length_replicate]
  have e := rowK_step hkm
  simp only [List.toList_toArray] at e ⊢
  rw [e]
set_option maxRecDepth 100000 in
set_option maxHeartbeats 2000000 in
theorem slices_Repeat1 (v : Value) (n : Int) (w : World) (h : Ints w v [1]) (hn : 1 ≤ n ∧ n ≤ 4) :
    Calls Try.prog 182 #[v, .int .i64 n] w fun e w' => ∃ v', e = .returned v' ∧ OwnI w' w.heap.size v' (List.replicate n.toNat 1) ∧ Below w.heap.size w w' := by
  obtain ⟨a, m, c, rfl⟩ := h.shape
  obtain rfl : m = 1 := h.len.symm
  obtain ⟨bk, oo, rfl, hcx⟩ := h.at_ (by omega)
  have hy : w.cell? ⟨bk, oo, none⟩ = some (.int .i64 1) := by have := hcx 0 (by omega); simpa [nth] using this
  clear hcx
  have H := Lib.hid h; clear h
  obtain ⟨N, rfl⟩ : ∃ N : Nat, n = N := ⟨n.toNat, by omega⟩
  have HN := Lib.hid hn
  obtain ⟨n0, n1⟩ := hn
  have ew : IntKind.u64.wrap (N : Int) = (N : Int) := by rw [IntKind.wrap_u64]; omega
  have hmk := fun u => run_make_row' (P := Try.prog) 38 3 (.int .i64 0) 8 Try.underlying38 info_int rfl .i64 .i64 N (by omega) (by omega) u
  obtain ⟨W, hW⟩ : ∃ W, W = w.alloc (.cells (madeCells #[.int .i64 0] N) 3) := ⟨_, rfl⟩
  have HWB : Hid (Below w.heap.size w W) := by unfold Hid; rw [hW]; exact (Below.refl _ _).alloc (Nat.le_refl _) _
  have HR0 : Hid (W.heap[w.heap.size]? = some (.cells ((rowK N 0).map (Value.int .i64)).toArray 3 (0, 0))) := by
    unfold Hid
    have e : ((rowK N 0).map (Value.int .i64)).toArray = madeCells #[.int .i64 0] N := by rw [← Array.toList_inj, toList_madeCells_one, rowK_zero]; simp
    rw [e, hW]; exact BoxN.new' w _ _
  have hcp : ∀ ty, (Builtin.copy_ #[38, 38] ty #[.slice (some ⟨w.heap.size, 0, none⟩) N N, .slice (some ⟨bk, oo, none⟩) 1 c]).run Try.prog W = .ok (goInt 1) (W.setRow w.heap.size ((rowK N 1).map (Value.int .i64)).toArray) := fun ty =>
    copyK HR0.out (m := 1) (by omega) ⟨bk, oo, none⟩ N N 1 c (by show 1 = min 1 N; omega) (fun j hj => by
      obtain rfl : j = 0 := by omega
      have := box_at hy (HWB.out)
      simpa [Addr.add] using this) ty
  go_enter Try.func182, Try.ntmps182
  go_wp2_with fail
  refine (bits_Mul_1 N _ HN.out).mono ?_
  rintro e w1 ⟨rfl, rfl⟩
  go_wp2_with fail
  rw [← hW]
  clear hW
  go_wp2_with fail
  rw [hcp]
  obtain ⟨U, hU⟩ : ∃ U, U = W.setRow w.heap.size ((rowK N 1).map (Value.int .i64)).toArray := ⟨_, rfl⟩
  have HRU : Hid (U.heap[w.heap.size]? = some (.cells ((rowK N 1).map (Value.int .i64)).toArray 3 (0, 0))) := by unfold Hid; rw [hU]; exact setRow_heap _ _ _ _ _ _ HR0.out
  have HUB : Hid (Below w.heap.size w U) := by unfold Hid; rw [hU]; exact below_setRow HWB.out (Nat.le_refl _) _
  rw [← hU]
  clear hU hcp
  go_wp2_with fail
  go_loopg [8] (N - 1) (fun gg iv wr => ∃ k : Nat, k + gg = N ∧ 1 ≤ k ∧ iv = .int .i64 k ∧ Hid (wr.heap[w.heap.size]? = some (.cells ((rowK N k).map (Value.int .i64)).toArray 3 (0, 0))) ∧ Hid (Below w.heap.size w wr))
  case atStart => exact ⟨1, by omega, by omega, rfl, HRU, HUB⟩
  case round =>
    obtain ⟨k, hkg, hk1, rfl, HR, HB⟩ := hrel
    clear hmk
    by_cases hlt : k < N
    · obtain ⟨m, hm⟩ : ∃ m, m = Nat.min k (N - k) := ⟨_, rfl⟩
      have hmb : 1 ≤ m ∧ m ≤ k ∧ k + m ≤ N := by have h2 : m = min k (N - k) := hm; omega
      obtain ⟨m1, m2, m3⟩ := hmb
      have hs1 : ∀ V, (Instr.slice 38 (.slice (some ⟨w.heap.size, 0, none⟩) N N) (some (.int .i64 (k : Int))) none none).run Try.prog V = .ok (.slice (some ⟨w.heap.size, k, none⟩) (N - k) (N - k)) V := fun V => by
        simp [Try.underlying38, go_sem, Nat.le_of_lt hlt, run_slice_l, run_underlying, Addr.add, show ¬ N = k by omega, show ¬ k = 0 by omega]
      have hs2 : ∀ V, (Instr.slice 38 (.slice (some ⟨w.heap.size, 0, none⟩) N N) none (some (.int .i64 (k : Int))) none).run Try.prog V = .ok (.slice (some ⟨w.heap.size, 0, none⟩) k N) V := fun V => by
        simp [Try.underlying38, go_sem, Nat.le_of_lt hlt, run_underlying]
      have hcp : ∀ ty, (Builtin.copy_ #[38, 38] ty #[.slice (some ⟨w.heap.size, k, none⟩) (N - k) (N - k), .slice (some ⟨w.heap.size, 0, none⟩) k N]).run Try.prog wr.drew = .ok (goInt m) (wr.drew.setRow w.heap.size ((rowK N (k + m)).map (Value.int .i64)).toArray) := fun ty =>
        copyK (W := wr.drew) HR.out (by omega) ⟨w.heap.size, 0, none⟩ _ _ _ _ hm (fun j hj => by
          have := rowK_cell (j := j) HR.out (by omega)
          rw [Addr.add_lit, Nat.zero_add]; exact this) ty
      have ewk : IntKind.i64.wrap ((k : Int) + (m : Int)) = (k : Int) + (m : Int) := IntWalk.i64_in _ (by omega)
      clear hm
      go_wp2_with fail
      refine wp_region_noPanic ?_
      refine wp_region_take (fun w' => Below w.heap.size w w') 12 [(true, 0), (true, 1), (true, 2), (true, 3), (true, 4), (true, 5), (true, 6), (false, 7)] [8, 9] (by kernel_rfl) (by kernel_rfl) rfl (fun _ _ _ _ _ h => h) HB.out.drew ?_
      simp only [pickL, pickN, List.getElem?_cons_zero, List.getElem?_cons_succ]
      repeat (refine' wpTake_read _ (by rfl) (fun w' hS' => ?_) ?_; rotate_left; · ((try dsimp only at hS'); go_simp; (try with_reducible rfl)); (try simp only [Act.put, List.setIfInBounds_toArray, List.set_cons_zero, List.set_cons_succ]))
      refine wpTake_do (by rfl) (fun K hK => ?_)
      go_simp
      obtain ⟨V, hV⟩ : ∃ V, V = wr.drew.setRow w.heap.size ((rowK N (k + m)).map (Value.int .i64)).toArray := ⟨_, rfl⟩
      have HRV : Hid (V.heap[w.heap.size]? = some (.cells ((rowK N (k + m)).map (Value.int .i64)).toArray 3 (0, 0))) := by unfold Hid; rw [hV]; exact setRow_heap wr.drew _ _ _ _ _ HR.out
      have HVB : Hid (Below w.heap.size w V) := by unfold Hid; rw [hV]; exact below_setRow HB.out.drew (Nat.le_refl _) _
      rw [← hV]
      clear hV hcp
      refine hK.out _ _ HVB.out (fun _ => ?_)
      clear hK K
      try simp only [Act.put, List.setIfInBounds_toArray, List.set_cons_zero, List.set_cons_succ]
      refine wpTake_nil ?_
      go_wp2_with fail
      refine NoPanic.normal ?_
      go_wp2_with fail
      go_roundg (N - (k + m))
      case measure => omega
      case rel => exact ⟨k + m, by omega, by omega, by go_num, HRV, HVB⟩
    · obtain rfl : N = k := by omega
      have HRR : Hid (((N : Int)).toNat = N) := by unfold Hid; omega
      go_wp2_with fail
      go_ret
      refine ⟨_, rfl, ?_, HB.out⟩
      rw [HRR.out, ← rowK_all]
      exact ownI_row (fun x hx => by rw [rowK_all] at hx; rw [List.eq_of_mem_replicate hx]; exact ⟨by decide, by decide⟩) HR.out (Nat.le_refl _) (rowK_length (Nat.le_refl _)) (by unfold maxLen; omega)
end Go.Proofs.Ytcpigedjblkcfaa
