/- Groups: logarithms: plain laws, walks of LogOf. -/
import Derived.Test.YtboahnklilmdpaaPow1
namespace Go.Proofs.Ytboahnklilmdpaa
open Go.RowKit
set_option linter.unusedSimpArgs false
set_option linter.unusedVariables false

/-- the k-th power -/
def yE (gr : GroupD) (b : Int) (k : Nat) : Int := powM b k gr.p
/-- the first of n exponents from k on whose power is x, or -1 -/
def lgF (gr : GroupD) (b x : Int) : Nat → Nat → Int
  | _, 0 => -1
  | k, n + 1 => if yE gr b k = x then (k : Int) else lgF gr b x (k + 1) n
theorem yE_zero {gr : GroupD} (hg : OkG gr) (b : Int) : yE gr b 0 = 1 := by
  have := hg.p1
  unfold yE powM
  rw [show (((0 : Nat) : Int)).toNat = 0 from rfl, Int.pow_zero]
  exact Int.emod_eq_of_lt (by omega) (by omega)
theorem yE_succ (gr : GroupD) (b : Int) (k : Nat) : yE gr b (k + 1) = yE gr b k * b % gr.p := by
  show b ^ ((k + 1 : Nat) : Int).toNat % gr.p = b ^ ((k : Nat) : Int).toNat % gr.p * b % gr.p
  rw [Int.toNat_natCast, Int.toNat_natCast, Int.pow_succ, emod_mul_left]
theorem yE_bd {gr : GroupD} (hg : OkG gr) (b : Int) (k : Nat) : 0 ≤ yE gr b k ∧ yE gr b k < gr.p := powM_bd (by have := hg.p1; omega)
theorem yE_add (gr : GroupD) (b : Int) (a d : Nat) (h : yE gr b d = 1) : yE gr b (a + d) = yE gr b a := by
  have h' : b ^ d % gr.p = 1 := h
  show b ^ (a + d) % gr.p = b ^ a % gr.p
  rw [Int.pow_add, ← emod_mul_right, h', Int.mul_one]
theorem yE_mod (gr : GroupD) (b : Int) {d : Nat} (hd : 0 < d) (h : yE gr b d = 1) (j : Nat) : yE gr b j = yE gr b (j % d) := by
  induction j using Nat.strongRecOn with
  | ind j ih =>
    rcases Nat.lt_or_ge j d with hlt | hge
    · rw [Nat.mod_eq_of_lt hlt]
    · have e : j = (j - d) + d := by omega
      have h1 := ih (j - d) (by omega)
      rw [Nat.mod_eq_sub_mod hge, ← h1, ← yE_add gr b (j - d) d h, ← e]
theorem lgF_no {gr : GroupD} {b x : Int} : ∀ {n k : Nat}, (∀ j, k ≤ j → j < k + n → yE gr b j ≠ x) → lgF gr b x k n = -1
  | 0, _, _ => rfl
  | n + 1, k, h => by
    rw [lgF, if_neg (h k (Nat.le_refl _) (by omega))]
    exact lgF_no fun j h1 h2 => h j (by omega) (by omega)
theorem lgF_some {gr : GroupD} {b x : Int} : ∀ {n k : Nat}, lgF gr b x k n = -1 ∨ ∃ j : Nat, lgF gr b x k n = j ∧ k ≤ j ∧ j < k + n ∧ yE gr b j = x
  | 0, _ => .inl rfl
  | n + 1, k => by
    rw [lgF]
    by_cases h : yE gr b k = x
    · rw [if_pos h]; exact .inr ⟨k, rfl, Nat.le_refl _, by omega, h⟩
    · rw [if_neg h]
      rcases lgF_some (n := n) (k := k + 1) with h1 | ⟨j, h1, h2, h3, h4⟩
      · exact .inl h1
      · exact .inr ⟨j, h1, by omega, by omega, h4⟩
/-- the number of exponents that are tried -/
def lgM (gr : GroupD) (m : Int) : Nat := (min m (gr.q - 1) + 1).toNat
noncomputable def loA (gr : GroupD) (b x m : Int) : Bool := goodG gr && ((elB gr b && elB gr x) && decide (0 ≤ m ∧ m ≤ 1000000))
noncomputable def loB (gr : GroupD) (b x m : Int) : Bool := loA gr b x m && decide (0 ≤ lgF gr b x 0 (lgM gr m))
noncomputable def loR (gr : GroupD) (b x m : Int) : Int := if loB gr b x m = true then lgF gr b x 0 (lgM gr m) else 0
theorem elB_pow {gr : GroupD} {x : Int} (h : elB gr x = true) : powM x gr.q gr.p = 1 := by
  unfold elB at h; simp only [Bool.and_eq_true, beq_iff_eq] at h; exact h.2
set_option maxRecDepth 100000 in
set_option maxHeartbeats 2000000 in
theorem impl_log (gr : GroupD) (b x m : Int) (w : World) (hg : OkG gr) (hb0 : Small b) (hm : 0 ≤ m ∧ m ≤ 1000000) :
    Calls Try.prog 267 #[.agg #[.int .i64 gr.p, .int .i64 gr.q, .int .i64 gr.g], .int .i64 b, .int .i64 x, .int .i64 m] w fun e w' => e = .returned (.int .i64 (lgF gr b x 0 (m + 1).toNat)) ∧ Below w.heap.size w w' := by
  obtain ⟨m0, m1⟩ := hm
  obtain ⟨M, rfl⟩ : ∃ M : Nat, m = M := ⟨m.toNat, by omega⟩
  have HG := Lib.hid hg
  have hp2 := hg.p2
  have HY0 := Lib.hid (yE_zero hg b)
  have HYB : Hid (∀ k, 0 ≤ yE gr b k ∧ yE gr b k < gr.p) := fun k => yE_bd hg b k
  have HYS : Hid (∀ k, mulL gr [yE gr b k, b] = yE gr b (k + 1)) := fun k => by
    show 1 * yE gr b k % gr.p * b % gr.p = _
    rw [Int.one_mul, Int.emod_eq_of_lt (yE_bd hg b k).1 (yE_bd hg b k).2, yE_succ]
  have HLS : Hid (∀ k n, lgF gr b x k (n + 1) = if yE gr b k = x then (k : Int) else lgF gr b x (k + 1) n) := fun k n => rfl
  have e0 : ((M : Int) + 1).toNat = M + 1 := by omega
  rw [e0]
  clear e0 hg
  obtain ⟨hb1, hb2⟩ := hb0
  obtain ⟨R, hR⟩ : ∃ R, lgF gr b x 0 (M + 1) = R := ⟨_, rfl⟩
  have HR := Lib.hid hR
  rw [hR]
  clear hR
  have ewM : IntKind.i64.wrap ((M : Int) + 1) = (M : Int) + 1 := IntWalk.i64_in _ (by omega)
  have HGG := HG
  have HP2 := hp2
  obtain ⟨W, hW⟩ : ∃ W, W = w.alloc (.cells #[.int .i64 gr.p, .int .i64 gr.q, .int .i64 gr.g] 39) := ⟨_, rfl⟩
  have HB : Hid (Below w.heap.size w W) := by unfold Hid; rw [hW]; exact (Below.refl _ _).alloc (Nat.le_refl _) _
  have HX : Hid (BoxN W w.heap.size 39 [.int .i64 gr.p, .int .i64 gr.q, .int .i64 gr.g]) := by unfold Hid; rw [hW]; exact BoxN.new w _ _
  go_enter Try.func267, Try.ntmps267
  go_wp2_with fail
  rw [← hW]
  clear hW
  try (go_wp2_with fail)
  go_loopg [9, 13] (M + 1) (fun gk yv kv wr => ∃ k : Nat, k + gk = M + 1 ∧ kv = .int .i64 k ∧ yv = .int .i64 (yE gr b k) ∧ Hid (lgF gr b x k gk = R) ∧ Below W.heap.size W wr)
  case atStart => exact ⟨0, by omega, rfl, by rw [HY0.out], HR.out, Below.refl _ _⟩
  case round =>
    obtain ⟨k, hk, rfl, rfl, HF, hbw⟩ := hrel
    have HBW := Lib.hid hbw
    have c0 := box_at (HX.out.cell (i := 0) rfl) hbw
    have c1 := box_at (HX.out.cell (i := 1) rfl) hbw
    have c2 := box_at (HX.out.cell (i := 2) rfl) hbw
    have hsr := hbw.size
    clear hbw
    cases gk with
    | zero =>
      have hRE : R = -1 := HF.out.symm
      have hkn : ¬ (k : Int) < (M : Int) + 1 := by omega
      clear c0 c1 c2
      subst hRE
      go_wp2_with fail
      go_ret
      exact ⟨rfl, Below.next HB.out HBW.out⟩
    | succ n =>
      have hlt : (k : Int) < (M : Int) + 1 := by omega
      have ewk : IntKind.i64.wrap ((k : Int) + 1) = (k : Int) + 1 := IntWalk.i64_in _ (by omega)
      have HF2 : Hid ((if yE gr b k = x then (k : Int) else lgF gr b x (k + 1) n) = R) := HF.out
      have HS := Lib.hid (HYS.out k)
      obtain ⟨y0, y1⟩ := HYB.out k
      obtain ⟨y, hy⟩ : ∃ y, yE gr b k = y := ⟨_, rfl⟩
      rw [hy] at HF2 HS y0 y1 ⊢
      clear hy HF
      by_cases hyx : y = x
      · have hRE : R = (k : Int) := by have := HF2.out; rw [if_pos hyx] at this; exact this.symm
        subst hyx
        subst hRE
        clear c0 c1 c2
        go_wp2_with fail
        go_ret
        exact ⟨rfl, Below.next HB.out HBW.out⟩
      · have HF3 : Hid (lgF gr b x (k + 1) n = R) := by have := HF2.out; rw [if_neg hyx] at this; exact this
        have hyb : (y == x) = false := by rw [beq_eq_false_iff_ne]; exact hyx
        go_wp2_with fail
        refine (impl_mul gr _ [y, b] _ HG.out (Ints.lit2 _ ⟨by omega, by omega⟩ ⟨by omega, by omega⟩) (fun z hz => by
          rcases List.mem_cons.1 hz with rfl | hz
          · exact ⟨by omega, by omega⟩
          · rw [List.mem_singleton.1 hz]; exact ⟨by omega, by omega⟩)).mono ?_
        rintro e w3 ⟨rfl, hb3⟩
        rw [HS.out]
        have hb4 := Below.next ((Below.refl _ _).alloc (Nat.le_refl _) _) hb3
        have HB4 := Lib.hid (HBW.out.trans (hb4.mono hsr))
        clear hb3 hb4 c0 c1 c2
        go_wp2_with fail
        go_roundg n
        case measure => omega
        case rel => exact ⟨k + 1, by omega, by go_num, rfl, HF3.out, HB4.out⟩
set_option maxRecDepth 100000 in
set_option maxHeartbeats 2000000 in
theorem spec_gLog (gr : GroupD) (b x m : Int) (w : World) (hg : OkG gr) (hel : elB gr b = true) (hm : 0 ≤ m ∧ m ≤ 1000000) :
    Calls Try.prog 163 #[.agg #[.int .i64 gr.p, .int .i64 gr.q, .int .i64 gr.g], .int .i64 b, .int .i64 x, .int .i64 m] w fun e w' => e = .returned (.tuple #[.int .i64 (if 0 ≤ lgF gr b x 0 (lgM gr m) then lgF gr b x 0 (lgM gr m) else 0), .bool (decide (0 ≤ lgF gr b x 0 (lgM gr m)))]) ∧ Below w.heap.size w w' := by
  obtain ⟨m0, m1⟩ := hm
  obtain ⟨M, rfl⟩ : ∃ M : Nat, m = M := ⟨m.toNat, by omega⟩
  have hp2 := hg.p2
  have hp1 := hg.p1
  have hq1 := hg.q1
  obtain ⟨b0, b1⟩ := elB_bd hel
  have HY0 := Lib.hid (yE_zero hg b)
  have HYB : Hid (∀ k, 0 ≤ yE gr b k ∧ yE gr b k < gr.p) := fun k => yE_bd hg b k
  have HYS : Hid (∀ k, yE gr b (k + 1) = yE gr b k * b % gr.p) := fun k => yE_succ gr b k
  have HYQ : Hid (yE gr b gr.q.toNat = 1) := by
    have h := elB_pow hel
    show powM b ((gr.q.toNat : Nat) : Int) gr.p = 1
    rw [Int.toNat_of_nonneg (by omega)]; exact h
  clear hg hel
  obtain ⟨L, hL⟩ : ∃ L, lgM gr (M : Int) = L := ⟨_, rfl⟩
  have hLM : (L : Int) = min (M : Int) (gr.q - 1) + 1 := by rw [← hL]; unfold lgM; omega
  rw [hL]
  clear hL
  obtain ⟨R, hR⟩ : ∃ R, lgF gr b x 0 L = R := ⟨_, rfl⟩
  have HR := Lib.hid hR
  rw [hR]
  clear hR
  obtain ⟨p, q, g⟩ := gr
  simp only [] at hp1 hp2 hq1 b1 hLM
  have HLM := Lib.hid hLM
  clear hLM
  obtain ⟨W, hW⟩ : ∃ W, W = w.alloc (.cells #[.int .i64 p, .int .i64 q, .int .i64 g] 39) := ⟨_, rfl⟩
  have HB : Hid (Below w.heap.size w W) := by unfold Hid; rw [hW]; exact (Below.refl _ _).alloc (Nat.le_refl _) _
  have c0 : W.cell? ⟨w.heap.size, 0, none⟩ = some (.int .i64 p) := by rw [hW]; simp [go_sem]
  go_enter Try.func163, Try.ntmps163
  go_wp2_with fail
  rw [← hW]
  clear hW
  try (go_wp2_with fail)
  go_loopg [10, 11] (M + 1) (fun gk yv kv wr => ∃ k : Nat, k + gk = M + 1 ∧ kv = .int .i64 k ∧ yv = .int .i64 (yE ⟨p, q, g⟩ b k) ∧ Hid (k ≤ L ∧ (k : Int) ≤ q - 1 ∧ lgF ⟨p, q, g⟩ b x k (L - k) = R) ∧ Hid (∀ j, j < k → yE ⟨p, q, g⟩ b j ≠ x) ∧ Hid (∀ j, 1 ≤ j → j ≤ k → yE ⟨p, q, g⟩ b j ≠ 1) ∧ W = wr)
  case atStart => exact ⟨0, by omega, rfl, by rw [HY0.out], ⟨by omega, by omega, HR.out⟩, fun j hj => by omega, fun j h1 h2 => by omega, rfl⟩
  case round =>
    obtain ⟨k, hk, rfl, rfl, HF, HNX, HN1, rfl⟩ := hrel
    obtain ⟨hkL, hkq, hF⟩ := HF.out
    have hLM := HLM.out
    cases gk with
    | zero =>
      have hRE : R = -1 := by
        rw [← hF, show L - k = 0 by omega]; rfl
      have hkn : ¬ (k : Int) ≤ (M : Int) := by omega
      subst hRE
      clear hLM HLM hF HF c0
      go_wp2_with fail
      go_ret2
      exact ⟨ret_int_bool (by first | rfl | simp) (by first | rfl | simp), HB.out⟩
    | succ n =>
      have hle : (k : Int) ≤ (M : Int) := by omega
      have hkl : k < L := by omega
      have ewk : IntKind.i64.wrap ((k : Int) + 1) = (k : Int) + 1 := IntWalk.i64_in _ (by omega)
      have HF2 : Hid ((if yE ⟨p, q, g⟩ b k = x then (k : Int) else lgF ⟨p, q, g⟩ b x (k + 1) (L - (k + 1))) = R) := by
        unfold Hid; rw [← hF, show L - k = (L - (k + 1)) + 1 by omega]; rfl
      have HS := Lib.hid (HYS.out k)
      have HD : Hid (yE ⟨p, q, g⟩ b (k + 1) = 1 → yE ⟨p, q, g⟩ b k ≠ x → lgF ⟨p, q, g⟩ b x (k + 1) (L - (k + 1)) = -1) := fun h1 hnk => by
        refine lgF_no fun j _ _ => ?_
        rw [yE_mod ⟨p, q, g⟩ b (d := k + 1) (by omega) h1 j]
        have hjm : j % (k + 1) < k + 1 := Nat.mod_lt j (by omega)
        rcases (by omega : j % (k + 1) = k ∨ j % (k + 1) < k) with h2 | h2
        · show yE ⟨p, q, g⟩ b (j % (k + 1)) ≠ x
          rw [h2]; exact hnk
        · exact HNX.out _ h2
      have HKQ : Hid (yE ⟨p, q, g⟩ b (k + 1) ≠ 1 → (k : Int) + 1 ≤ q - 1) := fun hn1 => by
        rcases (by omega : (k : Int) + 1 ≤ q - 1 ∨ (k : Int) + 1 = q) with h2 | h2
        · exact h2
        · exfalso; apply hn1
          have h3 := HYQ.out
          rw [show (GroupD.q ⟨p, q, g⟩).toNat = k + 1 by show q.toNat = k + 1; omega] at h3
          exact h3
      have HYX : Hid (yE ⟨p, q, g⟩ b k ≠ x → ∀ j, j < k + 1 → yE ⟨p, q, g⟩ b j ≠ x) := fun h j hj => by
        rcases (by omega : j = k ∨ j < k) with rfl | h2
        · exact h
        · exact HNX.out j h2
      have HY1 : Hid (yE ⟨p, q, g⟩ b (k + 1) ≠ 1 → ∀ j, 1 ≤ j → j ≤ k + 1 → yE ⟨p, q, g⟩ b j ≠ 1) := fun h j h1 hj => by
        rcases (by omega : j = k + 1 ∨ j ≤ k) with rfl | h2
        · exact h
        · exact HN1.out j h1 h2
      obtain ⟨y0, y1⟩ := HYB.out k
      obtain ⟨t0, t1⟩ := HYB.out (k + 1)
      replace y1 : yE ⟨p, q, g⟩ b k < p := y1
      replace t1 : yE ⟨p, q, g⟩ b (k + 1) < p := t1
      obtain ⟨y, hy⟩ : ∃ y, yE ⟨p, q, g⟩ b k = y := ⟨_, rfl⟩
      rw [hy] at HF2 HS HD HYX y0 y1 ⊢
      clear hy HF hF
      obtain ⟨t, ht⟩ : ∃ t, yE ⟨p, q, g⟩ b (k + 1) = t := ⟨_, rfl⟩
      rw [ht] at HS HD HKQ HY1 t0 t1
      have HT := Lib.hid ht
      clear ht
      by_cases hyx : y = x
      · have hRE : R = (k : Int) := by have := HF2.out; rw [if_pos hyx] at this; exact this.symm
        subst hyx
        subst hRE
        clear hLM HLM c0
        go_wp2_with fail
        go_ret2
        exact ⟨ret_int_bool (by first | rfl | rw [if_pos (by omega)]) (by first | rfl | simp), HB.out⟩
      · have HF3 : Hid (lgF ⟨p, q, g⟩ b x (k + 1) (L - (k + 1)) = R) := by have := HF2.out; rw [if_neg hyx] at this; exact this
        have HYX2 := Lib.hid (HYX.out hyx)
        have hyb : (y == x) = false := by rw [beq_eq_false_iff_ne]; exact hyx
        obtain ⟨u0, u1⟩ := mul_bd y0 (show y ≤ 2000000000 by omega) (show 0 ≤ b by omega) (show b ≤ 2000000000 by omega)
        have HSS : Hid (y * b % p = t) := HS.out.symm
        by_cases h1 : t = 1
        · have hRE : R = -1 := by rw [← HF3.out]; exact HD.out h1 hyx
          subst hRE
          subst h1
          clear hLM HLM
          have et : y * b % p = 1 := HSS.out
          go_wp2_with fail
          try rw [et]
          try (go_wp2_with fail)
          go_ret2
          exact ⟨ret_int_bool (by first | rfl | simp) (by first | rfl | simp), HB.out⟩
        · have HKQ2 := Lib.hid (HKQ.out h1)
          have HY2 := Lib.hid (HY1.out h1)
          have htb : (t == 1) = false := by rw [beq_eq_false_iff_ne]; exact h1
          have et : y * b % p = t := HSS.out
          have HLL : Hid (k + 1 ≤ L) := hkl
          clear hLM h1 hyx
          go_wp2_with fail
          go_roundg n
          case measure => omega
          case rel => exact ⟨k + 1, by omega, by go_num, by rw [HT.out]; first | rfl | rw [et], ⟨HLL.out, HKQ2.out, HF3.out⟩, HYX2.out, HY2.out, rfl⟩
end Go.Proofs.Ytboahnklilmdpaa
