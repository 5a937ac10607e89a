/- Draws of digests and leaves. -/
import Derived.Test.YtlapmdcjfopbaaaCur
import Derived.Test.YtlapmdcjfopbaaaHash
namespace Go.Proofs.Ytlapmdcjfopbaaa
open Go.RowKit
set_option linter.unusedSimpArgs false
set_option linter.unusedVariables false

theorem OwnI.within {w w' : World} {B g : Nat} {v : Value} {l : List Int} (h : OwnI w B v l) (hw : Within g (g + 1) w w') (hg : g < B) : OwnI w' B v l := (InI.kept (InI.of_own h) hw (.inr (by omega))).1
theorem Within.belowStep {lo hi : Nat} {w w1 w2 : World} (h : Within lo hi w w1) (hb : Below w.heap.size w1 w2) : Within lo hi w w2 :=
  ⟨hb.os.trans h.os, hb.tape.trans h.tape, hb.output.trans h.output, Nat.le_trans h.size hb.size, fun k hk hr => (hb.block k hk).trans (h.block k hk hr)⟩
theorem Cur.belowB {w0 w w' : World} {g B : Nat} {n : Int} (h : Cur w0 w g n) (hb : Below B w w') (hg : g < B) : Cur w0 w' g n := by
  obtain ⟨h1, v, p, s, hB, h2⟩ := h
  exact ⟨h1, v, p, s, (hb.block g hg).trans hB, h2⟩
theorem lit_I64 {l : List Int} (h : (l.all fun x => decide (-9223372036854775808 ≤ x ∧ x ≤ 9223372036854775807)) = true) : AllI64 l := fun x hx => by
  have := List.all_eq_true.1 h x hx; simpa [I64] using this
theorem digest_I64' {x : Int} (h : 0 ≤ x ∧ x ≤ 4611686018427387903) : I64 x := ⟨by omega, by omega⟩
theorem sl_dropU {a : Option Addr} {n c : Nat} {x : Int} {k : Nat} (hx : x = k) (hk : k ≤ n) :
    ∃ a', (∀ W, (Instr.slice 37 (.slice a n c) (some (.int .i64 x)) none none).run Try.prog W = .ok (.slice a' (n - k) (c - k)) W) ∧ ∀ u l, Ints u (.slice a n c) l → Ints u (.slice a' (n - k) (c - k)) (l.drop k) := by
  subst hx
  refine ⟨_, fun W => ?_, fun u l h => h.drop hk⟩
  simp [Try.underlying37, go_sem, hk, run_slice_l, run_underlying]
theorem own_zeros (w : World) (m : Nat) (h : m ≤ 1000000000) : OwnI (w.alloc (.cells (madeCells #[.int .i64 0] m) 3)) w.heap.size (.slice (some ⟨w.heap.size, 0, none⟩) m m) (List.replicate m 0) := by
  refine OwnI.lit w (Nat.le_refl _) ?_ ?_ ?_ m ?_
  · intro x hx; rw [List.eq_of_mem_replicate hx]; exact ⟨by decide, by decide⟩
  · rw [← Array.toList_inj, toList_madeCells_one]; simp
  · simp; unfold maxLen; omega
  · simp
set_option maxRecDepth 100000 in
set_option maxHeartbeats 2000000 in
theorem spec_digest (w0 : World) (g : Nat) (n : Int) (w : World) (h : Cur w0 w g n) (hb : Below w0.heap.size w0 w) (hn : n ≤ 2000000000000000) :
    Calls Try.prog 157 #[.pointer (some ⟨g, 0, none⟩)] w fun e w' => (∃ x : Int, e = .returned (.int .i64 x) ∧ I64 x) ∧ Cur w0 w' g (n + 4) ∧ Within g (g + 1) w w' := by
  have HC := Lib.hid h
  have hg := h.lt; have hg0 := h.ge
  clear h
  go_enter Try.func157, Try.ntmps157
  go_wp2_with fail
  refine (spec_pick w0 g _ 16 _ HC.out hb (by omega)).mono ?_
  rintro e w1 ⟨⟨x, rfl, hx0, hx1, hx2, _⟩, hc, hw⟩
  have HC1 := Lib.hid hc; have HW := Lib.hid hw
  have hb1 := hw.belowOf hb hg0
  have hs1 := hw.size
  clear hc hw
  by_cases h0 : x = 0
  · subst h0
    go_wp2_with fail
    refine (spec_among w0 g _ _ [-1, 4611686018427387903, 4611686018427387904, 2147483648, 2147483647, 2147483647] _ (HC1.out.keep ((Below.refl _ _).alloc (Nat.le_refl _) _)) (hb1.alloc hb1.size _) (by omega) (Apart.of_ownI (OwnI.lit w1 (Nat.le_refl _) (lit_I64 rfl) (by rfl) (by decide) 6 rfl) (by omega)) (by decide)).mono ?_
    rintro e w2 ⟨⟨x, rfl, hx⟩, hc, hw⟩
    go_wp2_with fail
    go_ret
    exact ⟨⟨x, rfl, lit_I64 (l := [-1, 4611686018427387903, 4611686018427387904, 2147483648, 2147483647, 2147483647]) rfl x hx⟩, hc.mono (by omega), (HW.out.allocR _).trans hw⟩
  · by_cases h1 : x ≤ 3
    · rcases (by omega : x = 1 ∨ x = 2 ∨ x = 3) with rfl | rfl | rfl
      all_goals
        go_wp2_with fail
        refine (spec_pick w0 g _ 60000 _ HC1.out hb1 (by omega)).mono ?_
        rintro e w2 ⟨⟨x, rfl, hy0, hy1, hy2, _⟩, hc, hw⟩
        have hs2 := hw.size
        have HC2 := Lib.hid hc; have HW2 := Lib.hid (HW.out.trans hw); clear hc hw
        go_wp2_with fail
        refine (spec_hInts _ [x] _ (Ints.lit1 _ ⟨by omega, by omega⟩) (by simp) (by simp [digestB]; omega)).mono ?_
        rintro e w3 ⟨rfl, hb3⟩
        go_wp2_with fail
        go_ret
        exact ⟨⟨_, rfl, digest_I64' (hashOf_bd _)⟩, (HC2.out.keep ((Below.refl _ _).alloc (Nat.le_refl _) _)).keep hb3 |>.mono (by omega), (HW2.out.allocR _).trans (Within.of_below hb3)⟩
    · have e1 : (x == 0) = false := by rw [beq_eq_false_iff_ne]; omega
      have e2 : (x == 1) = false := by rw [beq_eq_false_iff_ne]; omega
      have e3 : (x == 2) = false := by rw [beq_eq_false_iff_ne]; omega
      have e4 : (x == 3) = false := by rw [beq_eq_false_iff_ne]; omega
      go_wp2_with fail
      refine (spec_pick w0 g _ 200 _ HC1.out hb1 (by omega)).mono ?_
      rintro e w2 ⟨⟨x, rfl, hy0, hy1, hy2, _⟩, hc, hw⟩
      have HC2 := Lib.hid hc; have HW2 := Lib.hid (HW.out.trans hw); clear hc hw
      go_wp2_with fail
      go_ret
      exact ⟨⟨_, rfl, by omega, by omega⟩, HC2.out.mono (by omega), HW2.out⟩
set_option maxRecDepth 100000 in
set_option maxHeartbeats 4000000 in
theorem spec_leaves (w0 : World) (g : Nat) (n : Int) (w : World) (h : Cur w0 w g n) (hb : Below w0.heap.size w0 w) (hn : n ≤ 1000000000000000) :
    Calls Try.prog 146 #[.pointer (some ⟨g, 0, none⟩)] w fun e w' => (∃ v, e = .returned v ∧ ∃ l, Apart g w' (fun u => Ints u v l) ∧ l.length ≤ 100) ∧ Cur w0 w' g (n + 500) ∧ Within g (g + 1) w w' := by
  have HC := Lib.hid h
  have hg := h.lt; have hg0 := h.ge
  clear h
  go_enter Try.func146, Try.ntmps146
  go_wp2_with fail
  refine (spec_pick w0 g _ 14 _ HC.out hb (by omega)).mono ?_
  rintro e w1 ⟨⟨x, rfl, hx0, hx1, hx2, _⟩, hc, hw⟩
  replace HC := Lib.hid hc; have HW := Lib.hid hw
  clear hc hw
  go_wp2_with fail
  refine (spec_one w0 g _ 16 _ HC.out (HW.out.belowOf hb hg0) (by omega)).mono ?_
  rintro e w2 ⟨⟨q, rfl⟩, hc, hw⟩
  replace HC := Lib.hid hc; replace HW := Lib.hid (HW.out.trans hw)
  clear hc hw
  have hx3 : x ≤ 13 := by omega
  clear hx1 hx2
  cases q
  rotate_left
  · go_wp2_with fail
    refine (spec_pick w0 g _ 3 _ HC.out (HW.out.belowOf hb hg0) (by omega)).mono ?_
    rintro e w2 ⟨⟨y, rfl, hy0, hy1, hy2, _⟩, hc, hw⟩
    replace HC := Lib.hid (hc.mono (n' := n + 6) (by omega)); replace HW := Lib.hid (HW.out.trans hw)
    clear hc hw
    have hy3 : y ≤ 2 := by omega
    clear hy1 hy2
    go_wp2_with fail
    go_loopg [3, 4] 70 (fun gk v y wr => ∃ (k : Int) (l : List Int), y = .int .i64 k ∧ 0 ≤ k ∧ k ≤ (gk : Int) ∧ (gk : Int) ≤ 70 ∧ l.length + gk ≤ 70 ∧ OwnI wr w.heap.size v l ∧ Cur w0 wr g (n + 6 + 2 * (70 - (gk : Int))) ∧ Within g (g + 1) w wr)
    case atStart => exact ⟨_, [], rfl, by omega, by omega, by omega, by simp, OwnI.nil _ _, HC.out.mono (by omega), HW.out⟩
    case round =>
      obtain ⟨k, l, rfl, hk0, hk1, hk2, hk3, hO, hC, hW⟩ := hrel
      clear HC HW
      have HC := Lib.hid hC; have HW := Lib.hid hW; have HO := Lib.hid hO
      obtain ⟨a, c, rfl⟩ := hO.shape
      obtain ⟨c1, c2⟩ := hO.ints.capMax
      unfold maxLen at c2
      have hsz := hW.size
      clear hC hW hO
      by_cases hpos : 0 < k
      · obtain ⟨f, rfl⟩ : ∃ f, gk = f + 1 := ⟨gk - 1, by omega⟩
        go_wp2_with fail
        refine (spec_pick w0 g _ 50 _ HC.out (HW.out.belowOf hb hg0) (by omega)).mono ?_
        rintro e w3 ⟨⟨z, rfl, hz0, hz1, hz2, _⟩, hc, hw⟩
        have hsz2 := hw.size
        replace HO := Lib.hid (HO.out.within hw hg)
        replace HC := Lib.hid (hc.mono (n' := n + 6 + 2 * (70 - (f : Int))) (by omega)); replace HW := Lib.hid (HW.out.trans hw)
        clear hc hw
        go_wp2_with (at_builtin; refine wpList_append_ints rfl _ _ rfl w.heap.size _ _ l [z] rfl (HO.out.alloc _) rfl (Ints.lit1 _ ⟨by omega, by omega⟩) (by simp; omega) (by simp; omega) ?_; intro v4 w4 hown4 hgr4)
        have hb4 := (HO.out.alloc _).grown hgr4 (by simp; omega)
        have hb5 := ((Below.refl w.heap.size w3).alloc (by omega) _).trans hb4
        go_roundg f
        case measure => omega
        case rel => exact ⟨k - 1, l ++ [z], rfl, by omega, by omega, by omega, by simp; omega, hown4, HC.out.belowB hb5 hg, HW.out.belowStep hb5⟩
      · obtain ⟨m, hm⟩ : ∃ m, l.length = m := ⟨_, rfl⟩
        rw [hm] at HO hk3 c1 ⊢
        have HM := Lib.hid hm; clear hm
        by_cases hm0 : m = 0
        · subst hm0
          go_wp2_with fail
          go_ret
          exact ⟨⟨_, rfl, l, Apart.of_ownI HO.out hg, (by have := HM.out; first | omega | (simp; done) | (simp; omega))⟩, HC.out.mono (by omega), HW.out⟩
        · have hm1 : 0 < m := by omega
          go_wp2_with fail
          refine (spec_one w0 g _ 16 _ HC.out (HW.out.belowOf hb hg0) (by omega)).mono ?_
          rintro e w3 ⟨⟨q, rfl⟩, hc, hw⟩
          have hsz2 := hw.size
          replace HO := Lib.hid (HO.out.within hw hg)
          replace HC := Lib.hid hc; replace HW := Lib.hid (HW.out.trans hw)
          clear hc hw
          cases q
          · go_wp2_with fail
            go_ret
            exact ⟨⟨_, rfl, l, Apart.of_ownI HO.out hg, (by have := HM.out; first | omega | (simp; done) | (simp; omega))⟩, HC.out.mono (by omega), HW.out⟩
          · go_wp2_with fail
            refine (spec_pick w0 g _ m _ HC.out (HW.out.belowOf hb hg0) (by omega)).mono ?_
            rintro e w4 ⟨⟨z, rfl, hz0, _, hz2, _⟩, hc, hw⟩
            replace HO := Lib.hid (HO.out.within hw hg)
            replace HC := Lib.hid hc; replace HW := Lib.hid (HW.out.trans hw)
            clear hc hw
            obtain ⟨j, rfl⟩ := Int.eq_ofNat_of_zero_le hz0
            have hjm : (j : Int) < (m : Int) := hz2 (by omega)
            clear hz2
            go_wp2_with fail
            refine (spec_digest w0 g _ _ HC.out (HW.out.belowOf hb hg0) (by omega)).mono ?_
            rintro e w5 ⟨⟨d, rfl, hd⟩, hc, hw⟩
            replace HO := Lib.hid (HO.out.within hw hg)
            replace HC := Lib.hid hc; replace HW := Lib.hid (HW.out.trans hw)
            clear hc hw
            obtain ⟨b, rfl, hbw, _, hcx⟩ := HO.out.at_ (by have := HM.out; omega)
            obtain ⟨y1, y2⟩ := hcx j (by omega)
            have HS := Lib.hid (HO.out.stored HM.out j hd)
            clear hcx hd
            go_wp2_with fail
            go_ret
            exact ⟨⟨_, rfl, _, Apart.of_ownI HS.out.1 hg, (by have := HM.out; first | omega | (simp; done) | (simp; omega))⟩, (HC.out.belowB ((Below.refl w.heap.size _).setCell hbw _) hg).mono (by omega), HW.out.belowStep ((Below.refl w.heap.size _).setCell hbw _)⟩
  · replace HC := Lib.hid (HC.out.mono (n' := n + 6) (by omega))
    go_wp2_with fail
    go_loopg [3, 4] 70 (fun gk v y wr => ∃ (k : Int) (l : List Int), y = .int .i64 k ∧ 0 ≤ k ∧ k ≤ (gk : Int) ∧ (gk : Int) ≤ 70 ∧ l.length + gk ≤ 70 ∧ OwnI wr w.heap.size v l ∧ Cur w0 wr g (n + 6 + 2 * (70 - (gk : Int))) ∧ Within g (g + 1) w wr)
    case atStart => exact ⟨_, [], rfl, by omega, by omega, by omega, by simp, OwnI.nil _ _, HC.out.mono (by omega), HW.out⟩
    case round =>
      obtain ⟨k, l, rfl, hk0, hk1, hk2, hk3, hO, hC, hW⟩ := hrel
      clear HC HW
      have HC := Lib.hid hC; have HW := Lib.hid hW; have HO := Lib.hid hO
      obtain ⟨a, c, rfl⟩ := hO.shape
      obtain ⟨c1, c2⟩ := hO.ints.capMax
      unfold maxLen at c2
      have hsz := hW.size
      clear hC hW hO
      by_cases hpos : 0 < k
      · obtain ⟨f, rfl⟩ : ∃ f, gk = f + 1 := ⟨gk - 1, by omega⟩
        go_wp2_with fail
        refine (spec_pick w0 g _ 50 _ HC.out (HW.out.belowOf hb hg0) (by omega)).mono ?_
        rintro e w3 ⟨⟨z, rfl, hz0, hz1, hz2, _⟩, hc, hw⟩
        have hsz2 := hw.size
        replace HO := Lib.hid (HO.out.within hw hg)
        replace HC := Lib.hid (hc.mono (n' := n + 6 + 2 * (70 - (f : Int))) (by omega)); replace HW := Lib.hid (HW.out.trans hw)
        clear hc hw
        go_wp2_with (at_builtin; refine wpList_append_ints rfl _ _ rfl w.heap.size _ _ l [z] rfl (HO.out.alloc _) rfl (Ints.lit1 _ ⟨by omega, by omega⟩) (by simp; omega) (by simp; omega) ?_; intro v4 w4 hown4 hgr4)
        have hb4 := (HO.out.alloc _).grown hgr4 (by simp; omega)
        have hb5 := ((Below.refl w.heap.size w3).alloc (by omega) _).trans hb4
        go_roundg f
        case measure => omega
        case rel => exact ⟨k - 1, l ++ [z], rfl, by omega, by omega, by omega, by simp; omega, hown4, HC.out.belowB hb5 hg, HW.out.belowStep hb5⟩
      · obtain ⟨m, hm⟩ : ∃ m, l.length = m := ⟨_, rfl⟩
        rw [hm] at HO hk3 c1 ⊢
        have HM := Lib.hid hm; clear hm
        by_cases hm0 : m = 0
        · subst hm0
          go_wp2_with fail
          go_ret
          exact ⟨⟨_, rfl, l, Apart.of_ownI HO.out hg, (by have := HM.out; first | omega | (simp; done) | (simp; omega))⟩, HC.out.mono (by omega), HW.out⟩
        · have hm1 : 0 < m := by omega
          go_wp2_with fail
          refine (spec_one w0 g _ 16 _ HC.out (HW.out.belowOf hb hg0) (by omega)).mono ?_
          rintro e w3 ⟨⟨q, rfl⟩, hc, hw⟩
          have hsz2 := hw.size
          replace HO := Lib.hid (HO.out.within hw hg)
          replace HC := Lib.hid hc; replace HW := Lib.hid (HW.out.trans hw)
          clear hc hw
          cases q
          · go_wp2_with fail
            go_ret
            exact ⟨⟨_, rfl, l, Apart.of_ownI HO.out hg, (by have := HM.out; first | omega | (simp; done) | (simp; omega))⟩, HC.out.mono (by omega), HW.out⟩
          · go_wp2_with fail
            refine (spec_pick w0 g _ m _ HC.out (HW.out.belowOf hb hg0) (by omega)).mono ?_
            rintro e w4 ⟨⟨z, rfl, hz0, _, hz2, _⟩, hc, hw⟩
            replace HO := Lib.hid (HO.out.within hw hg)
            replace HC := Lib.hid hc; replace HW := Lib.hid (HW.out.trans hw)
            clear hc hw
            obtain ⟨j, rfl⟩ := Int.eq_ofNat_of_zero_le hz0
            have hjm : (j : Int) < (m : Int) := hz2 (by omega)
            clear hz2
            go_wp2_with fail
            refine (spec_digest w0 g _ _ HC.out (HW.out.belowOf hb hg0) (by omega)).mono ?_
            rintro e w5 ⟨⟨d, rfl, hd⟩, hc, hw⟩
            replace HO := Lib.hid (HO.out.within hw hg)
            replace HC := Lib.hid hc; replace HW := Lib.hid (HW.out.trans hw)
            clear hc hw
            obtain ⟨b, rfl, hbw, _, hcx⟩ := HO.out.at_ (by have := HM.out; omega)
            obtain ⟨y1, y2⟩ := hcx j (by omega)
            have HS := Lib.hid (HO.out.stored HM.out j hd)
            clear hcx hd
            go_wp2_with fail
            go_ret
            exact ⟨⟨_, rfl, _, Apart.of_ownI HS.out.1 hg, (by have := HM.out; first | omega | (simp; done) | (simp; omega))⟩, (HC.out.belowB ((Below.refl w.heap.size _).setCell hbw _) hg).mono (by omega), HW.out.belowStep ((Below.refl w.heap.size _).setCell hbw _)⟩
set_option maxRecDepth 100000 in
set_option maxHeartbeats 4000000 in
theorem spec_digests (w0 : World) (g : Nat) (n : Int) (w : World) (h : Cur w0 w g n) (hb : Below w0.heap.size w0 w) (hn : n ≤ 1000000000000000) :
    Calls Try.prog 173 #[.pointer (some ⟨g, 0, none⟩)] w fun e w' => (∃ v, e = .returned v ∧ ∃ l, Apart g w' (fun u => Ints u v l) ∧ l.length ≤ 500) ∧ Cur w0 w' g (n + 100) ∧ Within g (g + 1) w w' := by
  have HC := Lib.hid h
  have hg := h.lt; have hg0 := h.ge
  clear h
  go_enter Try.func173, Try.ntmps173
  go_wp2_with fail
  refine (spec_pick w0 g _ 8 _ HC.out hb (by omega)).mono ?_
  rintro e w1 ⟨⟨x, rfl, hx0, hx1, hx2, _⟩, hc, hw⟩
  replace HC := Lib.hid hc; have HW := Lib.hid hw
  clear hc hw
  have hx3 : x ≤ 7 := by omega
  clear hx1 hx2
  go_wp2_with fail
  go_loopg [3, 4] 10 (fun gk v y wr => ∃ (k : Int) (l : List Int), y = .int .i64 k ∧ 0 ≤ k ∧ k ≤ (gk : Int) ∧ (gk : Int) ≤ 10 ∧ l.length + gk ≤ 10 ∧ OwnI wr w.heap.size v l ∧ Cur w0 wr g (n + 2 + 4 * (10 - (gk : Int))) ∧ Within g (g + 1) w wr)
  case atStart => exact ⟨_, [], rfl, by omega, by omega, by omega, by simp, OwnI.nil _ _, HC.out.mono (by omega), HW.out⟩
  case round =>
    obtain ⟨k, l, rfl, hk0, hk1, hk2, hk3, hO, hC, hW⟩ := hrel
    clear HC HW
    have HC := Lib.hid hC; have HW := Lib.hid hW; have HO := Lib.hid hO
    obtain ⟨a, c, rfl⟩ := hO.shape
    obtain ⟨c1, c2⟩ := hO.ints.capMax
    unfold maxLen at c2
    have hsz := hW.size
    clear hC hW hO
    by_cases hpos : 0 < k
    · obtain ⟨f, rfl⟩ : ∃ f, gk = f + 1 := ⟨gk - 1, by omega⟩
      go_wp2_with fail
      refine (spec_digest w0 g _ _ HC.out (HW.out.belowOf hb hg0) (by omega)).mono ?_
      rintro e w3 ⟨⟨z, rfl, hz⟩, hc, hw⟩
      have hsz2 := hw.size
      have HZ := Lib.hid hz
      replace HO := Lib.hid (HO.out.within hw hg)
      replace HC := Lib.hid (hc.mono (n' := n + 2 + 4 * (10 - (f : Int))) (by omega)); replace HW := Lib.hid (HW.out.trans hw)
      clear hc hw hz
      go_wp2_with (at_builtin; refine wpList_append_ints rfl _ _ rfl w.heap.size _ _ l [z] rfl (HO.out.alloc _) rfl (Ints.lit1 _ HZ.out) (by simp; omega) (by simp; omega) ?_; intro v4 w4 hown4 hgr4)
      have hb4 := (HO.out.alloc _).grown hgr4 (by simp; omega)
      have hb5 := ((Below.refl w.heap.size w3).alloc (by omega) _).trans hb4
      go_roundg f
      case measure => omega
      case rel => exact ⟨k - 1, l ++ [z], rfl, by omega, by omega, by omega, by simp; omega, hown4, HC.out.belowB hb5 hg, HW.out.belowStep hb5⟩
    · go_wp2_with fail
      refine (spec_one w0 g _ 24 _ HC.out (HW.out.belowOf hb hg0) (by omega)).mono ?_
      rintro e w3 ⟨⟨q, rfl⟩, hc, hw⟩
      have hsz2 := hw.size
      replace HO := Lib.hid (HO.out.within hw hg)
      replace HC := Lib.hid hc; replace HW := Lib.hid (HW.out.trans hw)
      clear hc hw
      cases q
      · go_wp2_with fail
        go_ret
        exact ⟨⟨_, rfl, l, Apart.of_ownI HO.out hg, by omega⟩, HC.out.mono (by omega), HW.out⟩
      · go_wp2_with fail
        refine (spec_pick w0 g _ 6 _ HC.out (HW.out.belowOf hb hg0) (by omega)).mono ?_
        rintro e w4 ⟨⟨z, rfl, hz0, _, hz2, _⟩, hc, hw⟩
        replace HC := Lib.hid hc; replace HW := Lib.hid (HW.out.trans hw)
        clear hc hw
        obtain ⟨m, hm⟩ : ∃ m : Nat, 396 + z = (m : Int) := ⟨(396 + z).toNat, by omega⟩
        have ew : IntKind.i64.wrap (396 + z) = (m : Int) := by rw [hm]; exact IntWalk.i64_in _ (by omega)
        have hmk := fun u => run_make_row' (P := Try.prog) 37 3 (.int .i64 0) 8 Try.underlying37 info_int rfl .i64 .i64 m (by omega) (by omega) u
        have hgs := HW.out.size
        have HN := Lib.hid (own_zeros w4 m (by omega))
        go_wp2
        go_ret
        exact ⟨⟨_, rfl, _, Apart.of_ownI HN.out (by omega), by simp; omega⟩, (HC.out.mono (by omega)).keep ((Below.refl _ _).alloc (Nat.le_refl _) _), HW.out.allocR _⟩
set_option maxRecDepth 100000 in
set_option maxHeartbeats 4000000 in
theorem spec_spoiltPath (w0 : World) (g : Nat) (n : Int) (v : Value) (l : List Int) (w : World) (h : Cur w0 w g n) (hb : Below w0.heap.size w0 w) (hn : n ≤ 1000000000000000) (hl : Apart g w (fun u => Ints u v l)) (hlen : l.length ≤ 1000000) :
    Calls Try.prog 160 #[.pointer (some ⟨g, 0, none⟩), v] w fun e w' => (∃ v', e = .returned v' ∧ ∃ l', Apart g w' (fun u => Ints u v' l') ∧ l'.length ≤ l.length + 1) ∧ Cur w0 w' g (n + 20) ∧ Within g (g + 1) w w' := by
  have HC := Lib.hid h
  have hg := h.lt; have hg0 := h.ge
  clear h
  have HL := Lib.hid hl; clear hl
  go_enter Try.func160, Try.ntmps160
  go_wp2_with fail
  refine (spec_l1Own v l _ HL.out.here (by omega)).mono ?_
  rintro e w1 ⟨v1, rfl, hO, hb1⟩
  replace HC := Lib.hid (HC.out.keep hb1); have HW := Lib.hid (Within.of_below (lo := g) (hi := g + 1) hb1)
  have HO := Lib.hid hO
  obtain ⟨a, c, rfl⟩ := hO.shape
  obtain ⟨c1, c2⟩ := hO.ints.capMax
  unfold maxLen at c2
  have hsz := hb1.size
  clear hO hb1
  go_wp2_with fail
  refine (spec_pick w0 g _ 8 _ HC.out (HW.out.belowOf hb hg0) (by omega)).mono ?_
  rintro e w2 ⟨⟨x, rfl, hx0, hx1, hx2, _⟩, hc, hw⟩
  have hsz2 := hw.size
  replace HO := Lib.hid (HO.out.within hw hg)
  replace HC := Lib.hid hc; replace HW := Lib.hid (HW.out.trans hw)
  clear hc hw
  obtain ⟨m, hm⟩ : ∃ m, l.length = m := ⟨_, rfl⟩
  rw [hm] at HO c1 hlen ⊢
  have HM := Lib.hid hm; clear hm
  rcases (by omega : x = 0 ∨ x = 1 ∨ x = 2 ∨ (x ≠ 0 ∧ x ≠ 1 ∧ x ≠ 2)) with rfl | rfl | rfl | ⟨e0, e1, e2⟩
  · by_cases hm0 : m = 0
    · subst hm0
      go_wp2_with fail
      go_ret
      exact ⟨⟨_, rfl, l, Apart.of_ownI HO.out hg, (by have := HM.out; first | omega | (simp; done) | (simp; omega))⟩, HC.out.mono (by omega), HW.out⟩
    · have hm1 : 0 < m := by omega
      go_wp2_with fail
      refine (spec_pick w0 g _ m _ HC.out (HW.out.belowOf hb hg0) (by omega)).mono ?_
      rintro e w4 ⟨⟨z, rfl, hz0, _, hz2, _⟩, hc, hw⟩
      replace HO := Lib.hid (HO.out.within hw hg)
      replace HC := Lib.hid hc; replace HW := Lib.hid (HW.out.trans hw)
      clear hc hw
      obtain ⟨j, rfl⟩ := Int.eq_ofNat_of_zero_le hz0
      have hjm : (j : Int) < (m : Int) := hz2 (by omega)
      clear hz2
      go_wp2_with fail
      refine (spec_digest w0 g _ _ HC.out (HW.out.belowOf hb hg0) (by omega)).mono ?_
      rintro e w5 ⟨⟨d, rfl, hd⟩, hc, hw⟩
      replace HO := Lib.hid (HO.out.within hw hg)
      replace HC := Lib.hid hc; replace HW := Lib.hid (HW.out.trans hw)
      clear hc hw
      obtain ⟨b, rfl, hbw, _, hcx⟩ := HO.out.at_ (by have := HM.out; omega)
      obtain ⟨y1, y2⟩ := hcx j (by omega)
      have HS := Lib.hid (HO.out.stored HM.out j hd)
      clear hcx hd
      go_wp2_with fail
      go_ret
      exact ⟨⟨_, rfl, _, Apart.of_ownI HS.out.1 hg, (by have := HM.out; first | omega | (simp; done) | (simp; omega))⟩, (HC.out.belowB ((Below.refl w.heap.size _).setCell hbw _) hg).mono (by omega), HW.out.belowStep ((Below.refl w.heap.size _).setCell hbw _)⟩
  · go_wp2_with (at_builtin; refine wpList_append_ints rfl _ _ rfl w.heap.size _ _ l [7] rfl (HO.out.alloc _) rfl (Ints.lit1 _ ⟨by omega, by omega⟩) (by have := HM.out; simp; omega) (by simp; omega) ?_; intro v4 w4 hown4 hgr4)
    have hb4 := (HO.out.alloc _).grown hgr4 (by simp; omega)
    have hb5 := ((Below.refl w.heap.size w2).alloc (by omega) _).trans hb4
    go_ret
    exact ⟨⟨_, rfl, _, Apart.of_ownI hown4 hg, (by have := HM.out; first | omega | (simp; done) | (simp; omega))⟩, (HC.out.belowB hb5 hg).mono (by omega), HW.out.belowStep hb5⟩
  · by_cases hm0 : m = 0
    · subst hm0
      go_wp2_with fail
      go_ret
      exact ⟨⟨_, rfl, l, Apart.of_ownI HO.out hg, (by have := HM.out; first | omega | (simp; done) | (simp; omega))⟩, HC.out.mono (by omega), HW.out⟩
    · have hm1 : 0 < m := by omega
      have hi := HO.out.ints
      obtain ⟨a1, hs1, HI1⟩ := sl_dropU (a := a) (n := m) (c := c) (x := 1) (k := 1) rfl (by omega)
      have HQ := Lib.hid HI1
      clear hi HI1
      have HA : Hid (Apart g w2 (fun u => Ints u (.slice a1 (m - 1) (c - 1)) (l.drop 1))) := fun u hu => by
        exact HQ.out u l (HO.out.within hu hg).ints
      go_wp2_with fail
      go_ret
      exact ⟨⟨_, rfl, _, HA.out, (by have := HM.out; first | omega | (simp; done) | (simp; omega))⟩, HC.out.mono (by omega), HW.out⟩
  · have z0 : (x == 0) = false := by rw [beq_eq_false_iff_ne]; exact e0
    have z1 : (x == 1) = false := by rw [beq_eq_false_iff_ne]; exact e1
    have z2 : (x == 2) = false := by rw [beq_eq_false_iff_ne]; exact e2
    clear e0 e1 e2
    go_wp2_with fail
    go_ret
    exact ⟨⟨_, rfl, l, Apart.of_ownI HO.out hg, (by have := HM.out; first | omega | (simp; done) | (simp; omega))⟩, HC.out.mono (by omega), HW.out⟩
end Go.Proofs.Ytlapmdcjfopbaaa
