/- Draws of lists of elements; draws of products of powers, of logarithms. -/
import Derived.Test.YtboahnklilmdpaaDrG5
namespace Go.Proofs.Ytboahnklilmdpaa
open Go.RowKit
set_option linter.unusedSimpArgs false
set_option linter.unusedVariables false

set_option maxRecDepth 100000 in
set_option maxHeartbeats 4000000 in
theorem spec_elements (w0 : World) (g : Nat) (n P Q G : Int) (m : Nat) (w : World) (h : Cur w0 w g n) (hb : Below w0.heap.size w0 w) (hn : n ≤ 900000000000000) (hgr : GrB ⟨P, Q, G⟩) (hm : m ≤ 50) :
    Calls Try.prog 181 #[.pointer (some ⟨g, 0, none⟩), .agg #[.int .i64 P, .int .i64 Q, .int .i64 G], .int .i64 m] w fun e w' => (∃ v', e = .returned v' ∧ ∃ l, Since w.heap.size w' (fun u => Ints u v' l) ∧ l.length ≤ 60) ∧ Cur w0 w' g (n + 500) ∧ Within g (g + 1) w w' := by
  have HGR := Lib.hid hgr
  clear hgr
  have HC := Lib.hid h
  have hg := h.lt
  have hg0 := h.ge
  have HB0 := Lib.hid hb
  clear h hb
  obtain ⟨W, hW⟩ : ∃ W, W = w.alloc (.cells #[.int .i64 P, .int .i64 Q, .int .i64 G] 39) := ⟨_, rfl⟩
  have hbW : Below w.heap.size w W := by rw [hW]; exact (Below.refl _ _).alloc (Nat.le_refl _) _
  have HX : Hid (BoxN W w.heap.size 39 [.int .i64 P, .int .i64 Q, .int .i64 G]) := by unfold Hid; rw [hW]; exact BoxN.new w _ _
  have HSW : Hid (W.heap.size = w.heap.size + 1) := by unfold Hid; rw [hW]; simp
  have hsW : w.heap.size < W.heap.size := by have := HSW.out; omega
  replace HC := Lib.hid (HC.out.keep hbW)
  have HBW := Lib.hid hbW
  have HWW : Hid (Within g (g + 1) w W) := Within.of_below hbW
  have HB1 := Lib.hid (Below.next HB0.out hbW)
  clear hbW
  have ewm : IntKind.i64.wrap ((m : Int) + 1) = (m : Int) + 1 := IntWalk.i64_in _ (by omega)
  go_enter Try.func181, Try.ntmps181
  go_wp2_with fail
  rw [← hW]
  clear hW
  try (go_wp2_with fail)
  refine (spec_pick w0 g _ ((m : Int) + 1) _ HC.out HB1.out (by omega)).mono ?_
  rintro e w1 ⟨⟨x, rfl, hx0, _, hx2, _⟩, hc, hw⟩
  replace hx2 := hx2 (by omega)
  have HC1 := Lib.hid hc
  have HW1 := Lib.hid hw
  clear hc hw
  go_wp2_with fail
  go_loopg [7, 8] m (fun gk ov kv wr => ∃ (l : List Int) (k : Int), kv = .int .i64 k ∧ 0 ≤ k ∧ k ≤ (gk : Int) ∧ gk ≤ m ∧ l.length + gk ≤ m ∧ OwnI wr W.heap.size ov l ∧ Cur w0 wr g (n + 2 + 4 * ((m : Int) - gk)) ∧ Within g (g + 1) W wr)
  case atStart => exact ⟨[], x, rfl, hx0, by omega, by omega, by simp, OwnI.nil _ _, HC1.out.mono (by omega), HW1.out⟩
  case round =>
    obtain ⟨l, k, rfl, hk0, hk1, hk2, hk3, hO, hC, hWr⟩ := hrel
    have hsr := hWr.size
    have HXr := Lib.hid (HX.out.kept hWr (.inr (by omega)))
    have c0 := HXr.out.cell (i := 0) rfl
    have c1 := HXr.out.cell (i := 1) rfl
    have c2 := HXr.out.cell (i := 2) rfl
    clear HC
    have HC := Lib.hid hC
    have HWr := Lib.hid hWr
    obtain ⟨ao, co, rfl⟩ := hO.shape
    have HO := Lib.hid hO
    clear hC hWr hO
    obtain ⟨c, hc⟩ : ∃ c, l.length = c := ⟨_, rfl⟩
    rw [hc] at HO hk3 ⊢
    have HK := Lib.hid hc; clear hc
    by_cases hpos : 0 < k
    · obtain ⟨f, rfl⟩ : ∃ f, gk = f + 1 := ⟨gk - 1, by omega⟩
      have ew : IntKind.i64.wrap (k - 1) = k - 1 := IntWalk.i64_in _ (by omega)
      go_wp2_with fail
      refine (spec_element w0 g _ P Q G _ HC.out (HWr.out.belowOf HB1.out (by omega)) (by omega) HGR.out).mono ?_
      rintro e w3 ⟨⟨z, rfl, hz0, hz1⟩, hc, hw⟩
      have hs3 := hw.size
      have HO3 := Lib.hid (HO.out.within hw (by omega))
      have HC3 := Lib.hid (hc.mono (n' := n + 2 + 4 * ((m : Int) - f)) (by omega))
      have HW3 := Lib.hid (HWr.out.trans hw)
      clear hc hw c0 c1 c2 HO HC
      go_wp2_with (at_builtin; refine wpList_append_ints rfl _ _ rfl W.heap.size _ _ l [z] rfl (HO3.out.alloc _) rfl (Ints.lit1 _ ⟨by omega, by omega⟩) (by rw [HK.out]; simp; omega) (by simp; omega) ?_; intro v4 w4 hown4 hgr4)
      have hb4 := (HO3.out.alloc _).grown hgr4 (by simp; omega)
      have hb5 := ((Below.refl W.heap.size w3).alloc (by omega) _).trans hb4
      go_roundg f
      case measure => omega
      case rel => exact ⟨l ++ [z], k - 1, by go_num, by omega, by omega, by omega, by rw [List.length_append, HK.out, List.length_singleton]; omega, hown4, HC3.out.belowB hb5 (by omega), HW3.out.belowStep hb5⟩
    · go_wp2_with fail
      refine (spec_one w0 g _ 20 _ HC.out (HWr.out.belowOf HB1.out (by omega)) (by omega)).mono ?_
      rintro e w5 ⟨⟨q, rfl⟩, hc, hw⟩
      have hs5 := hw.size
      replace HO := Lib.hid (HO.out.within hw (by omega))
      replace HC := Lib.hid (hc.mono (n' := n + 220) (by omega))
      replace HWr := Lib.hid (HWr.out.trans hw)
      replace HXr := Lib.hid (HXr.out.kept hw (.inr (by omega)))
      clear hc hw c0 c1 c2
      cases q
      · have hkl : c ≤ 60 := by omega
        go_wp2_with fail
        refine (spec_one w0 g _ 40 _ HC.out (HWr.out.belowOf HB1.out (by omega)) (by omega)).mono ?_
        rintro e w7 ⟨⟨q, rfl⟩, hc, hw⟩
        have hs7 := hw.size
        replace HO := Lib.hid (HO.out.within hw (by omega))
        replace HC := Lib.hid (hc.mono (n' := n + 300) (by omega))
        replace HWr := Lib.hid (HWr.out.trans hw)
        clear hc hw
        cases q
        · go_wp2_with fail
          go_ret
          exact ⟨⟨_, rfl, _, Since.of_ownI HO.out (by omega), by rw [HK.out]; omega⟩, HC.out.mono (by omega), HWW.out.trans HWr.out⟩
        · go_wp2_with fail
          refine (spec_pick w0 g _ 2 _ HC.out (HWr.out.belowOf HB1.out (by omega)) (by omega)).mono ?_
          rintro e w8 ⟨⟨y, rfl, hy0, _, hy2, _⟩, hc, hw⟩
          replace hy2 := hy2 (by omega)
          have hs8 := hw.size
          replace HC := Lib.hid (hc.mono (n' := n + 400) (by omega))
          replace HWr := Lib.hid (HWr.out.trans hw)
          clear hc hw HO
          have ewy : IntKind.i64.wrap (24 + y) = 24 + y := IntWalk.i64_in _ (by omega)
          go_wp2_with fail
          go_loopg [7, 9] 26 (fun gk ov kv wr => ∃ (l : List Int) (k : Int), kv = .int .i64 k ∧ 0 ≤ k ∧ k ≤ (gk : Int) ∧ gk ≤ 26 ∧ l.length + gk ≤ 26 ∧ OwnI wr W.heap.size ov l ∧ Cur w0 wr g (n + 400) ∧ Within g (g + 1) W wr)
          case atStart => exact ⟨[], 24 + y, rfl, by omega, by omega, by omega, by simp, OwnI.nil _ _, HC.out, HWr.out⟩
          case round =>
            obtain ⟨l, k, rfl, hk0, hk1, hk2, hk3, hO, hC, hWr⟩ := hrel
            have hsr := hWr.size
            have HC := Lib.hid hC
            have HWr := Lib.hid hWr
            obtain ⟨ao, co, rfl⟩ := hO.shape
            have HO := Lib.hid hO
            clear hC hWr hO
            by_cases hpos : 0 < k
            · obtain ⟨f, rfl⟩ : ∃ f, gk = f + 1 := ⟨gk - 1, by omega⟩
              have ew : IntKind.i64.wrap (k - 1) = k - 1 := IntWalk.i64_in _ (by omega)
              obtain ⟨c, hc⟩ : ∃ c, l.length = c := ⟨_, rfl⟩
              rw [hc] at HO hk3 ⊢
              have HK := Lib.hid hc; clear hc
              go_wp2_with (at_builtin; refine wpList_append_ints rfl _ _ rfl W.heap.size _ _ l [1] rfl (HO.out.alloc _) rfl (Ints.lit1 _ ⟨by decide, by decide⟩) (by rw [HK.out]; simp; omega) (by simp; omega) ?_; intro v4 w4 hown4 hgr4)
              have hb4 := (HO.out.alloc _).grown hgr4 (by simp; omega)
              have hb5 := ((Below.refl W.heap.size _).alloc (by omega) _).trans hb4
              go_roundg f
              case measure => omega
              case rel => exact ⟨l ++ [1], k - 1, by go_num, by omega, by omega, by omega, by rw [List.length_append, HK.out, List.length_singleton]; omega, hown4, HC.out.belowB hb5 (by omega), HWr.out.belowStep hb5⟩
            · obtain ⟨c, hc⟩ : ∃ c, l.length = c := ⟨_, rfl⟩
              rw [hc] at HO hk3 ⊢
              have HK := Lib.hid hc; clear hc
              go_wp2_with fail
              go_ret
              exact ⟨⟨_, rfl, l, Since.of_ownI HO.out (by omega), by rw [HK.out]; omega⟩, HC.out.mono (by omega), HWW.out.trans HWr.out⟩
      · have c0 := HXr.out.cell (i := 0) rfl
        have c1 := HXr.out.cell (i := 1) rfl
        have c2 := HXr.out.cell (i := 2) rfl
        go_wp2_with fail
        refine (spec_anyElement w0 g _ P Q G _ HC.out (HWr.out.belowOf HB1.out (by omega)) (by omega) HGR.out).mono ?_
        rintro e w6 ⟨⟨z, rfl, hz0, hz1⟩, hc, hw⟩
        have hs6 := hw.size
        replace HO := Lib.hid (HO.out.within hw (by omega))
        replace HC := Lib.hid (hc.mono (n' := n + 240) (by omega))
        replace HWr := Lib.hid (HWr.out.trans hw)
        clear hc hw c0 c1 c2
        go_wp2_with (at_builtin; refine wpList_append_ints rfl _ _ rfl W.heap.size _ _ l [z] rfl (HO.out.alloc _) rfl (Ints.lit1 _ ⟨by omega, by omega⟩) (by rw [HK.out]; simp; omega) (by simp; omega) ?_; intro v4 w4 hown4 hgr4)
        have hb4 := (HO.out.alloc _).grown hgr4 (by simp; omega)
        have hb5 := ((Below.refl W.heap.size w6).alloc (by omega) _).trans hb4
        have hs4 := hb5.size
        replace HC := Lib.hid (HC.out.belowB hb5 (by omega))
        replace HWr := Lib.hid (HWr.out.belowStep hb5)
        replace HO := Lib.hid hown4
        clear hb4 hb5 hown4 hgr4
        obtain ⟨a4, c4, rfl⟩ := HO.out.shape
        have HKL : Hid ((l ++ [z]).length = c + 1) := by unfold Hid; rw [List.length_append, HK.out]; rfl
        have hkl : c + 1 ≤ 60 := by omega
        obtain ⟨l2, hl2⟩ : ∃ l2, l ++ [z] = l2 := ⟨_, rfl⟩
        rw [hl2] at HO HKL ⊢
        clear hl2
        obtain ⟨c', hc'⟩ : ∃ c', l2.length = c' := ⟨_, rfl⟩
        rw [hc'] at HO HKL ⊢
        replace hkl : c' ≤ 60 := by have := HKL.out; omega
        clear HK
        have HK := Lib.hid hc'
        clear hc'
        go_wp2_with fail
        refine (spec_one w0 g _ 40 _ HC.out (HWr.out.belowOf HB1.out (by omega)) (by omega)).mono ?_
        rintro e w7 ⟨⟨q, rfl⟩, hc, hw⟩
        have hs7 := hw.size
        replace HO := Lib.hid (HO.out.within hw (by omega))
        replace HC := Lib.hid (hc.mono (n' := n + 300) (by omega))
        replace HWr := Lib.hid (HWr.out.trans hw)
        clear hc hw
        cases q
        · go_wp2_with fail
          go_ret
          exact ⟨⟨_, rfl, _, Since.of_ownI HO.out (by omega), by rw [HK.out]; omega⟩, HC.out.mono (by omega), HWW.out.trans HWr.out⟩
        · go_wp2_with fail
          refine (spec_pick w0 g _ 2 _ HC.out (HWr.out.belowOf HB1.out (by omega)) (by omega)).mono ?_
          rintro e w8 ⟨⟨y, rfl, hy0, _, hy2, _⟩, hc, hw⟩
          replace hy2 := hy2 (by omega)
          have hs8 := hw.size
          replace HC := Lib.hid (hc.mono (n' := n + 400) (by omega))
          replace HWr := Lib.hid (HWr.out.trans hw)
          clear hc hw HO
          have ewy : IntKind.i64.wrap (24 + y) = 24 + y := IntWalk.i64_in _ (by omega)
          go_wp2_with fail
          go_loopg [7, 9] 26 (fun gk ov kv wr => ∃ (l : List Int) (k : Int), kv = .int .i64 k ∧ 0 ≤ k ∧ k ≤ (gk : Int) ∧ gk ≤ 26 ∧ l.length + gk ≤ 26 ∧ OwnI wr W.heap.size ov l ∧ Cur w0 wr g (n + 400) ∧ Within g (g + 1) W wr)
          case atStart => exact ⟨[], 24 + y, rfl, by omega, by omega, by omega, by simp, OwnI.nil _ _, HC.out, HWr.out⟩
          case round =>
            obtain ⟨l, k, rfl, hk0, hk1, hk2, hk3, hO, hC, hWr⟩ := hrel
            have hsr := hWr.size
            have HC := Lib.hid hC
            have HWr := Lib.hid hWr
            obtain ⟨ao, co, rfl⟩ := hO.shape
            have HO := Lib.hid hO
            clear hC hWr hO
            by_cases hpos : 0 < k
            · obtain ⟨f, rfl⟩ : ∃ f, gk = f + 1 := ⟨gk - 1, by omega⟩
              have ew : IntKind.i64.wrap (k - 1) = k - 1 := IntWalk.i64_in _ (by omega)
              obtain ⟨c, hc⟩ : ∃ c, l.length = c := ⟨_, rfl⟩
              rw [hc] at HO hk3 ⊢
              have HK := Lib.hid hc; clear hc
              go_wp2_with (at_builtin; refine wpList_append_ints rfl _ _ rfl W.heap.size _ _ l [1] rfl (HO.out.alloc _) rfl (Ints.lit1 _ ⟨by decide, by decide⟩) (by rw [HK.out]; simp; omega) (by simp; omega) ?_; intro v4 w4 hown4 hgr4)
              have hb4 := (HO.out.alloc _).grown hgr4 (by simp; omega)
              have hb5 := ((Below.refl W.heap.size _).alloc (by omega) _).trans hb4
              go_roundg f
              case measure => omega
              case rel => exact ⟨l ++ [1], k - 1, by go_num, by omega, by omega, by omega, by rw [List.length_append, HK.out, List.length_singleton]; omega, hown4, HC.out.belowB hb5 (by omega), HWr.out.belowStep hb5⟩
            · obtain ⟨c, hc⟩ : ∃ c, l.length = c := ⟨_, rfl⟩
              rw [hc] at HO hk3 ⊢
              have HK := Lib.hid hc; clear hc
              go_wp2_with fail
              go_ret
              exact ⟨⟨_, rfl, l, Since.of_ownI HO.out (by omega), by rw [HK.out]; omega⟩, HC.out.mono (by omega), HWW.out.trans HWr.out⟩
end Go.Proofs.Ytboahnklilmdpaa
