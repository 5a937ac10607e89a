/- Draws: rolls, lists for tags: walks (printed by gen_drc3.py). -/
import Derived.Test.YtboahnklilmdpaaCtW
import Derived.Test.YtboahnklilmdpaaDrTW
namespace Go.Proofs.Ytboahnklilmdpaa
open Go.RowKit
set_option linter.unusedSimpArgs false
set_option linter.unusedVariables false

theorem OwnC.lower {w : World} {B B' : Nat} {v : Value} {l : List CipherD} (h : OwnC w B v l) (hB : B' ≤ B) : OwnC w B' v l := (FrR.mono h hB).anyC
theorem OwnC.here {w : World} {B : Nat} {v : Value} {l : List CipherD} (h : OwnC w B v l) : RdR rCipher w v l := h.rd
set_option maxRecDepth 100000 in
set_option maxHeartbeats 4000000 in
theorem spec_ciphersO (w0 : World) (g : Nat) (n P Q G : Int) (m : Nat) (w : World) (h : Cur w0 w g n) (hb : Below w0.heap.size w0 w) (hn : n ≤ 400000000000000) (hgr : GrB ⟨P, Q, G⟩) (hm : m ≤ 50) :
    Calls Try.prog 134 #[.pointer (some ⟨g, 0, none⟩), .agg #[.int .i64 P, .int .i64 Q, .int .i64 G], .int .i64 m] w fun e w' => (∃ v', e = .returned v' ∧ ∃ l, OwnC w' w.heap.size v' l ∧ l.length ≤ 60) ∧ Cur w0 w' g (n + 10000000) ∧ Within g (g + 1) w w' := by
  have HGR := Lib.hid hgr
  clear hgr
  have HC := Lib.hid h
  have hg := h.lt
  have hg0 := h.ge
  have HB0 := Lib.hid hb
  clear h hb
  obtain ⟨W, hW⟩ : ∃ W, W = w.alloc (.cells #[.int .i64 P, .int .i64 Q, .int .i64 G] 39) := ⟨_, rfl⟩
  have hbW : Below w.heap.size w W := by rw [hW]; exact (Below.refl _ _).alloc (Nat.le_refl _) _
  have HX : Hid (BoxN W w.heap.size 39 [.int .i64 P, .int .i64 Q, .int .i64 G]) := by unfold Hid; rw [hW]; exact BoxN.new w _ _
  have HSW : Hid (W.heap.size = w.heap.size + 1) := by unfold Hid; rw [hW]; simp
  have hsW : w.heap.size < W.heap.size := by have := HSW.out; omega
  replace HC := Lib.hid (HC.out.keep hbW)
  have HBW := Lib.hid hbW
  have HWW : Hid (Within g (g + 1) w W) := Within.of_below hbW
  have HB1 := Lib.hid (Below.next HB0.out hbW)
  clear hbW
  have ewm : IntKind.i64.wrap ((m : Int) + 1) = (m : Int) + 1 := IntWalk.i64_in _ (by omega)
  go_enter Try.func134, Try.ntmps134
  go_wp2_with fail
  rw [← hW]
  clear hW
  try (go_wp2_with fail)
  refine (spec_pick w0 g _ ((m : Int) + 1) _ HC.out HB1.out (by omega)).mono ?_
  rintro e w1 ⟨⟨x, rfl, hx0, _, hx2, _⟩, hc, hw⟩
  replace hx2 := hx2 (by omega)
  have HC1 := Lib.hid hc
  have HW1 := Lib.hid hw
  clear hc hw
  go_wp2_with fail
  go_loopg [7, 8] m (fun gk ov kv wr => ∃ (l : List CipherD) (k : Int), kv = .int .i64 k ∧ 0 ≤ k ∧ k ≤ (gk : Int) ∧ gk ≤ m ∧ l.length + gk ≤ m ∧ OwnC wr W.heap.size ov l ∧ Cur w0 wr g (n + 2 + 100000 * ((m : Int) - gk)) ∧ Within g (g + 1) W wr)
  case atStart => exact ⟨[], x, rfl, hx0, by omega, by omega, by simp, OwnC.nil _ _, HC1.out.mono (by omega), HW1.out⟩
  case round =>
    obtain ⟨l, k, rfl, hk0, hk1, hk2, hk3, hO, hC, hWr⟩ := hrel
    have hsr := hWr.size
    have HXr := Lib.hid (HX.out.kept hWr (.inr (by omega)))
    have c0 := HXr.out.cell (i := 0) rfl
    have c1 := HXr.out.cell (i := 1) rfl
    have c2 := HXr.out.cell (i := 2) rfl
    clear HC
    have HC := Lib.hid hC
    have HWr := Lib.hid hWr
    obtain ⟨ao, co, rfl⟩ := hO.shape2
    have HO := Lib.hid hO
    clear hC hWr hO
    obtain ⟨c, hc⟩ : ∃ c, l.length = c := ⟨_, rfl⟩
    rw [hc] at HO hk3 ⊢
    have HK := Lib.hid hc; clear hc
    by_cases hpos : 0 < k
    · obtain ⟨f, rfl⟩ : ∃ f, gk = f + 1 := ⟨gk - 1, by omega⟩
      have ew : IntKind.i64.wrap (k - 1) = k - 1 := IntWalk.i64_in _ (by omega)
      go_wp2_with fail
      refine (spec_cipher w0 g _ P Q G _ HC.out (HWr.out.belowOf HB1.out (by omega)) (by omega) HGR.out).mono ?_
      rintro e w3 ⟨⟨za, zb, rfl, ⟨hz0, hz1⟩, ⟨hz2, hz3⟩⟩, hc, hw⟩
      have hs3 := hw.size
      have HO3 := Lib.hid (HO.out.within hw (by omega))
      have HC3 := Lib.hid (hc.mono (n' := n + 2 + 100000 * ((m : Int) - f)) (by omega))
      have HW3 := Lib.hid (HWr.out.trans hw)
      clear hc hw c0 c1 c2 HO HC
      go_wp2_with (at_builtin; refine wpList_append_C rfl _ _ rfl (HO3.out.below ((Below.refl _ _).alloc (Nat.le_refl _) _)) rfl rfl (RdC.lit _ (l := [⟨za, zb⟩]) (cs := #[.int .i64 za, .int .i64 zb]) (AllCI.cons (ciOf (by omega) (by omega) (by omega) (by omega)) AllCI.nil) rfl 1 rfl (by unfold maxLen; omega)) (by simp; omega) (by rw [HK.out]; simp; omega) ?_; intro v4 w4 hown4 hgr4)
      have hb4 := hgr4
      have hb5 := ((Below.refl W.heap.size w3).alloc (by omega) _).trans hb4
      go_roundg f
      case measure => omega
      case rel => exact ⟨l ++ [(⟨za, zb⟩ : CipherD)], k - 1, by go_num, by omega, by omega, by omega, by rw [List.length_append, HK.out, List.length_singleton]; omega, hown4, HC3.out.belowB hb5 (by omega), HW3.out.belowStep hb5⟩
    · go_wp2_with fail
      refine (spec_one w0 g _ 24 _ HC.out (HWr.out.belowOf HB1.out (by omega)) (by omega)).mono ?_
      rintro e w5 ⟨⟨q, rfl⟩, hc, hw⟩
      have hs5 := hw.size
      replace HO := Lib.hid (HO.out.within hw (by omega))
      replace HC := Lib.hid (hc.mono (n' := n + 6000000) (by omega))
      replace HWr := Lib.hid (HWr.out.trans hw)
      replace HXr := Lib.hid (HXr.out.kept hw (.inr (by omega)))
      clear hc hw c0 c1 c2
      cases q
      · have hkl : c ≤ 60 := by omega
        go_wp2_with fail
        refine (spec_one w0 g _ 40 _ HC.out (HWr.out.belowOf HB1.out (by omega)) (by omega)).mono ?_
        rintro e w7 ⟨⟨q, rfl⟩, hc, hw⟩
        have hs7 := hw.size
        replace HO := Lib.hid (HO.out.within hw (by omega))
        replace HC := Lib.hid (hc.mono (n' := n + 6300000) (by omega))
        replace HWr := Lib.hid (HWr.out.trans hw)
        clear hc hw
        cases q
        · go_wp2_with fail
          go_ret
          exact ⟨⟨_, rfl, _, HO.out.lower (by omega), by rw [HK.out]; omega⟩, HC.out.mono (by omega), HWW.out.trans HWr.out⟩
        · go_wp2_with fail
          refine (spec_pick w0 g _ 2 _ HC.out (HWr.out.belowOf HB1.out (by omega)) (by omega)).mono ?_
          rintro e w8 ⟨⟨y, rfl, hy0, _, hy2, _⟩, hc, hw⟩
          replace hy2 := hy2 (by omega)
          have hs8 := hw.size
          replace HC := Lib.hid (hc.mono (n' := n + 6400000) (by omega))
          replace HWr := Lib.hid (HWr.out.trans hw)
          clear hc hw HO
          have ewy : IntKind.i64.wrap (24 + y) = 24 + y := IntWalk.i64_in _ (by omega)
          go_wp2_with fail
          go_loopg [7, 9] 26 (fun gk ov kv wr => ∃ (l : List CipherD) (k : Int), kv = .int .i64 k ∧ 0 ≤ k ∧ k ≤ (gk : Int) ∧ gk ≤ 26 ∧ l.length + gk ≤ 26 ∧ OwnC wr W.heap.size ov l ∧ Cur w0 wr g (n + 6400000) ∧ Within g (g + 1) W wr)
          case atStart => exact ⟨[], 24 + y, rfl, by omega, by omega, by omega, by simp, OwnC.nil _ _, HC.out, HWr.out⟩
          case round =>
            obtain ⟨l, k, rfl, hk0, hk1, hk2, hk3, hO, hC, hWr⟩ := hrel
            have hsr := hWr.size
            have HC := Lib.hid hC
            have HWr := Lib.hid hWr
            obtain ⟨ao, co, rfl⟩ := hO.shape2
            have HO := Lib.hid hO
            clear hC hWr hO
            by_cases hpos : 0 < k
            · obtain ⟨f, rfl⟩ : ∃ f, gk = f + 1 := ⟨gk - 1, by omega⟩
              have ew : IntKind.i64.wrap (k - 1) = k - 1 := IntWalk.i64_in _ (by omega)
              obtain ⟨c, hc⟩ : ∃ c, l.length = c := ⟨_, rfl⟩
              rw [hc] at HO hk3 ⊢
              have HK := Lib.hid hc; clear hc
              go_wp2_with (at_builtin; refine wpList_append_C rfl _ _ rfl (HO.out.below ((Below.refl _ _).alloc (Nat.le_refl _) _)) rfl rfl (RdC.lit _ (l := [⟨1, 1⟩]) (cs := #[.int .i64 1, .int .i64 1]) (AllCI.cons ⟨⟨by decide, by decide⟩, ⟨by decide, by decide⟩⟩ AllCI.nil) rfl 1 rfl (by unfold maxLen; omega)) (by simp; omega) (by rw [HK.out]; simp; omega) ?_; intro v4 w4 hown4 hgr4)
              have hb4 := hgr4
              have hb5 := ((Below.refl W.heap.size _).alloc (by omega) _).trans hb4
              go_roundg f
              case measure => omega
              case rel => exact ⟨l ++ [⟨1, 1⟩], k - 1, by go_num, by omega, by omega, by omega, by rw [List.length_append, HK.out, List.length_singleton]; omega, hown4, HC.out.belowB hb5 (by omega), HWr.out.belowStep hb5⟩
            · obtain ⟨c, hc⟩ : ∃ c, l.length = c := ⟨_, rfl⟩
              rw [hc] at HO hk3 ⊢
              have HK := Lib.hid hc; clear hc
              go_wp2_with fail
              go_ret
              exact ⟨⟨_, rfl, l, HO.out.lower (by omega), by rw [HK.out]; omega⟩, HC.out.mono (by omega), HWW.out.trans HWr.out⟩
      · have c0 := HXr.out.cell (i := 0) rfl
        have c1 := HXr.out.cell (i := 1) rfl
        have c2 := HXr.out.cell (i := 2) rfl
        go_wp2_with fail
        refine (spec_anyCipher w0 g _ P Q G _ HC.out (HWr.out.belowOf HB1.out (by omega)) (by omega) HGR.out).mono ?_
        rintro e w6 ⟨⟨za, zb, rfl, ⟨hz0, hz1⟩, ⟨hz2, hz3⟩⟩, hc, hw⟩
        have hs6 := hw.size
        replace HO := Lib.hid (HO.out.within hw (by omega))
        replace HC := Lib.hid (hc.mono (n' := n + 6200000) (by omega))
        replace HWr := Lib.hid (HWr.out.trans hw)
        clear hc hw c0 c1 c2
        go_wp2_with (at_builtin; refine wpList_append_C rfl _ _ rfl (HO.out.below ((Below.refl _ _).alloc (Nat.le_refl _) _)) rfl rfl (RdC.lit _ (l := [⟨za, zb⟩]) (cs := #[.int .i64 za, .int .i64 zb]) (AllCI.cons (ciOf (by omega) (by omega) (by omega) (by omega)) AllCI.nil) rfl 1 rfl (by unfold maxLen; omega)) (by simp; omega) (by rw [HK.out]; simp; omega) ?_; intro v4 w4 hown4 hgr4)
        have hb4 := hgr4
        have hb5 := ((Below.refl W.heap.size w6).alloc (by omega) _).trans hb4
        have hs4 := hb5.size
        replace HC := Lib.hid (HC.out.belowB hb5 (by omega))
        replace HWr := Lib.hid (HWr.out.belowStep hb5)
        replace HO := Lib.hid hown4
        clear hb4 hb5 hown4 hgr4
        obtain ⟨a4, c4, rfl⟩ := HO.out.shape2
        have HKL : Hid ((l ++ [(⟨za, zb⟩ : CipherD)]).length = c + 1) := by unfold Hid; rw [List.length_append, HK.out]; rfl
        have hkl : c + 1 ≤ 60 := by omega
        obtain ⟨l2, hl2⟩ : ∃ l2, l ++ [(⟨za, zb⟩ : CipherD)] = l2 := ⟨_, rfl⟩
        rw [hl2] at HO HKL ⊢
        clear hl2
        obtain ⟨c', hc'⟩ : ∃ c', l2.length = c' := ⟨_, rfl⟩
        rw [hc'] at HO HKL ⊢
        replace hkl : c' ≤ 60 := by have := HKL.out; omega
        clear HK
        have HK := Lib.hid hc'
        clear hc'
        go_wp2_with fail
        refine (spec_one w0 g _ 40 _ HC.out (HWr.out.belowOf HB1.out (by omega)) (by omega)).mono ?_
        rintro e w7 ⟨⟨q, rfl⟩, hc, hw⟩
        have hs7 := hw.size
        replace HO := Lib.hid (HO.out.within hw (by omega))
        replace HC := Lib.hid (hc.mono (n' := n + 6300000) (by omega))
        replace HWr := Lib.hid (HWr.out.trans hw)
        clear hc hw
        cases q
        · go_wp2_with fail
          go_ret
          exact ⟨⟨_, rfl, _, HO.out.lower (by omega), by rw [HK.out]; omega⟩, HC.out.mono (by omega), HWW.out.trans HWr.out⟩
        · go_wp2_with fail
          refine (spec_pick w0 g _ 2 _ HC.out (HWr.out.belowOf HB1.out (by omega)) (by omega)).mono ?_
          rintro e w8 ⟨⟨y, rfl, hy0, _, hy2, _⟩, hc, hw⟩
          replace hy2 := hy2 (by omega)
          have hs8 := hw.size
          replace HC := Lib.hid (hc.mono (n' := n + 6400000) (by omega))
          replace HWr := Lib.hid (HWr.out.trans hw)
          clear hc hw HO
          have ewy : IntKind.i64.wrap (24 + y) = 24 + y := IntWalk.i64_in _ (by omega)
          go_wp2_with fail
          go_loopg [7, 9] 26 (fun gk ov kv wr => ∃ (l : List CipherD) (k : Int), kv = .int .i64 k ∧ 0 ≤ k ∧ k ≤ (gk : Int) ∧ gk ≤ 26 ∧ l.length + gk ≤ 26 ∧ OwnC wr W.heap.size ov l ∧ Cur w0 wr g (n + 6400000) ∧ Within g (g + 1) W wr)
          case atStart => exact ⟨[], 24 + y, rfl, by omega, by omega, by omega, by simp, OwnC.nil _ _, HC.out, HWr.out⟩
          case round =>
            obtain ⟨l, k, rfl, hk0, hk1, hk2, hk3, hO, hC, hWr⟩ := hrel
            have hsr := hWr.size
            have HC := Lib.hid hC
            have HWr := Lib.hid hWr
            obtain ⟨ao, co, rfl⟩ := hO.shape2
            have HO := Lib.hid hO
            clear hC hWr hO
            by_cases hpos : 0 < k
            · obtain ⟨f, rfl⟩ : ∃ f, gk = f + 1 := ⟨gk - 1, by omega⟩
              have ew : IntKind.i64.wrap (k - 1) = k - 1 := IntWalk.i64_in _ (by omega)
              obtain ⟨c, hc⟩ : ∃ c, l.length = c := ⟨_, rfl⟩
              rw [hc] at HO hk3 ⊢
              have HK := Lib.hid hc; clear hc
              go_wp2_with (at_builtin; refine wpList_append_C rfl _ _ rfl (HO.out.below ((Below.refl _ _).alloc (Nat.le_refl _) _)) rfl rfl (RdC.lit _ (l := [⟨1, 1⟩]) (cs := #[.int .i64 1, .int .i64 1]) (AllCI.cons ⟨⟨by decide, by decide⟩, ⟨by decide, by decide⟩⟩ AllCI.nil) rfl 1 rfl (by unfold maxLen; omega)) (by simp; omega) (by rw [HK.out]; simp; omega) ?_; intro v4 w4 hown4 hgr4)
              have hb4 := hgr4
              have hb5 := ((Below.refl W.heap.size _).alloc (by omega) _).trans hb4
              go_roundg f
              case measure => omega
              case rel => exact ⟨l ++ [⟨1, 1⟩], k - 1, by go_num, by omega, by omega, by omega, by rw [List.length_append, HK.out, List.length_singleton]; omega, hown4, HC.out.belowB hb5 (by omega), HWr.out.belowStep hb5⟩
            · obtain ⟨c, hc⟩ : ∃ c, l.length = c := ⟨_, rfl⟩
              rw [hc] at HO hk3 ⊢
              have HK := Lib.hid hc; clear hc
              go_wp2_with fail
              go_ret
              exact ⟨⟨_, rfl, l, HO.out.lower (by omega), by rw [HK.out]; omega⟩, HC.out.mono (by omega), HWW.out.trans HWr.out⟩
set_option maxRecDepth 100000 in
set_option maxHeartbeats 4000000 in
theorem spec_DrawRollOf (v : Value) (w : World) (h : Bytes w v) :
    Calls Try.prog 60 #[v] w fun e w' => (∃ (P : Int) (Q : Int) (G : Int) (xr1 : Int) (vr2 : Value) (lr2 : List Int) (vr3 : Value) (lr3 : List Int), e = .returned (.tuple #[.agg #[.int .i64 P, .int .i64 Q, .int .i64 G], .int .i64 xr1, vr2, vr3]) ∧ GrB ⟨P, Q, G⟩ ∧ (-10 ≤ xr1 ∧ xr1 ≤ 2000000010) ∧ (Ints w' vr2 lr2 ∧ lr2.length ≤ 60) ∧ (Ints w' vr3 lr3 ∧ lr3.length ≤ 1001)) ∧ Below w.heap.size w w' := by
  obtain ⟨a, m, c, rfl, hk1, hk2, hv⟩ := h
  have HY : Hid (Bytes w (.slice a m c)) := ⟨a, m, c, rfl, hk1, hk2, hv⟩
  clear hv
  unfold maxLen at hk2
  obtain ⟨U, hU⟩ : ∃ U, U = w.alloc (.cells #[.int .i64 0, .int .i64 0, .int .i64 0] 39) := ⟨_, rfl⟩
  have hbU : Below w.heap.size w U := by rw [hU]; (repeat (first | exact Below.refl _ _ | assumption | refine Below.drew ?_ | refine Below.alloc ?_ (by first | (simp; done) | (simp; omega)) _ | refine Below.setCell ?_ (by first | (simp; done) | (simp; omega)) _))
  have HX0 : Hid (BoxN U w.heap.size 39 [.int .i64 0, .int .i64 0, .int .i64 0]) := by unfold Hid; rw [hU]; have h := (BoxN.new w [.int .i64 0, .int .i64 0, .int .i64 0] 39); simpa using h
  have hsU : U.heap.size = w.heap.size + 1 := by rw [hU]; simp
  obtain ⟨W, hW⟩ : ∃ W, W = U.alloc (.cells #[.slice a m c, .int .i64 0, .int .u64 0] 170) := ⟨_, rfl⟩
  have HC : Hid (Cur U W U.heap.size 0) := by unfold Hid; rw [hW]; exact Cur.new U (HY.out.below hbU)
  have hbW : Below U.heap.size U W := by rw [hW]; exact (Below.refl _ _).alloc (Nat.le_refl _) _
  have HBW := Lib.hid (Below.next hbU hbW)
  have HUB := Lib.hid hbW
  replace HX0 := Lib.hid (HX0.out.below hbW)
  obtain ⟨g, hg⟩ : ∃ g, g = U.heap.size := ⟨_, rfl⟩
  have HSU : Hid (w.heap.size + 1 = g) := by unfold Hid; rw [hg, hsU]
  have HWS : Hid (W.heap.size = g + 1) := by unfold Hid; rw [hW, hg]; simp
  go_enter Try.func60, Try.ntmps60
  go_wp2_with fail
  rw [← hU, ← hW]
  rw [HSU.out]
  rw [← hg] at HC HUB
  have HUS : Hid (U.heap.size = g) := hg.symm
  have hwg : w.heap.size + 1 = g := HSU.out
  have hsW := HWS.out
  have HW := Lib.hid (Within.refl g (g + 1) W)
  have HUC : Hid (Below U.heap.size U W) := by unfold Hid; rw [HUS.out]; exact HUB.out
  clear hU hW hbU hbW hsU hg
  have z_0_0 := HX0.out.cell (i := 0) rfl
  have z_0_1 := HX0.out.cell (i := 1) rfl
  have z_0_2 := HX0.out.cell (i := 2) rfl
  try (go_wp2_with fail)
  clear z_0_0 z_0_1 z_0_2
  refine (spec_anyGroup U g _ _ HC.out (HW.out.belowOf HUC.out (Nat.le_of_eq HUS.out)) (by omega)).mono ?_
  rintro e u1 ⟨⟨P, Q, G, rfl, P1, Q1, G1⟩, hc, hw⟩
  have HGR : Hid (GrB ⟨P, Q, G⟩) := ⟨P1, Q1, G1⟩
  clear P1 Q1 G1
  have hsz1 := hw.size
  replace HX0 := Lib.hid (HX0.out.kept hw (.inl (by omega)))
  replace HW := Lib.hid (HW.out.trans hw)
  replace HC := Lib.hid hc
  clear hc hw
  have z_0_0 := HX0.out.cell (i := 0) rfl
  have z_0_1 := HX0.out.cell (i := 1) rfl
  have z_0_2 := HX0.out.cell (i := 2) rfl
  have lt_HX0 := HX0.out.lt
  obtain ⟨V2, hV⟩ : ∃ V, V = u1.alloc (.cells #[.int .i64 P, .int .i64 Q, .int .i64 G] 39) := ⟨_, rfl⟩
  have hbV : Below u1.heap.size u1 V2 := by rw [hV]; (repeat (first | exact Below.refl _ _ | assumption | refine Below.drew ?_ | refine Below.alloc ?_ (by first | (simp; done) | (simp; omega)) _ | refine Below.setCell ?_ (by first | (simp; done) | (simp; omega)) _))
  have HZ1 : Hid (BoxN V2 u1.heap.size 39 [.int .i64 P, .int .i64 Q, .int .i64 G]) := by unfold Hid; rw [hV]; have h := (BoxN.new u1 [.int .i64 P, .int .i64 Q, .int .i64 G] 39); simpa using h
  have hgc : g < u1.heap.size := HC.out.lt
  go_wp2_with fail
  rw [← hV]
  have hsV2 : V2.heap.size = u1.heap.size + 1 := by rw [hV]; simp
  clear hV hgc
  replace HX0 := Lib.hid (HX0.out.below hbV)
  replace HW := Lib.hid (HW.out.trans (Within.of_below hbV))
  replace HC := Lib.hid (HC.out.keep hbV)
  clear hbV
  clear z_0_0 z_0_1 z_0_2
  clear lt_HX0
  refine (spec_elements U g _ P Q G 4 _ HC.out (HW.out.belowOf HUC.out (Nat.le_of_eq HUS.out)) (by omega) HGR.out (by omega)).mono ?_
  rintro e u3 ⟨⟨v3, rfl, l3, hs3, hl3⟩, hc, hw⟩
  have HL3 := Lib.hid hs3
  obtain ⟨a3, n3, c3, rfl⟩ := hs3.here.shape
  have hn3 : n3 ≤ 60 := by have h1 := hs3.here.len; omega
  have HE3 := Lib.hid hs3.here.len
  clear hs3
  have hsz3 := hw.size
  replace HX0 := Lib.hid (HX0.out.kept hw (.inl (by omega)))
  replace HZ1 := Lib.hid (HZ1.out.kept hw (.inr (by omega)))
  replace HW := Lib.hid (HW.out.trans hw)
  replace HC := Lib.hid hc
  clear hc hw
  have z_0_0 := HX0.out.cell (i := 0) rfl
  have z_0_1 := HX0.out.cell (i := 1) rfl
  have z_0_2 := HX0.out.cell (i := 2) rfl
  have z_1_0 := HZ1.out.cell (i := 0) rfl
  have z_1_1 := HZ1.out.cell (i := 1) rfl
  have z_1_2 := HZ1.out.cell (i := 2) rfl
  try (go_wp2_with fail)
  refine wp_region_noPanic ?_
  refine wp_region_Q1 (Within g (g + 1)) (DrawS U u3 g _ 1000000000 (fun w' => w'.cell? ⟨u1.heap.size, 0, none⟩ = some (.int .i64 P) ∧ w'.cell? ⟨u1.heap.size, 1, none⟩ = some (.int .i64 Q) ∧ w'.cell? ⟨u1.heap.size, 2, none⟩ = some (.int .i64 G))) 16 [4] [(0, []), (1, []), (2, []), (3, [1, 0]), (5, []), (6, []), (7, []), (8, [0]), (9, [3, 2, 0])] [10, 11, 12, 13] (by kernel_rfl) (by kernel_rfl) (by kernel_rfl) (by kernel_rfl) (by kernel_rfl) rfl (fun _ _ _ _ h => h) (DrawS.good _ _ _ _ _ _) ⟨(Within.refl _ _ _).drew, by simpa using HC.out.keep (Below.refl _ _).drew, ⟨box_at z_1_0 (Below.refl _ _).drew, box_at z_1_1 (Below.refl _ _).drew, box_at z_1_2 (Below.refl _ _).drew⟩⟩ ?_
  simp only [pickP, pickN, List.getElem?_cons_zero, List.getElem?_cons_succ]
  refine' wpPre_read _ (fun w' => ?_) ?_; rotate_left
  · go_simp
    (try with_reducible rfl)
  refine wpPre_nil (fun _ => ?_)
  simp only [Act.put, List.setIfInBounds_toArray, List.set_cons_zero, List.set_cons_succ]
  iterate 3 (refine' chainQ_read (DrawS.good _ _ _ _ _ _) _ rfl rfl (fun m w' hm' hS' => ?_) ?_; rotate_left; · (simp only [lookP, allP, Act.put, List.getElem?_cons_zero, List.getElem?_cons_succ, List.setIfInBounds_toArray, List.set_cons_zero, List.set_cons_succ]; (try dsimp only [DrawS] at hS'); go_simp; (try with_reducible rfl)))
  -- 3: call { callee := value (func 135), args := #[t18, t19], argTypes := #[167, 39] }
  refine chainQ_do (d := (some 20)) (fun v u => ∃ (xq3 : Int), v = (.int .i64 xq3) ∧ (-10 ≤ xq3 ∧ xq3 ≤ 2000000010)) (fun v w1 w2 hw h => h) rfl rfl (fun m w' hm' hS' => ?_) ?_
  · simp only [lookP, allP, Act.put, List.getElem?_cons_zero, List.getElem?_cons_succ, List.setIfInBounds_toArray, List.set_cons_zero, List.set_cons_succ]
    intro K hK
    replace hm' : m < 9 := hm'
    go_simp
    go_at_call 135
    refine (spec_anyElement U g _ P Q G _ hS'.2.1 (hS'.1.belowOf (HW.out.belowOf HUC.out (Nat.le_of_eq HUS.out)) (by have := HUS.out; omega)) (by omega) HGR.out).mono ?_
    rintro e u ⟨⟨xq3, rfl, xq3l, xq3u⟩, hc, hw⟩
    exact hK.out _ _ hw ⟨hS'.1.trans hw, hc.mono (by omega), ⟨within_at (hS'.1.trans hw) z_1_0 (.inr (by omega)), within_at (hS'.1.trans hw) z_1_1 (.inr (by omega)), within_at (hS'.1.trans hw) z_1_2 (.inr (by omega))⟩⟩ ⟨xq3, rfl, ⟨xq3l, xq3u⟩⟩
  iterate 4 (refine' chainQ_read (DrawS.good _ _ _ _ _ _) _ rfl rfl (fun m w' hm' hS' => ?_) ?_; rotate_left; · (simp only [lookP, allP, Act.put, List.getElem?_cons_zero, List.getElem?_cons_succ, List.setIfInBounds_toArray, List.set_cons_zero, List.set_cons_succ]; (try dsimp only [DrawS] at hS'); go_simp; (try with_reducible rfl)))
  -- 9: call { callee := value (func 136), args := #[t22, t23, t25], argTypes := #[167, 39, 3] }
  refine chainQ_do (d := (some 26)) (fun v u => ∃ (vq9 : Value) (lq9 : List Int), v = vq9 ∧ (Since u3.heap.size u (fun z => Ints z vq9 lq9) ∧ lq9.length ≤ 1001)) (fun v w1 w2 hw h => by obtain ⟨z0, z1, h3, h4⟩ := h; exact ⟨z0, z1, h3, ⟨(h4.1).within hw (by omega), h4.2⟩⟩) rfl rfl (fun m w' hm' hS' => ?_) ?_
  · simp only [lookP, allP, Act.put, List.getElem?_cons_zero, List.getElem?_cons_succ, List.setIfInBounds_toArray, List.set_cons_zero, List.set_cons_succ]
    intro K hK
    replace hm' : m < 9 := hm'
    go_simp
    go_at_call 136
    refine (spec_anyCoins U g _ P Q G n3 _ hS'.2.1 (hS'.1.belowOf (HW.out.belowOf HUC.out (Nat.le_of_eq HUS.out)) (by have := HUS.out; omega)) (by omega) HGR.out (by omega)).mono ?_
    rintro e u ⟨⟨vq9, lq9, rfl, hsq9, hlq9⟩, hc, hw⟩
    exact hK.out _ _ hw ⟨hS'.1.trans hw, hc.mono (by omega), ⟨within_at (hS'.1.trans hw) z_1_0 (.inr (by omega)), within_at (hS'.1.trans hw) z_1_1 (.inr (by omega)), within_at (hS'.1.trans hw) z_1_2 (.inr (by omega))⟩⟩ ⟨vq9, lq9, rfl, ⟨(hsq9.mono (by have := hS'.1.size; omega)), by omega⟩⟩
  refine chainQ_nil (fun u4 hS' => ?_)
  simp only [allP, Act.put, List.setIfInBounds_toArray, List.set_cons_zero, List.set_cons_succ]
  intro x9 hx9
  intro x3 hx3
  replace hS' : DrawS U u3 g _ 1000000000 _ 9 u4 := hS'
  obtain ⟨hw, hc, hC⟩ := hS'
  obtain ⟨xq3, rfl, xq3l, xq3u⟩ := hx3
  obtain ⟨vq9, lq9, rfl, hsq9, hlq9⟩ := hx9
  have hsz4 := hw.size
  replace HX0 := Lib.hid (HX0.out.kept hw (.inl (by omega)))
  replace HZ1 := Lib.hid (HZ1.out.kept hw (.inr (by omega)))
  replace HL3 := Lib.hid (HL3.out.within hw (by omega))
  replace HW := Lib.hid (HW.out.trans hw)
  replace HC := Lib.hid hc
  clear hc hw hC
  clear z_0_0 z_0_1 z_0_2 z_1_0 z_1_1 z_1_2
  have HLq9 := Lib.hid hsq9
  obtain ⟨aq9, nq9, cq9, rfl⟩ := hsq9.here.shape
  have hnq9 : nq9 ≤ 1001 := by have h1 := hsq9.here.len; omega
  have HEq9 := Lib.hid hsq9.here.len
  clear hsq9
  have r_HX0_0 := HX0.out.cell (i := 0) rfl
  have r_HX0_1 := HX0.out.cell (i := 1) rfl
  have r_HX0_2 := HX0.out.cell (i := 2) rfl
  have fr_HX0 := fun j => HX0.out.frozen j
  go_wp2_with fail
  refine NoPanic.normal ?_
  have FHX0 := Lib.hid (((HX0.out.set 0 (.int .i64 P)).set 1 (.int .i64 Q)).set 2 (.int .i64 G))
  clear r_HX0_0 r_HX0_1 r_HX0_2 fr_HX0
  have t_HX0_0 := FHX0.out.cell (i := 0) rfl
  have t_HX0_1 := FHX0.out.cell (i := 1) rfl
  have t_HX0_2 := FHX0.out.cell (i := 2) rfl
  try (go_wp2_with fail)
  have HYS := Lib.hid ((((Within.refl w.heap.size (w.heap.size + 1) u4).setCell (b := w.heap.size) (by omega) (by omega) 0 (.int .i64 P)).setCell (b := w.heap.size) (by omega) (by omega) 1 (.int .i64 Q)).setCell (b := w.heap.size) (by omega) (by omega) 2 (.int .i64 G))
  refine bodyPost_ret (v := .tuple #[.agg #[.int .i64 P, .int .i64 Q, .int .i64 G], .int .i64 xq3, .slice a3 n3 c3, .slice aq9 nq9 cq9]) (by simp [results, Try.results60, go_sem, t_HX0_0, t_HX0_1, t_HX0_2]) rfl ⟨⟨_, _, _, _, _, _, _, _, rfl, HGR.out, ⟨by omega, by omega⟩, ⟨(HL3.out.within HYS.out (by omega)).here, by have := HE3.out; omega⟩, ⟨(HLq9.out.within HYS.out (by omega)).here, by have := HEq9.out; omega⟩⟩, ((((HW.out.belowOf HBW.out (by omega)).setCell (p := ⟨w.heap.size, 0, none⟩) (by show w.heap.size ≤ w.heap.size; omega) (.int .i64 P)).setCell (p := ⟨w.heap.size, 1, none⟩) (by show w.heap.size ≤ w.heap.size; omega) (.int .i64 Q)).setCell (p := ⟨w.heap.size, 2, none⟩) (by show w.heap.size ≤ w.heap.size; omega) (.int .i64 G))⟩
set_option maxRecDepth 100000 in
set_option maxHeartbeats 4000000 in
theorem spec_DrawTagsOf (v : Value) (w : World) (h : Bytes w v) :
    Calls Try.prog 63 #[v] w fun e w' => (∃ (P : Int) (Q : Int) (G : Int) (xr1 : Int) (xr2 : Int) (vr3 : Value) (lr3 : List CipherD), e = .returned (.tuple #[.agg #[.int .i64 P, .int .i64 Q, .int .i64 G], .int .i64 xr1, .int .i64 xr2, vr3]) ∧ GrB ⟨P, Q, G⟩ ∧ (-10 ≤ xr1 ∧ xr1 ≤ 2000000010) ∧ (-10 ≤ xr2 ∧ xr2 ≤ 2000000010) ∧ (RdR rCipher w' vr3 lr3 ∧ lr3.length ≤ 61)) ∧ Below w.heap.size w w' := by
  obtain ⟨a, m, c, rfl, hk1, hk2, hv⟩ := h
  have HY : Hid (Bytes w (.slice a m c)) := ⟨a, m, c, rfl, hk1, hk2, hv⟩
  clear hv
  unfold maxLen at hk2
  obtain ⟨U, hU⟩ : ∃ U, U = w.alloc (.cells #[.int .i64 0, .int .i64 0, .int .i64 0] 39) := ⟨_, rfl⟩
  have hbU : Below w.heap.size w U := by rw [hU]; (repeat (first | exact Below.refl _ _ | assumption | refine Below.drew ?_ | refine Below.alloc ?_ (by first | (simp; done) | (simp; omega)) _ | refine Below.setCell ?_ (by first | (simp; done) | (simp; omega)) _))
  have HX0 : Hid (BoxN U w.heap.size 39 [.int .i64 0, .int .i64 0, .int .i64 0]) := by unfold Hid; rw [hU]; have h := (BoxN.new w [.int .i64 0, .int .i64 0, .int .i64 0] 39); simpa using h
  have hsU : U.heap.size = w.heap.size + 1 := by rw [hU]; simp
  obtain ⟨W, hW⟩ : ∃ W, W = U.alloc (.cells #[.slice a m c, .int .i64 0, .int .u64 0] 170) := ⟨_, rfl⟩
  have HC : Hid (Cur U W U.heap.size 0) := by unfold Hid; rw [hW]; exact Cur.new U (HY.out.below hbU)
  have hbW : Below U.heap.size U W := by rw [hW]; exact (Below.refl _ _).alloc (Nat.le_refl _) _
  have HBW := Lib.hid (Below.next hbU hbW)
  have HUB := Lib.hid hbW
  replace HX0 := Lib.hid (HX0.out.below hbW)
  obtain ⟨g, hg⟩ : ∃ g, g = U.heap.size := ⟨_, rfl⟩
  have HSU : Hid (w.heap.size + 1 = g) := by unfold Hid; rw [hg, hsU]
  have HWS : Hid (W.heap.size = g + 1) := by unfold Hid; rw [hW, hg]; simp
  go_enter Try.func63, Try.ntmps63
  go_wp2_with fail
  rw [← hU, ← hW]
  rw [HSU.out]
  rw [← hg] at HC HUB
  have HUS : Hid (U.heap.size = g) := hg.symm
  have hwg : w.heap.size + 1 = g := HSU.out
  have hsW := HWS.out
  have HW := Lib.hid (Within.refl g (g + 1) W)
  have HUC : Hid (Below U.heap.size U W) := by unfold Hid; rw [HUS.out]; exact HUB.out
  clear hU hW hbU hbW hsU hg
  have z_0_0 := HX0.out.cell (i := 0) rfl
  have z_0_1 := HX0.out.cell (i := 1) rfl
  have z_0_2 := HX0.out.cell (i := 2) rfl
  try (go_wp2_with fail)
  clear z_0_0 z_0_1 z_0_2
  refine (spec_anyGroup U g _ _ HC.out (HW.out.belowOf HUC.out (Nat.le_of_eq HUS.out)) (by omega)).mono ?_
  rintro e u1 ⟨⟨P, Q, G, rfl, P1, Q1, G1⟩, hc, hw⟩
  have HGR : Hid (GrB ⟨P, Q, G⟩) := ⟨P1, Q1, G1⟩
  clear P1 Q1 G1
  have hsz1 := hw.size
  replace HX0 := Lib.hid (HX0.out.kept hw (.inl (by omega)))
  replace HW := Lib.hid (HW.out.trans hw)
  replace HC := Lib.hid hc
  clear hc hw
  have z_0_0 := HX0.out.cell (i := 0) rfl
  have z_0_1 := HX0.out.cell (i := 1) rfl
  have z_0_2 := HX0.out.cell (i := 2) rfl
  have lt_HX0 := HX0.out.lt
  obtain ⟨V2, hV⟩ : ∃ V, V = u1.alloc (.cells #[.int .i64 P, .int .i64 Q, .int .i64 G] 39) := ⟨_, rfl⟩
  have hbV : Below u1.heap.size u1 V2 := by rw [hV]; (repeat (first | exact Below.refl _ _ | assumption | refine Below.drew ?_ | refine Below.alloc ?_ (by first | (simp; done) | (simp; omega)) _ | refine Below.setCell ?_ (by first | (simp; done) | (simp; omega)) _))
  have HZ1 : Hid (BoxN V2 u1.heap.size 39 [.int .i64 P, .int .i64 Q, .int .i64 G]) := by unfold Hid; rw [hV]; have h := (BoxN.new u1 [.int .i64 P, .int .i64 Q, .int .i64 G] 39); simpa using h
  have hgc : g < u1.heap.size := HC.out.lt
  go_wp2_with fail
  rw [← hV]
  have hsV2 : V2.heap.size = u1.heap.size + 1 := by rw [hV]; simp
  clear hV hgc
  replace HX0 := Lib.hid (HX0.out.below hbV)
  replace HW := Lib.hid (HW.out.trans (Within.of_below hbV))
  replace HC := Lib.hid (HC.out.keep hbV)
  clear hbV
  clear z_0_0 z_0_1 z_0_2
  clear lt_HX0
  refine (spec_ciphersO U g _ P Q G 4 _ HC.out (HW.out.belowOf HUC.out (Nat.le_of_eq HUS.out)) (by omega) HGR.out (by omega)).mono ?_
  rintro e u3 ⟨⟨v3, rfl, l3, hs3, hl3⟩, hc, hw⟩
  have HL3 := Lib.hid hs3
  obtain ⟨a3, n3, c3, rfl⟩ := hs3.here.shape
  have hn3 : n3 ≤ 60 := by have h1 := hs3.here.len; omega
  have HE3 := Lib.hid hs3.here.len
  clear hs3
  have hsz3 := hw.size
  replace HX0 := Lib.hid (HX0.out.kept hw (.inl (by omega)))
  replace HZ1 := Lib.hid (HZ1.out.kept hw (.inr (by omega)))
  replace HW := Lib.hid (HW.out.trans hw)
  replace HC := Lib.hid hc
  clear hc hw
  rcases Nat.eq_zero_or_pos n3 with hz | hz
  · have hzd : decide ((0 : Int) < (n3 : Int)) = false := decide_eq_false (by omega)
    have hzk : ¬ 0 < n3 := by omega
    clear hz
    have z_0_0 := HX0.out.cell (i := 0) rfl
    have z_0_1 := HX0.out.cell (i := 1) rfl
    have z_0_2 := HX0.out.cell (i := 2) rfl
    have z_1_0 := HZ1.out.cell (i := 0) rfl
    have z_1_1 := HZ1.out.cell (i := 1) rfl
    have z_1_2 := HZ1.out.cell (i := 2) rfl
    try (go_wp2_with fail)
    refine wp_region_noPanic ?_
    refine wp_region_Q1 (Within g (g + 1)) (DrawS U u3 g _ 1000000000 (fun w' => w'.cell? ⟨u1.heap.size, 0, none⟩ = some (.int .i64 P) ∧ w'.cell? ⟨u1.heap.size, 1, none⟩ = some (.int .i64 Q) ∧ w'.cell? ⟨u1.heap.size, 2, none⟩ = some (.int .i64 G))) 14 [7] [(0, []), (1, []), (2, []), (3, [1, 0]), (4, []), (5, []), (6, [1, 0])] [8, 9, 10, 11] (by kernel_rfl) (by kernel_rfl) (by kernel_rfl) (by kernel_rfl) (by kernel_rfl) rfl (fun _ _ _ _ h => h) (DrawS.good _ _ _ _ _ _) ⟨(Within.refl _ _ _).drew, by simpa using HC.out.keep (Below.refl _ _).drew, ⟨box_at z_1_0 (Below.refl _ _).drew, box_at z_1_1 (Below.refl _ _).drew, box_at z_1_2 (Below.refl _ _).drew⟩⟩ ?_
    simp only [pickP, pickN, List.getElem?_cons_zero, List.getElem?_cons_succ]
    refine' wpPre_read _ (fun w' => ?_) ?_; rotate_left
    · go_simp
      (try with_reducible rfl)
    refine wpPre_nil (fun _ => ?_)
    simp only [Act.put, List.setIfInBounds_toArray, List.set_cons_zero, List.set_cons_succ]
    iterate 3 (refine' chainQ_read (DrawS.good _ _ _ _ _ _) _ rfl rfl (fun m w' hm' hS' => ?_) ?_; rotate_left; · (simp only [lookP, allP, Act.put, List.getElem?_cons_zero, List.getElem?_cons_succ, List.setIfInBounds_toArray, List.set_cons_zero, List.set_cons_succ]; (try dsimp only [DrawS] at hS'); go_simp; (try with_reducible rfl)))
    -- 3: call { callee := value (func 147), args := #[t31, t32], argTypes := #[167, 39] }
    refine chainQ_do (d := (some 33)) (fun v u => ∃ (xq3 : Int), v = (.int .i64 xq3) ∧ (-10 ≤ xq3 ∧ xq3 ≤ 2000000010)) (fun v w1 w2 hw h => h) rfl rfl (fun m w' hm' hS' => ?_) ?_
    · simp only [lookP, allP, Act.put, List.getElem?_cons_zero, List.getElem?_cons_succ, List.setIfInBounds_toArray, List.set_cons_zero, List.set_cons_succ]
      intro K hK
      replace hm' : m < 7 := hm'
      go_simp
      go_at_call 147
      refine (spec_anyExpo U g _ P Q G _ hS'.2.1 (hS'.1.belowOf (HW.out.belowOf HUC.out (Nat.le_of_eq HUS.out)) (by have := HUS.out; omega)) (by omega) HGR.out).mono ?_
      rintro e u ⟨⟨xq3, rfl, xq3l, xq3u⟩, hc, hw⟩
      exact hK.out _ _ hw ⟨hS'.1.trans hw, hc.mono (by omega), ⟨within_at (hS'.1.trans hw) z_1_0 (.inr (by omega)), within_at (hS'.1.trans hw) z_1_1 (.inr (by omega)), within_at (hS'.1.trans hw) z_1_2 (.inr (by omega))⟩⟩ ⟨xq3, rfl, ⟨xq3l, xq3u⟩⟩
    iterate 2 (refine' chainQ_read (DrawS.good _ _ _ _ _ _) _ rfl rfl (fun m w' hm' hS' => ?_) ?_; rotate_left; · (simp only [lookP, allP, Act.put, List.getElem?_cons_zero, List.getElem?_cons_succ, List.setIfInBounds_toArray, List.set_cons_zero, List.set_cons_succ]; (try dsimp only [DrawS] at hS'); go_simp; (try with_reducible rfl)))
    -- 6: call { callee := value (func 147), args := #[t34, t35], argTypes := #[167, 39] }
    refine chainQ_do (d := (some 36)) (fun v u => ∃ (xq6 : Int), v = (.int .i64 xq6) ∧ (-10 ≤ xq6 ∧ xq6 ≤ 2000000010)) (fun v w1 w2 hw h => h) rfl rfl (fun m w' hm' hS' => ?_) ?_
    · simp only [lookP, allP, Act.put, List.getElem?_cons_zero, List.getElem?_cons_succ, List.setIfInBounds_toArray, List.set_cons_zero, List.set_cons_succ]
      intro K hK
      replace hm' : m < 7 := hm'
      go_simp
      go_at_call 147
      refine (spec_anyExpo U g _ P Q G _ hS'.2.1 (hS'.1.belowOf (HW.out.belowOf HUC.out (Nat.le_of_eq HUS.out)) (by have := HUS.out; omega)) (by omega) HGR.out).mono ?_
      rintro e u ⟨⟨xq6, rfl, xq6l, xq6u⟩, hc, hw⟩
      exact hK.out _ _ hw ⟨hS'.1.trans hw, hc.mono (by omega), ⟨within_at (hS'.1.trans hw) z_1_0 (.inr (by omega)), within_at (hS'.1.trans hw) z_1_1 (.inr (by omega)), within_at (hS'.1.trans hw) z_1_2 (.inr (by omega))⟩⟩ ⟨xq6, rfl, ⟨xq6l, xq6u⟩⟩
    refine chainQ_nil (fun u4 hS' => ?_)
    simp only [allP, Act.put, List.setIfInBounds_toArray, List.set_cons_zero, List.set_cons_succ]
    intro x6 hx6
    intro x3 hx3
    replace hS' : DrawS U u3 g _ 1000000000 _ 7 u4 := hS'
    obtain ⟨hw, hc, hC⟩ := hS'
    obtain ⟨xq3, rfl, xq3l, xq3u⟩ := hx3
    obtain ⟨xq6, rfl, xq6l, xq6u⟩ := hx6
    have hsz4 := hw.size
    replace HX0 := Lib.hid (HX0.out.kept hw (.inl (by omega)))
    replace HZ1 := Lib.hid (HZ1.out.kept hw (.inr (by omega)))
    replace HL3 := Lib.hid (HL3.out.within hw (by omega))
    replace HW := Lib.hid (HW.out.trans hw)
    replace HC := Lib.hid hc
    clear hc hw hC
    clear z_0_0 z_0_1 z_0_2 z_1_0 z_1_1 z_1_2
    have r_HX0_0 := HX0.out.cell (i := 0) rfl
    have r_HX0_1 := HX0.out.cell (i := 1) rfl
    have r_HX0_2 := HX0.out.cell (i := 2) rfl
    have fr_HX0 := fun j => HX0.out.frozen j
    go_wp2_with fail
    refine NoPanic.normal ?_
    have FHX0 := Lib.hid (((HX0.out.set 0 (.int .i64 P)).set 1 (.int .i64 Q)).set 2 (.int .i64 G))
    clear r_HX0_0 r_HX0_1 r_HX0_2 fr_HX0
    have t_HX0_0 := FHX0.out.cell (i := 0) rfl
    have t_HX0_1 := FHX0.out.cell (i := 1) rfl
    have t_HX0_2 := FHX0.out.cell (i := 2) rfl
    try (go_wp2_with fail)
    have HYS := Lib.hid ((((Within.refl w.heap.size (w.heap.size + 1) u4).setCell (b := w.heap.size) (by omega) (by omega) 0 (.int .i64 P)).setCell (b := w.heap.size) (by omega) (by omega) 1 (.int .i64 Q)).setCell (b := w.heap.size) (by omega) (by omega) 2 (.int .i64 G))
    refine bodyPost_ret (v := .tuple #[.agg #[.int .i64 P, .int .i64 Q, .int .i64 G], .int .i64 xq3, .int .i64 xq6, .slice a3 n3 c3]) (by simp [results, Try.results63, go_sem, t_HX0_0, t_HX0_1, t_HX0_2]) rfl ⟨⟨_, _, _, _, _, _, _, rfl, HGR.out, ⟨by omega, by omega⟩, ⟨by omega, by omega⟩, ⟨(HL3.out.within HYS.out (by omega)).here, by have := HE3.out; omega⟩⟩, ((((HW.out.belowOf HBW.out (by omega)).setCell (p := ⟨w.heap.size, 0, none⟩) (by show w.heap.size ≤ w.heap.size; omega) (.int .i64 P)).setCell (p := ⟨w.heap.size, 1, none⟩) (by show w.heap.size ≤ w.heap.size; omega) (.int .i64 Q)).setCell (p := ⟨w.heap.size, 2, none⟩) (by show w.heap.size ≤ w.heap.size; omega) (.int .i64 G))⟩
  · have hzd : decide ((0 : Int) < (n3 : Int)) = true := decide_eq_true (by omega)
    have z_0_0 := HX0.out.cell (i := 0) rfl
    have z_0_1 := HX0.out.cell (i := 1) rfl
    have z_0_2 := HX0.out.cell (i := 2) rfl
    have z_1_0 := HZ1.out.cell (i := 0) rfl
    have z_1_1 := HZ1.out.cell (i := 1) rfl
    have z_1_2 := HZ1.out.cell (i := 2) rfl
    try (go_wp2_with fail)
    clear z_0_0 z_0_1 z_0_2 z_1_0 z_1_1 z_1_2
    refine (spec_one U g _ 3 _ HC.out (HW.out.belowOf HUC.out (Nat.le_of_eq HUS.out)) (by omega) ).mono ?_
    rintro e u4 ⟨⟨b4, rfl⟩, hc, hw⟩
    have hsz4 := hw.size
    replace HX0 := Lib.hid (HX0.out.kept hw (.inl (by omega)))
    replace HZ1 := Lib.hid (HZ1.out.kept hw (.inr (by omega)))
    replace HL3 := Lib.hid (HL3.out.within hw (by omega))
    replace HW := Lib.hid (HW.out.trans hw)
    replace HC := Lib.hid hc
    clear hc hw
    cases b4 with
    | false =>
      have z_0_0 := HX0.out.cell (i := 0) rfl
      have z_0_1 := HX0.out.cell (i := 1) rfl
      have z_0_2 := HX0.out.cell (i := 2) rfl
      have z_1_0 := HZ1.out.cell (i := 0) rfl
      have z_1_1 := HZ1.out.cell (i := 1) rfl
      have z_1_2 := HZ1.out.cell (i := 2) rfl
      try (go_wp2_with fail)
      refine wp_region_noPanic ?_
      refine wp_region_Q1 (Within g (g + 1)) (DrawS U u4 g _ 1000000000 (fun w' => w'.cell? ⟨u1.heap.size, 0, none⟩ = some (.int .i64 P) ∧ w'.cell? ⟨u1.heap.size, 1, none⟩ = some (.int .i64 Q) ∧ w'.cell? ⟨u1.heap.size, 2, none⟩ = some (.int .i64 G))) 14 [7] [(0, []), (1, []), (2, []), (3, [1, 0]), (4, []), (5, []), (6, [1, 0])] [8, 9, 10, 11] (by kernel_rfl) (by kernel_rfl) (by kernel_rfl) (by kernel_rfl) (by kernel_rfl) rfl (fun _ _ _ _ h => h) (DrawS.good _ _ _ _ _ _) ⟨(Within.refl _ _ _).drew, by simpa using HC.out.keep (Below.refl _ _).drew, ⟨box_at z_1_0 (Below.refl _ _).drew, box_at z_1_1 (Below.refl _ _).drew, box_at z_1_2 (Below.refl _ _).drew⟩⟩ ?_
      simp only [pickP, pickN, List.getElem?_cons_zero, List.getElem?_cons_succ]
      refine' wpPre_read _ (fun w' => ?_) ?_; rotate_left
      · go_simp
        (try with_reducible rfl)
      refine wpPre_nil (fun _ => ?_)
      simp only [Act.put, List.setIfInBounds_toArray, List.set_cons_zero, List.set_cons_succ]
      iterate 3 (refine' chainQ_read (DrawS.good _ _ _ _ _ _) _ rfl rfl (fun m w' hm' hS' => ?_) ?_; rotate_left; · (simp only [lookP, allP, Act.put, List.getElem?_cons_zero, List.getElem?_cons_succ, List.setIfInBounds_toArray, List.set_cons_zero, List.set_cons_succ]; (try dsimp only [DrawS] at hS'); go_simp; (try with_reducible rfl)))
      -- 3: call { callee := value (func 147), args := #[t31, t32], argTypes := #[167, 39] }
      refine chainQ_do (d := (some 33)) (fun v u => ∃ (xq3 : Int), v = (.int .i64 xq3) ∧ (-10 ≤ xq3 ∧ xq3 ≤ 2000000010)) (fun v w1 w2 hw h => h) rfl rfl (fun m w' hm' hS' => ?_) ?_
      · simp only [lookP, allP, Act.put, List.getElem?_cons_zero, List.getElem?_cons_succ, List.setIfInBounds_toArray, List.set_cons_zero, List.set_cons_succ]
        intro K hK
        replace hm' : m < 7 := hm'
        go_simp
        go_at_call 147
        refine (spec_anyExpo U g _ P Q G _ hS'.2.1 (hS'.1.belowOf (HW.out.belowOf HUC.out (Nat.le_of_eq HUS.out)) (by have := HUS.out; omega)) (by omega) HGR.out).mono ?_
        rintro e u ⟨⟨xq3, rfl, xq3l, xq3u⟩, hc, hw⟩
        exact hK.out _ _ hw ⟨hS'.1.trans hw, hc.mono (by omega), ⟨within_at (hS'.1.trans hw) z_1_0 (.inr (by omega)), within_at (hS'.1.trans hw) z_1_1 (.inr (by omega)), within_at (hS'.1.trans hw) z_1_2 (.inr (by omega))⟩⟩ ⟨xq3, rfl, ⟨xq3l, xq3u⟩⟩
      iterate 2 (refine' chainQ_read (DrawS.good _ _ _ _ _ _) _ rfl rfl (fun m w' hm' hS' => ?_) ?_; rotate_left; · (simp only [lookP, allP, Act.put, List.getElem?_cons_zero, List.getElem?_cons_succ, List.setIfInBounds_toArray, List.set_cons_zero, List.set_cons_succ]; (try dsimp only [DrawS] at hS'); go_simp; (try with_reducible rfl)))
      -- 6: call { callee := value (func 147), args := #[t34, t35], argTypes := #[167, 39] }
      refine chainQ_do (d := (some 36)) (fun v u => ∃ (xq6 : Int), v = (.int .i64 xq6) ∧ (-10 ≤ xq6 ∧ xq6 ≤ 2000000010)) (fun v w1 w2 hw h => h) rfl rfl (fun m w' hm' hS' => ?_) ?_
      · simp only [lookP, allP, Act.put, List.getElem?_cons_zero, List.getElem?_cons_succ, List.setIfInBounds_toArray, List.set_cons_zero, List.set_cons_succ]
        intro K hK
        replace hm' : m < 7 := hm'
        go_simp
        go_at_call 147
        refine (spec_anyExpo U g _ P Q G _ hS'.2.1 (hS'.1.belowOf (HW.out.belowOf HUC.out (Nat.le_of_eq HUS.out)) (by have := HUS.out; omega)) (by omega) HGR.out).mono ?_
        rintro e u ⟨⟨xq6, rfl, xq6l, xq6u⟩, hc, hw⟩
        exact hK.out _ _ hw ⟨hS'.1.trans hw, hc.mono (by omega), ⟨within_at (hS'.1.trans hw) z_1_0 (.inr (by omega)), within_at (hS'.1.trans hw) z_1_1 (.inr (by omega)), within_at (hS'.1.trans hw) z_1_2 (.inr (by omega))⟩⟩ ⟨xq6, rfl, ⟨xq6l, xq6u⟩⟩
      refine chainQ_nil (fun u5 hS' => ?_)
      simp only [allP, Act.put, List.setIfInBounds_toArray, List.set_cons_zero, List.set_cons_succ]
      intro x6 hx6
      intro x3 hx3
      replace hS' : DrawS U u4 g _ 1000000000 _ 7 u5 := hS'
      obtain ⟨hw, hc, hC⟩ := hS'
      obtain ⟨xq3, rfl, xq3l, xq3u⟩ := hx3
      obtain ⟨xq6, rfl, xq6l, xq6u⟩ := hx6
      have hsz5 := hw.size
      replace HX0 := Lib.hid (HX0.out.kept hw (.inl (by omega)))
      replace HZ1 := Lib.hid (HZ1.out.kept hw (.inr (by omega)))
      replace HL3 := Lib.hid (HL3.out.within hw (by omega))
      replace HW := Lib.hid (HW.out.trans hw)
      replace HC := Lib.hid hc
      clear hc hw hC
      clear z_0_0 z_0_1 z_0_2 z_1_0 z_1_1 z_1_2
      have r_HX0_0 := HX0.out.cell (i := 0) rfl
      have r_HX0_1 := HX0.out.cell (i := 1) rfl
      have r_HX0_2 := HX0.out.cell (i := 2) rfl
      have fr_HX0 := fun j => HX0.out.frozen j
      go_wp2_with fail
      refine NoPanic.normal ?_
      have FHX0 := Lib.hid (((HX0.out.set 0 (.int .i64 P)).set 1 (.int .i64 Q)).set 2 (.int .i64 G))
      clear r_HX0_0 r_HX0_1 r_HX0_2 fr_HX0
      have t_HX0_0 := FHX0.out.cell (i := 0) rfl
      have t_HX0_1 := FHX0.out.cell (i := 1) rfl
      have t_HX0_2 := FHX0.out.cell (i := 2) rfl
      try (go_wp2_with fail)
      have HYS := Lib.hid ((((Within.refl w.heap.size (w.heap.size + 1) u5).setCell (b := w.heap.size) (by omega) (by omega) 0 (.int .i64 P)).setCell (b := w.heap.size) (by omega) (by omega) 1 (.int .i64 Q)).setCell (b := w.heap.size) (by omega) (by omega) 2 (.int .i64 G))
      refine bodyPost_ret (v := .tuple #[.agg #[.int .i64 P, .int .i64 Q, .int .i64 G], .int .i64 xq3, .int .i64 xq6, .slice a3 n3 c3]) (by simp [results, Try.results63, go_sem, t_HX0_0, t_HX0_1, t_HX0_2]) rfl ⟨⟨_, _, _, _, _, _, _, rfl, HGR.out, ⟨by omega, by omega⟩, ⟨by omega, by omega⟩, ⟨(HL3.out.within HYS.out (by omega)).here, by have := HE3.out; omega⟩⟩, ((((HW.out.belowOf HBW.out (by omega)).setCell (p := ⟨w.heap.size, 0, none⟩) (by show w.heap.size ≤ w.heap.size; omega) (.int .i64 P)).setCell (p := ⟨w.heap.size, 1, none⟩) (by show w.heap.size ≤ w.heap.size; omega) (.int .i64 Q)).setCell (p := ⟨w.heap.size, 2, none⟩) (by show w.heap.size ≤ w.heap.size; omega) (.int .i64 G))⟩
    | true =>
      have HK : Hid (0 < l3.length) := by have := HE3.out; unfold Hid; omega
      have HQ := Lib.hid HL3.out.rd
      obtain ⟨LX, hLX⟩ : ∃ x, x = l3[0]'HK.out := ⟨_, rfl⟩
      have HLX := Lib.hid hLX
      clear hLX
      have Evq := HE3
      have hb : Below u4.heap.size u4 u4 := Below.refl _ _
      obtain ⟨b_x, o_x, rfl, hcx⟩ := HQ.out.at_ (by have := HE3.out; omega)
      obtain ⟨us, hcell, hrd⟩ := hcx 0 HK.out
      rw [← HLX.out] at hrd
      clear hcx HLX
      obtain ⟨ers, jx_0, jx_1⟩ := rdCipher.1 ⟨us, rfl, hrd⟩
      obtain rfl : us = [.int .i64 LX.a, .int .i64 LX.b] := by have h := Value.agg.inj ers; simpa using congrArg Array.toList h
      clear ers hrd
      have y0 : u4.cell? ⟨b_x, o_x, none⟩ = some (.int .i64 LX.a) := by have h := hcell 0 (by decide); simpa using h
      have y1 : u4.cell? ⟨b_x, o_x + 1, none⟩ = some (.int .i64 LX.b) := by have h := hcell 1 (by decide); simpa using h
      have HJX : Hid (SmallCI LX) := ⟨jx_0, jx_1⟩
      clear hcell jx_0 jx_1 hb HQ Evq
      have b0 : (0 : Int) < (n3 : Int) := by omega
      have hgc : g < u4.heap.size := HC.out.lt
      go_wp2_with (at_builtin; refine wpList_append_C rfl _ _ rfl (HL3.out.below ((Below.refl _ _).alloc (Nat.le_refl _) _)) rfl rfl (RdC.lit _ (l := [LX]) (cs := #[.int .i64 LX.a, .int .i64 LX.b]) (AllCI.cons HJX.out AllCI.nil) rfl 1 rfl (by unfold maxLen; omega)) (by simp; omega) (by have := HE3.out; simp; omega) ?_; intro v5 w5 hown5 hgr5)
      have hb5 : Below V2.heap.size u4 w5 := ((Below.refl V2.heap.size u4).alloc (by omega) _).trans hgr5
      have hsz5 := hb5.size
      clear y0 y1 hgr5
      replace HX0 := Lib.hid (HX0.out.belowB hb5 (by omega))
      replace HZ1 := Lib.hid (HZ1.out.belowB hb5 (by omega))
      replace HC := Lib.hid (HC.out.belowB hb5 (by omega))
      replace HW := Lib.hid (HW.out.belowStep (hb5.mono (by omega)))
      have HE5 : Hid ((l3 ++ [LX]).length = n3 + 1) := by unfold Hid; rw [List.length_append, HE3.out]; rfl
      obtain ⟨l5, hl5⟩ : ∃ l, l3 ++ [LX] = l := ⟨_, rfl⟩
      rw [hl5] at hown5 HE5
      clear hl5 hb5 HL3 HE3
      have HL5 := Lib.hid hown5
      obtain ⟨a5, c5, rfl⟩ := hown5.shape2
      clear hown5
      rw [HE5.out] at HL5 ⊢
      have z_0_0 := HX0.out.cell (i := 0) rfl
      have z_0_1 := HX0.out.cell (i := 1) rfl
      have z_0_2 := HX0.out.cell (i := 2) rfl
      have z_1_0 := HZ1.out.cell (i := 0) rfl
      have z_1_1 := HZ1.out.cell (i := 1) rfl
      have z_1_2 := HZ1.out.cell (i := 2) rfl
      try (go_wp2_with fail)
      refine wp_region_noPanic ?_
      refine wp_region_Q1 (Within g (g + 1)) (DrawS U w5 g _ 1000000000 (fun w' => w'.cell? ⟨u1.heap.size, 0, none⟩ = some (.int .i64 P) ∧ w'.cell? ⟨u1.heap.size, 1, none⟩ = some (.int .i64 Q) ∧ w'.cell? ⟨u1.heap.size, 2, none⟩ = some (.int .i64 G))) 14 [7] [(0, []), (1, []), (2, []), (3, [1, 0]), (4, []), (5, []), (6, [1, 0])] [8, 9, 10, 11] (by kernel_rfl) (by kernel_rfl) (by kernel_rfl) (by kernel_rfl) (by kernel_rfl) rfl (fun _ _ _ _ h => h) (DrawS.good _ _ _ _ _ _) ⟨(Within.refl _ _ _).drew, by simpa using HC.out.keep (Below.refl _ _).drew, ⟨box_at z_1_0 (Below.refl _ _).drew, box_at z_1_1 (Below.refl _ _).drew, box_at z_1_2 (Below.refl _ _).drew⟩⟩ ?_
      simp only [pickP, pickN, List.getElem?_cons_zero, List.getElem?_cons_succ]
      refine' wpPre_read _ (fun w' => ?_) ?_; rotate_left
      · go_simp
        (try with_reducible rfl)
      refine wpPre_nil (fun _ => ?_)
      simp only [Act.put, List.setIfInBounds_toArray, List.set_cons_zero, List.set_cons_succ]
      iterate 3 (refine' chainQ_read (DrawS.good _ _ _ _ _ _) _ rfl rfl (fun m w' hm' hS' => ?_) ?_; rotate_left; · (simp only [lookP, allP, Act.put, List.getElem?_cons_zero, List.getElem?_cons_succ, List.setIfInBounds_toArray, List.set_cons_zero, List.set_cons_succ]; (try dsimp only [DrawS] at hS'); go_simp; (try with_reducible rfl)))
      -- 3: call { callee := value (func 147), args := #[t31, t32], argTypes := #[167, 39] }
      refine chainQ_do (d := (some 33)) (fun v u => ∃ (xq3 : Int), v = (.int .i64 xq3) ∧ (-10 ≤ xq3 ∧ xq3 ≤ 2000000010)) (fun v w1 w2 hw h => h) rfl rfl (fun m w' hm' hS' => ?_) ?_
      · simp only [lookP, allP, Act.put, List.getElem?_cons_zero, List.getElem?_cons_succ, List.setIfInBounds_toArray, List.set_cons_zero, List.set_cons_succ]
        intro K hK
        replace hm' : m < 7 := hm'
        go_simp
        go_at_call 147
        refine (spec_anyExpo U g _ P Q G _ hS'.2.1 (hS'.1.belowOf (HW.out.belowOf HUC.out (Nat.le_of_eq HUS.out)) (by have := HUS.out; omega)) (by omega) HGR.out).mono ?_
        rintro e u ⟨⟨xq3, rfl, xq3l, xq3u⟩, hc, hw⟩
        exact hK.out _ _ hw ⟨hS'.1.trans hw, hc.mono (by omega), ⟨within_at (hS'.1.trans hw) z_1_0 (.inr (by omega)), within_at (hS'.1.trans hw) z_1_1 (.inr (by omega)), within_at (hS'.1.trans hw) z_1_2 (.inr (by omega))⟩⟩ ⟨xq3, rfl, ⟨xq3l, xq3u⟩⟩
      iterate 2 (refine' chainQ_read (DrawS.good _ _ _ _ _ _) _ rfl rfl (fun m w' hm' hS' => ?_) ?_; rotate_left; · (simp only [lookP, allP, Act.put, List.getElem?_cons_zero, List.getElem?_cons_succ, List.setIfInBounds_toArray, List.set_cons_zero, List.set_cons_succ]; (try dsimp only [DrawS] at hS'); go_simp; (try with_reducible rfl)))
      -- 6: call { callee := value (func 147), args := #[t34, t35], argTypes := #[167, 39] }
      refine chainQ_do (d := (some 36)) (fun v u => ∃ (xq6 : Int), v = (.int .i64 xq6) ∧ (-10 ≤ xq6 ∧ xq6 ≤ 2000000010)) (fun v w1 w2 hw h => h) rfl rfl (fun m w' hm' hS' => ?_) ?_
      · simp only [lookP, allP, Act.put, List.getElem?_cons_zero, List.getElem?_cons_succ, List.setIfInBounds_toArray, List.set_cons_zero, List.set_cons_succ]
        intro K hK
        replace hm' : m < 7 := hm'
        go_simp
        go_at_call 147
        refine (spec_anyExpo U g _ P Q G _ hS'.2.1 (hS'.1.belowOf (HW.out.belowOf HUC.out (Nat.le_of_eq HUS.out)) (by have := HUS.out; omega)) (by omega) HGR.out).mono ?_
        rintro e u ⟨⟨xq6, rfl, xq6l, xq6u⟩, hc, hw⟩
        exact hK.out _ _ hw ⟨hS'.1.trans hw, hc.mono (by omega), ⟨within_at (hS'.1.trans hw) z_1_0 (.inr (by omega)), within_at (hS'.1.trans hw) z_1_1 (.inr (by omega)), within_at (hS'.1.trans hw) z_1_2 (.inr (by omega))⟩⟩ ⟨xq6, rfl, ⟨xq6l, xq6u⟩⟩
      refine chainQ_nil (fun u5 hS' => ?_)
      simp only [allP, Act.put, List.setIfInBounds_toArray, List.set_cons_zero, List.set_cons_succ]
      intro x6 hx6
      intro x3 hx3
      replace hS' : DrawS U w5 g _ 1000000000 _ 7 u5 := hS'
      obtain ⟨hw, hc, hC⟩ := hS'
      obtain ⟨xq3, rfl, xq3l, xq3u⟩ := hx3
      obtain ⟨xq6, rfl, xq6l, xq6u⟩ := hx6
      have hsz5 := hw.size
      replace HX0 := Lib.hid (HX0.out.kept hw (.inl (by omega)))
      replace HZ1 := Lib.hid (HZ1.out.kept hw (.inr (by omega)))
      replace HL5 := Lib.hid (HL5.out.within hw (by omega))
      replace HW := Lib.hid (HW.out.trans hw)
      replace HC := Lib.hid hc
      clear hc hw hC
      clear z_0_0 z_0_1 z_0_2 z_1_0 z_1_1 z_1_2
      have r_HX0_0 := HX0.out.cell (i := 0) rfl
      have r_HX0_1 := HX0.out.cell (i := 1) rfl
      have r_HX0_2 := HX0.out.cell (i := 2) rfl
      have fr_HX0 := fun j => HX0.out.frozen j
      go_wp2_with fail
      refine NoPanic.normal ?_
      have FHX0 := Lib.hid (((HX0.out.set 0 (.int .i64 P)).set 1 (.int .i64 Q)).set 2 (.int .i64 G))
      clear r_HX0_0 r_HX0_1 r_HX0_2 fr_HX0
      have t_HX0_0 := FHX0.out.cell (i := 0) rfl
      have t_HX0_1 := FHX0.out.cell (i := 1) rfl
      have t_HX0_2 := FHX0.out.cell (i := 2) rfl
      try (go_wp2_with fail)
      have HYS := Lib.hid ((((Within.refl w.heap.size (w.heap.size + 1) u5).setCell (b := w.heap.size) (by omega) (by omega) 0 (.int .i64 P)).setCell (b := w.heap.size) (by omega) (by omega) 1 (.int .i64 Q)).setCell (b := w.heap.size) (by omega) (by omega) 2 (.int .i64 G))
      refine bodyPost_ret (v := .tuple #[.agg #[.int .i64 P, .int .i64 Q, .int .i64 G], .int .i64 xq3, .int .i64 xq6, .slice a5 (n3 + 1) c5]) (by simp [results, Try.results63, go_sem, t_HX0_0, t_HX0_1, t_HX0_2]) rfl ⟨⟨_, _, _, _, _, _, _, rfl, HGR.out, ⟨by omega, by omega⟩, ⟨by omega, by omega⟩, ⟨(HL5.out.within HYS.out (by omega)).here, by have := HE5.out; omega⟩⟩, ((((HW.out.belowOf HBW.out (by omega)).setCell (p := ⟨w.heap.size, 0, none⟩) (by show w.heap.size ≤ w.heap.size; omega) (.int .i64 P)).setCell (p := ⟨w.heap.size, 1, none⟩) (by show w.heap.size ≤ w.heap.size; omega) (.int .i64 Q)).setCell (p := ⟨w.heap.size, 2, none⟩) (by show w.heap.size ≤ w.heap.size; omega) (.int .i64 G))⟩
end Go.Proofs.Ytboahnklilmdpaa
