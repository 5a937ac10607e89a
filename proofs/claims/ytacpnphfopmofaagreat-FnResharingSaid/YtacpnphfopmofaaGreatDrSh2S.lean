/- Draws: sharing groups, dealings (printed by gen_drsh.py). -/
import Derived.Test.YtacpnphfopmofaaGreatSh2S
import Derived.Test.YtacpnphfopmofaaGreatRegVS
import Derived.Deep.Cut
namespace Go.Proofs.YtacpnphfopmofaaGreat
open Go.RowKit
set_option linter.unusedSimpArgs false
set_option linter.unusedVariables false

theorem mkOk_shared : ∀ x ∈ ([11, 11, 13, 23, 23, 101, 1019] : List Int), MkOk x := by
  intro x hx
  simp only [List.mem_cons, List.not_mem_nil, or_false] at hx
  rcases hx with rfl | rfl | rfl | rfl | rfl | rfl | rfl
  · exact mkOk_tiny 11 (by simp)
  · exact mkOk_tiny 11 (by simp)
  · exact mkOk_tiny 13 (by simp)
  · exact mkOk_tiny 23 (by simp)
  · exact mkOk_tiny 23 (by simp)
  · exact mkOk_more 101 (by simp)
  · exact mkOk_more 1019 (by simp)
set_option maxRecDepth 100000 in
set_option maxHeartbeats 4000000 in
theorem spec_shared (w0 : World) (g : Nat) (n : Int) (w : World) (h : Cur w0 w g n) (hb : Below w0.heap.size w0 w) (hn : n ≤ 900000000000000) :
    Calls Tryz.prog 21 #[.pointer (some ⟨g, 0, none⟩)] w fun e w' => (∃ P Q G : Int, e = .returned (.agg #[.int .i64 P, .int .i64 Q, .int .i64 G]) ∧ (-7 ≤ P ∧ P ≤ 2000000010) ∧ (-7 ≤ Q ∧ Q ≤ 2000000010) ∧ (-7 ≤ G ∧ G ≤ 2000000010)) ∧ Cur w0 w' g (n + 100) ∧ Within g (g + 1) w w' := by
  have HC := Lib.hid h
  have hg := h.lt
  have hg0 := h.ge
  have HB0 := Lib.hid hb
  clear h hb
  obtain ⟨W, hW⟩ : ∃ W, W = w.alloc (.cells #[.int .i64 0, .int .i64 0, .int .i64 0] 24) := ⟨_, rfl⟩
  have hbW : Below w.heap.size w W := by rw [hW]; exact (Below.refl _ _).alloc (Nat.le_refl _) _
  have HX : Hid (BoxN W w.heap.size 24 [.int .i64 0, .int .i64 0, .int .i64 0]) := by unfold Hid; rw [hW]; exact BoxN.new w _ _
  have HSW : Hid (W.heap.size = w.heap.size + 1) := by unfold Hid; rw [hW]; simp
  have hsW : w.heap.size < W.heap.size := by have := HSW.out; omega
  replace HC := Lib.hid (HC.out.keep hbW)
  have HBW := Lib.hid hbW
  have HWW : Hid (Within g (g + 1) w W) := Within.of_below hbW
  have HB1 := Lib.hid (Below.next HB0.out hbW)
  clear hbW
  go_enter Tryz.func21, Tryz.ntmps21
  go_wp2_with fail
  rw [← hW]
  clear hW
  refine (spec_one w0 g _ 16 _ HC.out HB1.out (by omega)).mono ?_
  rintro e wP ⟨⟨q, rfl⟩, hc, hw⟩
  replace HX := Lib.hid (HX.out.kept hw (.inr (by omega)))
  replace HWW := Lib.hid (HWW.out.trans hw)
  replace HB1 := Lib.hid (hw.belowOf HB1.out (by omega))
  replace HC := Lib.hid hc
  have hsp := hw.size
  clear hc hw
  cases q with
  | false =>
    go_wp2_with fail
    refine (spec_among w0 g _ _ [11, 11, 13, 23, 23, 101, 1019] _ (HC.out.keep ((Below.refl _ _).alloc (Nat.le_refl _) _)) (HB1.out.alloc HB1.out.size _) (by omega) (Apart.of_ownI (OwnI.lit wP (Nat.le_refl _) (lit_I64 rfl) (by rfl) (by decide) 7 rfl) (by omega)) (by decide)).mono ?_
    rintro e w1 ⟨⟨x, rfl, hx⟩, hc, hw⟩
    obtain ⟨p0, j, hx1, hx2, hx3, hx4, hx5⟩ := mkOk_shared x hx
    have hw1 : Within g (g + 1) wP w1 := (Within.of_below ((Below.refl _ _).alloc (Nat.le_refl _) _)).trans hw
    have HX1 := Lib.hid (HX.out.kept hw1 (.inr (by omega)))
    have HW1 := Lib.hid (HWW.out.trans hw1)
    have HC1 := Lib.hid hc
    have hs1 := hw1.size
    clear hc hw hw1 hx
    go_wp2_with fail
    refine (spec_MakeGroup x p0 j _ hx1 hx2 hx3 hx4 hx5).mono ?_
    rintro e w2 ⟨⟨P, G, rfl, P1, P2, G1, G2⟩, hb2⟩
    have HX2 := Lib.hid (HX1.out.below hb2)
    have HW2 := Lib.hid (HW1.out.trans (Within.of_below hb2))
    have HC2 := Lib.hid (HC1.out.keep hb2)
    have hs2 := hb2.size
    obtain ⟨x1, x2⟩ := hx1
    clear hb2 hx2 hx3 hx4 hx5
    have r0 := fun o => (HX2.out.alloc o).cell (i := 0) rfl
    have r1 := fun o => (HX2.out.alloc o).cell (i := 1) rfl
    have r2 := fun o => (HX2.out.alloc o).cell (i := 2) rfl
    have fr := fun o j => (HX2.out.alloc o).frozen j
    go_wp2_with fail
    obtain ⟨Y, hY⟩ : ∃ Y, Y = ((((w2.alloc (.cells #[.int .i64 P, .int .i64 x, .int .i64 G] 24)).setCell ⟨w.heap.size, 0, none⟩ (.int .i64 P)).setCell ⟨w.heap.size, 1, none⟩ (.int .i64 x)).setCell ⟨w.heap.size, 2, none⟩ (.int .i64 G)) := ⟨_, rfl⟩
    have HXY : Hid (BoxN Y w.heap.size 24 [.int .i64 P, .int .i64 x, .int .i64 G]) := by unfold Hid; rw [hY]; exact (((HX2.out.alloc _).set 0 _).set 1 _).set 2 _
    have HBY : Hid (Below w.heap.size ((w2.alloc (.cells #[.int .i64 P, .int .i64 x, .int .i64 G] 24))) Y) := by unfold Hid; rw [hY]; exact (((Below.refl w.heap.size _).setCell (Nat.le_refl _) _).setCell (Nat.le_refl _) _).setCell (Nat.le_refl _) _
    rw [← hY]
    clear hY r0 r1 r2 fr
    have r0 := HXY.out.cell (i := 0) rfl
    have r1 := HXY.out.cell (i := 1) rfl
    have r2 := HXY.out.cell (i := 2) rfl
    refine bodyPost_ret (v := .agg #[.int .i64 P, .int .i64 x, .int .i64 G]) (by simp [results, Tryz.results21, go_sem, r0, r1, r2]) rfl ⟨⟨_, _, _, rfl, ⟨by omega, by omega⟩, ⟨by omega, by omega⟩, ⟨by omega, by omega⟩⟩, ((HC2.out.keep ((Below.refl _ _).alloc (Nat.le_refl _) _)).belowB HBY.out hg).mono (by omega), (HW2.out.allocR _).belowStep HBY.out⟩
  | true =>
    go_wp2_with fail
    refine (spec_anyGroup w0 g _ _ HC.out HB1.out (by omega)).mono ?_
    rintro e w1 ⟨⟨P, Q, G, rfl, ⟨P1, P2⟩, ⟨Q1, Q2⟩, ⟨G1, G2⟩⟩, hc, hw⟩
    replace HX := Lib.hid (HX.out.kept hw (.inr (by omega)))
    replace HWW := Lib.hid (HWW.out.trans hw)
    replace HC := Lib.hid hc
    have hs1 := hw.size
    clear hc hw
    have r0 := HX.out.cell (i := 0) rfl
    have r1 := HX.out.cell (i := 1) rfl
    have r2 := HX.out.cell (i := 2) rfl
    have fr := fun j => HX.out.frozen j
    go_wp2_with fail
    obtain ⟨Y, hY⟩ : ∃ Y, Y = (((w1.setCell ⟨w.heap.size, 0, none⟩ (.int .i64 P)).setCell ⟨w.heap.size, 1, none⟩ (.int .i64 Q)).setCell ⟨w.heap.size, 2, none⟩ (.int .i64 G)) := ⟨_, rfl⟩
    have HXY : Hid (BoxN Y w.heap.size 24 [.int .i64 P, .int .i64 Q, .int .i64 G]) := by unfold Hid; rw [hY]; exact (((HX.out).set 0 _).set 1 _).set 2 _
    have HBY : Hid (Below w.heap.size (w1) Y) := by unfold Hid; rw [hY]; exact (((Below.refl w.heap.size _).setCell (Nat.le_refl _) _).setCell (Nat.le_refl _) _).setCell (Nat.le_refl _) _
    rw [← hY]
    clear hY r0 r1 r2 fr
    have r0 := HXY.out.cell (i := 0) rfl
    have r1 := HXY.out.cell (i := 1) rfl
    have r2 := HXY.out.cell (i := 2) rfl
    refine bodyPost_ret (v := .agg #[.int .i64 P, .int .i64 Q, .int .i64 G]) (by simp [results, Tryz.results21, go_sem, r0, r1, r2]) rfl ⟨⟨_, _, _, rfl, ⟨by omega, by omega⟩, ⟨by omega, by omega⟩, ⟨by omega, by omega⟩⟩, ((HC.out).belowB HBY.out hg).mono (by omega), (HWW.out).belowStep HBY.out⟩
/-- the value of a polynomial -/
def hornE (q t : Int) (l : List Int) : Int := l.foldr (fun a y => (y * t + a) % q) 0
theorem hornE_drop {q t : Int} {l : List Int} {k : Nat} (h : k < l.length) : hornE q t (l.drop k) = (hornE q t (l.drop (k + 1)) * t + nth l k) % q := by
  have e : nth l k = l[k] := by simp [nth, List.getD, h]
  rw [← List.getElem_cons_drop h, e]; rfl
theorem hornE_bd {q : Int} (hq : 0 < q) (t : Int) (l : List Int) : 0 ≤ hornE q t l ∧ hornE q t l < q := by
  cases l with
  | nil => exact ⟨Int.le_refl _, hq⟩
  | cons a l => exact ⟨Int.emod_nonneg _ (by omega), Int.emod_lt_of_pos _ hq⟩
set_option maxHeartbeats 2000000 in
theorem spec_yEval (q : Int) (v : Value) (L : List Int) (x : Int) (w : World) (hq : 2 ≤ q ∧ q ≤ 2000000000) (h : Ints w v L) (hL : ∀ y ∈ L, 0 ≤ y ∧ y ≤ 2000000010) (hx : 0 ≤ x ∧ x ≤ 1000) :
    Calls Tryz.prog 89 #[.int .i64 q, v, .int .i64 x] w fun e w' => e = .returned (.int .i64 (hornE q x L)) ∧ Below w.heap.size w w' := by
  obtain ⟨hq1, hq2⟩ := hq
  obtain ⟨hx0, hx1⟩ := hx
  obtain ⟨a, n, c, rfl⟩ := h.shape
  have e := h.len
  obtain ⟨k1, k2⟩ := h.capMax
  unfold maxLen at k2
  have HE := Lib.hid e
  have HL := Lib.hid hL; clear hL
  have H := Lib.hid h; clear h
  have e1 : IntKind.i64.wrap ((n : Int) - 1) = (n : Int) - 1 := IntWalk.i64_in _ (by omega)
  have HN : Hid (hornE q x (L.drop n) = 0) := by unfold Hid; rw [← e, List.drop_length]; rfl
  clear e
  go_enter Tryz.func89, Tryz.ntmps89
  go_wp2_with fail
  go_loopg [7, 8] n (fun gg ov iv wr => ∃ (j : Nat) (o : Int), j = gg ∧ j ≤ n ∧ iv = .int .i64 ((j : Int) - 1) ∧ ov = .int .i64 o ∧ Hid (hornE q x (L.drop j) = o) ∧ 0 ≤ o ∧ o < q ∧ Below w.heap.size w wr)
  case atStart => exact ⟨n, 0, rfl, Nat.le_refl _, rfl, rfl, HN.out, by omega, by omega, Below.refl _ _⟩
  case round =>
    obtain ⟨j, o, hjg, hjn, rfl, rfl, HO, ho0, ho1, hb⟩ := hrel
    cases j with
    | zero =>
      have HR : Hid (hornE q x L = o) := HO.out
      have HB := Lib.hid hb; clear hb
      go_wp2_with fail
      go_ret
      exact ⟨ret_int HR.out.symm, HB.out⟩
    | succ j =>
      have ej : ((j + 1 : Nat) : Int) - 1 = (j : Int) := by omega
      rw [ej]
      clear ej
      have HK : Hid (j < L.length) := by unfold Hid; rw [HE.out]; omega
      obtain ⟨bk, oo, rfl, hcx⟩ := (H.out.below hb).at_ (by omega)
      have hy := hcx j (by omega)
      have hyb : 0 ≤ nth L j ∧ nth L j ≤ 2000000010 := by
        have e : nth L j = L[j]'HK.out := by simp [nth, List.getD, HK.out]
        rw [e]; exact HL.out _ (List.getElem_mem _)
      have HS : Hid (hornE q x (L.drop j) = (o * x + nth L j) % q) := by unfold Hid; rw [hornE_drop HK.out, HO.out]
      clear hcx
      obtain ⟨y, hyy⟩ : ∃ y, nth L j = y := ⟨_, rfl⟩
      rw [hyy] at hy hyb HS
      clear hyy
      obtain ⟨y0, y1⟩ := hyb
      obtain ⟨m0, m1⟩ := mulE_bd ho0 ho1 hq2 hx0 hx1
      have s0 : 0 ≤ (o * x + y) % q := Int.emod_nonneg _ (by omega)
      have s1 : (o * x + y) % q < q := Int.emod_lt_of_pos _ (by omega)
      have et2 : Int.tmod (o * x + y) q = (o * x + y) % q := Int.tmod_eq_emod_of_nonneg (by omega)
      have ew1 : IntKind.i64.wrap (o * x) = o * x := IntWalk.i64_in _ (by omega)
      have ew3 : IntKind.i64.wrap (o * x + y) = o * x + y := IntWalk.i64_in _ (by omega)
      have ew4 : IntKind.i64.wrap ((o * x + y) % q) = (o * x + y) % q := IntWalk.i64_in _ (by omega)
      have ew5 : IntKind.i64.wrap ((j : Int) - 1) = (j : Int) - 1 := IntWalk.i64_in _ (by omega)
      have hpz : ¬ q = 0 := by omega
      have hpz2 : (q == 0) = false := by rw [beq_eq_false_iff_ne]; omega
      have hj0 : (0 : Int) ≤ (j : Int) := by omega
      have hj1 : (j : Int) < (n : Int) := by omega
      have HB := Lib.hid hb; clear hb
      go_wp2_with fail
      go_roundg j
      case measure => omega
      case rel => exact ⟨j, _, rfl, by omega, by go_num, rfl, HS.out, s0, s1, HB.out⟩
theorem OwnI.belowT {w w' : World} {B T : Nat} {v : Value} {l : List Int} (h : OwnI w B v l) (hlt : ∀ k, v.ownBlock = some k → k < T) (hb : Below T w w') : OwnI w' B v l := ⟨h.1, ownsRow_frame h.2 fun k hk => hb.block k (hlt k hk)⟩
def dcL (gr : GroupD) (cs : List Int) : Nat → List Int
  | 0 => []
  | k + 1 => dcL gr cs k ++ [powE gr gr.g (nth cs k)]
def dsL (gr : GroupD) (cs : List Int) : Nat → List Int
  | 0 => []
  | k + 1 => dsL gr cs k ++ [hornE gr.q ((k : Int) + 1) cs]
theorem dcL_len (gr : GroupD) (cs : List Int) (k : Nat) : (dcL gr cs k).length = k := by
  induction k with
  | zero => rfl
  | succ k ih => unfold dcL; rw [List.length_append, ih]; rfl
theorem dsL_len (gr : GroupD) (cs : List Int) (k : Nat) : (dsL gr cs k).length = k := by
  induction k with
  | zero => rfl
  | succ k ih => unfold dsL; rw [List.length_append, ih]; rfl
set_option maxRecDepth 100000 in
set_option maxHeartbeats 8000000 in
theorem spec_sDeal (gr : GroupD) (cv : Value) (cs : List Int) (n : Nat) (w : World) (hg : OkG gr) (hcs : Ints w cv cs) (hel : ∀ y ∈ cs, 0 ≤ y ∧ y ≤ 2000000010) (hn : n ≤ 1000) (hl : cs.length ≤ 1000) :
    Calls Tryz.prog 47 #[.agg #[.int .i64 gr.p, .int .i64 gr.q, .int .i64 gr.g], cv, .int .i64 (n : Int)] w fun e w' => (∃ x y, e = .returned (.agg #[x, y]) ∧ OwnI w' w.heap.size x (dcL gr cs cs.length) ∧ OwnI w' w.heap.size y (dsL gr cs n) ∧ ∀ k, x.ownBlock = some k → y.ownBlock ≠ some k) ∧ Below w.heap.size w w' := by
  have HG := Lib.hid hg
  have HEL := Lib.hid hel
  have HGS : Hid (Small gr.g) := by have h1 := hg.g1; have h2 := hg.g2; have h3 := hg.p2; exact ⟨by omega, by omega⟩
  have HQ : Hid (2 ≤ gr.q ∧ gr.q ≤ 2000000000) := ⟨hg.q1, by have := hg.q2; have := hg.p2; omega⟩
  clear hg hel
  obtain ⟨cva, cvn, cvc, rfl⟩ := hcs.shape
  have Ecv := Lib.hid hcs.len
  obtain ⟨k1', k2'⟩ := hcs.capMax
  unfold maxLen at k2'
  have Hcv := Lib.hid hcs
  have hcn : cvn ≤ 1000 := by have := Ecv.out; omega
  clear hcs hl
  obtain ⟨W, hW⟩ : ∃ W, W = (w.alloc (.cells #[.int .i64 gr.p, .int .i64 gr.q, .int .i64 gr.g] 24)).alloc (.cells #[.slice none 0 0, .slice none 0 0] 61) := ⟨_, rfl⟩
  have HB : Hid (Below w.heap.size w W) := by unfold Hid; rw [hW]; (repeat (first | exact Below.refl _ _ | assumption | refine Below.drew ?_ | refine Below.alloc ?_ (by first | (simp; done) | (simp; omega)) _ | refine Below.setCell ?_ (by first | (simp; done) | (simp; omega)) _))
  have HGX : Hid (BoxN W w.heap.size 24 [.int .i64 gr.p, .int .i64 gr.q, .int .i64 gr.g]) := by unfold Hid; rw [hW]; have h := (BoxN.new w [.int .i64 gr.p, .int .i64 gr.q, .int .i64 gr.g] 24).alloc (.cells #[.slice none 0 0, .slice none 0 0] 61); simpa using h
  have HRX : Hid (BoxN W (w.heap.size + 1) 61 [.slice none 0 0, .slice none 0 0]) := by unfold Hid; rw [hW]; have h := BoxN.new (w.alloc (.cells #[.int .i64 gr.p, .int .i64 gr.q, .int .i64 gr.g] 24)) [.slice none 0 0, .slice none 0 0] 61; simpa using h
  have hwW : w.heap.size + 1 < W.heap.size := HRX.out.lt
  obtain ⟨V, hV⟩ : ∃ V, V = W.alloc (.cells #[.slice none 0 0, .slice none 0 0] 61) := ⟨_, rfl⟩
  have hbV : Below W.heap.size W V := by rw [hV]; exact (Below.refl _ _).alloc (Nat.le_refl _) _
  have HZ : Hid (BoxN V W.heap.size 61 [.slice none 0 0, .slice none 0 0]) := by unfold Hid; rw [hV]; exact BoxN.new W _ _
  obtain ⟨bz, hbz⟩ : ∃ z, z = W.heap.size := ⟨_, rfl⟩
  have HBZ := Lib.hid hbz
  have hbz1 : W.heap.size ≤ bz := by omega
  have hbz2 : w.heap.size + 1 < bz := by omega
  rw [← hbz] at HZ
  have hVs : bz < V.heap.size := HZ.out.lt
  have HSW : Hid (w.heap.size + 1 + 1 = bz) := by unfold Hid; rw [hbz, hW]; simp
  go_enter Tryz.func47, Tryz.ntmps47
  go_wp2_with fail
  rw [← hW, ← hV]
  (try rw [HSW.out])
  (try rw [← hbz])
  clear hW hV hbz
  (try (go_wp2_with fail))
  go_loopg [13] cvn (fun gk iv wr => ∃ (v : Value) (k : Nat), k + gk = cvn ∧ iv = .int .i64 (k : Int) ∧ Hid (BoxN wr bz 61 [v, .slice none 0 0]) ∧ Hid (OwnI wr (bz + 1) v (dcL gr cs k)) ∧ Hid (Below W.heap.size W wr))
  case atStart => exact ⟨_, 0, by omega, rfl, HZ, OwnI.nil _ _, hbV⟩
  case round =>
    clear HZ hVs
    obtain ⟨v, k, hkg, rfl, HZ, HO, HWr⟩ := hrel
    have HKG := Lib.hid hkg
    have hgl : k < cvn → cvn - (k + 1) < gk := by omega
    have hbr : bz < wr.heap.size := HZ.out.lt
    have HBs : Hid (bz + 1 ≤ wr.heap.size) := by unfold Hid; omega
    obtain ⟨ao, co, rfl⟩ := HO.out.shape
    have HLB : Hid ((dcL gr cs k).length = k) := dcL_len ..
    rw [HLB.out] at HO HZ
    obtain ⟨LB, hLB⟩ : ∃ l, dcL gr cs k = l := ⟨_, rfl⟩
    rw [hLB] at HO HLB
    have HLe := Lib.hid hLB
    clear hkg hLB
    by_cases hlt : k < cvn
    · have hwk : IntKind.i64.wrap ((k : Int) + 1) = (k : Int) + 1 := IntWalk.i64_in _ (by omega)
      obtain ⟨b, o, e, hcx⟩ := Hcv.out.at_ (by have := Ecv.out; omega)
      cases e
      have yk := box_at (box_at (hcx k hlt) HB.out) HWr.out
      have HXI : Hid (I64 (nth cs k)) := nth_64 Hcv.out k
      clear hcx
      obtain ⟨x, hx⟩ : ∃ z, nth cs k = z := ⟨_, rfl⟩
      rw [hx] at yk HXI
      obtain ⟨Y, hY⟩ : ∃ z, powE gr gr.g x = z := ⟨_, rfl⟩
      have HY := Lib.hid hY
      have HYI : Hid (I64 Y) := by unfold Hid; rw [← hY]; exact small_64 (powE_small HG.out _ _)
      have HN1 : Hid (dcL gr cs (k + 1) = LB ++ [Y]) := by unfold Hid dcL; rw [HLe.out, hx, hY]
      clear hx hY
      have kk0 : (0 : Int) ≤ (k : Int) := by omega
      have kk1 : (k : Int) < (cvn : Int) := by omega
      have c0_0 := (HGX.out.below HWr.out).cell (i := 0) rfl
      have c0_1 := (HGX.out.below HWr.out).cell (i := 1) rfl
      have c0_2 := (HGX.out.below HWr.out).cell (i := 2) rfl
      have z0 := HZ.out.cell (i := 0) rfl
      have z1 := HZ.out.cell (i := 1) rfl
      have hc : Below wr.heap.size wr wr := Below.refl _ _
      go_wp2_with fail
      clear yk
      try (go_wp2_with fail)
      refine wp_region_noPanic ?_
      refine wp_region_P (fun w' => w'.cell? ⟨w.heap.size, 0, none⟩ = some (.int .i64 gr.p) ∧ w'.cell? ⟨w.heap.size, 1, none⟩ = some (.int .i64 gr.q) ∧ w'.cell? ⟨w.heap.size, 2, none⟩ = some (.int .i64 gr.g) ∧ w'.cell? ⟨bz, 0, none⟩ = some (.slice ao k co) ∧ w'.cell? ⟨bz, 1, none⟩ = some (.slice none 0 0)) 13 [(0, []), (1, [0]), (2, []), (3, []), (4, [0]), (5, []), (6, [3, 1, 0]), (7, [0])] [8, 9, 10] (by kernel_rfl) (by kernel_rfl) (by kernel_rfl) rfl (fun _ _ _ _ h => h) (fun w' h => ⟨box_at c0_0 h, box_at c0_1 h, box_at c0_2 h, box_at z0 h, box_at z1 h⟩) ?_
      simp only [pickP, pickN, List.getElem?_cons_zero, List.getElem?_cons_succ]
      iterate 6 (refine' chainP_read _ rfl rfl (fun w' hS' => ?_) ?_; rotate_left; · (simp only [lookP, allP, Act.put, List.getElem?_cons_zero, List.getElem?_cons_succ, List.setIfInBounds_toArray, List.set_cons_zero, List.set_cons_succ]; (try dsimp only at hS'); go_simp; (try with_reducible rfl)))
      -- 6: call { callee := value (func 80), args := #[t19, t21, t22], argTypes := #[24, 3, 3] }
      refine chainP_call (d := (some 23)) (.int .i64 Y) rfl rfl (fun w' hS' => ?_) ?_
      · simp only [lookP, allP, Act.put, List.getElem?_cons_zero, List.getElem?_cons_succ, List.setIfInBounds_toArray, List.set_cons_zero, List.set_cons_succ]
        intro K hK
        go_simp
        go_at_call 65
        refine (spec_gExp gr gr.g x _ HG.out HGS.out HXI.out).mono ?_
        rintro e u ⟨rfl, hq⟩
        rw [HY.out]
        exact hK.out _ hq
      -- 7: buildSlice 43 1 #[(0, t23)]
      refine chainP_do (d := (some 24)) (fun v w => Ints w v [Y]) (fun v w w' hb h => Ints.below h hb) rfl rfl (fun w' hS' => ?_) ?_
      · simp only [lookP, allP, Act.put, List.getElem?_cons_zero, List.getElem?_cons_succ, List.setIfInBounds_toArray, List.set_cons_zero, List.set_cons_succ]
        intro K hK
        go_simp
        refine hK.out _ _ ((Below.refl _ _).alloc (Nat.le_refl _) _) ?_
        exact (OwnI.lit (B := w'.heap.size) w' (Nat.le_refl _) (l := [Y]) (AllI64.cons HYI.out AllI64.nil) rfl (by simp [maxLen]) 1 rfl).ints
      refine chainP_nil (fun ua hS' => ?_)
      simp only [allP, Act.put, List.setIfInBounds_toArray, List.set_cons_zero, List.set_cons_succ]
      intro x7 hx7
      have hq1 := hS'.1
      clear hS'
      replace hc := Below.next hc hq1
      replace c0_0 := box_at c0_0 hq1
      replace c0_1 := box_at c0_1 hq1
      replace c0_2 := box_at c0_2 hq1
      replace z0 := box_at z0 hq1
      replace z1 := box_at z1 hq1
      clear hq1
      have hx7 := hx7
      have HO1 := Lib.hid (HO.out.below hc)
      have HZ1 := Lib.hid (HZ.out.below hc)
      have HW1 := Lib.hid (Below.next HWr.out hc)
      have hsu : bz < ua.heap.size := HZ1.out.lt
      have hsu2 : (bz + 1) ≤ ua.heap.size := by have := HBs.out; have := hc.size; omega
      have HL7 := Lib.hid hx7
      clear hc c0_0 c0_1 c0_2 z0 z1 HO HZ HWr hx7
      have y0 := HZ1.out.cell (i := 0) rfl
      go_wp2_with (at_builtin; refine wpList_append_intsN rfl _ _ rfl (bz + 1) _ _ LB [Y] rfl HO1.out rfl HL7.out (by rw [HLB.out]; simp; omega) (by omega) (k + 1) (by rw [HLB.out]; rfl) ?_; intro a5 c5 w5 hown5 hgr5; have hb5 : Below (bz + 1) ua w5 := HO1.out.grown hgr5 (by omega); have HZ5 := Lib.hid (HZ1.out.belowB hb5 (by omega)); have hs5 := hb5.size; have HO5 := Lib.hid hown5; have HW5 := Lib.hid (HW1.out.trans (hb5.mono (by omega))); clear hown5 hgr5 y0; have f5 := HZ5.out.frozen 0; have y1 := HZ5.out.cell (i := 0) rfl)
      refine NoPanic.normal ?_
      clear y1 f5
      go_wp2_with fail
      go_roundg (cvn - (k + 1))
      case measure => exact hgl hlt
      case rel => exact ⟨_, k + 1, by have := HKG.out; omega, by go_num, HZ5.out.set 0 _, by unfold Hid; rw [HN1.out]; exact HO5.out.other (by omega) _ _, HW5.out.setCell (p := ⟨bz, 0, none⟩) (by show W.heap.size ≤ bz; omega) _⟩
    · obtain rfl : cvn = k := by have := HKG.out; omega
      clear HLB
      obtain ⟨LC, rfl⟩ : ∃ l, l = LB := ⟨_, rfl⟩
      obtain ⟨V1, hV1⟩ : ∃ z, z = Value.slice ao cvn co := ⟨_, rfl⟩
      rw [← hV1] at HO HZ
      have HV1e := Lib.hid hV1
      clear hV1 hgl hlt
      obtain ⟨wT, rfl⟩ : ∃ u, u = wr := ⟨_, rfl⟩
      obtain ⟨T, hT⟩ : ∃ z, z = wT.heap.size := ⟨_, rfl⟩
      have HVT : Hid (∀ j, V1.ownBlock = some j → j < T) := fun j hj => by rw [hT]; exact (HO.out.lt j hj).2
      have hTT : bz < T := by omega
      have HTs : Hid (T ≤ wT.heap.size) := by unfold Hid; omega
      clear hT
      have HLc : Hid (dcL gr cs cs.length = LC) := by unfold Hid; rw [Ecv.out]; exact HLe.out
      have HV := HO
      have hb1 : Below W.heap.size W wT := HWr.out
      have HZT := HZ
      clear HO HZ HWr HBs HLe HKG
      go_wp2_with fail
      go_loopg [10] n (fun gk iv wr => ∃ (v : Value) (k : Nat), k + gk = n ∧ iv = .int .i64 ((k : Int) + 1) ∧ Hid (BoxN wr bz 61 [V1, v]) ∧ Hid (OwnI wr T v (dsL gr cs k)) ∧ Hid (OwnI wr (bz + 1) V1 LC) ∧ Hid (Below W.heap.size W wr) ∧ T ≤ wr.heap.size)
      case atStart => exact ⟨_, 0, by omega, rfl, HZT, OwnI.nil _ _, HV, hb1, HTs.out⟩
      case round =>
        clear HZT HV hb1
        obtain ⟨v, k, hkg, rfl, HZ, HO, HV, HWr, hTr⟩ := hrel
        have HKG := Lib.hid hkg
        have hgl : k < n → n - (k + 1) < gk := by omega
        have hbr : bz < wr.heap.size := HZ.out.lt
        have HBs : Hid (T ≤ wr.heap.size) := hTr
        obtain ⟨ao, co, rfl⟩ := HO.out.shape
        have HLB2 : Hid ((dsL gr cs k).length = k) := dsL_len ..
        rw [HLB2.out] at HO HZ
        obtain ⟨LB, hLB⟩ : ∃ l, dsL gr cs k = l := ⟨_, rfl⟩
        rw [hLB] at HO HLB2
        have HLB := HLB2
        have HLe := Lib.hid hLB
        clear hkg hLB HLB2
        by_cases hlt : k < n
        · have hwk : IntKind.i64.wrap ((k : Int) + 1 + 1) = (k : Int) + 1 + 1 := IntWalk.i64_in _ (by omega)
          obtain ⟨k1, hk1⟩ : ∃ z : Nat, z = k + 1 := ⟨_, rfl⟩
          have ek1 : (k : Int) + 1 = (k1 : Int) := by omega
          have HK1 : Hid (0 ≤ (k1 : Int) ∧ (k1 : Int) ≤ 1000) := ⟨by omega, by omega⟩
          obtain ⟨Y, hY⟩ : ∃ z, hornE gr.q (k1 : Int) cs = z := ⟨_, rfl⟩
          have HY := Lib.hid hY
          have HYI : Hid (I64 Y) := by unfold Hid; rw [← hY]; obtain ⟨h1, h2⟩ := hornE_bd (q := gr.q) (by have := HQ.out.1; omega) (k1 : Int) cs; exact ⟨by have := HQ.out.2; omega, by have := HQ.out.2; omega⟩
          have HN1 : Hid (dsL gr cs (k + 1) = LB ++ [Y]) := by unfold Hid dsL; rw [HLe.out, ek1, hY]
          have HEk := Lib.hid ek1
          rw [ek1] at hwk ⊢
          have hkn : k1 ≤ n := by omega
          clear hY ek1 hk1
          have c0_0 := (HGX.out.below HWr.out).cell (i := 0) rfl
          have c0_1 := (HGX.out.below HWr.out).cell (i := 1) rfl
          have c0_2 := (HGX.out.below HWr.out).cell (i := 2) rfl
          have z0 := HZ.out.cell (i := 0) rfl
          have z1 := HZ.out.cell (i := 1) rfl
          have hc : Below wr.heap.size wr wr := Below.refl _ _
          go_wp2_with fail
          try (go_wp2_with fail)
          refine wp_region_noPanic ?_
          refine wp_region_P (fun w' => w'.cell? ⟨w.heap.size, 0, none⟩ = some (.int .i64 gr.p) ∧ w'.cell? ⟨w.heap.size, 1, none⟩ = some (.int .i64 gr.q) ∧ w'.cell? ⟨w.heap.size, 2, none⟩ = some (.int .i64 gr.g) ∧ w'.cell? ⟨bz, 0, none⟩ = some (V1) ∧ w'.cell? ⟨bz, 1, none⟩ = some (.slice ao k co)) 13 [(0, []), (1, [0]), (2, []), (3, [0]), (4, []), (5, []), (6, [2, 1, 0]), (7, [0])] [8, 9, 10] (by kernel_rfl) (by kernel_rfl) (by kernel_rfl) rfl (fun _ _ _ _ h => h) (fun w' h => ⟨box_at c0_0 h, box_at c0_1 h, box_at c0_2 h, box_at z0 h, box_at z1 h⟩) ?_
          simp only [pickP, pickN, List.getElem?_cons_zero, List.getElem?_cons_succ]
          iterate 6 (refine' chainP_read _ rfl rfl (fun w' hS' => ?_) ?_; rotate_left; · (simp only [lookP, allP, Act.put, List.getElem?_cons_zero, List.getElem?_cons_succ, List.setIfInBounds_toArray, List.set_cons_zero, List.set_cons_succ]; (try dsimp only at hS'); go_simp; (try with_reducible rfl)))
          -- 6: call { callee := value (func 205), args := #[t36, t37, t38], argTypes := #[3, 43, 3] }
          refine chainP_call (d := (some 39)) (.int .i64 Y) rfl rfl (fun w' hS' => ?_) ?_
          · simp only [lookP, allP, Act.put, List.getElem?_cons_zero, List.getElem?_cons_succ, List.setIfInBounds_toArray, List.set_cons_zero, List.set_cons_succ]
            intro K hK
            go_simp
            go_at_call 89
            refine (spec_yEval gr.q _ cs (k1 : Int) _ HQ.out ((Hcv.out.below (HB.out.trans (HWr.out.mono HB.out.size))).below hS'.1) HEL.out HK1.out).mono ?_
            rintro e u ⟨rfl, hq⟩
            rw [HY.out]
            exact hK.out _ hq
          -- 7: buildSlice 43 1 #[(0, t39)]
          refine chainP_do (d := (some 40)) (fun v w => Ints w v [Y]) (fun v w w' hb h => Ints.below h hb) rfl rfl (fun w' hS' => ?_) ?_
          · simp only [lookP, allP, Act.put, List.getElem?_cons_zero, List.getElem?_cons_succ, List.setIfInBounds_toArray, List.set_cons_zero, List.set_cons_succ]
            intro K hK
            go_simp
            refine hK.out _ _ ((Below.refl _ _).alloc (Nat.le_refl _) _) ?_
            exact (OwnI.lit (B := w'.heap.size) w' (Nat.le_refl _) (l := [Y]) (AllI64.cons HYI.out AllI64.nil) rfl (by simp [maxLen]) 1 rfl).ints
          refine chainP_nil (fun ua hS' => ?_)
          simp only [allP, Act.put, List.setIfInBounds_toArray, List.set_cons_zero, List.set_cons_succ]
          intro x7 hx7
          have hq1 := hS'.1
          clear hS'
          replace hc := Below.next hc hq1
          replace c0_0 := box_at c0_0 hq1
          replace c0_1 := box_at c0_1 hq1
          replace c0_2 := box_at c0_2 hq1
          replace z0 := box_at z0 hq1
          replace z1 := box_at z1 hq1
          clear hq1
          have hx7 := hx7
          have HO1 := Lib.hid (HO.out.below hc)
          have HZ1 := Lib.hid (HZ.out.below hc)
          have HW1 := Lib.hid (Below.next HWr.out hc)
          have HV1 := Lib.hid (HV.out.below hc)
          have hsu : bz < ua.heap.size := HZ1.out.lt
          have hsu2 : T ≤ ua.heap.size := by have := HBs.out; have := hc.size; omega
          have HL7 := Lib.hid hx7
          clear hc c0_0 c0_1 c0_2 z0 z1 HO HZ HWr hx7
          have y0 := HZ1.out.cell (i := 1) rfl
          go_wp2_with (at_builtin; refine wpList_append_intsN rfl _ _ rfl T _ _ LB [Y] rfl HO1.out rfl HL7.out (by rw [HLB.out]; simp; omega) (by omega) (k + 1) (by rw [HLB.out]; rfl) ?_; intro a5 c5 w5 hown5 hgr5; have hb5 : Below T ua w5 := HO1.out.grown hgr5 (by omega); have HZ5 := Lib.hid (HZ1.out.belowB hb5 (by omega)); have hs5 := hb5.size; have HO5 := Lib.hid hown5; have HW5 := Lib.hid (HW1.out.trans (hb5.mono (by omega))); have HV5 := Lib.hid (HV1.out.belowT HVT.out hb5); clear hown5 hgr5 y0; have f5 := HZ5.out.frozen 1; have y1 := HZ5.out.cell (i := 1) rfl)
          refine NoPanic.normal ?_
          clear y1 f5
          go_wp2_with fail
          go_roundg (n - (k + 1))
          case measure => exact hgl hlt
          case rel => exact ⟨_, k + 1, by have := HKG.out; omega, by have := HEk.out; go_num, HZ5.out.set 1 _, by unfold Hid; rw [HN1.out]; exact HO5.out.other (by omega) _ _, HV5.out.other (by omega) _ _, HW5.out.setCell (p := ⟨bz, 1, none⟩) (by show W.heap.size ≤ bz; omega) _, by rw [size_setC]; omega⟩
        · obtain rfl : n = k := by have := HKG.out; omega
          have hd : decide ((n : Int) + 1 ≤ (n : Int)) = false := decide_eq_false (by omega)
          obtain ⟨va1, vc1, e1⟩ := HV.out.shape
          obtain ⟨ln1, hln1⟩ : ∃ z, LC.length = z := ⟨_, rfl⟩
          rw [hln1] at e1
          subst e1
          clear hln1 HV1e
          have z0 := HZ.out.cell (i := 0) rfl
          have z1 := HZ.out.cell (i := 1) rfl
          have HR := Lib.hid (HRX.out.below HWr.out)
          have r0 := HR.out.cell (i := 0) rfl
          have r1 := HR.out.cell (i := 1) rfl
          have fr := fun j => HR.out.frozen j
          go_wp2_with fail
          have HRF := Lib.hid ((HR.out.set 0 (.slice va1 ln1 vc1)).set 1 (.slice ao n co))
          have t0 := HRF.out.cell (i := 0) rfl
          have t1 := HRF.out.cell (i := 1) rfl
          (try (go_wp2_with fail))
          refine bodyPost_ret (v := .agg #[.slice va1 ln1 vc1, .slice ao n co]) (by simp [results, Tryz.results47, go_sem, t0, t1]) rfl ⟨⟨_, _, rfl, by rw [HLc.out]; exact ((HV.out.other (b := w.heap.size + 1) (by omega) 0 (.slice va1 ln1 vc1)).other (b := w.heap.size + 1) (by omega) 1 (.slice ao n co)).mono (by omega), by rw [HLe.out]; exact ((HO.out.other (b := w.heap.size + 1) (by omega) 0 (.slice va1 ln1 vc1)).other (b := w.heap.size + 1) (by omega) 1 (.slice ao n co)).mono (by omega), fun k h1 h2 => by have h3 := HVT.out k h1; have h4 := (HO.out.lt k h2).1; omega⟩, ((HB.out.trans (HWr.out.mono (by omega))).setCell (p := ⟨w.heap.size + 1, 0, none⟩) (by show w.heap.size ≤ w.heap.size + 1; omega) (.slice va1 ln1 vc1)).setCell (p := ⟨w.heap.size + 1, 1, none⟩) (by show w.heap.size ≤ w.heap.size + 1; omega) (.slice ao n co)⟩
end Go.Proofs.YtacpnphfopmofaaGreat
namespace Go.Proofs.YtacpnphfopmofaaGreat
open Go.RowKit
set_option linter.unusedSimpArgs false
set_option linter.unusedVariables false

/-- a dealing in rows of its own, apart -/
structure OwnD (w : World) (B : Nat) (x y : Value) (la lb : List Int) : Prop where
  oa : OwnI w B x la
  ob : OwnI w B y lb
  ne : ∀ k, x.ownBlock = some k → y.ownBlock ≠ some k
theorem OwnD.within {w w' : World} {B g : Nat} {x y : Value} {la lb : List Int} (h : OwnD w B x y la lb) (hw : Within g (g + 1) w w') (hg : g < B) : OwnD w' B x y la lb := ⟨h.oa.within hw hg, h.ob.within hw hg, h.ne⟩
theorem OwnD.below {w w' : World} {B : Nat} {x y : Value} {la lb : List Int} (h : OwnD w B x y la lb) (hb : Below w.heap.size w w') : OwnD w' B x y la lb := ⟨h.oa.below hb, h.ob.below hb, h.ne⟩
theorem OwnD.mono {w : World} {B B' : Nat} {x y : Value} {la lb : List Int} (h : OwnD w B x y la lb) (hB : B' ≤ B) : OwnD w B' x y la lb := ⟨h.oa.mono hB, h.ob.mono hB, h.ne⟩
theorem OwnD.other {w : World} {B b : Nat} {x y : Value} {la lb : List Int} (h : OwnD w B x y la lb) (hb : b < B) (j : Nat) (z : Value) : OwnD (w.setCell ⟨b, j, none⟩ z) B x y la lb := ⟨h.oa.other hb j z, h.ob.other hb j z, h.ne⟩
theorem OwnD.lits (u : World) : OwnD ((u.alloc (.cells #[.int .i64 1] 3)).alloc (.cells #[.int .i64 0] 3)) u.heap.size (.slice (some ⟨u.heap.size, 0, none⟩) 1 1) (.slice (some ⟨u.heap.size + 1, 0, none⟩) 1 1) [1] [0] := by
  have h1 : (u.alloc (.cells #[.int .i64 1] 3)).heap.size = u.heap.size + 1 := by simp
  refine ⟨(OwnI.lit u (Nat.le_refl _) (l := [1]) (AllI64.cons ⟨by decide, by decide⟩ AllI64.nil) rfl (by simp [maxLen]) 1 rfl).below ((Below.refl _ _).alloc (Nat.le_refl _) _), ?_, ?_⟩
  · have h := OwnI.lit (B := u.heap.size) (u.alloc (.cells #[.int .i64 1] 3)) (by simp) (l := [0]) (AllI64.cons ⟨by decide, by decide⟩ AllI64.nil) rfl (by simp [maxLen]) 1 rfl
    rw [h1] at h; exact h
  · intro k e1 e2
    have h1 : u.heap.size = k := by injection e1
    have h2 : u.heap.size + 1 = k := by injection e2
    omega
theorem spec_sDealZ (gr : GroupD) (cv : Value) (cs : List Int) (n : Nat) (z : Int) (w : World) (hz : z = (n : Int)) (hg : OkG gr) (hcs : Ints w cv cs) (hel : ∀ y ∈ cs, 0 ≤ y ∧ y ≤ 2000000010) (hn : n ≤ 1000) (hl : cs.length ≤ 1000) :
    Calls Tryz.prog 47 #[.agg #[.int .i64 gr.p, .int .i64 gr.q, .int .i64 gr.g], cv, .int .i64 z] w fun e w' => (∃ x y, e = .returned (.agg #[x, y]) ∧ OwnI w' w.heap.size x (dcL gr cs cs.length) ∧ OwnI w' w.heap.size y (dsL gr cs n) ∧ ∀ k, x.ownBlock = some k → y.ownBlock ≠ some k) ∧ Below w.heap.size w w' := by
  subst hz; exact spec_sDeal gr cv cs n w hg hcs hel hn hl
set_option maxRecDepth 100000 in
set_option maxHeartbeats 4000000 in
theorem spec_dealing (w0 : World) (g : Nat) (n P Q G : Int) (w : World) (h : Cur w0 w g n) (hb : Below w0.heap.size w0 w) (hn : n ≤ 500000000000000) (hgr : GrB ⟨P, Q, G⟩) :
    Calls Tryz.prog 76 #[.pointer (some ⟨g, 0, none⟩), .agg #[.int .i64 P, .int .i64 Q, .int .i64 G]] w fun e w' => (∃ (vr0a : Value) (vr0b : Value) (lr0a : List Int) (lr0b : List Int), e = .returned (.agg #[vr0a, vr0b]) ∧ (OwnD w' w.heap.size vr0a vr0b lr0a lr0b ∧ (1 ≤ lr0a.length ∧ lr0a.length ≤ 7) ∧ (1 ≤ lr0b.length ∧ lr0b.length ≤ 7))) ∧ Cur w0 w' g (n + 200000) ∧ Within g (g + 1) w w' := by
  have HGR := Lib.hid hgr
  have HBB := Lib.hid hb
  have hge := h.ge
  have hgw := h.lt
  clear hgr hb
  obtain ⟨W, hW⟩ : ∃ W, W = (w.alloc (.cells #[.int .i64 P, .int .i64 Q, .int .i64 G] 24)).alloc (.cells #[(.slice none 0 0), (.slice none 0 0)] 61) := ⟨_, rfl⟩
  have hbW : Below w.heap.size w W := by rw [hW]; (repeat (first | exact Below.refl _ _ | assumption | refine Below.drew ?_ | refine Below.alloc ?_ (by first | (simp; done) | (simp; omega)) _ | refine Below.setCell ?_ (by first | (simp; done) | (simp; omega)) _))
  have HZg : Hid (BoxN W w.heap.size 24 [.int .i64 P, .int .i64 Q, .int .i64 G]) := by unfold Hid; rw [hW]; have h := ((BoxN.new w [.int .i64 P, .int .i64 Q, .int .i64 G] 24).alloc (.cells #[(.slice none 0 0), (.slice none 0 0)] 61)); simpa using h
  have HX0 : Hid (BoxN W (w.heap.size + 1) 61 [(.slice none 0 0), (.slice none 0 0)]) := by unfold Hid; rw [hW]; have h := (BoxN.new (w.alloc (.cells #[.int .i64 P, .int .i64 Q, .int .i64 G] 24)) [(.slice none 0 0), (.slice none 0 0)] 61); simpa using h
  have hsW : W.heap.size = w.heap.size + 2 := by rw [hW]; simp
  have HC := Lib.hid (h.keep hbW)
  have HWw := Lib.hid (Within.of_below hbW : Within g (g + 1) w W)
  have HBW : Hid (Below w0.heap.size w0 W) := HBB.out.trans (hbW.mono HBB.out.size)
  clear h
  go_enter Tryz.func76, Tryz.ntmps76
  go_wp2_with fail
  rw [← hW]
  have HW := Lib.hid (Within.refl g (g + 1) W)
  clear hW hbW
  have z_0_0 := HZg.out.cell (i := 0) rfl
  have z_0_1 := HZg.out.cell (i := 1) rfl
  have z_0_2 := HZg.out.cell (i := 2) rfl
  have z_1_0 := HX0.out.cell (i := 0) rfl
  have z_1_1 := HX0.out.cell (i := 1) rfl
  try (go_wp2_with fail)
  clear z_0_0 z_0_1 z_0_2 z_1_0 z_1_1
  refine (spec_pick w0 g _ 5 _ HC.out (HW.out.belowOf HBW.out hge) (by omega) ).mono ?_
  rintro e u1 ⟨⟨x1, rfl, x1l, x1u, x1m, _⟩, hc, hw⟩
  replace x1m := x1m (by omega)
  obtain ⟨j1, rfl⟩ := Int.eq_ofNat_of_zero_le x1l
  replace x1m : j1 < 5 := by omega
  clear x1l x1u
  have hsz1 := hw.size
  replace HZg := Lib.hid (HZg.out.kept hw (.inr (by omega)))
  replace HX0 := Lib.hid (HX0.out.kept hw (.inr (by omega)))
  replace HW := Lib.hid (HW.out.trans hw)
  replace HC := Lib.hid hc
  clear hc hw
  have ew1 : IntKind.i64.wrap (1 + (j1 : Int)) = 1 + (j1 : Int) := IntWalk.i64_in _ (by omega)
  have z_0_0 := HZg.out.cell (i := 0) rfl
  have z_0_1 := HZg.out.cell (i := 1) rfl
  have z_0_2 := HZg.out.cell (i := 2) rfl
  have z_1_0 := HX0.out.cell (i := 0) rfl
  have z_1_1 := HX0.out.cell (i := 1) rfl
  try (go_wp2_with fail)
  clear z_0_0 z_0_1 z_0_2 z_1_0 z_1_1
  refine (spec_sGroup ⟨P, Q, G⟩ _).mono ?_
  rintro e u2 ⟨rfl, hb⟩
  obtain ⟨q2, hq2⟩ : ∃ r, shG ⟨P, Q, G⟩ = r := ⟨_, rfl⟩
  have Hq2 := Lib.hid hq2
  rw [hq2]
  clear hq2
  have hsz2 := hb.size
  replace HZg := Lib.hid (HZg.out.below hb)
  replace HX0 := Lib.hid (HX0.out.below hb)
  replace HW := Lib.hid (HW.out.trans (Within.of_below hb))
  replace HC := Lib.hid (HC.out.keep hb)
  clear hb
  cases q2 with
  | false =>
    have z_0_0 := HZg.out.cell (i := 0) rfl
    have z_0_1 := HZg.out.cell (i := 1) rfl
    have z_0_2 := HZg.out.cell (i := 2) rfl
    have r0 := fun o1 o2 => ((HX0.out.alloc o1).alloc o2).cell (i := 0) rfl
    have r1 := fun o1 o2 => ((HX0.out.alloc o1).alloc o2).cell (i := 1) rfl
    have fr := fun o1 o2 j => ((HX0.out.alloc o1).alloc o2).frozen j
    obtain ⟨V, hV⟩ : ∃ V, V = (u2.alloc (.cells #[.int .i64 1] 3)).alloc (.cells #[.int .i64 0] 3) := ⟨_, rfl⟩
    have hbV : Below u2.heap.size u2 V := by rw [hV]; (repeat (first | exact Below.refl _ _ | assumption | refine Below.drew ?_ | refine Below.alloc ?_ (by first | (simp; done) | (simp; omega)) _ | refine Below.setCell ?_ (by first | (simp; done) | (simp; omega)) _))
    have HOD : Hid (OwnD V u2.heap.size (.slice (some ⟨u2.heap.size, 0, none⟩) 1 1) (.slice (some ⟨u2.heap.size + 1, 0, none⟩) 1 1) [1] [0]) := by unfold Hid; rw [hV]; exact OwnD.lits u2
    have HLD : Hid ((1 ≤ ([1] : List Int).length ∧ ([1] : List Int).length ≤ 7) ∧ (1 ≤ ([0] : List Int).length ∧ ([0] : List Int).length ≤ 7)) := ⟨⟨by decide, by decide⟩, ⟨by decide, by decide⟩⟩
    have hub : w.heap.size + 1 < u2.heap.size := HX0.out.lt
    have HX9 := Lib.hid (HX0.out.below hbV)
    go_wp2_with fail
    rw [← hV]
    replace HW := Lib.hid (HW.out.trans (Within.of_below hbV))
    replace HC := Lib.hid (HC.out.keep hbV)
    clear r0 r1 fr hV hbV z_0_0 z_0_1 z_0_2
    have FHX0 := Lib.hid ((HX9.out.set 0 (.slice (some ⟨u2.heap.size, 0, none⟩) 1 1)).set 1 (.slice (some ⟨u2.heap.size + 1, 0, none⟩) 1 1))
    have t_HX0_0 := FHX0.out.cell (i := 0) rfl
    have t_HX0_1 := FHX0.out.cell (i := 1) rfl
    try (go_wp2_with fail)
    refine bodyPost_ret (v := .agg #[.slice (some ⟨u2.heap.size, 0, none⟩) 1 1, .slice (some ⟨u2.heap.size + 1, 0, none⟩) 1 1]) (by simp [results, Tryz.results76, go_sem, t_HX0_0, t_HX0_1]) rfl ⟨⟨_, _, _, _, rfl, ((HOD.out.other (b := w.heap.size + 1) (by omega) 0 (.slice (some ⟨u2.heap.size, 0, none⟩) 1 1)).other (b := w.heap.size + 1) (by omega) 1 (.slice (some ⟨u2.heap.size + 1, 0, none⟩) 1 1)).mono (by omega), HLD.out⟩, ((HC.out.setNew (b := w.heap.size + 1) (by omega) 0 (.slice (some ⟨u2.heap.size, 0, none⟩) 1 1)).setNew (b := w.heap.size + 1) (by omega) 1 (.slice (some ⟨u2.heap.size + 1, 0, none⟩) 1 1)).mono (by omega), (((HWw.out.trans HW.out).setNew (b := w.heap.size + 1) (by omega) 0 (.slice (some ⟨u2.heap.size, 0, none⟩) 1 1)).setNew (b := w.heap.size + 1) (by omega) 1 (.slice (some ⟨u2.heap.size + 1, 0, none⟩) 1 1))⟩
  | true =>
    have z_0_0 := HZg.out.cell (i := 0) rfl
    have z_0_1 := HZg.out.cell (i := 1) rfl
    have z_0_2 := HZg.out.cell (i := 2) rfl
    have z_1_0 := HX0.out.cell (i := 0) rfl
    have z_1_1 := HX0.out.cell (i := 1) rfl
    try (go_wp2_with fail)
    clear z_0_0 z_0_1 z_0_2 z_1_0 z_1_1
    have HG := Lib.hid (shG_ok Hq2.out)
    have hgb : g < u2.heap.size := HC.out.lt
    have hub : w.heap.size + 1 < u2.heap.size := HX0.out.lt
    obtain ⟨N, hN⟩ : ∃ N : Nat, (N : Int) = 1 + ((j1 : Nat) : Int) ∧ 1 ≤ N ∧ N ≤ 5 := ⟨1 + j1, by omega, by omega, by omega⟩
    obtain ⟨hN, hN1, hN5⟩ := hN
    have z_0_0 := HZg.out.cell (i := 0) rfl
    have z_0_1 := HZg.out.cell (i := 1) rfl
    have z_0_2 := HZg.out.cell (i := 2) rfl
    have z_1_0 := HX0.out.cell (i := 0) rfl
    have z_1_1 := HX0.out.cell (i := 1) rfl
    try (go_wp2_with fail)
    refine wp_region_noPanic ?_
    refine wp_region_Q (Within g (g + 1)) (DrawS w0 u2 g _ 10000 (fun w' => w'.cell? ⟨w.heap.size, 0, none⟩ = some (.int .i64 P) ∧ w'.cell? ⟨w.heap.size, 1, none⟩ = some (.int .i64 Q) ∧ w'.cell? ⟨w.heap.size, 2, none⟩ = some (.int .i64 G))) 13 [(0, []), (1, []), (2, []), (3, []), (4, []), (5, [1, 0]), (6, [0]), (7, [5, 4, 0]), (8, []), (9, [8, 1, 0])] [10] (by kernel_rfl) (by kernel_rfl) (by kernel_rfl) rfl (fun _ _ _ _ h => h) (DrawS.good _ _ _ _ _ _) ⟨(Within.refl _ _ _).drew, by simpa using HC.out.keep (Below.refl _ _).drew, ⟨box_at z_0_0 (Below.refl _ _).drew, box_at z_0_1 (Below.refl _ _).drew, box_at z_0_2 (Below.refl _ _).drew⟩⟩ ?_
    simp only [pickP, pickN, List.getElem?_cons_zero, List.getElem?_cons_succ]
    iterate 5 (refine' chainQ_read (DrawS.good _ _ _ _ _ _) _ rfl rfl (fun m w' hm' hS' => ?_) ?_; rotate_left; · (simp only [lookP, allP, Act.put, List.getElem?_cons_zero, List.getElem?_cons_succ, List.setIfInBounds_toArray, List.set_cons_zero, List.set_cons_succ]; (try dsimp only [DrawS] at hS'); go_simp; (try with_reducible rfl)))
    -- 5: call { callee := value (func 95), args := #[t18, t19], argTypes := #[104, 3] }
    refine chainQ_do (d := (some 20)) (fun v z => ∃ j : Nat, v = .int .i64 (j : Int) ∧ j < N) (fun v w1 w2 hw h => h) rfl rfl (fun m w' hm' hS' => ?_) ?_
    · simp only [lookP, allP, Act.put, List.getElem?_cons_zero, List.getElem?_cons_succ, List.setIfInBounds_toArray, List.set_cons_zero, List.set_cons_succ]
      intro K hK
      replace hm' : m < 10 := hm'
      go_simp
      go_at_call 22
      refine (spec_pick w0 g _ (1 + (j1 : Int)) _ hS'.2.1 (hS'.1.belowOf (HW.out.belowOf HBW.out hge) hge) (by omega)).mono ?_
      rintro e z ⟨⟨x, rfl, x0, _, xm, _⟩, hc, hw⟩
      obtain ⟨j, rfl⟩ := Int.eq_ofNat_of_zero_le x0
      replace xm := xm (by omega)
      exact hK.out _ _ hw ⟨hS'.1.trans hw, hc.mono (by omega), ⟨within_at (hS'.1.trans hw) z_0_0 (.inr (by omega)), within_at (hS'.1.trans hw) z_0_1 (.inr (by omega)), within_at (hS'.1.trans hw) z_0_2 (.inr (by omega))⟩⟩ ⟨j, rfl, by omega⟩
    -- 6: binOp Binadd 3 (const (int i64 1)) t20 3
    refine chainQ_have (DrawS.good _ _ _ _ _ _) (d := (some 21)) (fun v z => ∃ j : Nat, v = .int .i64 (j : Int) ∧ 1 ≤ j ∧ j ≤ N) (fun v w1 w2 hw h => h) rfl rfl (fun m w' hm' hS' => ?_) ?_
    · simp only [lookP, allP, Act.put, List.getElem?_cons_zero, List.getElem?_cons_succ, List.setIfInBounds_toArray, List.set_cons_zero, List.set_cons_succ]
      intro x5 hx5
      obtain ⟨j, rfl, hj⟩ := hx5
      have ewj : IntKind.i64.wrap (1 + (j : Int)) = ((j + 1 : Nat) : Int) := by rw [show (1 : Int) + j = ((j + 1 : Nat) : Int) by omega]; exact IntWalk.i64_in _ (by omega)
      refine ⟨.int .i64 ((j + 1 : Nat) : Int), ?_, j + 1, rfl, by omega, by omega⟩
      go_simp
    -- 7: call { callee := value (func 132), args := #[t16, t17, t21], argTypes := #[104, 24, 3] }
    refine chainQ_do (d := (some 22)) (fun v z => ∃ (a : Option Addr) (c m : Nat) (l : List Int), v = .slice a m c ∧ OwnI z u2.heap.size (.slice a m c) l ∧ l.length = m ∧ (1 ≤ m ∧ m ≤ N) ∧ ∀ x ∈ l, 0 ≤ x ∧ x ≤ 2000000010) (fun v w1 w2 hw h => by obtain ⟨a, c, m, l, e, h1, h2, h3, h4⟩ := h; exact ⟨a, c, m, l, e, h1.within hw (by omega), h2, h3, h4⟩) rfl rfl (fun m w' hm' hS' => ?_) ?_
    · simp only [lookP, allP, Act.put, List.getElem?_cons_zero, List.getElem?_cons_succ, List.setIfInBounds_toArray, List.set_cons_zero, List.set_cons_succ]
      intro x6 hx6
      intro K hK
      replace hm' : m < 10 := hm'
      obtain ⟨j, rfl, hj1, hj2⟩ := hx6
      go_simp
      go_at_call 37
      refine (spec_coins w0 g _ P Q G j _ hS'.2.1 (hS'.1.belowOf (HW.out.belowOf HBW.out hge) hge) (by omega) HGR.out (by omega)).mono ?_
      rintro e z ⟨⟨v, l, rfl, ho, hl, hx⟩, hc, hw⟩
      obtain ⟨a, c, rfl⟩ := ho.shapeN hl
      have hsz0 := hS'.1.size
      exact hK.out _ _ hw ⟨hS'.1.trans hw, hc.mono (by omega), ⟨within_at (hS'.1.trans hw) z_0_0 (.inr (by omega)), within_at (hS'.1.trans hw) z_0_1 (.inr (by omega)), within_at (hS'.1.trans hw) z_0_2 (.inr (by omega))⟩⟩ ⟨a, c, j, l, rfl, ho.mono (by omega), hl, ⟨hj1, hj2⟩, hx⟩
    -- 8: move t5
    refine' chainQ_read (DrawS.good _ _ _ _ _ _) (d := (some 23)) _ rfl rfl (fun m w' hm' hS' => ?_) ?_; rotate_left
    · simp only [lookP, allP, Act.put, List.getElem?_cons_zero, List.getElem?_cons_succ, List.setIfInBounds_toArray, List.set_cons_zero, List.set_cons_succ]
      (try dsimp only [DrawS] at hS')
      go_simp
      (try with_reducible rfl)
    -- 9: call { callee := value (func 131), args := #[t15, t22, t23], argTypes := #[24, 43, 3] }
    refine chainQ_do (d := (some 24)) (fun v z => ∃ (xa : Option Addr) (xc xn : Nat) (ya : Option Addr) (yc yn : Nat) (la lb : List Int), v = .agg #[.slice xa xn xc, .slice ya yn yc] ∧ OwnD z u2.heap.size (.slice xa xn xc) (.slice ya yn yc) la lb ∧ (1 ≤ la.length ∧ la.length ≤ 7) ∧ (1 ≤ lb.length ∧ lb.length ≤ 7)) (fun v w1 w2 hw h => by obtain ⟨xa, xc, xn, ya, yc, yn, la, lb, e, h1, h2⟩ := h; exact ⟨xa, xc, xn, ya, yc, yn, la, lb, e, h1.within hw (by omega), h2⟩) rfl rfl (fun m w' hm' hS' => ?_) ?_
    · simp only [lookP, allP, Act.put, List.getElem?_cons_zero, List.getElem?_cons_succ, List.setIfInBounds_toArray, List.set_cons_zero, List.set_cons_succ]
      intro x7 hx7
      intro K hK
      replace hm' : m < 10 := hm'
      obtain ⟨a, c, m, l, rfl, ho, hl, hm, hx⟩ := hx7
      go_simp
      go_at_call 47
      refine (spec_sDealZ ⟨P, Q, G⟩ _ l N (1 + (j1 : Int)) _ hN.symm HG.out ho.ints hx (by omega) (by omega)).mono ?_
      rintro e z ⟨⟨x, y, rfl, o1, o2, hne⟩, hbz⟩
      have hsz0 := hS'.1.size
      have hw := (Within.of_below hbz : Within g (g + 1) _ _)
      obtain ⟨xa, xc, rfl⟩ := o1.shape
      obtain ⟨ya, yc, rfl⟩ := o2.shape
      exact hK.out _ _ hw ⟨hS'.1.trans hw, (hS'.2.1.keep hbz).mono (by omega), ⟨within_at (hS'.1.trans hw) z_0_0 (.inr (by omega)), within_at (hS'.1.trans hw) z_0_1 (.inr (by omega)), within_at (hS'.1.trans hw) z_0_2 (.inr (by omega))⟩⟩ ⟨xa, xc, _, ya, yc, _, _, _, rfl, ⟨o1.mono (by omega), o2.mono (by omega), hne⟩, by rw [dcL_len]; omega, by rw [dsL_len]; omega⟩
    refine chainQ_nil (fun u3 hS' => ?_)
    simp only [allP, Act.put, List.setIfInBounds_toArray, List.set_cons_zero, List.set_cons_succ]
    intro x9 hx9
    intro x7 hx7
    intro x6 hx6
    intro x5 hx5
    replace hS' : DrawS w0 u2 g _ 10000 _ 10 u3 := hS'
    obtain ⟨hw, hc, hC⟩ := hS'
    have hsz3 := hw.size
    replace HZg := Lib.hid (HZg.out.kept hw (.inr (by omega)))
    replace HX0 := Lib.hid (HX0.out.kept hw (.inr (by omega)))
    replace HW := Lib.hid (HW.out.trans hw)
    replace HC := Lib.hid hc
    clear hc hw hC
    clear z_0_0 z_0_1 z_0_2 z_1_0 z_1_1
    clear hx5 hx6 hx7
    obtain ⟨xa, xc, xn, ya, yc, yn, la, lb, rfl, hod, hld⟩ := hx9
    have HOD := Lib.hid hod
    have HLD := Lib.hid hld
    clear hod hld
    have r_HX0_0 := HX0.out.cell (i := 0) rfl
    have r_HX0_1 := HX0.out.cell (i := 1) rfl
    have fr_HX0 := fun j => HX0.out.frozen j
    go_wp2_with fail
    refine NoPanic.normal ?_
    have FHX0 := Lib.hid ((HX0.out.set 0 (.slice xa xn xc)).set 1 (.slice ya yn yc))
    clear r_HX0_0 r_HX0_1 fr_HX0
    have t_HX0_0 := FHX0.out.cell (i := 0) rfl
    have t_HX0_1 := FHX0.out.cell (i := 1) rfl
    try (go_wp2_with fail)
    refine bodyPost_ret (v := .agg #[.slice xa xn xc, .slice ya yn yc]) (by simp [results, Tryz.results76, go_sem, t_HX0_0, t_HX0_1]) rfl ⟨⟨_, _, _, _, rfl, ((HOD.out.other (b := w.heap.size + 1) (by omega) 0 (.slice xa xn xc)).other (b := w.heap.size + 1) (by omega) 1 (.slice ya yn yc)).mono (by omega), HLD.out⟩, ((HC.out.setNew (b := w.heap.size + 1) (by omega) 0 (.slice xa xn xc)).setNew (b := w.heap.size + 1) (by omega) 1 (.slice ya yn yc)).mono (by omega), (((HWw.out.trans HW.out).setNew (b := w.heap.size + 1) (by omega) 0 (.slice xa xn xc)).setNew (b := w.heap.size + 1) (by omega) 1 (.slice ya yn yc))⟩
end Go.Proofs.YtacpnphfopmofaaGreat
