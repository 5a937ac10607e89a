/- Draws: dealings with answers (printed by gen_drk6.py). -/
import Derived.Test.YtacpnphfopmofaaDrK5KG
import Derived.Test.YtacpnphfopmofaaSh4KG
import Derived.Test.YtacpnphfopmofaaPolLKG
import Derived.Test.YtacpnphfopmofaaKg7KG
import Derived.Deep.Cut
namespace Go.Proofs.Ytacpnphfopmofaa
open Go.RowKit
set_option linter.unusedSimpArgs false
set_option linter.unusedVariables false

theorem RdL.dropL {δ : Type} {K : Kind δ} {w : World} {a : Option Addr} {n c k : Nat} {ds : List δ} (h : RdL K w (.slice a n c) ds) (hk : k ≤ n) : RdL K w (.slice (if c = k then a else a.map (·.add k)) (n - k) (c - k)) (ds.drop k) := by
  obtain ⟨a', n', c', e, h1, h2, h3, h5⟩ := h; cases e
  refine ⟨_, n - k, c - k, rfl, by simp; omega, by omega, by omega, ?_⟩
  rcases h5 with ⟨h5, h6, h7⟩ | ⟨ad, h5, h6⟩ | ⟨b, o, h5, vs, hc⟩
  · refine .inl ⟨?_, by omega, by omega⟩
    rw [h5]; split <;> rfl
  · refine .inr (.inl ?_)
    rw [h5]
    split
    · exact ⟨ad, rfl, by omega⟩
    · exact ⟨ad.add k, rfl, by omega⟩
  · rw [h5]
    by_cases hck : c = k
    · rw [if_pos hck]; exact .inr (.inl ⟨_, rfl, by omega⟩)
    · rw [if_neg hck]
      refine .inr (.inr ⟨b, o + k, by simp [Addr.add_lit], fun i => vs (k + i), fun i hi => ?_⟩)
      have hi' : i < ds.length - k := by simpa using hi
      obtain ⟨hv, hr⟩ := hc (k + i) (by omega)
      refine ⟨?_, by rw [List.getElem_drop]; exact hr⟩
      rw [← hv]
      congr 2
      omega
theorem sl_dropLU {a : Option Addr} {n c : Nat} {x : Int} {k : Nat} (hx : x = k) (hk : k ≤ n) :
    ∃ a', (∀ W, (Instr.slice 69 (.slice a n c) (some (.int .i64 x)) none none).run Try.prog W = .ok (.slice a' (n - k) (c - k)) W) ∧ ∀ u ls, RdL kInts u (.slice a n c) ls → RdL kInts u (.slice a' (n - k) (c - k)) (ls.drop k) := by
  subst hx
  refine ⟨_, fun W => ?_, fun u ls h => h.dropL hk⟩
  have hs : Try.prog.cellsOf 42 = 1 := by kernel_rfl
  simp [Try.underlying69, go_sem, hk, run_slice_l, run_underlying, hs]
theorem OwnZ.rows {w : World} {B b : Nat} {z v av : Value} {ds : List DealingD} {an : List (List Int)} (hv : OwnZ w B z v ds) (h : RowS w B av an) (hb : av.ownBlock = some b) (j : Nat) (x : Value) : OwnZ (w.setCell ⟨b, j, none⟩ x) B z v ds := by
  obtain ⟨vs, hl', hO', hel'⟩ := h
  obtain ⟨css, hl, hO, hel⟩ := hv
  have key : ∀ {y : Value} {l : List Int}, OwnI w B y l → OwnI (w.setCell ⟨b, j, none⟩ x) B y l := fun {y l} h => h.kept (grownBy_setCell _ b j x) (by rw [← hb]; exact ownsRow_ne (e1 := 3) (by decide) h.2 hO')
  refine ⟨css, hl, hO.kept (grownBy_setCell _ b j x) (by rw [← hb]; exact ownsRow_ne (by decide) hO hO'), fun i h1 h2 => ?_⟩
  obtain ⟨x', y, e, ⟨q1, p1⟩, ⟨q2, p2⟩⟩ := hel i h1 h2
  exact ⟨x', y, e, ⟨key q1, p1⟩, ⟨key q2, p2⟩⟩
theorem OwnZ.toSince {w : World} {B B' : Nat} {z v : Value} {ds : List DealingD} (h : OwnZ w B z v ds) (hB : B' ≤ B) : Since B' w (fun u => RdR rDealing u v ds) := fun u hs hb => (h.frame hs fun k hk hlt => hb k (by omega) hlt).rd
set_option maxRecDepth 100000 in
set_option maxHeartbeats 8000000 in
theorem spec_DrawQualifiedIn (v : Value) (w : World) (h : Bytes w v) :
    Calls Try.prog 122 #[v] w fun e w' => (∃ (P : Int) (Q : Int) (G : Int) (lv : Value) (l : List DealingD) (av : Value) (an : List (List Int)), e = .returned (.tuple #[.agg #[.int .i64 P, .int .i64 Q, .int .i64 G], lv, av]) ∧ GrB ⟨P, Q, G⟩ ∧ Since w.heap.size w' (fun u => RdR rDealing u lv l) ∧ Since w.heap.size w' (fun u => RdL kInts u av an)) ∧ Below w.heap.size w w' := by
  obtain ⟨a, m, c, rfl, hk1, hk2, hv⟩ := h
  have HY : Hid (Bytes w (.slice a m c)) := ⟨a, m, c, rfl, hk1, hk2, hv⟩
  clear hv
  unfold maxLen at hk2
  obtain ⟨U, hU⟩ : ∃ U, U = w.alloc (.cells #[.int .i64 0, .int .i64 0, .int .i64 0] 24) := ⟨_, rfl⟩
  have hbU : Below w.heap.size w U := by rw [hU]; (repeat (first | exact Below.refl _ _ | assumption | refine Below.drew ?_ | refine Below.alloc ?_ (by first | (simp; done) | (simp; omega)) _ | refine Below.setCell ?_ (by first | (simp; done) | (simp; omega)) _))
  have HX0 : Hid (BoxN U w.heap.size 24 [.int .i64 0, .int .i64 0, .int .i64 0]) := by unfold Hid; rw [hU]; have h := (BoxN.new w [.int .i64 0, .int .i64 0, .int .i64 0] 24); simpa using h
  have hsU : U.heap.size = w.heap.size + 1 := by rw [hU]; simp
  obtain ⟨W, hW⟩ : ∃ W, W = U.alloc (.cells #[.slice a m c, .int .i64 0, .int .u64 0] 85) := ⟨_, rfl⟩
  have HC : Hid (Cur U W U.heap.size 0) := by unfold Hid; rw [hW]; exact Cur.new U (HY.out.below hbU)
  have hbW : Below U.heap.size U W := by rw [hW]; exact (Below.refl _ _).alloc (Nat.le_refl _) _
  have HBw := Lib.hid (Below.next hbU hbW)
  have HU := Lib.hid hbW
  replace HX0 := Lib.hid (HX0.out.below hbW)
  obtain ⟨g, hg⟩ : ∃ g, g = U.heap.size := ⟨_, rfl⟩
  have HSU : Hid (w.heap.size + 1 = g) := by unfold Hid; rw [hg, hsU]
  have HWS : Hid (W.heap.size = g + 1) := by unfold Hid; rw [hW, hg]; simp
  go_enter Try.func122, Try.ntmps122
  go_wp2_with fail
  rw [← hU, ← hW]
  rw [HSU.out]
  rw [← hg] at HC
  have HUS : Hid (U.heap.size = g) := hg.symm
  have hwg : w.heap.size + 1 = g := HSU.out
  have hsW := HWS.out
  clear hU hW hbU hbW hsU hg
  try (go_wp2_with fail)
  refine (spec_DrawPlayDealers _ W (HY.out.below HBw.out)).mono ?_
  rintro e u1 ⟨⟨P, Q, G, cv, cs, fv, fs, rfl, hgr, hcs, hfs, hf5⟩, hb⟩
  have HGR := Lib.hid hgr
  have HCS := Lib.hid hcs
  have HFS := Lib.hid hfs
  have hs1 := hb.size
  have hus : U.heap.size = g := HUS.out
  replace HX0 := Lib.hid (HX0.out.below hb)
  replace HU := Lib.hid (HU.out.trans (hb.mono HU.out.size))
  replace HBw := Lib.hid (HBw.out.trans (hb.mono HBw.out.size))
  replace HC := Lib.hid (HC.out.keep hb)
  clear hgr hcs hfs hb hus
  obtain ⟨GA, hGA⟩ : ∃ b, b = u1.heap.size := ⟨_, rfl⟩
  obtain ⟨u2, hu2⟩ : ∃ V, V = u1.alloc (.cells #[.int .i64 P, .int .i64 Q, .int .i64 G] 24) := ⟨_, rfl⟩
  have hbV : Below u1.heap.size u1 u2 := by rw [hu2]; exact (Below.refl _ _).alloc (Nat.le_refl _) _
  have HZ1 : Hid (BoxN u2 GA 24 [.int .i64 P, .int .i64 Q, .int .i64 G]) := by unfold Hid; rw [hu2, hGA]; exact BoxN.new u1 [.int .i64 P, .int .i64 Q, .int .i64 G] _
  have hgGA : g < GA := by omega
  go_wp2_with fail
  rw [← hu2, ← hGA]
  replace HX0 := Lib.hid (HX0.out.below hbV)
  replace HU := Lib.hid (HU.out.trans (hbV.mono HU.out.size))
  replace HBw := Lib.hid (HBw.out.trans (hbV.mono HBw.out.size))
  replace HC := Lib.hid (HC.out.keep hbV)
  replace HCS := Lib.hid (RdL.below HCS.out hbV)
  replace HFS := Lib.hid (HFS.out.below hbV)
  have hs2 := hbV.size
  have hGA2 := HZ1.out.lt
  clear hu2 hGA hbV
  try (go_wp2_with fail)
  refine (spec_PlayDealers ⟨P, Q, G⟩ _ cs _ fs u2 HCS.out HFS.out hf5).mono ?_
  rintro e u3 ⟨⟨lv, av, b, l, anl, rfl, hl, ha, hb7⟩, hb⟩
  obtain ⟨B0, hB0⟩ : ∃ b, b = u2.heap.size := ⟨_, rfl⟩
  rw [← hB0] at hl ha
  have hB1 : GA < B0 := by omega
  have hs3 := hb.size
  have hB2 : B0 ≤ u3.heap.size := by omega
  replace HX0 := Lib.hid (HX0.out.below hb)
  replace HZ1 := Lib.hid (HZ1.out.below hb)
  replace HU := Lib.hid (HU.out.trans (hb.mono HU.out.size))
  replace HBw := Lib.hid (HBw.out.trans (hb.mono HBw.out.size))
  replace HC := Lib.hid ((HC.out.keep hb).mono (n' := 1000) (by omega))
  obtain ⟨la, lc, elv⟩ := hl.len64
  obtain ⟨ln, hln⟩ : ∃ z, l.length = z := ⟨_, rfl⟩
  rw [hln] at elv
  subst elv
  have HLZ := Lib.hid hl
  have HAR := Lib.hid ha
  obtain ⟨aa, ac, eav⟩ := ha.shape
  obtain ⟨an, han⟩ : ∃ z, anl.length = z := ⟨_, rfl⟩
  rw [han] at eav
  subst eav
  have HAN := Lib.hid han
  rw [han] at hb7
  have H7 := Lib.hid hb7
  clear hl ha hb hB0 hln han hb7
  cases b with
  | false =>
    have HAS : Hid (Since B0 u3 (fun u => RdL kInts u (.slice aa an ac) anl)) := HAR.out.since (Nat.le_refl _)
    have r0 := HX0.out.cell (i := 0) rfl
    have r1 := HX0.out.cell (i := 1) rfl
    have r2 := HX0.out.cell (i := 2) rfl
    have fr := fun j => HX0.out.frozen j
    have z0 := HZ1.out.cell (i := 0) rfl
    have z1 := HZ1.out.cell (i := 1) rfl
    have z2 := HZ1.out.cell (i := 2) rfl
    go_wp2_with fail
    clear r0 r1 r2 fr z0 z1 z2
    have HX9 := Lib.hid (((HX0.out.set 0 (.int .i64 P)).set 1 (.int .i64 Q)).set 2 (.int .i64 G))
    have HYS := Lib.hid ((((Within.refl w.heap.size (w.heap.size + 1) u3).setCell (b := w.heap.size) (by omega) (by omega) 0 (.int .i64 P)).setCell (b := w.heap.size) (by omega) (by omega) 1 (.int .i64 Q)).setCell (b := w.heap.size) (by omega) (by omega) 2 (.int .i64 G))
    have x0 := HX9.out.cell (i := 0) rfl
    have x1 := HX9.out.cell (i := 1) rfl
    have x2 := HX9.out.cell (i := 2) rfl
    try (go_wp2_with fail)
    refine bodyPost_ret (v := .tuple #[.agg #[.int .i64 P, .int .i64 Q, .int .i64 G], .slice la ln lc, .slice aa an ac]) (by simp [results, Try.results122, go_sem, x0, x1, x2]) rfl ⟨⟨P, Q, G, _, l, _, anl, rfl, HGR.out, ((HLZ.out.toSince (Nat.le_refl _)).within HYS.out (by omega)).mono (by omega), (HAS.out.within HYS.out (by omega)).mono (by omega)⟩, ((HBw.out.setCell (p := ⟨w.heap.size, 0, none⟩) (Nat.le_refl _) _).setCell (p := ⟨w.heap.size, 1, none⟩) (Nat.le_refl _) _).setCell (p := ⟨w.heap.size, 2, none⟩) (Nat.le_refl _) _⟩
  | true =>
  obtain ⟨an1, an7⟩ := H7.out rfl
  go_wp2_with fail
  refine (spec_one U g _ 4 _ HC.out HU.out (by omega)).mono ?_
  rintro e u4 ⟨⟨q1, rfl⟩, hc, hw⟩
  have hs_u4 := hw.size
  replace HX0 := Lib.hid (HX0.out.kept hw (.inl (by omega)))
  replace HZ1 := Lib.hid (HZ1.out.kept hw (.inr (by omega)))
  replace HU := Lib.hid (hw.belowOf HU.out (Nat.le_of_eq HUS.out))
  replace HBw := Lib.hid (hw.belowOf HBw.out (by omega))
  replace HLZ := Lib.hid (HLZ.out.within hw (by omega))
  replace HAR := Lib.hid (HAR.out.within hw (by omega))
  replace HC := Lib.hid (hc.mono (n' := 2000) (by omega))
  clear hc hw
  obtain ⟨ab, _, _, e, hab1, hab2, _, _, _⟩ := HAR.out.pos (k := 0) (by rw [HAN.out]; omega)
  rw [HAN.out] at e
  cases e
  cases q1 with
  | false =>
    have HAS : Hid (Since B0 u4 (fun u => RdL kInts u (.slice (some ⟨ab, 0, none⟩) an ac) anl)) := HAR.out.since (Nat.le_refl _)
    go_wp2_with fail
    refine (spec_one U g _ 20 _ HC.out HU.out (by omega)).mono ?_
    rintro e u8 ⟨⟨q2, rfl⟩, hc, hw⟩
    have hs_u8 := hw.size
    replace HX0 := Lib.hid (HX0.out.kept hw (.inl (by omega)))
    replace HZ1 := Lib.hid (HZ1.out.kept hw (.inr (by omega)))
    replace HU := Lib.hid (hw.belowOf HU.out (Nat.le_of_eq HUS.out))
    replace HBw := Lib.hid (hw.belowOf HBw.out (by omega))
    replace HLZ := Lib.hid (HLZ.out.within hw (by omega))
    replace HAS := Lib.hid (HAS.out.within hw (by omega))
    clear hc hw
    cases q2 with
    | false =>
      have r0 := HX0.out.cell (i := 0) rfl
      have r1 := HX0.out.cell (i := 1) rfl
      have r2 := HX0.out.cell (i := 2) rfl
      have fr := fun j => HX0.out.frozen j
      have z0 := HZ1.out.cell (i := 0) rfl
      have z1 := HZ1.out.cell (i := 1) rfl
      have z2 := HZ1.out.cell (i := 2) rfl
      go_wp2_with fail
      clear r0 r1 r2 fr z0 z1 z2
      have HX9 := Lib.hid (((HX0.out.set 0 (.int .i64 P)).set 1 (.int .i64 Q)).set 2 (.int .i64 G))
      have HYS := Lib.hid ((((Within.refl w.heap.size (w.heap.size + 1) u8).setCell (b := w.heap.size) (by omega) (by omega) 0 (.int .i64 P)).setCell (b := w.heap.size) (by omega) (by omega) 1 (.int .i64 Q)).setCell (b := w.heap.size) (by omega) (by omega) 2 (.int .i64 G))
      have x0 := HX9.out.cell (i := 0) rfl
      have x1 := HX9.out.cell (i := 1) rfl
      have x2 := HX9.out.cell (i := 2) rfl
      try (go_wp2_with fail)
      refine bodyPost_ret (v := .tuple #[.agg #[.int .i64 P, .int .i64 Q, .int .i64 G], .slice la ln lc, .slice (some ⟨ab, 0, none⟩) an ac]) (by simp [results, Try.results122, go_sem, x0, x1, x2]) rfl ⟨⟨P, Q, G, _, l, _, anl, rfl, HGR.out, ((HLZ.out.toSince (Nat.le_refl _)).within HYS.out (by omega)).mono (by omega), (HAS.out.within HYS.out (by omega)).mono (by omega)⟩, ((HBw.out.setCell (p := ⟨w.heap.size, 0, none⟩) (Nat.le_refl _) _).setCell (p := ⟨w.heap.size, 1, none⟩) (Nat.le_refl _) _).setCell (p := ⟨w.heap.size, 2, none⟩) (Nat.le_refl _) _⟩
    | true =>
      obtain ⟨ad, hrun, hsl⟩ := sl_dropLU (a := some ⟨ab, 0, none⟩) (n := an) (c := ac) (x := 1) (k := 1) rfl (by omega)
      replace HAS : Hid (Since B0 u8 (fun u => RdL kInts u (.slice ad (an - 1) (ac - 1)) (List.drop 1 (anl)))) := fun u hs hb => hsl u _ (HAS.out u hs hb)
      clear hsl
      have r0 := HX0.out.cell (i := 0) rfl
      have r1 := HX0.out.cell (i := 1) rfl
      have r2 := HX0.out.cell (i := 2) rfl
      have fr := fun j => HX0.out.frozen j
      have z0 := HZ1.out.cell (i := 0) rfl
      have z1 := HZ1.out.cell (i := 1) rfl
      have z2 := HZ1.out.cell (i := 2) rfl
      go_wp2_with fail
      clear r0 r1 r2 fr z0 z1 z2
      have HX9 := Lib.hid (((HX0.out.set 0 (.int .i64 P)).set 1 (.int .i64 Q)).set 2 (.int .i64 G))
      have HYS := Lib.hid ((((Within.refl w.heap.size (w.heap.size + 1) u8).setCell (b := w.heap.size) (by omega) (by omega) 0 (.int .i64 P)).setCell (b := w.heap.size) (by omega) (by omega) 1 (.int .i64 Q)).setCell (b := w.heap.size) (by omega) (by omega) 2 (.int .i64 G))
      have x0 := HX9.out.cell (i := 0) rfl
      have x1 := HX9.out.cell (i := 1) rfl
      have x2 := HX9.out.cell (i := 2) rfl
      try (go_wp2_with fail)
      refine bodyPost_ret (v := .tuple #[.agg #[.int .i64 P, .int .i64 Q, .int .i64 G], .slice la ln lc, .slice ad (an - 1) (ac - 1)]) (by simp [results, Try.results122, go_sem, x0, x1, x2]) rfl ⟨⟨P, Q, G, _, l, _, (List.drop 1 (anl)), rfl, HGR.out, ((HLZ.out.toSince (Nat.le_refl _)).within HYS.out (by omega)).mono (by omega), (HAS.out.within HYS.out (by omega)).mono (by omega)⟩, ((HBw.out.setCell (p := ⟨w.heap.size, 0, none⟩) (Nat.le_refl _) _).setCell (p := ⟨w.heap.size, 1, none⟩) (Nat.le_refl _) _).setCell (p := ⟨w.heap.size, 2, none⟩) (Nat.le_refl _) _⟩
  | true =>
    go_upto_region 5 with fail
    have hgU5 : g < u4.heap.size := HC.out.lt
    have hgB5 := HZ1.out.lt
    have z_0_0 := HZ1.out.cell (i := 0) rfl
    have z_0_1 := HZ1.out.cell (i := 1) rfl
    have z_0_2 := HZ1.out.cell (i := 2) rfl
    try (go_wp2_with fail)
    refine wp_region_noPanic ?_
    refine wp_region_Q (Within g (g + 1)) (DrawS U u4 g _ 10000000 (fun w' => w'.cell? ⟨GA, 0, none⟩ = some (.int .i64 P) ∧ w'.cell? ⟨GA, 1, none⟩ = some (.int .i64 Q) ∧ w'.cell? ⟨GA, 2, none⟩ = some (.int .i64 G))) 14 [(0, []), (1, []), (2, []), (3, [0]), (4, [2, 0]), (5, []), (6, []), (7, []), (8, [0]), (9, [3, 2, 0]), (10, [9, 5])] [11] (by kernel_rfl) (by kernel_rfl) (by kernel_rfl) rfl (fun _ _ _ _ h => h) (DrawS.good _ _ _ _ _ _) ⟨(Within.refl _ _ _).drew, by simpa using HC.out.keep (Below.refl _ _).drew, ⟨box_at z_0_0 (Below.refl _ _).drew, box_at z_0_1 (Below.refl _ _).drew, box_at z_0_2 (Below.refl _ _).drew⟩⟩ ?_
    simp only [pickP, pickN, List.getElem?_cons_zero, List.getElem?_cons_succ]
    iterate 3 (refine' chainQ_read (DrawS.good _ _ _ _ _ _) _ rfl rfl (fun m w' hm' hS' => ?_) ?_; rotate_left; · (simp only [lookP, allP, Act.put, List.getElem?_cons_zero, List.getElem?_cons_succ, List.setIfInBounds_toArray, List.set_cons_zero, List.set_cons_succ]; (try dsimp only [DrawS] at hS'); go_simp; (try with_reducible rfl)))
    -- 3: call { callee := builtin Builtin.len, args := #[t36], argTypes := #[69] }
    refine chainQ_read (DrawS.good _ _ _ _ _ _) (d := (some 37)) (.int .i64 (an : Int)) rfl rfl (fun m w' hm' hS' => ?_) ?_
    · simp only [lookP, allP, Act.put, List.getElem?_cons_zero, List.getElem?_cons_succ, List.setIfInBounds_toArray, List.set_cons_zero, List.set_cons_succ]
      (try dsimp only [DrawS] at hS')
      go_simp
      (try with_reducible rfl)
    -- 4: call { callee := value (func 72), args := #[t35, t37], argTypes := #[82, 3] }
    refine chainQ_do (d := (some 38)) (fun v z => ∃ k : Nat, v = .int .i64 (k : Int) ∧ k < an) (fun v w1 w2 hw h => h) rfl rfl (fun m w' hm' hS' => ?_) ?_
    · simp only [lookP, allP, Act.put, List.getElem?_cons_zero, List.getElem?_cons_succ, List.setIfInBounds_toArray, List.set_cons_zero, List.set_cons_succ]
      intro K hK
      replace hm' : m < 11 := hm'
      go_simp
      go_at_call 72
      refine (spec_pick U g _ (an : Int) _ hS'.2.1 (hS'.1.belowOf HU.out (Nat.le_of_eq HUS.out)) (by omega)).mono ?_
      rintro e z ⟨⟨x, rfl, x0, _, xm, _⟩, hc, hw⟩
      replace xm := xm (by omega)
      obtain ⟨k, rfl⟩ := Int.eq_ofNat_of_zero_le x0
      exact hK.out _ _ hw ⟨hS'.1.trans hw, hc.mono (by omega), ⟨within_at (hS'.1.trans hw) z_0_0 (.inr (by omega)), within_at (hS'.1.trans hw) z_0_1 (.inr (by omega)), within_at (hS'.1.trans hw) z_0_2 (.inr (by omega))⟩⟩ ⟨k, rfl, by omega⟩
    iterate 3 (refine' chainQ_read (DrawS.good _ _ _ _ _ _) _ rfl rfl (fun m w' hm' hS' => ?_) ?_; rotate_left; · (simp only [lookP, allP, Act.put, List.getElem?_cons_zero, List.getElem?_cons_succ, List.setIfInBounds_toArray, List.set_cons_zero, List.set_cons_succ]; (try dsimp only [DrawS] at hS'); go_simp; (try with_reducible rfl)))
    -- 8: call { callee := value (func 72), args := #[t41, const (int i64 3)], argTypes := #[82, 3] }
    refine chainQ_do (d := (some 42)) (fun v z => ∃ x : Int, v = .int .i64 x ∧ 0 ≤ x ∧ x < 3) (fun v w1 w2 hw h => h) rfl rfl (fun m w' hm' hS' => ?_) ?_
    · simp only [lookP, allP, Act.put, List.getElem?_cons_zero, List.getElem?_cons_succ, List.setIfInBounds_toArray, List.set_cons_zero, List.set_cons_succ]
      intro K hK
      replace hm' : m < 11 := hm'
      go_simp
      go_at_call 72
      refine (spec_pick U g _ 3 _ hS'.2.1 (hS'.1.belowOf HU.out (Nat.le_of_eq HUS.out)) (by omega)).mono ?_
      rintro e z ⟨⟨x, rfl, x0, _, xm, _⟩, hc, hw⟩
      exact hK.out _ _ hw ⟨hS'.1.trans hw, hc.mono (by omega), ⟨within_at (hS'.1.trans hw) z_0_0 (.inr (by omega)), within_at (hS'.1.trans hw) z_0_1 (.inr (by omega)), within_at (hS'.1.trans hw) z_0_2 (.inr (by omega))⟩⟩ ⟨x, rfl, x0, xm (by omega)⟩
    -- 9: call { callee := value (func 100), args := #[t39, t40, t42], argTypes := #[82, 24, 3] }
    refine chainQ_do (d := (some 43)) (fun v z => ∃ (a : Option Addr) (n c : Nat) (l : List Int), v = .slice a n c ∧ Since u4.heap.size z (fun u => Ints u (.slice a n c) l)) (fun v w1 w2 hw h => by obtain ⟨a, n, c, l, e, h1⟩ := h; exact ⟨a, n, c, l, e, h1.within hw (by omega)⟩) rfl rfl (fun m w' hm' hS' => ?_) ?_
    · simp only [lookP, allP, Act.put, List.getElem?_cons_zero, List.getElem?_cons_succ, List.setIfInBounds_toArray, List.set_cons_zero, List.set_cons_succ]
      intro x8 hx8
      intro K hK
      replace hm' : m < 11 := hm'
      obtain ⟨x, rfl, xl, xu⟩ := hx8
      go_simp
      go_at_call 100
      refine (spec_anyCoinsI U g _ P Q G x _ hS'.2.1 (hS'.1.belowOf HU.out (Nat.le_of_eq HUS.out)) (by omega) HGR.out (by omega)).mono ?_
      rintro e z ⟨⟨v', l, rfl, h1, _⟩, hc, hw⟩
      have hsz0 := hS'.1.size
      obtain ⟨a, n, c, rfl⟩ := h1.here.shape
      exact hK.out _ _ hw ⟨hS'.1.trans hw, hc.mono (by omega), ⟨within_at (hS'.1.trans hw) z_0_0 (.inr (by omega)), within_at (hS'.1.trans hw) z_0_1 (.inr (by omega)), within_at (hS'.1.trans hw) z_0_2 (.inr (by omega))⟩⟩ ⟨a, n, c, l, rfl, h1.mono (by omega)⟩
    -- 10: indexAddr 69 t34 t38
    refine chainQ_have (DrawS.good _ _ _ _ _ _) (d := (some 44)) (fun v z => ∃ k : Nat, v = .pointer (some ⟨ab, k, none⟩) ∧ k < an) (fun v w1 w2 hw h => h) rfl rfl (fun m w' hm' hS' => ?_) ?_
    · simp only [lookP, allP, Act.put, List.getElem?_cons_zero, List.getElem?_cons_succ, List.setIfInBounds_toArray, List.set_cons_zero, List.set_cons_succ]
      intro x4 hx4
      obtain ⟨k, rfl, hk⟩ := hx4
      have bk : (k : Int) < (an : Int) := by omega
      refine ⟨.pointer (some ⟨ab, k, none⟩), ?_, k, rfl, hk⟩
      go_simp
    refine chainQ_nil (fun u5 hS' => ?_)
    simp only [allP, Act.put, List.setIfInBounds_toArray, List.set_cons_zero, List.set_cons_succ]
    intro x10 hx10
    intro x9 hx9
    intro x8 hx8
    intro x4 hx4
    replace hS' : DrawS U u4 g _ 10000000 _ 11 u5 := hS'
    obtain ⟨hw, hc, hC⟩ := hS'
    have HWE := Lib.hid hw
    have hsz1 := hw.size
    replace HZ1 := Lib.hid (HZ1.out.kept hw (.inr (by omega)))
    replace HC := Lib.hid hc
    clear hc hw hC
    clear z_0_0 z_0_1 z_0_2
    clear hx4 hx8
    obtain ⟨ca, cn, cc, cl, rfl, hcl⟩ := hx9
    obtain ⟨k, rfl, hk⟩ := hx10
    have HCL := Lib.hid hcl
    clear hcl
    have hw := HWE.out
    replace HX0 := Lib.hid (HX0.out.kept hw (.inl (by omega)))
    replace HU := Lib.hid (hw.belowOf HU.out (Nat.le_of_eq HUS.out))
    replace HBw := Lib.hid (hw.belowOf HBw.out (by omega))
    replace HLZ := Lib.hid (HLZ.out.within hw (by omega))
    replace HAR := Lib.hid (HAR.out.within hw (by omega))
    clear hw HWE
    obtain ⟨_, _, _, e, _, hab3, l6, fr6, _⟩ := HAR.out.pos (k := k) (by rw [HAN.out]; exact hk)
    rw [HAN.out] at e
    cases e
    have HAS : Hid (Since B0 (u5.setCell ⟨ab, k, none⟩ (.slice ca cn cc)) (fun u => RdL kInts u (.slice (some ⟨ab, 0, none⟩) an ac) (anl.set k cl))) := RowS.put HAR.out (by rw [HAN.out]; exact hk) HCL.out (by omega) (by omega)
    have hkA : ab ≠ GA := by omega
    obtain ⟨u7, hu7⟩ : ∃ V, V = u5.setCell ⟨ab, k, none⟩ (.slice ca cn cc) := ⟨_, rfl⟩
    replace HLZ : Hid (OwnZ u7 B0 (.slice none 0 0) (.slice la ln lc) l) := by unfold Hid; rw [hu7]; exact HLZ.out.rows HAR.out rfl k _
    replace HX0 : Hid (BoxN u7 w.heap.size 24 [.int .i64 0, .int .i64 0, .int .i64 0]) := by unfold Hid; rw [hu7]; exact HX0.out.other (b' := ab) (by omega) k _
    replace HZ1 : Hid (BoxN u7 GA 24 [.int .i64 P, .int .i64 Q, .int .i64 G]) := by unfold Hid; rw [hu7]; exact HZ1.out.other (b' := ab) (by omega) k _
    replace HU : Hid (Below U.heap.size U u7) := by unfold Hid; rw [hu7]; exact HU.out.setCell (p := ⟨ab, k, none⟩) (by show U.heap.size ≤ ab; have := HUS.out; omega) _
    replace HBw : Hid (Below w.heap.size w u7) := by unfold Hid; rw [hu7]; exact HBw.out.setCell (p := ⟨ab, k, none⟩) (by show w.heap.size ≤ ab; omega) _
    replace HC : Hid (Cur U u7 g 500000000) := by unfold Hid; rw [hu7]; exact (HC.out.setNew (b := ab) (by omega) k _).mono (by omega)
    have hs7 : u5.heap.size ≤ u7.heap.size := by rw [hu7]; simp
    rw [← hu7] at HAS
    go_wp2_with fail
    refine NoPanic.normal ?_
    go_upto_region 6 with fail
    rw [← hu7]
    clear l6 fr6 hu7
    go_wp2_with fail
    refine (spec_one U g _ 20 _ HC.out HU.out (by omega)).mono ?_
    rintro e u8 ⟨⟨q2, rfl⟩, hc, hw⟩
    have hs_u8 := hw.size
    replace HX0 := Lib.hid (HX0.out.kept hw (.inl (by omega)))
    replace HZ1 := Lib.hid (HZ1.out.kept hw (.inr (by omega)))
    replace HU := Lib.hid (hw.belowOf HU.out (Nat.le_of_eq HUS.out))
    replace HBw := Lib.hid (hw.belowOf HBw.out (by omega))
    replace HLZ := Lib.hid (HLZ.out.within hw (by omega))
    replace HAS := Lib.hid (HAS.out.within hw (by omega))
    clear hc hw
    cases q2 with
    | false =>
      have r0 := HX0.out.cell (i := 0) rfl
      have r1 := HX0.out.cell (i := 1) rfl
      have r2 := HX0.out.cell (i := 2) rfl
      have fr := fun j => HX0.out.frozen j
      have z0 := HZ1.out.cell (i := 0) rfl
      have z1 := HZ1.out.cell (i := 1) rfl
      have z2 := HZ1.out.cell (i := 2) rfl
      go_wp2_with fail
      clear r0 r1 r2 fr z0 z1 z2
      have HX9 := Lib.hid (((HX0.out.set 0 (.int .i64 P)).set 1 (.int .i64 Q)).set 2 (.int .i64 G))
      have HYS := Lib.hid ((((Within.refl w.heap.size (w.heap.size + 1) u8).setCell (b := w.heap.size) (by omega) (by omega) 0 (.int .i64 P)).setCell (b := w.heap.size) (by omega) (by omega) 1 (.int .i64 Q)).setCell (b := w.heap.size) (by omega) (by omega) 2 (.int .i64 G))
      have x0 := HX9.out.cell (i := 0) rfl
      have x1 := HX9.out.cell (i := 1) rfl
      have x2 := HX9.out.cell (i := 2) rfl
      try (go_wp2_with fail)
      refine bodyPost_ret (v := .tuple #[.agg #[.int .i64 P, .int .i64 Q, .int .i64 G], .slice la ln lc, .slice (some ⟨ab, 0, none⟩) an ac]) (by simp [results, Try.results122, go_sem, x0, x1, x2]) rfl ⟨⟨P, Q, G, _, l, _, (anl.set k cl), rfl, HGR.out, ((HLZ.out.toSince (Nat.le_refl _)).within HYS.out (by omega)).mono (by omega), (HAS.out.within HYS.out (by omega)).mono (by omega)⟩, ((HBw.out.setCell (p := ⟨w.heap.size, 0, none⟩) (Nat.le_refl _) _).setCell (p := ⟨w.heap.size, 1, none⟩) (Nat.le_refl _) _).setCell (p := ⟨w.heap.size, 2, none⟩) (Nat.le_refl _) _⟩
    | true =>
      obtain ⟨ad, hrun, hsl⟩ := sl_dropLU (a := some ⟨ab, 0, none⟩) (n := an) (c := ac) (x := 1) (k := 1) rfl (by omega)
      replace HAS : Hid (Since B0 u8 (fun u => RdL kInts u (.slice ad (an - 1) (ac - 1)) (List.drop 1 ((anl.set k cl))))) := fun u hs hb => hsl u _ (HAS.out u hs hb)
      clear hsl
      have r0 := HX0.out.cell (i := 0) rfl
      have r1 := HX0.out.cell (i := 1) rfl
      have r2 := HX0.out.cell (i := 2) rfl
      have fr := fun j => HX0.out.frozen j
      have z0 := HZ1.out.cell (i := 0) rfl
      have z1 := HZ1.out.cell (i := 1) rfl
      have z2 := HZ1.out.cell (i := 2) rfl
      go_wp2_with fail
      clear r0 r1 r2 fr z0 z1 z2
      have HX9 := Lib.hid (((HX0.out.set 0 (.int .i64 P)).set 1 (.int .i64 Q)).set 2 (.int .i64 G))
      have HYS := Lib.hid ((((Within.refl w.heap.size (w.heap.size + 1) u8).setCell (b := w.heap.size) (by omega) (by omega) 0 (.int .i64 P)).setCell (b := w.heap.size) (by omega) (by omega) 1 (.int .i64 Q)).setCell (b := w.heap.size) (by omega) (by omega) 2 (.int .i64 G))
      have x0 := HX9.out.cell (i := 0) rfl
      have x1 := HX9.out.cell (i := 1) rfl
      have x2 := HX9.out.cell (i := 2) rfl
      try (go_wp2_with fail)
      refine bodyPost_ret (v := .tuple #[.agg #[.int .i64 P, .int .i64 Q, .int .i64 G], .slice la ln lc, .slice ad (an - 1) (ac - 1)]) (by simp [results, Try.results122, go_sem, x0, x1, x2]) rfl ⟨⟨P, Q, G, _, l, _, (List.drop 1 ((anl.set k cl))), rfl, HGR.out, ((HLZ.out.toSince (Nat.le_refl _)).within HYS.out (by omega)).mono (by omega), (HAS.out.within HYS.out (by omega)).mono (by omega)⟩, ((HBw.out.setCell (p := ⟨w.heap.size, 0, none⟩) (Nat.le_refl _) _).setCell (p := ⟨w.heap.size, 1, none⟩) (Nat.le_refl _) _).setCell (p := ⟨w.heap.size, 2, none⟩) (Nat.le_refl _) _⟩
set_option maxRecDepth 100000 in
set_option maxHeartbeats 4000000 in
theorem spec_DrawCombineKey (v : Value) (w : World) (h : Bytes w v) :
    Calls Try.prog 34 #[v] w fun e w' => (∃ (P : Int) (Q : Int) (G : Int) (lv : Value) (l : List DealingD) (av : Value) (an : List (List Int)), e = .returned (.tuple #[.agg #[.int .i64 P, .int .i64 Q, .int .i64 G], lv, av]) ∧ GrB ⟨P, Q, G⟩ ∧ Since w.heap.size w' (fun u => RdR rDealing u lv l) ∧ Since w.heap.size w' (fun u => RdL kInts u av an)) ∧ Below w.heap.size w w' := by
  obtain ⟨a, m, c, rfl, hk1, hk2, hv⟩ := h
  have HY : Hid (Bytes w (.slice a m c)) := ⟨a, m, c, rfl, hk1, hk2, hv⟩
  clear hv
  obtain ⟨U, hU⟩ : ∃ U, U = w.alloc (.cells #[.int .i64 0, .int .i64 0, .int .i64 0] 24) := ⟨_, rfl⟩
  have hbU : Below w.heap.size w U := by rw [hU]; (repeat (first | exact Below.refl _ _ | assumption | refine Below.drew ?_ | refine Below.alloc ?_ (by first | (simp; done) | (simp; omega)) _ | refine Below.setCell ?_ (by first | (simp; done) | (simp; omega)) _))
  have HX0 : Hid (BoxN U w.heap.size 24 [.int .i64 0, .int .i64 0, .int .i64 0]) := by unfold Hid; rw [hU]; have h := (BoxN.new w [.int .i64 0, .int .i64 0, .int .i64 0] 24); simpa using h
  have hsU : w.heap.size + 1 ≤ U.heap.size := by rw [hU]; simp
  have HBw := Lib.hid hbU
  go_enter Try.func34, Try.ntmps34
  go_wp2_with fail
  rw [← hU]
  clear hU hbU
  try (go_wp2_with fail)
  refine (spec_DrawQualifiedIn _ U (HY.out.below HBw.out)).mono ?_
  rintro e u1 ⟨⟨P, Q, G, lv, l, av, an, rfl, hgr, hl, ha⟩, hb⟩
  have HGR := Lib.hid hgr
  have HLZ := Lib.hid hl
  have HAS := Lib.hid ha
  obtain ⟨la, ln, lc, rfl⟩ := hl.here.shape
  obtain ⟨aa, an', ac, rfl⟩ := ha.here.shape
  have hs1 := hb.size
  replace HX0 := Lib.hid (HX0.out.below hb)
  replace HBw := Lib.hid (HBw.out.trans (hb.mono HBw.out.size))
  clear hgr hl ha hb
  have r0 := HX0.out.cell (i := 0) rfl
  have r1 := HX0.out.cell (i := 1) rfl
  have r2 := HX0.out.cell (i := 2) rfl
  have fr := fun j => HX0.out.frozen j
  go_wp2_with fail
  clear r0 r1 r2 fr
  have HX9 := Lib.hid (((HX0.out.set 0 (.int .i64 P)).set 1 (.int .i64 Q)).set 2 (.int .i64 G))
  have HYS := Lib.hid ((((Within.refl w.heap.size (w.heap.size + 1) u1).setCell (b := w.heap.size) (by omega) (by omega) 0 (.int .i64 P)).setCell (b := w.heap.size) (by omega) (by omega) 1 (.int .i64 Q)).setCell (b := w.heap.size) (by omega) (by omega) 2 (.int .i64 G))
  have x0 := HX9.out.cell (i := 0) rfl
  have x1 := HX9.out.cell (i := 1) rfl
  have x2 := HX9.out.cell (i := 2) rfl
  try (go_wp2_with fail)
  refine bodyPost_ret (v := .tuple #[.agg #[.int .i64 P, .int .i64 Q, .int .i64 G], .slice la ln lc, .slice aa an' ac]) (by simp [results, Try.results34, go_sem, x0, x1, x2]) rfl ⟨⟨P, Q, G, _, l, _, an, rfl, HGR.out, (HLZ.out.within HYS.out (by omega)).mono (by omega), (HAS.out.within HYS.out (by omega)).mono (by omega)⟩, ((HBw.out.setCell (p := ⟨w.heap.size, 0, none⟩) (Nat.le_refl _) _).setCell (p := ⟨w.heap.size, 1, none⟩) (Nat.le_refl _) _).setCell (p := ⟨w.heap.size, 2, none⟩) (Nat.le_refl _) _⟩
end Go.Proofs.Ytacpnphfopmofaa
namespace Go.Proofs.Ytacpnphfopmofaa
open Go.RowKit
set_option linter.unusedSimpArgs false
set_option linter.unusedVariables false

theorem alB_len {gr : GroupD} {l : List DealingD} (h : alB gr l = true) : 1 ≤ l.length ∧ l.length ≤ 7 := by
  unfold alB at h
  rw [Bool.and_eq_true, decide_eq_true_iff] at h
  omega
/-- the first answers -/
def anN (gr : GroupD) (an : List (List Int)) (k : Nat) : Bool := anB gr (an.take k)
theorem anN_succ {gr : GroupD} {an : List (List Int)} {k : Nat} (h : k < an.length) : anN gr an (k + 1) = (anN gr an k && (decide (((atR an k).length : Int) ≤ 7) && (atR an k).all (expB gr))) := by
  unfold anN anB
  rw [List.take_succ_eq_append_getElem h, List.all_append, atR_eq h]
  simp
theorem anN_stop {gr : GroupD} {an : List (List Int)} {k : Nat} (h : k < an.length) (hn : (decide (((atR an k).length : Int) ≤ 7) && (atR an k).all (expB gr)) = false) : anB gr an = false := by
  unfold anB
  rw [List.all_eq_false]
  exact ⟨atR an k, atR_mem h, by rw [hn]; simp⟩
set_option maxRecDepth 100000 in
set_option maxHeartbeats 2000000 in
theorem spec_kgInput (gr : GroupD) (lv : Value) (l : List DealingD) (w : World) (hl : RdR rDealing w lv l) :
    Calls Try.prog 172 #[.agg #[.int .i64 gr.p, .int .i64 gr.q, .int .i64 gr.g], lv] w fun e w' => e = .returned (.bool (kiB gr l)) ∧ Below w.heap.size w w' := by
  obtain ⟨lva, lvn, lvc, rfl⟩ := hl.shape
  have Elv := Lib.hid hl.len
  have Klv := Lib.hid hl.capMax
  have Hlv := Lib.hid hl
  clear hl
  obtain ⟨W, hW⟩ : ∃ W, W = w.alloc (.cells #[.int .i64 gr.p, .int .i64 gr.q, .int .i64 gr.g] 24) := ⟨_, rfl⟩
  have HB : Hid (Below w.heap.size w W) := by unfold Hid; rw [hW]; (repeat (first | exact Below.refl _ _ | assumption | refine Below.drew ?_ | refine Below.alloc ?_ (by first | (simp; done) | (simp; omega)) _ | refine Below.setCell ?_ (by first | (simp; done) | (simp; omega)) _))
  have c0_0 : W.cell? ⟨w.heap.size, 0, none⟩ = some (.int .i64 gr.p) := by rw [hW]; simp [go_sem]
  have c0_1 : W.cell? ⟨w.heap.size, 1, none⟩ = some (.int .i64 gr.q) := by rw [hW]; simp [go_sem]
  have c0_2 : W.cell? ⟨w.heap.size, 2, none⟩ = some (.int .i64 gr.g) := by rw [hW]; simp [go_sem]
  have HSW : Hid (W.heap.size = w.heap.size + 1) := by unfold Hid; rw [hW]; simp
  go_enter Try.func172, Try.ntmps172
  go_wp2_with fail
  rw [← hW]
  have hse : w.heap.size + 1 = W.heap.size := by have := HSW.out; omega
  (try rw [hse])
  clear hse
  clear hW
  have hc : Below W.heap.size W W := Below.refl _ _
  have HCC : Hid (∀ u, Below W.heap.size W u → u.cell? ⟨w.heap.size, 0, none⟩ = some (.int .i64 gr.p) ∧ u.cell? ⟨w.heap.size, 1, none⟩ = some (.int .i64 gr.q) ∧ u.cell? ⟨w.heap.size, 2, none⟩ = some (.int .i64 gr.g)) := fun u h => ⟨box_at c0_0 h, box_at c0_1 h, box_at c0_2 h⟩
  go_wp2_with fail
  refine (spec_sGroup gr _).mono ?_
  rintro e u1 ⟨rfl, hq1⟩
  replace hc := Below.next hc hq1
  clear hq1 c0_0 c0_1 c0_2
  obtain ⟨c0_0, c0_1, c0_2⟩ := HCC.out _ hc
  cases hc1 : shG gr with
  | false =>
    have Hhc1 := Lib.hid hc1
    clear hc1
    go_wp2_with fail
    have HV : Hid ((.bool (kiB gr l) : Value) = .bool false) := by unfold Hid; simp [kiB, Hhc1.out]
    go_ret
    exact ⟨congrArg Ending.returned HV.out.symm, HB.out.trans (hc.mono HB.out.size)⟩
  | true =>
    have HG := Lib.hid (shG_ok hc1)
    have Hhc1 := Lib.hid hc1
    clear hc1
    go_wp2_with fail
    refine (spec_sAlike gr _ l _ HG.out (Hlv.out.below (HB.out.trans (hc.mono HB.out.size)))).mono ?_
    rintro e u2 ⟨rfl, hq2⟩
    replace hc := Below.next hc hq2
    clear hq2 c0_0 c0_1 c0_2
    obtain ⟨c0_0, c0_1, c0_2⟩ := HCC.out _ hc
    cases hc2 : alB gr l with
    | false =>
      have Hhc2 := Lib.hid hc2
      clear hc2
      go_wp2_with fail
      have HV : Hid ((.bool (kiB gr l) : Value) = .bool false) := by unfold Hid; simp [kiB, Hhc1.out, Hhc2.out]
      go_ret
      exact ⟨congrArg Ending.returned HV.out.symm, HB.out.trans (hc.mono HB.out.size)⟩
    | true =>
      have HL0 := Lib.hid (alB_len hc2)
      have hl0 := HL0.out.1
      obtain ⟨lb, lo, a0, n0, k0, a1, n1, k1, e, x0, x1, f0, f1⟩ := RdDl.first Hlv.out hl0
      have e' := e
      subst e'
      clear e
      have HN1 : Hid ((hdD l).s.length = n1) := by unfold Hid; rw [hdD_eq hl0]; exact f1.len
      have KX1 := Lib.hid x1
      have v1 := box_at x1 (HB.out.trans (hc.mono HB.out.size))
      have bl0 : (0 : Int) < (lvn : Int) := by have := Elv.out; omega
      have bl1 : 0 < lvn := by have := Elv.out; omega
      clear x0 x1 f0 f1
      replace HCC : Hid (∀ u, Below W.heap.size W u → u.cell? ⟨w.heap.size, 0, none⟩ = some (.int .i64 gr.p) ∧ u.cell? ⟨w.heap.size, 1, none⟩ = some (.int .i64 gr.q) ∧ u.cell? ⟨w.heap.size, 2, none⟩ = some (.int .i64 gr.g) ∧ u.cell? ⟨lb, lo + 1, none⟩ = some ((.slice a1 n1 k1))) := fun u h => by obtain ⟨c0_0, c0_1, c0_2⟩ := HCC.out u h; exact ⟨c0_0, c0_1, c0_2, box_at KX1.out (HB.out.trans (h.mono HB.out.size))⟩
      have Hhc2 := Lib.hid hc2
      clear hc2
      cases hc3 : ((n1 : Int) == (lvn : Int)) with
      | false =>
        have HEQ : Hid (decide ((hdD l).s.length = l.length) = false) := by have q := hc3; rw [beq_eq_false_iff_ne] at q; have := HN1.out; have := Elv.out; unfold Hid; exact decide_eq_false (by omega)
        go_wp2_with fail
        have HV : Hid ((.bool (kiB gr l) : Value) = .bool false) := by unfold Hid; simp [kiB, Hhc1.out, Hhc2.out, HEQ.out]
        go_ret
        exact ⟨congrArg Ending.returned HV.out.symm, HB.out.trans (hc.mono HB.out.size)⟩
      | true =>
        have HEQ : Hid (decide ((hdD l).s.length = l.length) = true) := by have q := hc3; rw [beq_iff_eq] at q; have := HN1.out; have := Elv.out; unfold Hid; exact decide_eq_true (by omega)
        go_wp2_with fail
        have HV : Hid ((.bool (kiB gr l) : Value) = .bool true) := by unfold Hid; simp [kiB, Hhc1.out, Hhc2.out, HEQ.out]
        go_ret
        exact ⟨congrArg Ending.returned HV.out.symm, HB.out.trans (hc.mono HB.out.size)⟩
set_option maxRecDepth 100000 in
set_option maxHeartbeats 2000000 in
theorem spec_kgAnswers (gr : GroupD) (lv : Value) (l : List DealingD) (av : Value) (an : List (List Int)) (w : World) (hl : RdR rDealing w lv l) (ha : RdL kInts w av an) :
    Calls Try.prog 125 #[.agg #[.int .i64 gr.p, .int .i64 gr.q, .int .i64 gr.g], lv, av] w fun e w' => e = .returned (.bool (kaB gr l an)) ∧ Below w.heap.size w w' := by
  obtain ⟨lva, lvn, lvc, rfl⟩ := hl.shape
  have Elv := Lib.hid hl.len
  have Klv := Lib.hid hl.capMax
  have Hlv := Lib.hid hl
  clear hl
  obtain ⟨ava, avn, avc, rfl⟩ := ha.shape
  have Eav := Lib.hid ha.len
  have Kav := Lib.hid ha.capMax
  have Hav := Lib.hid ha
  clear ha
  obtain ⟨W, hW⟩ : ∃ W, W = w.alloc (.cells #[.int .i64 gr.p, .int .i64 gr.q, .int .i64 gr.g] 24) := ⟨_, rfl⟩
  have HB : Hid (Below w.heap.size w W) := by unfold Hid; rw [hW]; (repeat (first | exact Below.refl _ _ | assumption | refine Below.drew ?_ | refine Below.alloc ?_ (by first | (simp; done) | (simp; omega)) _ | refine Below.setCell ?_ (by first | (simp; done) | (simp; omega)) _))
  have c0_0 : W.cell? ⟨w.heap.size, 0, none⟩ = some (.int .i64 gr.p) := by rw [hW]; simp [go_sem]
  have c0_1 : W.cell? ⟨w.heap.size, 1, none⟩ = some (.int .i64 gr.q) := by rw [hW]; simp [go_sem]
  have c0_2 : W.cell? ⟨w.heap.size, 2, none⟩ = some (.int .i64 gr.g) := by rw [hW]; simp [go_sem]
  have HSW : Hid (W.heap.size = w.heap.size + 1) := by unfold Hid; rw [hW]; simp
  go_enter Try.func125, Try.ntmps125
  go_wp2_with fail
  rw [← hW]
  have hse : w.heap.size + 1 = W.heap.size := by have := HSW.out; omega
  (try rw [hse])
  clear hse
  clear hW
  have hc : Below W.heap.size W W := Below.refl _ _
  have HCC : Hid (∀ u, Below W.heap.size W u → u.cell? ⟨w.heap.size, 0, none⟩ = some (.int .i64 gr.p) ∧ u.cell? ⟨w.heap.size, 1, none⟩ = some (.int .i64 gr.q) ∧ u.cell? ⟨w.heap.size, 2, none⟩ = some (.int .i64 gr.g)) := fun u h => ⟨box_at c0_0 h, box_at c0_1 h, box_at c0_2 h⟩
  go_wp2_with fail
  refine (spec_kgInput gr _ l _ (Hlv.out.below (HB.out.trans (hc.mono HB.out.size)))).mono ?_
  rintro e u1 ⟨rfl, hq1⟩
  replace hc := Below.next hc hq1
  clear hq1 c0_0 c0_1 c0_2
  obtain ⟨c0_0, c0_1, c0_2⟩ := HCC.out _ hc
  cases hc1 : kiB gr l with
  | false =>
    have Hhc1 := Lib.hid hc1
    clear hc1
    go_wp2_with fail
    have HV : Hid ((.bool (kaB gr l an) : Value) = .bool false) := by unfold Hid; simp [kaB, Hhc1.out]
    go_ret
    exact ⟨congrArg Ending.returned HV.out.symm, HB.out.trans (hc.mono HB.out.size)⟩
  | true =>
    have HKI := Lib.hid hc1
    have HG := Lib.hid (shG_ok (by have q := hc1; unfold kiB at q; rw [Bool.and_eq_true] at q; exact q.1))
    have Hhc1 := Lib.hid hc1
    clear hc1
    cases hc2 : ((avn : Int) != (lvn : Int)) with
    | false =>
      have HLT : Hid (decide (an.length = l.length) = true) := by have q := hc2; rw [bne_eq_false_iff_eq] at q; have := Eav.out; have := Elv.out; unfold Hid; exact decide_eq_true (by omega)
      obtain ⟨uE, rfl⟩ : ∃ z, z = u1 := ⟨_, rfl⟩
      have HBS := Lib.hid (HB.out.trans (hc.mono HB.out.size))
      have HWS := Lib.hid hc
      go_wp2_with fail
      clear hc c0_0 c0_1 c0_2
      go_loopg [22] avn (fun gk iv wr => ∃ (k : Nat), k + gk = avn ∧ iv = .int .i64 (k : Int) ∧ Hid (anN gr an k = true) ∧ Hid (Below uE.heap.size uE wr))
      case atStart => exact ⟨0, by omega, rfl, Lib.hid rfl, Below.refl _ _⟩
      case round =>
        obtain ⟨k, hkg, rfl, HAN, HBr⟩ := hrel
        have HBW := Lib.hid (HBS.out.trans (HBr.out.mono HBS.out.size))
        have cc := HCC.out wr (Below.next HWS.out HBr.out)
        by_cases hlt : k < avn
        · have hgk : avn - (k + 1) < gk := by omega
          have hb : decide ((k : Int) < (avn : Int)) = true := decide_eq_true (by omega)
          have hb2 : decide (k < avn) = true := decide_eq_true hlt
          have HKA : Hid (k < an.length) := by unfold Hid; have := Eav.out; omega
          obtain ⟨ba, oa2, hba, vs, hrv⟩ := Hav.out.at_ (by omega)
          have hba' := hba
          subst hba'
          clear hba
          have hra := hrv k HKA.out
          obtain ⟨vr, hvr⟩ : ∃ z, vs k = z := ⟨_, rfl⟩
          rw [hvr] at hra
          obtain ⟨hcr, hir⟩ := hra
          replace hir : Ints w vr (an[k]'HKA.out) := hir
          rw [← atR_eq HKA.out] at hir
          clear hvr hrv
          obtain ⟨OW, hOW⟩ : ∃ z, atR an k = z := ⟨_, rfl⟩
          rw [hOW] at hir
          have HOW := Lib.hid hOW
          clear hOW
          obtain ⟨ra, rn, rc, rfl⟩ := hir.shape
          have Hrw := Lib.hid hir
          have HRN := Lib.hid hir.len
          have KR := Lib.hid hcr
          clear hir hcr
          have hcapk := Kav.out
          unfold maxLen at hcapk
          have b0 : (0 : Int) ≤ (k : Int) := by omega
          have bk1 : (k : Int) < (avn : Int) := by omega
          have hwk : IntKind.i64.wrap ((k : Int) + 1) = (k : Int) + 1 := IntWalk.i64_in _ (by omega)
          obtain ⟨c0_0, c0_1, c0_2⟩ := cc
          have y1 := box_at KR.out HBW.out
          have HBN : Hid (Below w.heap.size w wr) := HBW
          clear HB HCC
          (try clear hc)
          obtain ⟨W, rfl⟩ : ∃ z, z = wr := ⟨_, rfl⟩
          have HB := HBN
          clear HBN
          have hc : Below W.heap.size W W := Below.refl _ _
          have HCC : Hid (∀ u, Below W.heap.size W u → u.cell? ⟨w.heap.size, 0, none⟩ = some (.int .i64 gr.p) ∧ u.cell? ⟨w.heap.size, 1, none⟩ = some (.int .i64 gr.q) ∧ u.cell? ⟨w.heap.size, 2, none⟩ = some (.int .i64 gr.g) ∧ u.cell? ⟨ba, oa2 + k, none⟩ = some ((.slice ra rn rc))) := fun u h => ⟨box_at c0_0 h, box_at c0_1 h, box_at c0_2 h, box_at y1 h⟩
          clear HBW
          cases hc3 : decide (7 < (rn : Int)) with
          | false =>
            have hcp7 : ¬ 7 < rn := by have q := of_decide_eq_false hc3; omega
            have hcn7 : decide (7 < rn) = false := decide_eq_false hcp7
            have H7 : Hid (decide ((OW.length : Int) ≤ 7) = true) := by have := HRN.out; unfold Hid; exact decide_eq_true (by omega)
            go_wp2_with fail
            refine (spec_gExps gr _ OW _ HG.out (Hrw.out.below (HB.out.trans (hc.mono HB.out.size)))).mono ?_
            rintro e u2 ⟨rfl, hq2⟩
            replace hc := Below.next hc hq2
            clear hq2 c0_0 c0_1 c0_2 y1
            obtain ⟨c0_0, c0_1, c0_2, y1⟩ := HCC.out _ hc
            cases hc4 : (OW.all (expB gr)) with
            | false =>
              have HNO : Hid (anB gr an = false) := anN_stop HKA.out (by rw [HOW.out, hc4, Bool.and_false])
              have Hhc4 := Lib.hid hc4
              clear hc4
              go_wp2_with fail
              have HV : Hid ((.bool (kaB gr l an) : Value) = .bool false) := by unfold Hid; unfold kaB; rw [HKI.out, HLT.out, HNO.out]; rfl
              go_ret
              exact ⟨congrArg Ending.returned HV.out.symm, HB.out.trans (hc.mono HB.out.size)⟩
            | true =>
              have HYS : Hid (anN gr an (k + 1) = true) := by unfold Hid; rw [anN_succ HKA.out, HAN.out, HOW.out, H7.out, hc4]; rfl
              have Hhc4 := Lib.hid hc4
              clear hc4
              have HBZ := Lib.hid (HBr.out.trans (hc.mono HBr.out.size))
              go_wp2_with fail
              clear c0_0 c0_1 c0_2 y1
              go_roundg (avn - (k + 1))
              case measure => exact hgk
              case rel => exact ⟨k + 1, by omega, by go_num, HYS, HBZ⟩
          | true =>
            have hcp7 : 7 < rn := by have q := of_decide_eq_true hc3; omega
            have hcn7 : decide (7 < rn) = true := decide_eq_true hcp7
            have HNO : Hid (anB gr an = false) := anN_stop HKA.out (by rw [HOW.out, decide_eq_false (by have := HRN.out; omega)]; rfl)
            go_wp2_with fail
            have HV : Hid ((.bool (kaB gr l an) : Value) = .bool false) := by unfold Hid; unfold kaB; rw [HKI.out, HLT.out, HNO.out]; rfl
            go_ret
            exact ⟨congrArg Ending.returned HV.out.symm, HB.out.trans (hc.mono HB.out.size)⟩
        · obtain rfl : avn = k := by omega
          have hb : decide ((avn : Int) < (avn : Int)) = false := decide_eq_false (by omega)
          have hb2 : decide (avn < avn) = false := decide_eq_false (by omega)
          have HAL : Hid (anB gr an = true) := by have h := HAN.out; unfold anN at h; rwa [List.take_of_length_le (by rw [Eav.out]; exact Nat.le_refl _)] at h
          have HV : Hid ((.bool (kaB gr l an) : Value) = .bool true) := by unfold Hid kaB; rw [HKI.out, HLT.out, HAL.out]; rfl
          clear cc
          go_wp2_with fail
          go_ret
          exact ⟨by rw [HV.out]; rfl, HBW.out⟩
    | true =>
      have HLT : Hid (decide (an.length = l.length) = false) := by have q := hc2; rw [bne_iff_ne] at q; have := Eav.out; have := Elv.out; unfold Hid; exact decide_eq_false (by omega)
      go_wp2_with fail
      have HV : Hid ((.bool (kaB gr l an) : Value) = .bool false) := by unfold Hid; simp [kaB, Hhc1.out, HLT.out]
      go_ret
      exact ⟨congrArg Ending.returned HV.out.symm, HB.out.trans (hc.mono HB.out.size)⟩
end Go.Proofs.Ytacpnphfopmofaa
