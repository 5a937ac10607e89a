/- Walks: SignEntry. -/
import Derived.Test.YtapfceghgkmgoaaSign2
import Derived.Test.YtapfceghgkmgoaaVEntry
namespace Go.Proofs.Ytapfceghgkmgoaa
open Go.RowKit
set_option linter.unusedSimpArgs false
set_option linter.unusedVariables false

/-- an entry may be signed -/
noncomputable def seB (gr : GroupD) (x k a t : Int) (l : List Int) (c : Int) : Bool := edB k a t l && (goodG gr && (expB gr x && expB gr c))
noncomputable def seD (gr : GroupD) (x k a t : Int) (l : List Int) (c : Int) : EntryD := if seB gr x k a t l c = true then ⟨k, a, l, pvD gr (enLabel k a t l) [[gr.g]] [x] [c]⟩ else ⟨0, 0, [], zProof⟩
theorem own_entry {w : World} {lo hi l1 h1 l2 h2 : Nat} {k a : Int} {v : Value} {l : List Int} {vs : List Value} {d : ProofD} (hv : InI w l1 h1 v l) (h : (kS rProof).own w l2 h2 (.agg vs.toArray) d) (hk : I64 k) (ha : I64 a)
    (q1 : lo ≤ l1 ∧ h1 ≤ hi) (q2 : lo ≤ l2 ∧ h2 ≤ hi) (q3 : h1 ≤ l2 ∨ h2 ≤ l1) :
    (kS rEntry).own w lo hi (.agg (.int .i64 k :: .int .i64 a :: v :: vs).toArray) ⟨k, a, l, d⟩ := by
  obtain ⟨vs', e, h⟩ := h
  obtain rfl : vs = vs' := by have h := Value.agg.inj e; simpa using congrArg Array.toList h
  exact ⟨_, rfl, ⟨_, rfl, hk, ⟨_, rfl, ha, ⟨_, _, l1, h1, l2, h2, rfl, hv, h, q1, q2, q3⟩⟩⟩⟩
theorem own_entry0 (w : World) (lo hi : Nat) (h : lo ≤ hi) : (kS rEntry).own w lo hi (.agg #[.int .i64 0, .int .i64 0, .slice none 0 0, .slice none 0 0, .slice none 0 0, .slice none 0 0]) ⟨0, 0, [], zProof⟩ :=
  own_entry (vs := [.slice none 0 0, .slice none 0 0, .slice none 0 0]) (l1 := lo) (h1 := lo) (l2 := lo) (h2 := lo) ⟨OwnI.nil w lo, fun k hk => by cases hk⟩ (own_zProof _ _ _ (Nat.le_refl _)) ⟨by decide, by decide⟩ ⟨by decide, by decide⟩ ⟨Nat.le_refl _, h⟩ ⟨Nat.le_refl _, h⟩ (.inl (Nat.le_refl _))
set_option maxRecDepth 100000 in
set_option maxHeartbeats 8000000 in
theorem impl_SignEntry (gr : GroupD) (x k a t : Int) (vl : Value) (l : List Int) (c : Int) (w : World) (hgr : I64 gr.g) (hx : I64 x) (hk : I64 k) (ha : I64 a) (ht : I64 t) (hl : Ints w vl l) (hc : I64 c) :
    Calls Try.prog 57 #[.agg #[.int .i64 gr.p, .int .i64 gr.q, .int .i64 gr.g], .int .i64 x, .int .i64 k, .int .i64 a, .int .i64 t, vl, .int .i64 c] w fun e w' => ∃ v, e = .returned (.tuple #[v, .bool (seB gr x k a t l c)]) ∧ (kS rEntry).own w' w.heap.size w'.heap.size v (seD gr x k a t l c) ∧ Below w.heap.size w w' := by
  have JG := Lib.hid hgr; have JX := Lib.hid hx; have JC := Lib.hid hc; have JA := Lib.hid ha; have JK := Lib.hid hk; have JT := Lib.hid ht
  have HLI := Lib.hid hl
  clear hgr hx hc ha hk ht hl
  have HLS : Hid ((enLabel k a t l).size ≤ 40) := by unfold Hid; rw [enLabel_size]; omega
  (obtain ⟨q1, h_q⟩ : ∃ b_q, edB k a t l = b_q := ⟨_, rfl⟩); have H1 := Lib.hid h_q; clear h_q
  (obtain ⟨q2, h_q⟩ : ∃ b_q, (goodG gr && (expB gr x && expB gr c)) = b_q := ⟨_, rfl⟩); have H2 := Lib.hid h_q; clear h_q
  have HB : Hid (seB gr x k a t l c = (q1 && q2)) := by unfold Hid seB; rw [H1.out, H2.out]
  have HD : Hid (seD gr x k a t l c = if (q1 && q2) = true then ⟨k, a, l, pvD gr (enLabel k a t l) [[gr.g]] [x] [c]⟩ else ⟨0, 0, [], zProof⟩) := by unfold Hid seD; rw [HB.out]
  have HPB : Hid (plB gr (enLabel k a t l) [[gr.g]] [x] [c] = q2) := by unfold Hid; rw [plB_1 HLS.out]; exact H2.out
  have HPD : Hid (plD gr (enLabel k a t l) [[gr.g]] [x] [c] = if q2 = true then pvD gr (enLabel k a t l) [[gr.g]] [x] [c] else zProof) := by unfold Hid plD; rw [HPB.out]
  have HDG := Lib.hid (enD_digest k a t l)
  have HLBL : Hid (sgLabel sEntrySp (enD k a t l) = enLabel k a t l) := by unfold Hid enLabel; rfl
  rw [HB.out, HD.out]
  obtain ⟨p, q, g⟩ := gr
  obtain ⟨W, hW⟩ : ∃ W, W = (w.alloc (.cells #[.int .i64 p, .int .i64 q, .int .i64 g] 88)).alloc (.cells #[.int .i64 0, .int .i64 0, .slice none 0 0, .slice none 0 0, .slice none 0 0, .slice none 0 0] 94) := ⟨_, rfl⟩
  have HWB : Hid (Below w.heap.size w W) := by unfold Hid; rw [hW]; (repeat (first | exact Below.refl _ _ | assumption | refine Below.drew ?_ | refine Below.alloc ?_ (by first | (simp; done) | (simp; omega)) _ | refine Below.setCell ?_ (by first | (simp; done) | (simp; omega)) _))
  have hsW : W.heap.size = w.heap.size + 2 := by rw [hW]; simp
  have p0 : W.cell? ⟨w.heap.size, 0, none⟩ = some (.int .i64 p) := by rw [hW]; simp [go_sem]
  have p1 : W.cell? ⟨w.heap.size, 1, none⟩ = some (.int .i64 q) := by rw [hW]; simp [go_sem]
  have p2 : W.cell? ⟨w.heap.size, 2, none⟩ = some (.int .i64 g) := by rw [hW]; simp [go_sem]
  have hs1 : (w.alloc (.cells #[.int .i64 p, .int .i64 q, .int .i64 g] 88)).heap.size = w.heap.size + 1 := by simp
  have BR : Hid (BoxN W (w.heap.size + 1) 94 [.int .i64 0, .int .i64 0, .slice none 0 0, .slice none 0 0, .slice none 0 0, .slice none 0 0]) := by unfold Hid; rw [hW, ← hs1]; exact BoxN.new _ [.int .i64 0, .int .i64 0, .slice none 0 0, .slice none 0 0, .slice none 0 0, .slice none 0 0] _
  have FX : Hid (∀ W', Below W.heap.size W W' → W'.cell? ⟨w.heap.size, 0, none⟩ = some (.int .i64 p) ∧ W'.cell? ⟨w.heap.size, 1, none⟩ = some (.int .i64 q) ∧ W'.cell? ⟨w.heap.size, 2, none⟩ = some (.int .i64 g)) := fun W' hb => ⟨box_at p0 hb, box_at p1 hb, box_at p2 hb⟩
  have hcum : Below W.heap.size W W := Below.refl _ _
  clear hs1
  have HW := Lib.hid hW
  clear hW
  go_enter Try.func57, Try.ntmps57
  go_wp2_with fail
  rw [← HW.out]
  clear hcum
  refine (impl_EntryDigest k a t _ l _ (HLI.out.below HWB.out)).mono ?_
  rintro e W ⟨rfl, hb0⟩
  rw [H1.out]
  replace p0 := box_at p0 hb0
  replace p1 := box_at p1 hb0
  replace p2 := box_at p2 hb0
  replace BR := Lib.hid (BR.out.below hb0)
  replace HWB := Lib.hid (Below.next HWB.out hb0)
  replace hsW : w.heap.size + 2 ≤ W.heap.size := by have := hb0.size; omega
  clear FX HW hb0
  have FX : Hid (∀ W', Below W.heap.size W W' → W'.cell? ⟨w.heap.size, 0, none⟩ = some (.int .i64 p) ∧ W'.cell? ⟨w.heap.size, 1, none⟩ = some (.int .i64 q) ∧ W'.cell? ⟨w.heap.size, 2, none⟩ = some (.int .i64 g)) := fun W' hb => ⟨box_at p0 hb, box_at p1 hb, box_at p2 hb⟩
  have hcum : Below W.heap.size W W := Below.refl _ _
  cases q1 with
  | false =>
    have BU := Lib.hid (BR.out.below hcum)
    have r0 := BU.out.cell (i := 0) rfl
    have r1 := BU.out.cell (i := 1) rfl
    have r2 := BU.out.cell (i := 2) rfl
    have r3 := BU.out.cell (i := 3) rfl
    have r4 := BU.out.cell (i := 4) rfl
    have r5 := BU.out.cell (i := 5) rfl
    have fr := BU.out.frozen
    have hlw := hcum.size
    go_wp2_with fail
    try have hsW := HSW.out
    obtain ⟨Z, hZ⟩ : ∃ Z, Z = (((((W.setCell ⟨w.heap.size + 1, 0, none⟩ (.int .i64 0)).setCell ⟨w.heap.size + 1, 1, none⟩ (.int .i64 0)).setCell ⟨w.heap.size + 1, 2, none⟩ (.slice none 0 0)).setCell ⟨w.heap.size + 1, 3, none⟩ (.slice none 0 0)).setCell ⟨w.heap.size + 1, 4, none⟩ (.slice none 0 0)).setCell ⟨w.heap.size + 1, 5, none⟩ (.slice none 0 0) := ⟨_, rfl⟩
    rw [← hZ]
    have hwz : Within (w.heap.size + 1) (w.heap.size + 2) W Z := by rw [hZ]; exact (((((Within.refl _ _ _ |>.setCell (by omega) (by omega) _ _) |>.setCell (by omega) (by omega) _ _) |>.setCell (by omega) (by omega) _ _) |>.setCell (by omega) (by omega) _ _) |>.setCell (by omega) (by omega) _ _) |>.setCell (by omega) (by omega) _ _
    have hZs : Z.heap.size = W.heap.size := by rw [hZ]; simp only [size_setC]
    have BZ : BoxN Z (w.heap.size + 1) 94 [(.int .i64 0), (.int .i64 0), (.slice none 0 0), (.slice none 0 0), (.slice none 0 0), (.slice none 0 0)] := by rw [hZ]; exact (((((BU.out.set 0 _).set 1 _).set 2 _).set 3 _).set 4 _).set 5 _
    have HZB := Lib.hid ((Below.next HWB.out hcum).trans (hwz.below (B := w.heap.size) (by omega) (by omega)))
    clear hZ r0 r1 r2 r3 r4 r5 fr
    have r0 := BZ.cell (i := 0) rfl
    have r1 := BZ.cell (i := 1) rfl
    have r2 := BZ.cell (i := 2) rfl
    have r3 := BZ.cell (i := 3) rfl
    have r4 := BZ.cell (i := 4) rfl
    have r5 := BZ.cell (i := 5) rfl
    refine bodyPost_ret (v := .tuple #[.agg #[.int .i64 0, .int .i64 0, .slice none 0 0, .slice none 0 0, .slice none 0 0, .slice none 0 0], .bool false]) (by simp [results, Try.results57, go_sem, r0, r1, r2, r3, r4, r5]) rfl ⟨_, rfl, own_entry0 _ _ _ (by omega), HZB.out⟩
  | true =>
    have HEI : Hid (edI k a t l = enD k a t l) := edI_yes H1.out
    have HLN := Lib.hid (edB_parts H1.out).2.2.1
    rw [HEI.out]
    go_wp2_with fail
    have HSW := Lib.hid hsW
    clear hsW
    go_region_held3 (fun w' => Below W.heap.size W w' ∧ w'.cell? ⟨w.heap.size, 0, none⟩ = some (.int .i64 p) ∧ w'.cell? ⟨w.heap.size, 1, none⟩ = some (.int .i64 q) ∧ w'.cell? ⟨w.heap.size, 2, none⟩ = some (.int .i64 g)) ((refine SOf2 (fun hbq => ⟨box_at p0 hbq, box_at p1 hbq, box_at p2 hbq⟩) ?_; first | exact (Below.refl _ _).drew | exact ((Below.refl _ _).alloc (Nat.le_refl _) _).drew | assumption | exact keep_al (by assumption) _ | exact Below.setCell (Below.setCell (Below.setCell (by assumption) (by first | exact Nat.le_refl _ | (dsimp only; omega)) _) (by first | exact Nat.le_refl _ | (dsimp only; omega)) _) (by first | exact Nat.le_refl _ | (dsimp only; omega)) _ | fail)) ((first
      | (go_at_call 149; refine (impl_signLabel sEntrySp _ _ HDG.out (by decide)).mono ?_; rintro e w1 ⟨rfl, hb1⟩; rw [HLBL.out]; (have hbz : Below W.heap.size W w1 := keep_b hb1 (And.left (by assumption))); (have us := hbz.size); (first | (have BB := Lib.hid (BoxN.below (BoxN.newD _ [.slice none 0 0, .slice none 0 0, .slice none 0 0] 47) hb1)) | skip))
      | (go_at_call 144; refine (impl_ProveKnowledge ⟨p, q, g⟩ _ g x c _ (by have := HLS.out; omega) JG.out JX.out JC.out).mono ?_; rintro e w2 ⟨v2, rfl, ho2, hb2⟩; (have HO2 := Lib.hid ho2); (obtain ⟨a1, m1, c1, a2, m2, c2, a3, m3, c3, rfl, _, _, _⟩ := rdProof.1 ((kS rProof).own_rd ho2)); clear ho2; rw [HPB.out]; (have hbz2 : Below W.heap.size W w2 := keep_b hb2 (And.left (by assumption))); (have us2 := hbz2.size); (first | (have BB2 := Lib.hid (BB.out.below hb2); (have y0 := BB2.out.cell (i := 0) rfl); (have y1 := BB2.out.cell (i := 1) rfl); (have y2 := BB2.out.cell (i := 2) rfl); (have fy := BB2.out.frozen)) | (have BB2 := Lib.hid (BoxN.below (BoxN.new _ [.slice none 0 0, .slice none 0 0, .slice none 0 0] 47) hb2); (have y0 := BB2.out.cell (i := 0) rfl); (have y1 := BB2.out.cell (i := 1) rfl); (have y2 := BB2.out.cell (i := 2) rfl); (have fy := BB2.out.frozen)) | skip))
      | fail))
    · obtain ⟨U, hU⟩ : ∃ U, U = w2.alloc (.cells #[.slice a1 m1 c1, .slice a2 m2 c2, .slice a3 m3 c3] 47) := ⟨_, rfl⟩
      rw [← hU]
      have hcum : Below W.heap.size W U := by rw [hU]; exact keep_al hbz2 _
      have HOU := Lib.hid ((kS rProof).own_mono (Kind.next (K := kS rProof) HO2.out (show Below w2.heap.size w2 U by rw [hU]; exact keep_al (Below.refl _ _) _)) us (show w2.heap.size ≤ U.heap.size by rw [hU]; simp))
      have y0 : U.cell? ⟨w2.heap.size, 0, none⟩ = some (.slice a1 m1 c1) := by rw [hU]; simp [go_sem]
      have y1 : U.cell? ⟨w2.heap.size, 1, none⟩ = some (.slice a2 m2 c2) := by rw [hU]; simp [go_sem]
      have y2 : U.cell? ⟨w2.heap.size, 2, none⟩ = some (.slice a3 m3 c3) := by rw [hU]; simp [go_sem]
      clear hU
      have hszU := hcum.size
      clear p0 p1 p2
      cases q2 with
      | false =>
        have BU := Lib.hid (BR.out.below hcum)
        have r0 := BU.out.cell (i := 0) rfl
        have r1 := BU.out.cell (i := 1) rfl
        have r2 := BU.out.cell (i := 2) rfl
        have r3 := BU.out.cell (i := 3) rfl
        have r4 := BU.out.cell (i := 4) rfl
        have r5 := BU.out.cell (i := 5) rfl
        have fr := BU.out.frozen
        have hlw := hcum.size
        go_wp2_with fail
        try have hsW := HSW.out
        obtain ⟨Z, hZ⟩ : ∃ Z, Z = (((((U.setCell ⟨w.heap.size + 1, 0, none⟩ (.int .i64 0)).setCell ⟨w.heap.size + 1, 1, none⟩ (.int .i64 0)).setCell ⟨w.heap.size + 1, 2, none⟩ (.slice none 0 0)).setCell ⟨w.heap.size + 1, 3, none⟩ (.slice none 0 0)).setCell ⟨w.heap.size + 1, 4, none⟩ (.slice none 0 0)).setCell ⟨w.heap.size + 1, 5, none⟩ (.slice none 0 0) := ⟨_, rfl⟩
        rw [← hZ]
        have hwz : Within (w.heap.size + 1) (w.heap.size + 2) U Z := by rw [hZ]; exact (((((Within.refl _ _ _ |>.setCell (by omega) (by omega) _ _) |>.setCell (by omega) (by omega) _ _) |>.setCell (by omega) (by omega) _ _) |>.setCell (by omega) (by omega) _ _) |>.setCell (by omega) (by omega) _ _) |>.setCell (by omega) (by omega) _ _
        have hZs : Z.heap.size = U.heap.size := by rw [hZ]; simp only [size_setC]
        have BZ : BoxN Z (w.heap.size + 1) 94 [(.int .i64 0), (.int .i64 0), (.slice none 0 0), (.slice none 0 0), (.slice none 0 0), (.slice none 0 0)] := by rw [hZ]; exact (((((BU.out.set 0 _).set 1 _).set 2 _).set 3 _).set 4 _).set 5 _
        have HZB := Lib.hid ((Below.next HWB.out hcum).trans (hwz.below (B := w.heap.size) (by omega) (by omega)))
        clear hZ r0 r1 r2 r3 r4 r5 fr
        have r0 := BZ.cell (i := 0) rfl
        have r1 := BZ.cell (i := 1) rfl
        have r2 := BZ.cell (i := 2) rfl
        have r3 := BZ.cell (i := 3) rfl
        have r4 := BZ.cell (i := 4) rfl
        have r5 := BZ.cell (i := 5) rfl
        refine bodyPost_ret (v := .tuple #[.agg #[.int .i64 0, .int .i64 0, .slice none 0 0, .slice none 0 0, .slice none 0 0, .slice none 0 0], .bool false]) (by simp [results, Try.results57, go_sem, r0, r1, r2, r3, r4, r5]) rfl ⟨_, rfl, own_entry0 _ _ _ (by omega), HZB.out⟩
      | true =>
        go_wp2_with fail
        refine wp_region_noPanic ?_
        refine wp_region_take (fun w' => Below U.heap.size U w' ∧ w'.cell? ⟨w2.heap.size, 0, none⟩ = some (.slice a1 m1 c1) ∧ w'.cell? ⟨w2.heap.size, 1, none⟩ = some (.slice a2 m2 c2) ∧ w'.cell? ⟨w2.heap.size, 2, none⟩ = some (.slice a3 m3 c3)) 10 [(true, 0), (true, 1), (true, 2), (true, 4), (false, 3), (true, 5)] [6, 7] (by kernel_rfl) (by kernel_rfl) rfl (fun _ _ _ _ _ h => h) ⟨(Below.refl _ _).drew, y0, y1, y2⟩ ?_
        simp only [pickL, pickN, List.getElem?_cons_zero, List.getElem?_cons_succ]
        repeat (refine' wpTake_read _ (by rfl) (fun w' hS' => ?_) ?_; rotate_left; · ((try dsimp only at hS'); go_simp; (try with_reducible rfl)); (try simp only [Act.put, List.setIfInBounds_toArray, List.set_cons_zero, List.set_cons_succ]))
        refine wpTake_do (by rfl) (fun K hK => ?_)
        go_simp
        go_at_call 150
        refine (slices_Clone _ l _ ((HLI.out.below (Below.next HWB.out hcum)).below (Below.refl _ _).drew) (by have := HLN.out; omega)).mono ?_
        rintro e wc ⟨vc, rfl, hoc, hbc⟩
        obtain ⟨ac, cc, rfl⟩ := hoc.shape
        have hbz : Below U.heap.size U wc := keep_b hbc (Below.refl _ _).drew
        refine hK.out _ _ ⟨hbz, box_at y0 hbz, box_at y1 hbz, box_at y2 hbz⟩ (fun _ => ?_)
        clear hK K
        try simp only [Act.put, List.setIfInBounds_toArray, List.set_cons_zero, List.set_cons_succ]
        repeat (refine' wpTake_read _ (by rfl) (fun w' hS' => ?_) ?_; rotate_left; · ((try dsimp only at hS'); go_simp; (try with_reducible rfl)); (try simp only [Act.put, List.setIfInBounds_toArray, List.set_cons_zero, List.set_cons_succ]))
        refine wpTake_nil ?_
        have HOC := Lib.hid (InI.of_own hoc)
        have HOC2 := Lib.hid (Kind.next (K := kS rProof) HOU.out hbz)
        have hszC : U.heap.size ≤ wc.heap.size := hbz.size
        have BU0 := Lib.hid (BR.out.below hcum)
        have BUC := Lib.hid (BU0.out.below hbz)
        have HBC := Lib.hid (Below.next HWB.out (hcum.trans (hbz.mono hcum.size)))
        clear hoc hbc hbz y0 y1 y2
        have r0 := BUC.out.cell (i := 0) rfl
        have r1 := BUC.out.cell (i := 1) rfl
        have r2 := BUC.out.cell (i := 2) rfl
        have r3 := BUC.out.cell (i := 3) rfl
        have r4 := BUC.out.cell (i := 4) rfl
        have r5 := BUC.out.cell (i := 5) rfl
        have fr := BUC.out.frozen
        go_wp2_with fail
        refine NoPanic.normal ?_
        go_wp2_with fail
        have hsW := HSW.out
        obtain ⟨Z, hZ⟩ : ∃ Z, Z = (((((wc.setCell ⟨w.heap.size + 1, 0, none⟩ (.int .i64 k)).setCell ⟨w.heap.size + 1, 1, none⟩ (.int .i64 a)).setCell ⟨w.heap.size + 1, 2, none⟩ (.slice ac l.length cc)).setCell ⟨w.heap.size + 1, 3, none⟩ (.slice a1 m1 c1)).setCell ⟨w.heap.size + 1, 4, none⟩ (.slice a2 m2 c2)).setCell ⟨w.heap.size + 1, 5, none⟩ (.slice a3 m3 c3) := ⟨_, rfl⟩
        rw [← hZ]
        have hwz : Within (w.heap.size + 1) (w.heap.size + 2) wc Z := by rw [hZ]; exact (((((Within.refl _ _ _ |>.setCell (by omega) (by omega) _ _) |>.setCell (by omega) (by omega) _ _) |>.setCell (by omega) (by omega) _ _) |>.setCell (by omega) (by omega) _ _) |>.setCell (by omega) (by omega) _ _) |>.setCell (by omega) (by omega) _ _
        have hZs : Z.heap.size = wc.heap.size := by rw [hZ]; simp only [size_setC]
        have BZ : BoxN Z (w.heap.size + 1) 94 [.int .i64 k, .int .i64 a, .slice ac l.length cc, .slice a1 m1 c1, .slice a2 m2 c2, .slice a3 m3 c3] := by rw [hZ]; exact (((((BUC.out.set 0 _).set 1 _).set 2 _).set 3 _).set 4 _).set 5 _
        have HZB := Lib.hid (HBC.out.trans (hwz.below (B := w.heap.size) (by omega) (by omega)))
        clear hZ r0 r1 r2 r3 r4 r5 fr
        have r0 := BZ.cell (i := 0) rfl
        have r1 := BZ.cell (i := 1) rfl
        have r2 := BZ.cell (i := 2) rfl
        have r3 := BZ.cell (i := 3) rfl
        have r4 := BZ.cell (i := 4) rfl
        have r5 := BZ.cell (i := 5) rfl
        have HOZ := Lib.hid (Kind.kept (K := kS rProof) HOC2.out hwz (.inr (by omega)))
        rw [HPD.out] at HOZ
        have HOZ2 := Lib.hid (HOC.out.kept hwz (.inr (by first | omega | (simp; done) | (simp; omega))))
        refine bodyPost_ret (v := .tuple #[.agg #[.int .i64 k, .int .i64 a, .slice ac l.length cc, .slice a1 m1 c1, .slice a2 m2 c2, .slice a3 m3 c3], .bool true]) (by simp [results, Try.results57, go_sem, r0, r1, r2, r3, r4, r5]) rfl ⟨_, rfl, own_entry (vs := [.slice a1 m1 c1, .slice a2 m2 c2, .slice a3 m3 c3]) HOZ2.out HOZ.out JK.out JA.out ⟨by first | omega | (simp; done) | (simp; omega), by omega⟩ ⟨by omega, by omega⟩ (.inr (by first | omega | (simp; done) | (simp; omega))), HZB.out⟩
    · obtain ⟨U, hU⟩ : ∃ U, U = ((w2.setCell ⟨w1.heap.size, 0, none⟩ (.slice a1 m1 c1)).setCell ⟨w1.heap.size, 1, none⟩ (.slice a2 m2 c2)).setCell ⟨w1.heap.size, 2, none⟩ (.slice a3 m3 c3) := ⟨_, rfl⟩
      rw [← hU]
      have BBU : BoxN U w1.heap.size 47 [.slice a1 m1 c1, .slice a2 m2 c2, .slice a3 m3 c3] := by rw [hU]; exact ((BB2.out.set 0 _).set 1 _).set 2 _
      have hwi : Within w1.heap.size (w1.heap.size + 1) w2 U := by rw [hU]; exact ((Within.refl _ _ _ |>.setCell (by omega) (by omega) _ _) |>.setCell (by omega) (by omega) _ _) |>.setCell (by omega) (by omega) _ _
      have hcum : Below W.heap.size W U := hbz2.trans (hwi.below (B := W.heap.size) (by omega) (by omega))
      have hsU : U.heap.size = w2.heap.size := by rw [hU]; simp only [size_setC]
      try have hlt1 := BB.out.lt
      have HOU := Lib.hid ((kS rProof).own_mono (lo' := W.heap.size) (hi' := U.heap.size) (Kind.kept (K := kS rProof) HO2.out hwi (.inr (by first | (simp; done) | (simp; omega) | omega))) (by first | omega | (simp; done) | (simp; omega)) (show w2.heap.size ≤ U.heap.size by omega))
      clear y0 y1 y2 fy
      have y0 := BBU.cell (i := 0) rfl
      have y1 := BBU.cell (i := 1) rfl
      have y2 := BBU.cell (i := 2) rfl
      clear hU
      have hszU := hcum.size
      clear p0 p1 p2
      cases q2 with
      | false =>
        have BU := Lib.hid (BR.out.below hcum)
        have r0 := BU.out.cell (i := 0) rfl
        have r1 := BU.out.cell (i := 1) rfl
        have r2 := BU.out.cell (i := 2) rfl
        have r3 := BU.out.cell (i := 3) rfl
        have r4 := BU.out.cell (i := 4) rfl
        have r5 := BU.out.cell (i := 5) rfl
        have fr := BU.out.frozen
        have hlw := hcum.size
        go_wp2_with fail
        try have hsW := HSW.out
        obtain ⟨Z, hZ⟩ : ∃ Z, Z = (((((U.setCell ⟨w.heap.size + 1, 0, none⟩ (.int .i64 0)).setCell ⟨w.heap.size + 1, 1, none⟩ (.int .i64 0)).setCell ⟨w.heap.size + 1, 2, none⟩ (.slice none 0 0)).setCell ⟨w.heap.size + 1, 3, none⟩ (.slice none 0 0)).setCell ⟨w.heap.size + 1, 4, none⟩ (.slice none 0 0)).setCell ⟨w.heap.size + 1, 5, none⟩ (.slice none 0 0) := ⟨_, rfl⟩
        rw [← hZ]
        have hwz : Within (w.heap.size + 1) (w.heap.size + 2) U Z := by rw [hZ]; exact (((((Within.refl _ _ _ |>.setCell (by omega) (by omega) _ _) |>.setCell (by omega) (by omega) _ _) |>.setCell (by omega) (by omega) _ _) |>.setCell (by omega) (by omega) _ _) |>.setCell (by omega) (by omega) _ _) |>.setCell (by omega) (by omega) _ _
        have hZs : Z.heap.size = U.heap.size := by rw [hZ]; simp only [size_setC]
        have BZ : BoxN Z (w.heap.size + 1) 94 [(.int .i64 0), (.int .i64 0), (.slice none 0 0), (.slice none 0 0), (.slice none 0 0), (.slice none 0 0)] := by rw [hZ]; exact (((((BU.out.set 0 _).set 1 _).set 2 _).set 3 _).set 4 _).set 5 _
        have HZB := Lib.hid ((Below.next HWB.out hcum).trans (hwz.below (B := w.heap.size) (by omega) (by omega)))
        clear hZ r0 r1 r2 r3 r4 r5 fr
        have r0 := BZ.cell (i := 0) rfl
        have r1 := BZ.cell (i := 1) rfl
        have r2 := BZ.cell (i := 2) rfl
        have r3 := BZ.cell (i := 3) rfl
        have r4 := BZ.cell (i := 4) rfl
        have r5 := BZ.cell (i := 5) rfl
        refine bodyPost_ret (v := .tuple #[.agg #[.int .i64 0, .int .i64 0, .slice none 0 0, .slice none 0 0, .slice none 0 0, .slice none 0 0], .bool false]) (by simp [results, Try.results57, go_sem, r0, r1, r2, r3, r4, r5]) rfl ⟨_, rfl, own_entry0 _ _ _ (by omega), HZB.out⟩
      | true =>
        go_wp2_with fail
        refine wp_region_noPanic ?_
        refine wp_region_take (fun w' => Below U.heap.size U w' ∧ w'.cell? ⟨w1.heap.size, 0, none⟩ = some (.slice a1 m1 c1) ∧ w'.cell? ⟨w1.heap.size, 1, none⟩ = some (.slice a2 m2 c2) ∧ w'.cell? ⟨w1.heap.size, 2, none⟩ = some (.slice a3 m3 c3)) 10 [(true, 0), (true, 1), (true, 2), (true, 4), (false, 3), (true, 5)] [6, 7] (by kernel_rfl) (by kernel_rfl) rfl (fun _ _ _ _ _ h => h) ⟨(Below.refl _ _).drew, y0, y1, y2⟩ ?_
        simp only [pickL, pickN, List.getElem?_cons_zero, List.getElem?_cons_succ]
        repeat (refine' wpTake_read _ (by rfl) (fun w' hS' => ?_) ?_; rotate_left; · ((try dsimp only at hS'); go_simp; (try with_reducible rfl)); (try simp only [Act.put, List.setIfInBounds_toArray, List.set_cons_zero, List.set_cons_succ]))
        refine wpTake_do (by rfl) (fun K hK => ?_)
        go_simp
        go_at_call 150
        refine (slices_Clone _ l _ ((HLI.out.below (Below.next HWB.out hcum)).below (Below.refl _ _).drew) (by have := HLN.out; omega)).mono ?_
        rintro e wc ⟨vc, rfl, hoc, hbc⟩
        obtain ⟨ac, cc, rfl⟩ := hoc.shape
        have hbz : Below U.heap.size U wc := keep_b hbc (Below.refl _ _).drew
        refine hK.out _ _ ⟨hbz, box_at y0 hbz, box_at y1 hbz, box_at y2 hbz⟩ (fun _ => ?_)
        clear hK K
        try simp only [Act.put, List.setIfInBounds_toArray, List.set_cons_zero, List.set_cons_succ]
        repeat (refine' wpTake_read _ (by rfl) (fun w' hS' => ?_) ?_; rotate_left; · ((try dsimp only at hS'); go_simp; (try with_reducible rfl)); (try simp only [Act.put, List.setIfInBounds_toArray, List.set_cons_zero, List.set_cons_succ]))
        refine wpTake_nil ?_
        have HOC := Lib.hid (InI.of_own hoc)
        have HOC2 := Lib.hid (Kind.next (K := kS rProof) HOU.out hbz)
        have hszC : U.heap.size ≤ wc.heap.size := hbz.size
        have BU0 := Lib.hid (BR.out.below hcum)
        have BUC := Lib.hid (BU0.out.below hbz)
        have HBC := Lib.hid (Below.next HWB.out (hcum.trans (hbz.mono hcum.size)))
        clear hoc hbc hbz y0 y1 y2
        have r0 := BUC.out.cell (i := 0) rfl
        have r1 := BUC.out.cell (i := 1) rfl
        have r2 := BUC.out.cell (i := 2) rfl
        have r3 := BUC.out.cell (i := 3) rfl
        have r4 := BUC.out.cell (i := 4) rfl
        have r5 := BUC.out.cell (i := 5) rfl
        have fr := BUC.out.frozen
        go_wp2_with fail
        refine NoPanic.normal ?_
        go_wp2_with fail
        have hsW := HSW.out
        obtain ⟨Z, hZ⟩ : ∃ Z, Z = (((((wc.setCell ⟨w.heap.size + 1, 0, none⟩ (.int .i64 k)).setCell ⟨w.heap.size + 1, 1, none⟩ (.int .i64 a)).setCell ⟨w.heap.size + 1, 2, none⟩ (.slice ac l.length cc)).setCell ⟨w.heap.size + 1, 3, none⟩ (.slice a1 m1 c1)).setCell ⟨w.heap.size + 1, 4, none⟩ (.slice a2 m2 c2)).setCell ⟨w.heap.size + 1, 5, none⟩ (.slice a3 m3 c3) := ⟨_, rfl⟩
        rw [← hZ]
        have hwz : Within (w.heap.size + 1) (w.heap.size + 2) wc Z := by rw [hZ]; exact (((((Within.refl _ _ _ |>.setCell (by omega) (by omega) _ _) |>.setCell (by omega) (by omega) _ _) |>.setCell (by omega) (by omega) _ _) |>.setCell (by omega) (by omega) _ _) |>.setCell (by omega) (by omega) _ _) |>.setCell (by omega) (by omega) _ _
        have hZs : Z.heap.size = wc.heap.size := by rw [hZ]; simp only [size_setC]
        have BZ : BoxN Z (w.heap.size + 1) 94 [.int .i64 k, .int .i64 a, .slice ac l.length cc, .slice a1 m1 c1, .slice a2 m2 c2, .slice a3 m3 c3] := by rw [hZ]; exact (((((BUC.out.set 0 _).set 1 _).set 2 _).set 3 _).set 4 _).set 5 _
        have HZB := Lib.hid (HBC.out.trans (hwz.below (B := w.heap.size) (by omega) (by omega)))
        clear hZ r0 r1 r2 r3 r4 r5 fr
        have r0 := BZ.cell (i := 0) rfl
        have r1 := BZ.cell (i := 1) rfl
        have r2 := BZ.cell (i := 2) rfl
        have r3 := BZ.cell (i := 3) rfl
        have r4 := BZ.cell (i := 4) rfl
        have r5 := BZ.cell (i := 5) rfl
        have HOZ := Lib.hid (Kind.kept (K := kS rProof) HOC2.out hwz (.inr (by omega)))
        rw [HPD.out] at HOZ
        have HOZ2 := Lib.hid (HOC.out.kept hwz (.inr (by first | omega | (simp; done) | (simp; omega))))
        refine bodyPost_ret (v := .tuple #[.agg #[.int .i64 k, .int .i64 a, .slice ac l.length cc, .slice a1 m1 c1, .slice a2 m2 c2, .slice a3 m3 c3], .bool true]) (by simp [results, Try.results57, go_sem, r0, r1, r2, r3, r4, r5]) rfl ⟨_, rfl, own_entry (vs := [.slice a1 m1 c1, .slice a2 m2 c2, .slice a3 m3 c3]) HOZ2.out HOZ.out JK.out JA.out ⟨by first | omega | (simp; done) | (simp; omega), by omega⟩ ⟨by omega, by omega⟩ (.inr (by first | omega | (simp; done) | (simp; omega))), HZB.out⟩
    · obtain ⟨U, hU⟩ : ∃ U, U = ((w2.setCell ⟨W.heap.size, 0, none⟩ (.slice a1 m1 c1)).setCell ⟨W.heap.size, 1, none⟩ (.slice a2 m2 c2)).setCell ⟨W.heap.size, 2, none⟩ (.slice a3 m3 c3) := ⟨_, rfl⟩
      rw [← hU]
      have BBU : BoxN U W.heap.size 47 [.slice a1 m1 c1, .slice a2 m2 c2, .slice a3 m3 c3] := by rw [hU]; exact ((BB2.out.set 0 _).set 1 _).set 2 _
      have hwi : Within W.heap.size (W.heap.size + 1) w2 U := by rw [hU]; exact ((Within.refl _ _ _ |>.setCell (by omega) (by omega) _ _) |>.setCell (by omega) (by omega) _ _) |>.setCell (by omega) (by omega) _ _
      have hcum : Below W.heap.size W U := hbz2.trans (hwi.below (B := W.heap.size) (by omega) (by omega))
      have hsU : U.heap.size = w2.heap.size := by rw [hU]; simp only [size_setC]
      try have hlt1 := BB.out.lt
      have HOU := Lib.hid ((kS rProof).own_mono (lo' := W.heap.size) (hi' := U.heap.size) (Kind.kept (K := kS rProof) HO2.out hwi (.inr (by first | (simp; done) | (simp; omega) | omega))) (by first | omega | (simp; done) | (simp; omega)) (show w2.heap.size ≤ U.heap.size by omega))
      clear y0 y1 y2 fy
      have y0 := BBU.cell (i := 0) rfl
      have y1 := BBU.cell (i := 1) rfl
      have y2 := BBU.cell (i := 2) rfl
      clear hU
      have hszU := hcum.size
      clear p0 p1 p2
      cases q2 with
      | false =>
        have BU := Lib.hid (BR.out.below hcum)
        have r0 := BU.out.cell (i := 0) rfl
        have r1 := BU.out.cell (i := 1) rfl
        have r2 := BU.out.cell (i := 2) rfl
        have r3 := BU.out.cell (i := 3) rfl
        have r4 := BU.out.cell (i := 4) rfl
        have r5 := BU.out.cell (i := 5) rfl
        have fr := BU.out.frozen
        have hlw := hcum.size
        go_wp2_with fail
        try have hsW := HSW.out
        obtain ⟨Z, hZ⟩ : ∃ Z, Z = (((((U.setCell ⟨w.heap.size + 1, 0, none⟩ (.int .i64 0)).setCell ⟨w.heap.size + 1, 1, none⟩ (.int .i64 0)).setCell ⟨w.heap.size + 1, 2, none⟩ (.slice none 0 0)).setCell ⟨w.heap.size + 1, 3, none⟩ (.slice none 0 0)).setCell ⟨w.heap.size + 1, 4, none⟩ (.slice none 0 0)).setCell ⟨w.heap.size + 1, 5, none⟩ (.slice none 0 0) := ⟨_, rfl⟩
        rw [← hZ]
        have hwz : Within (w.heap.size + 1) (w.heap.size + 2) U Z := by rw [hZ]; exact (((((Within.refl _ _ _ |>.setCell (by omega) (by omega) _ _) |>.setCell (by omega) (by omega) _ _) |>.setCell (by omega) (by omega) _ _) |>.setCell (by omega) (by omega) _ _) |>.setCell (by omega) (by omega) _ _) |>.setCell (by omega) (by omega) _ _
        have hZs : Z.heap.size = U.heap.size := by rw [hZ]; simp only [size_setC]
        have BZ : BoxN Z (w.heap.size + 1) 94 [(.int .i64 0), (.int .i64 0), (.slice none 0 0), (.slice none 0 0), (.slice none 0 0), (.slice none 0 0)] := by rw [hZ]; exact (((((BU.out.set 0 _).set 1 _).set 2 _).set 3 _).set 4 _).set 5 _
        have HZB := Lib.hid ((Below.next HWB.out hcum).trans (hwz.below (B := w.heap.size) (by omega) (by omega)))
        clear hZ r0 r1 r2 r3 r4 r5 fr
        have r0 := BZ.cell (i := 0) rfl
        have r1 := BZ.cell (i := 1) rfl
        have r2 := BZ.cell (i := 2) rfl
        have r3 := BZ.cell (i := 3) rfl
        have r4 := BZ.cell (i := 4) rfl
        have r5 := BZ.cell (i := 5) rfl
        refine bodyPost_ret (v := .tuple #[.agg #[.int .i64 0, .int .i64 0, .slice none 0 0, .slice none 0 0, .slice none 0 0, .slice none 0 0], .bool false]) (by simp [results, Try.results57, go_sem, r0, r1, r2, r3, r4, r5]) rfl ⟨_, rfl, own_entry0 _ _ _ (by omega), HZB.out⟩
      | true =>
        go_wp2_with fail
        refine wp_region_noPanic ?_
        refine wp_region_take (fun w' => Below U.heap.size U w' ∧ w'.cell? ⟨W.heap.size, 0, none⟩ = some (.slice a1 m1 c1) ∧ w'.cell? ⟨W.heap.size, 1, none⟩ = some (.slice a2 m2 c2) ∧ w'.cell? ⟨W.heap.size, 2, none⟩ = some (.slice a3 m3 c3)) 10 [(true, 0), (true, 1), (true, 2), (true, 4), (false, 3), (true, 5)] [6, 7] (by kernel_rfl) (by kernel_rfl) rfl (fun _ _ _ _ _ h => h) ⟨(Below.refl _ _).drew, y0, y1, y2⟩ ?_
        simp only [pickL, pickN, List.getElem?_cons_zero, List.getElem?_cons_succ]
        repeat (refine' wpTake_read _ (by rfl) (fun w' hS' => ?_) ?_; rotate_left; · ((try dsimp only at hS'); go_simp; (try with_reducible rfl)); (try simp only [Act.put, List.setIfInBounds_toArray, List.set_cons_zero, List.set_cons_succ]))
        refine wpTake_do (by rfl) (fun K hK => ?_)
        go_simp
        go_at_call 150
        refine (slices_Clone _ l _ ((HLI.out.below (Below.next HWB.out hcum)).below (Below.refl _ _).drew) (by have := HLN.out; omega)).mono ?_
        rintro e wc ⟨vc, rfl, hoc, hbc⟩
        obtain ⟨ac, cc, rfl⟩ := hoc.shape
        have hbz : Below U.heap.size U wc := keep_b hbc (Below.refl _ _).drew
        refine hK.out _ _ ⟨hbz, box_at y0 hbz, box_at y1 hbz, box_at y2 hbz⟩ (fun _ => ?_)
        clear hK K
        try simp only [Act.put, List.setIfInBounds_toArray, List.set_cons_zero, List.set_cons_succ]
        repeat (refine' wpTake_read _ (by rfl) (fun w' hS' => ?_) ?_; rotate_left; · ((try dsimp only at hS'); go_simp; (try with_reducible rfl)); (try simp only [Act.put, List.setIfInBounds_toArray, List.set_cons_zero, List.set_cons_succ]))
        refine wpTake_nil ?_
        have HOC := Lib.hid (InI.of_own hoc)
        have HOC2 := Lib.hid (Kind.next (K := kS rProof) HOU.out hbz)
        have hszC : U.heap.size ≤ wc.heap.size := hbz.size
        have BU0 := Lib.hid (BR.out.below hcum)
        have BUC := Lib.hid (BU0.out.below hbz)
        have HBC := Lib.hid (Below.next HWB.out (hcum.trans (hbz.mono hcum.size)))
        clear hoc hbc hbz y0 y1 y2
        have r0 := BUC.out.cell (i := 0) rfl
        have r1 := BUC.out.cell (i := 1) rfl
        have r2 := BUC.out.cell (i := 2) rfl
        have r3 := BUC.out.cell (i := 3) rfl
        have r4 := BUC.out.cell (i := 4) rfl
        have r5 := BUC.out.cell (i := 5) rfl
        have fr := BUC.out.frozen
        go_wp2_with fail
        refine NoPanic.normal ?_
        go_wp2_with fail
        have hsW := HSW.out
        obtain ⟨Z, hZ⟩ : ∃ Z, Z = (((((wc.setCell ⟨w.heap.size + 1, 0, none⟩ (.int .i64 k)).setCell ⟨w.heap.size + 1, 1, none⟩ (.int .i64 a)).setCell ⟨w.heap.size + 1, 2, none⟩ (.slice ac l.length cc)).setCell ⟨w.heap.size + 1, 3, none⟩ (.slice a1 m1 c1)).setCell ⟨w.heap.size + 1, 4, none⟩ (.slice a2 m2 c2)).setCell ⟨w.heap.size + 1, 5, none⟩ (.slice a3 m3 c3) := ⟨_, rfl⟩
        rw [← hZ]
        have hwz : Within (w.heap.size + 1) (w.heap.size + 2) wc Z := by rw [hZ]; exact (((((Within.refl _ _ _ |>.setCell (by omega) (by omega) _ _) |>.setCell (by omega) (by omega) _ _) |>.setCell (by omega) (by omega) _ _) |>.setCell (by omega) (by omega) _ _) |>.setCell (by omega) (by omega) _ _) |>.setCell (by omega) (by omega) _ _
        have hZs : Z.heap.size = wc.heap.size := by rw [hZ]; simp only [size_setC]
        have BZ : BoxN Z (w.heap.size + 1) 94 [.int .i64 k, .int .i64 a, .slice ac l.length cc, .slice a1 m1 c1, .slice a2 m2 c2, .slice a3 m3 c3] := by rw [hZ]; exact (((((BUC.out.set 0 _).set 1 _).set 2 _).set 3 _).set 4 _).set 5 _
        have HZB := Lib.hid (HBC.out.trans (hwz.below (B := w.heap.size) (by omega) (by omega)))
        clear hZ r0 r1 r2 r3 r4 r5 fr
        have r0 := BZ.cell (i := 0) rfl
        have r1 := BZ.cell (i := 1) rfl
        have r2 := BZ.cell (i := 2) rfl
        have r3 := BZ.cell (i := 3) rfl
        have r4 := BZ.cell (i := 4) rfl
        have r5 := BZ.cell (i := 5) rfl
        have HOZ := Lib.hid (Kind.kept (K := kS rProof) HOC2.out hwz (.inr (by omega)))
        rw [HPD.out] at HOZ
        have HOZ2 := Lib.hid (HOC.out.kept hwz (.inr (by first | omega | (simp; done) | (simp; omega))))
        refine bodyPost_ret (v := .tuple #[.agg #[.int .i64 k, .int .i64 a, .slice ac l.length cc, .slice a1 m1 c1, .slice a2 m2 c2, .slice a3 m3 c3], .bool true]) (by simp [results, Try.results57, go_sem, r0, r1, r2, r3, r4, r5]) rfl ⟨_, rfl, own_entry (vs := [.slice a1 m1 c1, .slice a2 m2 c2, .slice a3 m3 c3]) HOZ2.out HOZ.out JK.out JA.out ⟨by first | omega | (simp; done) | (simp; omega), by omega⟩ ⟨by omega, by omega⟩ (.inr (by first | omega | (simp; done) | (simp; omega))), HZB.out⟩
end Go.Proofs.Ytapfceghgkmgoaa
