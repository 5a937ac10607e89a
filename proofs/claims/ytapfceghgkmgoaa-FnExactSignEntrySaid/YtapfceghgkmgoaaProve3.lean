/- Walks: ProveLinear, ProveKnowledge of the program; signatures of the reference. -/
import Derived.Test.YtapfceghgkmgoaaProve2
import Derived.Test.YtapfceghgkmgoaaVHead
namespace Go.Proofs.Ytapfceghgkmgoaa
open Go.RowKit
set_option linter.unusedSimpArgs false
set_option linter.unusedVariables false

def zProof : ProofD := ⟨[], [], []⟩
theorem own_zProof (w : World) (lo hi : Nat) (h : lo ≤ hi) : (kS rProof).own w lo hi (.agg #[.slice none 0 0, .slice none 0 0, .slice none 0 0]) zProof := by
  have h1 : InI w lo lo (.slice none 0 0) [] := ⟨OwnI.nil w lo, fun k hk => by cases hk⟩
  exact ⟨_, rfl, ⟨_, _, lo, lo, lo, lo, rfl, h1, ⟨_, _, lo, lo, lo, lo, rfl, h1, ⟨_, _, lo, lo, lo, lo, rfl, h1, rfl, ⟨by omega, by omega⟩, ⟨by omega, by omega⟩, by omega⟩, ⟨by omega, by omega⟩, ⟨by omega, by omega⟩, by omega⟩, ⟨by omega, by omega⟩, ⟨by omega, by omega⟩, by omega⟩⟩
/-- the arguments of a proof of a linear statement are right -/
noncomputable def plB (gr : GroupD) (s : ByteArray) (bs : List (List Int)) (xs ws : List Int) : Bool :=
  goodG gr && (decide (s.size ≤ 40) && (rowsB gr bs && (decide (xs.length = headLen bs) && (decide (ws.length = xs.length) && (xs.all (expB gr) && ws.all (expB gr))))))
noncomputable def plD (gr : GroupD) (s : ByteArray) (bs : List (List Int)) (xs ws : List Int) : ProofD := if plB gr s bs xs ws = true then pvD gr s bs xs ws else zProof
theorem ch7 (a b c d e f g : Bool) : a = false ∨ (a = true ∧ b = false) ∨ (a = true ∧ b = true ∧ c = false) ∨ (a = true ∧ b = true ∧ c = true ∧ d = false) ∨ (a = true ∧ b = true ∧ c = true ∧ d = true ∧ e = false) ∨ (a = true ∧ b = true ∧ c = true ∧ d = true ∧ e = true ∧ f = false) ∨ (a = true ∧ b = true ∧ c = true ∧ d = true ∧ e = true ∧ f = true ∧ g = false) ∨ (a = true ∧ b = true ∧ c = true ∧ d = true ∧ e = true ∧ f = true ∧ g = true) := by
  cases a <;> cases b <;> cases c <;> cases d <;> cases e <;> cases f <;> cases g <;> simp
theorem prvOk {gr : GroupD} {s : ByteArray} {bs : List (List Int)} {xs ws : List Int} (hg : OkG gr) (h2 : s.size ≤ 40) (h3 : rowsB gr bs = true) (h4 : xs.length = headLen bs) (h5 : ws.length = xs.length) (h6 : xs.all (expB gr) = true) (h7 : ws.all (expB gr) = true) : PrvOk gr s bs xs ws := by
  obtain ⟨⟨a1, a2⟩, ⟨a3, a4⟩, a5⟩ := rowsB_bd hg h3
  exact ⟨h2, a1, a2, a4, a5, h4, h5.trans h4, h6, h7⟩
theorem impl_isLabel (s : ByteArray) (w : World) (hs : s.size ≤ 9223372036854775807) :
    Calls Try.prog 258 #[.string s] w fun e w' => e = .returned (.bool (decide (s.size ≤ 40))) ∧ w = w' := by
  by_cases h : s.size ≤ 40
  · have h1 : decide ((s.size : Int) ≤ 40) = true := decide_eq_true (by omega)
    have h2 := Lib.hid (decide_eq_true h)
    go_enter Try.func258, Try.ntmps258
    go_wp2
    go_ret
    exact ⟨ret_bool (by first | (rw [h2.out]; done) | (rw [h2.out]; rfl) | exact h2.out.symm), rfl⟩
  · have h1 : decide ((s.size : Int) ≤ 40) = false := decide_eq_false (by omega)
    have h2 := Lib.hid (decide_eq_false h)
    go_enter Try.func258, Try.ntmps258
    go_wp2
    go_ret
    exact ⟨ret_bool (by first | (rw [h2.out]; done) | (rw [h2.out]; rfl) | exact h2.out.symm), rfl⟩
set_option maxRecDepth 100000 in
set_option maxHeartbeats 8000000 in
theorem impl_ProveLinear (gr : GroupD) (s : ByteArray) (vb : Value) (bs : List (List Int)) (vx : Value) (xs : List Int) (vw : Value) (ws : List Int) (w : World) (hs : s.size ≤ 1000000) (hb : RdL kInts w vb bs) (hx : Ints w vx xs) (hw : Ints w vw ws) :
    Calls Try.prog 216 #[.agg #[.int .i64 gr.p, .int .i64 gr.q, .int .i64 gr.g], .string s, vb, vx, vw] w fun e w' => ∃ v, e = .returned (.tuple #[v, .bool (plB gr s bs xs ws)]) ∧ (kS rProof).own w' w.heap.size w'.heap.size v (plD gr s bs xs ws) ∧ Below w.heap.size w w' := by
  obtain ⟨ax, nx, cx, rfl⟩ := hx.shape
  have ex := hx.len
  obtain ⟨aw, nw, cw, rfl⟩ := hw.shape
  have ew := hw.len
  obtain ⟨i1, i2⟩ := hx.capMax
  obtain ⟨i3, i4⟩ := hw.capMax
  obtain ⟨ab, nb, cb, rfl⟩ := hb.shape
  have eb := hb.len
  obtain ⟨i5, i6⟩ := hb.capMax
  unfold maxLen at i2 i4 i6
  have HX := Lib.hid hx; have HWS := Lib.hid hw; have HBS := Lib.hid hb
  clear hx hw hb
  (obtain ⟨q1, h_q⟩ : ∃ b_q, goodG gr = b_q := ⟨_, rfl⟩); have H1 := Lib.hid h_q; clear h_q
  (obtain ⟨q2, h_q⟩ : ∃ b_q, decide (s.size ≤ 40) = b_q := ⟨_, rfl⟩); have H2 := Lib.hid h_q; clear h_q
  (obtain ⟨q3, h_q⟩ : ∃ b_q, rowsB gr bs = b_q := ⟨_, rfl⟩); have H3 := Lib.hid h_q; clear h_q
  (obtain ⟨q4, h_q⟩ : ∃ b_q, decide (xs.length = headLen bs) = b_q := ⟨_, rfl⟩); have H4 := Lib.hid h_q; clear h_q
  (obtain ⟨q5, h_q⟩ : ∃ b_q, decide (ws.length = xs.length) = b_q := ⟨_, rfl⟩); have H5 := Lib.hid h_q; clear h_q
  (obtain ⟨q6, h_q⟩ : ∃ b_q, xs.all (expB gr) = b_q := ⟨_, rfl⟩); have H6 := Lib.hid h_q; clear h_q
  (obtain ⟨q7, h_q⟩ : ∃ b_q, ws.all (expB gr) = b_q := ⟨_, rfl⟩); have H7 := Lib.hid h_q; clear h_q
  have HB : Hid (plB gr s bs xs ws = (q1 && (q2 && (q3 && (q4 && (q5 && (q6 && q7))))))) := by unfold Hid plB; rw [H1.out, H2.out, H3.out, H4.out, H5.out, H6.out, H7.out]
  have HD : Hid (plD gr s bs xs ws = if (q1 && (q2 && (q3 && (q4 && (q5 && (q6 && q7)))))) = true then pvD gr s bs xs ws else zProof) := by unfold Hid plD; rw [HB.out]
  rw [HB.out, HD.out]
  have HXN := Lib.hid ex; have HWN := Lib.hid ew; have HBN := Lib.hid eb
  clear ex ew eb
  obtain ⟨p, q, g⟩ := gr
  obtain ⟨W, hW⟩ : ∃ W, W = (w.alloc (.cells #[.int .i64 p, .int .i64 q, .int .i64 g] 88)).alloc (.cells #[.slice none 0 0, .slice none 0 0, .slice none 0 0] 47) := ⟨_, rfl⟩
  have HWB : Hid (Below w.heap.size w W) := by unfold Hid; rw [hW]; (repeat (first | exact Below.refl _ _ | assumption | refine Below.drew ?_ | refine Below.alloc ?_ (by first | (simp; done) | (simp; omega)) _ | refine Below.setCell ?_ (by first | (simp; done) | (simp; omega)) _))
  have hsW : W.heap.size = w.heap.size + 2 := by rw [hW]; simp
  have p0 : W.cell? ⟨w.heap.size, 0, none⟩ = some (.int .i64 p) := by rw [hW]; simp [go_sem]
  have p1 : W.cell? ⟨w.heap.size, 1, none⟩ = some (.int .i64 q) := by rw [hW]; simp [go_sem]
  have p2 : W.cell? ⟨w.heap.size, 2, none⟩ = some (.int .i64 g) := by rw [hW]; simp [go_sem]
  have hs1 : (w.alloc (.cells #[.int .i64 p, .int .i64 q, .int .i64 g] 88)).heap.size = w.heap.size + 1 := by simp
  have BR : Hid (BoxN W (w.heap.size + 1) 47 [.slice none 0 0, .slice none 0 0, .slice none 0 0]) := by unfold Hid; rw [hW, ← hs1]; exact BoxN.new _ [.slice none 0 0, .slice none 0 0, .slice none 0 0] _
  have BG : Hid (BoxN W w.heap.size 88 [.int .i64 p, .int .i64 q, .int .i64 g]) := by unfold Hid; rw [hW]; exact (BoxN.new w [.int .i64 p, .int .i64 q, .int .i64 g] _).alloc _
  have FX : Hid (∀ W', Below W.heap.size W W' → W'.cell? ⟨w.heap.size, 0, none⟩ = some (.int .i64 p) ∧ W'.cell? ⟨w.heap.size, 1, none⟩ = some (.int .i64 q) ∧ W'.cell? ⟨w.heap.size, 2, none⟩ = some (.int .i64 g)) := fun W' hb => ⟨box_at p0 hb, box_at p1 hb, box_at p2 hb⟩
  have hcum : Below W.heap.size W W := Below.refl _ _
  clear hs1
  have HW := Lib.hid hW
  clear hW
  go_enter Try.func216, Try.ntmps216
  go_wp2_with fail
  rw [← HW.out]
  refine (impl_IsValidGroup ⟨p, q, g⟩ _).mono ?_
  rintro e w1 ⟨rfl, hb1⟩
  rw [H1.out]
  replace hcum := hcum.trans (hb1.mono hcum.size)
  clear hb1
  clear p0 p1 p2
  obtain ⟨p0, p1, p2⟩ := FX.out _ hcum
  cases q1 with
  | false =>
    have BU := Lib.hid (BR.out.below hcum)
    have r0 := BU.out.cell (i := 0) rfl
    have r1 := BU.out.cell (i := 1) rfl
    have r2 := BU.out.cell (i := 2) rfl
    have fr := BU.out.frozen
    have hlw := hcum.size
    go_wp2_with fail
    obtain ⟨Z, hZ⟩ : ∃ Z, Z = ((w1.setCell ⟨w.heap.size + 1, 0, none⟩ (.slice none 0 0)).setCell ⟨w.heap.size + 1, 1, none⟩ (.slice none 0 0)).setCell ⟨w.heap.size + 1, 2, none⟩ (.slice none 0 0) := ⟨_, rfl⟩
    rw [← hZ]
    have hwz : Within (w.heap.size + 1) (w.heap.size + 2) w1 Z := by rw [hZ]; exact ((Within.refl _ _ _ |>.setCell (by omega) (by omega) _ _) |>.setCell (by omega) (by omega) _ _) |>.setCell (by omega) (by omega) _ _
    have hZs : Z.heap.size = w1.heap.size := by rw [hZ]; simp only [size_setC]
    have BZ : BoxN Z (w.heap.size + 1) 47 [(.slice none 0 0), (.slice none 0 0), (.slice none 0 0)] := by rw [hZ]; exact ((BU.out.set 0 _).set 1 _).set 2 _
    have HZB := Lib.hid ((Below.next HWB.out hcum).trans (hwz.below (B := w.heap.size) (by omega) (by omega)))
    clear hZ r0 r1 r2 fr
    have r0 := BZ.cell (i := 0) rfl
    have r1 := BZ.cell (i := 1) rfl
    have r2 := BZ.cell (i := 2) rfl
    refine bodyPost_ret (v := .tuple #[.agg #[.slice none 0 0, .slice none 0 0, .slice none 0 0], .bool false]) (by simp [results, Try.results216, go_sem, r0, r1, r2]) rfl ⟨_, rfl, own_zProof _ _ _ (by omega), HZB.out⟩
  | true =>
    have HG := Lib.hid (goodG_ok H1.out)
    have hs63 : s.size ≤ 9223372036854775807 := by omega
    cases q2 with
    | false =>
      have BU := Lib.hid (BR.out.below hcum)
      have r0 := BU.out.cell (i := 0) rfl
      have r1 := BU.out.cell (i := 1) rfl
      have r2 := BU.out.cell (i := 2) rfl
      have fr := BU.out.frozen
      have hlw := hcum.size
      go_wp2_with (first | (go_at_call 258; refine (impl_isLabel s _ hs63).mono ?_; rintro e wz ⟨rfl, rfl⟩; rw [H2.out]) | fail)
      obtain ⟨Z, hZ⟩ : ∃ Z, Z = ((w1.setCell ⟨w.heap.size + 1, 0, none⟩ (.slice none 0 0)).setCell ⟨w.heap.size + 1, 1, none⟩ (.slice none 0 0)).setCell ⟨w.heap.size + 1, 2, none⟩ (.slice none 0 0) := ⟨_, rfl⟩
      rw [← hZ]
      have hwz : Within (w.heap.size + 1) (w.heap.size + 2) w1 Z := by rw [hZ]; exact ((Within.refl _ _ _ |>.setCell (by omega) (by omega) _ _) |>.setCell (by omega) (by omega) _ _) |>.setCell (by omega) (by omega) _ _
      have hZs : Z.heap.size = w1.heap.size := by rw [hZ]; simp only [size_setC]
      have BZ : BoxN Z (w.heap.size + 1) 47 [(.slice none 0 0), (.slice none 0 0), (.slice none 0 0)] := by rw [hZ]; exact ((BU.out.set 0 _).set 1 _).set 2 _
      have HZB := Lib.hid ((Below.next HWB.out hcum).trans (hwz.below (B := w.heap.size) (by omega) (by omega)))
      clear hZ r0 r1 r2 fr
      have r0 := BZ.cell (i := 0) rfl
      have r1 := BZ.cell (i := 1) rfl
      have r2 := BZ.cell (i := 2) rfl
      refine bodyPost_ret (v := .tuple #[.agg #[.slice none 0 0, .slice none 0 0, .slice none 0 0], .bool false]) (by simp [results, Try.results216, go_sem, r0, r1, r2]) rfl ⟨_, rfl, own_zProof _ _ _ (by omega), HZB.out⟩
    | true =>
      go_wp2_with (first | (go_at_call 258; refine (impl_isLabel s _ hs63).mono ?_; rintro e wz ⟨rfl, rfl⟩; rw [H2.out]) | fail)
      refine (impl_areRows ⟨p, q, g⟩ _ bs _ HG.out (kRows.rd_below HBS.out (Below.next HWB.out hcum))).mono ?_
      rintro e w2 ⟨rfl, hb2⟩
      rw [H3.out]
      replace hcum := hcum.trans (hb2.mono hcum.size)
      clear hb2
      clear p0 p1 p2
      obtain ⟨p0, p1, p2⟩ := FX.out _ hcum
      cases q3 with
      | false =>
        have BU := Lib.hid (BR.out.below hcum)
        have r0 := BU.out.cell (i := 0) rfl
        have r1 := BU.out.cell (i := 1) rfl
        have r2 := BU.out.cell (i := 2) rfl
        have fr := BU.out.frozen
        have hlw := hcum.size
        go_wp2_with fail
        obtain ⟨Z, hZ⟩ : ∃ Z, Z = ((w2.setCell ⟨w.heap.size + 1, 0, none⟩ (.slice none 0 0)).setCell ⟨w.heap.size + 1, 1, none⟩ (.slice none 0 0)).setCell ⟨w.heap.size + 1, 2, none⟩ (.slice none 0 0) := ⟨_, rfl⟩
        rw [← hZ]
        have hwz : Within (w.heap.size + 1) (w.heap.size + 2) w2 Z := by rw [hZ]; exact ((Within.refl _ _ _ |>.setCell (by omega) (by omega) _ _) |>.setCell (by omega) (by omega) _ _) |>.setCell (by omega) (by omega) _ _
        have hZs : Z.heap.size = w2.heap.size := by rw [hZ]; simp only [size_setC]
        have BZ : BoxN Z (w.heap.size + 1) 47 [(.slice none 0 0), (.slice none 0 0), (.slice none 0 0)] := by rw [hZ]; exact ((BU.out.set 0 _).set 1 _).set 2 _
        have HZB := Lib.hid ((Below.next HWB.out hcum).trans (hwz.below (B := w.heap.size) (by omega) (by omega)))
        clear hZ r0 r1 r2 fr
        have r0 := BZ.cell (i := 0) rfl
        have r1 := BZ.cell (i := 1) rfl
        have r2 := BZ.cell (i := 2) rfl
        refine bodyPost_ret (v := .tuple #[.agg #[.slice none 0 0, .slice none 0 0, .slice none 0 0], .bool false]) (by simp [results, Try.results216, go_sem, r0, r1, r2]) rfl ⟨_, rfl, own_zProof _ _ _ (by omega), HZB.out⟩
      | true =>
        have hbd := rowsB_bd HG.out H3.out
        have h0 : 0 < bs.length := by omega
        have hnb : 0 < nb := by have := HBN.out; omega
        have HBSW := Lib.hid (kRows.rd_below HBS.out (Below.next HWB.out hcum))
        obtain ⟨bb, ob, hab, vs, hcx⟩ := (HBSW.out : RdL _ _ _ _).at_ hnb
        subst hab
        obtain ⟨y0, hr0⟩ := hcx 0 h0
        rw [Nat.add_zero] at y0
        obtain ⟨a0, n0, c0, hv0⟩ := Ints.shape hr0
        rw [hv0] at y0 hr0
        have hl0 := Ints.len hr0
        have HN0 : Hid (headLen bs = n0) := by unfold Hid; rw [headLen_eq h0]; exact hl0
        have hn08 : n0 ≤ 8 := by have := HN0.out; omega
        clear hcx hr0 hl0 hv0 hbd
        have z4 : (decide ((nx : Int) = (n0 : Int))) = q4 := by
          rw [← H4.out, decide_eq_decide]; have := HXN.out; have := HN0.out; omega
        have z4' : ((nx : Int) != (n0 : Int)) = !q4 := by rw [← z4]; rfl
        have z5' : ((nw : Int) != (nx : Int)) = !q5 := by
          have : decide ((nw : Int) = (nx : Int)) = q5 := by rw [← H5.out, decide_eq_decide]; have := HXN.out; have := HWN.out; omega
          rw [← this]; rfl
        clear z4
        cases q4 with
        | false =>
          have BU := Lib.hid (BR.out.below hcum)
          have r0 := BU.out.cell (i := 0) rfl
          have r1 := BU.out.cell (i := 1) rfl
          have r2 := BU.out.cell (i := 2) rfl
          have fr := BU.out.frozen
          have hlw := hcum.size
          go_wp2_with fail
          obtain ⟨Z, hZ⟩ : ∃ Z, Z = ((w2.setCell ⟨w.heap.size + 1, 0, none⟩ (.slice none 0 0)).setCell ⟨w.heap.size + 1, 1, none⟩ (.slice none 0 0)).setCell ⟨w.heap.size + 1, 2, none⟩ (.slice none 0 0) := ⟨_, rfl⟩
          rw [← hZ]
          have hwz : Within (w.heap.size + 1) (w.heap.size + 2) w2 Z := by rw [hZ]; exact ((Within.refl _ _ _ |>.setCell (by omega) (by omega) _ _) |>.setCell (by omega) (by omega) _ _) |>.setCell (by omega) (by omega) _ _
          have hZs : Z.heap.size = w2.heap.size := by rw [hZ]; simp only [size_setC]
          have BZ : BoxN Z (w.heap.size + 1) 47 [(.slice none 0 0), (.slice none 0 0), (.slice none 0 0)] := by rw [hZ]; exact ((BU.out.set 0 _).set 1 _).set 2 _
          have HZB := Lib.hid ((Below.next HWB.out hcum).trans (hwz.below (B := w.heap.size) (by omega) (by omega)))
          clear hZ r0 r1 r2 fr
          have r0 := BZ.cell (i := 0) rfl
          have r1 := BZ.cell (i := 1) rfl
          have r2 := BZ.cell (i := 2) rfl
          refine bodyPost_ret (v := .tuple #[.agg #[.slice none 0 0, .slice none 0 0, .slice none 0 0], .bool false]) (by simp [results, Try.results216, go_sem, r0, r1, r2]) rfl ⟨_, rfl, own_zProof _ _ _ (by omega), HZB.out⟩
        | true =>
          cases q5 with
          | false =>
            have BU := Lib.hid (BR.out.below hcum)
            have r0 := BU.out.cell (i := 0) rfl
            have r1 := BU.out.cell (i := 1) rfl
            have r2 := BU.out.cell (i := 2) rfl
            have fr := BU.out.frozen
            have hlw := hcum.size
            go_wp2_with fail
            obtain ⟨Z, hZ⟩ : ∃ Z, Z = ((w2.setCell ⟨w.heap.size + 1, 0, none⟩ (.slice none 0 0)).setCell ⟨w.heap.size + 1, 1, none⟩ (.slice none 0 0)).setCell ⟨w.heap.size + 1, 2, none⟩ (.slice none 0 0) := ⟨_, rfl⟩
            rw [← hZ]
            have hwz : Within (w.heap.size + 1) (w.heap.size + 2) w2 Z := by rw [hZ]; exact ((Within.refl _ _ _ |>.setCell (by omega) (by omega) _ _) |>.setCell (by omega) (by omega) _ _) |>.setCell (by omega) (by omega) _ _
            have hZs : Z.heap.size = w2.heap.size := by rw [hZ]; simp only [size_setC]
            have BZ : BoxN Z (w.heap.size + 1) 47 [(.slice none 0 0), (.slice none 0 0), (.slice none 0 0)] := by rw [hZ]; exact ((BU.out.set 0 _).set 1 _).set 2 _
            have HZB := Lib.hid ((Below.next HWB.out hcum).trans (hwz.below (B := w.heap.size) (by omega) (by omega)))
            clear hZ r0 r1 r2 fr
            have r0 := BZ.cell (i := 0) rfl
            have r1 := BZ.cell (i := 1) rfl
            have r2 := BZ.cell (i := 2) rfl
            refine bodyPost_ret (v := .tuple #[.agg #[.slice none 0 0, .slice none 0 0, .slice none 0 0], .bool false]) (by simp [results, Try.results216, go_sem, r0, r1, r2]) rfl ⟨_, rfl, own_zProof _ _ _ (by omega), HZB.out⟩
          | true =>
            have HPO := Lib.hid (fun h6 h7 => prvOk HG.out (of_decide_eq_true H2.out) H3.out (of_decide_eq_true H4.out) (of_decide_eq_true H5.out) h6 h7)
            go_wp2_with fail
            refine (impl_areExps ⟨p, q, g⟩ _ xs _ HG.out (HX.out.below (Below.next HWB.out hcum))).mono ?_
            rintro e w3 ⟨rfl, hb3⟩
            rw [H6.out]
            replace hcum := hcum.trans (hb3.mono hcum.size)
            clear hb3
            clear p0 p1 p2
            obtain ⟨p0, p1, p2⟩ := FX.out _ hcum
            cases q6 with
            | false =>
              have BU := Lib.hid (BR.out.below hcum)
              have r0 := BU.out.cell (i := 0) rfl
              have r1 := BU.out.cell (i := 1) rfl
              have r2 := BU.out.cell (i := 2) rfl
              have fr := BU.out.frozen
              have hlw := hcum.size
              go_wp2_with fail
              obtain ⟨Z, hZ⟩ : ∃ Z, Z = ((w3.setCell ⟨w.heap.size + 1, 0, none⟩ (.slice none 0 0)).setCell ⟨w.heap.size + 1, 1, none⟩ (.slice none 0 0)).setCell ⟨w.heap.size + 1, 2, none⟩ (.slice none 0 0) := ⟨_, rfl⟩
              rw [← hZ]
              have hwz : Within (w.heap.size + 1) (w.heap.size + 2) w3 Z := by rw [hZ]; exact ((Within.refl _ _ _ |>.setCell (by omega) (by omega) _ _) |>.setCell (by omega) (by omega) _ _) |>.setCell (by omega) (by omega) _ _
              have hZs : Z.heap.size = w3.heap.size := by rw [hZ]; simp only [size_setC]
              have BZ : BoxN Z (w.heap.size + 1) 47 [(.slice none 0 0), (.slice none 0 0), (.slice none 0 0)] := by rw [hZ]; exact ((BU.out.set 0 _).set 1 _).set 2 _
              have HZB := Lib.hid ((Below.next HWB.out hcum).trans (hwz.below (B := w.heap.size) (by omega) (by omega)))
              clear hZ r0 r1 r2 fr
              have r0 := BZ.cell (i := 0) rfl
              have r1 := BZ.cell (i := 1) rfl
              have r2 := BZ.cell (i := 2) rfl
              refine bodyPost_ret (v := .tuple #[.agg #[.slice none 0 0, .slice none 0 0, .slice none 0 0], .bool false]) (by simp [results, Try.results216, go_sem, r0, r1, r2]) rfl ⟨_, rfl, own_zProof _ _ _ (by omega), HZB.out⟩
            | true =>
              go_wp2_with fail
              refine (impl_areExps ⟨p, q, g⟩ _ ws _ HG.out (HWS.out.below (Below.next HWB.out hcum))).mono ?_
              rintro e w4 ⟨rfl, hb4⟩
              rw [H7.out]
              replace hcum := hcum.trans (hb4.mono hcum.size)
              clear hb4
              clear p0 p1 p2
              obtain ⟨p0, p1, p2⟩ := FX.out _ hcum
              cases q7 with
              | false =>
                have BU := Lib.hid (BR.out.below hcum)
                have r0 := BU.out.cell (i := 0) rfl
                have r1 := BU.out.cell (i := 1) rfl
                have r2 := BU.out.cell (i := 2) rfl
                have fr := BU.out.frozen
                have hlw := hcum.size
                go_wp2_with fail
                obtain ⟨Z, hZ⟩ : ∃ Z, Z = ((w4.setCell ⟨w.heap.size + 1, 0, none⟩ (.slice none 0 0)).setCell ⟨w.heap.size + 1, 1, none⟩ (.slice none 0 0)).setCell ⟨w.heap.size + 1, 2, none⟩ (.slice none 0 0) := ⟨_, rfl⟩
                rw [← hZ]
                have hwz : Within (w.heap.size + 1) (w.heap.size + 2) w4 Z := by rw [hZ]; exact ((Within.refl _ _ _ |>.setCell (by omega) (by omega) _ _) |>.setCell (by omega) (by omega) _ _) |>.setCell (by omega) (by omega) _ _
                have hZs : Z.heap.size = w4.heap.size := by rw [hZ]; simp only [size_setC]
                have BZ : BoxN Z (w.heap.size + 1) 47 [(.slice none 0 0), (.slice none 0 0), (.slice none 0 0)] := by rw [hZ]; exact ((BU.out.set 0 _).set 1 _).set 2 _
                have HZB := Lib.hid ((Below.next HWB.out hcum).trans (hwz.below (B := w.heap.size) (by omega) (by omega)))
                clear hZ r0 r1 r2 fr
                have r0 := BZ.cell (i := 0) rfl
                have r1 := BZ.cell (i := 1) rfl
                have r2 := BZ.cell (i := 2) rfl
                refine bodyPost_ret (v := .tuple #[.agg #[.slice none 0 0, .slice none 0 0, .slice none 0 0], .bool false]) (by simp [results, Try.results216, go_sem, r0, r1, r2]) rfl ⟨_, rfl, own_zProof _ _ _ (by omega), HZB.out⟩
              | true =>
                go_wp2_with fail
                refine (impl_proveLinear ⟨p, q, g⟩ s _ bs _ xs _ ws _ HG.out (kRows.rd_below HBS.out (Below.next HWB.out hcum)) (HX.out.below (Below.next HWB.out hcum)) (HWS.out.below (Below.next HWB.out hcum)) (HPO.out H6.out H7.out)).mono ?_
                rintro e w5 ⟨v5, rfl, ho5, hb5⟩
                obtain ⟨a1, m1, c1, a2, m2, c2, a3, m3, c3, rfl, _, _, _⟩ := rdProof.1 ((kS rProof).own_rd ho5)
                have HO5 := Lib.hid ho5
                have hs4 := hcum.size
                have hs5 := hb5.size
                clear ho5
                replace hcum := hcum.trans (hb5.mono hcum.size)
                clear hb5
                clear p0 p1 p2
                obtain ⟨p0, p1, p2⟩ := FX.out _ hcum
                have BU := Lib.hid (BR.out.below hcum)
                have r0 := BU.out.cell (i := 0) rfl
                have r1 := BU.out.cell (i := 1) rfl
                have r2 := BU.out.cell (i := 2) rfl
                have fr := BU.out.frozen
                have hlw := hcum.size
                go_wp2_with fail
                obtain ⟨Z, hZ⟩ : ∃ Z, Z = ((w5.setCell ⟨w.heap.size + 1, 0, none⟩ (.slice a1 m1 c1)).setCell ⟨w.heap.size + 1, 1, none⟩ (.slice a2 m2 c2)).setCell ⟨w.heap.size + 1, 2, none⟩ (.slice a3 m3 c3) := ⟨_, rfl⟩
                rw [← hZ]
                have hwz : Within (w.heap.size + 1) (w.heap.size + 2) w5 Z := by rw [hZ]; exact ((Within.refl _ _ _ |>.setCell (by omega) (by omega) _ _) |>.setCell (by omega) (by omega) _ _) |>.setCell (by omega) (by omega) _ _
                have hZs : Z.heap.size = w5.heap.size := by rw [hZ]; simp only [size_setC]
                have BZ : BoxN Z (w.heap.size + 1) 47 [(.slice a1 m1 c1), (.slice a2 m2 c2), (.slice a3 m3 c3)] := by rw [hZ]; exact ((BU.out.set 0 _).set 1 _).set 2 _
                have HZB := Lib.hid ((Below.next HWB.out hcum).trans (hwz.below (B := w.heap.size) (by omega) (by omega)))
                have HOZ := Lib.hid ((kS rProof).own_mono (Kind.kept (K := kS rProof) HO5.out hwz (.inr (by omega))) (show w.heap.size ≤ _ by omega) (show _ ≤ Z.heap.size by omega))
                clear hZ r0 r1 r2 fr
                have r0 := BZ.cell (i := 0) rfl
                have r1 := BZ.cell (i := 1) rfl
                have r2 := BZ.cell (i := 2) rfl
                refine bodyPost_ret (v := .tuple #[.agg #[.slice a1 m1 c1, .slice a2 m2 c2, .slice a3 m3 c3], .bool true]) (by simp [results, Try.results216, go_sem, r0, r1, r2]) rfl ⟨_, rfl, HOZ.out, HZB.out⟩
end Go.Proofs.Ytapfceghgkmgoaa
