/- Walks: rows of elements, images. -/
import Derived.Test.YtapfceghgkmgoaaGrp4
namespace Go.Proofs.Ytapfceghgkmgoaa
open Go.RowKit
set_option linter.unusedSimpArgs false
set_option linter.unusedVariables false

theorem Below.cell' {B b o : Nat} {w w' : World} {x : Value} (h : Below B w w') (hb : b < B) (hc : w.cell? ⟨b, o, none⟩ = some x) : w'.cell? ⟨b, o, none⟩ = some x := (h.cell (p := ⟨b, o, none⟩) hb).trans hc
def headLen (ls : List (List Int)) : Nat := (ls.headD []).length
def rowB (gr : GroupD) (n : Nat) (r : List Int) : Bool := decide (r.length = n) && r.all (elB gr)
/-- the bases of a linear statement -/
def rowsB (gr : GroupD) (ls : List (List Int)) : Bool := decide (1 ≤ ls.length ∧ ls.length ≤ 8) && (decide (1 ≤ headLen ls ∧ headLen ls ≤ 8) && ls.all (rowB gr (headLen ls)))
def imagesL (gr : GroupD) (ls : List (List Int)) (es : List Int) : List Int := ls.map fun r => prodL gr r es
theorem rowsB_any (gr : GroupD) (n : Nat) (ls : List (List Int)) : (ls.any fun l => !rowB gr n l) = !(ls.all (rowB gr n)) := by
  induction ls with
  | nil => rfl
  | cons a ls ih => simp only [List.any_cons, List.all_cons, ih, Bool.not_and]
theorem headLen_eq {ls : List (List Int)} (h : 0 < ls.length) : headLen ls = (ls[0]'h).length := by
  cases ls with
  | nil => simp at h
  | cons a ls => rfl
theorem rowB_bd {gr : GroupD} (hg : OkG gr) {n : Nat} {r : List Int} (h : rowB gr n r = true) : r.length = n ∧ AllSmall r := by
  unfold rowB at h; simp only [Bool.and_eq_true, decide_eq_true_iff] at h
  exact ⟨h.1, all_small hg h.2⟩
theorem rowsB_bd {gr : GroupD} (hg : OkG gr) {ls : List (List Int)} (h : rowsB gr ls = true) : (1 ≤ ls.length ∧ ls.length ≤ 8) ∧ (1 ≤ headLen ls ∧ headLen ls ≤ 8) ∧ ∀ r ∈ ls, r.length = headLen ls ∧ AllSmall r := by
  unfold rowsB at h; simp only [Bool.and_eq_true, decide_eq_true_iff] at h
  exact ⟨h.1, h.2.1, fun r hr => rowB_bd hg (List.all_eq_true.1 h.2.2 r hr)⟩
set_option maxHeartbeats 1000000 in
theorem impl_areRows1 (gr : GroupD) (v : Value) (r : List Int) (vb : Value) (ls : List (List Int)) (b g : Nat) (w : World) (hg : OkG gr) (h : Ints w v r) (hls : RdL kInts w vb ls) (h0 : 0 < ls.length)
    (cb : w.cell? ⟨b, 0, none⟩ = some vb) (c0 : w.cell? ⟨g, 0, none⟩ = some (.int .i64 gr.p)) (c1 : w.cell? ⟨g, 1, none⟩ = some (.int .i64 gr.q)) (c2 : w.cell? ⟨g, 2, none⟩ = some (.int .i64 gr.g)) :
    Calls Try.prog 272 #[v, .pointer (some ⟨b, 0, none⟩), .pointer (some ⟨g, 0, none⟩)] w fun e w' => e = .returned (.bool (!rowB gr (headLen ls) r)) ∧ Below w.heap.size w w' := by
  have HG := Lib.hid hg
  obtain ⟨a, n, c, rfl⟩ := h.shape
  obtain ⟨ab, nb, cbb, rfl⟩ := hls.shape
  have e := h.len
  have eb := hls.len
  obtain ⟨k1, k2⟩ := h.capMax
  obtain ⟨k3, k4⟩ := hls.capMax
  unfold maxLen at k2 k4
  have hnb : 0 < nb := by omega
  obtain ⟨bb, oo, rfl, cs, hcx⟩ := hls.at_ hnb
  obtain ⟨hy, hr0⟩ := hcx 0 h0
  rw [Nat.add_zero] at hy
  obtain ⟨a0, n0, c0', hs0⟩ := Ints.shape hr0
  rw [hs0] at hy hr0
  have e0 := Ints.len hr0
  obtain ⟨k5, k6⟩ := Ints.capMax hr0
  unfold maxLen at k6
  have HHL : Hid (headLen ls = n0) := by unfold Hid; rw [headLen_eq h0]; exact e0
  rw [HHL.out]
  have H := Lib.hid h
  clear h hls hcx hr0 e0 hs0
  (obtain ⟨q, h_q⟩ : ∃ b_q, r.all (elB gr) = b_q := ⟨_, rfl⟩); have HQ := Lib.hid h_q; clear h_q
  by_cases hn : n = n0
  · subst hn
    have HR : Hid (rowB gr n r = q) := by unfold Hid rowB; rw [decide_eq_true e, HQ.out]; rfl
    rw [HR.out]
    have z1 : ((n : Int) != (n : Int)) = false := by simp
    clear e eb hg
    obtain ⟨p, qq, g'⟩ := gr
    go_enter Try.func272, Try.ntmps272
    go_wp2_with (first
      | (go_at_call 227; refine (impl_hasAll ⟨p, qq, g'⟩ _ r _ HG.out H.out).mono ?_; rintro e w1 ⟨rfl, hb1⟩; rw [HQ.out])
      | fail)
    go_ret
    exact ⟨rfl, hb1⟩
  · have HR : Hid (rowB gr n0 r = false) := by unfold Hid rowB; rw [decide_eq_false (by omega)]; rfl
    rw [HR.out]
    have z1 : ((n : Int) != (n0 : Int)) = true := by rw [bne_iff_ne]; omega
    clear e eb hn hg
    go_enter Try.func272, Try.ntmps272
    go_wp2_with fail
    go_ret
    exact ⟨rfl, Below.refl _ _⟩
set_option maxHeartbeats 2000000 in
theorem impl_areRows (gr : GroupD) (v : Value) (ls : List (List Int)) (w : World) (hg : OkG gr) (h : RdL kInts w v ls) :
    Calls Try.prog 259 #[.agg #[.int .i64 gr.p, .int .i64 gr.q, .int .i64 gr.g], v] w fun e w' => e = .returned (.bool (rowsB gr ls)) ∧ Below w.heap.size w w' := by
  have HG := Lib.hid hg; clear hg
  obtain ⟨a, n, c, rfl⟩ := h.shape
  have e := h.len
  obtain ⟨k1, k2⟩ := h.capMax
  unfold maxLen at k2
  have HBA : Hid (Below w.heap.size w ((w.alloc (.cells #[.int .i64 gr.p, .int .i64 gr.q, .int .i64 gr.g] 88)).alloc (.cells #[.slice a n c] 23))) := by unfold Hid; (repeat (first | exact Below.refl _ _ | assumption | refine Below.drew ?_ | refine Below.alloc ?_ (by first | (simp; done) | (simp; omega)) _ | refine Below.setCell ?_ (by first | (simp; done) | (simp; omega)) _))
  by_cases hn : 1 ≤ n ∧ n ≤ 8
  · have h0 : 0 < ls.length := by omega
    have hn0 : 0 < n := by omega
    obtain ⟨bb, oo, rfl, cs, hcx⟩ := h.at_ (by omega)
    obtain ⟨hy, hr0⟩ := hcx 0 h0
    rw [Nat.add_zero] at hy
    obtain ⟨a0, n0, c0', hs0⟩ := Ints.shape hr0
    rw [hs0] at hy hr0
    have e0 := Ints.len hr0
    obtain ⟨k5, k6⟩ := Ints.capMax hr0
    unfold maxLen at k6
    have HHL : Hid (headLen ls = n0) := by unfold Hid; rw [headLen_eq h0]; exact e0
    have H1 : Hid (decide (1 ≤ (n : Int) ∧ (n : Int) ≤ 8) = true) := decide_eq_true (by omega)
    (obtain ⟨q2, h_q⟩ : ∃ b_q, decide (1 ≤ (n0 : Int) ∧ (n0 : Int) ≤ 8) = b_q := ⟨_, rfl⟩); have H2 := Lib.hid h_q; clear h_q
    have HN2 : Hid (decide (1 ≤ n0 ∧ n0 ≤ 8) = q2) := by unfold Hid; rw [← H2.out, decide_eq_decide]; omega
    obtain ⟨q3, hq3⟩ : ∃ b, (ls.any fun l => !rowB gr (headLen ls) l) = b := ⟨_, rfl⟩
    have H3 := Lib.hid hq3
    have HR : Hid (rowsB gr ls = (q2 && !q3)) := by
      unfold Hid rowsB
      rw [← hq3, rowsB_any, HHL.out, HN2.out, decide_eq_true (by omega)]; simp
    have HD : Hid (DecidesR ((w.alloc (.cells #[.int .i64 gr.p, .int .i64 gr.q, .int .i64 gr.g] 88)).alloc (.cells #[.slice (some ⟨bb, oo, none⟩) n c] 23)) 272 #[.pointer (some ⟨w.heap.size + 1, 0, none⟩), .pointer (some ⟨w.heap.size, 0, none⟩)] (fun l => !rowB gr (headLen ls) l)) := by
      refine ⟨Try.call272, fun x l wr hx hb => impl_areRows1 gr x l _ ls (w.heap.size + 1) w.heap.size wr HG.out hx (kRows.rd_below (kRows.rd_below h HBA.out) hb) h0 (box_at (by simp [go_sem]) hb) (box_at (by simp [go_sem]) hb) (box_at (by simp [go_sem]) hb) (box_at (by simp [go_sem]) hb)⟩
    have H := Lib.hid h
    clear hq3 hcx hr0 e0 hs0 e h
    have hbl : bb < w.heap.size := World.block_lt_of_cell? w _ hy
    have hb1 : bb ≠ w.heap.size := by omega
    have hb2 : bb ≠ w.heap.size + 1 := by omega
    rw [HR.out]
    go_enter Try.func259, Try.ntmps259
    go_wp2_with (first
      | (go_at_call_of 196 (Value.int .i64 n); refine (impl_within _ _ _ _).mono ?_; rintro e w1 ⟨rfl, rfl⟩; first | rw [H1.out] | (rw [H2.out]; cases q2))
      | (go_at_call 196; refine (impl_within _ _ _ _).mono ?_; rintro e w1 ⟨rfl, rfl⟩; (rw [H2.out]; cases q2))
      | (go_at_call 180; refine (slices_ContainsFuncR _ ls 272 _ (fun l => !rowB gr (headLen ls) l) _ (kRows.rd_below H.out HBA.out) HD.out).mono ?_; rintro e w1 ⟨rfl, hb⟩; rw [H3.out])
      | fail)
    all_goals go_ret
    all_goals first
      | exact ⟨rfl, HBA.out⟩
      | exact ⟨rfl, HBA.out.trans (hb.mono (by simp; omega))⟩
      | fail
  · have H1 : Hid (decide (1 ≤ (n : Int) ∧ (n : Int) ≤ 8) = false) := decide_eq_false (by omega)
    have HR : Hid (rowsB gr ls = false) := by unfold Hid rowsB; rw [decide_eq_false (by omega)]; rfl
    rw [HR.out]
    clear hn e h
    go_enter Try.func259, Try.ntmps259
    go_wp2_with (first
      | (go_at_call 196; refine (impl_within _ _ _ _).mono ?_; rintro e w1 ⟨rfl, rfl⟩; rw [H1.out])
      | fail)
    go_ret
    exact ⟨rfl, HBA.out⟩
theorem imagesL_succ {gr : GroupD} {ls : List (List Int)} {es : List Int} {k : Nat} (h : k < ls.length) : imagesL gr (ls.take (k + 1)) es = imagesL gr (ls.take k) es ++ [prodL gr ls[k] es] := by
  unfold imagesL; rw [List.take_succ_eq_append_getElem h, List.map_append]; rfl
theorem imagesL_length {gr : GroupD} {ls : List (List Int)} {es : List Int} : (imagesL gr ls es).length = ls.length := by simp [imagesL]
set_option maxRecDepth 100000 in
set_option maxHeartbeats 2000000 in
theorem impl_images (gr : GroupD) (v : Value) (ls : List (List Int)) (v2 : Value) (es : List Int) (w : World) (hg : OkG gr) (h : RdL kInts w v ls) (h2 : Ints w v2 es) (hr : ∀ r ∈ ls, r.length ≤ es.length ∧ AllSmall r) (hn8 : ls.length ≤ 1000000) :
    Calls Try.prog 274 #[.agg #[.int .i64 gr.p, .int .i64 gr.q, .int .i64 gr.g], v, v2] w fun e w' => ∃ v', e = .returned v' ∧ OwnI w' w.heap.size v' (imagesL gr ls es) ∧ Below w.heap.size w w' := by
  have HG := Lib.hid hg; clear hg
  obtain ⟨p, q, g⟩ := gr
  obtain ⟨a, n, c, rfl⟩ := h.shape
  have e := h.len
  obtain ⟨k1, k2⟩ := h.capMax
  unfold maxLen at k2
  have HE := Lib.hid e
  have hn6 : n ≤ 1000000 := by omega
  clear e hn8
  have HR := Lib.hid hr; clear hr
  have H := Lib.hid h; clear h
  have H2 := Lib.hid h2; clear h2
  go_enter Try.func274, Try.ntmps274
  go_wp2
  obtain ⟨W, hW⟩ : ∃ W, W = (w.alloc (.cells #[.int .i64 p, .int .i64 q, .int .i64 g] 88)).alloc (.cells #[] 3) := ⟨_, rfl⟩
  rw [← hW]
  have HB : Hid (Below w.heap.size w W) := by unfold Hid; rw [hW]; (repeat (first | exact Below.refl _ _ | assumption | refine Below.drew ?_ | refine Below.alloc ?_ (by first | (simp; done) | (simp; omega)) _ | refine Below.setCell ?_ (by first | (simp; done) | (simp; omega)) _))
  have C0 : Hid (W.cell? ⟨w.heap.size, 0, none⟩ = some (.int .i64 p)) := by unfold Hid; rw [hW]; simp [go_sem]
  have C1 : Hid (W.cell? ⟨w.heap.size, 1, none⟩ = some (.int .i64 q)) := by unfold Hid; rw [hW]; simp [go_sem]
  have C2 : Hid (W.cell? ⟨w.heap.size, 2, none⟩ = some (.int .i64 g)) := by unfold Hid; rw [hW]; simp [go_sem]
  have hsW : w.heap.size < W.heap.size := by rw [hW]; first | (simp; done) | (simp; omega)
  have HO1 : Hid (OwnI W (w.heap.size + 1) (.slice (some ⟨w.heap.size + 1, 0, none⟩) 0 0) []) := by unfold Hid; rw [hW]; have := OwnI.lit (B := w.heap.size + 1) (w.alloc (.cells #[.int .i64 p, .int .i64 q, .int .i64 g] 88)) (by simp) AllI64.nil (cs := #[]) rfl (by simp) 0 rfl; simpa using this
  clear hW
  go_loopg [7, 13] n (fun gh ov i wr => ∃ k : Nat, k + gh = n ∧ i = .int .i64 k ∧ OwnI wr (w.heap.size + 1) ov (imagesL ⟨p, q, g⟩ (ls.take k) es) ∧ Below (w.heap.size + 1) W wr)
  case atStart => exact ⟨0, by omega, rfl, HO1.out, Below.refl _ _⟩
  case round =>
    obtain ⟨k, hk, rfl, hO, hbw⟩ := hrel
    have HBW := Lib.hid hbw
    have hsz := hbw.size
    have HBT : Hid (Below w.heap.size w wr) := HB.out.trans (hbw.mono (by omega))
    by_cases hlt : k < n
    · have HK : Hid (k < ls.length) := by unfold Hid; rw [HE.out]; exact hlt
      obtain ⟨bk, oo, rfl, cs, hcx⟩ := (kRows.rd_below H.out HBT.out).at_ (by omega)
      obtain ⟨hy, hry⟩ := hcx k HK.out
      have HS := Lib.hid (imagesL_succ (gr := ⟨p, q, g⟩) (es := es) HK.out)
      have hrk := HR.out _ (List.getElem_mem HK.out)
      have HRY : Hid (Ints wr (cs k) (ls[k]'HK.out)) := hry
      have HL1 := Lib.hid hrk.1; have HL2 := Lib.hid hrk.2
      clear hcx hry hrk
      generalize ls[k]'HK.out = r at HS HRY HL1 HL2
      obtain ⟨ar, nr, cr, hcs⟩ := HRY.out.shape
      rw [hcs] at hy HRY
      clear hcs
      have d0 := Below.cell' hbw (by omega) C0.out
      have d1 := Below.cell' hbw (by omega) C1.out
      have d2 := Below.cell' hbw (by omega) C2.out
      obtain ⟨ao, co, rfl⟩ := hO.shape
      have HO := Lib.hid hO
      have HLN : Hid ((imagesL ⟨p, q, g⟩ (ls.take k) es).length ≤ 1000000) := by unfold Hid; rw [imagesL_length, List.length_take]; omega
      clear hO hbw
      have hpb := prodL_bd HG.out r es
      have hp2 := HG.out.p2
      simp only [] at hpb hp2
      go_wp2_with fail
      refine (impl_powers ⟨p, q, g⟩ _ _ r es _ HG.out HRY.out (H2.out.below HBT.out) HL2.out HL1.out).mono ?_
      rintro e w1 ⟨rfl, hb1⟩
      have hs1 := hb1.size
      have HB1 := Lib.hid hb1
      generalize prodL ⟨p, q, g⟩ r es = z at hpb HS ⊢
      clear hb1
      go_wp2_with (at_builtin; refine wpList_append_ints rfl _ _ rfl (w.heap.size + 1) _ _ (imagesL ⟨p, q, g⟩ (ls.take k) es) [z] rfl ((HO.out.below HB1.out).alloc _) rfl (Ints.lit1 _ ⟨by omega, by omega⟩) (by have := HLN.out; simp only [List.length_cons, List.length_nil]; omega) (by simp; omega) ?_; intro v4 w4 hown4 hgr4)
      have hb4 := ((HO.out.below HB1.out).alloc (.cells #[.int .i64 z] 3)).grown hgr4 (by simp; omega)
      go_roundg (n - (k + 1))
      case measure => omega
      case rel => exact ⟨k + 1, by omega, by go_num, by rw [HS.out]; exact hown4, (HBW.out.trans (HB1.out.mono (by omega))).trans (((Below.refl (w.heap.size + 1) w1).alloc (by omega) _).trans hb4)⟩
    · obtain rfl : n = k := by omega
      rw [List.take_of_length_le (by rw [HE.out]; exact Nat.le_refl _)] at hO
      have HO := Lib.hid hO
      clear hO hbw
      go_wp2_with fail
      go_ret
      exact ⟨_, rfl, HO.out.mono (by omega), HBT.out⟩
set_option maxRecDepth 100000 in
set_option maxHeartbeats 2000000 in
theorem spec_sImages (gr : GroupD) (v : Value) (ls : List (List Int)) (v2 : Value) (es : List Int) (w : World) (hg : OkG gr) (h : RdL kInts w v ls) (h2 : Ints w v2 es) (hr : ∀ r ∈ ls, r.length ≤ es.length ∧ AllSmall r) (hn8 : ls.length ≤ 1000000) :
    Calls Try.prog 254 #[.agg #[.int .i64 gr.p, .int .i64 gr.q, .int .i64 gr.g], v, v2] w fun e w' => ∃ v', e = .returned v' ∧ OwnI w' w.heap.size v' (imagesL gr ls es) ∧ Below w.heap.size w w' := by
  have HG := Lib.hid hg; clear hg
  obtain ⟨p, q, g⟩ := gr
  obtain ⟨a, n, c, rfl⟩ := h.shape
  have e := h.len
  obtain ⟨k1, k2⟩ := h.capMax
  unfold maxLen at k2
  have HE := Lib.hid e
  have hn6 : n ≤ 1000000 := by omega
  clear e hn8
  have HR := Lib.hid hr; clear hr
  have H := Lib.hid h; clear h
  have H2 := Lib.hid h2; clear h2
  go_enter Try.func254, Try.ntmps254
  go_wp2
  obtain ⟨W, hW⟩ : ∃ W, W = w.alloc (.cells #[.int .i64 p, .int .i64 q, .int .i64 g] 88) := ⟨_, rfl⟩
  rw [← hW]
  have HB : Hid (Below w.heap.size w W) := by unfold Hid; rw [hW]; (repeat (first | exact Below.refl _ _ | assumption | refine Below.drew ?_ | refine Below.alloc ?_ (by first | (simp; done) | (simp; omega)) _ | refine Below.setCell ?_ (by first | (simp; done) | (simp; omega)) _))
  have C0 : Hid (W.cell? ⟨w.heap.size, 0, none⟩ = some (.int .i64 p)) := by unfold Hid; rw [hW]; simp [go_sem]
  have C1 : Hid (W.cell? ⟨w.heap.size, 1, none⟩ = some (.int .i64 q)) := by unfold Hid; rw [hW]; simp [go_sem]
  have C2 : Hid (W.cell? ⟨w.heap.size, 2, none⟩ = some (.int .i64 g)) := by unfold Hid; rw [hW]; simp [go_sem]
  have hsW : w.heap.size < W.heap.size := by rw [hW]; first | (simp; done) | (simp; omega)
  have HO1 : Hid (OwnI W (w.heap.size + 1) (.slice none 0 0) []) := by unfold Hid; exact OwnI.nil _ _
  clear hW
  go_loopg [7, 12] n (fun gh ov i wr => ∃ k : Nat, k + gh = n ∧ i = .int .i64 k ∧ OwnI wr (w.heap.size + 1) ov (imagesL ⟨p, q, g⟩ (ls.take k) es) ∧ Below (w.heap.size + 1) W wr)
  case atStart => exact ⟨0, by omega, rfl, HO1.out, Below.refl _ _⟩
  case round =>
    obtain ⟨k, hk, rfl, hO, hbw⟩ := hrel
    have HBW := Lib.hid hbw
    have hsz := hbw.size
    have HBT : Hid (Below w.heap.size w wr) := HB.out.trans (hbw.mono (by omega))
    by_cases hlt : k < n
    · have HK : Hid (k < ls.length) := by unfold Hid; rw [HE.out]; exact hlt
      obtain ⟨bk, oo, rfl, cs, hcx⟩ := (kRows.rd_below H.out HBT.out).at_ (by omega)
      obtain ⟨hy, hry⟩ := hcx k HK.out
      have HS := Lib.hid (imagesL_succ (gr := ⟨p, q, g⟩) (es := es) HK.out)
      have hrk := HR.out _ (List.getElem_mem HK.out)
      have HRY : Hid (Ints wr (cs k) (ls[k]'HK.out)) := hry
      have HL1 := Lib.hid hrk.1; have HL2 := Lib.hid hrk.2
      clear hcx hry hrk
      generalize ls[k]'HK.out = r at HS HRY HL1 HL2
      obtain ⟨ar, nr, cr, hcs⟩ := HRY.out.shape
      rw [hcs] at hy HRY
      clear hcs
      have d0 := Below.cell' hbw (by omega) C0.out
      have d1 := Below.cell' hbw (by omega) C1.out
      have d2 := Below.cell' hbw (by omega) C2.out
      obtain ⟨ao, co, rfl⟩ := hO.shape
      have HO := Lib.hid hO
      have HLN : Hid ((imagesL ⟨p, q, g⟩ (ls.take k) es).length ≤ 1000000) := by unfold Hid; rw [imagesL_length, List.length_take]; omega
      clear hO hbw
      have hpb := prodL_bd HG.out r es
      have hp2 := HG.out.p2
      simp only [] at hpb hp2
      go_wp2_with fail
      refine (spec_gProd ⟨p, q, g⟩ _ _ r es _ HG.out HRY.out (H2.out.below HBT.out) HL2.out HL1.out).mono ?_
      rintro e w1 ⟨rfl, hb1⟩
      have hs1 := hb1.size
      have HB1 := Lib.hid hb1
      generalize prodL ⟨p, q, g⟩ r es = z at hpb HS ⊢
      clear hb1
      go_wp2_with (at_builtin; refine wpList_append_ints rfl _ _ rfl (w.heap.size + 1) _ _ (imagesL ⟨p, q, g⟩ (ls.take k) es) [z] rfl ((HO.out.below HB1.out).alloc _) rfl (Ints.lit1 _ ⟨by omega, by omega⟩) (by have := HLN.out; simp only [List.length_cons, List.length_nil]; omega) (by simp; omega) ?_; intro v4 w4 hown4 hgr4)
      have hb4 := ((HO.out.below HB1.out).alloc (.cells #[.int .i64 z] 3)).grown hgr4 (by simp; omega)
      go_roundg (n - (k + 1))
      case measure => omega
      case rel => exact ⟨k + 1, by omega, by go_num, by rw [HS.out]; exact hown4, (HBW.out.trans (HB1.out.mono (by omega))).trans (((Below.refl (w.heap.size + 1) w1).alloc (by omega) _).trans hb4)⟩
    · obtain rfl : n = k := by omega
      rw [List.take_of_length_le (by rw [HE.out]; exact Nat.le_refl _)] at hO
      have HO := Lib.hid hO
      clear hO hbw
      go_wp2_with fail
      go_ret
      exact ⟨_, rfl, HO.out.mono (by omega), HBT.out⟩
theorem flatten_take_succ' {ls : List (List Int)} {k : Nat} (h : k < ls.length) : (ls.take (k + 1)).flatten = (ls.take k).flatten ++ ls[k] := by
  rw [List.take_succ_eq_append_getElem h, List.flatten_append]; simp
theorem total_flatten (ls : List (List Int)) : ls.flatten.length = total ls := by unfold total; rw [List.length_flatten]
set_option maxRecDepth 100000 in
set_option maxHeartbeats 2000000 in
theorem spec_sStatement (v : Value) (ls : List (List Int)) (v2 v3 : Value) (l2 l3 : List Int) (w : World) (h : RdL kInts w v ls) (h2 : Ints w v2 l2) (h3 : Ints w v3 l3) (ht : total ls ≤ 1000000) (hl2 : l2.length ≤ 1000000) (hl3 : l3.length ≤ 1000000) :
    Calls Try.prog 256 #[v, v2, v3] w fun e w' => ∃ v', e = .returned v' ∧ OwnI w' w.heap.size v' (ls.flatten ++ l2 ++ l3) ∧ Below w.heap.size w w' := by
  obtain ⟨a, n, c, rfl⟩ := h.shape
  have e := h.len
  obtain ⟨k1, k2⟩ := h.capMax
  unfold maxLen at k2
  have HE := Lib.hid e
  clear e
  have H := Lib.hid h; clear h
  obtain ⟨a2, n2, c2, rfl⟩ := h2.shape
  obtain ⟨a3, n3, c3, rfl⟩ := h3.shape
  have H2 := Lib.hid h2; clear h2
  have H3 := Lib.hid h3; clear h3
  have HT := Lib.hid ht; clear ht
  go_enter Try.func256, Try.ntmps256
  go_wp2
  go_loopg [7, 12] n (fun gh ov i wr => ∃ k : Nat, k + gh = n ∧ i = .int .i64 k ∧ OwnI wr w.heap.size ov (ls.take k).flatten ∧ Below w.heap.size w wr)
  case atStart => exact ⟨0, by omega, rfl, OwnI.nil _ _, Below.refl _ _⟩
  case round =>
    obtain ⟨k, hk, rfl, hO, hbw⟩ := hrel
    have HBW := Lib.hid hbw
    have hsz := hbw.size
    by_cases hlt : k < n
    · have HK : Hid (k < ls.length) := by unfold Hid; rw [HE.out]; exact hlt
      obtain ⟨bk, oo, rfl, cs, hcx⟩ := (kRows.rd_below H.out hbw).at_ (by omega)
      obtain ⟨hy, hry⟩ := hcx k HK.out
      have HS := Lib.hid (flatten_take_succ' HK.out)
      have HTT : Hid ((ls.take k).flatten.length + (ls[k]'HK.out).length ≤ 1000000) := by
        unfold Hid
        have h1 := total_flatten (ls.take (k + 1))
        rw [HS.out, List.length_append] at h1
        have h2 := total_take_le (ls := ls) (k := k + 1)
        have := HT.out; omega
      have HRY : Hid (Ints wr (cs k) (ls[k]'HK.out)) := hry
      clear hcx hry
      generalize ls[k]'HK.out = r at HS HRY HTT
      obtain ⟨ar, nr, cr, hcs⟩ := HRY.out.shape
      rw [hcs] at hy HRY
      clear hcs
      obtain ⟨ao, co, rfl⟩ := hO.shape
      have HO := Lib.hid hO
      clear hO hbw
      go_wp2_with (at_builtin; refine wpList_append_ints rfl _ _ rfl w.heap.size _ _ (ls.take k).flatten r rfl HO.out rfl HRY.out (by have := HTT.out; omega) hsz ?_; intro v4 w4 hown4 hgr4)
      have hb4 := HO.out.grown hgr4 hsz
      go_roundg (n - (k + 1))
      case measure => omega
      case rel => exact ⟨k + 1, by omega, by go_num, by rw [HS.out]; exact hown4, HBW.out.trans hb4⟩
    · obtain rfl : n = k := by omega
      rw [List.take_of_length_le (by rw [HE.out]; exact Nat.le_refl _)] at hO
      obtain ⟨ao, co, rfl⟩ := hO.shape
      have HO := Lib.hid hO
      have HTF : Hid (ls.flatten.length ≤ 1000000) := by unfold Hid; rw [total_flatten]; exact HT.out
      clear hO hbw
      obtain ⟨F, hF⟩ : ∃ F, ls.flatten = F := ⟨_, rfl⟩
      rw [hF] at HO HTF ⊢
      have HFF := Lib.hid hF
      clear hF
      have HLF : Hid ((F ++ l2).length ≤ 2000000) := by unfold Hid; rw [List.length_append]; have := HTF.out; omega
      obtain ⟨m4, hm4⟩ : ∃ m, F.length + l2.length = m := ⟨_, rfl⟩
      have HM4 := Lib.hid hm4; clear hm4
      go_wp2_with (first
        | (at_builtin; refine wpList_append_intsN rfl (.tmp 20) (.tmp 21) rfl w.heap.size _ _ F l2 rfl HO.out rfl (H2.out.below HBW.out) (by have := HTF.out; omega) hsz m4 HM4.out ?_; intro a4 c4 w4 hown4 hgr4; (have HO4 := Lib.hid hown4); (have HB4 := Lib.hid (HO.out.grown hgr4 hsz)); (have hs4 := HB4.out.size); clear hown4 hgr4)
        | (at_builtin; refine wpList_append_ints rfl (.tmp 22) (.tmp 23) rfl w.heap.size _ _ (F ++ l2) l3 rfl HO4.out rfl (H3.out.below (HBW.out.trans HB4.out)) (by have := HLF.out; omega) (by omega) ?_; intro v5 w5 hown5 hgr5)
        | fail)
      have hb5 := HO4.out.grown hgr5 (by omega)
      go_ret
      exact ⟨_, rfl, by rw [HFF.out]; exact hown5, (HBW.out.trans HB4.out).trans hb5⟩
end Go.Proofs.Ytapfceghgkmgoaa
