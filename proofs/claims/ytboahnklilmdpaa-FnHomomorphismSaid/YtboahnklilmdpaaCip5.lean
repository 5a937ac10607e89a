/- Ciphertexts: products, products of powers: walks (printed by gen_cip5.py). -/
import Derived.Test.YtboahnklilmdpaaCip4
namespace Go.Proofs.Ytboahnklilmdpaa
open Go.RowKit
set_option linter.unusedSimpArgs false
set_option linter.unusedVariables false

/-- the product of powers of ciphertexts -/
def wC (gr : GroupD) (l : List CipherD) (es : List Int) : CipherD := (l.zip es).foldl (fun o x => c2 gr o (pwC gr x.1 x.2)) ⟨1, 1⟩
def wTo (gr : GroupD) (l : List CipherD) (es : List Int) (k : Nat) : CipherD := ((l.zip es).take k).foldl (fun o x => c2 gr o (pwC gr x.1 x.2)) ⟨1, 1⟩
theorem wTo_succ {gr : GroupD} {l : List CipherD} {es : List Int} {k : Nat} (h : k < l.length) (h2 : k < es.length) : wTo gr l es (k + 1) = c2 gr (wTo gr l es k) (pwC gr l[k] (nth es k)) := by
  unfold wTo
  have hz : k < (l.zip es).length := by rw [List.length_zip]; omega
  rw [List.take_succ_eq_append_getElem hz, List.foldl_append, List.getElem_zip]
  simp only [List.foldl_cons, List.foldl_nil]
  rw [show nth es k = es[k] by simp [nth, h2]]
theorem wTo_all {gr : GroupD} {l : List CipherD} {es : List Int} (h : l.length ≤ es.length) : wTo gr l es l.length = wC gr l es := by
  unfold wTo wC
  rw [List.take_of_length_le (by rw [List.length_zip]; omega)]
theorem wTo_small {gr : GroupD} (hg : OkG gr) (l : List CipherD) (es : List Int) (k : Nat) : SmallC (wTo gr l es k) := by
  unfold wTo
  suffices h : ∀ (l : List (CipherD × Int)) (o : CipherD), SmallC o → SmallC (l.foldl (fun o x => c2 gr o (pwC gr x.1 x.2)) o) from h _ ⟨1, 1⟩ ⟨⟨by decide, by decide⟩, ⟨by decide, by decide⟩⟩
  intro l
  induction l with
  | nil => intro o h; exact h
  | cons x l ih => intro o h; exact ih _ (c2_small hg _ _)
theorem wC_small {gr : GroupD} (hg : OkG gr) (l : List CipherD) (es : List Int) : SmallC (wC gr l es) := by
  unfold wC
  suffices h : ∀ (l : List (CipherD × Int)) (o : CipherD), SmallC o → SmallC (l.foldl (fun o x => c2 gr o (pwC gr x.1 x.2)) o) from h _ ⟨1, 1⟩ ⟨⟨by decide, by decide⟩, ⟨by decide, by decide⟩⟩
  intro l
  induction l with
  | nil => intro o h; exact h
  | cons x l ih => intro o h; exact ih _ (c2_small hg _ _)
theorem eM_2 {gr : GroupD} (hg : OkG gr) {o c : CipherD} (ho : 0 ≤ o.a ∧ o.a < gr.p ∧ 0 ≤ o.b ∧ o.b < gr.p) : eM gr [o, c] = c2 gr o c := by
  have h1 : c2 gr ⟨1, 1⟩ o = o := by
    unfold c2
    rw [mulL_one ho.1 ho.2.1, mulL_one ho.2.2.1 ho.2.2.2]
  unfold eM
  rw [List.foldl_cons, h1]; rfl
theorem c2_bd {gr : GroupD} (hg : OkG gr) (a b : CipherD) : 0 ≤ (c2 gr a b).a ∧ (c2 gr a b).a < gr.p ∧ 0 ≤ (c2 gr a b).b ∧ (c2 gr a b).b < gr.p := by
  have h1 := mulL_bd hg [a.a, b.a]
  have h2 := mulL_bd hg [a.b, b.b]
  exact ⟨h1.1, h1.2, h2.1, h2.2⟩
theorem wTo_bd {gr : GroupD} (hg : OkG gr) (l : List CipherD) (es : List Int) (k : Nat) : 0 ≤ (wTo gr l es k).a ∧ (wTo gr l es k).a < gr.p ∧ 0 ≤ (wTo gr l es k).b ∧ (wTo gr l es k).b < gr.p := by
  unfold wTo
  have hp := hg.p1
  suffices h : ∀ (l : List (CipherD × Int)) (o : CipherD), (0 ≤ o.a ∧ o.a < gr.p ∧ 0 ≤ o.b ∧ o.b < gr.p) → ∀ r, r = l.foldl (fun o x => c2 gr o (pwC gr x.1 x.2)) o → 0 ≤ r.a ∧ r.a < gr.p ∧ 0 ≤ r.b ∧ r.b < gr.p from h _ ⟨1, 1⟩ ⟨by decide, by show (1:Int) < _; omega, by decide, by show (1:Int) < _; omega⟩ _ rfl
  intro l
  induction l with
  | nil => intro o h r hr; subst hr; exact h
  | cons x l ih => intro o h r hr; exact ih _ (c2_bd hg _ _) r hr
set_option maxRecDepth 100000 in
set_option maxHeartbeats 2000000 in
theorem impl_mulCiphers (gr : GroupD) (v : Value) (l : List CipherD) (w : World) (hg : OkG gr) (h : RdR rCipher w v l) (hl : AllSmallC l) :
    Calls Try.prog 168 #[.agg #[.int .i64 gr.p, .int .i64 gr.q, .int .i64 gr.g], v] w fun e w' => e = .returned (.agg #[.int .i64 (eM gr l).a, .int .i64 (eM gr l).b]) ∧ Below w.heap.size w w' := by
  obtain ⟨a, n, c, rfl⟩ := h.shape
  have e := h.len
  obtain ⟨k1, k2⟩ := h.capMax
  unfold maxLen at k2
  have HE := Lib.hid e
  have H := Lib.hid h; clear h
  have HG := Lib.hid hg; clear hg
  have HL := Lib.hid hl; clear hl
  clear e
  obtain ⟨W, hW⟩ : ∃ W, W = ((w.alloc (.cells #[.int .i64 gr.p, .int .i64 gr.q, .int .i64 gr.g] 39)).alloc (.cells #[.int .i64 0, .int .i64 0] 58)).alloc (.cells #[.int .i64 1, .int .i64 1] 58) := ⟨_, rfl⟩
  have HB : Hid (Below w.heap.size w W) := by unfold Hid; rw [hW]; (repeat (first | exact Below.refl _ _ | assumption | refine Below.drew ?_ | refine Below.alloc ?_ (by first | (simp; done) | (simp; omega)) _ | refine Below.setCell ?_ (by first | (simp; done) | (simp; omega)) _))
  have HX0 : Hid (BoxN W w.heap.size 39 [.int .i64 gr.p, .int .i64 gr.q, .int .i64 gr.g]) := by unfold Hid; rw [hW]; exact ((BoxN.new w _ _).alloc _).alloc _
  have HX1 : Hid (BoxN W (w.heap.size + 1) 58 [.int .i64 0, .int .i64 0]) := by unfold Hid; rw [hW]; have h := (BoxN.new (w.alloc (.cells #[.int .i64 gr.p, .int .i64 gr.q, .int .i64 gr.g] 39)) [.int .i64 0, .int .i64 0] 58).alloc (.cells #[.int .i64 1, .int .i64 1] 58); simpa using h
  have HX2 : Hid (BoxN W (w.heap.size + 1 + 1) 58 [.int .i64 1, .int .i64 1]) := by unfold Hid; rw [hW]; have h := BoxN.new ((w.alloc (.cells #[.int .i64 gr.p, .int .i64 gr.q, .int .i64 gr.g] 39)).alloc (.cells #[.int .i64 0, .int .i64 0] 58)) [.int .i64 1, .int .i64 1] 58; simpa using h
  go_enter Try.func168, Try.ntmps168
  go_wp2_with fail
  rw [← hW]
  clear hW
  go_loopg [11] n (fun gh iv wr => ∃ k : Nat, ∃ o : CipherD, k + gh = n ∧ iv = .int .i64 k ∧ o = eM gr (l.take k) ∧ BoxN wr w.heap.size 39 [.int .i64 gr.p, .int .i64 gr.q, .int .i64 gr.g] ∧ BoxN wr (w.heap.size + 1) 58 [.int .i64 0, .int .i64 0] ∧ BoxN wr (w.heap.size + 1 + 1) 58 [.int .i64 o.a, .int .i64 o.b] ∧ Below w.heap.size w wr)
  case atStart => exact ⟨0, ⟨1, 1⟩, by omega, rfl, rfl, HX0.out, HX1.out, HX2.out, HB.out⟩
  case round =>
    obtain ⟨k, o, hkg, rfl, ho, hx0, hx1, hx2, hb⟩ := hrel
    clear HX0 HX1 HX2
    have HX0 := Lib.hid hx0
    have HX1 := Lib.hid hx1
    have HX2 := Lib.hid hx2
    have HO := Lib.hid ho
    clear hx0 hx1 hx2 ho
    have HSO : Hid (SmallC o) := by unfold Hid; rw [HO.out]; exact eM_small HG.out _
    by_cases hlt : k < n
    · have HK : Hid (k < l.length) := by unfold Hid; rw [HE.out]; exact hlt
      have HS := Lib.hid (eM_succ (gr := gr) HK.out)
      have HSX : Hid (SmallC (l[k]'HK.out)) := HL.out _ (List.getElem_mem _)
      obtain ⟨b_x, o_x, rfl, hcx⟩ := H.out.at_ (by omega)
      obtain ⟨us, hcell, hrd⟩ := hcx k HK.out
      clear hcx
      generalize l[k]'HK.out = x at hrd HS HSX
      obtain ⟨ers, jx_0, jx_1⟩ := rdCipher.1 ⟨us, rfl, hrd⟩
      obtain rfl : us = [.int .i64 x.a, .int .i64 x.b] := by have h := Value.agg.inj ers; simpa using congrArg Array.toList h
      clear ers hrd
      have y_x_0 : wr.cell? ⟨b_x, o_x + k * 2, none⟩ = some (.int .i64 x.a) := box_at (hcell 0 (by decide)) hb
      have y_x_1 : wr.cell? ⟨b_x, o_x + k * 2 + 1, none⟩ = some (.int .i64 x.b) := box_at (hcell 1 (by decide)) hb
      clear hcell
      have HR_x := Lib.hid ((kS rCipher).rd_below (rdCipher.2 ⟨rfl, jx_0, jx_1⟩ : (kS rCipher).rd w (.agg #[.int .i64 x.a, .int .i64 x.b]) x) hb)
      have J_x_0 := Lib.hid jx_0
      have J_x_1 := Lib.hid jx_1
      clear jx_0 jx_1
      have hwk : IntKind.i64.wrap ((k : Int) + 1) = (k : Int) + 1 := IntWalk.i64_in _ (by omega)
      have HBW := Lib.hid hb; clear hb
      obtain ⟨V, hV⟩ : ∃ V, V = wr.alloc (.cells #[.int .i64 x.a, .int .i64 x.b] 58) := ⟨_, rfl⟩
      have hc : Below wr.heap.size wr V := by rw [hV]; exact (Below.refl _ _).alloc (Nat.le_refl _) _
      have c0_0 := box_at (HX0.out.cell (i := 0) rfl) hc
      have c0_1 := box_at (HX0.out.cell (i := 1) rfl) hc
      have c0_2 := box_at (HX0.out.cell (i := 2) rfl) hc
      have c1_0 := box_at (HX2.out.cell (i := 0) rfl) hc
      have c1_1 := box_at (HX2.out.cell (i := 1) rfl) hc
      have c2_0 : V.cell? ⟨wr.heap.size, 0, none⟩ = some (.int .i64 x.a) := by rw [hV]; simp [go_sem]
      have c2_1 : V.cell? ⟨wr.heap.size, 1, none⟩ = some (.int .i64 x.b) := by rw [hV]; simp [go_sem]
      have lt0 := HX0.out.lt
      have lt2 := HX2.out.lt
      have b0_0 := HX0.out.cell (i := 0) rfl
      have b0_1 := HX0.out.cell (i := 1) rfl
      have b0_2 := HX0.out.cell (i := 2) rfl
      have b1_0 := HX2.out.cell (i := 0) rfl
      have b1_1 := HX2.out.cell (i := 1) rfl
      go_wp2_with fail
      rw [← hV]
      clear hV
      refine (impl_mulTwo gr o x _ HG.out HSO.out HSX.out).mono ?_
      rintro e u1 ⟨rfl, hq1⟩
      replace hc := Below.next hc hq1
      clear hq1
      have HR2 := Lib.hid (HX2.out.below hc)
      have HR1 := Lib.hid (HX1.out.below hc)
      have HR0 := Lib.hid (HX0.out.below hc)
      have HBU := Lib.hid (HBW.out.trans (hc.mono HBW.out.size))
      clear hc c0_0 c0_1 c0_2 c1_0 c1_1 c2_0 c2_1
      clear lt0 lt2 b0_0 b0_1 b0_2 b1_0 b1_1
      have r0 := HR2.out.cell (i := 0) rfl
      have r1 := HR2.out.cell (i := 1) rfl
      have fr := fun j => HR2.out.frozen j
      go_wp2_with fail
      have HF2 := Lib.hid ((HR2.out.set 0 (.int .i64 (c2 gr o x).a)).set 1 (.int .i64 (c2 gr o x).b))
      have HF1 := Lib.hid ((HR1.out.other (b' := w.heap.size + 1 + 1) (by omega) 0 (.int .i64 (c2 gr o x).a)).other (b' := w.heap.size + 1 + 1) (by omega) 1 (.int .i64 (c2 gr o x).b))
      have HF0 := Lib.hid ((HR0.out.other (b' := w.heap.size + 1 + 1) (by omega) 0 (.int .i64 (c2 gr o x).a)).other (b' := w.heap.size + 1 + 1) (by omega) 1 (.int .i64 (c2 gr o x).b))
      have HBF := Lib.hid ((HBU.out.setCell (p := ⟨w.heap.size + 1 + 1, 0, none⟩) (by show w.heap.size ≤ w.heap.size + 1 + 1; omega) (.int .i64 (c2 gr o x).a)).setCell (p := ⟨w.heap.size + 1 + 1, 1, none⟩) (by show w.heap.size ≤ w.heap.size + 1 + 1; omega) (.int .i64 (c2 gr o x).b))
      clear r0 r1 fr
      try (go_wp2_with fail)
      go_roundg (n - (k + 1))
      case measure => omega
      case rel => exact ⟨k + 1, c2 gr o x, by omega, by go_num, by rw [HS.out, HO.out], HF0.out, HF1.out, HF2.out, HBF.out⟩
    · obtain rfl : n = k := by omega
      have HL1 : Hid (eM gr l = o) := by unfold Hid; rw [HO.out]; rw [List.take_of_length_le (by rw [HE.out]; exact Nat.le_refl _)]
      have r0 := HX2.out.cell (i := 0) rfl
      have r1 := HX2.out.cell (i := 1) rfl
      have s0 := HX1.out.cell (i := 0) rfl
      have s1 := HX1.out.cell (i := 1) rfl
      have fr := fun j => HX1.out.frozen j
      have HBR := Lib.hid hb; clear hb
      go_wp2_with fail
      have HRF := Lib.hid ((HX1.out.set 0 (.int .i64 o.a)).set 1 (.int .i64 o.b))
      have HBF := Lib.hid ((HBR.out.setCell (p := ⟨w.heap.size + 1, 0, none⟩) (by show w.heap.size ≤ w.heap.size + 1; omega) (.int .i64 o.a)).setCell (p := ⟨w.heap.size + 1, 1, none⟩) (by show w.heap.size ≤ w.heap.size + 1; omega) (.int .i64 o.b))
      clear s0 s1 fr
      have s0 := HRF.out.cell (i := 0) rfl
      have s1 := HRF.out.cell (i := 1) rfl
      refine bodyPost_ret (v := .agg #[.int .i64 o.a, .int .i64 o.b]) (by simp [results, Try.results168, go_sem, s0, s1]) rfl ⟨by rw [HL1.out], HBF.out⟩
set_option maxRecDepth 100000 in
set_option maxHeartbeats 2000000 in
theorem impl_weighted (gr : GroupD) (v : Value) (l : List CipherD) (v2 : Value) (es : List Int) (w : World) (hg : OkG gr) (h : RdR rCipher w v l) (hl : AllSmallC l) (h2 : Ints w v2 es) (hle : l.length ≤ es.length) :
    Calls Try.prog 152 #[.agg #[.int .i64 gr.p, .int .i64 gr.q, .int .i64 gr.g], v, v2] w fun e w' => e = .returned (.agg #[.int .i64 (wC gr l es).a, .int .i64 (wC gr l es).b]) ∧ Below w.heap.size w w' := by
  obtain ⟨a, n, c, rfl⟩ := h.shape
  have e := h.len
  obtain ⟨k1, k2⟩ := h.capMax
  unfold maxLen at k2
  have HE := Lib.hid e
  have H := Lib.hid h; clear h
  have HG := Lib.hid hg; clear hg
  have HL := Lib.hid hl; clear hl
  obtain ⟨a2, n2, cc2, rfl⟩ := h2.shape
  have e2 := h2.len
  obtain ⟨k3, k4⟩ := h2.capMax
  unfold maxLen at k4
  have hnn : n ≤ n2 := by omega
  have HE2 := Lib.hid e2
  have H2 := Lib.hid h2
  have HLE := Lib.hid hle
  clear h2 e2 hle
  clear e
  obtain ⟨W, hW⟩ : ∃ W, W = ((w.alloc (.cells #[.int .i64 gr.p, .int .i64 gr.q, .int .i64 gr.g] 39)).alloc (.cells #[.int .i64 0, .int .i64 0] 58)).alloc (.cells #[.int .i64 1, .int .i64 1] 58) := ⟨_, rfl⟩
  have HB : Hid (Below w.heap.size w W) := by unfold Hid; rw [hW]; (repeat (first | exact Below.refl _ _ | assumption | refine Below.drew ?_ | refine Below.alloc ?_ (by first | (simp; done) | (simp; omega)) _ | refine Below.setCell ?_ (by first | (simp; done) | (simp; omega)) _))
  have HX0 : Hid (BoxN W w.heap.size 39 [.int .i64 gr.p, .int .i64 gr.q, .int .i64 gr.g]) := by unfold Hid; rw [hW]; exact ((BoxN.new w _ _).alloc _).alloc _
  have HX1 : Hid (BoxN W (w.heap.size + 1) 58 [.int .i64 0, .int .i64 0]) := by unfold Hid; rw [hW]; have h := (BoxN.new (w.alloc (.cells #[.int .i64 gr.p, .int .i64 gr.q, .int .i64 gr.g] 39)) [.int .i64 0, .int .i64 0] 58).alloc (.cells #[.int .i64 1, .int .i64 1] 58); simpa using h
  have HX2 : Hid (BoxN W (w.heap.size + 1 + 1) 58 [.int .i64 1, .int .i64 1]) := by unfold Hid; rw [hW]; have h := BoxN.new ((w.alloc (.cells #[.int .i64 gr.p, .int .i64 gr.q, .int .i64 gr.g] 39)).alloc (.cells #[.int .i64 0, .int .i64 0] 58)) [.int .i64 1, .int .i64 1] 58; simpa using h
  go_enter Try.func152, Try.ntmps152
  go_wp2_with fail
  rw [← hW]
  clear hW
  go_loopg [13] n (fun gh iv wr => ∃ k : Nat, ∃ o : CipherD, k + gh = n ∧ iv = .int .i64 k ∧ o = wTo gr l es k ∧ BoxN wr w.heap.size 39 [.int .i64 gr.p, .int .i64 gr.q, .int .i64 gr.g] ∧ BoxN wr (w.heap.size + 1) 58 [.int .i64 0, .int .i64 0] ∧ BoxN wr (w.heap.size + 1 + 1) 58 [.int .i64 o.a, .int .i64 o.b] ∧ Below w.heap.size w wr)
  case atStart => exact ⟨0, ⟨1, 1⟩, by omega, rfl, rfl, HX0.out, HX1.out, HX2.out, HB.out⟩
  case round =>
    obtain ⟨k, o, hkg, rfl, ho, hx0, hx1, hx2, hb⟩ := hrel
    clear HX0 HX1 HX2
    have HX0 := Lib.hid hx0
    have HX1 := Lib.hid hx1
    have HX2 := Lib.hid hx2
    have HO := Lib.hid ho
    clear hx0 hx1 hx2 ho
    have HSO : Hid (SmallC o) := by unfold Hid; rw [HO.out]; exact wTo_small HG.out _ _ _
    by_cases hlt : k < n
    · have HK : Hid (k < l.length) := by unfold Hid; rw [HE.out]; exact hlt
      have HK2 : Hid (k < es.length) := by unfold Hid; rw [HE2.out]; omega
      have HS : Hid (wTo gr l es (k + 1) = c2 gr (wTo gr l es k) (pwC gr (l[k]'HK.out) (nth es k))) := wTo_succ HK.out HK2.out
      have HEX := Lib.hid (H2.out.all.at_ k)
      have HSX : Hid (SmallC (l[k]'HK.out)) := HL.out _ (List.getElem_mem _)
      obtain ⟨b_x, o_x, rfl, hcx⟩ := H.out.at_ (by omega)
      obtain ⟨us, hcell, hrd⟩ := hcx k HK.out
      clear hcx
      generalize l[k]'HK.out = x at hrd HS HSX
      obtain ⟨ers, jx_0, jx_1⟩ := rdCipher.1 ⟨us, rfl, hrd⟩
      obtain rfl : us = [.int .i64 x.a, .int .i64 x.b] := by have h := Value.agg.inj ers; simpa using congrArg Array.toList h
      clear ers hrd
      have y_x_0 : wr.cell? ⟨b_x, o_x + k * 2, none⟩ = some (.int .i64 x.a) := box_at (hcell 0 (by decide)) hb
      have y_x_1 : wr.cell? ⟨b_x, o_x + k * 2 + 1, none⟩ = some (.int .i64 x.b) := box_at (hcell 1 (by decide)) hb
      clear hcell
      have HR_x := Lib.hid ((kS rCipher).rd_below (rdCipher.2 ⟨rfl, jx_0, jx_1⟩ : (kS rCipher).rd w (.agg #[.int .i64 x.a, .int .i64 x.b]) x) hb)
      have J_x_0 := Lib.hid jx_0
      have J_x_1 := Lib.hid jx_1
      clear jx_0 jx_1
      obtain ⟨bk2, oo2, rfl, hcx2⟩ := (H2.out.below hb).at_ (by omega)
      have hy2 := hcx2 k (by omega)
      clear hcx2
      generalize nth es k = y at hy2 HS HEX
      have b0 : (0 : Int) ≤ (k : Int) := by omega
      have b1 : (k : Int) < (n2 : Int) := by omega
      have hwk : IntKind.i64.wrap ((k : Int) + 1) = (k : Int) + 1 := IntWalk.i64_in _ (by omega)
      have HBW := Lib.hid hb; clear hb
      obtain ⟨V, hV⟩ : ∃ V, V = wr.alloc (.cells #[.int .i64 x.a, .int .i64 x.b] 58) := ⟨_, rfl⟩
      have hc : Below wr.heap.size wr V := by rw [hV]; exact (Below.refl _ _).alloc (Nat.le_refl _) _
      have c0_0 := box_at (HX0.out.cell (i := 0) rfl) hc
      have c0_1 := box_at (HX0.out.cell (i := 1) rfl) hc
      have c0_2 := box_at (HX0.out.cell (i := 2) rfl) hc
      have c1_0 := box_at (HX2.out.cell (i := 0) rfl) hc
      have c1_1 := box_at (HX2.out.cell (i := 1) rfl) hc
      have c2_0 : V.cell? ⟨wr.heap.size, 0, none⟩ = some (.int .i64 x.a) := by rw [hV]; simp [go_sem]
      have c2_1 : V.cell? ⟨wr.heap.size, 1, none⟩ = some (.int .i64 x.b) := by rw [hV]; simp [go_sem]
      have c3_0 := box_at hy2 hc
      go_wp2_with fail
      rw [← hV]
      clear hV
      try (go_wp2_with fail)
      refine wp_region_noPanic ?_
      refine wp_region_P (fun w' => w'.cell? ⟨w.heap.size, 0, none⟩ = some (.int .i64 gr.p) ∧ w'.cell? ⟨w.heap.size, 1, none⟩ = some (.int .i64 gr.q) ∧ w'.cell? ⟨w.heap.size, 2, none⟩ = some (.int .i64 gr.g) ∧ w'.cell? ⟨w.heap.size + 1 + 1, 0, none⟩ = some (.int .i64 o.a) ∧ w'.cell? ⟨w.heap.size + 1 + 1, 1, none⟩ = some (.int .i64 o.b) ∧ w'.cell? ⟨wr.heap.size, 0, none⟩ = some (.int .i64 x.a) ∧ w'.cell? ⟨wr.heap.size, 1, none⟩ = some (.int .i64 x.b) ∧ w'.cell? ⟨bk2, oo2 + k, none⟩ = some (.int .i64 y)) 13 [(0, []), (1, []), (2, []), (3, []), (4, []), (5, []), (6, [1, 0]), (7, [0]), (8, [5, 4, 0]), (9, [8, 7, 0])] [10] (by kernel_rfl) (by kernel_rfl) (by kernel_rfl) rfl (fun _ _ _ _ h => h) (fun w' h => ⟨box_at c0_0 h, box_at c0_1 h, box_at c0_2 h, box_at c1_0 h, box_at c1_1 h, box_at c2_0 h, box_at c2_1 h, box_at c3_0 h⟩) ?_
      simp only [pickP, pickN, List.getElem?_cons_zero, List.getElem?_cons_succ]
      -- 0: load 39 t3
      refine' chainP_read (d := (some 18)) _ rfl rfl (fun w' hS' => ?_) ?_; rotate_left
      · simp only [lookP, allP, Act.put, List.getElem?_cons_zero, List.getElem?_cons_succ, List.setIfInBounds_toArray, List.set_cons_zero, List.set_cons_succ]
        (try dsimp only at hS')
        go_simp
        (try with_reducible rfl)
      -- 1: load 58 t7
      refine' chainP_read (d := (some 19)) _ rfl rfl (fun w' hS' => ?_) ?_; rotate_left
      · simp only [lookP, allP, Act.put, List.getElem?_cons_zero, List.getElem?_cons_succ, List.setIfInBounds_toArray, List.set_cons_zero, List.set_cons_succ]
        (try dsimp only at hS')
        go_simp
        (try with_reducible rfl)
      -- 2: load 39 t3
      refine' chainP_read (d := (some 20)) _ rfl rfl (fun w' hS' => ?_) ?_; rotate_left
      · simp only [lookP, allP, Act.put, List.getElem?_cons_zero, List.getElem?_cons_succ, List.setIfInBounds_toArray, List.set_cons_zero, List.set_cons_succ]
        (try dsimp only at hS')
        go_simp
        (try with_reducible rfl)
      -- 3: load 58 t9
      refine' chainP_read (d := (some 21)) _ rfl rfl (fun w' hS' => ?_) ?_; rotate_left
      · simp only [lookP, allP, Act.put, List.getElem?_cons_zero, List.getElem?_cons_succ, List.setIfInBounds_toArray, List.set_cons_zero, List.set_cons_succ]
        (try dsimp only at hS')
        go_simp
        (try with_reducible rfl)
      -- 4: move t2
      refine' chainP_read (d := (some 22)) _ rfl rfl (fun w' hS' => ?_) ?_; rotate_left
      · simp only [lookP, allP, Act.put, List.getElem?_cons_zero, List.getElem?_cons_succ, List.setIfInBounds_toArray, List.set_cons_zero, List.set_cons_succ]
        (try dsimp only at hS')
        go_simp
        (try with_reducible rfl)
      -- 5: move t8
      refine' chainP_read (d := (some 23)) _ rfl rfl (fun w' hS' => ?_) ?_; rotate_left
      · simp only [lookP, allP, Act.put, List.getElem?_cons_zero, List.getElem?_cons_succ, List.setIfInBounds_toArray, List.set_cons_zero, List.set_cons_succ]
        (try dsimp only at hS')
        go_simp
        (try with_reducible rfl)
      -- 6: indexAddr 24 t22 t23
      refine' chainP_read (d := (some 24)) _ rfl rfl (fun w' hS' => ?_) ?_; rotate_left
      · simp only [lookP, allP, Act.put, List.getElem?_cons_zero, List.getElem?_cons_succ, List.setIfInBounds_toArray, List.set_cons_zero, List.set_cons_succ]
        (try dsimp only at hS')
        go_simp
        (try with_reducible rfl)
      -- 7: load 3 t24
      refine' chainP_read (d := (some 25)) _ rfl rfl (fun w' hS' => ?_) ?_; rotate_left
      · simp only [lookP, allP, Act.put, List.getElem?_cons_zero, List.getElem?_cons_succ, List.setIfInBounds_toArray, List.set_cons_zero, List.set_cons_succ]
        (try dsimp only at hS')
        go_simp
        (try with_reducible rfl)
      -- 8: call { callee := value (func 150), args := #[t20, t21, t25], argTypes := #[39, 58, 3] }
      refine chainP_call (d := (some 26)) (.agg #[.int .i64 ((pwC gr x y).a), .int .i64 ((pwC gr x y).b)]) rfl rfl (fun w' hS' => ?_) ?_
      · simp only [lookP, allP, Act.put, List.getElem?_cons_zero, List.getElem?_cons_succ, List.setIfInBounds_toArray, List.set_cons_zero, List.set_cons_succ]
        intro K hK
        go_simp
        go_at_call 150
        refine (impl_powCipher gr x y _ HG.out HSX.out HEX.out).mono ?_
        rintro e u ⟨rfl, hq⟩
        exact hK.out _ hq
      -- 9: call { callee := value (func 263), args := #[t18, t19, t26], argTypes := #[39, 58, 58] }
      refine chainP_call (d := (some 27)) (.agg #[.int .i64 ((c2 gr o (pwC gr x y)).a), .int .i64 ((c2 gr o (pwC gr x y)).b)]) rfl rfl (fun w' hS' => ?_) ?_
      · simp only [lookP, allP, Act.put, List.getElem?_cons_zero, List.getElem?_cons_succ, List.setIfInBounds_toArray, List.set_cons_zero, List.set_cons_succ]
        intro K hK
        go_simp
        go_at_call 263
        refine (impl_mulTwo gr o (pwC gr x y) _ HG.out HSO.out (pwC_small HG.out _ _)).mono ?_
        rintro e u ⟨rfl, hq⟩
        exact hK.out _ hq
      refine chainP_nil (fun u1 hS' => ?_)
      simp only [allP, Act.put, List.setIfInBounds_toArray, List.set_cons_zero, List.set_cons_succ]
      have hq1 := hS'.1
      clear hS'
      replace hc := Below.next hc hq1
      replace c0_0 := box_at c0_0 hq1
      replace c0_1 := box_at c0_1 hq1
      replace c0_2 := box_at c0_2 hq1
      replace c1_0 := box_at c1_0 hq1
      replace c1_1 := box_at c1_1 hq1
      replace c2_0 := box_at c2_0 hq1
      replace c2_1 := box_at c2_1 hq1
      replace c3_0 := box_at c3_0 hq1
      clear hq1
      have HR2 := Lib.hid (HX2.out.below hc)
      have HR1 := Lib.hid (HX1.out.below hc)
      have HR0 := Lib.hid (HX0.out.below hc)
      have HBU := Lib.hid (HBW.out.trans (hc.mono HBW.out.size))
      clear hc c0_0 c0_1 c0_2 c1_0 c1_1 c2_0 c2_1 c3_0
      have r0 := HR2.out.cell (i := 0) rfl
      have r1 := HR2.out.cell (i := 1) rfl
      have fr := fun j => HR2.out.frozen j
      go_wp2_with fail
      refine NoPanic.normal ?_
      have HF2 := Lib.hid ((HR2.out.set 0 (.int .i64 (c2 gr o (pwC gr x y)).a)).set 1 (.int .i64 (c2 gr o (pwC gr x y)).b))
      have HF1 := Lib.hid ((HR1.out.other (b' := w.heap.size + 1 + 1) (by omega) 0 (.int .i64 (c2 gr o (pwC gr x y)).a)).other (b' := w.heap.size + 1 + 1) (by omega) 1 (.int .i64 (c2 gr o (pwC gr x y)).b))
      have HF0 := Lib.hid ((HR0.out.other (b' := w.heap.size + 1 + 1) (by omega) 0 (.int .i64 (c2 gr o (pwC gr x y)).a)).other (b' := w.heap.size + 1 + 1) (by omega) 1 (.int .i64 (c2 gr o (pwC gr x y)).b))
      have HBF := Lib.hid ((HBU.out.setCell (p := ⟨w.heap.size + 1 + 1, 0, none⟩) (by show w.heap.size ≤ w.heap.size + 1 + 1; omega) (.int .i64 (c2 gr o (pwC gr x y)).a)).setCell (p := ⟨w.heap.size + 1 + 1, 1, none⟩) (by show w.heap.size ≤ w.heap.size + 1 + 1; omega) (.int .i64 (c2 gr o (pwC gr x y)).b))
      clear r0 r1 fr
      try (go_wp2_with fail)
      go_roundg (n - (k + 1))
      case measure => omega
      case rel => exact ⟨k + 1, c2 gr o (pwC gr x y), by omega, by go_num, by rw [HS.out, HO.out], HF0.out, HF1.out, HF2.out, HBF.out⟩
    · obtain rfl : n = k := by omega
      have HL1 : Hid (wC gr l es = o) := by unfold Hid; rw [HO.out]; rw [← HE.out]; exact (wTo_all HLE.out).symm
      have r0 := HX2.out.cell (i := 0) rfl
      have r1 := HX2.out.cell (i := 1) rfl
      have s0 := HX1.out.cell (i := 0) rfl
      have s1 := HX1.out.cell (i := 1) rfl
      have fr := fun j => HX1.out.frozen j
      have HBR := Lib.hid hb; clear hb
      go_wp2_with fail
      have HRF := Lib.hid ((HX1.out.set 0 (.int .i64 o.a)).set 1 (.int .i64 o.b))
      have HBF := Lib.hid ((HBR.out.setCell (p := ⟨w.heap.size + 1, 0, none⟩) (by show w.heap.size ≤ w.heap.size + 1; omega) (.int .i64 o.a)).setCell (p := ⟨w.heap.size + 1, 1, none⟩) (by show w.heap.size ≤ w.heap.size + 1; omega) (.int .i64 o.b))
      clear s0 s1 fr
      have s0 := HRF.out.cell (i := 0) rfl
      have s1 := HRF.out.cell (i := 1) rfl
      refine bodyPost_ret (v := .agg #[.int .i64 o.a, .int .i64 o.b]) (by simp [results, Try.results152, go_sem, s0, s1]) rfl ⟨by rw [HL1.out], HBF.out⟩
set_option maxRecDepth 100000 in
set_option maxHeartbeats 2000000 in
theorem spec_eProd (gr : GroupD) (v : Value) (l : List CipherD) (v2 : Value) (es : List Int) (w : World) (hg : OkG gr) (h : RdR rCipher w v l) (hl : AllSmallC l) (h2 : Ints w v2 es) (hle : l.length ≤ es.length) :
    Calls Try.prog 153 #[.agg #[.int .i64 gr.p, .int .i64 gr.q, .int .i64 gr.g], v, v2] w fun e w' => e = .returned (.agg #[.int .i64 (wC gr l es).a, .int .i64 (wC gr l es).b]) ∧ Below w.heap.size w w' := by
  obtain ⟨a, n, c, rfl⟩ := h.shape
  have e := h.len
  obtain ⟨k1, k2⟩ := h.capMax
  unfold maxLen at k2
  have HE := Lib.hid e
  have H := Lib.hid h; clear h
  have HG := Lib.hid hg; clear hg
  have HL := Lib.hid hl; clear hl
  obtain ⟨a2, n2, cc2, rfl⟩ := h2.shape
  have e2 := h2.len
  obtain ⟨k3, k4⟩ := h2.capMax
  unfold maxLen at k4
  have hnn : n ≤ n2 := by omega
  have HE2 := Lib.hid e2
  have H2 := Lib.hid h2
  have HLE := Lib.hid hle
  clear h2 e2 hle
  clear e
  obtain ⟨W, hW⟩ : ∃ W, W = ((w.alloc (.cells #[.int .i64 gr.p, .int .i64 gr.q, .int .i64 gr.g] 39)).alloc (.cells #[.int .i64 0, .int .i64 0] 58)).alloc (.cells #[.int .i64 1, .int .i64 1] 58) := ⟨_, rfl⟩
  have HB : Hid (Below w.heap.size w W) := by unfold Hid; rw [hW]; (repeat (first | exact Below.refl _ _ | assumption | refine Below.drew ?_ | refine Below.alloc ?_ (by first | (simp; done) | (simp; omega)) _ | refine Below.setCell ?_ (by first | (simp; done) | (simp; omega)) _))
  have HX0 : Hid (BoxN W w.heap.size 39 [.int .i64 gr.p, .int .i64 gr.q, .int .i64 gr.g]) := by unfold Hid; rw [hW]; exact ((BoxN.new w _ _).alloc _).alloc _
  have HX1 : Hid (BoxN W (w.heap.size + 1) 58 [.int .i64 0, .int .i64 0]) := by unfold Hid; rw [hW]; have h := (BoxN.new (w.alloc (.cells #[.int .i64 gr.p, .int .i64 gr.q, .int .i64 gr.g] 39)) [.int .i64 0, .int .i64 0] 58).alloc (.cells #[.int .i64 1, .int .i64 1] 58); simpa using h
  have HX2 : Hid (BoxN W (w.heap.size + 1 + 1) 58 [.int .i64 1, .int .i64 1]) := by unfold Hid; rw [hW]; have h := BoxN.new ((w.alloc (.cells #[.int .i64 gr.p, .int .i64 gr.q, .int .i64 gr.g] 39)).alloc (.cells #[.int .i64 0, .int .i64 0] 58)) [.int .i64 1, .int .i64 1] 58; simpa using h
  go_enter Try.func153, Try.ntmps153
  go_wp2_with fail
  rw [← hW]
  clear hW
  go_loopg [13] n (fun gh iv wr => ∃ k : Nat, ∃ o : CipherD, k + gh = n ∧ iv = .int .i64 k ∧ o = wTo gr l es k ∧ BoxN wr w.heap.size 39 [.int .i64 gr.p, .int .i64 gr.q, .int .i64 gr.g] ∧ BoxN wr (w.heap.size + 1) 58 [.int .i64 0, .int .i64 0] ∧ BoxN wr (w.heap.size + 1 + 1) 58 [.int .i64 o.a, .int .i64 o.b] ∧ Below w.heap.size w wr)
  case atStart => exact ⟨0, ⟨1, 1⟩, by omega, rfl, rfl, HX0.out, HX1.out, HX2.out, HB.out⟩
  case round =>
    obtain ⟨k, o, hkg, rfl, ho, hx0, hx1, hx2, hb⟩ := hrel
    clear HX0 HX1 HX2
    have HX0 := Lib.hid hx0
    have HX1 := Lib.hid hx1
    have HX2 := Lib.hid hx2
    have HO := Lib.hid ho
    clear hx0 hx1 hx2 ho
    have HSO : Hid (SmallC o) := by unfold Hid; rw [HO.out]; exact wTo_small HG.out _ _ _
    by_cases hlt : k < n
    · have HK : Hid (k < l.length) := by unfold Hid; rw [HE.out]; exact hlt
      have HK2 : Hid (k < es.length) := by unfold Hid; rw [HE2.out]; omega
      have HS : Hid (wTo gr l es (k + 1) = c2 gr (wTo gr l es k) (pwC gr (l[k]'HK.out) (nth es k))) := wTo_succ HK.out HK2.out
      have HEX := Lib.hid (H2.out.all.at_ k)
      have HSX : Hid (SmallC (l[k]'HK.out)) := HL.out _ (List.getElem_mem _)
      obtain ⟨b_x, o_x, rfl, hcx⟩ := H.out.at_ (by omega)
      obtain ⟨us, hcell, hrd⟩ := hcx k HK.out
      clear hcx
      generalize l[k]'HK.out = x at hrd HS HSX
      obtain ⟨ers, jx_0, jx_1⟩ := rdCipher.1 ⟨us, rfl, hrd⟩
      obtain rfl : us = [.int .i64 x.a, .int .i64 x.b] := by have h := Value.agg.inj ers; simpa using congrArg Array.toList h
      clear ers hrd
      have y_x_0 : wr.cell? ⟨b_x, o_x + k * 2, none⟩ = some (.int .i64 x.a) := box_at (hcell 0 (by decide)) hb
      have y_x_1 : wr.cell? ⟨b_x, o_x + k * 2 + 1, none⟩ = some (.int .i64 x.b) := box_at (hcell 1 (by decide)) hb
      clear hcell
      have HR_x := Lib.hid ((kS rCipher).rd_below (rdCipher.2 ⟨rfl, jx_0, jx_1⟩ : (kS rCipher).rd w (.agg #[.int .i64 x.a, .int .i64 x.b]) x) hb)
      have J_x_0 := Lib.hid jx_0
      have J_x_1 := Lib.hid jx_1
      clear jx_0 jx_1
      obtain ⟨bk2, oo2, rfl, hcx2⟩ := (H2.out.below hb).at_ (by omega)
      have hy2 := hcx2 k (by omega)
      clear hcx2
      generalize nth es k = y at hy2 HS HEX
      have b0 : (0 : Int) ≤ (k : Int) := by omega
      have b1 : (k : Int) < (n2 : Int) := by omega
      have HM2 : Hid (eM gr [o, (pwC gr x y)] = c2 gr o (pwC gr x y)) := eM_2 HG.out (by rw [HO.out]; exact wTo_bd HG.out _ _ _)
      have hwk : IntKind.i64.wrap ((k : Int) + 1) = (k : Int) + 1 := IntWalk.i64_in _ (by omega)
      have HBW := Lib.hid hb; clear hb
      obtain ⟨V, hV⟩ : ∃ V, V = wr.alloc (.cells #[.int .i64 x.a, .int .i64 x.b] 58) := ⟨_, rfl⟩
      have hc : Below wr.heap.size wr V := by rw [hV]; exact (Below.refl _ _).alloc (Nat.le_refl _) _
      have c0_0 := box_at (HX0.out.cell (i := 0) rfl) hc
      have c0_1 := box_at (HX0.out.cell (i := 1) rfl) hc
      have c0_2 := box_at (HX0.out.cell (i := 2) rfl) hc
      have c1_0 := box_at (HX2.out.cell (i := 0) rfl) hc
      have c1_1 := box_at (HX2.out.cell (i := 1) rfl) hc
      have c2_0 : V.cell? ⟨wr.heap.size, 0, none⟩ = some (.int .i64 x.a) := by rw [hV]; simp [go_sem]
      have c2_1 : V.cell? ⟨wr.heap.size, 1, none⟩ = some (.int .i64 x.b) := by rw [hV]; simp [go_sem]
      have c3_0 := box_at hy2 hc
      go_wp2_with fail
      rw [← hV]
      clear hV
      try (go_wp2_with fail)
      refine wp_region_noPanic ?_
      refine wp_region_P (fun w' => w'.cell? ⟨w.heap.size, 0, none⟩ = some (.int .i64 gr.p) ∧ w'.cell? ⟨w.heap.size, 1, none⟩ = some (.int .i64 gr.q) ∧ w'.cell? ⟨w.heap.size, 2, none⟩ = some (.int .i64 gr.g) ∧ w'.cell? ⟨w.heap.size + 1 + 1, 0, none⟩ = some (.int .i64 o.a) ∧ w'.cell? ⟨w.heap.size + 1 + 1, 1, none⟩ = some (.int .i64 o.b) ∧ w'.cell? ⟨wr.heap.size, 0, none⟩ = some (.int .i64 x.a) ∧ w'.cell? ⟨wr.heap.size, 1, none⟩ = some (.int .i64 x.b) ∧ w'.cell? ⟨bk2, oo2 + k, none⟩ = some (.int .i64 y)) 14 [(0, []), (1, []), (2, []), (3, []), (4, []), (5, []), (6, [1, 0]), (7, [0]), (8, [5, 4, 0]), (9, [7, 0]), (10, [9, 0])] [11] (by kernel_rfl) (by kernel_rfl) (by kernel_rfl) rfl (fun _ _ _ _ h => h) (fun w' h => ⟨box_at c0_0 h, box_at c0_1 h, box_at c0_2 h, box_at c1_0 h, box_at c1_1 h, box_at c2_0 h, box_at c2_1 h, box_at c3_0 h⟩) ?_
      simp only [pickP, pickN, List.getElem?_cons_zero, List.getElem?_cons_succ]
      -- 0: load 39 t3
      refine' chainP_read (d := (some 18)) _ rfl rfl (fun w' hS' => ?_) ?_; rotate_left
      · simp only [lookP, allP, Act.put, List.getElem?_cons_zero, List.getElem?_cons_succ, List.setIfInBounds_toArray, List.set_cons_zero, List.set_cons_succ]
        (try dsimp only at hS')
        go_simp
        (try with_reducible rfl)
      -- 1: load 58 t7
      refine' chainP_read (d := (some 19)) _ rfl rfl (fun w' hS' => ?_) ?_; rotate_left
      · simp only [lookP, allP, Act.put, List.getElem?_cons_zero, List.getElem?_cons_succ, List.setIfInBounds_toArray, List.set_cons_zero, List.set_cons_succ]
        (try dsimp only at hS')
        go_simp
        (try with_reducible rfl)
      -- 2: load 39 t3
      refine' chainP_read (d := (some 20)) _ rfl rfl (fun w' hS' => ?_) ?_; rotate_left
      · simp only [lookP, allP, Act.put, List.getElem?_cons_zero, List.getElem?_cons_succ, List.setIfInBounds_toArray, List.set_cons_zero, List.set_cons_succ]
        (try dsimp only at hS')
        go_simp
        (try with_reducible rfl)
      -- 3: load 58 t9
      refine' chainP_read (d := (some 21)) _ rfl rfl (fun w' hS' => ?_) ?_; rotate_left
      · simp only [lookP, allP, Act.put, List.getElem?_cons_zero, List.getElem?_cons_succ, List.setIfInBounds_toArray, List.set_cons_zero, List.set_cons_succ]
        (try dsimp only at hS')
        go_simp
        (try with_reducible rfl)
      -- 4: move t2
      refine' chainP_read (d := (some 22)) _ rfl rfl (fun w' hS' => ?_) ?_; rotate_left
      · simp only [lookP, allP, Act.put, List.getElem?_cons_zero, List.getElem?_cons_succ, List.setIfInBounds_toArray, List.set_cons_zero, List.set_cons_succ]
        (try dsimp only at hS')
        go_simp
        (try with_reducible rfl)
      -- 5: move t8
      refine' chainP_read (d := (some 23)) _ rfl rfl (fun w' hS' => ?_) ?_; rotate_left
      · simp only [lookP, allP, Act.put, List.getElem?_cons_zero, List.getElem?_cons_succ, List.setIfInBounds_toArray, List.set_cons_zero, List.set_cons_succ]
        (try dsimp only at hS')
        go_simp
        (try with_reducible rfl)
      -- 6: indexAddr 24 t22 t23
      refine' chainP_read (d := (some 24)) _ rfl rfl (fun w' hS' => ?_) ?_; rotate_left
      · simp only [lookP, allP, Act.put, List.getElem?_cons_zero, List.getElem?_cons_succ, List.setIfInBounds_toArray, List.set_cons_zero, List.set_cons_succ]
        (try dsimp only at hS')
        go_simp
        (try with_reducible rfl)
      -- 7: load 3 t24
      refine' chainP_read (d := (some 25)) _ rfl rfl (fun w' hS' => ?_) ?_; rotate_left
      · simp only [lookP, allP, Act.put, List.getElem?_cons_zero, List.getElem?_cons_succ, List.setIfInBounds_toArray, List.set_cons_zero, List.set_cons_succ]
        (try dsimp only at hS')
        go_simp
        (try with_reducible rfl)
      -- 8: call { callee := value (func 151), args := #[t20, t21, t25], argTypes := #[39, 58, 3] }
      refine chainP_call (d := (some 26)) (.agg #[.int .i64 ((pwC gr x y).a), .int .i64 ((pwC gr x y).b)]) rfl rfl (fun w' hS' => ?_) ?_
      · simp only [lookP, allP, Act.put, List.getElem?_cons_zero, List.getElem?_cons_succ, List.setIfInBounds_toArray, List.set_cons_zero, List.set_cons_succ]
        intro K hK
        go_simp
        go_at_call 151
        refine (spec_ePow gr x y _ HG.out HSX.out HEX.out).mono ?_
        rintro e u ⟨rfl, hq⟩
        exact hK.out _ hq
      -- 9: buildSlice 52 2 #[(0, t19), (1, t26)]
      refine chainP_do (d := (some 27)) (fun v w => RdR rCipher w v [o, (pwC gr x y)]) (fun v w w' hb h => RdR.below h hb) rfl rfl (fun w' hS' => ?_) ?_
      · simp only [lookP, allP, Act.put, List.getElem?_cons_zero, List.getElem?_cons_succ, List.setIfInBounds_toArray, List.set_cons_zero, List.set_cons_succ]
        intro K hK
        go_simp
        refine hK.out _ _ ((Below.refl _ _).alloc (Nat.le_refl _) _) ?_
        exact RdC.lit w' (l := [o, (pwC gr x y)]) (AllCI.cons (SmallC.ci HSO.out) (AllCI.cons (SmallC.ci (pwC_small HG.out _ _)) AllCI.nil)) rfl 2 rfl (by unfold maxLen; omega)
      -- 10: call { callee := value (func 265), args := #[t18, t27], argTypes := #[39, 52] }
      refine chainP_call (d := (some 28)) (.agg #[.int .i64 ((eM gr [o, (pwC gr x y)]).a), .int .i64 ((eM gr [o, (pwC gr x y)]).b)]) rfl rfl (fun w' hS' => ?_) ?_
      · simp only [lookP, allP, Act.put, List.getElem?_cons_zero, List.getElem?_cons_succ, List.setIfInBounds_toArray, List.set_cons_zero, List.set_cons_succ]
        intro x9 hx9
        intro K hK
        go_simp
        go_at_call 265
        refine (spec_eMul gr _ [o, (pwC gr x y)] _ HG.out hx9 (AllSmallC.cons HSO.out (AllSmallC.cons (pwC_small HG.out _ _) AllSmallC.nil))).mono ?_
        rintro e u ⟨rfl, hq⟩
        exact hK.out _ hq
      refine chainP_nil (fun u1 hS' => ?_)
      simp only [allP, Act.put, List.setIfInBounds_toArray, List.set_cons_zero, List.set_cons_succ]
      intro x9 hx9
      have hq1 := hS'.1
      clear hS'
      replace hc := Below.next hc hq1
      replace c0_0 := box_at c0_0 hq1
      replace c0_1 := box_at c0_1 hq1
      replace c0_2 := box_at c0_2 hq1
      replace c1_0 := box_at c1_0 hq1
      replace c1_1 := box_at c1_1 hq1
      replace c2_0 := box_at c2_0 hq1
      replace c2_1 := box_at c2_1 hq1
      replace c3_0 := box_at c3_0 hq1
      clear hq1
      have HR2 := Lib.hid (HX2.out.below hc)
      have HR1 := Lib.hid (HX1.out.below hc)
      have HR0 := Lib.hid (HX0.out.below hc)
      have HBU := Lib.hid (HBW.out.trans (hc.mono HBW.out.size))
      clear hc c0_0 c0_1 c0_2 c1_0 c1_1 c2_0 c2_1 c3_0
      have r0 := HR2.out.cell (i := 0) rfl
      have r1 := HR2.out.cell (i := 1) rfl
      have fr := fun j => HR2.out.frozen j
      go_wp2_with fail
      refine NoPanic.normal ?_
      have HF2 := Lib.hid ((HR2.out.set 0 (.int .i64 (eM gr [o, pwC gr x y]).a)).set 1 (.int .i64 (eM gr [o, pwC gr x y]).b))
      have HF1 := Lib.hid ((HR1.out.other (b' := w.heap.size + 1 + 1) (by omega) 0 (.int .i64 (eM gr [o, pwC gr x y]).a)).other (b' := w.heap.size + 1 + 1) (by omega) 1 (.int .i64 (eM gr [o, pwC gr x y]).b))
      have HF0 := Lib.hid ((HR0.out.other (b' := w.heap.size + 1 + 1) (by omega) 0 (.int .i64 (eM gr [o, pwC gr x y]).a)).other (b' := w.heap.size + 1 + 1) (by omega) 1 (.int .i64 (eM gr [o, pwC gr x y]).b))
      have HBF := Lib.hid ((HBU.out.setCell (p := ⟨w.heap.size + 1 + 1, 0, none⟩) (by show w.heap.size ≤ w.heap.size + 1 + 1; omega) (.int .i64 (eM gr [o, pwC gr x y]).a)).setCell (p := ⟨w.heap.size + 1 + 1, 1, none⟩) (by show w.heap.size ≤ w.heap.size + 1 + 1; omega) (.int .i64 (eM gr [o, pwC gr x y]).b))
      clear r0 r1 fr
      try (go_wp2_with fail)
      go_roundg (n - (k + 1))
      case measure => omega
      case rel => exact ⟨k + 1, eM gr [o, pwC gr x y], by omega, by go_num, by rw [HM2.out, HS.out, HO.out], HF0.out, HF1.out, HF2.out, HBF.out⟩
    · obtain rfl : n = k := by omega
      have HL1 : Hid (wC gr l es = o) := by unfold Hid; rw [HO.out]; rw [← HE.out]; exact (wTo_all HLE.out).symm
      have r0 := HX2.out.cell (i := 0) rfl
      have r1 := HX2.out.cell (i := 1) rfl
      have s0 := HX1.out.cell (i := 0) rfl
      have s1 := HX1.out.cell (i := 1) rfl
      have fr := fun j => HX1.out.frozen j
      have HBR := Lib.hid hb; clear hb
      go_wp2_with fail
      have HRF := Lib.hid ((HX1.out.set 0 (.int .i64 o.a)).set 1 (.int .i64 o.b))
      have HBF := Lib.hid ((HBR.out.setCell (p := ⟨w.heap.size + 1, 0, none⟩) (by show w.heap.size ≤ w.heap.size + 1; omega) (.int .i64 o.a)).setCell (p := ⟨w.heap.size + 1, 1, none⟩) (by show w.heap.size ≤ w.heap.size + 1; omega) (.int .i64 o.b))
      clear s0 s1 fr
      have s0 := HRF.out.cell (i := 0) rfl
      have s1 := HRF.out.cell (i := 1) rfl
      refine bodyPost_ret (v := .agg #[.int .i64 o.a, .int .i64 o.b]) (by simp [results, Try.results153, go_sem, s0, s1]) rfl ⟨by rw [HL1.out], HBF.out⟩
end Go.Proofs.Ytboahnklilmdpaa
