/- Shared keys: lists of dealings, sums (printed by gen_rf2.py). -/
import Derived.Test.YtacpnphfopmofaaGreatRf1R
import Derived.Test.YtacpnphfopmofaaGreatSh4R
import Derived.Test.YtacpnphfopmofaaGreatDrZ1R
namespace Go.Proofs.YtacpnphfopmofaaGreat
open Go.RowKit
set_option linter.unusedSimpArgs false
set_option linter.unusedVariables false

theorem take_all' {α : Type} {P : α → Prop} {l : List α} {k : Nat} (hk : k < l.length) (h : ∀ d ∈ l.take k, P d) (hP : P l[k]) : ∀ d ∈ l.take (k + 1), P d := by
  intro d hd
  rw [List.take_succ_eq_append_getElem hk, List.mem_append] at hd
  rcases hd with h1 | h1
  · exact h d h1
  · rw [List.mem_singleton] at h1; rw [h1]; exact hP
theorem dsB_not {gr : GroupD} {l : List DealingD} {d : DealingD} (hd : d ∈ l) (h : deB gr d = false) : dsB gr l = false := by
  unfold dsB
  have : l.all (deB gr) = false := by rw [List.all_eq_false]; exact ⟨d, hd, by rw [h]; simp⟩
  rw [this, Bool.and_false]
theorem dsB_all {gr : GroupD} {l : List DealingD} (h : ∀ d ∈ l, deB gr d = true) : dsB gr l = decide ((l.length : Int) ≤ 7) := by
  unfold dsB
  rw [List.all_eq_true.2 h, Bool.and_true]
set_option maxRecDepth 100000 in
set_option maxHeartbeats 4000000 in
theorem spec_rList (gr : GroupD) (v : Value) (l : List DealingD) (w : World) (hg : OkG gr) (h : RdR rDealing w v l) :
    Calls Tryz.prog 32 #[.agg #[.int .i64 gr.p, .int .i64 gr.q, .int .i64 gr.g], v] w fun e w' => e = .returned (.bool (dsB gr l)) ∧ Below w.heap.size w w' := by
  have HG := Lib.hid hg; clear hg
  obtain ⟨a, n, c, rfl⟩ := h.shape
  have e := h.len
  obtain ⟨k1', k2'⟩ := h.capMax
  unfold maxLen at k2'
  have HE := Lib.hid e
  have H := Lib.hid h; clear h e
  obtain ⟨W, hW⟩ : ∃ W, W = w.alloc (.cells #[.int .i64 gr.p, .int .i64 gr.q, .int .i64 gr.g] 24) := ⟨_, rfl⟩
  have HB : Hid (Below w.heap.size w W) := by unfold Hid; rw [hW]; (repeat (first | exact Below.refl _ _ | assumption | refine Below.drew ?_ | refine Below.alloc ?_ (by first | (simp; done) | (simp; omega)) _ | refine Below.setCell ?_ (by first | (simp; done) | (simp; omega)) _))
  have HX : Hid (BoxN W w.heap.size 24 [.int .i64 gr.p, .int .i64 gr.q, .int .i64 gr.g]) := by unfold Hid; rw [hW]; exact BoxN.new w _ _
  go_enter Tryz.func32, Tryz.ntmps32
  go_wp2_with fail
  rw [← hW]
  clear hW
  (try (go_wp2_with fail))
  go_loopg [9] n (fun gk iv wr => ∃ k : Nat, k + gk = n ∧ iv = .int .i64 (k : Int) ∧ Hid (∀ d ∈ l.take k, deB gr d = true) ∧ Below W.heap.size W wr)
  case atStart => exact ⟨0, by omega, rfl, Lib.hid (fun d hd => by simp at hd), Below.refl _ _⟩
  case round =>
    obtain ⟨k, hkg, rfl, HALL, hbr⟩ := hrel
    have HBR := Lib.hid hbr
    have hgl : k < n → n - (k + 1) < gk := by omega
    have HKG := Lib.hid hkg
    clear hkg hbr
    by_cases hlt : k < n
    · have hwk : IntKind.i64.wrap ((k : Int) + 1) = (k : Int) + 1 := IntWalk.i64_in _ (by omega)
      have HK : Hid (k < l.length) := by unfold Hid; rw [HE.out]; exact hlt
      have HT : Hid (deB gr (l[k]'HK.out) = true → ∀ d ∈ l.take (k + 1), deB gr d = true) := fun q => take_all' HK.out HALL.out q
      have HM := Lib.hid (List.getElem_mem HK.out)
      obtain ⟨b2, o2, p0, m0, k0, p1, m1, k1, e, y0, y1, f0, f1⟩ := RdDl.get H.out HK.out
      cases e
      generalize l[k]'HK.out = d at f0 f1 HT HM
      have y0 := box_at (box_at y0 HB.out) HBR.out
      have y1 := box_at (box_at y1 HB.out) HBR.out
      have hbW := HB.out.trans (HBR.out.mono HB.out.size)
      obtain ⟨V, hV⟩ : ∃ V, V = wr.alloc (.cells #[.slice p0 m0 k0, .slice p1 m1 k1] 61) := ⟨_, rfl⟩
      have hbV : Below wr.heap.size wr V := by rw [hV]; exact (Below.refl _ _).alloc (Nat.le_refl _) _
      have HZ : Hid (BoxN V wr.heap.size 61 [.slice p0 m0 k0, .slice p1 m1 k1]) := by unfold Hid; rw [hV]; exact BoxN.new wr _ _
      have HDl : Hid (DlR V (.agg #[.slice p0 m0 k0, .slice p1 m1 k1]) d) := DlR.mk ((f0.below hbW).below hbV) ((f1.below hbW).below hbV)
      have HBV : Hid (Below W.heap.size W V) := Below.next HBR.out hbV
      have kk0 : (0 : Int) ≤ (k : Int) := by omega
      have kk1 : (k : Int) < (n : Int) := by omega
      have hly := World.block_lt_of_cell? wr _ y0
      have hlg : w.heap.size < wr.heap.size := (HX.out.below HBR.out).lt
      have c0_0 := (HX.out.below HBR.out).cell (i := 0) rfl
      have c0_1 := (HX.out.below HBR.out).cell (i := 1) rfl
      have c0_2 := (HX.out.below HBR.out).cell (i := 2) rfl
      go_wp2_with fail
      rw [← hV]
      clear hV y0 y1 f0 f1 hbW kk0 kk1 c0_0 c0_1 c0_2 hbV hly hlg
      refine (spec_sDealing gr _ d _ HG.out HDl.out).mono ?_
      rintro e u ⟨rfl, hq⟩
      have HBQ : Hid (Below W.heap.size W u) := Below.next HBV.out hq
      clear hq
      cases hqd : deB gr d with
      | false =>
        have HQD := Lib.hid hqd
        have HV : Hid (dsB gr l = false) := dsB_not HM.out hqd
        clear hqd
        go_wp2_with fail
        go_ret
        exact ⟨ret_bool HV.out.symm, HB.out.trans (HBQ.out.mono HB.out.size)⟩
      | true =>
        have HQD := Lib.hid hqd
        clear hqd
        go_wp2_with fail
        go_roundg (n - (k + 1))
        case measure => exact hgl hlt
        case rel => exact ⟨k + 1, by have := HKG.out; omega, by go_num, Lib.hid (HT.out HQD.out), HBQ.out⟩
    · obtain rfl : n = k := by have := HKG.out; omega
      have HV : Hid (dsB gr l = decide ((n : Int) ≤ 7)) := by
        have h := HALL.out
        rw [List.take_of_length_le (by rw [HE.out]; exact Nat.le_refl _)] at h
        unfold Hid; rw [dsB_all h, HE.out]
      go_wp2_with fail
      go_ret
      exact ⟨ret_bool HV.out.symm, HB.out.trans (HBR.out.mono HB.out.size)⟩
set_option maxRecDepth 100000 in
set_option maxHeartbeats 4000000 in
theorem spec_rShared (pv : Value) (d : DealingD) (w : World) (hp : DlR w pv d) (hlc : d.c.length ≤ 1000000000) (hls : d.s.length ≤ 1000000000) :
    Calls Tryz.prog 62 #[pv] w fun e w' => RetDl e w' w.heap.size d ∧ Below w.heap.size w w' := by
  obtain ⟨xcv, xsv, rfl, hxc, hxs⟩ := hp
  obtain ⟨xca, xcn, xcc, rfl⟩ := hxc.shape
  obtain ⟨xsa, xsn, xsc, rfl⟩ := hxs.shape
  have Hxc := Lib.hid hxc
  have Hxs := Lib.hid hxs
  have HLNc := Lib.hid hlc
  have HLNs := Lib.hid hls
  clear hxc hxs hlc hls
  obtain ⟨W, hW⟩ : ∃ W, W = (w.alloc (.cells #[.slice xca xcn xcc, .slice xsa xsn xsc] 61)).alloc (.cells #[.slice none 0 0, .slice none 0 0] 27) := ⟨_, rfl⟩
  have HB : Hid (Below w.heap.size w W) := by unfold Hid; rw [hW]; (repeat (first | exact Below.refl _ _ | assumption | refine Below.drew ?_ | refine Below.alloc ?_ (by first | (simp; done) | (simp; omega)) _ | refine Below.setCell ?_ (by first | (simp; done) | (simp; omega)) _))
  have HBK : Hid (BoxN W w.heap.size 61 [.slice xca xcn xcc, .slice xsa xsn xsc]) := by unfold Hid; rw [hW]; have h := (BoxN.new w [.slice xca xcn xcc, .slice xsa xsn xsc] 61).alloc (.cells #[.slice none 0 0, .slice none 0 0] 27); simpa using h
  have HRX : Hid (BoxN W (w.heap.size + 1) 27 [.slice none 0 0, .slice none 0 0]) := by unfold Hid; rw [hW]; have h := BoxN.new (w.alloc (.cells #[.slice xca xcn xcc, .slice xsa xsn xsc] 61)) [.slice none 0 0, .slice none 0 0] 27; simpa using h
  have HSW : Hid (W.heap.size = w.heap.size + 2) := by unfold Hid; rw [hW]; simp
  have HKC : Hid (Ints W (.slice xca xcn xcc) d.c) := Hxc.out.below HB.out
  have HKS : Hid (Ints W (.slice xsa xsn xsc) d.s) := Hxs.out.below HB.out
  clear Hxc Hxs
  go_enter Tryz.func62, Tryz.ntmps62
  go_wp2_with fail
  rw [← hW]
  clear hW
  have d0 := HBK.out.cell (i := 0) rfl
  have d1 := HBK.out.cell (i := 1) rfl
  have hc : Below W.heap.size W W := Below.refl _ _
  try (go_wp2_with fail)
  refine wp_region_noPanic ?_
  refine wp_region_P (fun w' => w'.cell? ⟨w.heap.size, 0, none⟩ = some (.slice xca xcn xcc) ∧ w'.cell? ⟨w.heap.size, 1, none⟩ = some (.slice xsa xsn xsc)) 10 [(0, []), (1, [0]), (2, [0]), (3, []), (4, [0]), (5, [0]), (6, [3, 0])] [7] (by kernel_rfl) (by kernel_rfl) (by kernel_rfl) rfl (fun _ _ _ _ h => h) (fun w' h => ⟨box_at d0 h, box_at d1 h⟩) ?_
  simp only [pickP, pickN, List.getElem?_cons_zero, List.getElem?_cons_succ]
  iterate 2 (refine' chainP_read _ rfl rfl (fun w' hS' => ?_) ?_; rotate_left; · (simp only [lookP, allP, Act.put, List.getElem?_cons_zero, List.getElem?_cons_succ, List.setIfInBounds_toArray, List.set_cons_zero, List.set_cons_succ]; (try dsimp only at hS'); go_simp; (try with_reducible rfl)))
  -- 2: call { callee := value (func 104), args := #[t4], argTypes := #[25] }
  refine chainP_do (d := (some 5)) (fun v u => OwnI u W.heap.size v d.c) (fun v w1 w2 hb h => h.below hb) rfl rfl (fun w' hS' => ?_) ?_
  · simp only [lookP, allP, Act.put, List.getElem?_cons_zero, List.getElem?_cons_succ, List.setIfInBounds_toArray, List.set_cons_zero, List.set_cons_succ]
    intro K hK
    go_simp
    go_at_call 104
    refine (spec_l1Own _ d.c _ (HKC.out.below hS'.1) HLNc.out).mono ?_
    rintro e u ⟨v2, rfl, ho2, hq⟩
    exact hK.out _ _ hq (ho2.mono hS'.1.size)
  iterate 2 (refine' chainP_read _ rfl rfl (fun w' hS' => ?_) ?_; rotate_left; · (simp only [lookP, allP, Act.put, List.getElem?_cons_zero, List.getElem?_cons_succ, List.setIfInBounds_toArray, List.set_cons_zero, List.set_cons_succ]; (try dsimp only at hS'); go_simp; (try with_reducible rfl)))
  -- 5: call { callee := value (func 104), args := #[t7], argTypes := #[25] }
  refine chainP_do (d := (some 8)) (fun v u => OwnI u W.heap.size v d.s) (fun v w1 w2 hb h => h.below hb) rfl rfl (fun w' hS' => ?_) ?_
  · simp only [lookP, allP, Act.put, List.getElem?_cons_zero, List.getElem?_cons_succ, List.setIfInBounds_toArray, List.set_cons_zero, List.set_cons_succ]
    intro K hK
    go_simp
    go_at_call 104
    refine (spec_l1Own _ d.s _ (HKS.out.below hS'.1) HLNs.out).mono ?_
    rintro e u ⟨v2, rfl, ho2, hq⟩
    exact hK.out _ _ hq (ho2.mono hS'.1.size)
  -- 6: build 27 #[(0, t5), (1, t8)]
  refine chainP_have (d := (some 9)) (fun v u => ∃ ax cx ay cy, v = .agg #[.slice ax d.c.length cx, .slice ay d.s.length cy] ∧ OwnI u W.heap.size (.slice ax d.c.length cx) d.c ∧ OwnI u W.heap.size (.slice ay d.s.length cy) d.s) (fun v w1 w2 hb h => by obtain ⟨ax, cx, ay, cy, e, h1, h2⟩ := h; exact ⟨ax, cx, ay, cy, e, h1.below hb, h2.below hb⟩) rfl rfl (fun w' hS' => ?_) ?_
  · simp only [lookP, allP, Act.put, List.getElem?_cons_zero, List.getElem?_cons_succ, List.setIfInBounds_toArray, List.set_cons_zero, List.set_cons_succ]
    intro x2 hx2
    intro x5 hx5
    obtain ⟨ax, cx, rfl⟩ := OwnI.shapeN (n := d.c.length) hx2 rfl
    obtain ⟨ay, cy, rfl⟩ := OwnI.shapeN (n := d.s.length) hx5 rfl
    refine ⟨.agg #[.slice ax d.c.length cx, .slice ay d.s.length cy], ?_, ax, cx, ay, cy, rfl, hx2, hx5⟩
    go_simp
  refine chainP_nil (fun u1 hS' => ?_)
  simp only [allP, Act.put, List.setIfInBounds_toArray, List.set_cons_zero, List.set_cons_succ]
  intro x6 hx6
  intro x5 hx5
  intro x2 hx2
  have hq1 := hS'.1
  clear hS'
  replace hc := Below.next hc hq1
  replace d0 := box_at d0 hq1
  replace d1 := box_at d1 hq1
  clear hq1
  clear hx2 hx5
  obtain ⟨ax, cx, ay, cy, rfl, hox, hoy⟩ := hx6
  have hszu := hc.size
  have hsw := HSW.out
  have HR := Lib.hid (HRX.out.below hc)
  have r0 := HR.out.cell (i := 0) rfl
  have r1 := HR.out.cell (i := 1) rfl
  have fr := fun j => HR.out.frozen j
  go_wp2_with fail
  refine NoPanic.normal ?_
  clear r0 r1 fr
  have HRF := Lib.hid ((HR.out.set 0 (.slice ax d.c.length cx)).set 1 (.slice ay d.s.length cy))
  have t0 := HRF.out.cell (i := 0) rfl
  have t1 := HRF.out.cell (i := 1) rfl
  try (go_wp2_with fail)
  refine bodyPost_ret (v := .agg #[.slice ax d.c.length cx, .slice ay d.s.length cy]) (by simp [results, Tryz.results62, go_sem, t0, t1]) rfl ⟨⟨_, _, rfl, ((hox.oth (b := w.heap.size + 1) (by omega) 0 (.slice ax d.c.length cx)).oth (b := w.heap.size + 1) (by omega) 1 (.slice ay d.s.length cy)).mono (by omega), ((hoy.oth (b := w.heap.size + 1) (by omega) 0 (.slice ax d.c.length cx)).oth (b := w.heap.size + 1) (by omega) 1 (.slice ay d.s.length cy)).mono (by omega)⟩, ((HB.out.trans (hc.mono HB.out.size)).setCell (p := ⟨w.heap.size + 1, 0, none⟩) (by show w.heap.size ≤ w.heap.size + 1; omega) _).setCell (p := ⟨w.heap.size + 1, 1, none⟩) (by show w.heap.size ≤ w.heap.size + 1; omega) _⟩
set_option maxRecDepth 100000 in
set_option maxHeartbeats 4000000 in
theorem impl_plus (gr : GroupD) (kv lv : Value) (k : DealingD) (l : List DealingD) (w : World) (hg : OkG gr) (hk : DlR w kv k) (hl : RdR rDealing w lv l) (hal : alB gr (k :: l) = true) :
    Calls Tryz.prog 30 #[.agg #[.int .i64 gr.p, .int .i64 gr.q, .int .i64 gr.g], kv, lv] w fun e w' => RetDl e w' w.heap.size (smD gr (k :: l)) ∧ Below w.heap.size w w' := by
  have HG := Lib.hid hg
  have HAL := Lib.hid hal
  clear hg hal
  obtain ⟨xcv, xsv, rfl, hxc, hxs⟩ := hk
  obtain ⟨xca, xcn, xcc, rfl⟩ := hxc.shape
  obtain ⟨xsa, xsn, xsc, rfl⟩ := hxs.shape
  obtain ⟨la, ln, lc, rfl⟩ := hl.shape
  have Hxc := Lib.hid hxc
  have Hxs := Lib.hid hxs
  have HL := Lib.hid hl
  clear hxc hxs hl
  obtain ⟨W, hW⟩ : ∃ W, W = ((w.alloc (.cells #[.int .i64 gr.p, .int .i64 gr.q, .int .i64 gr.g] 24)).alloc (.cells #[.slice xca xcn xcc, .slice xsa xsn xsc] 27)).alloc (.cells #[.slice none 0 0, .slice none 0 0] 27) := ⟨_, rfl⟩
  have HB : Hid (Below w.heap.size w W) := by unfold Hid; rw [hW]; (repeat (first | exact Below.refl _ _ | assumption | refine Below.drew ?_ | refine Below.alloc ?_ (by first | (simp; done) | (simp; omega)) _ | refine Below.setCell ?_ (by first | (simp; done) | (simp; omega)) _))
  have HBG : Hid (BoxN W w.heap.size 24 [.int .i64 gr.p, .int .i64 gr.q, .int .i64 gr.g]) := by unfold Hid; rw [hW]; have h := ((BoxN.new w [.int .i64 gr.p, .int .i64 gr.q, .int .i64 gr.g] 24).alloc (.cells #[.slice xca xcn xcc, .slice xsa xsn xsc] 27)).alloc (.cells #[.slice none 0 0, .slice none 0 0] 27); simpa using h
  have HBK : Hid (BoxN W (w.heap.size + 1) 27 [.slice xca xcn xcc, .slice xsa xsn xsc]) := by unfold Hid; rw [hW]; have h := (BoxN.new (w.alloc (.cells #[.int .i64 gr.p, .int .i64 gr.q, .int .i64 gr.g] 24)) [.slice xca xcn xcc, .slice xsa xsn xsc] 27).alloc (.cells #[.slice none 0 0, .slice none 0 0] 27); simpa using h
  have HRX : Hid (BoxN W (w.heap.size + 1 + 1) 27 [.slice none 0 0, .slice none 0 0]) := by unfold Hid; rw [hW]; have h := BoxN.new ((w.alloc (.cells #[.int .i64 gr.p, .int .i64 gr.q, .int .i64 gr.g] 24)).alloc (.cells #[.slice xca xcn xcc, .slice xsa xsn xsc] 27)) [.slice none 0 0, .slice none 0 0] 27; simpa using h
  have HSW : Hid (W.heap.size = w.heap.size + 3) := by unfold Hid; rw [hW]; simp
  have HKC : Hid (Ints W (.slice xca xcn xcc) k.c) := Hxc.out.below HB.out
  have HKS : Hid (Ints W (.slice xsa xsn xsc) k.s) := Hxs.out.below HB.out
  have HLW : Hid (RdR rDealing W (.slice la ln lc) l) := HL.out.below HB.out
  have HSM := smF_same HG.out HAL.out ((k :: l).length - 1) (by simp)
  have HSC : Hid ((smD gr (k :: l)).c.length ≤ 7 ∧ (smD gr (k :: l)).s.length ≤ 7) := by
    have h1 : SameD gr k (smD gr (k :: l)) := HSM
    have h2 := deB_parts ((alB_parts HAL.out).2 k (by simp)).1
    have := h1.lc; have := h1.ls; exact ⟨by omega, by omega⟩
  have HSS := HSC
  clear HSM
  have HLN : Hid (l.length ≤ 7) := by have := (alB_parts HAL.out).1; simp at this; unfold Hid; omega
  clear Hxc Hxs HL
  go_enter Tryz.func30, Tryz.ntmps30
  go_wp2_with fail
  rw [← hW]
  clear hW
  have c0 := HBG.out.cell (i := 0) rfl
  have c1 := HBG.out.cell (i := 1) rfl
  have c2 := HBG.out.cell (i := 2) rfl
  have d0 := HBK.out.cell (i := 0) rfl
  have d1 := HBK.out.cell (i := 1) rfl
  have hc : Below W.heap.size W W := Below.refl _ _
  refine wp_region_noPanic ?_
  refine wp_region_V (fun w' => w'.cell? ⟨w.heap.size, 0, none⟩ = some (.int .i64 gr.p) ∧ w'.cell? ⟨w.heap.size, 1, none⟩ = some (.int .i64 gr.q) ∧ w'.cell? ⟨w.heap.size, 2, none⟩ = some (.int .i64 gr.g) ∧ w'.cell? ⟨w.heap.size + 1, 0, none⟩ = some (.slice xca xcn xcc) ∧ w'.cell? ⟨w.heap.size + 1, 1, none⟩ = some (.slice xsa xsn xsc)) 9 6 (.rd 0 (.rd 1 (.rd 3 (.alt 2 (.alt 4 (.alt 5 .done .nil) .nil) .nil)))) [6] (by kernel_rfl) (by kernel_rfl) rfl (fun _ _ _ _ _ h => h) ⟨box_at c0 (Below.refl _ _).drew, box_at c1 (Below.refl _ _).drew, box_at c2 (Below.refl _ _).drew, box_at d0 (Below.refl _ _).drew, box_at d1 (Below.refl _ _).drew⟩ ?_
  simp only [pickV, pickN, List.getElem?_cons_zero, List.getElem?_cons_succ]
  repeat (refine' wpV_read _ (by kernel_rfl) (fun w' hS' => ?_) ?_; rotate_left; (focus ((try dsimp only at hS'); go_simp; (try with_reducible rfl))); (try simp only [Act.put, List.setIfInBounds_toArray, List.set_cons_zero, List.set_cons_succ]))
  have HB1 : Hid (Below W.heap.size W W.drew) := (Below.refl _ _).drew
  obtain ⟨uA, huA⟩ : ∃ u, u = W.drew := ⟨_, rfl⟩
  rw [← huA] at HB1 ⊢
  clear huA
  refine wpV_do (by kernel_rfl) (fun K hK => ?_)
  go_simp
  have HM3 := Lib.hid (MixDs.lit1 (u := none) (d := k) HB1.out (Nat.le_refl _) HB1.out.size (.inr HKC.out) (.inr HKS.out))
  have HB3 : Hid (Below W.heap.size W (uA.alloc (.cells #[.slice xca xcn xcc, .slice xsa xsn xsc] 61))) := HM3.out.bel
  refine hK.out _ _ ⟨box_at c0 HB3.out, box_at c1 HB3.out, box_at c2 HB3.out, box_at d0 HB3.out, box_at d1 HB3.out⟩ (fun _ => ?_)
  clear hK K
  (try simp only [Act.put, List.setIfInBounds_toArray, List.set_cons_zero, List.set_cons_succ])
  refine wpV_do (by kernel_rfl) (fun K hK => ?_)
  refine oper_append_MixA _ _ rfl rfl rfl HM3.out HLW.out HB3.out.size (by have := HLN.out; simp; omega) ?_
  intro v9 w9 hM9 hb9
  have HM9 := Lib.hid hM9
  have HB9 : Hid (Below W.heap.size W w9) := HB3.out.trans hb9
  clear hM9 hb9
  refine hK.out _ _ ⟨box_at c0 HB9.out, box_at c1 HB9.out, box_at c2 HB9.out, box_at d0 HB9.out, box_at d1 HB9.out⟩ (fun _ => ?_)
  clear hK K
  (try simp only [Act.put, List.setIfInBounds_toArray, List.set_cons_zero, List.set_cons_succ])
  refine wpV_do (by kernel_rfl) (fun K hK => ?_)
  go_simp
  go_at_call 56
  refine (impl_sumOf gr _ (k :: l) _ HG.out HM9.out.rd HAL.out).mono ?_
  rintro e u9 ⟨⟨x, y, rfl, hox, hoy⟩, hb⟩
  have HBU : Hid (Below W.heap.size W u9) := Below.next HB9.out hb
  have hszu := HBU.out.size
  have hsz9 := HB9.out.size
  have hsw := HSW.out
  clear hb
  obtain ⟨ax, cx, rfl⟩ := OwnI.shapeN (n := (smD gr (k :: l)).c.length) hox rfl
  obtain ⟨ay, cy, rfl⟩ := OwnI.shapeN (n := (smD gr (k :: l)).s.length) hoy rfl
  refine hK.out _ _ ⟨box_at c0 HBU.out, box_at c1 HBU.out, box_at c2 HBU.out, box_at d0 HBU.out, box_at d1 HBU.out⟩ (fun _ => ?_)
  clear hK K
  (try simp only [Act.put, List.setIfInBounds_toArray, List.set_cons_zero, List.set_cons_succ])
  refine wpV_done ?_
  clear c0 c1 c2 d0 d1
  have HR := Lib.hid (HRX.out.below HBU.out)
  have r0 := HR.out.cell (i := 0) rfl
  have r1 := HR.out.cell (i := 1) rfl
  have fr := fun j => HR.out.frozen j
  go_wp2_with fail
  refine NoPanic.normal ?_
  clear r0 r1 fr
  have HRF := Lib.hid ((HR.out.set 0 (.slice ax (smD gr (k :: l)).c.length cx)).set 1 (.slice ay (smD gr (k :: l)).s.length cy))
  have t0 := HRF.out.cell (i := 0) rfl
  have t1 := HRF.out.cell (i := 1) rfl
  try (go_wp2_with fail)
  refine bodyPost_ret (v := .agg #[.slice ax (smD gr (k :: l)).c.length cx, .slice ay (smD gr (k :: l)).s.length cy]) (by simp [results, Tryz.results30, go_sem, t0, t1]) rfl ⟨⟨_, _, rfl, ((hox.oth (b := w.heap.size + 1 + 1) (by omega) 0 (.slice ax (smD gr (k :: l)).c.length cx)).oth (b := w.heap.size + 1 + 1) (by omega) 1 (.slice ay (smD gr (k :: l)).s.length cy)).mono (by omega), ((hoy.oth (b := w.heap.size + 1 + 1) (by omega) 0 (.slice ax (smD gr (k :: l)).c.length cx)).oth (b := w.heap.size + 1 + 1) (by omega) 1 (.slice ay (smD gr (k :: l)).s.length cy)).mono (by omega)⟩, ((HB.out.trans (HBU.out.mono HB.out.size)).setCell (p := ⟨w.heap.size + 1 + 1, 0, none⟩) (by show w.heap.size ≤ w.heap.size + 1 + 1; omega) _).setCell (p := ⟨w.heap.size + 1 + 1, 1, none⟩) (by show w.heap.size ≤ w.heap.size + 1 + 1; omega) _⟩
set_option maxRecDepth 100000 in
set_option maxHeartbeats 4000000 in
theorem spec_rSum (gr : GroupD) (kv lv : Value) (k : DealingD) (l : List DealingD) (w : World) (hg : OkG gr) (hk : DlR w kv k) (hl : RdR rDealing w lv l) (hal : alB gr (k :: l) = true) :
    Calls Tryz.prog 35 #[.agg #[.int .i64 gr.p, .int .i64 gr.q, .int .i64 gr.g], kv, lv] w fun e w' => RetDl e w' w.heap.size (smD gr (k :: l)) ∧ Below w.heap.size w w' := by
  have HG := Lib.hid hg
  have HAL := Lib.hid hal
  clear hg hal
  obtain ⟨xcv, xsv, rfl, hxc, hxs⟩ := hk
  obtain ⟨xca, xcn, xcc, rfl⟩ := hxc.shape
  obtain ⟨xsa, xsn, xsc, rfl⟩ := hxs.shape
  obtain ⟨la, ln, lc, rfl⟩ := hl.shape
  have Hxc := Lib.hid hxc
  have Hxs := Lib.hid hxs
  have HL := Lib.hid hl
  clear hxc hxs hl
  obtain ⟨W, hW⟩ : ∃ W, W = ((w.alloc (.cells #[.int .i64 gr.p, .int .i64 gr.q, .int .i64 gr.g] 24)).alloc (.cells #[.slice xca xcn xcc, .slice xsa xsn xsc] 27)).alloc (.cells #[.slice none 0 0, .slice none 0 0] 27) := ⟨_, rfl⟩
  have HB : Hid (Below w.heap.size w W) := by unfold Hid; rw [hW]; (repeat (first | exact Below.refl _ _ | assumption | refine Below.drew ?_ | refine Below.alloc ?_ (by first | (simp; done) | (simp; omega)) _ | refine Below.setCell ?_ (by first | (simp; done) | (simp; omega)) _))
  have HBG : Hid (BoxN W w.heap.size 24 [.int .i64 gr.p, .int .i64 gr.q, .int .i64 gr.g]) := by unfold Hid; rw [hW]; have h := ((BoxN.new w [.int .i64 gr.p, .int .i64 gr.q, .int .i64 gr.g] 24).alloc (.cells #[.slice xca xcn xcc, .slice xsa xsn xsc] 27)).alloc (.cells #[.slice none 0 0, .slice none 0 0] 27); simpa using h
  have HBK : Hid (BoxN W (w.heap.size + 1) 27 [.slice xca xcn xcc, .slice xsa xsn xsc]) := by unfold Hid; rw [hW]; have h := (BoxN.new (w.alloc (.cells #[.int .i64 gr.p, .int .i64 gr.q, .int .i64 gr.g] 24)) [.slice xca xcn xcc, .slice xsa xsn xsc] 27).alloc (.cells #[.slice none 0 0, .slice none 0 0] 27); simpa using h
  have HRX : Hid (BoxN W (w.heap.size + 1 + 1) 27 [.slice none 0 0, .slice none 0 0]) := by unfold Hid; rw [hW]; have h := BoxN.new ((w.alloc (.cells #[.int .i64 gr.p, .int .i64 gr.q, .int .i64 gr.g] 24)).alloc (.cells #[.slice xca xcn xcc, .slice xsa xsn xsc] 27)) [.slice none 0 0, .slice none 0 0] 27; simpa using h
  have HSW : Hid (W.heap.size = w.heap.size + 3) := by unfold Hid; rw [hW]; simp
  have HKC : Hid (Ints W (.slice xca xcn xcc) k.c) := Hxc.out.below HB.out
  have HKS : Hid (Ints W (.slice xsa xsn xsc) k.s) := Hxs.out.below HB.out
  have HLW : Hid (RdR rDealing W (.slice la ln lc) l) := HL.out.below HB.out
  have HSM := smF_same HG.out HAL.out ((k :: l).length - 1) (by simp)
  have HSC : Hid ((smD gr (k :: l)).c.length ≤ 7 ∧ (smD gr (k :: l)).s.length ≤ 7) := by
    have h1 : SameD gr k (smD gr (k :: l)) := HSM
    have h2 := deB_parts ((alB_parts HAL.out).2 k (by simp)).1
    have := h1.lc; have := h1.ls; exact ⟨by omega, by omega⟩
  have HSS := HSC
  clear HSM
  have HLN : Hid (l.length ≤ 7) := by have := (alB_parts HAL.out).1; simp at this; unfold Hid; omega
  clear Hxc Hxs HL
  go_enter Tryz.func35, Tryz.ntmps35
  go_wp2_with fail
  rw [← hW]
  clear hW
  have c0 := HBG.out.cell (i := 0) rfl
  have c1 := HBG.out.cell (i := 1) rfl
  have c2 := HBG.out.cell (i := 2) rfl
  have d0 := HBK.out.cell (i := 0) rfl
  have d1 := HBK.out.cell (i := 1) rfl
  have hc : Below W.heap.size W W := Below.refl _ _
  refine wp_region_noPanic ?_
  refine wp_region_V (fun w' => w'.cell? ⟨w.heap.size, 0, none⟩ = some (.int .i64 gr.p) ∧ w'.cell? ⟨w.heap.size, 1, none⟩ = some (.int .i64 gr.q) ∧ w'.cell? ⟨w.heap.size, 2, none⟩ = some (.int .i64 gr.g) ∧ w'.cell? ⟨w.heap.size + 1, 0, none⟩ = some (.slice xca xcn xcc) ∧ w'.cell? ⟨w.heap.size + 1, 1, none⟩ = some (.slice xsa xsn xsc)) 11 8 (.rd 0 (.rd 1 (.rd 4 (.alt 2 (.alt 3 (.alt 5 (.alt 6 (.alt 7 .done .nil) .nil) .nil) .nil) .nil)))) [8] (by kernel_rfl) (by kernel_rfl) rfl (fun _ _ _ _ _ h => h) ⟨box_at c0 (Below.refl _ _).drew, box_at c1 (Below.refl _ _).drew, box_at c2 (Below.refl _ _).drew, box_at d0 (Below.refl _ _).drew, box_at d1 (Below.refl _ _).drew⟩ ?_
  simp only [pickV, pickN, List.getElem?_cons_zero, List.getElem?_cons_succ]
  repeat (refine' wpV_read _ (by kernel_rfl) (fun w' hS' => ?_) ?_; rotate_left; (focus ((try dsimp only at hS'); go_simp; (try with_reducible rfl))); (try simp only [Act.put, List.setIfInBounds_toArray, List.set_cons_zero, List.set_cons_succ]))
  have HB1 : Hid (Below W.heap.size W W.drew) := (Below.refl _ _).drew
  obtain ⟨uA, huA⟩ : ∃ u, u = W.drew := ⟨_, rfl⟩
  rw [← huA] at HB1 ⊢
  clear huA
  refine wpV_do (by kernel_rfl) (fun K hK => ?_)
  go_simp
  go_at_call 82
  refine (spec_rKey _ k _ (DlR.mk (HKC.out.below HB1.out) (HKS.out.below HB1.out))).mono ?_
  rintro e u2 ⟨rfl, hq2⟩
  replace HB1 : Hid (Below W.heap.size W u2) := Below.next HB1.out hq2
  clear hq2
  refine hK.out _ _ ⟨box_at c0 HB1.out, box_at c1 HB1.out, box_at c2 HB1.out, box_at d0 HB1.out, box_at d1 HB1.out⟩ (fun _ => ?_)
  clear hK K
  (try simp only [Act.put, List.setIfInBounds_toArray, List.set_cons_zero, List.set_cons_succ])
  refine wpV_do (by kernel_rfl) (fun K hK => ?_)
  go_simp
  have HM3 := Lib.hid (MixDs.lit1 (u := none) (d := k) HB1.out (Nat.le_refl _) HB1.out.size (.inr HKC.out) (.inr HKS.out))
  have HB3 : Hid (Below W.heap.size W (u2.alloc (.cells #[.slice xca xcn xcc, .slice xsa xsn xsc] 61))) := HM3.out.bel
  refine hK.out _ _ ⟨box_at c0 HB3.out, box_at c1 HB3.out, box_at c2 HB3.out, box_at d0 HB3.out, box_at d1 HB3.out⟩ (fun _ => ?_)
  clear hK K
  (try simp only [Act.put, List.setIfInBounds_toArray, List.set_cons_zero, List.set_cons_succ])
  refine wpV_do (by kernel_rfl) (fun K hK => ?_)
  refine oper_append_MixA _ _ rfl rfl rfl HM3.out HLW.out HB3.out.size (by have := HLN.out; simp; omega) ?_
  intro v9 w9 hM9 hb9
  have HM9 := Lib.hid hM9
  have HB9 : Hid (Below W.heap.size W w9) := HB3.out.trans hb9
  clear hM9 hb9
  refine hK.out _ _ ⟨box_at c0 HB9.out, box_at c1 HB9.out, box_at c2 HB9.out, box_at d0 HB9.out, box_at d1 HB9.out⟩ (fun _ => ?_)
  clear hK K
  (try simp only [Act.put, List.setIfInBounds_toArray, List.set_cons_zero, List.set_cons_succ])
  refine wpV_do (by kernel_rfl) (fun K hK => ?_)
  go_simp
  go_at_call 83
  refine (spec_sSum gr _ (k :: l) _ HG.out HM9.out.rd HAL.out).mono ?_
  rintro e u9 ⟨⟨x, y, rfl, hox, hoy⟩, hb⟩
  have HBU : Hid (Below W.heap.size W u9) := Below.next HB9.out hb
  have hszu := HBU.out.size
  have hsz9 := HB9.out.size
  have hsw := HSW.out
  clear hb
  obtain ⟨ax, cx, rfl⟩ := OwnI.shapeN (n := (smD gr (k :: l)).c.length) hox rfl
  obtain ⟨ay, cy, rfl⟩ := OwnI.shapeN (n := (smD gr (k :: l)).s.length) hoy rfl
  refine hK.out _ _ ⟨box_at c0 HBU.out, box_at c1 HBU.out, box_at c2 HBU.out, box_at d0 HBU.out, box_at d1 HBU.out⟩ (fun _ => ?_)
  clear hK K
  (try simp only [Act.put, List.setIfInBounds_toArray, List.set_cons_zero, List.set_cons_succ])
  have HIX := Lib.hid hox.ints
  have HIY := Lib.hid hoy.ints
  clear hox hoy
  refine wpV_do (by kernel_rfl) (fun K hK => ?_)
  go_simp
  go_at_call 62
  refine (spec_rShared _ (smD gr (k :: l)) _ (DlR.mk HIX.out HIY.out) (by have := HSC.out; omega) (by have := HSS.out; omega)).mono ?_
  rintro e u10 ⟨⟨x, y, rfl, hox, hoy⟩, hb⟩
  replace HBU : Hid (Below W.heap.size W u10) := Below.next HBU.out hb
  have hszz := hb.size
  clear hb
  obtain ⟨ax, cx, rfl⟩ := OwnI.shapeN (n := (smD gr (k :: l)).c.length) hox rfl
  obtain ⟨ay, cy, rfl⟩ := OwnI.shapeN (n := (smD gr (k :: l)).s.length) hoy rfl
  refine hK.out _ _ ⟨box_at c0 HBU.out, box_at c1 HBU.out, box_at c2 HBU.out, box_at d0 HBU.out, box_at d1 HBU.out⟩ (fun _ => ?_)
  clear hK K
  (try simp only [Act.put, List.setIfInBounds_toArray, List.set_cons_zero, List.set_cons_succ])
  refine wpV_done ?_
  clear c0 c1 c2 d0 d1
  have HR := Lib.hid (HRX.out.below HBU.out)
  have r0 := HR.out.cell (i := 0) rfl
  have r1 := HR.out.cell (i := 1) rfl
  have fr := fun j => HR.out.frozen j
  go_wp2_with fail
  refine NoPanic.normal ?_
  clear r0 r1 fr
  have HRF := Lib.hid ((HR.out.set 0 (.slice ax (smD gr (k :: l)).c.length cx)).set 1 (.slice ay (smD gr (k :: l)).s.length cy))
  have t0 := HRF.out.cell (i := 0) rfl
  have t1 := HRF.out.cell (i := 1) rfl
  try (go_wp2_with fail)
  refine bodyPost_ret (v := .agg #[.slice ax (smD gr (k :: l)).c.length cx, .slice ay (smD gr (k :: l)).s.length cy]) (by simp [results, Tryz.results35, go_sem, t0, t1]) rfl ⟨⟨_, _, rfl, ((hox.oth (b := w.heap.size + 1 + 1) (by omega) 0 (.slice ax (smD gr (k :: l)).c.length cx)).oth (b := w.heap.size + 1 + 1) (by omega) 1 (.slice ay (smD gr (k :: l)).s.length cy)).mono (by omega), ((hoy.oth (b := w.heap.size + 1 + 1) (by omega) 0 (.slice ax (smD gr (k :: l)).c.length cx)).oth (b := w.heap.size + 1 + 1) (by omega) 1 (.slice ay (smD gr (k :: l)).s.length cy)).mono (by omega)⟩, ((HB.out.trans (HBU.out.mono HB.out.size)).setCell (p := ⟨w.heap.size + 1 + 1, 0, none⟩) (by show w.heap.size ≤ w.heap.size + 1 + 1; omega) _).setCell (p := ⟨w.heap.size + 1 + 1, 1, none⟩) (by show w.heap.size ≤ w.heap.size + 1 + 1; omega) _⟩
end Go.Proofs.YtacpnphfopmofaaGreat
namespace Go.Proofs.YtacpnphfopmofaaGreat
open Go.RowKit
set_option linter.unusedSimpArgs false
set_option linter.unusedVariables false
set_option maxRecDepth 100000 in
set_option maxHeartbeats 4000000 in
theorem spec_sharedKey (w0 : World) (g : Nat) (n P Q G : Int) (nn tt : Nat) (w : World) (h : Cur w0 w g n) (hb : Below w0.heap.size w0 w) (hn : n ≤ 500000000000000) (hgr : GrB ⟨P, Q, G⟩) (hnn : 1 ≤ nn ∧ nn ≤ 7) (htt : 1 ≤ tt ∧ tt ≤ 7) :
    Calls Tryz.prog 23 #[.pointer (some ⟨g, 0, none⟩), .agg #[.int .i64 P, .int .i64 Q, .int .i64 G], .int .i64 (nn : Int), .int .i64 (tt : Int)] w fun e w' => (∃ (vr0a : Value) (vr0b : Value) (lr0a : List Int) (lr0b : List Int), e = .returned (.agg #[vr0a, vr0b]) ∧ ((OwnI w' w.heap.size vr0a lr0a ∧ lr0a.length ≤ 7) ∧ (OwnI w' w.heap.size vr0b lr0b ∧ (1 ≤ lr0b.length ∧ lr0b.length ≤ 7)))) ∧ Cur w0 w' g (n + 200000) ∧ Within g (g + 1) w w' := by
  have HGR := Lib.hid hgr
  have HBB := Lib.hid hb
  have hge := h.ge
  have hgw := h.lt
  clear hgr hb
  obtain ⟨W, hW⟩ : ∃ W, W = (w.alloc (.cells #[.int .i64 P, .int .i64 Q, .int .i64 G] 24)).alloc (.cells #[(.slice none 0 0), (.slice none 0 0)] 27) := ⟨_, rfl⟩
  have hbW : Below w.heap.size w W := by rw [hW]; (repeat (first | exact Below.refl _ _ | assumption | refine Below.drew ?_ | refine Below.alloc ?_ (by first | (simp; done) | (simp; omega)) _ | refine Below.setCell ?_ (by first | (simp; done) | (simp; omega)) _))
  have HZg : Hid (BoxN W w.heap.size 24 [.int .i64 P, .int .i64 Q, .int .i64 G]) := by unfold Hid; rw [hW]; have h := ((BoxN.new w [.int .i64 P, .int .i64 Q, .int .i64 G] 24).alloc (.cells #[(.slice none 0 0), (.slice none 0 0)] 27)); simpa using h
  have HX0 : Hid (BoxN W (w.heap.size + 1) 27 [(.slice none 0 0), (.slice none 0 0)]) := by unfold Hid; rw [hW]; have h := (BoxN.new (w.alloc (.cells #[.int .i64 P, .int .i64 Q, .int .i64 G] 24)) [(.slice none 0 0), (.slice none 0 0)] 27); simpa using h
  have hsW : W.heap.size = w.heap.size + 2 := by rw [hW]; simp
  have HC := Lib.hid (h.keep hbW)
  have HWw := Lib.hid (Within.of_below hbW : Within g (g + 1) w W)
  have HBW : Hid (Below w0.heap.size w0 W) := HBB.out.trans (hbW.mono HBB.out.size)
  clear h
  go_enter Tryz.func23, Tryz.ntmps23
  go_wp2_with fail
  rw [← hW]
  have HW := Lib.hid (Within.refl g (g + 1) W)
  clear hW hbW
  have z_0_0 := HZg.out.cell (i := 0) rfl
  have z_0_1 := HZg.out.cell (i := 1) rfl
  have z_0_2 := HZg.out.cell (i := 2) rfl
  have z_1_0 := HX0.out.cell (i := 0) rfl
  have z_1_1 := HX0.out.cell (i := 1) rfl
  try (go_wp2_with fail)
  clear z_0_0 z_0_1 z_0_2 z_1_0 z_1_1
  refine (spec_sGroup ⟨P, Q, G⟩ _).mono ?_
  rintro e u1 ⟨rfl, hb⟩
  obtain ⟨q1, hq1⟩ : ∃ r, shG ⟨P, Q, G⟩ = r := ⟨_, rfl⟩
  have Hq1 := Lib.hid hq1
  rw [hq1]
  clear hq1
  have hsz1 := hb.size
  replace HZg := Lib.hid (HZg.out.below hb)
  replace HX0 := Lib.hid (HX0.out.below hb)
  replace HW := Lib.hid (HW.out.trans (Within.of_below hb))
  replace HC := Lib.hid (HC.out.keep hb)
  clear hb
  cases q1 with
  | false =>
    have z_0_0 := HZg.out.cell (i := 0) rfl
    have z_0_1 := HZg.out.cell (i := 1) rfl
    have z_0_2 := HZg.out.cell (i := 2) rfl
    have r0 := fun o1 o2 => ((HX0.out.alloc o1).alloc o2).cell (i := 0) rfl
    have r1 := fun o1 o2 => ((HX0.out.alloc o1).alloc o2).cell (i := 1) rfl
    have fr := fun o1 o2 j => ((HX0.out.alloc o1).alloc o2).frozen j
    obtain ⟨V, hV⟩ : ∃ V, V = (u1.alloc (.cells #[.int .i64 1] 3)).alloc (.cells #[.int .i64 0] 3) := ⟨_, rfl⟩
    have hbV : Below u1.heap.size u1 V := by rw [hV]; (repeat (first | exact Below.refl _ _ | assumption | refine Below.drew ?_ | refine Below.alloc ?_ (by first | (simp; done) | (simp; omega)) _ | refine Below.setCell ?_ (by first | (simp; done) | (simp; omega)) _))
    have HOD : Hid (OwnD V u1.heap.size (.slice (some ⟨u1.heap.size, 0, none⟩) 1 1) (.slice (some ⟨u1.heap.size + 1, 0, none⟩) 1 1) [1] [0]) := by unfold Hid; rw [hV]; exact OwnD.lits u1
    have HSA := Lib.hid HOD.out.oa
    have HSB := Lib.hid HOD.out.ob
    have HLA : Hid (([1] : List Int).length ≤ 7) := by unfold Hid; decide
    have HLB : Hid (1 ≤ ([0] : List Int).length ∧ ([0] : List Int).length ≤ 7) := by unfold Hid; decide
    have hub : w.heap.size + 1 < u1.heap.size := HX0.out.lt
    have hgub : g < u1.heap.size := HC.out.lt
    have HX9 := Lib.hid (HX0.out.below hbV)
    go_wp2_with fail
    rw [← hV]
    replace HW := Lib.hid (HW.out.trans (Within.of_below hbV))
    replace HC := Lib.hid (HC.out.keep hbV)
    clear r0 r1 fr hV hbV z_0_0 z_0_1 z_0_2
    have FHX0 := Lib.hid ((HX9.out.set 0 (.slice (some ⟨u1.heap.size, 0, none⟩) 1 1)).set 1 (.slice (some ⟨u1.heap.size + 1, 0, none⟩) 1 1))
    have t_HX0_0 := FHX0.out.cell (i := 0) rfl
    have t_HX0_1 := FHX0.out.cell (i := 1) rfl
    try (go_wp2_with fail)
    refine bodyPost_ret (v := .agg #[.slice (some ⟨u1.heap.size, 0, none⟩) 1 1, .slice (some ⟨u1.heap.size + 1, 0, none⟩) 1 1]) (by simp [results, Tryz.results23, go_sem, t_HX0_0, t_HX0_1]) rfl ⟨⟨_, _, _, _, rfl, ⟨((HSA.out.other (b := w.heap.size + 1) (by omega) 0 (.slice (some ⟨u1.heap.size, 0, none⟩) 1 1)).other (b := w.heap.size + 1) (by omega) 1 (.slice (some ⟨u1.heap.size + 1, 0, none⟩) 1 1)).mono (by omega), HLA.out⟩, ⟨((HSB.out.other (b := w.heap.size + 1) (by omega) 0 (.slice (some ⟨u1.heap.size, 0, none⟩) 1 1)).other (b := w.heap.size + 1) (by omega) 1 (.slice (some ⟨u1.heap.size + 1, 0, none⟩) 1 1)).mono (by omega), HLB.out⟩⟩, ((HC.out.setNew (b := w.heap.size + 1) (by omega) 0 (.slice (some ⟨u1.heap.size, 0, none⟩) 1 1)).setNew (b := w.heap.size + 1) (by omega) 1 (.slice (some ⟨u1.heap.size + 1, 0, none⟩) 1 1)).mono (by omega), (((HWw.out.trans HW.out).setNew (b := w.heap.size + 1) (by omega) 0 (.slice (some ⟨u1.heap.size, 0, none⟩) 1 1)).setNew (b := w.heap.size + 1) (by omega) 1 (.slice (some ⟨u1.heap.size + 1, 0, none⟩) 1 1))⟩
  | true =>
    have z_0_0 := HZg.out.cell (i := 0) rfl
    have z_0_1 := HZg.out.cell (i := 1) rfl
    have z_0_2 := HZg.out.cell (i := 2) rfl
    have z_1_0 := HX0.out.cell (i := 0) rfl
    have z_1_1 := HX0.out.cell (i := 1) rfl
    try (go_wp2_with fail)
    clear z_0_0 z_0_1 z_0_2 z_1_0 z_1_1
    have HG := Lib.hid (shG_ok Hq1.out)
    have hgb : g < u1.heap.size := HC.out.lt
    have hub : w.heap.size + 1 < u1.heap.size := HX0.out.lt
    have z_0_0 := HZg.out.cell (i := 0) rfl
    have z_0_1 := HZg.out.cell (i := 1) rfl
    have z_0_2 := HZg.out.cell (i := 2) rfl
    have z_1_0 := HX0.out.cell (i := 0) rfl
    have z_1_1 := HX0.out.cell (i := 1) rfl
    try (go_wp2_with fail)
    refine wp_region_noPanic ?_
    refine wp_region_Q (Within g (g + 1)) (DrawS w0 u1 g _ 20000 (fun w' => w'.cell? ⟨w.heap.size, 0, none⟩ = some (.int .i64 P) ∧ w'.cell? ⟨w.heap.size, 1, none⟩ = some (.int .i64 Q) ∧ w'.cell? ⟨w.heap.size, 2, none⟩ = some (.int .i64 G))) 11 [(0, []), (1, []), (2, []), (3, []), (4, [2, 1, 0]), (5, []), (6, [5, 1, 0]), (7, [0])] [8] (by kernel_rfl) (by kernel_rfl) (by kernel_rfl) rfl (fun _ _ _ _ h => h) (DrawS.good _ _ _ _ _ _) ⟨(Within.refl _ _ _).drew, by simpa using HC.out.keep (Below.refl _ _).drew, ⟨box_at z_0_0 (Below.refl _ _).drew, box_at z_0_1 (Below.refl _ _).drew, box_at z_0_2 (Below.refl _ _).drew⟩⟩ ?_
    simp only [pickP, pickN, List.getElem?_cons_zero, List.getElem?_cons_succ]
    iterate 4 (refine' chainQ_read (DrawS.good _ _ _ _ _ _) _ rfl rfl (fun m w' hm' hS' => ?_) ?_; rotate_left; · (simp only [lookP, allP, Act.put, List.getElem?_cons_zero, List.getElem?_cons_succ, List.setIfInBounds_toArray, List.set_cons_zero, List.set_cons_succ]; (try dsimp only [DrawS] at hS'); go_simp; (try with_reducible rfl)))
    -- 4: call { callee := value (func 37), args := #[t16, t17, t18], argTypes := #[50, 24, 3] }
    refine chainQ_do (d := (some 19)) (fun v z => ∃ (a : Option Addr) (c : Nat) (l : List Int), v = .slice a tt c ∧ OwnI z u1.heap.size (.slice a tt c) l ∧ l.length = tt ∧ ∀ x ∈ l, 0 ≤ x ∧ x ≤ 2000000010) (fun v w1 w2 hw h => by obtain ⟨a, c, l, e, h1, h2, h3⟩ := h; exact ⟨a, c, l, e, h1.within hw (by omega), h2, h3⟩) rfl rfl (fun m w' hm' hS' => ?_) ?_
    · simp only [lookP, allP, Act.put, List.getElem?_cons_zero, List.getElem?_cons_succ, List.setIfInBounds_toArray, List.set_cons_zero, List.set_cons_succ]
      intro K hK
      replace hm' : m < 8 := hm'
      go_simp
      go_at_call 37
      refine (spec_coins w0 g _ P Q G tt _ hS'.2.1 (hS'.1.belowOf (HW.out.belowOf HBW.out hge) hge) (by omega) HGR.out (by omega)).mono ?_
      rintro e z ⟨⟨v, l, rfl, ho, hl, hx⟩, hc, hw⟩
      obtain ⟨a, c, rfl⟩ := ho.shapeN hl
      have hsz0 := hS'.1.size
      exact hK.out _ _ hw ⟨hS'.1.trans hw, hc.mono (by omega), ⟨within_at (hS'.1.trans hw) z_0_0 (.inr (by omega)), within_at (hS'.1.trans hw) z_0_1 (.inr (by omega)), within_at (hS'.1.trans hw) z_0_2 (.inr (by omega))⟩⟩ ⟨a, c, l, rfl, ho.mono (by omega), hl, hx⟩
    -- 5: move t2
    refine' chainQ_read (DrawS.good _ _ _ _ _ _) (d := (some 20)) _ rfl rfl (fun m w' hm' hS' => ?_) ?_; rotate_left
    · simp only [lookP, allP, Act.put, List.getElem?_cons_zero, List.getElem?_cons_succ, List.setIfInBounds_toArray, List.set_cons_zero, List.set_cons_succ]
      (try dsimp only [DrawS] at hS')
      go_simp
      (try with_reducible rfl)
    -- 6: call { callee := value (func 47), args := #[t15, t19, t20], argTypes := #[24, 25, 3] }
    refine chainQ_do (d := (some 21)) (fun v z => ∃ (xa : Option Addr) (xc : Nat) (ya : Option Addr) (yc : Nat) (la lb : List Int), v = .agg #[.slice xa tt xc, .slice ya nn yc] ∧ OwnI z u1.heap.size (.slice xa tt xc) la ∧ OwnI z u1.heap.size (.slice ya nn yc) lb ∧ la.length = tt ∧ lb.length = nn) (fun v w1 w2 hw h => by obtain ⟨xa, xc, ya, yc, la, lb, e, h1, h2, h3⟩ := h; exact ⟨xa, xc, ya, yc, la, lb, e, h1.within hw (by omega), h2.within hw (by omega), h3⟩) rfl rfl (fun m w' hm' hS' => ?_) ?_
    · simp only [lookP, allP, Act.put, List.getElem?_cons_zero, List.getElem?_cons_succ, List.setIfInBounds_toArray, List.set_cons_zero, List.set_cons_succ]
      intro x4 hx4
      intro K hK
      replace hm' : m < 8 := hm'
      obtain ⟨a, c, l, rfl, ho, hl, hx⟩ := hx4
      go_simp
      go_at_call 47
      refine (spec_sDeal ⟨P, Q, G⟩ _ l nn _ HG.out ho.ints hx (by omega) (by omega)).mono ?_
      rintro e z ⟨⟨x, y, rfl, o1, o2, hne⟩, hbz⟩
      have hsz0 := hS'.1.size
      have hw := (Within.of_below hbz : Within g (g + 1) _ _)
      obtain ⟨xa, xc, rfl⟩ := OwnI.shapeN (n := tt) o1 (by rw [dcL_len]; exact hl)
      obtain ⟨ya, yc, rfl⟩ := OwnI.shapeN (n := nn) o2 (dsL_len ..)
      exact hK.out _ _ hw ⟨hS'.1.trans hw, (hS'.2.1.keep hbz).mono (by omega), ⟨within_at (hS'.1.trans hw) z_0_0 (.inr (by omega)), within_at (hS'.1.trans hw) z_0_1 (.inr (by omega)), within_at (hS'.1.trans hw) z_0_2 (.inr (by omega))⟩⟩ ⟨xa, xc, ya, yc, _, _, rfl, o1.mono (by omega), o2.mono (by omega), by rw [dcL_len]; exact hl, dsL_len ..⟩
    -- 7: call { callee := value (func 62), args := #[t21], argTypes := #[61] }
    refine chainQ_do (d := (some 22)) (fun v z => ∃ (xa : Option Addr) (xc : Nat) (ya : Option Addr) (yc : Nat) (la lb : List Int), v = .agg #[.slice xa tt xc, .slice ya nn yc] ∧ OwnI z u1.heap.size (.slice xa tt xc) la ∧ OwnI z u1.heap.size (.slice ya nn yc) lb ∧ la.length = tt ∧ lb.length = nn) (fun v w1 w2 hw h => by obtain ⟨xa, xc, ya, yc, la, lb, e, h1, h2, h3⟩ := h; exact ⟨xa, xc, ya, yc, la, lb, e, h1.within hw (by omega), h2.within hw (by omega), h3⟩) rfl rfl (fun m w' hm' hS' => ?_) ?_
    · simp only [lookP, allP, Act.put, List.getElem?_cons_zero, List.getElem?_cons_succ, List.setIfInBounds_toArray, List.set_cons_zero, List.set_cons_succ]
      intro x6 hx6
      intro K hK
      replace hm' : m < 8 := hm'
      obtain ⟨xa, xc, ya, yc, la, lb, rfl, o1, o2, l1, l2⟩ := hx6
      go_simp
      go_at_call 62
      refine (spec_rShared _ ⟨la, lb⟩ _ (DlR.mk o1.ints o2.ints) (by show la.length ≤ _; omega) (by show lb.length ≤ _; omega)).mono ?_
      rintro e z ⟨⟨x, y, rfl, p1, p2⟩, hbz⟩
      have hsz0 := hS'.1.size
      have hw := (Within.of_below hbz : Within g (g + 1) _ _)
      obtain ⟨xa, xc, rfl⟩ := OwnI.shapeN (n := tt) p1 l1
      obtain ⟨ya, yc, rfl⟩ := OwnI.shapeN (n := nn) p2 l2
      exact hK.out _ _ hw ⟨hS'.1.trans hw, (hS'.2.1.keep hbz).mono (by omega), ⟨within_at (hS'.1.trans hw) z_0_0 (.inr (by omega)), within_at (hS'.1.trans hw) z_0_1 (.inr (by omega)), within_at (hS'.1.trans hw) z_0_2 (.inr (by omega))⟩⟩ ⟨xa, xc, ya, yc, la, lb, rfl, p1.mono (by omega), p2.mono (by omega), l1, l2⟩
    refine chainQ_nil (fun u2 hS' => ?_)
    simp only [allP, Act.put, List.setIfInBounds_toArray, List.set_cons_zero, List.set_cons_succ]
    intro x7 hx7
    intro x6 hx6
    intro x4 hx4
    replace hS' : DrawS w0 u1 g _ 20000 _ 8 u2 := hS'
    obtain ⟨hw, hc, hC⟩ := hS'
    have hsz2 := hw.size
    replace HZg := Lib.hid (HZg.out.kept hw (.inr (by omega)))
    replace HX0 := Lib.hid (HX0.out.kept hw (.inr (by omega)))
    replace HW := Lib.hid (HW.out.trans hw)
    replace HC := Lib.hid hc
    clear hc hw hC
    clear z_0_0 z_0_1 z_0_2 z_1_0 z_1_1
    clear hx4 hx6
    obtain ⟨xa, xc, ya, yc, la, lb, rfl, ho1, ho2, hl1, hl2⟩ := hx7
    have HSA := Lib.hid ho1
    have HSB := Lib.hid ho2
    have HLA : Hid (la.length ≤ 7) := by unfold Hid; omega
    have HLB : Hid (1 ≤ lb.length ∧ lb.length ≤ 7) := by unfold Hid; omega
    clear ho1 ho2
    have r_HX0_0 := HX0.out.cell (i := 0) rfl
    have r_HX0_1 := HX0.out.cell (i := 1) rfl
    have fr_HX0 := fun j => HX0.out.frozen j
    go_wp2_with fail
    refine NoPanic.normal ?_
    have FHX0 := Lib.hid ((HX0.out.set 0 (.slice xa tt xc)).set 1 (.slice ya nn yc))
    clear r_HX0_0 r_HX0_1 fr_HX0
    have t_HX0_0 := FHX0.out.cell (i := 0) rfl
    have t_HX0_1 := FHX0.out.cell (i := 1) rfl
    try (go_wp2_with fail)
    refine bodyPost_ret (v := .agg #[.slice xa tt xc, .slice ya nn yc]) (by simp [results, Tryz.results23, go_sem, t_HX0_0, t_HX0_1]) rfl ⟨⟨_, _, _, _, rfl, ⟨((HSA.out.other (b := w.heap.size + 1) (by omega) 0 (.slice xa tt xc)).other (b := w.heap.size + 1) (by omega) 1 (.slice ya nn yc)).mono (by omega), HLA.out⟩, ⟨((HSB.out.other (b := w.heap.size + 1) (by omega) 0 (.slice xa tt xc)).other (b := w.heap.size + 1) (by omega) 1 (.slice ya nn yc)).mono (by omega), HLB.out⟩⟩, ((HC.out.setNew (b := w.heap.size + 1) (by omega) 0 (.slice xa tt xc)).setNew (b := w.heap.size + 1) (by omega) 1 (.slice ya nn yc)).mono (by omega), (((HWw.out.trans HW.out).setNew (b := w.heap.size + 1) (by omega) 0 (.slice xa tt xc)).setNew (b := w.heap.size + 1) (by omega) 1 (.slice ya nn yc))⟩
end Go.Proofs.YtacpnphfopmofaaGreat
