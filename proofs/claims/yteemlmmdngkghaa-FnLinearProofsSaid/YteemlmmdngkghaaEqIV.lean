/- The laws' comparisons of lists and proofs: walks (printed by gen_eqi.py). -/
import Derived.Test.YteemlmmdngkghaaSpoilV
namespace Go.Proofs.Yteemlmmdngkghaa
open Go.RowKit
set_option linter.unusedSimpArgs false
set_option linter.unusedVariables false
set_option maxRecDepth 100000 in
set_option maxHeartbeats 1000000 in
theorem laws_qInts (v1 v2 : Value) (l : List Int) (w : World) (h1 : Ints w v1 l) (h2 : Ints w v2 l) :
    Calls Try.prog 81 #[v1, v2] w fun e w' => e = .returned (.bool true) ∧ Below w.heap.size w w' := by
  obtain ⟨a1, n, c1, rfl⟩ := h1.shape
  obtain ⟨a2, n2, c2, rfl⟩ := h2.shape
  have e1 := h1.len
  have e2 := h2.len
  obtain ⟨k1, k2⟩ := h1.capMax
  unfold maxLen at k2
  obtain rfl : n = n2 := by omega
  have HE := Lib.hid e1
  clear e1 e2
  have H1 := Lib.hid h1
  have H2 := Lib.hid h2
  clear h1 h2
  have hnn : ((n : Int) == (n : Int)) = true := by simp
  go_enter Try.func81, Try.ntmps81
  go_wp2_with fail
  go_loopg [13] n (fun gh iv wr => ∃ k : Nat, k + gh = n ∧ iv = .int .i64 k ∧ Below w.heap.size w wr)
  case atStart => exact ⟨0, by omega, rfl, Below.refl _ _⟩
  case round =>
    obtain ⟨k, hkg, rfl, hb⟩ := hrel
    by_cases hlt : k < n
    · obtain ⟨b1, o1, rfl, hc1⟩ := H1.out.at_ (by omega)
      obtain ⟨b2, o2, rfl, hc2⟩ := H2.out.at_ (by omega)
      have y0 := box_at (hc1 k hlt) hb
      have y1 := box_at (hc2 k hlt) hb
      clear hc1 hc2
      generalize nth l k = x at y0 y1
      have hc : Below wr.heap.size wr wr := Below.refl _ _
      have HB := Lib.hid hb
      clear hb
      have b0 : (0 : Int) ≤ (k : Int) := by omega
      have bk1 : (k : Int) < (n : Int) := by omega
      have xa : (x == x) = true := by simp
      have hwk : IntKind.i64.wrap ((k : Int) + 1) = (k : Int) + 1 := IntWalk.i64_in _ (by omega)
      go_wp2_with fail
      try (go_wp2_with fail)
      refine wp_region_noPanic ?_
      refine wp_region_P (fun w' => w'.cell? ⟨b1, o1 + k, none⟩ = some (.int .i64 x) ∧ w'.cell? ⟨b2, o2 + k, none⟩ = some (.int .i64 x)) 11 [(0, []), (1, []), (2, [1, 0]), (3, [0]), (4, []), (5, []), (6, [1, 0]), (7, [0]), (8, [4, 0])] [] (by kernel_rfl) (by kernel_rfl) (by kernel_rfl) rfl (fun _ _ _ _ h => h) (fun w' h => ⟨box_at y0 h, box_at y1 h⟩) ?_
      simp only [pickP, pickN, List.getElem?_cons_zero, List.getElem?_cons_succ]
      iterate 9 (refine' chainP_read _ rfl rfl (fun w' hS' => ?_) ?_; rotate_left; · (simp only [lookP, allP, Act.put, List.getElem?_cons_zero, List.getElem?_cons_succ, List.setIfInBounds_toArray, List.set_cons_zero, List.set_cons_succ]; (try dsimp only at hS'); go_simp; (try with_reducible rfl)))
      refine chainP_nil (fun ua hS' => ?_)
      simp only [allP, Act.put, List.setIfInBounds_toArray, List.set_cons_zero, List.set_cons_succ]
      have hq1 := hS'.1
      clear hS'
      replace hc := Below.next hc hq1
      replace y0 := box_at y0 hq1
      replace y1 := box_at y1 hq1
      clear hq1
      clear y0 y1
      go_wp2_with fail
      refine NoPanic.normal ?_
      go_wp2_with fail
      go_roundg (n - (k + 1))
      case measure => omega
      case rel => exact ⟨k + 1, by omega, by go_num, HB.out.trans (hc.mono HB.out.size)⟩
    · obtain rfl : n = k := by omega
      have HB := Lib.hid hb
      clear hb
      go_wp2_with fail
      go_ret
      exact ⟨rfl, HB.out⟩
set_option maxRecDepth 100000 in
set_option maxHeartbeats 2000000 in
theorem laws_qProof (pv qv : Value) (d : ProofD) (w : World) (hp : PfR w pv d) (hq : PfR w qv d) :
    Calls Try.prog 37 #[pv, qv] w fun e w' => e = .returned (.bool true) ∧ Below w.heap.size w w' := by
  obtain ⟨xcv, xhv, xrv, rfl, hxc, hxh, hxr⟩ := hp
  obtain ⟨xca, xcn, xcc, rfl⟩ := hxc.shape
  have Exc := Lib.hid hxc.len
  have Kxc := Lib.hid hxc.capMax
  have Hxc := Lib.hid hxc
  clear hxc
  obtain ⟨xha, xhn, xhc, rfl⟩ := hxh.shape
  have Exh := Lib.hid hxh.len
  have Kxh := Lib.hid hxh.capMax
  have Hxh := Lib.hid hxh
  clear hxh
  obtain ⟨xra, xrn, xrc, rfl⟩ := hxr.shape
  have Exr := Lib.hid hxr.len
  have Kxr := Lib.hid hxr.capMax
  have Hxr := Lib.hid hxr
  clear hxr
  obtain ⟨ycv, yhv, yrv, rfl, hyc, hyh, hyr⟩ := hq
  obtain ⟨yca, ycn, ycc, rfl⟩ := hyc.shape
  have Eyc := Lib.hid hyc.len
  have Kyc := Lib.hid hyc.capMax
  have Hyc := Lib.hid hyc
  clear hyc
  obtain ⟨yha, yhn, yhc, rfl⟩ := hyh.shape
  have Eyh := Lib.hid hyh.len
  have Kyh := Lib.hid hyh.capMax
  have Hyh := Lib.hid hyh
  clear hyh
  obtain ⟨yra, yrn, yrc, rfl⟩ := hyr.shape
  have Eyr := Lib.hid hyr.len
  have Kyr := Lib.hid hyr.capMax
  have Hyr := Lib.hid hyr
  clear hyr
  obtain ⟨W, hW⟩ : ∃ W, W = (w.alloc (.cells #[(.slice xca xcn xcc), (.slice xha xhn xhc), (.slice xra xrn xrc)] 63)).alloc (.cells #[(.slice yca ycn ycc), (.slice yha yhn yhc), (.slice yra yrn yrc)] 63) := ⟨_, rfl⟩
  have HB : Hid (Below w.heap.size w W) := by unfold Hid; rw [hW]; (repeat (first | exact Below.refl _ _ | assumption | refine Below.drew ?_ | refine Below.alloc ?_ (by first | (simp; done) | (simp; omega)) _ | refine Below.setCell ?_ (by first | (simp; done) | (simp; omega)) _))
  have c0_0 : W.cell? ⟨w.heap.size, 0, none⟩ = some ((.slice xca xcn xcc)) := by rw [hW]; simp [go_sem]
  have c0_1 : W.cell? ⟨w.heap.size, 1, none⟩ = some ((.slice xha xhn xhc)) := by rw [hW]; simp [go_sem]
  have c0_2 : W.cell? ⟨w.heap.size, 2, none⟩ = some ((.slice xra xrn xrc)) := by rw [hW]; simp [go_sem]
  have c1_0 : W.cell? ⟨w.heap.size + 1, 0, none⟩ = some ((.slice yca ycn ycc)) := by rw [hW]; simp [go_sem]
  have c1_1 : W.cell? ⟨w.heap.size + 1, 1, none⟩ = some ((.slice yha yhn yhc)) := by rw [hW]; simp [go_sem]
  have c1_2 : W.cell? ⟨w.heap.size + 1, 2, none⟩ = some ((.slice yra yrn yrc)) := by rw [hW]; simp [go_sem]
  have HSW : Hid (W.heap.size = w.heap.size + 2) := by unfold Hid; rw [hW]; simp
  go_enter Try.func37, Try.ntmps37
  go_wp2_with fail
  rw [← hW]
  have hse : w.heap.size + 1 + 1 = W.heap.size := by have := HSW.out; omega
  (try rw [hse])
  clear hse
  clear hW
  have hc : Below W.heap.size W W := Below.refl _ _
  have HCC : Hid (∀ u, Below W.heap.size W u → u.cell? ⟨w.heap.size, 0, none⟩ = some ((.slice xca xcn xcc)) ∧ u.cell? ⟨w.heap.size, 1, none⟩ = some ((.slice xha xhn xhc)) ∧ u.cell? ⟨w.heap.size, 2, none⟩ = some ((.slice xra xrn xrc)) ∧ u.cell? ⟨w.heap.size + 1, 0, none⟩ = some ((.slice yca ycn ycc)) ∧ u.cell? ⟨w.heap.size + 1, 1, none⟩ = some ((.slice yha yhn yhc)) ∧ u.cell? ⟨w.heap.size + 1, 2, none⟩ = some ((.slice yra yrn yrc))) := fun u h => ⟨box_at c0_0 h, box_at c0_1 h, box_at c0_2 h, box_at c1_0 h, box_at c1_1 h, box_at c1_2 h⟩
  go_wp2_with fail
  refine (laws_qInts _ _ d.c _ (Hxc.out.below (HB.out.trans (hc.mono HB.out.size))) (Hyc.out.below (HB.out.trans (hc.mono HB.out.size)))).mono ?_
  rintro e u1 ⟨rfl, hq1⟩
  replace hc := Below.next hc hq1
  clear hq1 c0_0 c0_1 c0_2 c1_0 c1_1 c1_2
  obtain ⟨c0_0, c0_1, c0_2, c1_0, c1_1, c1_2⟩ := HCC.out _ hc
  go_wp2_with fail
  refine (laws_qInts _ _ d.h _ (Hxh.out.below (HB.out.trans (hc.mono HB.out.size))) (Hyh.out.below (HB.out.trans (hc.mono HB.out.size)))).mono ?_
  rintro e u2 ⟨rfl, hq2⟩
  replace hc := Below.next hc hq2
  clear hq2 c0_0 c0_1 c0_2 c1_0 c1_1 c1_2
  obtain ⟨c0_0, c0_1, c0_2, c1_0, c1_1, c1_2⟩ := HCC.out _ hc
  go_wp2_with fail
  refine (laws_qInts _ _ d.r _ (Hxr.out.below (HB.out.trans (hc.mono HB.out.size))) (Hyr.out.below (HB.out.trans (hc.mono HB.out.size)))).mono ?_
  rintro e u3 ⟨rfl, hq3⟩
  replace hc := Below.next hc hq3
  clear hq3 c0_0 c0_1 c0_2 c1_0 c1_1 c1_2
  obtain ⟨c0_0, c0_1, c0_2, c1_0, c1_1, c1_2⟩ := HCC.out _ hc
  go_wp2_with fail
  go_ret
  exact ⟨rfl, HB.out.trans (hc.mono HB.out.size)⟩
end Go.Proofs.Yteemlmmdngkghaa
