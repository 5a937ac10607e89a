/- Key generation: the qualified dealers (printed by gen_kg2.py). -/
import Derived.Test.YtacpnphfopmofaaKg1KG
import Derived.Deep.Cut
import Derived.Test.YtacpnphfopmofaaPolLKG
namespace Go.Proofs.Ytacpnphfopmofaa
open Go.RowKit
set_option linter.unusedSimpArgs false
set_option linter.unusedVariables false

theorem RdL.below {δ : Type} {K : Kind δ} {w w' : World} {v : Value} {ds : List δ} (h : RdL K w v ds) (hb : Below w.heap.size w w') : RdL K w' v ds := (kList 42 K).rd_below h hb
theorem kq_step {gr : GroupD} {l : List DealingD} {an : List (List Int)} {k : Nat} {os : List Int} {Z : DealingD} {OW : List Int} (hO : kqL gr l an k = os) (hZ : atD l k = Z) (hW : atR an k = OW) (q : Bool) (hq : qdB gr Z OW = q) : kqL gr l an (k + 1) = (if q = true then os ++ [(k : Int) + 1] else os) := by
  subst hO hZ hW hq
  rfl
theorem atR_eq {an : List (List Int)} {k : Nat} (h : k < an.length) : atR an k = an[k] := by simp [atR, List.getD, h]
set_option maxRecDepth 100000 in
set_option maxHeartbeats 4000000 in
theorem impl_qualified (gr : GroupD) (lv : Value) (l : List DealingD) (av : Value) (an : List (List Int)) (w : World) (hg : OkG gr) (hl : RdR rDealing w lv l) (ha : RdL kInts w av an) (hd : ∀ d ∈ l, deB gr d = true) (hn : an.length = l.length) (h7 : l.length ≤ 7) :
    Calls Try.prog 131 #[.agg #[.int .i64 gr.p, .int .i64 gr.q, .int .i64 gr.g], lv, av] w fun e w' => (∃ v', e = .returned v' ∧ OwnI w' w.heap.size v' (kqE gr l an)) ∧ Below w.heap.size w w' := by
  have HG := Lib.hid hg
  have HDE := Lib.hid hd
  have HNN := Lib.hid hn
  clear hg hd hn
  obtain ⟨lva, lvn, lvc, rfl⟩ := hl.shape
  have Elv := Lib.hid hl.len
  have Klv := Lib.hid hl.capMax
  have Hlv := Lib.hid hl
  clear hl
  obtain ⟨ava, avn, avc, rfl⟩ := ha.shape
  have Eav := Lib.hid ha.len
  have Kav := Lib.hid ha.capMax
  have Hav := Lib.hid ha
  clear ha
  obtain ⟨W, hW⟩ : ∃ W, W = w.alloc (.cells #[.int .i64 gr.p, .int .i64 gr.q, .int .i64 gr.g] 24) := ⟨_, rfl⟩
  have HB : Hid (Below w.heap.size w W) := by unfold Hid; rw [hW]; (repeat (first | exact Below.refl _ _ | assumption | refine Below.drew ?_ | refine Below.alloc ?_ (by first | (simp; done) | (simp; omega)) _ | refine Below.setCell ?_ (by first | (simp; done) | (simp; omega)) _))
  have c0_0 : W.cell? ⟨w.heap.size, 0, none⟩ = some (.int .i64 gr.p) := by rw [hW]; simp [go_sem]
  have c0_1 : W.cell? ⟨w.heap.size, 1, none⟩ = some (.int .i64 gr.q) := by rw [hW]; simp [go_sem]
  have c0_2 : W.cell? ⟨w.heap.size, 2, none⟩ = some (.int .i64 gr.g) := by rw [hW]; simp [go_sem]
  have HSW : Hid (W.heap.size = w.heap.size + 1) := by unfold Hid; rw [hW]; simp
  go_enter Try.func131, Try.ntmps131
  go_wp2_with fail
  rw [← hW]
  have hse : w.heap.size + 1 = W.heap.size := by have := HSW.out; omega
  (try rw [hse])
  clear hse
  clear hW
  have hc : Below W.heap.size W W := Below.refl _ _
  have HCC : Hid (∀ u, Below W.heap.size W u → u.cell? ⟨w.heap.size, 0, none⟩ = some (.int .i64 gr.p) ∧ u.cell? ⟨w.heap.size, 1, none⟩ = some (.int .i64 gr.q) ∧ u.cell? ⟨w.heap.size, 2, none⟩ = some (.int .i64 gr.g)) := fun u h => ⟨box_at c0_0 h, box_at c0_1 h, box_at c0_2 h⟩
  obtain ⟨uE, rfl⟩ : ∃ z, z = W := ⟨_, rfl⟩
  have hl7 : lvn ≤ 7 := by have := Elv.out; omega
  have hln : avn = lvn := by have := Elv.out; have := Eav.out; have := HNN.out; omega
  have HBS := Lib.hid (HB.out.trans (hc.mono HB.out.size))
  have HWS := Lib.hid hc
  obtain ⟨V0, hV0⟩ : ∃ V, V = uE.alloc (.cells #[] 3) := ⟨_, rfl⟩
  have HO0 : Hid (OwnI V0 uE.heap.size (.slice (some ⟨uE.heap.size, 0, none⟩) 0 0) (kqL gr l an 0)) := by unfold Hid; rw [hV0]; exact OwnI.lit (B := uE.heap.size) uE (Nat.le_refl _) AllI64.nil rfl (by simp) 0 rfl
  have HB0 : Hid (Below uE.heap.size uE V0) := by unfold Hid; rw [hV0]; (repeat (first | exact Below.refl _ _ | assumption | refine Below.drew ?_ | refine Below.alloc ?_ (by first | (simp; done) | (simp; omega)) _ | refine Below.setCell ?_ (by first | (simp; done) | (simp; omega)) _))
  have l_c0_0 := World.block_lt_of_cell? uE _ c0_0
  have l_c0_1 := World.block_lt_of_cell? uE _ c0_1
  have l_c0_2 := World.block_lt_of_cell? uE _ c0_2
  go_wp2_with fail
  rw [← hV0]
  clear hV0 l_c0_0 l_c0_1 l_c0_2
  clear hc c0_0 c0_1 c0_2
  obtain ⟨c0_0, c0_1, c0_2⟩ := HCC.out V0 (Below.next HWS.out HB0.out)
  (try (go_wp2_with fail))
  clear c0_0 c0_1 c0_2
  go_loopg [7, 13] lvn (fun gk ov iv wr => ∃ (k : Nat) (ov' : Value), k + gk = lvn ∧ iv = .int .i64 (k : Int) ∧ Hid (ov = ov') ∧ Hid (OwnI wr uE.heap.size ov' (kqL gr l an k)) ∧ Hid (Below uE.heap.size uE wr))
  case atStart => exact ⟨0, _, by omega, rfl, Lib.hid rfl, HO0, HB0⟩
  case round =>
    clear HO0 HB0
    obtain ⟨k, ov, hkg, rfl, HEQ, HO, HBr⟩ := hrel
    obtain rfl := HEQ.out
    clear HEQ
    have HBW := Lib.hid (HBS.out.trans (HBr.out.mono HBS.out.size))
    have hsr := HBr.out.size
    have HON := Lib.hid (kql_len gr l an k)
    obtain ⟨os, hos⟩ : ∃ z, kqL gr l an k = z := ⟨_, rfl⟩
    rw [hos] at HO HON
    have HOS := Lib.hid hos
    clear hos
    obtain ⟨on, hon⟩ : ∃ z, os.length = z := ⟨_, rfl⟩
    obtain ⟨oa, oc, rfl⟩ := HO.out.shapeN (n := on) hon
    have HOL := Lib.hid hon
    have hon7 : on ≤ k := by have := HON.out; omega
    clear hon
    have cc := HCC.out wr (Below.next HWS.out HBr.out)
    by_cases hlt : k < lvn
    · have hgk : lvn - (k + 1) < gk := by omega
      have hb : decide ((k : Int) < (lvn : Int)) = true := decide_eq_true (by omega)
      have hb2 : decide (k < lvn) = true := decide_eq_true hlt
      have HK : Hid (k < l.length) := by unfold Hid; have := Elv.out; omega
      have HK2 : Hid (k < an.length) := by unfold Hid; have := Eav.out; omega
      obtain ⟨bz, oz, zca, zcn, zcc, zsa, zsn, zsc, e, K2, K3, f0, f1⟩ := RdDl.get Hlv.out HK.out
      have e' := e
      subst e'
      clear e
      obtain ⟨ba, oa2, hba, vs, hrv⟩ := Hav.out.at_ (by omega)
      have hba' := hba
      subst hba'
      clear hba
      have hra := hrv k HK2.out
      obtain ⟨vr, hvr⟩ : ∃ z, vs k = z := ⟨_, rfl⟩
      rw [hvr] at hra
      obtain ⟨hcr, hir⟩ := hra
      replace hir : Ints w vr (an[k]'HK2.out) := hir
      clear hvr hrv
      have HDD := Lib.hid (HDE.out _ (List.getElem_mem HK.out))
      have hat := atD_eq HK.out
      have har := atR_eq HK2.out
      have HST : Hid (∀ q : Bool, qdB gr (atD l k) (atR an k) = q → kqL gr l an (k + 1) = (if q = true then os ++ [(k : Int) + 1] else os)) := fun q hq => kq_step HOS.out rfl rfl q hq
      rw [← hat] at HDD f0 f1
      rw [← har] at hir
      clear hat har
      obtain ⟨Z, hZ⟩ : ∃ z, atD l k = z := ⟨_, rfl⟩
      obtain ⟨OW, hOW⟩ : ∃ z, atR an k = z := ⟨_, rfl⟩
      rw [hZ] at HDD f0 f1 HST
      rw [hOW] at hir HST
      clear hZ hOW
      obtain ⟨ra, rn, rc, rfl⟩ := hir.shape
      have Hzc := Lib.hid f0
      have Hzs := Lib.hid f1
      have Hrw := Lib.hid hir
      have KR := Lib.hid hcr
      clear f0 f1 hir hcr
      have b0 : (0 : Int) ≤ (k : Int) := by omega
      have bk1 : (k : Int) < (avn : Int) := by omega
      have bk2 : (k : Int) < (lvn : Int) := by omega
      have hwk : IntKind.i64.wrap ((k : Int) + 1) = (k : Int) + 1 := IntWalk.i64_in _ (by omega)
      have HKI : Hid (I64 ((k : Int) + 1)) := ⟨by omega, by omega⟩
      obtain ⟨R1, hR1⟩ : ∃ r, r = wr.heap.size := ⟨_, rfl⟩
      obtain ⟨V, hV⟩ : ∃ V, V = wr.alloc (.cells #[.slice zca zcn zcc, .slice zsa zsn zsc] 57) := ⟨_, rfl⟩
      have hbV : Below wr.heap.size wr V := by rw [hV]; exact (Below.refl _ _).alloc (Nat.le_refl _) _
      have HP1 : Hid (BoxN V R1 57 [.slice zca zcn zcc, .slice zsa zsn zsc]) := by unfold Hid; rw [hV, hR1]; exact BoxN.new wr _ _
      have z0 := box_at K2 HBW.out
      have z1 := box_at K3 HBW.out
      clear K2 K3
      obtain ⟨c0_0, c0_1, c0_2⟩ := cc
      go_upto_region 5 with fail
      rw [← hV, ← hR1]
      replace c0_0 := box_at c0_0 hbV
      replace c0_1 := box_at c0_1 hbV
      replace c0_2 := box_at c0_2 hbV
      have HBV : Hid (Below w.heap.size w V) := HBW.out.trans (hbV.mono HBW.out.size)
      have HBrV := Lib.hid (HBr.out.trans (hbV.mono HBr.out.size))
      have HOV := Lib.hid (HO.out.below hbV)
      clear hV hbV z0 z1 hR1
      have p0 := HP1.out.cell (i := 0) rfl
      have p1 := HP1.out.cell (i := 1) rfl
      clear HP1
      have y1 := box_at KR.out HBV.out
      have HBN : Hid (Below w.heap.size w V) := HBV
      clear HB HCC
      (try clear hc)
      obtain ⟨W, rfl⟩ : ∃ z, z = V := ⟨_, rfl⟩
      have HB := HBN
      clear HBN
      have hc : Below W.heap.size W W := Below.refl _ _
      have HCC : Hid (∀ u, Below W.heap.size W u → u.cell? ⟨w.heap.size, 0, none⟩ = some (.int .i64 gr.p) ∧ u.cell? ⟨w.heap.size, 1, none⟩ = some (.int .i64 gr.q) ∧ u.cell? ⟨w.heap.size, 2, none⟩ = some (.int .i64 gr.g) ∧ u.cell? ⟨R1, 0, none⟩ = some ((.slice zca zcn zcc)) ∧ u.cell? ⟨R1, 1, none⟩ = some ((.slice zsa zsn zsc)) ∧ u.cell? ⟨ba, oa2 + k, none⟩ = some ((.slice ra rn rc))) := fun u h => ⟨box_at c0_0 h, box_at c0_1 h, box_at c0_2 h, box_at p0 h, box_at p1 h, box_at y1 h⟩
      clear HBV HBW
      try (go_wp2_with fail)
      refine wp_region_noPanic ?_
      refine wp_region_P (fun w' => w'.cell? ⟨w.heap.size, 0, none⟩ = some (.int .i64 gr.p) ∧ w'.cell? ⟨w.heap.size, 1, none⟩ = some (.int .i64 gr.q) ∧ w'.cell? ⟨w.heap.size, 2, none⟩ = some (.int .i64 gr.g) ∧ w'.cell? ⟨R1, 0, none⟩ = some ((.slice zca zcn zcc)) ∧ w'.cell? ⟨R1, 1, none⟩ = some ((.slice zsa zsn zsc)) ∧ w'.cell? ⟨ba, oa2 + k, none⟩ = some ((.slice ra rn rc))) 9 [(0, []), (1, []), (2, []), (3, []), (4, [1, 0]), (5, [0]), (6, [5, 4, 0])] [] (by kernel_rfl) (by kernel_rfl) (by kernel_rfl) rfl (fun _ _ _ _ h => h) (fun w' h => ⟨box_at c0_0 h, box_at c0_1 h, box_at c0_2 h, box_at p0 h, box_at p1 h, box_at y1 h⟩) ?_
      simp only [pickP, pickN, List.getElem?_cons_zero, List.getElem?_cons_succ]
      iterate 6 (refine' chainP_read _ rfl rfl (fun w' hS' => ?_) ?_; rotate_left; · (simp only [lookP, allP, Act.put, List.getElem?_cons_zero, List.getElem?_cons_succ, List.setIfInBounds_toArray, List.set_cons_zero, List.set_cons_succ]; (try dsimp only at hS'); go_simp; (try with_reducible rfl)))
      -- 6: call { callee := value (func 181), args := #[t18, t19, t23], argTypes := #[24, 57, 42] }
      refine chainP_call (d := (some 24)) (.bool (qdB gr Z OW)) rfl rfl (fun w' hS' => ?_) ?_
      · simp only [lookP, allP, Act.put, List.getElem?_cons_zero, List.getElem?_cons_succ, List.setIfInBounds_toArray, List.set_cons_zero, List.set_cons_succ]
        intro K hK
        go_simp
        go_at_call 181
        refine (impl_isQualified gr _ Z _ OW _ HG.out (DlR.mk ((Hzc.out.below (HB.out.trans (hc.mono HB.out.size))).below hS'.1) ((Hzs.out.below (HB.out.trans (hc.mono HB.out.size))).below hS'.1)) ((Hrw.out.below (HB.out.trans (hc.mono HB.out.size))).below hS'.1) HDD.out).mono ?_
        rintro e u ⟨rfl, hq⟩
        exact hK.out _ hq
      refine chainP_nil (fun u1 hS' => ?_)
      simp only [allP, Act.put, List.setIfInBounds_toArray, List.set_cons_zero, List.set_cons_succ]
      have hq1 := hS'.1
      clear hS'
      replace hc := Below.next hc hq1
      clear hq1 c0_0 c0_1 c0_2 p0 p1 y1
      obtain ⟨c0_0, c0_1, c0_2, p0, p1, y1⟩ := HCC.out _ hc
      go_wp2_with fail
      refine NoPanic.normal ?_
      cases hc1 : qdB gr Z OW with
      | false =>
        have Hhc1 := Lib.hid hc1
        clear hc1
        have HSQ := Lib.hid (HST.out false Hhc1.out)
        have HOZ := Lib.hid (HOV.out.below hc)
        have HBZ := Lib.hid (HBrV.out.trans (hc.mono HBrV.out.size))
        go_wp2_with fail
        clear c0_0 c0_1 c0_2 p0 p1 y1
        go_roundg (lvn - (k + 1))
        case measure => exact hgk
        case rel => exact ⟨k + 1, _, by omega, by go_num, Lib.hid rfl, by unfold Hid; rw [HSQ.out]; exact HOZ.out, HBZ⟩
      | true =>
        have Hhc1 := Lib.hid hc1
        clear hc1
        have HSQ := Lib.hid (HST.out true Hhc1.out)
        have HOZ := Lib.hid (HOV.out.below hc)
        have HBZ := Lib.hid (HBrV.out.trans (hc.mono HBrV.out.size))
        have hszz : uE.heap.size ≤ u1.heap.size := HBZ.out.size
        go_wp2_with (at_builtin; refine wpList_append_intsN rfl _ _ rfl uE.heap.size (.slice oa on oc) _ os [(k : Int) + 1] rfl (HOZ.out.below ((Below.refl _ _).alloc (Nat.le_refl _) _)) rfl (Ints.lit1 _ HKI.out) (by have := HOL.out; simp; omega) (by simp; omega) (on + 1) (by have := HOL.out; simp; omega) ?_; intro a9 c9 w9 hown9 hgr9; have HO9 := Lib.hid hown9; have hb9 := (HOZ.out.below ((Below.refl u1.heap.size u1).alloc (Nat.le_refl _) (.cells #[.int .i64 ((k : Int) + 1)] 3))).grown hgr9 (by simp; omega); have HB9 : Hid (Below uE.heap.size uE w9) := (HBZ.out.trans ((Below.refl _ _).alloc (by omega) _)).trans hb9; clear hown9 hgr9 hb9 c0_0 c0_1 c0_2 p0 p1 y1)
        go_roundg (lvn - (k + 1))
        case measure => exact hgk
        case rel => exact ⟨k + 1, _, by omega, by go_num, Lib.hid rfl, by unfold Hid; rw [HSQ.out]; exact HO9.out, HB9⟩
    · obtain rfl : lvn = k := by omega
      have hb : decide ((lvn : Int) < (lvn : Int)) = false := decide_eq_false (by omega)
      have hb2 : decide (lvn < lvn) = false := decide_eq_false (by omega)
      clear cc
      go_wp2_with fail
      go_ret
      exact ⟨⟨_, rfl, by unfold kqE; rw [Elv.out, HOS.out]; exact HO.out.mono HBS.out.size⟩, HBW.out⟩
end Go.Proofs.Ytacpnphfopmofaa
namespace Go.Proofs.Ytacpnphfopmofaa
open Go.RowKit
set_option linter.unusedSimpArgs false
set_option linter.unusedVariables false

/-- a dealing and a Bool are returned; the dealing is the call's own, if the Bool is true -/
def RetMn (e : Ending) (w : World) (B : Nat) (b : Bool) (d : DealingD) : Prop := ∃ (a1 : Option Addr) (n1 c1 : Nat) (a2 : Option Addr) (n2 c2 : Nat), e = .returned (.tuple #[.agg #[.slice a1 n1 c1, .slice a2 n2 c2], .bool b]) ∧ (b = true → OwnI w B (.slice a1 n1 c1) d.c ∧ OwnI w B (.slice a2 n2 c2) d.s)
theorem RetMn.no {w : World} {B : Nat} {a1 a2 : Option Addr} {n1 c1 n2 c2 : Nat} {d : DealingD} : RetMn (.returned (.tuple #[.agg #[.slice a1 n1 c1, .slice a2 n2 c2], .bool false])) w B false d := ⟨a1, n1, c1, a2, n2, c2, rfl, fun h => Bool.noConfusion h⟩
theorem RetMn.yes {w : World} {B : Nat} {a1 a2 : Option Addr} {n1 c1 n2 c2 : Nat} {d : DealingD} (h1 : OwnI w B (.slice a1 n1 c1) d.c) (h2 : OwnI w B (.slice a2 n2 c2) d.s) : RetMn (.returned (.tuple #[.agg #[.slice a1 n1 c1, .slice a2 n2 c2], .bool true])) w B true d := ⟨a1, n1, c1, a2, n2, c2, rfl, fun _ => ⟨h1, h2⟩⟩
set_option maxRecDepth 100000 in
set_option maxHeartbeats 2000000 in
theorem spec_kgMended (gr : GroupD) (pv : Value) (d : DealingD) (ov : Value) (own : List Int) (w : World) (hg : OkG gr) (hp : DlR w pv d) (hown : Ints w ov own) (hd : deB gr d = true) :
    Calls Try.prog 204 #[.agg #[.int .i64 gr.p, .int .i64 gr.q, .int .i64 gr.g], pv, ov] w fun e w' => RetMn e w' w.heap.size (qdB gr d own) (mnD gr d own) ∧ Below w.heap.size w w' := by
  have HG := Lib.hid hg
  clear hg
  have HDB := Lib.hid hd
  have HDP := Lib.hid (deB_parts hd)
  have HEL := Lib.hid (cms_small HG.out (deB_parts hd).2.1)
  clear hd
  obtain ⟨xcv, xsv, rfl, hxc, hxs⟩ := hp
  obtain ⟨xca, xcn, xcc, rfl⟩ := hxc.shape
  have Exc := Lib.hid hxc.len
  have Kxc := Lib.hid hxc.capMax
  have Hxc := Lib.hid hxc
  clear hxc
  obtain ⟨xsa, xsn, xsc, rfl⟩ := hxs.shape
  have Exs := Lib.hid hxs.len
  have Kxs := Lib.hid hxs.capMax
  have Hxs := Lib.hid hxs
  clear hxs
  obtain ⟨ova, ovn, ovc, rfl⟩ := hown.shape
  have Eov := Lib.hid hown.len
  have Kov := Lib.hid hown.capMax
  have Hov := Lib.hid hown
  clear hown
  obtain ⟨W, hW⟩ : ∃ W, W = ((w.alloc (.cells #[.int .i64 gr.p, .int .i64 gr.q, .int .i64 gr.g] 24)).alloc (.cells #[(.slice xca xcn xcc), (.slice xsa xsn xsc)] 57)).alloc (.cells #[(.slice none 0 0), (.slice none 0 0)] 57) := ⟨_, rfl⟩
  have HB : Hid (Below w.heap.size w W) := by unfold Hid; rw [hW]; (repeat (first | exact Below.refl _ _ | assumption | refine Below.drew ?_ | refine Below.alloc ?_ (by first | (simp; done) | (simp; omega)) _ | refine Below.setCell ?_ (by first | (simp; done) | (simp; omega)) _))
  have c0_0 : W.cell? ⟨w.heap.size, 0, none⟩ = some (.int .i64 gr.p) := by rw [hW]; simp [go_sem]
  have c0_1 : W.cell? ⟨w.heap.size, 1, none⟩ = some (.int .i64 gr.q) := by rw [hW]; simp [go_sem]
  have c0_2 : W.cell? ⟨w.heap.size, 2, none⟩ = some (.int .i64 gr.g) := by rw [hW]; simp [go_sem]
  have c1_0 : W.cell? ⟨w.heap.size + 1, 0, none⟩ = some ((.slice xca xcn xcc)) := by rw [hW]; simp [go_sem]
  have c1_1 : W.cell? ⟨w.heap.size + 1, 1, none⟩ = some ((.slice xsa xsn xsc)) := by rw [hW]; simp [go_sem]
  have HR2 : Hid (BoxN W (w.heap.size + 1 + 1) 57 [(.slice none 0 0), (.slice none 0 0)]) := by unfold Hid; rw [hW]; have h := (BoxN.new ((w.alloc (.cells #[.int .i64 gr.p, .int .i64 gr.q, .int .i64 gr.g] 24)).alloc (.cells #[(.slice xca xcn xcc), (.slice xsa xsn xsc)] 57)) [(.slice none 0 0), (.slice none 0 0)] 57); simpa using h
  have HSW : Hid (W.heap.size = w.heap.size + 3) := by unfold Hid; rw [hW]; simp
  have lr2 : w.heap.size + 1 + 1 < W.heap.size := by have := HSW.out; omega
  go_enter Try.func204, Try.ntmps204
  go_wp2_with fail
  rw [← hW]
  have hse : w.heap.size + 1 + 1 + 1 = W.heap.size := by have := HSW.out; omega
  (try rw [hse])
  clear hse
  clear hW
  have hc : Below W.heap.size W W := Below.refl _ _
  have HCC : Hid (∀ u, Below W.heap.size W u → u.cell? ⟨w.heap.size, 0, none⟩ = some (.int .i64 gr.p) ∧ u.cell? ⟨w.heap.size, 1, none⟩ = some (.int .i64 gr.q) ∧ u.cell? ⟨w.heap.size, 2, none⟩ = some (.int .i64 gr.g) ∧ u.cell? ⟨w.heap.size + 1, 0, none⟩ = some ((.slice xca xcn xcc)) ∧ u.cell? ⟨w.heap.size + 1, 1, none⟩ = some ((.slice xsa xsn xsc))) := fun u h => ⟨box_at c0_0 h, box_at c0_1 h, box_at c0_2 h, box_at c1_0 h, box_at c1_1 h⟩
  go_wp2_with fail
  refine (spec_sBadD gr _ d _ HG.out (DlR.mk (Hxc.out.below (HB.out.trans (hc.mono HB.out.size))) (Hxs.out.below (HB.out.trans (hc.mono HB.out.size)))) HDB.out).mono ?_
  rintro e u1 ⟨⟨vb, rfl, hob⟩, hq1⟩
  obtain ⟨ba, bc, rfl⟩ := OwnI.shapeN (n := (badE gr d).length) hob rfl
  have HOB := Lib.hid hob.ints
  clear hob
  obtain ⟨bn, hbn⟩ : ∃ z, (badE gr d).length = z := ⟨_, rfl⟩
  have HBN := Lib.hid hbn
  rw [hbn]
  rw [hbn] at HOB
  clear hbn
  replace hc := Below.next hc hq1
  clear hq1 c0_0 c0_1 c0_2 c1_0 c1_1
  obtain ⟨c0_0, c0_1, c0_2, c1_0, c1_1⟩ := HCC.out _ hc
  cases hc1 : decide ((xcn : Int) ≤ (bn : Int)) with
  | false =>
    have HT1 : Hid (decide (d.c.length ≤ (badE gr d).length) = false) := by have q := of_decide_eq_false hc1; have := Exc.out; have := HBN.out; unfold Hid; exact decide_eq_false (by omega)
    have hcp1 : ¬ xcn ≤ bn := by have q := of_decide_eq_false hc1; omega
    have hcn1 : decide (xcn ≤ bn) = false := decide_eq_false hcp1
    cases hc2 : ((ovn : Int) != (bn : Int)) with
    | false =>
      have HT2 : Hid (decide (own.length = (badE gr d).length) = true) := by have q := hc2; rw [bne_eq_false_iff_eq] at q; have := Eov.out; have := HBN.out; unfold Hid; exact decide_eq_true (by omega)
      have hob2 : ovn = bn := by have q := hc2; rw [bne_eq_false_iff_eq] at q; omega
      have HSS0 : Hid (∀ w', Below u1.heap.size u1 w' → w'.cell? ⟨w.heap.size + 1, 0, none⟩ = some (.slice xca xcn xcc) ∧ w'.cell? ⟨w.heap.size + 1, 1, none⟩ = some (.slice xsa xsn xsc)) := fun w' h => ⟨box_at c1_0 h, box_at c1_1 h⟩
      have HF10 : Hid (Ints u1 (.slice xca xcn xcc) d.c) := Hxc.out.below (HB.out.trans (hc.mono HB.out.size))
      have HF20 : Hid (Ints u1 (.slice xsa xsn xsc) d.s) := Hxs.out.below (HB.out.trans (hc.mono HB.out.size))
      go_upto_region 4 with fail
      obtain ⟨uE, rfl⟩ : ∃ z, z = u1 := ⟨_, rfl⟩
      clear c0_0 c0_1 c0_2 c1_0 c1_1
      go_cut [9] from 29 (fun v9 wx => ∃ q1 q2 bz, v9 = .pointer (some ⟨bz, 0, none⟩) ∧ Hid (SuS uE wx bz q1 q2 d.c d.s))
      case first =>
        have HSS : Hid (∀ w', Below uE.heap.size uE w' → w'.cell? ⟨w.heap.size + 1, 0, none⟩ = some (.slice xca xcn xcc) ∧ w'.cell? ⟨w.heap.size + 1, 1, none⟩ = some (.slice xsa xsn xsc)) := HSS0
        (try (go_wp2_with fail))
        refine wp_region_noPanic ?_
        refine wp_region_V (fun w' => w'.cell? ⟨w.heap.size + 1, 0, none⟩ = some (.slice xca xcn xcc) ∧ w'.cell? ⟨w.heap.size + 1, 1, none⟩ = some (.slice xsa xsn xsc)) 11 8 (.rd 0 (.rd 1 (.rd 3 (.rd 4 (.alt 2 (.alt 5 (.rd 6 (.alt 7 .done .nil)) (.alt 7 (.alt 5 (.rd 6 .done) .nil) .nil)) (.alt 7 (.alt 2 (.alt 5 (.rd 6 .done) .nil) .nil) .nil)))))) [8] (by kernel_rfl) (by kernel_rfl) rfl (fun _ _ _ _ _ h => h) (HSS.out _ (Below.refl _ _).drew) ?_
        simp only [pickV, pickN, List.getElem?_cons_zero, List.getElem?_cons_succ]
        iterate 4 (refine' wpV_read _ (by kernel_rfl) (fun w' hS' => ?_) ?_; rotate_left; (focus ((try dsimp only at hS'); go_simp; (try with_reducible rfl))); (try simp only [Act.put, List.setIfInBounds_toArray, List.set_cons_zero, List.set_cons_succ]))
        have hbw0 : Below uE.heap.size uE uE.drew := (Below.refl _ _).drew
        obtain ⟨x0', hx0'⟩ : ∃ u, u = uE.drew := ⟨_, rfl⟩
        rw [← hx0'] at hbw0 ⊢
        clear hx0'
        have HF1 := HF10
        have HF2 := HF20
        refine wpV_or (by kernel_rfl) (fun K hK => ?_) ?_
        · skip
          go_simp
          go_at_call 151
          refine (spec_l1Own _ d.c _ (HF1.out.below hbw0) (by have := HDP.out.1; omega)).mono ?_
          rintro e x1 ⟨q1, rfl, ho1, hb⟩
          obtain ⟨qa1, qc1, rfl⟩ := ho1.shapeN Exc.out
          have hsz1 := hb.size
          have hbw1 : Below uE.heap.size uE x1 := Below.next hbw0 hb
          have hol := ho1
          replace ho1 := ho1.mono (B' := uE.heap.size) (by have := hbw0.size; omega)
          clear hb
          refine hK.out _ _ (HSS.out _ hbw1) (fun _ => ?_)
          clear hK K
          (try simp only [Act.put, List.setIfInBounds_toArray, List.set_cons_zero, List.set_cons_succ])
          refine wpV_or (by kernel_rfl) (fun K hK => ?_) ?_
          · skip
            go_simp
            go_at_call 151
            refine (spec_l1Own _ d.s _ (HF2.out.below hbw1) (by have := HDP.out.1; omega)).mono ?_
            rintro e x2 ⟨q2, rfl, ho2, hb⟩
            obtain ⟨qa2, qc2, rfl⟩ := ho2.shapeN Exs.out
            have hsz2 := hb.size
            have hbw2 : Below uE.heap.size uE x2 := Below.next hbw1 hb
            have hlt := hol.lt
            have ho1 := ho1.below hb
            have hol := hol.below hb
            have hne : ∀ z, (Value.slice qa1 xcn qc1).ownBlock = some z → (Value.slice qa2 xsn qc2).ownBlock ≠ some z := fun z e1 e2 => by have h1 := (hlt z e1).2; have h2 := (ho2.lt z e2).1; omega
            have hol := ho2
            replace ho2 := ho2.mono (B' := uE.heap.size) (by have := hbw1.size; omega)
            clear hb
            refine hK.out _ _ (HSS.out _ hbw2) (fun _ => ?_)
            clear hK K
            (try simp only [Act.put, List.setIfInBounds_toArray, List.set_cons_zero, List.set_cons_succ])
            refine' wpV_read _ (by kernel_rfl) (fun w' hS' => ?_) ?_; rotate_left; (focus ((try dsimp only at hS'); go_simp; (try with_reducible rfl))); (try simp only [Act.put, List.setIfInBounds_toArray, List.set_cons_zero, List.set_cons_succ])
            refine wpV_do (by kernel_rfl) (fun K hK => ?_)
            obtain ⟨x3, hV⟩ : ∃ V, V = x2.alloc (.cells #[.slice none 0 0, .slice none 0 0] 57) := ⟨_, rfl⟩
            have hb : Below x2.heap.size x2 x3 := by rw [hV]; exact (Below.refl _ _).alloc (Nat.le_refl _) _
            have hbx : BoxN x3 x2.heap.size 57 [.slice none 0 0, .slice none 0 0] := by rw [hV]; exact BoxN.new x2 _ _
            have hbw3 : Below uE.heap.size uE x3 := Below.next hbw2 hb
            have hsz3 := hb.size
            have ho1 := ho1.below hb
            have hol := hol.below hb
            have ho2 := ho2.below hb
            go_simp
            rw [← hV]
            clear hV hb
            refine hK.out _ _ (HSS.out _ hbw3) (fun _ => ?_)
            clear hK K
            (try simp only [Act.put, List.setIfInBounds_toArray, List.set_cons_zero, List.set_cons_succ])
            refine wpV_done ?_
            have r0 := hbx.cell (i := 0) rfl
            have r1 := hbx.cell (i := 1) rfl
            have fr := fun j => hbx.frozen j
            go_wp2_with fail
            refine NoPanic.normal ?_
            (try (go_wp2_with fail))
            go_meet
            exact ⟨_, _, x2.heap.size, rfl, Lib.hid (SuS.start hbw3 hbx ho1 ho2 hne (by have := hbw2.size; omega))⟩
          refine wpV_do (by kernel_rfl) (fun K hK => ?_)
          obtain ⟨x2, hV⟩ : ∃ V, V = x1.alloc (.cells #[.slice none 0 0, .slice none 0 0] 57) := ⟨_, rfl⟩
          have hb : Below x1.heap.size x1 x2 := by rw [hV]; exact (Below.refl _ _).alloc (Nat.le_refl _) _
          have hbx : BoxN x2 x1.heap.size 57 [.slice none 0 0, .slice none 0 0] := by rw [hV]; exact BoxN.new x1 _ _
          have hbw2 : Below uE.heap.size uE x2 := Below.next hbw1 hb
          have hsz2 := hb.size
          have ho1 := ho1.below hb
          have hol := hol.below hb
          go_simp
          rw [← hV]
          clear hV hb
          refine hK.out _ _ (HSS.out _ hbw2) (fun _ => ?_)
          clear hK K
          (try simp only [Act.put, List.setIfInBounds_toArray, List.set_cons_zero, List.set_cons_succ])
          refine wpV_do (by kernel_rfl) (fun K hK => ?_)
          go_simp
          go_at_call 151
          refine (spec_l1Own _ d.s _ (HF2.out.below hbw2) (by have := HDP.out.1; omega)).mono ?_
          rintro e x3 ⟨q2, rfl, ho2, hb⟩
          obtain ⟨qa2, qc2, rfl⟩ := ho2.shapeN Exs.out
          have hsz3 := hb.size
          have hbw3 : Below uE.heap.size uE x3 := Below.next hbw2 hb
          have hlt := hol.lt
          have ho1 := ho1.below hb
          have hol := hol.below hb
          have hbx := hbx.below hb
          have hne : ∀ z, (Value.slice qa1 xcn qc1).ownBlock = some z → (Value.slice qa2 xsn qc2).ownBlock ≠ some z := fun z e1 e2 => by have h1 := (hlt z e1).2; have h2 := (ho2.lt z e2).1; omega
          have hol := ho2
          replace ho2 := ho2.mono (B' := uE.heap.size) (by have := hbw2.size; omega)
          clear hb
          refine hK.out _ _ (HSS.out _ hbw3) (fun _ => ?_)
          clear hK K
          (try simp only [Act.put, List.setIfInBounds_toArray, List.set_cons_zero, List.set_cons_succ])
          refine' wpV_read _ (by kernel_rfl) (fun w' hS' => ?_) ?_; rotate_left; (focus ((try dsimp only at hS'); go_simp; (try with_reducible rfl))); (try simp only [Act.put, List.setIfInBounds_toArray, List.set_cons_zero, List.set_cons_succ])
          refine wpV_done ?_
          have r0 := hbx.cell (i := 0) rfl
          have r1 := hbx.cell (i := 1) rfl
          have fr := fun j => hbx.frozen j
          go_wp2_with fail
          refine NoPanic.normal ?_
          (try (go_wp2_with fail))
          go_meet
          exact ⟨_, _, x1.heap.size, rfl, Lib.hid (SuS.start hbw3 hbx ho1 ho2 hne (by have := hbw1.size; omega))⟩
        refine wpV_do (by kernel_rfl) (fun K hK => ?_)
        obtain ⟨x1, hV⟩ : ∃ V, V = x0'.alloc (.cells #[.slice none 0 0, .slice none 0 0] 57) := ⟨_, rfl⟩
        have hb : Below x0'.heap.size x0' x1 := by rw [hV]; exact (Below.refl _ _).alloc (Nat.le_refl _) _
        have hbx : BoxN x1 x0'.heap.size 57 [.slice none 0 0, .slice none 0 0] := by rw [hV]; exact BoxN.new x0' _ _
        have hbw1 : Below uE.heap.size uE x1 := Below.next hbw0 hb
        have hsz1 := hb.size
        go_simp
        rw [← hV]
        clear hV hb
        refine hK.out _ _ (HSS.out _ hbw1) (fun _ => ?_)
        clear hK K
        (try simp only [Act.put, List.setIfInBounds_toArray, List.set_cons_zero, List.set_cons_succ])
        refine wpV_do (by kernel_rfl) (fun K hK => ?_)
        go_simp
        go_at_call 151
        refine (spec_l1Own _ d.c _ (HF1.out.below hbw1) (by have := HDP.out.1; omega)).mono ?_
        rintro e x2 ⟨q1, rfl, ho1, hb⟩
        obtain ⟨qa1, qc1, rfl⟩ := ho1.shapeN Exc.out
        have hsz2 := hb.size
        have hbw2 : Below uE.heap.size uE x2 := Below.next hbw1 hb
        have hbx := hbx.below hb
        have hol := ho1
        replace ho1 := ho1.mono (B' := uE.heap.size) (by have := hbw1.size; omega)
        clear hb
        refine hK.out _ _ (HSS.out _ hbw2) (fun _ => ?_)
        clear hK K
        (try simp only [Act.put, List.setIfInBounds_toArray, List.set_cons_zero, List.set_cons_succ])
        refine wpV_do (by kernel_rfl) (fun K hK => ?_)
        go_simp
        go_at_call 151
        refine (spec_l1Own _ d.s _ (HF2.out.below hbw2) (by have := HDP.out.1; omega)).mono ?_
        rintro e x3 ⟨q2, rfl, ho2, hb⟩
        obtain ⟨qa2, qc2, rfl⟩ := ho2.shapeN Exs.out
        have hsz3 := hb.size
        have hbw3 : Below uE.heap.size uE x3 := Below.next hbw2 hb
        have hlt := hol.lt
        have hbx := hbx.below hb
        have ho1 := ho1.below hb
        have hol := hol.below hb
        have hne : ∀ z, (Value.slice qa1 xcn qc1).ownBlock = some z → (Value.slice qa2 xsn qc2).ownBlock ≠ some z := fun z e1 e2 => by have h1 := (hlt z e1).2; have h2 := (ho2.lt z e2).1; omega
        have hol := ho2
        replace ho2 := ho2.mono (B' := uE.heap.size) (by have := hbw2.size; omega)
        clear hb
        refine hK.out _ _ (HSS.out _ hbw3) (fun _ => ?_)
        clear hK K
        (try simp only [Act.put, List.setIfInBounds_toArray, List.set_cons_zero, List.set_cons_succ])
        refine' wpV_read _ (by kernel_rfl) (fun w' hS' => ?_) ?_; rotate_left; (focus ((try dsimp only at hS'); go_simp; (try with_reducible rfl))); (try simp only [Act.put, List.setIfInBounds_toArray, List.set_cons_zero, List.set_cons_succ])
        refine wpV_done ?_
        have r0 := hbx.cell (i := 0) rfl
        have r1 := hbx.cell (i := 1) rfl
        have fr := fun j => hbx.frozen j
        go_wp2_with fail
        refine NoPanic.normal ?_
        (try (go_wp2_with fail))
        go_meet
        exact ⟨_, _, x0'.heap.size, rfl, Lib.hid (SuS.start hbw3 hbx ho1 ho2 hne (by have := hbw0.size; omega))⟩
      case rest =>
        obtain ⟨V1, V2, bz, rfl, HS⟩ := hcut
        have HCW := Lib.hid hc
        have HBW := Lib.hid (HB.out.trans (hc.mono HB.out.size))
        have hbn7 : bn ≤ 7 := by have := bdL_len gr d d.s.length; have : (badE gr d).length ≤ d.s.length := this; have := HBN.out; have := HDP.out.1; omega
        have HCL : Hid (d.c.length ≤ 1000) := by have := HDP.out.1; unfold Hid; omega
        obtain ⟨a1, k1, hv1⟩ : ∃ a c, V1 = .slice a xcn c := by obtain ⟨a, c, e⟩ := HS.out.o1.shape; exact ⟨a, c, by rw [e, Exc.out]⟩
        subst hv1
        obtain ⟨rr, cc, hv2⟩ : ∃ rr cc, V2 = .slice (some ⟨rr, 0, none⟩) xsn cc := by
          obtain ⟨a, c, e⟩ := HS.out.o2.shape
          obtain ⟨g, rfl, _⟩ := (e ▸ HS.out.o2 : OwnI _ uE.heap.size (.slice a _ c) _).at_ (by have := HDP.out.1; omega)
          rw [Exs.out] at e
          exact ⟨g, c, e⟩
        subst hv2
        clear hc HSS0 HF10 HF20
        (try (go_wp2_with fail))
        go_loopg [38] bn (fun gk iv wr => ∃ k : Nat, k + gk = bn ∧ iv = .int .i64 (k : Int) ∧ Hid (fitN gr d.c (badE gr d) own k = true) ∧ Hid (SuS uE wr bz (.slice a1 xcn k1) (.slice (some ⟨rr, 0, none⟩) xsn cc) d.c (mnN d.s (badE gr d) own k)))
        case atStart => exact ⟨0, by omega, rfl, Lib.hid rfl, HS⟩
        case round =>
          clear HS
          obtain ⟨k, hkg, rfl, HF, HS⟩ := hrel
          have HBr := Lib.hid HS.out.bel
          by_cases hlt : k < bn
          · have hgk : bn - (k + 1) < gk := by omega
            obtain ⟨b, o, hba, hcx⟩ := HOB.out.at_ (by have := HBN.out; omega)
            have x1 := box_at (hcx k hlt) HBr.out
            have hba' := hba
            subst hba'
            clear hba hcx
            obtain ⟨sb, so, hsa, hcy⟩ := Hov.out.at_ (by have := Eov.out; omega)
            have Y1 := Lib.hid (box_at (hcy k (by omega)) HBW.out)
            have hsa' := hsa
            subst hsa'
            clear hsa hcy
            have HXB : Hid (1 ≤ nth (badE gr d) k ∧ nth (badE gr d) k ≤ (xsn : Int)) := by
              have h := bdL_mem _ (show nth (badE gr d) k ∈ bdL gr d d.s.length from nth_mem' (by have := HBN.out; show k < (badE gr d).length; omega))
              have := Exs.out; unfold Hid; omega
            have HYI : Hid (I64 (nth own k)) := nth_64 Hov.out k
            have HFS : Hid (∀ q, shrB gr d.c (nth (badE gr d) k) (nth own k) = q → fitN gr d.c (badE gr d) own (k + 1) = q) := fun q h => fitN_succ HF.out h
            have HNO : Hid (shrB gr d.c (nth (badE gr d) k) (nth own k) = false → fitN gr d.c (badE gr d) own (badE gr d).length = false) := fun h => fitN_no h _ (by have := HBN.out; omega)
            have HMS : Hid (mnN d.s (badE gr d) own (k + 1) = (mnN d.s (badE gr d) own k).set (nth (badE gr d) k - 1).toNat (nth own k)) := rfl
            have HML : Hid ((mnN d.s (badE gr d) own k).length = xsn) := by unfold Hid; rw [mnN_len]; exact Exs.out
            obtain ⟨x, hx⟩ : ∃ z, nth (badE gr d) k = z := ⟨_, rfl⟩
            obtain ⟨y, hy⟩ : ∃ z, nth own k = z := ⟨_, rfl⟩
            obtain ⟨MM, hM⟩ : ∃ z, mnN d.s (badE gr d) own k = z := ⟨_, rfl⟩
            rw [hx] at x1 HXB HFS HNO HMS
            rw [hy] at Y1 HYI HFS HNO HMS
            rw [hM] at HS HMS HML
            clear hx hy hM
            have HXC : Hid (0 ≤ x ∧ x ≤ 1000) := by have := HXB.out; have := HDP.out.1; have := Exs.out; unfold Hid; omega
            have b0 : (0 : Int) ≤ (k : Int) := by omega
            have bk1 : (k : Int) < (bn : Int) := by omega
            have bk2 : (k : Int) < (ovn : Int) := by omega
            have hwk : IntKind.i64.wrap ((k : Int) + 1) = (k : Int) + 1 := IntWalk.i64_in _ (by omega)
            have Hcvr : Hid (Ints wr (.slice xca xcn xcc) d.c) := (Hxc.out.below HBW.out).below HBr.out
            have y1 := box_at Y1.out HBr.out
            obtain ⟨c0, c1, c2, d0, d1⟩ := HCC.out wr (Below.next HCW.out HBr.out)
            go_wp2_with fail
            clear x1
            have hc : Below wr.heap.size wr wr := Below.refl _ _
            obtain ⟨q, hq⟩ : ∃ z, shrB gr d.c x y = z := ⟨_, rfl⟩
            have HQ := Lib.hid hq
            clear hq
            cases q with
            | true =>
              obtain ⟨jx, hjx⟩ : ∃ z : Nat, (z : Int) = x - 1 := ⟨(x - 1).toNat, by have := HXB.out; omega⟩
              have hjl : jx < xsn := by have := HXB.out; omega
              have hjn : (x - 1).toNat = jx := by omega
              have hx7 : xsn ≤ 7 := by have := HDP.out.1; have := Exs.out; omega
              have ewx : IntKind.i64.wrap (x - 1) = (jx : Int) := by rw [← hjx]; exact IntWalk.i64_in _ (by omega)
              have bj0 : (0 : Int) ≤ (jx : Int) := by omega
              have bj1 : (jx : Int) < (xsn : Int) := by omega
              clear hjx
              try (go_wp2_with fail)
              refine wp_region_noPanic ?_
              refine wp_region_P (fun w' => w'.cell? ⟨w.heap.size, 0, none⟩ = some (.int .i64 gr.p) ∧ w'.cell? ⟨w.heap.size, 1, none⟩ = some (.int .i64 gr.q) ∧ w'.cell? ⟨w.heap.size, 2, none⟩ = some (.int .i64 gr.g) ∧ w'.cell? ⟨w.heap.size + 1, 0, none⟩ = some (.slice xca xcn xcc) ∧ w'.cell? ⟨w.heap.size + 1, 1, none⟩ = some (.slice xsa xsn xsc) ∧ w'.cell? ⟨sb, so + k, none⟩ = some (.int .i64 y)) 12 [(0, []), (1, []), (2, [0]), (3, []), (4, []), (5, []), (6, [1, 0]), (7, [0]), (8, [7, 5, 4, 0]), (9, [0])] [] (by kernel_rfl) (by kernel_rfl) (by kernel_rfl) rfl (fun _ _ _ _ h => h) (fun w' h => ⟨box_at c0 h, box_at c1 h, box_at c2 h, box_at d0 h, box_at d1 h, box_at y1 h⟩) ?_
              simp only [pickP, pickN, List.getElem?_cons_zero, List.getElem?_cons_succ]
              iterate 8 (refine' chainP_read _ rfl rfl (fun w' hS' => ?_) ?_; rotate_left; · (simp only [lookP, allP, Act.put, List.getElem?_cons_zero, List.getElem?_cons_succ, List.setIfInBounds_toArray, List.set_cons_zero, List.set_cons_succ]; (try dsimp only at hS'); go_simp; (try with_reducible rfl)))
              -- 8: call { callee := value (func 114), args := #[t43, t45, t46, t50], argTypes := #[24, 42, 3, 3] }
              refine chainP_call (d := (some 51)) (.bool true) rfl rfl (fun w' hS' => ?_) ?_
              · simp only [lookP, allP, Act.put, List.getElem?_cons_zero, List.getElem?_cons_succ, List.setIfInBounds_toArray, List.set_cons_zero, List.set_cons_succ]
                intro K hK
                go_simp
                go_at_call 114
                refine (spec_sFits gr _ d.c x y _ HG.out (Hcvr.out.below hS'.1) HEL.out HCL.out HXC.out HYI.out).mono ?_
                rintro e u ⟨rfl, hq⟩
                rw [HQ.out]
                exact hK.out _ hq
              -- 9: unOp Unnot 4 t51
              refine' chainP_read (d := (some 52)) _ rfl rfl (fun w' hS' => ?_) ?_; rotate_left
              · simp only [lookP, allP, Act.put, List.getElem?_cons_zero, List.getElem?_cons_succ, List.setIfInBounds_toArray, List.set_cons_zero, List.set_cons_succ]
                (try dsimp only at hS')
                go_simp
                (try with_reducible rfl)
              refine chainP_nil (fun ua hS' => ?_)
              simp only [allP, Act.put, List.setIfInBounds_toArray, List.set_cons_zero, List.set_cons_succ]
              have hq1 := hS'.1
              clear hS'
              replace hc := Below.next hc hq1
              replace c0 := box_at c0 hq1
              replace c1 := box_at c1 hq1
              replace c2 := box_at c2 hq1
              replace d0 := box_at d0 hq1
              replace d1 := box_at d1 hq1
              replace y1 := box_at y1 hq1
              clear hq1
              (try (go_wp2_with fail))
              (try (refine NoPanic.normal ?_))
              have z0 := (HS.out.below hc).box.cell (i := 0) rfl
              have z1 := (HS.out.below hc).box.cell (i := 1) rfl
              try (go_wp2_with fail)
              refine wp_region_noPanic ?_
              refine wp_region_P (fun w' => w'.cell? ⟨bz, 0, none⟩ = some (.slice a1 xcn k1) ∧ w'.cell? ⟨bz, 1, none⟩ = some (.slice (some ⟨rr, 0, none⟩) xsn cc) ∧ w'.cell? ⟨sb, so + k, none⟩ = some (.int .i64 y)) 12 [(0, []), (1, [0]), (2, []), (3, [0]), (4, []), (5, []), (6, [1, 0]), (7, [0]), (8, [6, 4])] [9] (by kernel_rfl) (by kernel_rfl) (by kernel_rfl) rfl (fun _ _ _ _ h => h) (fun w' h => ⟨box_at z0 h, box_at z1 h, box_at y1 h⟩) ?_
              simp only [pickP, pickN, List.getElem?_cons_zero, List.getElem?_cons_succ]
              iterate 9 (refine' chainP_read _ rfl rfl (fun w' hS' => ?_) ?_; rotate_left; · (simp only [lookP, allP, Act.put, List.getElem?_cons_zero, List.getElem?_cons_succ, List.setIfInBounds_toArray, List.set_cons_zero, List.set_cons_succ]; (try dsimp only at hS'); go_simp; (try with_reducible rfl)))
              refine chainP_nil (fun ub hS' => ?_)
              simp only [allP, Act.put, List.setIfInBounds_toArray, List.set_cons_zero, List.set_cons_succ]
              have hq1 := hS'.1
              clear hS'
              replace hc := Below.next hc hq1
              replace z0 := box_at z0 hq1
              replace z1 := box_at z1 hq1
              replace y1 := box_at y1 hq1
              clear hq1
              have HSb := Lib.hid (HS.out.below hc)
              obtain ⟨_, e, _, _, hrx⟩ := HSb.out.o2.at_ (by have := HML.out; omega)
              cases e
              obtain ⟨s1, s2⟩ := hrx jx hjl
              clear hrx
              go_wp2_with fail
              refine NoPanic.normal ?_
              (try (go_wp2_with fail))
              clear s1 s2
              obtain ⟨Y, hY⟩ : ∃ Y, Y = ub.setCell ⟨rr, jx, none⟩ (.int .i64 y) := ⟨_, rfl⟩
              (try rw [← hY])
              have NS : Hid (SuS uE Y bz (.slice a1 xcn k1) (.slice (some ⟨rr, 0, none⟩) xsn cc) d.c (MM.set jx y)) := by unfold Hid; rw [hY]; exact HSb.out.store2 HML.out jx HYI.out
              clear hY
              go_roundg (bn - (k + 1))
              case measure => exact hgk
              case rel => exact ⟨k + 1, by omega, by go_num, HFS.out _ HQ.out, by unfold Hid; rw [HMS.out, hjn]; exact NS.out⟩
            | false =>
              try (go_wp2_with fail)
              refine wp_region_noPanic ?_
              refine wp_region_P (fun w' => w'.cell? ⟨w.heap.size, 0, none⟩ = some (.int .i64 gr.p) ∧ w'.cell? ⟨w.heap.size, 1, none⟩ = some (.int .i64 gr.q) ∧ w'.cell? ⟨w.heap.size, 2, none⟩ = some (.int .i64 gr.g) ∧ w'.cell? ⟨w.heap.size + 1, 0, none⟩ = some (.slice xca xcn xcc) ∧ w'.cell? ⟨w.heap.size + 1, 1, none⟩ = some (.slice xsa xsn xsc) ∧ w'.cell? ⟨sb, so + k, none⟩ = some (.int .i64 y)) 12 [(0, []), (1, []), (2, [0]), (3, []), (4, []), (5, []), (6, [1, 0]), (7, [0]), (8, [7, 5, 4, 0]), (9, [0])] [] (by kernel_rfl) (by kernel_rfl) (by kernel_rfl) rfl (fun _ _ _ _ h => h) (fun w' h => ⟨box_at c0 h, box_at c1 h, box_at c2 h, box_at d0 h, box_at d1 h, box_at y1 h⟩) ?_
              simp only [pickP, pickN, List.getElem?_cons_zero, List.getElem?_cons_succ]
              iterate 8 (refine' chainP_read _ rfl rfl (fun w' hS' => ?_) ?_; rotate_left; · (simp only [lookP, allP, Act.put, List.getElem?_cons_zero, List.getElem?_cons_succ, List.setIfInBounds_toArray, List.set_cons_zero, List.set_cons_succ]; (try dsimp only at hS'); go_simp; (try with_reducible rfl)))
              -- 8: call { callee := value (func 114), args := #[t43, t45, t46, t50], argTypes := #[24, 42, 3, 3] }
              refine chainP_call (d := (some 51)) (.bool false) rfl rfl (fun w' hS' => ?_) ?_
              · simp only [lookP, allP, Act.put, List.getElem?_cons_zero, List.getElem?_cons_succ, List.setIfInBounds_toArray, List.set_cons_zero, List.set_cons_succ]
                intro K hK
                go_simp
                go_at_call 114
                refine (spec_sFits gr _ d.c x y _ HG.out (Hcvr.out.below hS'.1) HEL.out HCL.out HXC.out HYI.out).mono ?_
                rintro e u ⟨rfl, hq⟩
                rw [HQ.out]
                exact hK.out _ hq
              -- 9: unOp Unnot 4 t51
              refine' chainP_read (d := (some 52)) _ rfl rfl (fun w' hS' => ?_) ?_; rotate_left
              · simp only [lookP, allP, Act.put, List.getElem?_cons_zero, List.getElem?_cons_succ, List.setIfInBounds_toArray, List.set_cons_zero, List.set_cons_succ]
                (try dsimp only at hS')
                go_simp
                (try with_reducible rfl)
              refine chainP_nil (fun ua hS' => ?_)
              simp only [allP, Act.put, List.setIfInBounds_toArray, List.set_cons_zero, List.set_cons_succ]
              have hq1 := hS'.1
              clear hS'
              replace hc := Below.next hc hq1
              replace c0 := box_at c0 hq1
              replace c1 := box_at c1 hq1
              replace c2 := box_at c2 hq1
              replace d0 := box_at d0 hq1
              replace d1 := box_at d1 hq1
              replace y1 := box_at y1 hq1
              clear hq1
              have HUA : Hid (Below W.heap.size W ua) := Below.next (Below.next HCW.out HBr.out) hc
              have HRE := Lib.hid (HR2.out.below HUA.out)
              have r0 := HRE.out.cell (i := 0) rfl
              have r1 := HRE.out.cell (i := 1) rfl
              have fr := fun j => HRE.out.frozen j
              (try (go_wp2_with fail))
              (try (refine NoPanic.normal ?_))
              (try (go_wp2_with fail))
              clear r0 r1 fr
              have HRF := Lib.hid ((HRE.out.set 0 (.slice xca xcn xcc)).set 1 (.slice xsa xsn xsc))
              have HBF := Lib.hid (((HB.out.trans (HUA.out.mono HB.out.size)).setCell (p := ⟨w.heap.size + 1 + 1, 0, none⟩) (by show w.heap.size ≤ w.heap.size + 1 + 1; omega) (.slice xca xcn xcc)).setCell (p := ⟨w.heap.size + 1 + 1, 1, none⟩) (by show w.heap.size ≤ w.heap.size + 1 + 1; omega) (.slice xsa xsn xsc))
              have t0 := HRF.out.cell (i := 0) rfl
              have t1 := HRF.out.cell (i := 1) rfl
              have HVF : Hid (qdB gr d own = false) := by unfold Hid qdB; rw [HNO.out HQ.out, Bool.and_false]
              try (go_wp2_with fail)
              refine bodyPost_ret (v := .tuple #[.agg #[.slice xca xcn xcc, .slice xsa xsn xsc], .bool false]) (by simp [results, Try.results204, go_sem, t0, t1]) rfl ⟨(by rw [HVF.out]; exact RetMn.no), HBF.out⟩
          · obtain rfl : bn = k := by omega
            have HFL : Hid (fitN gr d.c (badE gr d) own (badE gr d).length = true) := by unfold Hid; rw [HBN.out]; exact HF.out
            have HV : Hid (qdB gr d own = true) := by unfold Hid qdB; rw [HT1.out, HT2.out, HFL.out]; rfl
            have HMM : Hid (mnN d.s (badE gr d) own bn = (mnD gr d own).s) := by unfold Hid mnD; rw [HBN.out]
            rw [HMM.out] at HS
            have HUA : Hid (Below W.heap.size W wr) := Below.next HCW.out HBr.out
            have HRE := Lib.hid (HR2.out.below HUA.out)
            have hsu := HCW.out.size
            have z0 := HS.out.box.cell (i := 0) rfl
            have z1 := HS.out.box.cell (i := 1) rfl
            have r0 := HRE.out.cell (i := 0) rfl
            have r1 := HRE.out.cell (i := 1) rfl
            have fr := fun j => HRE.out.frozen j
            (try (go_wp2_with fail))
            clear r0 r1 fr z0 z1
            have HRF := Lib.hid ((HRE.out.set 0 (.slice a1 xcn k1)).set 1 (.slice (some ⟨rr, 0, none⟩) xsn cc))
            have HBF := Lib.hid (((HB.out.trans (HUA.out.mono HB.out.size)).setCell (p := ⟨w.heap.size + 1 + 1, 0, none⟩) (by show w.heap.size ≤ w.heap.size + 1 + 1; omega) (.slice a1 xcn k1)).setCell (p := ⟨w.heap.size + 1 + 1, 1, none⟩) (by show w.heap.size ≤ w.heap.size + 1 + 1; omega) (.slice (some ⟨rr, 0, none⟩) xsn cc))
            have t0 := HRF.out.cell (i := 0) rfl
            have t1 := HRF.out.cell (i := 1) rfl
            try (go_wp2_with fail)
            refine bodyPost_ret (v := .tuple #[.agg #[.slice a1 xcn k1, .slice (some ⟨rr, 0, none⟩) xsn cc], .bool true]) (by simp [results, Try.results204, go_sem, t0, t1]) rfl ⟨(by rw [HV.out]; exact RetMn.yes (((HS.out.o1.oth (b := w.heap.size + 1 + 1) (by omega) 0 _).oth (b := w.heap.size + 1 + 1) (by omega) 1 _).mono HBW.out.size) (((HS.out.o2.oth (b := w.heap.size + 1 + 1) (by omega) 0 _).oth (b := w.heap.size + 1 + 1) (by omega) 1 _).mono HBW.out.size)), HBF.out⟩
    | true =>
      have HT2 : Hid (decide (own.length = (badE gr d).length) = false) := by have q := hc2; rw [bne_iff_ne] at q; have := Eov.out; have := HBN.out; unfold Hid; exact decide_eq_false (by omega)
      have HRE2 := Lib.hid (HR2.out.below hc)
      clear HR2
      have HBE := Lib.hid (HB.out.trans (hc.mono HB.out.size))
      have r2_0 := HRE2.out.cell (i := 0) rfl
      have r2_1 := HRE2.out.cell (i := 1) rfl
      have fr2 := fun j => HRE2.out.frozen j
      go_wp2_with fail
      have HRF := Lib.hid ((HRE2.out.set 0 ((.slice xca xcn xcc))).set 1 ((.slice xsa xsn xsc)))
      have HBF := Lib.hid ((HBE.out.setCell (p := ⟨w.heap.size + 1 + 1, 0, none⟩) (by show w.heap.size ≤ w.heap.size + 1 + 1; omega) ((.slice xca xcn xcc))).setCell (p := ⟨w.heap.size + 1 + 1, 1, none⟩) (by show w.heap.size ≤ w.heap.size + 1 + 1; omega) ((.slice xsa xsn xsc)))
      clear r2_0 r2_1 fr2
      have r2_0 := HRF.out.cell (i := 0) rfl
      have r2_1 := HRF.out.cell (i := 1) rfl
      try (go_wp2_with fail)
      have HVB : Hid (qdB gr d own = false) := by unfold Hid; simp [qdB, HT1.out, HT2.out]
      refine bodyPost_ret (v := .tuple #[.agg #[(.slice xca xcn xcc), (.slice xsa xsn xsc)], .bool false]) (by simp [results, Try.results204, go_sem, r2_0, r2_1]) rfl ⟨(by rw [HVB.out]; exact RetMn.no), HBF.out⟩
  | true =>
    have HT1 : Hid (decide (d.c.length ≤ (badE gr d).length) = true) := by have q := of_decide_eq_true hc1; have := Exc.out; have := HBN.out; unfold Hid; exact decide_eq_true (by omega)
    have hcp1 : xcn ≤ bn := by have q := of_decide_eq_true hc1; omega
    have hcn1 : decide (xcn ≤ bn) = true := decide_eq_true hcp1
    have HRE2 := Lib.hid (HR2.out.below hc)
    clear HR2
    have HBE := Lib.hid (HB.out.trans (hc.mono HB.out.size))
    have r2_0 := HRE2.out.cell (i := 0) rfl
    have r2_1 := HRE2.out.cell (i := 1) rfl
    have fr2 := fun j => HRE2.out.frozen j
    go_wp2_with fail
    have HRF := Lib.hid ((HRE2.out.set 0 ((.slice xca xcn xcc))).set 1 ((.slice xsa xsn xsc)))
    have HBF := Lib.hid ((HBE.out.setCell (p := ⟨w.heap.size + 1 + 1, 0, none⟩) (by show w.heap.size ≤ w.heap.size + 1 + 1; omega) ((.slice xca xcn xcc))).setCell (p := ⟨w.heap.size + 1 + 1, 1, none⟩) (by show w.heap.size ≤ w.heap.size + 1 + 1; omega) ((.slice xsa xsn xsc)))
    clear r2_0 r2_1 fr2
    have r2_0 := HRF.out.cell (i := 0) rfl
    have r2_1 := HRF.out.cell (i := 1) rfl
    try (go_wp2_with fail)
    have HVB : Hid (qdB gr d own = false) := by unfold Hid; simp [qdB, HT1.out]
    refine bodyPost_ret (v := .tuple #[.agg #[(.slice xca xcn xcc), (.slice xsa xsn xsc)], .bool false]) (by simp [results, Try.results204, go_sem, r2_0, r2_1]) rfl ⟨(by rw [HVB.out]; exact RetMn.no), HBF.out⟩
end Go.Proofs.Ytacpnphfopmofaa
