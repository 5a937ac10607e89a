/- Rolls: walks (printed by gen_rol1.py). -/
import Derived.Test.YtboahnklilmdpaaBal1W
import Derived.Test.YtboahnklilmdpaaCtW
namespace Go.Proofs.Ytboahnklilmdpaa
open Go.RowKit
set_option linter.unusedSimpArgs false
set_option linter.unusedVariables false

def rlL (gr : GroupD) (key : Int) (l : List Int) (rs : List Int) : List CipherD := (l.zip rs).map fun x => enC gr key x.1 x.2
theorem rlL_succ {gr : GroupD} {key : Int} {l : List Int} {rs : List Int} {k : Nat} (h : k < l.length) (h2 : k < rs.length) : (rlL gr key l rs).take (k + 1) = (rlL gr key l rs).take k ++ [enC gr key (nth l k) (nth rs k)] := by
  unfold rlL
  have hz : k < ((l.zip rs).map fun x => enC gr key x.1 x.2).length := by rw [List.length_map, List.length_zip]; omega
  rw [List.take_succ_eq_append_getElem hz, List.getElem_map, List.getElem_zip]
  rw [show nth rs k = rs[k] by simp [nth, h2], show nth l k = l[k] by simp [nth, h]]
theorem rlL_length {gr : GroupD} {key : Int} {l : List Int} {rs : List Int} (h : rs.length = l.length) : (rlL gr key l rs).length = l.length := by
  unfold rlL; rw [List.length_map, List.length_zip, h, Nat.min_self]
theorem rlL_at {gr : GroupD} {key : Int} {l rs : List Int} {k : Nat} (h : k < l.length) (h2 : rs.length = l.length) (h3 : k < (rlL gr key l rs).length) : (rlL gr key l rs)[k] = enC gr key (nth l k) (nth rs k) := by
  have e : ∀ h4 : k < ((l.zip rs).map fun x => enC gr key x.1 x.2).length, ((l.zip rs).map fun x => enC gr key x.1 x.2)[k]'h4 = enC gr key (nth l k) (nth rs k) := by
    intro h4
    rw [List.getElem_map, List.getElem_zip]
    rw [show nth rs k = rs[k] by simp [nth, show k < rs.length by omega], show nth l k = l[k] by simp [nth, h]]
  exact e h3
noncomputable def rlB (gr : GroupD) (key : Int) (l : List Int) (rs : List Int) : Bool := (goodG gr && elB gr key) && (decide (l.length ≤ 24) && (l.all (crB gr) && (decide (rs.length = l.length) && rs.all (expB gr))))
noncomputable def rlR (gr : GroupD) (key : Int) (l : List Int) (rs : List Int) : List CipherD := if rlB gr key l rs = true then rlL gr key l rs else []
noncomputable def eeB (gr : GroupD) (key m r : Int) : Bool := goodG gr && ((elB gr key && elB gr m) && expB gr r)
noncomputable def eeR (gr : GroupD) (key m r : Int) : CipherD := if eeB gr key m r = true then enC gr key m r else ⟨0, 0⟩
theorem rlB_parts {gr : GroupD} {key : Int} {l rs : List Int} (h : rlB gr key l rs = true) : goodG gr = true ∧ elB gr key = true ∧ l.length ≤ 24 ∧ l.all (crB gr) = true ∧ rs.length = l.length ∧ rs.all (expB gr) = true := by
  unfold rlB at h
  simp only [Bool.and_eq_true, decide_eq_true_iff] at h
  exact ⟨h.1.1, h.1.2, h.2.1, h.2.2.1, h.2.2.2.1, h.2.2.2.2⟩
theorem all_nth {p : Int → Bool} {l : List Int} (h : l.all p = true) {k : Nat} (hk : k < l.length) : p (nth l k) = true := by
  rw [show nth l k = l[k] by simp [nth, hk]]
  exact List.all_eq_true.1 h _ (List.getElem_mem _)
theorem allT_succ {p : Int → Bool} {l : List Int} {k : Nat} (hk : k < l.length) (h : (l.take k).all p = true) (h2 : p (nth l k) = true) : (l.take (k + 1)).all p = true := by
  rw [List.take_succ_eq_append_getElem hk, List.all_append, h]
  rw [show nth l k = l[k] by simp [nth, hk]] at h2
  simp [h2]
theorem all_not {p : Int → Bool} {l : List Int} {k : Nat} (hk : k < l.length) (h2 : p (nth l k) = false) : l.all p = false := by
  cases h : l.all p with
  | false => rfl
  | true => rw [all_nth h hk] at h2; cases h2
set_option maxRecDepth 100000 in
set_option maxHeartbeats 4000000 in
theorem impl_RollOf (gr : GroupD) (key : Int) (v : Value) (l : List Int) (v2 : Value) (rs : List Int) (w : World) (hkey : I64 key) (h : Ints w v l) (h2 : Ints w v2 rs) :
    Calls Try.prog 61 #[.agg #[.int .i64 gr.p, .int .i64 gr.q, .int .i64 gr.g], .int .i64 key, v, v2] w fun e w' => ∃ v', e = .returned (.tuple #[v', .bool (rlB gr key l rs)]) ∧ RdR rCipher w' v' (rlR gr key l rs) ∧ Below w.heap.size w w' := by
  obtain ⟨va, vn, vc, rfl⟩ := h.shape
  have Ev := Lib.hid h.len
  have Kv := Lib.hid h.capMax
  have Hv := Lib.hid h
  clear h
  obtain ⟨v2a, v2n, v2c, rfl⟩ := h2.shape
  have Ev2 := Lib.hid h2.len
  have Kv2 := Lib.hid h2.capMax
  have Hv2 := Lib.hid h2
  clear h2
  obtain ⟨W, hW⟩ : ∃ W, W = w.alloc (.cells #[.int .i64 gr.p, .int .i64 gr.q, .int .i64 gr.g] 39) := ⟨_, rfl⟩
  have HB : Hid (Below w.heap.size w W) := by unfold Hid; rw [hW]; (repeat (first | exact Below.refl _ _ | assumption | refine Below.drew ?_ | refine Below.alloc ?_ (by first | (simp; done) | (simp; omega)) _ | refine Below.setCell ?_ (by first | (simp; done) | (simp; omega)) _))
  have c0_0 : W.cell? ⟨w.heap.size, 0, none⟩ = some (.int .i64 gr.p) := by rw [hW]; simp [go_sem]
  have c0_1 : W.cell? ⟨w.heap.size, 1, none⟩ = some (.int .i64 gr.q) := by rw [hW]; simp [go_sem]
  have c0_2 : W.cell? ⟨w.heap.size, 2, none⟩ = some (.int .i64 gr.g) := by rw [hW]; simp [go_sem]
  have HSW : Hid (W.heap.size = w.heap.size + 1) := by unfold Hid; rw [hW]; simp
  go_enter Try.func61, Try.ntmps61
  go_wp2_with fail
  rw [← hW]
  have hse : w.heap.size + 1 = W.heap.size := by have := HSW.out; omega
  (try rw [hse])
  clear hse
  clear hW
  have hc : Below W.heap.size W W := Below.refl _ _
  have HCC : Hid (∀ u, Below W.heap.size W u → u.cell? ⟨w.heap.size, 0, none⟩ = some (.int .i64 gr.p) ∧ u.cell? ⟨w.heap.size, 1, none⟩ = some (.int .i64 gr.q) ∧ u.cell? ⟨w.heap.size, 2, none⟩ = some (.int .i64 gr.g)) := fun u h => ⟨box_at c0_0 h, box_at c0_1 h, box_at c0_2 h⟩
  go_wp2_with fail
  refine (impl_IsValidGroup gr _).mono ?_
  rintro e u1 ⟨rfl, hq1⟩
  replace hc := Below.next hc hq1
  clear hq1 c0_0 c0_1 c0_2
  obtain ⟨c0_0, c0_1, c0_2⟩ := HCC.out _ hc
  cases hc1 : goodG gr with
  | false =>
    have Hhc1 := Lib.hid hc1
    clear hc1
    go_wp2_with fail
    have HVB : Hid (rlB gr key l rs = false) := by unfold Hid; simp [rlB, Hhc1.out]
    have HPR : Hid (rlR gr key l rs = []) := by unfold Hid rlR; rw [if_neg (by rw [HVB.out]; simp)]
    go_ret2
    rw [HVB.out, HPR.out]
    exact ⟨.slice none 0 0, rfl, RdR.nil _ _, HB.out.trans (hc.mono HB.out.size)⟩
  | true =>
    have HGD := Lib.hid hc1
    have HG := Lib.hid (goodG_ok hc1)
    have Hhc1 := Lib.hid hc1
    clear hc1
    go_wp2_with fail
    refine (impl_has gr key _ HG.out).mono ?_
    rintro e u2 ⟨rfl, hq2⟩
    replace hc := Below.next hc hq2
    clear hq2 c0_0 c0_1 c0_2
    obtain ⟨c0_0, c0_1, c0_2⟩ := HCC.out _ hc
    cases hc2 : elB gr key with
    | false =>
      have Hhc2 := Lib.hid hc2
      clear hc2
      go_wp2_with fail
      have HVB : Hid (rlB gr key l rs = false) := by unfold Hid; simp [rlB, Hhc1.out, Hhc2.out]
      have HPR : Hid (rlR gr key l rs = []) := by unfold Hid rlR; rw [if_neg (by rw [HVB.out]; simp)]
      go_ret2
      rw [HVB.out, HPR.out]
      exact ⟨.slice none 0 0, rfl, RdR.nil _ _, HB.out.trans (hc.mono HB.out.size)⟩
    | true =>
      have Hk := Lib.hid hc2
      have Hhc2 := Lib.hid hc2
      clear hc2
      cases hc3 : decide (24 < (vn : Int)) with
      | false =>
        have HLC : Hid (decide (l.length ≤ 24) = true) := by have e1 := Ev.out; have q := of_decide_eq_false hc3; exact decide_eq_true (by omega)
        have HLC2 : Hid (l.length ≤ 24) := by unfold Hid; exact of_decide_eq_true HLC.out
        go_wp2_with fail
        refine (impl_areAllM _ l _ _ (crB gr) _ (Hv.out.below (HB.out.trans (hc.mono HB.out.size))) ⟨Try.call183, fun x wr hx hb => impl_isCredential gr x wr HG.out hx⟩).mono ?_
        rintro e u3 ⟨rfl, hq3⟩
        replace hc := Below.next hc hq3
        clear hq3 c0_0 c0_1 c0_2
        obtain ⟨c0_0, c0_1, c0_2⟩ := HCC.out _ hc
        cases hc4 : l.all (crB gr) with
        | false =>
          have Hhc4 := Lib.hid hc4
          clear hc4
          go_wp2_with fail
          have HVB : Hid (rlB gr key l rs = false) := by unfold Hid; simp [rlB, Hhc1.out, Hhc2.out, hc3, Hhc4.out, HLC.out]
          have HPR : Hid (rlR gr key l rs = []) := by unfold Hid rlR; rw [if_neg (by rw [HVB.out]; simp)]
          go_ret2
          rw [HVB.out, HPR.out]
          exact ⟨.slice none 0 0, rfl, RdR.nil _ _, HB.out.trans (hc.mono HB.out.size)⟩
        | true =>
          have HAL : Hid (l.all (crB gr) = true) := hc4
          have Hhc4 := Lib.hid hc4
          clear hc4
          cases hc5 : ((v2n : Int) != (vn : Int)) with
          | false =>
            have HLN : Hid (decide (rs.length = l.length) = true) := by have e1 := Ev2.out; have e2 := Ev.out; have q : (v2n : Int) = vn := (by simpa using hc5); exact decide_eq_true (by omega)
            have HLE : Hid (rs.length = l.length) := by unfold Hid; exact of_decide_eq_true HLN.out
            go_wp2_with fail
            refine (impl_areExps gr _ rs _ HG.out (Hv2.out.below (HB.out.trans (hc.mono HB.out.size)))).mono ?_
            rintro e u4 ⟨rfl, hq4⟩
            replace hc := Below.next hc hq4
            clear hq4 c0_0 c0_1 c0_2
            obtain ⟨c0_0, c0_1, c0_2⟩ := HCC.out _ hc
            cases hc6 : rs.all (expB gr) with
            | false =>
              have Hhc6 := Lib.hid hc6
              clear hc6
              go_wp2_with fail
              have HVB : Hid (rlB gr key l rs = false) := by unfold Hid; simp [rlB, Hhc1.out, Hhc2.out, hc3, Hhc4.out, hc5, Hhc6.out, HLC.out, HLN.out]
              have HPR : Hid (rlR gr key l rs = []) := by unfold Hid rlR; rw [if_neg (by rw [HVB.out]; simp)]
              go_ret2
              rw [HVB.out, HPR.out]
              exact ⟨.slice none 0 0, rfl, RdR.nil _ _, HB.out.trans (hc.mono HB.out.size)⟩
            | true =>
              have HEA : Hid (rs.all (expB gr) = true) := hc6
              have Hhc6 := Lib.hid hc6
              clear hc6
              have HVB : Hid (rlB gr key l rs = true) := by unfold Hid; simp [rlB, Hhc1.out, Hhc2.out, hc3, Hhc4.out, hc5, Hhc6.out, HLC.out, HLN.out]
              go_wp2_with fail
              have HC := Lib.hid hc
              have C0 := Lib.hid c0_0
              have C1 := Lib.hid c0_1
              have C2 := Lib.hid c0_2
              clear hc c0_0 c0_1 c0_2
              have HU := Lib.hid (OwnC.lit0 _ (Nat.le_refl _) : OwnC _ u4.heap.size (.slice (some ⟨u4.heap.size, 0, none⟩) 0 0) ((rlL gr key l rs).take 0))
              have HUB := Lib.hid ((Below.refl u4.heap.size u4).alloc (Nat.le_refl _) (.cells #[] 58) : Below u4.heap.size u4 _)
              go_loopg [10, 50] vn (fun gh ov iv wr => ∃ k : Nat, k + gh = vn ∧ iv = .int .i64 k ∧ OwnC wr u4.heap.size ov ((rlL gr key l rs).take k) ∧ Below u4.heap.size u4 wr)
              case atStart => exact ⟨0, by omega, rfl, HU.out, HUB.out⟩
              case round =>
                obtain ⟨k, hkg, rfl, hown, hbu⟩ := hrel
                clear HU HUB
                obtain ⟨oa, on, oc, rfl⟩ := hown.shape
                have HOW := Lib.hid hown
                clear hown
                have HBU := Lib.hid hbu
                clear hbu
                have HBW := Lib.hid (HB.out.trans ((Below.next HC.out HBU.out).mono HB.out.size))
                by_cases hlt : k < vn
                · have HK : Hid (k < l.length) := by unfold Hid; have := Ev.out; omega
                  have HK2 : Hid (k < rs.length) := by unfold Hid; rw [HLE.out]; exact HK.out
                  have HS := Lib.hid (rlL_succ (gr := gr) (key := key) HK.out HK2.out)
                  have HLEN : Hid (((rlL gr key l rs).take k).length ≤ 100000000) := by have h2 := List.length_take_le k (rlL gr key l rs); have h3 := HK.out; have h4 := HLC2.out; unfold Hid; omega
                  have HEX := Lib.hid (Hv2.out.all.at_ k)
                  have HIX := Lib.hid (Hv.out.all.at_ k)
                  obtain ⟨bk1, oo1, rfl, hcx1⟩ := (Hv.out.below HBW.out).at_ (by have := Ev.out; have := HK.out; omega)
                  have y1 := hcx1 k (by have := Ev.out; have := HK.out; omega)
                  clear hcx1
                  obtain ⟨bk2, oo2, rfl, hcx2⟩ := (Hv2.out.below HBW.out).at_ (by have := Ev2.out; have := HK2.out; omega)
                  have y2 := hcx2 k (by have := Ev2.out; have := HK2.out; omega)
                  clear hcx2
                  have HCX : Hid (crB gr (nth l k) = true) := all_nth HAL.out HK.out
                  have HSX : Hid (Small (nth l k)) := elB_small HG.out (crB_el HCX.out)
                  generalize nth rs k = y at y2 HS HEX
                  obtain ⟨x, hx0⟩ : ∃ x, nth l k = x := ⟨_, rfl⟩
                  rw [hx0] at y1 HS HIX HCX HSX
                  have HX0 := Lib.hid hx0
                  clear hx0
                  have b0 : (0 : Int) ≤ (k : Int) := by omega
                  have b1 : (k : Int) < (v2n : Int) := by have := Ev2.out; have := HK2.out; omega
                  have b2 : (k : Int) < (vn : Int) := by omega
                  have hwk : IntKind.i64.wrap ((k : Int) + 1) = (k : Int) + 1 := IntWalk.i64_in _ (by have := Kv.out.1; have := Kv.out.2; unfold maxLen at this; omega)
                  have c0_0 := box_at C0.out HBU.out
                  have c0_1 := box_at C1.out HBU.out
                  have c0_2 := box_at C2.out HBU.out
                  have c3_0 := y2
                  clear y2
                  obtain ⟨V, hV⟩ : ∃ V, V = wr := ⟨_, rfl⟩
                  have hc : Below wr.heap.size wr V := by rw [hV]; exact Below.refl _ _
                  go_wp2_with fail
                  clear y1
                  rw [← hV] at c0_0 c0_1 c0_2 c3_0
                  rw [← hV]
                  clear hV
                  try (go_wp2_with fail)
                  refine wp_region_noPanic ?_
                  refine wp_region_P (fun w' => w'.cell? ⟨w.heap.size, 0, none⟩ = some (.int .i64 gr.p) ∧ w'.cell? ⟨w.heap.size, 1, none⟩ = some (.int .i64 gr.q) ∧ w'.cell? ⟨w.heap.size, 2, none⟩ = some (.int .i64 gr.g) ∧ w'.cell? ⟨bk2, oo2 + k, none⟩ = some (.int .i64 y)) 14 [(0, []), (1, []), (2, []), (3, []), (4, []), (5, []), (6, [1, 0]), (7, [0]), (8, [6, 5, 4, 0]), (9, [0])] [10, 11] (by kernel_rfl) (by kernel_rfl) (by kernel_rfl) rfl (fun _ _ _ _ h => h) (fun w' h => ⟨box_at c0_0 h, box_at c0_1 h, box_at c0_2 h, box_at c3_0 h⟩) ?_
                  simp only [pickP, pickN, List.getElem?_cons_zero, List.getElem?_cons_succ]
                  iterate 8 (refine' chainP_read _ rfl rfl (fun w' hS' => ?_) ?_; rotate_left; · (simp only [lookP, allP, Act.put, List.getElem?_cons_zero, List.getElem?_cons_succ, List.setIfInBounds_toArray, List.set_cons_zero, List.set_cons_succ]; (try dsimp only at hS'); go_simp; (try with_reducible rfl)))
                  -- 8: call { callee := value (func 184), args := #[t56, t57, t58, t62], argTypes := #[39, 3, 3, 3] }
                  refine chainP_call (d := (some 63)) (.agg #[.int .i64 ((enC gr key x y).a), .int .i64 ((enC gr key x y).b)]) rfl rfl (fun w' hS' => ?_) ?_
                  · simp only [lookP, allP, Act.put, List.getElem?_cons_zero, List.getElem?_cons_succ, List.setIfInBounds_toArray, List.set_cons_zero, List.set_cons_succ]
                    intro K hK
                    go_simp
                    go_at_call 184
                    refine (impl_encrypt gr key x y _ HG.out (elB_small HG.out Hk.out) HSX.out HEX.out).mono ?_
                    rintro e u ⟨rfl, hq⟩
                    exact hK.out _ hq
                  -- 9: buildSlice 52 1 #[(0, t63)]
                  refine chainP_do (d := (some 64)) (fun v w => RdR rCipher w v [(enC gr key x y)]) (fun v w w' hb h => RdR.below h hb) rfl rfl (fun w' hS' => ?_) ?_
                  · simp only [lookP, allP, Act.put, List.getElem?_cons_zero, List.getElem?_cons_succ, List.setIfInBounds_toArray, List.set_cons_zero, List.set_cons_succ]
                    intro K hK
                    go_simp
                    refine hK.out _ _ ((Below.refl _ _).alloc (Nat.le_refl _) _) ?_
                    exact RdC.lit w' (l := [(enC gr key x y)]) (AllCI.cons (SmallC.ci (enC_small HG.out _ _ _)) AllCI.nil) rfl 1 rfl (by unfold maxLen; omega)
                  refine chainP_nil (fun u1 hS' => ?_)
                  simp only [allP, Act.put, List.setIfInBounds_toArray, List.set_cons_zero, List.set_cons_succ]
                  intro x9 hx9
                  have hq1 := hS'.1
                  clear hS'
                  replace hc := Below.next hc hq1
                  replace c0_0 := box_at c0_0 hq1
                  replace c0_1 := box_at c0_1 hq1
                  replace c0_2 := box_at c0_2 hq1
                  replace c3_0 := box_at c3_0 hq1
                  clear hq1
                  clear c0_0 c0_1 c0_2 c3_0
                  have HOU := Lib.hid (HOW.out.below hc)
                  have HX9 := Lib.hid hx9
                  obtain ⟨xa, xn, xc, rfl⟩ := hx9.shape
                  clear hx9
                  have HWU := Lib.hid (Below.next HBU.out hc)
                  have HCC := Lib.hid hc
                  clear hc
                  go_wp2_with (at_builtin; refine wpList_append_C rfl _ _ rfl HOU.out rfl rfl HX9.out HWU.out.size (by have := HLEN.out; simp only [List.length_cons, List.length_nil]; omega) ?_; intro v2' w2 hown2 hgr2)
                  have HO2 := Lib.hid hown2
                  have HG2 := Lib.hid hgr2
                  clear hown2 hgr2
                  go_wp2_with fail
                  refine NoPanic.normal ?_
                  go_wp2_with fail
                  go_roundg (vn - (k + 1))
                  case measure => omega
                  case rel => exact ⟨k + 1, by omega, by go_num, by rw [HS.out]; exact HO2.out, HWU.out.trans HG2.out⟩
                · obtain rfl : vn = k := by omega
                  have HFL : Hid ((rlL gr key l rs).take vn = rlL gr key l rs) := by unfold Hid; rw [List.take_of_length_le (by rw [rlL_length HLE.out, Ev.out]; exact Nat.le_refl _)]
                  have HPR : Hid (rlR gr key l rs = rlL gr key l rs) := by unfold Hid rlR; rw [if_pos HVB.out]
                  go_wp2_with fail
                  go_ret2
                  rw [HVB.out, HPR.out]
                  exact ⟨_, rfl, by rw [← HFL.out]; exact HOW.out.rd, HBW.out⟩
          | true =>
            have HLN : Hid (decide (rs.length = l.length) = false) := by have e1 := Ev2.out; have e2 := Ev.out; have q : (v2n : Int) ≠ vn := (by simpa using hc5); exact decide_eq_false (by omega)
            go_wp2_with fail
            have HVB : Hid (rlB gr key l rs = false) := by unfold Hid; simp [rlB, Hhc1.out, Hhc2.out, hc3, Hhc4.out, hc5, HLC.out, HLN.out]
            have HPR : Hid (rlR gr key l rs = []) := by unfold Hid rlR; rw [if_neg (by rw [HVB.out]; simp)]
            go_ret2
            rw [HVB.out, HPR.out]
            exact ⟨.slice none 0 0, rfl, RdR.nil _ _, HB.out.trans (hc.mono HB.out.size)⟩
      | true =>
        have HLC : Hid (decide (l.length ≤ 24) = false) := by have e1 := Ev.out; have q := of_decide_eq_true hc3; exact decide_eq_false (by omega)
        go_wp2_with fail
        have HVB : Hid (rlB gr key l rs = false) := by unfold Hid; simp [rlB, Hhc1.out, Hhc2.out, hc3, HLC.out]
        have HPR : Hid (rlR gr key l rs = []) := by unfold Hid rlR; rw [if_neg (by rw [HVB.out]; simp)]
        go_ret2
        rw [HVB.out, HPR.out]
        exact ⟨.slice none 0 0, rfl, RdR.nil _ _, HB.out.trans (hc.mono HB.out.size)⟩
set_option maxRecDepth 100000 in
set_option maxHeartbeats 4000000 in
theorem spec_RollOf (gr : GroupD) (key : Int) (v : Value) (l : List Int) (v2 : Value) (rs : List Int) (w : World) (hkey : I64 key) (h : Ints w v l) (h2 : Ints w v2 rs) :
    Calls Try.prog 62 #[.agg #[.int .i64 gr.p, .int .i64 gr.q, .int .i64 gr.g], .int .i64 key, v, v2] w fun e w' => ∃ v', e = .returned (.tuple #[v', .bool (rlB gr key l rs)]) ∧ RdR rCipher w' v' (rlR gr key l rs) ∧ Below w.heap.size w w' := by
  obtain ⟨va, vn, vc, rfl⟩ := h.shape
  have Ev := Lib.hid h.len
  have Kv := Lib.hid h.capMax
  have Hv := Lib.hid h
  clear h
  obtain ⟨v2a, v2n, v2c, rfl⟩ := h2.shape
  have Ev2 := Lib.hid h2.len
  have Kv2 := Lib.hid h2.capMax
  have Hv2 := Lib.hid h2
  clear h2
  obtain ⟨W, hW⟩ : ∃ W, W = w.alloc (.cells #[.int .i64 gr.p, .int .i64 gr.q, .int .i64 gr.g] 39) := ⟨_, rfl⟩
  have HB : Hid (Below w.heap.size w W) := by unfold Hid; rw [hW]; (repeat (first | exact Below.refl _ _ | assumption | refine Below.drew ?_ | refine Below.alloc ?_ (by first | (simp; done) | (simp; omega)) _ | refine Below.setCell ?_ (by first | (simp; done) | (simp; omega)) _))
  have c0_0 : W.cell? ⟨w.heap.size, 0, none⟩ = some (.int .i64 gr.p) := by rw [hW]; simp [go_sem]
  have c0_1 : W.cell? ⟨w.heap.size, 1, none⟩ = some (.int .i64 gr.q) := by rw [hW]; simp [go_sem]
  have c0_2 : W.cell? ⟨w.heap.size, 2, none⟩ = some (.int .i64 gr.g) := by rw [hW]; simp [go_sem]
  have HSW : Hid (W.heap.size = w.heap.size + 1) := by unfold Hid; rw [hW]; simp
  go_enter Try.func62, Try.ntmps62
  go_wp2_with fail
  rw [← hW]
  have hse : w.heap.size + 1 = W.heap.size := by have := HSW.out; omega
  (try rw [hse])
  clear hse
  clear hW
  have hc : Below W.heap.size W W := Below.refl _ _
  have HCC : Hid (∀ u, Below W.heap.size W u → u.cell? ⟨w.heap.size, 0, none⟩ = some (.int .i64 gr.p) ∧ u.cell? ⟨w.heap.size, 1, none⟩ = some (.int .i64 gr.q) ∧ u.cell? ⟨w.heap.size, 2, none⟩ = some (.int .i64 gr.g)) := fun u h => ⟨box_at c0_0 h, box_at c0_1 h, box_at c0_2 h⟩
  go_wp2_with fail
  refine (spec_eKey gr key _ hkey).mono ?_
  rintro e u1 ⟨rfl, hq1⟩
  replace hc := Below.next hc hq1
  clear hq1 c0_0 c0_1 c0_2
  obtain ⟨c0_0, c0_1, c0_2⟩ := HCC.out _ hc
  cases hc1 : goodG gr && elB gr key with
  | false =>
    have Hhc1 := Lib.hid hc1
    clear hc1
    go_wp2_with fail
    have HVB : Hid (rlB gr key l rs = false) := by unfold Hid; unfold rlB; rw [Hhc1.out]; rfl
    have HPR : Hid (rlR gr key l rs = []) := by unfold Hid rlR; rw [if_neg (by rw [HVB.out]; simp)]
    go_ret2
    rw [HVB.out, HPR.out]
    exact ⟨.slice none 0 0, rfl, RdR.nil _ _, HB.out.trans (hc.mono HB.out.size)⟩
  | true =>
    have HGK := hc1
    rw [Bool.and_eq_true] at HGK
    have HGD := Lib.hid HGK.1
    have HG := Lib.hid (goodG_ok HGK.1)
    have Hk := Lib.hid HGK.2
    clear HGK
    have Hhc1 := Lib.hid hc1
    clear hc1
    cases hc2 : decide (24 < (vn : Int)) with
    | false =>
      have HLC : Hid (decide (l.length ≤ 24) = true) := by have e1 := Ev.out; have q := of_decide_eq_false hc2; exact decide_eq_true (by omega)
      have HLC2 : Hid (l.length ≤ 24) := by unfold Hid; exact of_decide_eq_true HLC.out
      cases hc3 : ((v2n : Int) != (vn : Int)) with
      | false =>
        have HLN : Hid (decide (rs.length = l.length) = true) := by have e1 := Ev2.out; have e2 := Ev.out; have q : (v2n : Int) = vn := (by simpa using hc3); exact decide_eq_true (by omega)
        have HLE : Hid (rs.length = l.length) := by unfold Hid; exact of_decide_eq_true HLN.out
        go_wp2_with fail
        refine (spec_gExps gr _ rs _ HG.out (Hv2.out.below (HB.out.trans (hc.mono HB.out.size)))).mono ?_
        rintro e u2 ⟨rfl, hq2⟩
        replace hc := Below.next hc hq2
        clear hq2 c0_0 c0_1 c0_2
        obtain ⟨c0_0, c0_1, c0_2⟩ := HCC.out _ hc
        cases hc4 : rs.all (expB gr) with
        | false =>
          have Hhc4 := Lib.hid hc4
          clear hc4
          go_wp2_with fail
          have HVB : Hid (rlB gr key l rs = false) := by unfold Hid; simp [rlB, Hhc1.out, hc2, hc3, Hhc4.out, HGD.out, Hk.out, HLC.out, HLN.out]
          have HPR : Hid (rlR gr key l rs = []) := by unfold Hid rlR; rw [if_neg (by rw [HVB.out]; simp)]
          go_ret2
          rw [HVB.out, HPR.out]
          exact ⟨.slice none 0 0, rfl, RdR.nil _ _, HB.out.trans (hc.mono HB.out.size)⟩
        | true =>
          have HEA : Hid (rs.all (expB gr) = true) := hc4
          have Hhc4 := Lib.hid hc4
          clear hc4
          go_wp2_with fail
          have HC := Lib.hid hc
          have C0 := Lib.hid c0_0
          have C1 := Lib.hid c0_1
          have C2 := Lib.hid c0_2
          clear hc c0_0 c0_1 c0_2
          have HU := Lib.hid (OwnC.nil u2 _ : OwnC _ u2.heap.size (.slice none 0 0) ((rlL gr key l rs).take 0))
          have HUB := Lib.hid (Below.refl _ _ : Below u2.heap.size u2 _)
          go_loopg [10, 37] vn (fun gh ov iv wr => ∃ k : Nat, k + gh = vn ∧ iv = .int .i64 k ∧ OwnC wr u2.heap.size ov ((rlL gr key l rs).take k) ∧ Below u2.heap.size u2 wr ∧ (l.take k).all (crB gr) = true)
          case atStart => exact ⟨0, by omega, rfl, HU.out, HUB.out, rfl⟩
          case round =>
            obtain ⟨k, hkg, rfl, hown, hbu, hall⟩ := hrel
            clear HU HUB
            obtain ⟨oa, on, oc, rfl⟩ := hown.shape
            have HOW := Lib.hid hown
            clear hown
            have HBU := Lib.hid hbu
            clear hbu
            have HAT := Lib.hid hall
            clear hall
            have HBW := Lib.hid (HB.out.trans ((Below.next HC.out HBU.out).mono HB.out.size))
            by_cases hlt : k < vn
            · have HK : Hid (k < l.length) := by unfold Hid; have := Ev.out; omega
              have HK2 : Hid (k < rs.length) := by unfold Hid; rw [HLE.out]; exact HK.out
              have HS := Lib.hid (rlL_succ (gr := gr) (key := key) HK.out HK2.out)
              have HLEN : Hid (((rlL gr key l rs).take k).length ≤ 100000000) := by have h2 := List.length_take_le k (rlL gr key l rs); have h3 := HK.out; have h4 := HLC2.out; unfold Hid; omega
              have HEX := Lib.hid (Hv2.out.all.at_ k)
              have HIX := Lib.hid (Hv.out.all.at_ k)
              obtain ⟨bk1, oo1, rfl, hcx1⟩ := (Hv.out.below HBW.out).at_ (by have := Ev.out; have := HK.out; omega)
              have y1 := hcx1 k (by have := Ev.out; have := HK.out; omega)
              clear hcx1
              obtain ⟨bk2, oo2, rfl, hcx2⟩ := (Hv2.out.below HBW.out).at_ (by have := Ev2.out; have := HK2.out; omega)
              have y2 := hcx2 k (by have := Ev2.out; have := HK2.out; omega)
              clear hcx2
              generalize nth rs k = y at y2 HS HEX
              obtain ⟨x, hx0⟩ : ∃ x, nth l k = x := ⟨_, rfl⟩
              rw [hx0] at y1 HS HIX
              have HX0 := Lib.hid hx0
              clear hx0
              have b0 : (0 : Int) ≤ (k : Int) := by omega
              have b1 : (k : Int) < (v2n : Int) := by have := Ev2.out; have := HK2.out; omega
              have b2 : (k : Int) < (vn : Int) := by omega
              have hwk : IntKind.i64.wrap ((k : Int) + 1) = (k : Int) + 1 := IntWalk.i64_in _ (by have := Kv.out.1; have := Kv.out.2; unfold maxLen at this; omega)
              have c0_0 := box_at C0.out HBU.out
              have c0_1 := box_at C1.out HBU.out
              have c0_2 := box_at C2.out HBU.out
              have c3_0 := y2
              clear y2
              go_wp2_with fail
              refine (spec_dCredential gr x _ HIX.out).mono ?_
              rintro e V ⟨rfl, hc⟩
              rw [HGD.out, Bool.true_and]
              replace c0_0 := box_at c0_0 hc
              replace c0_1 := box_at c0_1 hc
              replace c0_2 := box_at c0_2 hc
              replace c3_0 := box_at c3_0 hc
              clear y1
              cases hcr : crB gr x with
              | false =>
                have HVB : Hid (rlB gr key l rs = false) := by
                  have q : l.all (crB gr) = false := all_not HK.out (by rw [HX0.out]; exact hcr)
                  unfold Hid rlB; rw [q]; simp
                have HPR : Hid (rlR gr key l rs = []) := by unfold Hid rlR; rw [if_neg (by rw [HVB.out]; simp)]
                clear hcr
                go_wp2_with fail
                go_ret2
                rw [HVB.out, HPR.out]
                exact ⟨.slice none 0 0, rfl, RdR.nil _ _, HBW.out.trans (hc.mono HBW.out.size)⟩
              | true =>
                have HCX : Hid (crB gr x = true) := hcr
                have HSX : Hid (Small x) := elB_small HG.out (crB_el HCX.out)
                clear hcr
                go_wp2_with fail
                try (go_wp2_with fail)
                refine wp_region_noPanic ?_
                refine wp_region_P (fun w' => w'.cell? ⟨w.heap.size, 0, none⟩ = some (.int .i64 gr.p) ∧ w'.cell? ⟨w.heap.size, 1, none⟩ = some (.int .i64 gr.q) ∧ w'.cell? ⟨w.heap.size, 2, none⟩ = some (.int .i64 gr.g) ∧ w'.cell? ⟨bk2, oo2 + k, none⟩ = some (.int .i64 y)) 14 [(0, []), (1, []), (2, []), (3, []), (4, []), (5, []), (6, [1, 0]), (7, [0]), (8, [6, 5, 4, 0]), (9, [0])] [10, 11] (by kernel_rfl) (by kernel_rfl) (by kernel_rfl) rfl (fun _ _ _ _ h => h) (fun w' h => ⟨box_at c0_0 h, box_at c0_1 h, box_at c0_2 h, box_at c3_0 h⟩) ?_
                simp only [pickP, pickN, List.getElem?_cons_zero, List.getElem?_cons_succ]
                iterate 8 (refine' chainP_read _ rfl rfl (fun w' hS' => ?_) ?_; rotate_left; · (simp only [lookP, allP, Act.put, List.getElem?_cons_zero, List.getElem?_cons_succ, List.setIfInBounds_toArray, List.set_cons_zero, List.set_cons_succ]; (try dsimp only at hS'); go_simp; (try with_reducible rfl)))
                -- 8: call { callee := value (func 157), args := #[t47, t48, t49, t53], argTypes := #[39, 3, 3, 3] }
                refine chainP_call (d := (some 54)) (.agg #[.int .i64 ((enC gr key x y).a), .int .i64 ((enC gr key x y).b)]) rfl rfl (fun w' hS' => ?_) ?_
                · simp only [lookP, allP, Act.put, List.getElem?_cons_zero, List.getElem?_cons_succ, List.setIfInBounds_toArray, List.set_cons_zero, List.set_cons_succ]
                  intro K hK
                  go_simp
                  go_at_call 157
                  refine (spec_eEnc gr key x y _ HG.out (elB_small HG.out Hk.out) HSX.out HEX.out).mono ?_
                  rintro e u ⟨rfl, hq⟩
                  exact hK.out _ hq
                -- 9: buildSlice 52 1 #[(0, t54)]
                refine chainP_do (d := (some 55)) (fun v w => RdR rCipher w v [(enC gr key x y)]) (fun v w w' hb h => RdR.below h hb) rfl rfl (fun w' hS' => ?_) ?_
                · simp only [lookP, allP, Act.put, List.getElem?_cons_zero, List.getElem?_cons_succ, List.setIfInBounds_toArray, List.set_cons_zero, List.set_cons_succ]
                  intro K hK
                  go_simp
                  refine hK.out _ _ ((Below.refl _ _).alloc (Nat.le_refl _) _) ?_
                  exact RdC.lit w' (l := [(enC gr key x y)]) (AllCI.cons (SmallC.ci (enC_small HG.out _ _ _)) AllCI.nil) rfl 1 rfl (by unfold maxLen; omega)
                refine chainP_nil (fun u1 hS' => ?_)
                simp only [allP, Act.put, List.setIfInBounds_toArray, List.set_cons_zero, List.set_cons_succ]
                intro x9 hx9
                have hq1 := hS'.1
                clear hS'
                replace hc := Below.next hc hq1
                replace c0_0 := box_at c0_0 hq1
                replace c0_1 := box_at c0_1 hq1
                replace c0_2 := box_at c0_2 hq1
                replace c3_0 := box_at c3_0 hq1
                clear hq1
                clear c0_0 c0_1 c0_2 c3_0
                have HOU := Lib.hid (HOW.out.below hc)
                have HX9 := Lib.hid hx9
                obtain ⟨xa, xn, xc, rfl⟩ := hx9.shape
                clear hx9
                have HWU := Lib.hid (Below.next HBU.out hc)
                have HCC := Lib.hid hc
                clear hc
                go_wp2_with (at_builtin; refine wpList_append_C rfl _ _ rfl HOU.out rfl rfl HX9.out HWU.out.size (by have := HLEN.out; simp only [List.length_cons, List.length_nil]; omega) ?_; intro v2' w2 hown2 hgr2)
                have HO2 := Lib.hid hown2
                have HG2 := Lib.hid hgr2
                clear hown2 hgr2
                go_wp2_with fail
                refine NoPanic.normal ?_
                go_wp2_with fail
                go_roundg (vn - (k + 1))
                case measure => omega
                case rel => exact ⟨k + 1, by omega, by go_num, by rw [HS.out]; exact HO2.out, HWU.out.trans HG2.out, allT_succ HK.out HAT.out (by rw [HX0.out]; exact HCX.out)⟩
            · obtain rfl : vn = k := by omega
              have HFL : Hid ((rlL gr key l rs).take vn = rlL gr key l rs) := by unfold Hid; rw [List.take_of_length_le (by rw [rlL_length HLE.out, Ev.out]; exact Nat.le_refl _)]
              have HVB : Hid (rlB gr key l rs = true) := by
                have q := HAT.out
                rw [List.take_of_length_le (by rw [Ev.out]; exact Nat.le_refl _)] at q
                unfold Hid rlB; rw [HGD.out, Hk.out, HLC.out, q, HLN.out, HEA.out]; rfl
              have HPR : Hid (rlR gr key l rs = rlL gr key l rs) := by unfold Hid rlR; rw [if_pos HVB.out]
              go_wp2_with fail
              go_ret2
              rw [HVB.out, HPR.out]
              exact ⟨_, rfl, by rw [← HFL.out]; exact HOW.out.rd, HBW.out⟩
      | true =>
        have HLN : Hid (decide (rs.length = l.length) = false) := by have e1 := Ev2.out; have e2 := Ev.out; have q : (v2n : Int) ≠ vn := (by simpa using hc3); exact decide_eq_false (by omega)
        go_wp2_with fail
        have HVB : Hid (rlB gr key l rs = false) := by unfold Hid; simp [rlB, Hhc1.out, hc2, hc3, HGD.out, Hk.out, HLC.out, HLN.out]
        have HPR : Hid (rlR gr key l rs = []) := by unfold Hid rlR; rw [if_neg (by rw [HVB.out]; simp)]
        go_ret2
        rw [HVB.out, HPR.out]
        exact ⟨.slice none 0 0, rfl, RdR.nil _ _, HB.out.trans (hc.mono HB.out.size)⟩
    | true =>
      have HLC : Hid (decide (l.length ≤ 24) = false) := by have e1 := Ev.out; have q := of_decide_eq_true hc2; exact decide_eq_false (by omega)
      go_wp2_with fail
      have HVB : Hid (rlB gr key l rs = false) := by unfold Hid; simp [rlB, Hhc1.out, hc2, HGD.out, Hk.out, HLC.out]
      have HPR : Hid (rlR gr key l rs = []) := by unfold Hid rlR; rw [if_neg (by rw [HVB.out]; simp)]
      go_ret2
      rw [HVB.out, HPR.out]
      exact ⟨.slice none 0 0, rfl, RdR.nil _ _, HB.out.trans (hc.mono HB.out.size)⟩
set_option maxRecDepth 100000 in
set_option maxHeartbeats 2000000 in
theorem impl_EncryptElement (gr : GroupD) (key m r : Int) (w : World) (ikey : I64 key) (im : I64 m) (hr : I64 r) :
    Calls Try.prog 68 #[.agg #[.int .i64 gr.p, .int .i64 gr.q, .int .i64 gr.g], .int .i64 key, .int .i64 m, .int .i64 r] w fun e w' => e = .returned (.tuple #[.agg #[.int .i64 (eeR gr key m r).a, .int .i64 (eeR gr key m r).b], .bool (eeB gr key m r)]) ∧ Below w.heap.size w w' := by
  have ikm : True := trivial
  obtain ⟨W, hW⟩ : ∃ W, W = (w.alloc (.cells #[.int .i64 gr.p, .int .i64 gr.q, .int .i64 gr.g] 39)).alloc (.cells #[.int .i64 0, .int .i64 0] 58) := ⟨_, rfl⟩
  have HB : Hid (Below w.heap.size w W) := by unfold Hid; rw [hW]; (repeat (first | exact Below.refl _ _ | assumption | refine Below.drew ?_ | refine Below.alloc ?_ (by first | (simp; done) | (simp; omega)) _ | refine Below.setCell ?_ (by first | (simp; done) | (simp; omega)) _))
  have c0_0 : W.cell? ⟨w.heap.size, 0, none⟩ = some (.int .i64 gr.p) := by rw [hW]; simp [go_sem]
  have c0_1 : W.cell? ⟨w.heap.size, 1, none⟩ = some (.int .i64 gr.q) := by rw [hW]; simp [go_sem]
  have c0_2 : W.cell? ⟨w.heap.size, 2, none⟩ = some (.int .i64 gr.g) := by rw [hW]; simp [go_sem]
  have HR1 : Hid (BoxN W (w.heap.size + 1) 58 [.int .i64 0, .int .i64 0]) := by unfold Hid; rw [hW]; have h := (BoxN.new (w.alloc (.cells #[.int .i64 gr.p, .int .i64 gr.q, .int .i64 gr.g] 39)) [.int .i64 0, .int .i64 0] 58); simpa using h
  have HSW : Hid (W.heap.size = w.heap.size + 2) := by unfold Hid; rw [hW]; simp
  have lr1 : w.heap.size + 1 < W.heap.size := by have := HSW.out; omega
  go_enter Try.func68, Try.ntmps68
  go_wp2_with fail
  rw [← hW]
  have hse : w.heap.size + 1 + 1 = W.heap.size := by have := HSW.out; omega
  (try rw [hse])
  clear hse
  clear hW
  have hc : Below W.heap.size W W := Below.refl _ _
  have HCC : Hid (∀ u, Below W.heap.size W u → u.cell? ⟨w.heap.size, 0, none⟩ = some (.int .i64 gr.p) ∧ u.cell? ⟨w.heap.size, 1, none⟩ = some (.int .i64 gr.q) ∧ u.cell? ⟨w.heap.size, 2, none⟩ = some (.int .i64 gr.g)) := fun u h => ⟨box_at c0_0 h, box_at c0_1 h, box_at c0_2 h⟩
  go_wp2_with fail
  refine (impl_IsValidGroup gr _).mono ?_
  rintro e u1 ⟨rfl, hq1⟩
  replace hc := Below.next hc hq1
  clear hq1 c0_0 c0_1 c0_2
  obtain ⟨c0_0, c0_1, c0_2⟩ := HCC.out _ hc
  cases hc1 : goodG gr with
  | false =>
    have Hhc1 := Lib.hid hc1
    clear hc1
    have HRE1 := Lib.hid (HR1.out.below hc)
    clear HR1
    have HBE := Lib.hid (HB.out.trans (hc.mono HB.out.size))
    have r1_0 := HRE1.out.cell (i := 0) rfl
    have r1_1 := HRE1.out.cell (i := 1) rfl
    have fr1 := fun j => HRE1.out.frozen j
    go_wp2_with fail
    have HRF := Lib.hid ((HRE1.out.set 0 (.int .i64 0)).set 1 (.int .i64 0))
    have HBF := Lib.hid ((HBE.out.setCell (p := ⟨w.heap.size + 1, 0, none⟩) (by show w.heap.size ≤ w.heap.size + 1; omega) (.int .i64 0)).setCell (p := ⟨w.heap.size + 1, 1, none⟩) (by show w.heap.size ≤ w.heap.size + 1; omega) (.int .i64 0))
    clear r1_0 r1_1 fr1
    have r1_0 := HRF.out.cell (i := 0) rfl
    have r1_1 := HRF.out.cell (i := 1) rfl
    try (go_wp2_with fail)
    have HV : Hid ((.tuple #[.agg #[.int .i64 (eeR gr key m r).a, .int .i64 (eeR gr key m r).b], .bool (eeB gr key m r)] : Value) = .tuple #[.agg #[.int .i64 0, .int .i64 0], .bool false]) := by unfold Hid; simp [eeB, eeR, Hhc1.out]
    refine bodyPost_ret (v := .tuple #[.agg #[.int .i64 0, .int .i64 0], .bool false]) (by simp [results, Try.results68, go_sem, r1_0, r1_1]) rfl ⟨congrArg Ending.returned HV.out.symm, HBF.out⟩
  | true =>
    have HG := Lib.hid (goodG_ok hc1)
    have Hhc1 := Lib.hid hc1
    clear hc1
    go_wp2_with fail
    refine (impl_hasAll gr _ [key, m] _ HG.out (OwnI.lit (B := 0) _ (Nat.zero_le _) (l := [key, m]) (AllI64.cons ikey (AllI64.cons im AllI64.nil)) rfl (by simp [maxLen]) 2 rfl).ints).mono ?_
    rintro e u2 ⟨rfl, hq2⟩
    replace hq2 := Below.next (keep_al (Below.refl _ _) _) hq2
    replace hc := Below.next hc hq2
    clear hq2 c0_0 c0_1 c0_2
    obtain ⟨c0_0, c0_1, c0_2⟩ := HCC.out _ hc
    cases hc2 : [key, m].all (elB gr) with
    | false =>
      have Hhc2 := Lib.hid hc2
      clear hc2
      have HRE1 := Lib.hid (HR1.out.below hc)
      clear HR1
      have HBE := Lib.hid (HB.out.trans (hc.mono HB.out.size))
      have r1_0 := HRE1.out.cell (i := 0) rfl
      have r1_1 := HRE1.out.cell (i := 1) rfl
      have fr1 := fun j => HRE1.out.frozen j
      go_wp2_with fail
      have HRF := Lib.hid ((HRE1.out.set 0 (.int .i64 0)).set 1 (.int .i64 0))
      have HBF := Lib.hid ((HBE.out.setCell (p := ⟨w.heap.size + 1, 0, none⟩) (by show w.heap.size ≤ w.heap.size + 1; omega) (.int .i64 0)).setCell (p := ⟨w.heap.size + 1, 1, none⟩) (by show w.heap.size ≤ w.heap.size + 1; omega) (.int .i64 0))
      clear r1_0 r1_1 fr1
      have r1_0 := HRF.out.cell (i := 0) rfl
      have r1_1 := HRF.out.cell (i := 1) rfl
      try (go_wp2_with fail)
      have HV : Hid ((.tuple #[.agg #[.int .i64 (eeR gr key m r).a, .int .i64 (eeR gr key m r).b], .bool (eeB gr key m r)] : Value) = .tuple #[.agg #[.int .i64 0, .int .i64 0], .bool false]) := by unfold Hid; have qhc2 := Hhc2.out; simp only [List.all_cons, List.all_nil, Bool.and_true] at qhc2; simp [eeB, eeR, Hhc1.out, qhc2]
      refine bodyPost_ret (v := .tuple #[.agg #[.int .i64 0, .int .i64 0], .bool false]) (by simp [results, Try.results68, go_sem, r1_0, r1_1]) rfl ⟨congrArg Ending.returned HV.out.symm, HBF.out⟩
    | true =>
      have HKM : Hid (elB gr key = true ∧ elB gr m = true) := by unfold Hid; simpa using hc2
      have hkey : Small key := elB_small HG.out HKM.out.1
      have hm : Small m := elB_small HG.out HKM.out.2
      have Hhc2 := Lib.hid hc2
      clear hc2
      go_wp2_with fail
      refine (impl_isExp gr r _ HG.out).mono ?_
      rintro e u3 ⟨rfl, hq3⟩
      replace hc := Below.next hc hq3
      clear hq3 c0_0 c0_1 c0_2
      obtain ⟨c0_0, c0_1, c0_2⟩ := HCC.out _ hc
      cases hc3 : expB gr r with
      | false =>
        have Hhc3 := Lib.hid hc3
        clear hc3
        have HRE1 := Lib.hid (HR1.out.below hc)
        clear HR1
        have HBE := Lib.hid (HB.out.trans (hc.mono HB.out.size))
        have r1_0 := HRE1.out.cell (i := 0) rfl
        have r1_1 := HRE1.out.cell (i := 1) rfl
        have fr1 := fun j => HRE1.out.frozen j
        go_wp2_with fail
        have HRF := Lib.hid ((HRE1.out.set 0 (.int .i64 0)).set 1 (.int .i64 0))
        have HBF := Lib.hid ((HBE.out.setCell (p := ⟨w.heap.size + 1, 0, none⟩) (by show w.heap.size ≤ w.heap.size + 1; omega) (.int .i64 0)).setCell (p := ⟨w.heap.size + 1, 1, none⟩) (by show w.heap.size ≤ w.heap.size + 1; omega) (.int .i64 0))
        clear r1_0 r1_1 fr1
        have r1_0 := HRF.out.cell (i := 0) rfl
        have r1_1 := HRF.out.cell (i := 1) rfl
        try (go_wp2_with fail)
        have HV : Hid ((.tuple #[.agg #[.int .i64 (eeR gr key m r).a, .int .i64 (eeR gr key m r).b], .bool (eeB gr key m r)] : Value) = .tuple #[.agg #[.int .i64 0, .int .i64 0], .bool false]) := by unfold Hid; have qhc2 := Hhc2.out; simp only [List.all_cons, List.all_nil, Bool.and_true] at qhc2; simp [eeB, eeR, Hhc1.out, qhc2, Hhc3.out]
        refine bodyPost_ret (v := .tuple #[.agg #[.int .i64 0, .int .i64 0], .bool false]) (by simp [results, Try.results68, go_sem, r1_0, r1_1]) rfl ⟨congrArg Ending.returned HV.out.symm, HBF.out⟩
      | true =>
        have Hhc3 := Lib.hid hc3
        clear hc3
        go_wp2_with fail
        refine (impl_encrypt gr key m r _ HG.out hkey hm hr).mono ?_
        rintro e u4 ⟨rfl, hq4⟩
        replace hc := Below.next hc hq4
        clear hq4 c0_0 c0_1 c0_2
        obtain ⟨c0_0, c0_1, c0_2⟩ := HCC.out _ hc
        have HRE1 := Lib.hid (HR1.out.below hc)
        clear HR1
        have HBE := Lib.hid (HB.out.trans (hc.mono HB.out.size))
        have r1_0 := HRE1.out.cell (i := 0) rfl
        have r1_1 := HRE1.out.cell (i := 1) rfl
        have fr1 := fun j => HRE1.out.frozen j
        go_wp2_with fail
        have HRF := Lib.hid ((HRE1.out.set 0 (.int .i64 ((enC gr key m r).a))).set 1 (.int .i64 ((enC gr key m r).b)))
        have HBF := Lib.hid ((HBE.out.setCell (p := ⟨w.heap.size + 1, 0, none⟩) (by show w.heap.size ≤ w.heap.size + 1; omega) (.int .i64 ((enC gr key m r).a))).setCell (p := ⟨w.heap.size + 1, 1, none⟩) (by show w.heap.size ≤ w.heap.size + 1; omega) (.int .i64 ((enC gr key m r).b)))
        clear r1_0 r1_1 fr1
        have r1_0 := HRF.out.cell (i := 0) rfl
        have r1_1 := HRF.out.cell (i := 1) rfl
        try (go_wp2_with fail)
        have HV : Hid ((.tuple #[.agg #[.int .i64 (eeR gr key m r).a, .int .i64 (eeR gr key m r).b], .bool (eeB gr key m r)] : Value) = .tuple #[.agg #[.int .i64 ((enC gr key m r).a), .int .i64 ((enC gr key m r).b)], .bool true]) := by unfold Hid; have qhc2 := Hhc2.out; simp only [List.all_cons, List.all_nil, Bool.and_true] at qhc2; simp [eeB, eeR, Hhc1.out, qhc2, Hhc3.out]
        refine bodyPost_ret (v := .tuple #[.agg #[.int .i64 ((enC gr key m r).a), .int .i64 ((enC gr key m r).b)], .bool true]) (by simp [results, Try.results68, go_sem, r1_0, r1_1]) rfl ⟨congrArg Ending.returned HV.out.symm, HBF.out⟩
end Go.Proofs.Ytboahnklilmdpaa
