/- The law on products of powers and logarithms: its walk. -/
import Derived.Test.YtcpigedjblkcfaaDrG7
import Derived.Test.YtcpigedjblkcfaaPow3
namespace Go.Proofs.Ytcpigedjblkcfaa
open Go.RowKit
set_option linter.unusedSimpArgs false
set_option linter.unusedVariables false

theorem elB_powE {gr : GroupD} (hg : OkG gr) {x : Int} (h : elB gr x = true) (e : Int) : elB gr (powE gr x e) = true := by
  have hp := hg.p1
  have hq := hg.q1
  obtain ⟨h0, h1⟩ := powE_bd hg x e
  have hx := elB_pow h
  obtain ⟨k, hk⟩ : ∃ k, (e % gr.q).toNat = k := ⟨_, rfl⟩
  have e1 : powM (powE gr x e) gr.q gr.p = 1 := by
    unfold powE powM
    rw [hk, emod_pow]
    unfold powM at hx
    rw [← Int.pow_mul, Nat.mul_comm, Int.pow_mul, ← emod_pow, hx]
    rw [show (1 : Int) ^ k = 1 from Int.one_pow]
    exact Int.emod_eq_of_lt (by omega) (by omega)
  have h2 : powE gr x e ≠ 0 := fun h3 => by
    rw [h3] at e1
    unfold powM at e1
    obtain ⟨n, hn⟩ : ∃ n, gr.q.toNat = n + 1 := ⟨gr.q.toNat - 1, by omega⟩
    rw [hn, Int.pow_succ, Int.mul_zero] at e1
    simp at e1
  unfold elB
  rw [e1, Bool.and_eq_true, decide_eq_true_iff]
  exact ⟨by omega, rfl⟩
theorem powE_yE {gr : GroupD} (b : Int) {j : Nat} (h : (j : Int) < gr.q) : powE gr b j = yE gr b j := by
  unfold powE yE
  rw [Int.emod_eq_of_lt (by omega) h]
def pwL (gr : GroupD) (l es : List Int) : List Int := (l.zip es).map fun x => powE gr x.1 x.2
theorem mulL_pwL (gr : GroupD) (l es : List Int) : mulL gr (pwL gr l es) = prodL gr l es := by
  unfold mulL pwL prodL
  rw [List.foldl_map]
theorem pwL_el {gr : GroupD} (hg : OkG gr) {l es : List Int} (h : l.all (elB gr) = true) : (pwL gr l es).all (elB gr) = true := by
  refine List.all_eq_true.2 fun y hy => ?_
  obtain ⟨x, hx, rfl⟩ := List.mem_map.1 hy
  exact elB_powE hg (List.all_eq_true.1 h _ (List.of_mem_zip hx).1) _
theorem pwL_length {gr : GroupD} {l es : List Int} (h : es.length = l.length) : (pwL gr l es).length = l.length := by
  unfold pwL; rw [List.length_map, List.length_zip, h, Nat.min_self]
theorem pwL_succ {gr : GroupD} {l es : List Int} {k : Nat} (h : k < l.length) (h2 : k < es.length) : (pwL gr l es).take (k + 1) = (pwL gr l es).take k ++ [powE gr (nth l k) (nth es k)] := by
  unfold pwL
  rw [← List.map_take, ← List.map_take, zip_take_succ h h2, List.map_append]; rfl
theorem ppB_parts {gr : GroupD} {l es : List Int} (h : ppB gr l es = true) : goodG gr = true ∧ l.length ≤ 24 ∧ es.length = l.length ∧ l.all (elB gr) = true ∧ es.all (expB gr) = true := by
  unfold ppB at h
  simp only [Bool.and_eq_true, decide_eq_true_iff] at h
  exact h
theorem loB_parts {gr : GroupD} {b x m : Int} (h : loB gr b x m = true) : goodG gr = true ∧ elB gr b = true ∧ ∃ j : Nat, loR gr b x m = j ∧ (j : Int) ≤ m ∧ (j : Int) < gr.q ∧ yE gr b j = x := by
  have hr : loR gr b x m = lgF gr b x 0 (lgM gr m) := by unfold loR; rw [if_pos h]
  unfold loB at h
  rw [Bool.and_eq_true, decide_eq_true_iff] at h
  obtain ⟨h1, h2⟩ := h
  unfold loA at h1
  simp only [Bool.and_eq_true, decide_eq_true_iff] at h1
  obtain ⟨hg, ⟨hb, _⟩, hm⟩ := h1
  refine ⟨hg, hb, ?_⟩
  rcases lgF_some (gr := gr) (b := b) (x := x) (n := lgM gr m) (k := 0) with h3 | ⟨j, h3, _, h4, h5⟩
  · rw [h3] at h2; omega
  · have := (goodG_ok hg).q1
    unfold lgM at h4
    exact ⟨j, hr.trans h3, by omega, by omega, h5⟩
set_option maxRecDepth 100000 in
set_option maxHeartbeats 8000000 in
theorem law_Powers (va vb : Value) (w : World) (h1 : Bytes w va) (h2 : Bytes w vb) :
    Calls Try.prog 10 #[va, vb] w fun e w' => e = .returned (.bool true) ∧ Below w.heap.size w w' := by
  obtain ⟨a, m, c, rfl, k1, k2, hv⟩ := h1
  obtain ⟨a', m', c', rfl, k3, k4, hv'⟩ := h2
  have H1 : Hid (Bytes w (.slice a m c)) := ⟨a, m, c, rfl, k1, k2, hv⟩
  have H2 : Hid (Bytes w (.slice a' m' c')) := ⟨a', m', c', rfl, k3, k4, hv'⟩
  clear hv hv'
  unfold maxLen at k2 k4
  by_cases hbig : (1048576 : Int) < wrap64 ((m : Int) + (m' : Int))
  · go_enter Try.func10, Try.ntmps10
    go_wp2_with fail
    go_ret
    exact ⟨rfl, Below.refl _ _⟩
  go_enter Try.func10, Try.ntmps10
  go_wp2_with fail
  refine (spec_DrawProductOfPowers _ _ H1.out).mono ?_
  rintro e w1 ⟨⟨P, Q, G, v1, v2, rfl, hgr, l, es, hl, he, hl60, he100⟩, hb⟩
  obtain ⟨a1, n1, c1', rfl⟩ := hl.shape
  obtain ⟨a2, n2', c2', rfl⟩ := he.shape
  have hn60 : n1 ≤ 60 := by have := hl.len; omega
  obtain ⟨V, hV⟩ : ∃ V, V = w1.alloc (.cells #[.int .i64 P, .int .i64 Q, .int .i64 G] 30) := ⟨_, rfl⟩
  have hbV : Below w1.heap.size w1 V := by rw [hV]; exact (Below.refl _ _).alloc (Nat.le_refl _) _
  have HZ : Hid (BoxN V w1.heap.size 30 [.int .i64 P, .int .i64 Q, .int .i64 G]) := by unfold Hid; rw [hV]; exact BoxN.new w1 _ _
  have HL := Lib.hid (hl.below hbV)
  have HE := Lib.hid (he.below hbV)
  have HB := Lib.hid (Below.next hb hbV)
  clear hb hbV hl he hgr
  go_wp2_with fail
  rw [← hV]
  clear hV
  try (go_wp2_with fail)
  refine (impl_ProductOfPowers ⟨P, Q, G⟩ _ _ l es _ HL.out HE.out).mono ?_
  rintro e w2 ⟨rfl, hb⟩
  obtain ⟨r1, hr1⟩ : ∃ r, ppR ⟨P, Q, G⟩ l es = r := ⟨_, rfl⟩
  obtain ⟨q1, hq1⟩ : ∃ b, ppB ⟨P, Q, G⟩ l es = b := ⟨_, rfl⟩
  have HR1 := Lib.hid hr1
  have HQ1 := Lib.hid hq1
  rw [hr1, hq1]
  clear hr1 hq1
  replace HB := Lib.hid (Below.next HB.out hb)
  replace HL := Lib.hid (HL.out.below hb)
  replace HE := Lib.hid (HE.out.below hb)
  replace HZ := Lib.hid (HZ.out.below hb)
  clear hb
  have c0 := HZ.out.cell (i := 0) rfl
  have c1 := HZ.out.cell (i := 1) rfl
  have c2 := HZ.out.cell (i := 2) rfl
  go_wp2_with fail
  refine (spec_ProductOfPowers ⟨P, Q, G⟩ _ _ l es _ HL.out HE.out).mono ?_
  rintro e w3 ⟨rfl, hb⟩
  rw [HR1.out, HQ1.out]
  replace HB := Lib.hid (Below.next HB.out hb)
  replace HL := Lib.hid (HL.out.below hb)
  replace HE := Lib.hid (HE.out.below hb)
  replace HZ := Lib.hid (HZ.out.below hb)
  clear hb c0 c1 c2
  go_wp2_with fail
  refine (spec_DrawLogOf _ _ (H2.out.below HB.out)).mono ?_
  rintro e w4 ⟨⟨P2, Q2, G2, B, Y, M, rfl, _, hb64, hy64, hm64⟩, hb⟩
  have HBI := Lib.hid hb64
  have HYI := Lib.hid hy64
  have HMI := Lib.hid hm64
  replace HB := Lib.hid (Below.next HB.out hb)
  replace HL := Lib.hid (HL.out.below hb)
  replace HE := Lib.hid (HE.out.below hb)
  replace HZ := Lib.hid (HZ.out.below hb)
  clear hb hb64 hy64 hm64
  obtain ⟨V2, hV2⟩ : ∃ V, V = w4.alloc (.cells #[.int .i64 P2, .int .i64 Q2, .int .i64 G2] 30) := ⟨_, rfl⟩
  have hbV : Below w4.heap.size w4 V2 := by rw [hV2]; exact (Below.refl _ _).alloc (Nat.le_refl _) _
  have HY : Hid (BoxN V2 w4.heap.size 30 [.int .i64 P2, .int .i64 Q2, .int .i64 G2]) := by unfold Hid; rw [hV2]; exact BoxN.new w4 _ _
  replace HB := Lib.hid (Below.next HB.out hbV)
  replace HL := Lib.hid (HL.out.below hbV)
  replace HE := Lib.hid (HE.out.below hbV)
  replace HZ := Lib.hid (HZ.out.below hbV)
  clear hbV
  go_wp2_with fail
  rw [← hV2]
  clear hV2
  try (go_wp2_with fail)
  refine (impl_LogOf ⟨P2, Q2, G2⟩ B Y M _ HBI.out HYI.out).mono ?_
  rintro e w5 ⟨rfl, hb⟩
  obtain ⟨r2, hr2⟩ : ∃ r, loR ⟨P2, Q2, G2⟩ B Y M = r := ⟨_, rfl⟩
  obtain ⟨q2, hq2⟩ : ∃ b, loB ⟨P2, Q2, G2⟩ B Y M = b := ⟨_, rfl⟩
  have HR2 := Lib.hid hr2
  have HQ2 := Lib.hid hq2
  rw [hr2, hq2]
  clear hr2 hq2
  replace HB := Lib.hid (Below.next HB.out hb)
  replace HL := Lib.hid (HL.out.below hb)
  replace HE := Lib.hid (HE.out.below hb)
  replace HZ := Lib.hid (HZ.out.below hb)
  replace HY := Lib.hid (HY.out.below hb)
  clear hb
  have d0 := HY.out.cell (i := 0) rfl
  have d1 := HY.out.cell (i := 1) rfl
  have d2 := HY.out.cell (i := 2) rfl
  go_wp2_with fail
  refine (spec_LogOf ⟨P2, Q2, G2⟩ B Y M _ HBI.out HYI.out).mono ?_
  rintro e w6 ⟨rfl, hb⟩
  rw [HR2.out, HQ2.out]
  replace HB := Lib.hid (Below.next HB.out hb)
  replace HL := Lib.hid (HL.out.below hb)
  replace HE := Lib.hid (HE.out.below hb)
  replace HZ := Lib.hid (HZ.out.below hb)
  replace HY := Lib.hid (HY.out.below hb)
  clear hb d0 d1 d2
  have eq1 : (q1 == q1) = true := by simp
  have eq2 : (q2 == q2) = true := by simp
  have er1 : (r1 == r1) = true := by simp
  have er2 : (r2 == r2) = true := by simp
  cases q2 with
  | false =>
    cases q1 with
    | false =>
      go_wp2_with fail
      go_ret
      exact ⟨rfl, HB.out⟩
    | true =>
      go_wp2_with fail
      have HGD := Lib.hid (ppB_parts HQ1.out).1
      have HG := Lib.hid (goodG_ok HGD.out)
      have HPL := Lib.hid (ppB_parts HQ1.out).2.1
      have HPE := Lib.hid (ppB_parts HQ1.out).2.2.1
      have HPA := Lib.hid (ppB_parts HQ1.out).2.2.2.1
      have HPX := Lib.hid (ppB_parts HQ1.out).2.2.2.2
      have HLW := Lib.hid (pwL_length (gr := ⟨P, Q, G⟩) HPE.out)
      have HN1 : Hid (l.length = n1) := HL.out.len
      have HN2 : Hid (es.length = n2') := HE.out.len
      have hn24 : n1 ≤ 24 := by have := HN1.out; have := HPL.out; omega
      have hn2e : n2' = n1 := by have := HN1.out; have := HN2.out; have := HPE.out; omega
      subst hn2e
      try (go_wp2_with fail)
      obtain ⟨wA, hwA⟩ : ∃ u, u = w6 := ⟨_, rfl⟩
      rw [← hwA] at HB HL HE HZ ⊢
      clear hwA
      have HO0 : Hid (∀ u B, OwnI u B (.slice none 0 0) []) := fun u B => OwnI.nil u _
      go_loopg [22, 122] n2' (fun gk ov kv wr => ∃ k : Nat, k + gk = n2' ∧ kv = .int .i64 k ∧ OwnI wr wA.heap.size ov ((pwL ⟨P, Q, G⟩ l es).take k) ∧ Below wA.heap.size wA wr)
      case atStart => exact ⟨0, by omega, rfl, HO0.out _ _, Below.refl _ _⟩
      case round =>
        obtain ⟨k, hk, rfl, hO, hbw⟩ := hrel
        have HZr := Lib.hid (HZ.out.below hbw)
        have c0 := HZr.out.cell (i := 0) rfl
        have c1 := HZr.out.cell (i := 1) rfl
        have c2 := HZr.out.cell (i := 2) rfl
        obtain ⟨ao, co, rfl⟩ := hO.shape
        have hsr := hbw.size
        by_cases hlt : k < n2'
        · have HK1 : Hid (k < l.length) := by unfold Hid; rw [HN1.out]; exact hlt
          have HK2 : Hid (k < es.length) := by unfold Hid; rw [HN2.out]; exact hlt
          have HTK : Hid (((pwL ⟨P, Q, G⟩ l es).take k).length = k) := by unfold Hid; rw [List.length_take, HLW.out, HN1.out]; omega
          have HS := Lib.hid (pwL_succ (gr := ⟨P, Q, G⟩) HK1.out HK2.out)
          obtain ⟨u1, o1, rfl, hcx1⟩ := (HL.out.below hbw).at_ (by omega)
          obtain ⟨u2, o2, rfl, hcx2⟩ := (HE.out.below hbw).at_ (by omega)
          have y1 := hcx1 k hlt
          have y2 := hcx2 k hlt
          have HXE : Hid (elB ⟨P, Q, G⟩ (nth l k) = true) := by unfold Hid; rw [nth_eq HK1.out]; exact List.all_eq_true.1 HPA.out _ (List.getElem_mem _)
          have HEE : Hid (expB ⟨P, Q, G⟩ (nth es k) = true) := by unfold Hid; rw [nth_eq HK2.out]; exact List.all_eq_true.1 HPX.out _ (List.getElem_mem _)
          clear hcx1 hcx2
          obtain ⟨x, hx⟩ : ∃ x, nth l k = x := ⟨_, rfl⟩
          obtain ⟨ee, hee⟩ : ∃ x, nth es k = x := ⟨_, rfl⟩
          rw [hx] at y1 HXE HS
          rw [hee] at y2 HEE HS
          clear hx hee
          have HYB := powE_bd HG.out x ee
          replace HYB : 0 ≤ powE ⟨P, Q, G⟩ x ee ∧ powE ⟨P, Q, G⟩ x ee < P := HYB
          have hpp : P ≤ 2000000000 := HG.out.p2
          have hqq : Q ≤ P - 1 := HG.out.q2
          obtain ⟨ee0, ee1⟩ := expB_bd HEE.out
          replace ee1 : ee ≤ Q - 1 := ee1
          have HXB : Hid (exB ⟨P, Q, G⟩ x ee = true) := by unfold Hid exB; rw [HGD.out, HXE.out, HEE.out]; rfl
          have HXR : Hid (exR ⟨P, Q, G⟩ x ee = powE ⟨P, Q, G⟩ x ee) := by unfold Hid exR; rw [if_pos HXB.out]
          obtain ⟨y, hy⟩ : ∃ y, powE ⟨P, Q, G⟩ x ee = y := ⟨_, rfl⟩
          rw [hy] at HS HYB HXR
          clear hy
          obtain ⟨yy0, yy1⟩ := HYB
          obtain ⟨R, hR⟩ : ∃ R, (pwL ⟨P, Q, G⟩ l es).take k = R := ⟨_, rfl⟩
          rw [hR] at hO HS HTK ⊢
          clear hR
          rw [HTK.out] at hO ⊢
          have HO := Lib.hid hO
          have HBW := Lib.hid hbw
          have k0 : (0 : Int) ≤ (k : Int) := by omega
          have k1 : (k : Int) < (n2' : Int) := by omega
          have hwk : IntKind.i64.wrap ((k : Int) + 1) = (k : Int) + 1 := IntWalk.i64_in _ (by omega)
          clear hO hbw
          go_wp2_with fail
          refine wp_region_noPanic ?_
          refine wp_region_V (fun w' => Below wr.heap.size wr w' ∧ w'.cell? ⟨u1, o1 + k, none⟩ = some (.int .i64 x) ∧ w'.cell? ⟨u2, o2 + k, none⟩ = some (.int .i64 ee) ∧ w'.cell? ⟨w1.heap.size, 0, none⟩ = some (.int .i64 P) ∧ w'.cell? ⟨w1.heap.size, 1, none⟩ = some (.int .i64 Q) ∧ w'.cell? ⟨w1.heap.size, 2, none⟩ = some (.int .i64 G)) 20 15 (.rd 0 (.rd 1 (.rd 2 (.rd 3 (.rd 4 (.rd 5 (.rd 6 (.rd 7 (.rd 8 (.alt 9 (.rd 10 (.rd 11 (.rd 12 (.rd 13 (.rd 14 .done))))) .nil)))))))))) [] (by kernel_rfl) (by kernel_rfl) rfl (fun _ _ _ _ _ h => h) ⟨(Below.refl _ _).drew, y1, y2, c0, c1, c2⟩ ?_
          simp only [pickV, pickN, List.getElem?_cons_zero, List.getElem?_cons_succ]
          have hbz : Below wr.heap.size wr wr.drew := (Below.refl _ _).drew
          repeat (refine' wpV_read _ (by kernel_rfl) (fun w' hS' => ?_) ?_; rotate_left; · ((try dsimp only at hS'); go_simp; (try with_reducible rfl)); (try simp only [Act.put, List.setIfInBounds_toArray, List.set_cons_zero, List.set_cons_succ]))
          refine wpV_do (by kernel_rfl) (fun K hK => ?_)
          go_simp
          go_at_call 51
          refine (impl_ExpOf ⟨P, Q, G⟩ x ee _ ⟨by omega, by omega⟩).mono ?_
          rintro e w6 ⟨rfl, hb6⟩
          rw [HXB.out, HXR.out]
          have hbb := keep_b hb6 hbz
          refine hK.out _ _ ⟨hbb, box_at y1 hbb, box_at y2 hbb, box_at c0 hbb, box_at c1 hbb, box_at c2 hbb⟩ (fun _ => ?_)
          clear hK K hb6 hbz
          try simp only [Act.put, List.setIfInBounds_toArray, List.set_cons_zero, List.set_cons_succ]
          repeat (refine' wpV_read _ (by kernel_rfl) (fun w' hS' => ?_) ?_; rotate_left; · ((try dsimp only at hS'); go_simp; (try with_reducible rfl)); (try simp only [Act.put, List.setIfInBounds_toArray, List.set_cons_zero, List.set_cons_succ]))
          refine wpV_done ?_
          have hs6 := hbb.size
          have HO6 := Lib.hid (HO.out.below hbb)
          have HB6 := Lib.hid (HBW.out.trans (hbb.mono hsr))
          clear hbb y1 y2 c0 c1 c2 HO
          go_wp2_with fail
          refine NoPanic.normal ?_
          go_wp2_with (at_builtin; refine wpList_append_ints rfl _ _ rfl wA.heap.size _ _ R [y] rfl (HO6.out.alloc _) rfl (Ints.lit1 _ ⟨by omega, by omega⟩) (by rw [HTK.out]; simp; omega) (by simp; omega) ?_; intro v7 w7 hown7 hgr7)
          have hb7 : Below wA.heap.size wA w7 := (HB6.out.alloc (by omega) _).trans ((HO6.out.alloc _).grown hgr7 (by simp; omega))
          go_roundg (n2' - (k + 1))
          case measure => omega
          case rel => exact ⟨k + 1, by omega, by go_num, by rw [HS.out]; exact hown7, hb7⟩
        · obtain rfl : k = n2' := by omega
          have HTE : Hid ((pwL ⟨P, Q, G⟩ l es).take k = pwL ⟨P, Q, G⟩ l es) := List.take_of_length_le (by rw [HLW.out, HN1.out]; exact Nat.le_refl _)
          rw [HTE.out] at hO ⊢
          have HMB : Hid (muB ⟨P, Q, G⟩ (pwL ⟨P, Q, G⟩ l es) = true) := by unfold Hid muB; rw [HGD.out, pwL_el HG.out HPA.out, HLW.out, HN1.out]; simp; omega
          have HMR : Hid (muR ⟨P, Q, G⟩ (pwL ⟨P, Q, G⟩ l es) = r1) := by unfold Hid muR; rw [if_pos HMB.out, mulL_pwL, ← HR1.out]; unfold ppR; rw [if_pos HQ1.out]
          have HO := Lib.hid hO
          have HBW := Lib.hid hbw
          clear hO hbw
          go_wp2_with fail
          refine (impl_MulOf ⟨P, Q, G⟩ _ (pwL ⟨P, Q, G⟩ l es) _ HO.out.ints).mono ?_
          rintro e w8 ⟨rfl, hb8⟩
          rw [HMB.out, HMR.out]
          have HF := Lib.hid (Below.next HBW.out hb8)
          clear hb8 c0 c1 c2
          have er : (r1 == r1) = true := by simp
          go_wp2_with fail
          go_ret
          exact ⟨rfl, Below.next HB.out HF.out⟩
  | true =>
    obtain ⟨hg2, hel2, j, hj, hjm, hjq, hyj⟩ := loB_parts HQ2.out
    replace hjq : (j : Int) < Q2 := hjq
    have hrj : r2 = (j : Int) := HR2.out.symm.trans hj
    subst hrj
    have HG2 := Lib.hid (goodG_ok hg2)
    have hq22 : 2 ≤ Q2 := HG2.out.q1
    have hpq2 : Q2 ≤ P2 - 1 := HG2.out.q2
    have hpp2 : P2 ≤ 2000000000 := HG2.out.p2
    have HXB : Hid (exB ⟨P2, Q2, G2⟩ B j = true) := by
      unfold Hid exB
      rw [hg2, hel2, show expB ⟨P2, Q2, G2⟩ (j : Int) = true from decide_eq_true ⟨by omega, by show (j : Int) ≤ Q2 - 1; omega⟩]; rfl
    have HXR : Hid (exR ⟨P2, Q2, G2⟩ B j = Y) := by
      unfold Hid exR
      rw [if_pos HXB.out, powE_yE B (show (j : Int) < (GroupD.q ⟨P2, Q2, G2⟩) from hjq), hyj]
    have et : Int.tmod (j : Int) Q2 = (j : Int) := by rw [Int.tmod_eq_emod_of_nonneg (by omega), Int.emod_eq_of_lt (by omega) hjq]
    have ewj : IntKind.i64.wrap (j : Int) = (j : Int) := IntWalk.i64_in _ (by omega)
    have hqz : ¬ Q2 = 0 := by omega
    have hqz2 : (Q2 == 0) = false := by rw [beq_eq_false_iff_ne]; omega
    have hmj : decide (M < (j : Int)) = false := decide_eq_false (by omega)
    have hmj2 : ¬ M < (j : Int) := by omega
    have eyy : (Y == Y) = true := by simp
    clear hg2 hel2 hj hyj
    have d0 := HY.out.cell (i := 0) rfl
    have d1 := HY.out.cell (i := 1) rfl
    have d2 := HY.out.cell (i := 2) rfl
    go_wp2_with fail
    refine wp_region_noPanic ?_
    refine wp_region_V (fun w' => Below w6.heap.size w6 w' ∧ w'.cell? ⟨w4.heap.size, 0, none⟩ = some (.int .i64 P2) ∧ w'.cell? ⟨w4.heap.size, 1, none⟩ = some (.int .i64 Q2) ∧ w'.cell? ⟨w4.heap.size, 2, none⟩ = some (.int .i64 G2)) 20 12 (.rd 0 (.rd 1 (.rd 2 (.rd 3 (.rd 4 (.rd 5 (.alt 6 (.rd 7 (.rd 8 (.rd 9 (.rd 10 (.rd 11 .done))))) .nil))))))) [] (by kernel_rfl) (by kernel_rfl) rfl (fun _ _ _ _ _ h => h) ⟨(Below.refl _ _).drew, d0, d1, d2⟩ ?_
    simp only [pickV, pickN, List.getElem?_cons_zero, List.getElem?_cons_succ]
    have hbz : Below w6.heap.size w6 w6.drew := (Below.refl _ _).drew
    repeat (refine' wpV_read _ (by kernel_rfl) (fun w' hS' => ?_) ?_; rotate_left; · ((try dsimp only at hS'); go_simp; (try with_reducible rfl)); (try simp only [Act.put, List.setIfInBounds_toArray, List.set_cons_zero, List.set_cons_succ]))
    refine wpV_do (by kernel_rfl) (fun K hK => ?_)
    go_simp
    go_at_call 51
    refine (impl_ExpOf ⟨P2, Q2, G2⟩ B j _ ⟨by omega, by omega⟩).mono ?_
    rintro e w7 ⟨rfl, hb7⟩
    rw [HXB.out, HXR.out]
    have hbb := keep_b hb7 hbz
    refine hK.out _ _ ⟨hbb, box_at d0 hbb, box_at d1 hbb, box_at d2 hbb⟩ (fun _ => ?_)
    clear hK K hb7 hbz
    try simp only [Act.put, List.setIfInBounds_toArray, List.set_cons_zero, List.set_cons_succ]
    repeat (refine' wpV_read _ (by kernel_rfl) (fun w' hS' => ?_) ?_; rotate_left; · ((try dsimp only at hS'); go_simp; (try with_reducible rfl)); (try simp only [Act.put, List.setIfInBounds_toArray, List.set_cons_zero, List.set_cons_succ]))
    refine wpV_done ?_
    replace HB := Lib.hid (Below.next HB.out hbb)
    replace HL := Lib.hid (HL.out.below hbb)
    replace HE := Lib.hid (HE.out.below hbb)
    replace HZ := Lib.hid (HZ.out.below hbb)
    clear hbb d0 d1 d2 et ewj hqz hqz2
    go_wp2_with fail
    refine NoPanic.normal ?_
    cases q1 with
    | false =>
      go_wp2_with fail
      go_ret
      exact ⟨rfl, HB.out⟩
    | true =>
      go_wp2_with fail
      have HGD := Lib.hid (ppB_parts HQ1.out).1
      have HG := Lib.hid (goodG_ok HGD.out)
      have HPL := Lib.hid (ppB_parts HQ1.out).2.1
      have HPE := Lib.hid (ppB_parts HQ1.out).2.2.1
      have HPA := Lib.hid (ppB_parts HQ1.out).2.2.2.1
      have HPX := Lib.hid (ppB_parts HQ1.out).2.2.2.2
      have HLW := Lib.hid (pwL_length (gr := ⟨P, Q, G⟩) HPE.out)
      have HN1 : Hid (l.length = n1) := HL.out.len
      have HN2 : Hid (es.length = n2') := HE.out.len
      have hn24 : n1 ≤ 24 := by have := HN1.out; have := HPL.out; omega
      have hn2e : n2' = n1 := by have := HN1.out; have := HN2.out; have := HPE.out; omega
      subst hn2e
      try (go_wp2_with fail)
      obtain ⟨wA, hwA⟩ : ∃ u, u = w7 := ⟨_, rfl⟩
      rw [← hwA] at HB HL HE HZ ⊢
      clear hwA
      have HO0 : Hid (∀ u B, OwnI u B (.slice none 0 0) []) := fun u B => OwnI.nil u _
      go_loopg [22, 122] n2' (fun gk ov kv wr => ∃ k : Nat, k + gk = n2' ∧ kv = .int .i64 k ∧ OwnI wr wA.heap.size ov ((pwL ⟨P, Q, G⟩ l es).take k) ∧ Below wA.heap.size wA wr)
      case atStart => exact ⟨0, by omega, rfl, HO0.out _ _, Below.refl _ _⟩
      case round =>
        obtain ⟨k, hk, rfl, hO, hbw⟩ := hrel
        have HZr := Lib.hid (HZ.out.below hbw)
        have c0 := HZr.out.cell (i := 0) rfl
        have c1 := HZr.out.cell (i := 1) rfl
        have c2 := HZr.out.cell (i := 2) rfl
        obtain ⟨ao, co, rfl⟩ := hO.shape
        have hsr := hbw.size
        by_cases hlt : k < n2'
        · have HK1 : Hid (k < l.length) := by unfold Hid; rw [HN1.out]; exact hlt
          have HK2 : Hid (k < es.length) := by unfold Hid; rw [HN2.out]; exact hlt
          have HTK : Hid (((pwL ⟨P, Q, G⟩ l es).take k).length = k) := by unfold Hid; rw [List.length_take, HLW.out, HN1.out]; omega
          have HS := Lib.hid (pwL_succ (gr := ⟨P, Q, G⟩) HK1.out HK2.out)
          obtain ⟨u1, o1, rfl, hcx1⟩ := (HL.out.below hbw).at_ (by omega)
          obtain ⟨u2, o2, rfl, hcx2⟩ := (HE.out.below hbw).at_ (by omega)
          have y1 := hcx1 k hlt
          have y2 := hcx2 k hlt
          have HXE : Hid (elB ⟨P, Q, G⟩ (nth l k) = true) := by unfold Hid; rw [nth_eq HK1.out]; exact List.all_eq_true.1 HPA.out _ (List.getElem_mem _)
          have HEE : Hid (expB ⟨P, Q, G⟩ (nth es k) = true) := by unfold Hid; rw [nth_eq HK2.out]; exact List.all_eq_true.1 HPX.out _ (List.getElem_mem _)
          clear hcx1 hcx2
          obtain ⟨x, hx⟩ : ∃ x, nth l k = x := ⟨_, rfl⟩
          obtain ⟨ee, hee⟩ : ∃ x, nth es k = x := ⟨_, rfl⟩
          rw [hx] at y1 HXE HS
          rw [hee] at y2 HEE HS
          clear hx hee
          have HYB := powE_bd HG.out x ee
          replace HYB : 0 ≤ powE ⟨P, Q, G⟩ x ee ∧ powE ⟨P, Q, G⟩ x ee < P := HYB
          have hpp : P ≤ 2000000000 := HG.out.p2
          have hqq : Q ≤ P - 1 := HG.out.q2
          obtain ⟨ee0, ee1⟩ := expB_bd HEE.out
          replace ee1 : ee ≤ Q - 1 := ee1
          have HXB : Hid (exB ⟨P, Q, G⟩ x ee = true) := by unfold Hid exB; rw [HGD.out, HXE.out, HEE.out]; rfl
          have HXR : Hid (exR ⟨P, Q, G⟩ x ee = powE ⟨P, Q, G⟩ x ee) := by unfold Hid exR; rw [if_pos HXB.out]
          obtain ⟨y, hy⟩ : ∃ y, powE ⟨P, Q, G⟩ x ee = y := ⟨_, rfl⟩
          rw [hy] at HS HYB HXR
          clear hy
          obtain ⟨yy0, yy1⟩ := HYB
          obtain ⟨R, hR⟩ : ∃ R, (pwL ⟨P, Q, G⟩ l es).take k = R := ⟨_, rfl⟩
          rw [hR] at hO HS HTK ⊢
          clear hR
          rw [HTK.out] at hO ⊢
          have HO := Lib.hid hO
          have HBW := Lib.hid hbw
          have k0 : (0 : Int) ≤ (k : Int) := by omega
          have k1 : (k : Int) < (n2' : Int) := by omega
          have hwk : IntKind.i64.wrap ((k : Int) + 1) = (k : Int) + 1 := IntWalk.i64_in _ (by omega)
          clear hO hbw
          go_wp2_with fail
          refine wp_region_noPanic ?_
          refine wp_region_V (fun w' => Below wr.heap.size wr w' ∧ w'.cell? ⟨u1, o1 + k, none⟩ = some (.int .i64 x) ∧ w'.cell? ⟨u2, o2 + k, none⟩ = some (.int .i64 ee) ∧ w'.cell? ⟨w1.heap.size, 0, none⟩ = some (.int .i64 P) ∧ w'.cell? ⟨w1.heap.size, 1, none⟩ = some (.int .i64 Q) ∧ w'.cell? ⟨w1.heap.size, 2, none⟩ = some (.int .i64 G)) 20 15 (.rd 0 (.rd 1 (.rd 2 (.rd 3 (.rd 4 (.rd 5 (.rd 6 (.rd 7 (.rd 8 (.alt 9 (.rd 10 (.rd 11 (.rd 12 (.rd 13 (.rd 14 .done))))) .nil)))))))))) [] (by kernel_rfl) (by kernel_rfl) rfl (fun _ _ _ _ _ h => h) ⟨(Below.refl _ _).drew, y1, y2, c0, c1, c2⟩ ?_
          simp only [pickV, pickN, List.getElem?_cons_zero, List.getElem?_cons_succ]
          have hbz : Below wr.heap.size wr wr.drew := (Below.refl _ _).drew
          repeat (refine' wpV_read _ (by kernel_rfl) (fun w' hS' => ?_) ?_; rotate_left; · ((try dsimp only at hS'); go_simp; (try with_reducible rfl)); (try simp only [Act.put, List.setIfInBounds_toArray, List.set_cons_zero, List.set_cons_succ]))
          refine wpV_do (by kernel_rfl) (fun K hK => ?_)
          go_simp
          go_at_call 51
          refine (impl_ExpOf ⟨P, Q, G⟩ x ee _ ⟨by omega, by omega⟩).mono ?_
          rintro e w6 ⟨rfl, hb6⟩
          rw [HXB.out, HXR.out]
          have hbb := keep_b hb6 hbz
          refine hK.out _ _ ⟨hbb, box_at y1 hbb, box_at y2 hbb, box_at c0 hbb, box_at c1 hbb, box_at c2 hbb⟩ (fun _ => ?_)
          clear hK K hb6 hbz
          try simp only [Act.put, List.setIfInBounds_toArray, List.set_cons_zero, List.set_cons_succ]
          repeat (refine' wpV_read _ (by kernel_rfl) (fun w' hS' => ?_) ?_; rotate_left; · ((try dsimp only at hS'); go_simp; (try with_reducible rfl)); (try simp only [Act.put, List.setIfInBounds_toArray, List.set_cons_zero, List.set_cons_succ]))
          refine wpV_done ?_
          have hs6 := hbb.size
          have HO6 := Lib.hid (HO.out.below hbb)
          have HB6 := Lib.hid (HBW.out.trans (hbb.mono hsr))
          clear hbb y1 y2 c0 c1 c2 HO
          go_wp2_with fail
          refine NoPanic.normal ?_
          go_wp2_with (at_builtin; refine wpList_append_ints rfl _ _ rfl wA.heap.size _ _ R [y] rfl (HO6.out.alloc _) rfl (Ints.lit1 _ ⟨by omega, by omega⟩) (by rw [HTK.out]; simp; omega) (by simp; omega) ?_; intro v7 w7 hown7 hgr7)
          have hb7 : Below wA.heap.size wA w7 := (HB6.out.alloc (by omega) _).trans ((HO6.out.alloc _).grown hgr7 (by simp; omega))
          go_roundg (n2' - (k + 1))
          case measure => omega
          case rel => exact ⟨k + 1, by omega, by go_num, by rw [HS.out]; exact hown7, hb7⟩
        · obtain rfl : k = n2' := by omega
          have HTE : Hid ((pwL ⟨P, Q, G⟩ l es).take k = pwL ⟨P, Q, G⟩ l es) := List.take_of_length_le (by rw [HLW.out, HN1.out]; exact Nat.le_refl _)
          rw [HTE.out] at hO ⊢
          have HMB : Hid (muB ⟨P, Q, G⟩ (pwL ⟨P, Q, G⟩ l es) = true) := by unfold Hid muB; rw [HGD.out, pwL_el HG.out HPA.out, HLW.out, HN1.out]; simp; omega
          have HMR : Hid (muR ⟨P, Q, G⟩ (pwL ⟨P, Q, G⟩ l es) = r1) := by unfold Hid muR; rw [if_pos HMB.out, mulL_pwL, ← HR1.out]; unfold ppR; rw [if_pos HQ1.out]
          have HO := Lib.hid hO
          have HBW := Lib.hid hbw
          clear hO hbw
          go_wp2_with fail
          refine (impl_MulOf ⟨P, Q, G⟩ _ (pwL ⟨P, Q, G⟩ l es) _ HO.out.ints).mono ?_
          rintro e w8 ⟨rfl, hb8⟩
          rw [HMB.out, HMR.out]
          have HF := Lib.hid (Below.next HBW.out hb8)
          clear hb8 c0 c1 c2
          have er : (r1 == r1) = true := by simp
          go_wp2_with fail
          go_ret
          exact ⟨rfl, Below.next HB.out HF.out⟩
end Go.Proofs.Ytcpigedjblkcfaa
