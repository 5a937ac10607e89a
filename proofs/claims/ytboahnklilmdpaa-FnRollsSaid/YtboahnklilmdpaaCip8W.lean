/- Groups of equal messages: walk (printed by gen_rol3.py). -/
import Derived.Test.YtboahnklilmdpaaRol2W
import Derived.Deep.Cut
import Derived.Test.YtboahnklilmdpaaCtW
import Derived.Test.YtboahnklilmdpaaDrG6W
import Derived.Test.YtboahnklilmdpaaRegVW
import Derived.Test.YtboahnklilmdpaaPow2W
namespace Go.Proofs.Ytboahnklilmdpaa
open Go.RowKit
set_option linter.unusedSimpArgs false
set_option linter.unusedVariables false

/-- an element that is appended: the row stays in its block, or lies in a new one -/
theorem run_append_one {w : World} {B b : Nat} {v : Value} {l : List Int} {x : Int} (hown : OwnI w B v l) (hc : w.cell? ⟨b, 0, none⟩ = some (.int .i64 x)) (hx : I64 x) (hlen : l.length ≤ 100000000) (hB : B ≤ w.heap.size) (ty : TypeId) :
    ∃ v' w', (Builtin.append_ #[24, 24] ty #[v, .slice (some ⟨b, 0, none⟩) 1 1]).run Try.prog w = .ok v' w' ∧ OwnI w' B v' (l ++ [x]) ∧ w.grownBy w' v.ownBlock ∧ (v'.ownBlock = v.ownBlock ∨ v'.ownBlock = some w.heap.size) := by
  have hy : Ints w (.slice (some ⟨b, 0, none⟩) 1 1) [x] := by
    refine ⟨some ⟨b, 0, none⟩, 1, 1, rfl, rfl, Nat.le_refl _, by unfold maxLen; omega, AllI64.one hx, .inr (.inr ⟨b, 0, rfl, ?_⟩)⟩
    intro k hk
    obtain rfl : k = 0 := by omega
    exact hc
  obtain ⟨v', w', hr, h1, h2⟩ := run_append_ints (t := 24) rfl hown hy (by simp; omega) hB ty
  refine ⟨v', w', hr, h1, h2, ?_⟩
  obtain ⟨i, hi, hz, hsz, hby⟩ := info_parts info_int
  have hnews : ∀ j u, [Value.int IntKind.i64 x][j]? = some u → w.cell? ((⟨b, 0, none⟩ : Addr).add j) = some u := by
    intro j u hu
    cases j with
    | zero => rw [Addr.add_lit]; simp at hu; subst hu; exact hc
    | succ j => simp at hu
  rcases hown.2.2 with ⟨rfl, hl0⟩ | ⟨g, cap, cur, rfl, hbg, hg, hnc, hcm, hcs, htake⟩
  · have q := run_append_nil (P := Try.prog) w 24 ty 3 i (.int .i64 0) Try.underlying24 hi hz ⟨b, 0, none⟩ 1 1 [.int .i64 x] (by simp [hsz]) hnews (by omega) (by omega) (by omega)
    rw [q] at hr
    injection hr with e1 e2
    subst e1
    exact .inr rfl
  · by_cases hroom : l.length + 1 ≤ cap
    · have q := run_append_room (P := Try.prog) w 24 ty 3 i Try.underlying24 hi g l.length cap cur hg ⟨b, 0, none⟩ 1 1 [.int .i64 x] (by simp [hsz]) hnews (by intro u hu; simp at hu; subst hu; rfl) hroom (by simp [hsz]; omega)
      rw [q] at hr
      injection hr with e1 e2
      subst e1
      exact .inl rfl
    · have holds : ∀ j u, (l.map (Value.int .i64))[j]? = some u → w.cell? ((⟨g, 0, none⟩ : Addr).add j) = some u := hown.2.cells (g := g) rfl
      have q := run_append_grow (P := Try.prog) w 24 ty 3 i (.int .i64 0) Try.underlying24 hi hz ⟨g, 0, none⟩ l.length cap (l.map (Value.int .i64)) (by simp [hsz]) holds ⟨b, 0, none⟩ 1 1 [.int .i64 x] (by simp [hsz]) hnews (by omega) (by omega) (growslice_fits (by omega) (by rw [hby]; omega))
      rw [q] at hr
      injection hr with e1 e2
      subst e1
      exact .inr rfl
theorem wpList_append_one {ops : Array Oper} {rest : List Oper} {o : Oper} {a : Act} {w : World} {Q : Exit → Act → World → Prop} (hg : o.guard = none) (s x : Operand)
    (ho : o.op = .call { callee := .builtin .append, args := #[s, x], argTypes := #[24, 24] })
    (B b : Nat) (v : Value) (l : List Int) (z : Int) (N : Nat) (hs : a.eval s = v) (hown : OwnI w B v l) (hx : a.eval x = .slice (some ⟨b, 0, none⟩) 1 1) (hc : w.cell? ⟨b, 0, none⟩ = some (.int .i64 z)) (hz : I64 z) (hlen : l.length ≤ 100000000) (hB : B ≤ w.heap.size) (hN : l.length + 1 = N)
    (hK : ∀ a' c' w', OwnI w' B (.slice a' N c') (l ++ [z]) → w.grownBy w' v.ownBlock → ((Value.slice a' N c').ownBlock = v.ownBlock ∨ (Value.slice a' N c').ownBlock = some w.heap.size) → wpList Try.prog ops Q rest (a.put o.dst (.slice a' N c')) w') : wpList Try.prog ops Q (o :: rest) a w := by
  obtain ⟨v', w', hr, h1, h2, h3⟩ := run_append_one hown hc hz hlen hB o.type
  obtain ⟨a', c', e⟩ := h1.shape
  rw [show (l ++ [z]).length = N by simp; exact hN] at e
  subst e
  refine wpList_plain hg fun K hK' => ?_
  unfold Oper.wp execOp
  simp only [ho, resolve, invoke, builtin, Sem.run_bind, Sem.run_pure, Result.andThen_ok, List.map_toArray, List.map_cons, List.map_nil, hs, hx, hr]
  exact hK' _ _ (hK a' c' w' h1 h2 h3)
/-- two rows in different blocks -/
def Parted (v1 v2 : Value) : Prop := v1.ownBlock = none ∨ v1.ownBlock ≠ v2.ownBlock
theorem Parted.new {w : World} {B : Nat} {v1 v2 v2' : Value} {l : List Int} (h : Parted v1 v2) (h1 : OwnI w B v1 l) (h2 : v2'.ownBlock = v2.ownBlock ∨ v2'.ownBlock = some w.heap.size) : Parted v1 v2' := by
  rcases h with h | h
  · exact .inl h
  · rcases h2 with h2 | h2
    · exact .inr (by rw [h2]; exact h)
    · refine .inr ?_
      rw [h2]
      intro e
      have := (h1.lt _ e).2
      omega
theorem Parted.symm {v1 v2 : Value} (h : Parted v1 v2) : Parted v2 v1 := by
  rcases h with h | h
  · cases e : v2.ownBlock with
    | none => exact .inl e
    | some k => exact .inr (by rw [h, e]; simp)
  · exact .inr (fun e => h e.symm)
set_option maxRecDepth 100000 in
set_option maxHeartbeats 4000000 in
theorem impl_EqualGroups (gr : GroupD) (s : Int) (v : Value) (l : List CipherD) (w : World) (hs : I64 s) (h : RdR rCipher w v l) :
    Calls Try.prog 67 #[.agg #[.int .i64 gr.p, .int .i64 gr.q, .int .i64 gr.g], .int .i64 s, v] w fun e w' => ∃ v', e = .returned (.tuple #[v', .bool (egB gr s l)]) ∧ Ints w' v' (egR gr s l) ∧ Below w.heap.size w w' := by
  obtain ⟨va, vn, vc, rfl⟩ := h.shape
  have Ev := Lib.hid h.len
  have Kv := Lib.hid h.capMax
  have Hv := Lib.hid h
  clear h
  have HIS := Lib.hid hs
  obtain ⟨W, hW⟩ : ∃ W, W = w.alloc (.cells #[.int .i64 gr.p, .int .i64 gr.q, .int .i64 gr.g] 39) := ⟨_, rfl⟩
  have HB : Hid (Below w.heap.size w W) := by unfold Hid; rw [hW]; (repeat (first | exact Below.refl _ _ | assumption | refine Below.drew ?_ | refine Below.alloc ?_ (by first | (simp; done) | (simp; omega)) _ | refine Below.setCell ?_ (by first | (simp; done) | (simp; omega)) _))
  have c0_0 : W.cell? ⟨w.heap.size, 0, none⟩ = some (.int .i64 gr.p) := by rw [hW]; simp [go_sem]
  have c0_1 : W.cell? ⟨w.heap.size, 1, none⟩ = some (.int .i64 gr.q) := by rw [hW]; simp [go_sem]
  have c0_2 : W.cell? ⟨w.heap.size, 2, none⟩ = some (.int .i64 gr.g) := by rw [hW]; simp [go_sem]
  have HSW : Hid (W.heap.size = w.heap.size + 1) := by unfold Hid; rw [hW]; simp
  go_enter Try.func67, Try.ntmps67
  go_wp2_with fail
  rw [← hW]
  have hse : w.heap.size + 1 = W.heap.size := by have := HSW.out; omega
  (try rw [hse])
  clear hse
  clear hW
  have hc : Below W.heap.size W W := Below.refl _ _
  have HCC : Hid (∀ u, Below W.heap.size W u → u.cell? ⟨w.heap.size, 0, none⟩ = some (.int .i64 gr.p) ∧ u.cell? ⟨w.heap.size, 1, none⟩ = some (.int .i64 gr.q) ∧ u.cell? ⟨w.heap.size, 2, none⟩ = some (.int .i64 gr.g)) := fun u h => ⟨box_at c0_0 h, box_at c0_1 h, box_at c0_2 h⟩
  go_wp2_with fail
  refine (impl_IsValidGroup gr _).mono ?_
  rintro e u1 ⟨rfl, hq1⟩
  replace hc := Below.next hc hq1
  clear hq1 c0_0 c0_1 c0_2
  obtain ⟨c0_0, c0_1, c0_2⟩ := HCC.out _ hc
  cases hc1 : goodG gr with
  | false =>
    have Hhc1 := Lib.hid hc1
    clear hc1
    go_wp2_with fail
    have HVB : Hid (egB gr s l = false) := by unfold Hid; simp [egB, Hhc1.out]
    have HPR : Hid (egR gr s l = []) := by unfold Hid egR; rw [if_neg (by rw [HVB.out]; simp)]
    go_ret2
    rw [HVB.out, HPR.out]
    exact ⟨.slice none 0 0, rfl, Ints.nil _, HB.out.trans (hc.mono HB.out.size)⟩
  | true =>
    have HG := Lib.hid (goodG_ok hc1)
    have Hhc1 := Lib.hid hc1
    clear hc1
    go_wp2_with fail
    refine (impl_isExp gr s _ HG.out).mono ?_
    rintro e u2 ⟨rfl, hq2⟩
    replace hc := Below.next hc hq2
    clear hq2 c0_0 c0_1 c0_2
    obtain ⟨c0_0, c0_1, c0_2⟩ := HCC.out _ hc
    cases hc2 : expB gr s with
    | false =>
      have Hhc2 := Lib.hid hc2
      clear hc2
      go_wp2_with fail
      have HVB : Hid (egB gr s l = false) := by unfold Hid; simp [egB, Hhc1.out, Hhc2.out]
      have HPR : Hid (egR gr s l = []) := by unfold Hid egR; rw [if_neg (by rw [HVB.out]; simp)]
      go_ret2
      rw [HVB.out, HPR.out]
      exact ⟨.slice none 0 0, rfl, Ints.nil _, HB.out.trans (hc.mono HB.out.size)⟩
    | true =>
      have Hhc2 := Lib.hid hc2
      clear hc2
      go_wp2_with fail
      refine (impl_hasCiphers gr _ l _ HG.out (Hv.out.below (HB.out.trans (hc.mono HB.out.size)))).mono ?_
      rintro e u3 ⟨rfl, hq3⟩
      replace hc := Below.next hc hq3
      clear hq3 c0_0 c0_1 c0_2
      obtain ⟨c0_0, c0_1, c0_2⟩ := HCC.out _ hc
      cases hc3 : cisB gr l with
      | false =>
        have Hhc3 := Lib.hid hc3
        clear hc3
        go_wp2_with fail
        have HVB : Hid (egB gr s l = false) := by unfold Hid; simp [egB, Hhc1.out, Hhc2.out, Hhc3.out]
        have HPR : Hid (egR gr s l = []) := by unfold Hid egR; rw [if_neg (by rw [HVB.out]; simp)]
        go_ret2
        rw [HVB.out, HPR.out]
        exact ⟨.slice none 0 0, rfl, Ints.nil _, HB.out.trans (hc.mono HB.out.size)⟩
      | true =>
        have Hl := Lib.hid hc3
        have Hhc3 := Lib.hid hc3
        clear hc3
        have HVB : Hid (egB gr s l = true) := by unfold Hid; simp [egB, Hhc1.out, Hhc2.out, Hhc3.out]
        go_wp2_with fail
        have HC := Lib.hid hc
        have C0 := Lib.hid c0_0
        have C1 := Lib.hid c0_1
        have C2 := Lib.hid c0_2
        clear hc c0_0 c0_1 c0_2
        obtain ⟨U, hU⟩ : ∃ x, x = (u3.alloc (.cells #[] 3)).alloc (.cells #[] 3) := ⟨_, rfl⟩
        have HOo := Lib.hid ((OwnI.lit u3 (Nat.le_refl _) (cs := #[]) (l := []) AllI64.nil rfl (by simp [maxLen]) 0 rfl).alloc (.cells #[] 3))
        have HOm : Hid (OwnI ((u3.alloc (.cells #[] 3)).alloc (.cells #[] 3)) u3.heap.size (.slice (some ⟨u3.heap.size + 1, 0, none⟩) 0 0) []) := by
          unfold Hid
          have h := OwnI.lit (B := u3.heap.size) (u3.alloc (.cells #[] 3)) (by simp) (cs := #[]) (l := []) AllI64.nil rfl (by simp [maxLen]) 0 rfl
          simpa using h
        have HUB : Hid (Below u3.heap.size u3 U) := by unfold Hid; rw [hU]; (repeat (first | exact Below.refl _ _ | assumption | refine Below.drew ?_ | refine Below.alloc ?_ (by first | (simp; done) | (simp; omega)) _ | refine Below.setCell ?_ (by first | (simp; done) | (simp; omega)) _))
        rw [← hU] at HOo HOm
        (try rw [← hU])
        clear hU
        have HPA : Hid (Parted (.slice (some ⟨u3.heap.size, 0, none⟩) 0 0) (.slice (some ⟨u3.heap.size + 1, 0, none⟩) 0 0)) := .inr (by simp [Value.ownBlock])
        go_loopg [8, 9, 31] vn (fun gh ov mv iv wr => ∃ k : Nat, k + gh = vn ∧ iv = .int .i64 k ∧ OwnI wr u3.heap.size ov ((egL gr s l).take k) ∧ OwnI wr u3.heap.size mv ((egM gr s l).take k) ∧ Parted ov mv ∧ Below u3.heap.size u3 wr)
        case atStart => exact ⟨0, by omega, rfl, HOo.out, HOm.out, HPA.out, HUB.out⟩
        case round =>
          obtain ⟨k, hkg, rfl, howo, howm, hpa, hbu⟩ := hrel
          clear HOo HOm HPA HUB
          have HOo := Lib.hid howo
          have HOm := Lib.hid howm
          have HPA := Lib.hid hpa
          have HBU := Lib.hid hbu
          clear howo howm hpa hbu
          have HBW := Lib.hid (HB.out.trans ((Below.next HC.out HBU.out).mono HB.out.size))
          by_cases hlt : k < vn
          · have HK : Hid (k < l.length) := by unfold Hid; have := Ev.out; omega
            have HSM := Lib.hid (egM_succ (gr := gr) (s := s) HK.out)
            have HSL := Lib.hid (egL_succ (gr := gr) (s := s) HK.out)
            have HL24 : Hid (l.length ≤ 24) := by have h := Hl.out; unfold cisB at h; rw [Bool.and_eq_true, decide_eq_true_iff] at h; exact h.1
            have HNM : Hid (((egM gr s l).take k).length = k) := by unfold Hid; rw [List.length_take, egM_length]; have := HK.out; omega
            have HNL : Hid (((egL gr s l).take k).length = k) := by unfold Hid; rw [List.length_take, egL_length]; have := HK.out; omega
            have HSX : Hid (SmallC (l[k]'HK.out)) := cisB_small HG.out Hl.out _ (List.getElem_mem _)
            have hb := HBW.out
            obtain ⟨b_x, o_x, rfl, hcx⟩ := Hv.out.at_ (by omega)
            obtain ⟨us, hcell, hrd⟩ := hcx k HK.out
            clear hcx
            generalize l[k]'HK.out = x at hrd HSM HSL HSX
            obtain ⟨ers, jx_0, jx_1⟩ := rdCipher.1 ⟨us, rfl, hrd⟩
            obtain rfl : us = [.int .i64 x.a, .int .i64 x.b] := by have h := Value.agg.inj ers; simpa using congrArg Array.toList h
            clear ers hrd
            have y_x_0 : wr.cell? ⟨b_x, o_x + k * 2, none⟩ = some (.int .i64 x.a) := box_at (hcell 0 (by decide)) hb
            have y_x_1 : wr.cell? ⟨b_x, o_x + k * 2 + 1, none⟩ = some (.int .i64 x.b) := box_at (hcell 1 (by decide)) hb
            clear hcell
            have HR_x := Lib.hid ((kS rCipher).rd_below (rdCipher.2 ⟨rfl, jx_0, jx_1⟩ : (kS rCipher).rd w (.agg #[.int .i64 x.a, .int .i64 x.b]) x) hb)
            have J_x_0 := Lib.hid jx_0
            have J_x_1 := Lib.hid jx_1
            clear jx_0 jx_1
            have hwk : IntKind.i64.wrap ((k : Int) + 1) = (k : Int) + 1 := IntWalk.i64_in _ (by have := Kv.out.1; have := Kv.out.2; unfold maxLen at this; omega)
            have hwm : IntKind.i64.wrap (((k + 1 : Nat) : Int) - 1) = (k : Int) := by rw [show ((k + 1 : Nat) : Int) - 1 = (k : Int) by omega]; exact IntWalk.i64_in _ (by have := Kv.out.1; have := Kv.out.2; unfold maxLen at this; omega)
            have hw0 : wrap64 (k : Int) = (k : Int) := by have h1 := Kv.out.1; have h2 := Kv.out.2; unfold maxLen at h2; unfold wrap64; omega
            clear hb
            obtain ⟨V, hV⟩ : ∃ V, V = wr.alloc (.cells #[.int .i64 x.a, .int .i64 x.b] 58) := ⟨_, rfl⟩
            have hc : Below wr.heap.size wr V := by rw [hV]; exact (Below.refl _ _).alloc (Nat.le_refl _) _
            have hcV : Below u3.heap.size u3 V := Below.next HBU.out hc
            have c0_0 := box_at C0.out hcV
            have c0_1 := box_at C1.out hcV
            have c0_2 := box_at C2.out hcV
            clear hcV
            have c2_0 : V.cell? ⟨wr.heap.size, 0, none⟩ = some (.int .i64 x.a) := by rw [hV]; simp [go_sem]
            have c2_1 : V.cell? ⟨wr.heap.size, 1, none⟩ = some (.int .i64 x.b) := by rw [hV]; simp [go_sem]
            go_upto_region 7 with fail
            rw [← hV]
            clear hV
            go_wp2_with fail
            refine (impl_decrypt gr s x _ HG.out HIS.out HSX.out).mono ?_
            rintro e V2 ⟨rfl, hq⟩
            replace hc := Below.next hc hq
            clear hq c0_0 c0_1 c0_2 c2_0 c2_1
            obtain ⟨M, hM⟩ : ∃ m, deC gr s x = m := ⟨_, rfl⟩
            rw [hM] at HSM HSL ⊢
            have HIM : Hid (I64 M) := by unfold Hid; rw [← hM]; exact small_64 (deC_small HG.out _ _)
            clear hM
            obtain ⟨A1, hA1⟩ : ∃ x0, x0 = V2.alloc (.cells #[.int .i64 M] 3) := ⟨_, rfl⟩
            have hcA : Below wr.heap.size wr A1 := by rw [hA1]; exact hc.alloc hc.size _
            have zc : A1.cell? ⟨V2.heap.size, 0, none⟩ = some (.int .i64 M) := by rw [hA1]; simp [go_sem]
            have HO1 := Lib.hid (HOo.out.below hcA)
            have HM1 := Lib.hid (HOm.out.below hcA)
            have HBA := Lib.hid (Below.next HBU.out hcA)
            go_upto_region 8 with (at_builtin; (try rw [← hA1]); refine wpList_append_one rfl _ _ rfl u3.heap.size V2.heap.size _ ((egM gr s l).take k) M (k + 1) rfl HM1.out rfl zc HIM.out (by rw [HNM.out]; have := HL24.out; have := HK.out; omega) HBA.out.size (by rw [HNM.out]) ?_; intro ma mc w3 hown3 hgr3 hfr3)
            clear hA1 zc
            rw [← HSM.out] at hown3
            have HM3 := Lib.hid hown3
            have HO3 := Lib.hid (HO1.out.kept hgr3 HPA.out)
            have HPA3 := Lib.hid (HPA.out.new HO1.out hfr3)
            have HB3 := Lib.hid (HBA.out.trans (HM1.out.grown hgr3 HBA.out.size))
            clear hown3 hgr3 hfr3 hcA hc
            have HN3 : Hid (((egM gr s l).take (k + 1)).length = k + 1) := by unfold Hid; rw [HSM.out, List.length_append, HNM.out]; rfl
            have HAT : Hid (nth ((egM gr s l).take (k + 1)) k = M) := by
              unfold Hid; rw [HSM.out]
              have e := HNM.out
              simp [nth, List.getD, List.getElem?_append, e]
            obtain ⟨mb, hmb, _, _, hcx⟩ := HM3.out.at_ (by rw [HN3.out]; omega)
            subst hmb
            obtain ⟨ym, _⟩ := hcx k (by omega)
            rw [HAT.out] at ym
            clear hcx
            have b0 : (0 : Int) ≤ (k : Int) := by omega
            have b1 : (k : Int) < ((k + 1 : Nat) : Int) := by omega
            have HMM : Hid (M ∈ (egM gr s l).take (k + 1)) := by unfold Hid; rw [HSM.out]; exact List.mem_append_right _ (List.mem_singleton_self _)
            go_wp2_with fail
            refine (slices_IndexI _ ((egM gr s l).take (k + 1)) M _ HM3.out.ints HMM.out).mono ?_
            rintro e w3b ⟨rfl, rfl⟩
            clear ym
            obtain ⟨J, hJ⟩ : ∃ j : Int, (((egM gr s l).take (k + 1)).idxOf M : Int) = j := ⟨_, rfl⟩
            have HIJ : Hid (I64 J) := by
              have h1 := List.idxOf_le_length (l := (egM gr s l).take (k + 1)) (a := M)
              have h2 := HN3.out; have h3 := HL24.out; have h4 := HK.out
              unfold Hid; rw [← hJ]; exact ⟨by omega, by omega⟩
            rw [hJ] at HSL ⊢
            clear hJ
            obtain ⟨A2, hA2⟩ : ∃ x0, x0 = w3.alloc (.cells #[.int .i64 J] 3) := ⟨_, rfl⟩
            have hcB : Below w3.heap.size w3 A2 := by rw [hA2]; exact (Below.refl _ _).alloc (Nat.le_refl _) _
            have zc : A2.cell? ⟨w3.heap.size, 0, none⟩ = some (.int .i64 J) := by rw [hA2]; simp [go_sem]
            have HO4 := Lib.hid (HO3.out.below hcB)
            have HM4 := Lib.hid (HM3.out.below hcB)
            have HB4 := Lib.hid (Below.next HB3.out hcB)
            go_wp2_with (at_builtin; (try rw [← hA2]); refine wpList_append_one rfl _ _ rfl u3.heap.size w3.heap.size _ ((egL gr s l).take k) J (k + 1) rfl HO4.out rfl zc HIJ.out (by rw [HNL.out]; have := HL24.out; have := HK.out; omega) HB4.out.size (by rw [HNL.out]) ?_; intro oa oc w5 hown5 hgr5 hfr5)
            clear hA2 zc hcB
            rw [← HSL.out] at hown5
            have HO5 := Lib.hid hown5
            have HM5 := Lib.hid (HM4.out.kept hgr5 HPA3.out.symm)
            have HPA5 := Lib.hid ((HPA3.out.symm.new HM4.out hfr5).symm)
            have HB5 := Lib.hid (HB4.out.trans (HO4.out.grown hgr5 HB4.out.size))
            clear hown5 hgr5 hfr5
            (try (go_wp2_with fail))
            go_roundg (vn - (k + 1))
            case measure => omega
            case rel => exact ⟨k + 1, by omega, by go_num, HO5.out, HM5.out, HPA5.out, HB5.out⟩
          · obtain rfl : vn = k := by omega
            have HFL : Hid ((egL gr s l).take vn = egL gr s l) := by unfold Hid; rw [List.take_of_length_le (by rw [egL_length, Ev.out]; exact Nat.le_refl _)]
            have HPR : Hid (egR gr s l = egL gr s l) := by unfold Hid egR; rw [if_pos HVB.out]
            go_wp2_with fail
            go_ret2
            rw [HVB.out, HPR.out]
            exact ⟨_, rfl, by rw [← HFL.out]; exact HOo.out.ints, HBW.out⟩
end Go.Proofs.Ytboahnklilmdpaa
namespace Go.Proofs.Ytboahnklilmdpaa
open Go.RowKit
set_option linter.unusedSimpArgs false
set_option linter.unusedVariables false

set_option maxRecDepth 100000 in
set_option maxHeartbeats 1000000 in
theorem laws_qCiphersEq (v1 v2 : Value) (l : List CipherD) (w : World) (h1 : RdR rCipher w v1 l) (h2 : RdR rCipher w v2 l) :
    Calls Try.prog 33 #[v1, v2] w fun e w' => e = .returned (.bool true) ∧ Below w.heap.size w w' := by
  obtain ⟨a1, n, c1, rfl⟩ := h1.shape
  obtain ⟨a2, n2, c2, rfl⟩ := h2.shape
  have e1 := h1.len
  have e2 := h2.len
  obtain ⟨k1, k2⟩ := h1.capMax
  unfold maxLen at k2
  obtain rfl : n = n2 := by omega
  have HE := Lib.hid e1
  clear e1 e2
  have H1 := Lib.hid h1
  have H2 := Lib.hid h2
  clear h1 h2
  have hnn : ((n : Int) == (n : Int)) = true := by simp
  go_enter Try.func33, Try.ntmps33
  go_wp2_with fail
  go_loopg [13] n (fun gh iv wr => ∃ k : Nat, k + gh = n ∧ iv = .int .i64 k ∧ Below w.heap.size w wr)
  case atStart => exact ⟨0, by omega, rfl, Below.refl _ _⟩
  case round =>
    obtain ⟨k, hkg, rfl, hb⟩ := hrel
    by_cases hlt : k < n
    · have HK : Hid (k < l.length) := by unfold Hid; rw [HE.out]; exact hlt
      obtain ⟨b1, o1, rfl, hc1⟩ := H1.out.at_ (by omega)
      obtain ⟨b2, o2, rfl, hc2⟩ := H2.out.at_ (by omega)
      obtain ⟨vs1, hx1, hr1⟩ := hc1 k HK.out
      obtain ⟨vs2, hx2, hr2⟩ := hc2 k HK.out
      generalize l[k]'HK.out = x at hr1 hr2
      obtain ⟨ers, _, _⟩ := (rdCipher (w := w) (v := .agg vs1.toArray) (d := x)).1 ⟨vs1, rfl, hr1⟩
      obtain rfl : vs1 = [.int .i64 x.a, .int .i64 x.b] := by have h := Value.agg.inj ers; simpa using congrArg Array.toList h
      obtain ⟨ers2, _, _⟩ := (rdCipher (w := w) (v := .agg vs2.toArray) (d := x)).1 ⟨vs2, rfl, hr2⟩
      obtain rfl : vs2 = [.int .i64 x.a, .int .i64 x.b] := by have h := Value.agg.inj ers2; simpa using congrArg Array.toList h
      clear ers ers2 hr1 hr2 hc1 hc2
      have y0 : wr.cell? ⟨b1, o1 + k * 2, none⟩ = some (.int .i64 x.a) := box_at (hx1 0 (by decide)) hb
      have y1 : wr.cell? ⟨b1, o1 + k * 2 + 1, none⟩ = some (.int .i64 x.b) := box_at (hx1 1 (by decide)) hb
      have y2 : wr.cell? ⟨b2, o2 + k * 2, none⟩ = some (.int .i64 x.a) := box_at (hx2 0 (by decide)) hb
      have y3 : wr.cell? ⟨b2, o2 + k * 2 + 1, none⟩ = some (.int .i64 x.b) := box_at (hx2 1 (by decide)) hb
      have hc : Below wr.heap.size wr wr := Below.refl _ _
      have HB := Lib.hid hb
      clear hb hx1 hx2
      have b0 : (0 : Int) ≤ (k : Int) := by omega
      have bk1 : (k : Int) < (n : Int) := by omega
      have xa : (x.a == x.a) = true := by simp
      have xb : (x.b == x.b) = true := by simp
      have hwk : IntKind.i64.wrap ((k : Int) + 1) = (k : Int) + 1 := IntWalk.i64_in _ (by omega)
      go_wp2_with fail
      try (go_wp2_with fail)
      refine wp_region_noPanic ?_
      refine wp_region_P (fun w' => w'.cell? ⟨b1, o1 + k * 2, none⟩ = some (.int .i64 x.a) ∧ w'.cell? ⟨b1, o1 + k * 2 + 1, none⟩ = some (.int .i64 x.b) ∧ w'.cell? ⟨b2, o2 + k * 2, none⟩ = some (.int .i64 x.a) ∧ w'.cell? ⟨b2, o2 + k * 2 + 1, none⟩ = some (.int .i64 x.b)) 11 [(0, []), (1, []), (2, [1, 0]), (3, [0]), (4, []), (5, []), (6, [1, 0]), (7, [0]), (8, [4, 0])] [] (by kernel_rfl) (by kernel_rfl) (by kernel_rfl) rfl (fun _ _ _ _ h => h) (fun w' h => ⟨box_at y0 h, box_at y1 h, box_at y2 h, box_at y3 h⟩) ?_
      simp only [pickP, pickN, List.getElem?_cons_zero, List.getElem?_cons_succ]
      -- 0: move t0
      refine' chainP_read (d := (some 16)) _ rfl rfl (fun w' hS' => ?_) ?_; rotate_left
      · simp only [lookP, allP, Act.put, List.getElem?_cons_zero, List.getElem?_cons_succ, List.setIfInBounds_toArray, List.set_cons_zero, List.set_cons_succ]
        (try dsimp only at hS')
        go_simp
        (try with_reducible rfl)
      -- 1: move t5
      refine' chainP_read (d := (some 17)) _ rfl rfl (fun w' hS' => ?_) ?_; rotate_left
      · simp only [lookP, allP, Act.put, List.getElem?_cons_zero, List.getElem?_cons_succ, List.setIfInBounds_toArray, List.set_cons_zero, List.set_cons_succ]
        (try dsimp only at hS')
        go_simp
        (try with_reducible rfl)
      -- 2: indexAddr 52 t16 t17
      refine' chainP_read (d := (some 18)) _ rfl rfl (fun w' hS' => ?_) ?_; rotate_left
      · simp only [lookP, allP, Act.put, List.getElem?_cons_zero, List.getElem?_cons_succ, List.setIfInBounds_toArray, List.set_cons_zero, List.set_cons_succ]
        (try dsimp only at hS')
        go_simp
        (try with_reducible rfl)
      -- 3: load 58 t18
      refine' chainP_read (d := (some 19)) _ rfl rfl (fun w' hS' => ?_) ?_; rotate_left
      · simp only [lookP, allP, Act.put, List.getElem?_cons_zero, List.getElem?_cons_succ, List.setIfInBounds_toArray, List.set_cons_zero, List.set_cons_succ]
        (try dsimp only at hS')
        go_simp
        (try with_reducible rfl)
      -- 4: move t1
      refine' chainP_read (d := (some 20)) _ rfl rfl (fun w' hS' => ?_) ?_; rotate_left
      · simp only [lookP, allP, Act.put, List.getElem?_cons_zero, List.getElem?_cons_succ, List.setIfInBounds_toArray, List.set_cons_zero, List.set_cons_succ]
        (try dsimp only at hS')
        go_simp
        (try with_reducible rfl)
      -- 5: move t5
      refine' chainP_read (d := (some 21)) _ rfl rfl (fun w' hS' => ?_) ?_; rotate_left
      · simp only [lookP, allP, Act.put, List.getElem?_cons_zero, List.getElem?_cons_succ, List.setIfInBounds_toArray, List.set_cons_zero, List.set_cons_succ]
        (try dsimp only at hS')
        go_simp
        (try with_reducible rfl)
      -- 6: indexAddr 52 t20 t21
      refine' chainP_read (d := (some 22)) _ rfl rfl (fun w' hS' => ?_) ?_; rotate_left
      · simp only [lookP, allP, Act.put, List.getElem?_cons_zero, List.getElem?_cons_succ, List.setIfInBounds_toArray, List.set_cons_zero, List.set_cons_succ]
        (try dsimp only at hS')
        go_simp
        (try with_reducible rfl)
      -- 7: load 58 t22
      refine' chainP_read (d := (some 23)) _ rfl rfl (fun w' hS' => ?_) ?_; rotate_left
      · simp only [lookP, allP, Act.put, List.getElem?_cons_zero, List.getElem?_cons_succ, List.setIfInBounds_toArray, List.set_cons_zero, List.set_cons_succ]
        (try dsimp only at hS')
        go_simp
        (try with_reducible rfl)
      -- 8: binOp Binneq 58 t19 t23 58
      refine' chainP_read (d := (some 24)) _ rfl rfl (fun w' hS' => ?_) ?_; rotate_left
      · simp only [lookP, allP, Act.put, List.getElem?_cons_zero, List.getElem?_cons_succ, List.setIfInBounds_toArray, List.set_cons_zero, List.set_cons_succ]
        (try dsimp only at hS')
        go_simp
        (try with_reducible rfl)
      refine chainP_nil (fun u1 hS' => ?_)
      simp only [allP, Act.put, List.setIfInBounds_toArray, List.set_cons_zero, List.set_cons_succ]
      have hq1 := hS'.1
      clear hS'
      replace hc := Below.next hc hq1
      replace y0 := box_at y0 hq1
      replace y1 := box_at y1 hq1
      replace y2 := box_at y2 hq1
      replace y3 := box_at y3 hq1
      clear hq1
      clear y0 y1 y2 y3
      have HC := Lib.hid hc
      clear hc
      go_wp2_with fail
      refine NoPanic.normal ?_
      go_wp2_with fail
      go_roundg (n - (k + 1))
      case measure => omega
      case rel => exact ⟨k + 1, by omega, by go_num, HB.out.trans (HC.out.mono HB.out.size)⟩
    · obtain rfl : n = k := by omega
      have HB := Lib.hid hb
      clear hb
      go_wp2_with fail
      go_ret
      exact ⟨rfl, HB.out⟩
end Go.Proofs.Ytboahnklilmdpaa
