/- Ballots: credentials, casts in memory, challenges: walks (printed by gen_bal1.py). -/
import Derived.Test.YtboahnklilmdpaaBalLV
import Derived.Test.YtboahnklilmdpaaSpoilV
import Derived.Test.YtboahnklilmdpaaBmV
namespace Go.Proofs.Ytboahnklilmdpaa
open Go.RowKit
set_option linter.unusedSimpArgs false
set_option linter.unusedVariables false

def sCast : ByteArray := { data := #[99, 97, 115, 116] }
/-- a cast in memory -/
def CaR (w : World) (v : Value) (x : CastD) : Prop := ∃ a b c, v = .agg #[.int .i64 x.c.a, .int .i64 x.c.b, .int .i64 x.v.a, .int .i64 x.v.b, a, b, c] ∧ ((I64 x.c.a ∧ I64 x.c.b) ∧ (I64 x.v.a ∧ I64 x.v.b)) ∧ Ints w a x.p.c ∧ Ints w b x.p.h ∧ Ints w c x.p.r
theorem CaR.below {w w' : World} {v : Value} {x : CastD} (h : CaR w v x) (hb : Below w.heap.size w w') : CaR w' v x := by
  obtain ⟨a, b, c, e, h0, h1, h2, h3⟩ := h; exact ⟨a, b, c, e, h0, h1.below hb, h2.below hb, h3.below hb⟩
/-- append of two slices of integers, as an operation of a drawn region -/
theorem do_append_ints {o : Oper} {a : Act} {w : World} {K : Act → World → Prop} {Q : Exit → Act → World → Prop} (s x : Operand)
    (ho : o.op = .call { callee := .builtin .append, args := #[s, x], argTypes := #[24, 24] })
    (B : Nat) (v y : Value) (l m : List Int) (hs : a.eval s = v) (hown : OwnI w B v l) (hx : a.eval x = y) (hy : Ints w y m) (hlen : l.length + m.length ≤ 1000000000000) (hB : B ≤ w.heap.size)
    (hK : ∀ v' w', OwnI w' B v' (l ++ m) → Below B w w' → K (a.put o.dst v') w') : Oper.wp Try.prog o a w K Q := by
  obtain ⟨v', w', hr, h1, h2⟩ := run_append_ints (t := 24) rfl hown hy hlen hB o.type
  unfold Oper.wp execOp
  simp only [ho, resolve, invoke, builtin, Sem.run_bind, Sem.run_pure, Result.andThen_ok, List.map_toArray, List.map_cons, List.map_nil, hs, hx, hr]
  exact hK v' w' h1 (hown.grown h2 hB)
set_option maxRecDepth 100000 in
set_option maxHeartbeats 2000000 in
theorem impl_isCredential (gr : GroupD) (x : Int) (w : World) (hg : OkG gr) (hx : I64 x) :
    Calls Try.prog 183 #[.agg #[.int .i64 gr.p, .int .i64 gr.q, .int .i64 gr.g], .int .i64 x] w fun e w' => e = .returned (.bool (crB gr x)) ∧ Below w.heap.size w w' := by
  have HG := Lib.hid hg
  clear hg
  cases hc1 : (x != 1) with
  | false =>
    have HV : Hid ((.bool (crB gr x) : Value) = .bool false) := by unfold Hid; simp [crB, hc1]
    rw [HV.out]
    go_enter Try.func183, Try.ntmps183
    go_wp2_with fail
    go_ret
    exact ⟨rfl, by (repeat (first | exact Below.refl _ _ | assumption | refine Below.drew ?_ | refine Below.alloc ?_ (by first | (simp; done) | (simp; omega)) _ | refine Below.setCell ?_ (by first | (simp; done) | (simp; omega)) _))⟩
  | true =>
    have HV : Hid ((.bool (crB gr x) : Value) = .bool (elB gr x)) := by unfold Hid; simp [crB, hc1]
    rw [HV.out]
    obtain ⟨W, hW⟩ : ∃ W, W = w.alloc (.cells #[.int .i64 gr.p, .int .i64 gr.q, .int .i64 gr.g] 39) := ⟨_, rfl⟩
    have HB : Hid (Below w.heap.size w W) := by unfold Hid; rw [hW]; (repeat (first | exact Below.refl _ _ | assumption | refine Below.drew ?_ | refine Below.alloc ?_ (by first | (simp; done) | (simp; omega)) _ | refine Below.setCell ?_ (by first | (simp; done) | (simp; omega)) _))
    have c0_0 : W.cell? ⟨w.heap.size, 0, none⟩ = some (.int .i64 gr.p) := by rw [hW]; simp [go_sem]
    have c0_1 : W.cell? ⟨w.heap.size, 1, none⟩ = some (.int .i64 gr.q) := by rw [hW]; simp [go_sem]
    have c0_2 : W.cell? ⟨w.heap.size, 2, none⟩ = some (.int .i64 gr.g) := by rw [hW]; simp [go_sem]
    have HSW : Hid (W.heap.size = w.heap.size + 1) := by unfold Hid; rw [hW]; simp
    go_enter Try.func183, Try.ntmps183
    go_wp2_with fail
    rw [← hW]
    have hse : w.heap.size + 1 = W.heap.size := by have := HSW.out; omega
    (try rw [hse])
    clear hse
    clear hW
    have hc : Below W.heap.size W W := Below.refl _ _
    go_wp2_with fail
    refine (impl_has gr x _ HG.out).mono ?_
    rintro e u1 ⟨rfl, hq1⟩
    replace hc := Below.next hc hq1
    replace c0_0 := box_at c0_0 hq1
    replace c0_1 := box_at c0_1 hq1
    replace c0_2 := box_at c0_2 hq1
    clear hq1
    go_wp2_with fail
    go_ret
    exact ⟨rfl, HB.out.trans (hc.mono HB.out.size)⟩
set_option maxRecDepth 100000 in
set_option maxHeartbeats 2000000 in
theorem spec_dCredential (gr : GroupD) (x : Int) (w : World) (hx : I64 x) :
    Calls Try.prog 185 #[.agg #[.int .i64 gr.p, .int .i64 gr.q, .int .i64 gr.g], .int .i64 x] w fun e w' => e = .returned (.bool (goodG gr && crB gr x)) ∧ Below w.heap.size w w' := by
  obtain ⟨W, hW⟩ : ∃ W, W = w.alloc (.cells #[.int .i64 gr.p, .int .i64 gr.q, .int .i64 gr.g] 39) := ⟨_, rfl⟩
  have HB : Hid (Below w.heap.size w W) := by unfold Hid; rw [hW]; (repeat (first | exact Below.refl _ _ | assumption | refine Below.drew ?_ | refine Below.alloc ?_ (by first | (simp; done) | (simp; omega)) _ | refine Below.setCell ?_ (by first | (simp; done) | (simp; omega)) _))
  have c0_0 : W.cell? ⟨w.heap.size, 0, none⟩ = some (.int .i64 gr.p) := by rw [hW]; simp [go_sem]
  have c0_1 : W.cell? ⟨w.heap.size, 1, none⟩ = some (.int .i64 gr.q) := by rw [hW]; simp [go_sem]
  have c0_2 : W.cell? ⟨w.heap.size, 2, none⟩ = some (.int .i64 gr.g) := by rw [hW]; simp [go_sem]
  have HSW : Hid (W.heap.size = w.heap.size + 1) := by unfold Hid; rw [hW]; simp
  go_enter Try.func185, Try.ntmps185
  go_wp2_with fail
  rw [← hW]
  have hse : w.heap.size + 1 = W.heap.size := by have := HSW.out; omega
  (try rw [hse])
  clear hse
  clear hW
  have hc : Below W.heap.size W W := Below.refl _ _
  have HCC : Hid (∀ u, Below W.heap.size W u → u.cell? ⟨w.heap.size, 0, none⟩ = some (.int .i64 gr.p) ∧ u.cell? ⟨w.heap.size, 1, none⟩ = some (.int .i64 gr.q) ∧ u.cell? ⟨w.heap.size, 2, none⟩ = some (.int .i64 gr.g)) := fun u h => ⟨box_at c0_0 h, box_at c0_1 h, box_at c0_2 h⟩
  go_wp2_with fail
  refine (spec_l2Good gr _).mono ?_
  rintro e u1 ⟨rfl, hq1⟩
  replace hc := Below.next hc hq1
  clear hq1 c0_0 c0_1 c0_2
  obtain ⟨c0_0, c0_1, c0_2⟩ := HCC.out _ hc
  cases hc1 : goodG gr with
  | false =>
    have Hhc1 := Lib.hid hc1
    clear hc1
    go_wp2_with fail
    have HV : Hid ((.bool (goodG gr && crB gr x) : Value) = .bool false) := by unfold Hid; simp [crB, Hhc1.out]
    go_ret
    exact ⟨congrArg Ending.returned HV.out.symm, HB.out.trans (hc.mono HB.out.size)⟩
  | true =>
    have HG := Lib.hid (goodG_ok hc1)
    have Hhc1 := Lib.hid hc1
    clear hc1
    go_wp2_with fail
    refine (spec_gIs gr _ [x] _ HG.out (OwnI.lit (B := 0) _ (Nat.zero_le _) (l := [x]) (AllI64.cons hx AllI64.nil) rfl (by simp [maxLen]) 1 rfl).ints).mono ?_
    rintro e u2 ⟨rfl, hq2⟩
    replace hq2 := Below.next (keep_al (Below.refl _ _) _) hq2
    replace hc := Below.next hc hq2
    clear hq2 c0_0 c0_1 c0_2
    obtain ⟨c0_0, c0_1, c0_2⟩ := HCC.out _ hc
    cases hc2 : [x].all (elB gr) with
    | false =>
      have Hhc2 := Lib.hid hc2
      clear hc2
      go_wp2_with fail
      have HV : Hid ((.bool (goodG gr && crB gr x) : Value) = .bool false) := by unfold Hid; have qhc2 := Hhc2.out; simp only [List.all_cons, List.all_nil, Bool.and_true] at qhc2; simp [crB, Hhc1.out, qhc2]
      go_ret
      exact ⟨congrArg Ending.returned HV.out.symm, HB.out.trans (hc.mono HB.out.size)⟩
    | true =>
      have Hhc2 := Lib.hid hc2
      clear hc2
      cases hc3 : (x != 1) with
      | false =>
        go_wp2_with fail
        have HV : Hid ((.bool (goodG gr && crB gr x) : Value) = .bool false) := by unfold Hid; have qhc2 := Hhc2.out; simp only [List.all_cons, List.all_nil, Bool.and_true] at qhc2; simp [crB, Hhc1.out, qhc2, hc3]
        go_ret
        exact ⟨congrArg Ending.returned HV.out.symm, HB.out.trans (hc.mono HB.out.size)⟩
      | true =>
        go_wp2_with fail
        have HV : Hid ((.bool (goodG gr && crB gr x) : Value) = .bool true) := by unfold Hid; have qhc2 := Hhc2.out; simp only [List.all_cons, List.all_nil, Bool.and_true] at qhc2; simp [crB, Hhc1.out, qhc2, hc3]
        go_ret
        exact ⟨congrArg Ending.returned HV.out.symm, HB.out.trans (hc.mono HB.out.size)⟩
set_option maxRecDepth 100000 in
set_option maxHeartbeats 2000000 in
theorem impl_castChallenge (gr : GroupD) (pv : Value) (x : CastD) (yv : Value) (l : List Int) (w : World) (hg : OkG gr) (hp : CaR w pv x) (hy : Ints w yv l) (hl : l.length ≤ 30) (hs : AllSmall ([x.c.a, x.c.b, x.v.a, x.v.b] ++ l)) :
    Calls Try.prog 191 #[.agg #[.int .i64 gr.p, .int .i64 gr.q, .int .i64 gr.g], pv, yv] w fun e w' => e = .returned (.int .i64 (caE gr sCast x.c x.v l)) ∧ Below w.heap.size w w' := by
  have HG := Lib.hid hg
  clear hg
  obtain ⟨xcv, xhv, xrv, rfl, ⟨⟨ia, ib⟩, ⟨ic, id⟩⟩, hxc, hxh, hxr⟩ := hp
  obtain ⟨xca, xcn, xcc, rfl⟩ := hxc.shape
  have Exc := Lib.hid hxc.len
  have Kxc := Lib.hid hxc.capMax
  have Hxc := Lib.hid hxc
  clear hxc
  obtain ⟨xha, xhn, xhc, rfl⟩ := hxh.shape
  have Exh := Lib.hid hxh.len
  have Kxh := Lib.hid hxh.capMax
  have Hxh := Lib.hid hxh
  clear hxh
  obtain ⟨xra, xrn, xrc, rfl⟩ := hxr.shape
  have Exr := Lib.hid hxr.len
  have Kxr := Lib.hid hxr.capMax
  have Hxr := Lib.hid hxr
  clear hxr
  obtain ⟨yva, yvn, yvc, rfl⟩ := hy.shape
  have Eyv := Lib.hid hy.len
  have Kyv := Lib.hid hy.capMax
  have Hyv := Lib.hid hy
  clear hy
  have HYV := Hyv
  have HLL := Lib.hid hl
  have HXS := Lib.hid hs
  clear hl hs
  have HCB : Hid (chB gr sCast ([x.c.a, x.c.b, x.v.a, x.v.b] ++ l) = true) := chB_yes HG.out (digests_small HXS.out) (by decide) (by have := HLL.out; simp; omega)
  obtain ⟨E, hE⟩ : ∃ e, caE gr sCast x.c x.v l = e := ⟨_, rfl⟩
  have HCI : Hid (chI gr sCast ([x.c.a, x.c.b, x.v.a, x.v.b] ++ l) = E) := (chI_yes HCB.out).trans hE
  have HCV : Hid (chV gr sCast ([x.c.a, x.c.b, x.v.a, x.v.b] ++ l) = E) := hE
  rw [hE]
  clear hE
  obtain ⟨W, hW⟩ : ∃ W, W = (w.alloc (.cells #[.int .i64 gr.p, .int .i64 gr.q, .int .i64 gr.g] 39)).alloc (.cells #[.int .i64 x.c.a, .int .i64 x.c.b, .int .i64 x.v.a, .int .i64 x.v.b, (.slice xca xcn xcc), (.slice xha xhn xhc), (.slice xra xrn xrc)] 104) := ⟨_, rfl⟩
  have HB : Hid (Below w.heap.size w W) := by unfold Hid; rw [hW]; (repeat (first | exact Below.refl _ _ | assumption | refine Below.drew ?_ | refine Below.alloc ?_ (by first | (simp; done) | (simp; omega)) _ | refine Below.setCell ?_ (by first | (simp; done) | (simp; omega)) _))
  have c0_0 : W.cell? ⟨w.heap.size, 0, none⟩ = some (.int .i64 gr.p) := by rw [hW]; simp [go_sem]
  have c0_1 : W.cell? ⟨w.heap.size, 1, none⟩ = some (.int .i64 gr.q) := by rw [hW]; simp [go_sem]
  have c0_2 : W.cell? ⟨w.heap.size, 2, none⟩ = some (.int .i64 gr.g) := by rw [hW]; simp [go_sem]
  have c1_0 : W.cell? ⟨w.heap.size + 1, 0, none⟩ = some (.int .i64 x.c.a) := by rw [hW]; simp [go_sem]
  have c1_1 : W.cell? ⟨w.heap.size + 1, 1, none⟩ = some (.int .i64 x.c.b) := by rw [hW]; simp [go_sem]
  have c1_2 : W.cell? ⟨w.heap.size + 1, 2, none⟩ = some (.int .i64 x.v.a) := by rw [hW]; simp [go_sem]
  have c1_3 : W.cell? ⟨w.heap.size + 1, 3, none⟩ = some (.int .i64 x.v.b) := by rw [hW]; simp [go_sem]
  have c1_4 : W.cell? ⟨w.heap.size + 1, 4, none⟩ = some ((.slice xca xcn xcc)) := by rw [hW]; simp [go_sem]
  have c1_5 : W.cell? ⟨w.heap.size + 1, 5, none⟩ = some ((.slice xha xhn xhc)) := by rw [hW]; simp [go_sem]
  have c1_6 : W.cell? ⟨w.heap.size + 1, 6, none⟩ = some ((.slice xra xrn xrc)) := by rw [hW]; simp [go_sem]
  have HSW : Hid (W.heap.size = w.heap.size + 2) := by unfold Hid; rw [hW]; simp
  go_enter Try.func191, Try.ntmps191
  go_wp2_with fail
  rw [← hW]
  have hse : w.heap.size + 1 + 1 = W.heap.size := by have := HSW.out; omega
  (try rw [hse])
  clear hse
  clear hW
  have hc : Below W.heap.size W W := Below.refl _ _
  have HCC : Hid (∀ u, Below W.heap.size W u → u.cell? ⟨w.heap.size, 0, none⟩ = some (.int .i64 gr.p) ∧ u.cell? ⟨w.heap.size, 1, none⟩ = some (.int .i64 gr.q) ∧ u.cell? ⟨w.heap.size, 2, none⟩ = some (.int .i64 gr.g) ∧ u.cell? ⟨w.heap.size + 1, 0, none⟩ = some (.int .i64 x.c.a) ∧ u.cell? ⟨w.heap.size + 1, 1, none⟩ = some (.int .i64 x.c.b) ∧ u.cell? ⟨w.heap.size + 1, 2, none⟩ = some (.int .i64 x.v.a) ∧ u.cell? ⟨w.heap.size + 1, 3, none⟩ = some (.int .i64 x.v.b) ∧ u.cell? ⟨w.heap.size + 1, 4, none⟩ = some ((.slice xca xcn xcc)) ∧ u.cell? ⟨w.heap.size + 1, 5, none⟩ = some ((.slice xha xhn xhc)) ∧ u.cell? ⟨w.heap.size + 1, 6, none⟩ = some ((.slice xra xrn xrc))) := fun u h => ⟨box_at c0_0 h, box_at c0_1 h, box_at c0_2 h, box_at c1_0 h, box_at c1_1 h, box_at c1_2 h, box_at c1_3 h, box_at c1_4 h, box_at c1_5 h, box_at c1_6 h⟩
  try (go_wp2_with fail)
  have hdr : Below W.heap.size W W.drew := (Below.refl _ _).drew
  refine wp_region_noPanic ?_
  refine wp_region_V (fun w' => w'.cell? ⟨w.heap.size, 0, none⟩ = some (.int .i64 gr.p) ∧ w'.cell? ⟨w.heap.size, 1, none⟩ = some (.int .i64 gr.q) ∧ w'.cell? ⟨w.heap.size, 2, none⟩ = some (.int .i64 gr.g) ∧ w'.cell? ⟨w.heap.size + 1, 0, none⟩ = some (.int .i64 x.c.a) ∧ w'.cell? ⟨w.heap.size + 1, 1, none⟩ = some (.int .i64 x.c.b) ∧ w'.cell? ⟨w.heap.size + 1, 2, none⟩ = some (.int .i64 x.v.a) ∧ w'.cell? ⟨w.heap.size + 1, 3, none⟩ = some (.int .i64 x.v.b) ∧ w'.cell? ⟨w.heap.size + 1, 4, none⟩ = some ((.slice xca xcn xcc)) ∧ w'.cell? ⟨w.heap.size + 1, 5, none⟩ = some ((.slice xha xhn xhc)) ∧ w'.cell? ⟨w.heap.size + 1, 6, none⟩ = some ((.slice xra xrn xrc))) 24 22 (.rd 0 (.rd 1 (.rd 2 (.rd 3 (.rd 4 (.rd 5 (.rd 6 (.rd 7 (.rd 8 (.rd 9 (.rd 10 (.rd 11 (.rd 12 (.rd 14 (.alt 13 (.alt 15 (.alt 16 (.rd 17 (.rd 18 (.rd 19 (.rd 20 (.rd 21 .done))))) .nil) .nil) .nil))))))))))))))) [] (by kernel_rfl) (by kernel_rfl) rfl (fun _ _ _ _ _ h => h) (HCC.out _ hdr) ?_
  simp only [pickV, pickN, List.getElem?_cons_zero, List.getElem?_cons_succ]
  repeat (refine' wpV_read _ (by kernel_rfl) (fun w' hS' => ?_) ?_; rotate_left; · ((try dsimp only at hS'); go_simp; (try with_reducible rfl)); (try simp only [Act.put, List.setIfInBounds_toArray, List.set_cons_zero, List.set_cons_succ]))
  refine wpV_do (by kernel_rfl) (fun K hK => ?_)
  go_simp
  obtain ⟨X1, hX⟩ : ∃ x0, x0 = (W.alloc (.cells #[.int .i64 x.c.a, .int .i64 x.c.b, .int .i64 x.v.a, .int .i64 x.v.b] 3)).drew := ⟨_, rfl⟩
  have hb1 : Below W.heap.size W X1 := by rw [hX]; exact hdr.alloc hdr.size _
  have HO1 : Hid (OwnI X1 W.heap.size (.slice (some ⟨W.heap.size, 0, none⟩) 4 4) [x.c.a, x.c.b, x.v.a, x.v.b]) := by unfold Hid; rw [hX]; exact OwnI.below (OwnI.lit W (Nat.le_refl _) (l := [x.c.a, x.c.b, x.v.a, x.v.b]) (AllI64.cons ia (AllI64.cons ib (AllI64.cons ic (AllI64.cons id AllI64.nil)))) rfl (by simp [maxLen]) 4 rfl) (Below.refl _ _).drew
  rw [← hX]
  clear hX
  refine hK.out _ _ (HCC.out _ hb1) (fun _ => ?_)
  clear hK K
  (try simp only [Act.put, List.setIfInBounds_toArray, List.set_cons_zero, List.set_cons_succ])
  refine wpV_do (by kernel_rfl) (fun K hK => ?_)
  refine do_append_ints _ _ rfl W.heap.size _ _ [x.c.a, x.c.b, x.v.a, x.v.b] l rfl HO1.out rfl (HYV.out.below (HB.out.trans (hb1.mono HB.out.size))) (by have := HLL.out; simp; omega) hb1.size ?_
  intro v3 w3 hown3 hb3
  have hb4 : Below W.heap.size W w3 := hb1.trans hb3
  refine hK.out _ _ (HCC.out _ hb4) (fun _ => ?_)
  clear hK K
  (try simp only [Act.put, List.setIfInBounds_toArray, List.set_cons_zero, List.set_cons_succ])
  refine wpV_do (by kernel_rfl) (fun K hK => ?_)
  go_simp
  go_at_call 207
  refine (impl_challenge gr sCast _ ([x.c.a, x.c.b, x.v.a, x.v.b] ++ l) _ HG.out hown3.ints (by decide) (by have := HLL.out; simp; omega)).mono ?_
  rintro e w5 ⟨rfl, hq⟩
  rw [HCB.out, HCI.out]
  have hb5 := Below.next hb4 hq
  refine hK.out _ _ (HCC.out _ hb5) (fun _ => ?_)
  clear hK K
  (try simp only [Act.put, List.setIfInBounds_toArray, List.set_cons_zero, List.set_cons_succ])
  repeat (refine' wpV_read _ (by kernel_rfl) (fun w' hS' => ?_) ?_; rotate_left; · ((try dsimp only at hS'); go_simp; (try with_reducible rfl)); (try simp only [Act.put, List.setIfInBounds_toArray, List.set_cons_zero, List.set_cons_succ]))
  refine wpV_done ?_
  go_wp2_with fail
  refine NoPanic.normal ?_
  replace hc := hb5
  clear c0_0 c0_1 c0_2 c1_0 c1_1 c1_2 c1_3 c1_4 c1_5 c1_6
  obtain ⟨c0_0, c0_1, c0_2, c1_0, c1_1, c1_2, c1_3, c1_4, c1_5, c1_6⟩ := HCC.out _ hc
  go_wp2_with fail
  go_ret
  exact ⟨rfl, HB.out.trans (hc.mono HB.out.size)⟩
set_option maxRecDepth 100000 in
set_option maxHeartbeats 2000000 in
theorem spec_dChallenge (gr : GroupD) (pv : Value) (x : CastD) (w : World) (hg : OkG gr) (hp : CaR w pv x) (hl : x.p.c.length ≤ 30) (hs : AllSmall ([x.c.a, x.c.b, x.v.a, x.v.b] ++ x.p.c)) :
    Calls Try.prog 276 #[.agg #[.int .i64 gr.p, .int .i64 gr.q, .int .i64 gr.g], pv] w fun e w' => e = .returned (.int .i64 (caE gr sCast x.c x.v x.p.c)) ∧ Below w.heap.size w w' := by
  have HG := Lib.hid hg
  clear hg
  obtain ⟨xcv, xhv, xrv, rfl, ⟨⟨ia, ib⟩, ⟨ic, id⟩⟩, hxc, hxh, hxr⟩ := hp
  obtain ⟨xca, xcn, xcc, rfl⟩ := hxc.shape
  have Exc := Lib.hid hxc.len
  have Kxc := Lib.hid hxc.capMax
  have Hxc := Lib.hid hxc
  clear hxc
  obtain ⟨xha, xhn, xhc, rfl⟩ := hxh.shape
  have Exh := Lib.hid hxh.len
  have Kxh := Lib.hid hxh.capMax
  have Hxh := Lib.hid hxh
  clear hxh
  obtain ⟨xra, xrn, xrc, rfl⟩ := hxr.shape
  have Exr := Lib.hid hxr.len
  have Kxr := Lib.hid hxr.capMax
  have Hxr := Lib.hid hxr
  clear hxr
  have HLL := Lib.hid hl
  have HXS := Lib.hid hs
  have HDG := Lib.hid (digests_small hs)
  clear hl hs
  obtain ⟨E, hE⟩ : ∃ e, caE gr sCast x.c x.v x.p.c = e := ⟨_, rfl⟩
  have HCV : Hid (chV gr sCast ([x.c.a, x.c.b, x.v.a, x.v.b] ++ x.p.c) = E) := hE
  rw [hE]
  clear hE
  obtain ⟨W, hW⟩ : ∃ W, W = (w.alloc (.cells #[.int .i64 gr.p, .int .i64 gr.q, .int .i64 gr.g] 39)).alloc (.cells #[.int .i64 x.c.a, .int .i64 x.c.b, .int .i64 x.v.a, .int .i64 x.v.b, (.slice xca xcn xcc), (.slice xha xhn xhc), (.slice xra xrn xrc)] 104) := ⟨_, rfl⟩
  have HB : Hid (Below w.heap.size w W) := by unfold Hid; rw [hW]; (repeat (first | exact Below.refl _ _ | assumption | refine Below.drew ?_ | refine Below.alloc ?_ (by first | (simp; done) | (simp; omega)) _ | refine Below.setCell ?_ (by first | (simp; done) | (simp; omega)) _))
  have c0_0 : W.cell? ⟨w.heap.size, 0, none⟩ = some (.int .i64 gr.p) := by rw [hW]; simp [go_sem]
  have c0_1 : W.cell? ⟨w.heap.size, 1, none⟩ = some (.int .i64 gr.q) := by rw [hW]; simp [go_sem]
  have c0_2 : W.cell? ⟨w.heap.size, 2, none⟩ = some (.int .i64 gr.g) := by rw [hW]; simp [go_sem]
  have c1_0 : W.cell? ⟨w.heap.size + 1, 0, none⟩ = some (.int .i64 x.c.a) := by rw [hW]; simp [go_sem]
  have c1_1 : W.cell? ⟨w.heap.size + 1, 1, none⟩ = some (.int .i64 x.c.b) := by rw [hW]; simp [go_sem]
  have c1_2 : W.cell? ⟨w.heap.size + 1, 2, none⟩ = some (.int .i64 x.v.a) := by rw [hW]; simp [go_sem]
  have c1_3 : W.cell? ⟨w.heap.size + 1, 3, none⟩ = some (.int .i64 x.v.b) := by rw [hW]; simp [go_sem]
  have c1_4 : W.cell? ⟨w.heap.size + 1, 4, none⟩ = some ((.slice xca xcn xcc)) := by rw [hW]; simp [go_sem]
  have c1_5 : W.cell? ⟨w.heap.size + 1, 5, none⟩ = some ((.slice xha xhn xhc)) := by rw [hW]; simp [go_sem]
  have c1_6 : W.cell? ⟨w.heap.size + 1, 6, none⟩ = some ((.slice xra xrn xrc)) := by rw [hW]; simp [go_sem]
  have HSW : Hid (W.heap.size = w.heap.size + 2) := by unfold Hid; rw [hW]; simp
  go_enter Try.func276, Try.ntmps276
  go_wp2_with fail
  rw [← hW]
  have hse : w.heap.size + 1 + 1 = W.heap.size := by have := HSW.out; omega
  (try rw [hse])
  clear hse
  clear hW
  have hc : Below W.heap.size W W := Below.refl _ _
  have HCC : Hid (∀ u, Below W.heap.size W u → u.cell? ⟨w.heap.size, 0, none⟩ = some (.int .i64 gr.p) ∧ u.cell? ⟨w.heap.size, 1, none⟩ = some (.int .i64 gr.q) ∧ u.cell? ⟨w.heap.size, 2, none⟩ = some (.int .i64 gr.g) ∧ u.cell? ⟨w.heap.size + 1, 0, none⟩ = some (.int .i64 x.c.a) ∧ u.cell? ⟨w.heap.size + 1, 1, none⟩ = some (.int .i64 x.c.b) ∧ u.cell? ⟨w.heap.size + 1, 2, none⟩ = some (.int .i64 x.v.a) ∧ u.cell? ⟨w.heap.size + 1, 3, none⟩ = some (.int .i64 x.v.b) ∧ u.cell? ⟨w.heap.size + 1, 4, none⟩ = some ((.slice xca xcn xcc)) ∧ u.cell? ⟨w.heap.size + 1, 5, none⟩ = some ((.slice xha xhn xhc)) ∧ u.cell? ⟨w.heap.size + 1, 6, none⟩ = some ((.slice xra xrn xrc))) := fun u h => ⟨box_at c0_0 h, box_at c0_1 h, box_at c0_2 h, box_at c1_0 h, box_at c1_1 h, box_at c1_2 h, box_at c1_3 h, box_at c1_4 h, box_at c1_5 h, box_at c1_6 h⟩
  go_wp2_with fail
  obtain ⟨X0, hX⟩ : ∃ x0, x0 = W.alloc (.cells #[.int .i64 x.c.a, .int .i64 x.c.b, .int .i64 x.v.a, .int .i64 x.v.b] 3) := ⟨_, rfl⟩
  have hb0 : Below W.heap.size W X0 := by rw [hX]; exact (Below.refl _ _).alloc (Nat.le_refl _) _
  have HO0 : Hid (OwnI X0 W.heap.size (.slice (some ⟨W.heap.size, 0, none⟩) 4 4) [x.c.a, x.c.b, x.v.a, x.v.b]) := by unfold Hid; rw [hX]; exact OwnI.lit W (Nat.le_refl _) (l := [x.c.a, x.c.b, x.v.a, x.v.b]) (AllI64.cons ia (AllI64.cons ib (AllI64.cons ic (AllI64.cons id AllI64.nil)))) rfl (by simp [maxLen]) 4 rfl
  rw [← hX]
  clear hX
  have hb1 : Below W.heap.size W X0.drew := hb0.drew
  have HO1 := Lib.hid (HO0.out.below (Below.refl _ _).drew)
  refine wp_region_noPanic ?_
  refine wp_region_V (fun w' => w'.cell? ⟨w.heap.size, 0, none⟩ = some (.int .i64 gr.p) ∧ w'.cell? ⟨w.heap.size, 1, none⟩ = some (.int .i64 gr.q) ∧ w'.cell? ⟨w.heap.size, 2, none⟩ = some (.int .i64 gr.g) ∧ w'.cell? ⟨w.heap.size + 1, 0, none⟩ = some (.int .i64 x.c.a) ∧ w'.cell? ⟨w.heap.size + 1, 1, none⟩ = some (.int .i64 x.c.b) ∧ w'.cell? ⟨w.heap.size + 1, 2, none⟩ = some (.int .i64 x.v.a) ∧ w'.cell? ⟨w.heap.size + 1, 3, none⟩ = some (.int .i64 x.v.b) ∧ w'.cell? ⟨w.heap.size + 1, 4, none⟩ = some ((.slice xca xcn xcc)) ∧ w'.cell? ⟨w.heap.size + 1, 5, none⟩ = some ((.slice xha xhn xhc)) ∧ w'.cell? ⟨w.heap.size + 1, 6, none⟩ = some ((.slice xra xrn xrc))) 10 8 (.rd 0 (.rd 1 (.rd 2 (.rd 3 (.rd 4 (.alt 5 (.alt 6 (.rd 7 .done) .nil) .nil)))))) [] (by kernel_rfl) (by kernel_rfl) rfl (fun _ _ _ _ _ h => h) (HCC.out _ hb1) ?_
  simp only [pickV, pickN, List.getElem?_cons_zero, List.getElem?_cons_succ]
  repeat (refine' wpV_read _ (by kernel_rfl) (fun w' hS' => ?_) ?_; rotate_left; · ((try dsimp only at hS'); go_simp; (try with_reducible rfl)); (try simp only [Act.put, List.setIfInBounds_toArray, List.set_cons_zero, List.set_cons_succ]))
  refine wpV_do (by kernel_rfl) (fun K hK => ?_)
  refine do_append_ints _ _ rfl W.heap.size _ _ [x.c.a, x.c.b, x.v.a, x.v.b] x.p.c rfl HO1.out rfl (Hxc.out.below (HB.out.trans (hb1.mono HB.out.size))) (by have := HLL.out; simp; omega) hb1.size ?_
  intro v3 w3 hown3 hb3
  have hb4 : Below W.heap.size W w3 := hb1.trans hb3
  refine hK.out _ _ (HCC.out _ hb4) (fun _ => ?_)
  clear hK K
  (try simp only [Act.put, List.setIfInBounds_toArray, List.set_cons_zero, List.set_cons_succ])
  refine wpV_do (by kernel_rfl) (fun K hK => ?_)
  go_simp
  go_at_call 277
  refine (spec_hChallenge gr sCast _ ([x.c.a, x.c.b, x.v.a, x.v.b] ++ x.p.c) _ HG.out hown3.ints (by decide) (by have := HLL.out; simp; omega) HDG.out).mono ?_
  rintro e w5 ⟨rfl, hq⟩
  rw [HCV.out]
  have hb5 := Below.next hb4 hq
  refine hK.out _ _ (HCC.out _ hb5) (fun _ => ?_)
  clear hK K
  (try simp only [Act.put, List.setIfInBounds_toArray, List.set_cons_zero, List.set_cons_succ])
  repeat (refine' wpV_read _ (by kernel_rfl) (fun w' hS' => ?_) ?_; rotate_left; · ((try dsimp only at hS'); go_simp; (try with_reducible rfl)); (try simp only [Act.put, List.setIfInBounds_toArray, List.set_cons_zero, List.set_cons_succ]))
  refine wpV_done ?_
  go_wp2_with fail
  refine NoPanic.normal ?_
  replace hc := hb5
  clear c0_0 c0_1 c0_2 c1_0 c1_1 c1_2 c1_3 c1_4 c1_5 c1_6
  obtain ⟨c0_0, c0_1, c0_2, c1_0, c1_1, c1_2, c1_3, c1_4, c1_5, c1_6⟩ := HCC.out _ hc
  go_wp2_with fail
  go_ret
  exact ⟨rfl, HB.out.trans (hc.mono HB.out.size)⟩
end Go.Proofs.Ytboahnklilmdpaa
