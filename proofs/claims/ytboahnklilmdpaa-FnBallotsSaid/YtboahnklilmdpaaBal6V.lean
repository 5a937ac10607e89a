/- Ballots: casts made: walks (printed by gen_bal6.py). -/
import Derived.Test.YtboahnklilmdpaaBal1V
import Derived.Test.YtboahnklilmdpaaBal2V
import Derived.Test.YtboahnklilmdpaaSpoilV
import Derived.Deep.Cut
namespace Go.Proofs.Ytboahnklilmdpaa
open Go.RowKit
set_option linter.unusedSimpArgs false
set_option linter.unusedVariables false

/-- a cast in new memory and a Bool are returned -/
def RetC (e : Ending) (w : World) (B : Nat) (b : Bool) (x : CastD) : Prop := ∃ u v z, e = .returned (.tuple #[.agg #[.int .i64 x.c.a, .int .i64 x.c.b, .int .i64 x.v.a, .int .i64 x.v.b, u, v, z], .bool b]) ∧ ((I64 x.c.a ∧ I64 x.c.b) ∧ (I64 x.v.a ∧ I64 x.v.b)) ∧ OwnI w B u x.p.c ∧ OwnI w B v x.p.h ∧ OwnI w B z x.p.r
theorem RetC.mk {w : World} {B : Nat} {u v z : Value} {b : Bool} {x : CastD} (hi : (I64 x.c.a ∧ I64 x.c.b) ∧ (I64 x.v.a ∧ I64 x.v.b)) (h1 : OwnI w B u x.p.c) (h2 : OwnI w B v x.p.h) (h3 : OwnI w B z x.p.r) : RetC (.returned (.tuple #[.agg #[.int .i64 x.c.a, .int .i64 x.c.b, .int .i64 x.v.a, .int .i64 x.v.b, u, v, z], .bool b])) w B b x := ⟨u, v, z, rfl, hi, h1, h2, h3⟩
/-- a cast in new memory is returned -/
def RetCD (e : Ending) (w : World) (B : Nat) (x : CastD) : Prop := ∃ u v z, e = .returned (.agg #[.int .i64 x.c.a, .int .i64 x.c.b, .int .i64 x.v.a, .int .i64 x.v.b, u, v, z]) ∧ ((I64 x.c.a ∧ I64 x.c.b) ∧ (I64 x.v.a ∧ I64 x.v.b)) ∧ OwnI w B u x.p.c ∧ OwnI w B v x.p.h ∧ OwnI w B z x.p.r
theorem RetCD.mk {w : World} {B : Nat} {u v z : Value} {x : CastD} (hi : (I64 x.c.a ∧ I64 x.c.b) ∧ (I64 x.v.a ∧ I64 x.v.b)) (h1 : OwnI w B u x.p.c) (h2 : OwnI w B v x.p.h) (h3 : OwnI w B z x.p.r) : RetCD (.returned (.agg #[.int .i64 x.c.a, .int .i64 x.c.b, .int .i64 x.v.a, .int .i64 x.v.b, u, v, z])) w B x := ⟨u, v, z, rfl, hi, h1, h2, h3⟩
theorem CaR.mk {w : World} {a b c : Value} {x : CastD} (hi : (I64 x.c.a ∧ I64 x.c.b) ∧ (I64 x.v.a ∧ I64 x.v.b)) (h1 : Ints w a x.p.c) (h2 : Ints w b x.p.h) (h3 : Ints w c x.p.r) : CaR w (.agg #[.int .i64 x.c.a, .int .i64 x.c.b, .int .i64 x.v.a, .int .i64 x.v.b, a, b, c]) x := ⟨a, b, c, rfl, hi, h1, h2, h3⟩
theorem OwnI.apartC {w : World} {B b : Nat} {v : Value} {l : List Int} {cs : List Value} (h : OwnI w B v l) (hx : BoxN w b 104 cs) : ∀ k, v.ownBlock = some k → b ≠ k := by
  rintro k hk rfl
  rcases h.2.2 with h2 | ⟨g, cap, cur, rfl, hg, hr, r⟩
  · rw [h2.1] at hk; cases hk
  · cases hk
    unfold BoxN at hx
    rw [hx] at hr
    injection hr with hr
    injection hr with h1 h2 h3
    exact absurd h2 (by decide)
/-- a row stays where a cell of a cast is written -/
theorem OwnI.setC {w : World} {B b : Nat} {v : Value} {l : List Int} {cs : List Value} (h : OwnI w B v l) (hx : BoxN w b 104 cs) (j : Nat) (x : Value) : OwnI (w.setCell ⟨b, j, none⟩ x) B v l :=
  h.kept (grownBy_setCell _ b j x) (.inr fun e => h.apartC hx _ e rfl)
theorem all_four {f : Int → Bool} {l : List Int} (h : l.length = 4) (ha : l.all f = true) : f (nth l 0) = true ∧ f (nth l 1) = true ∧ f (nth l 2) = true ∧ f (nth l 3) = true := by
  match l, h with
  | [a, b, c, d], _ => simpa [nth] using ha
theorem fkR_64 (gr : GroupD) (cred f : Int) : I64 (fkR gr cred f) := by
  unfold fkR
  split
  · rename_i h
    unfold fkB at h
    rw [Bool.and_eq_true] at h
    exact small_64 (mulL_small (goodG_ok h.1) _)
  · exact ⟨by decide, by decide⟩
set_option maxRecDepth 100000 in
set_option maxHeartbeats 4000000 in
theorem spec_dCast (gr : GroupD) (key cred vote : Int) (cv : Value) (cs : List Int) (w : World) (hgd : goodG gr = true) (hkey : elB gr key = true) (hcred : elB gr cred = true) (hvote : expB gr vote = true) (hcs : Ints w cv cs) (hcl : cs.length = 4) (hca : cs.all (expB gr) = true) :
    Calls Try.prog 192 #[.agg #[.int .i64 gr.p, .int .i64 gr.q, .int .i64 gr.g], .int .i64 key, .int .i64 cred, .int .i64 vote, cv] w fun e w' => RetCD e w' w.heap.size (caD gr sCast key cred vote cs) ∧ Below w.heap.size w w' := by
  have HGD := Lib.hid hgd
  have HG := Lib.hid (goodG_ok hgd)
  clear hgd
  obtain ⟨cva, cvn, cvc, rfl⟩ := hcs.shape
  have Ecv := Lib.hid hcs.len
  have Kcv := Lib.hid hcs.capMax
  have Hcv := Lib.hid hcs
  clear hcs
  have skey : Small key := elB_small HG.out hkey
  have scred : Small cred := elB_small HG.out hcred
  obtain ⟨v1, v2⟩ := expB_bd hvote
  obtain rfl : cvn = 4 := by have := Ecv.out; omega
  have HL2 := Lib.hid hcl
  have zq1 := HG.out.q1
  have zq2 := HG.out.q2
  have zp2 := HG.out.p2
  have zq3 : gr.q ≤ 2000000000 := by omega
  have zq0 : 0 < gr.q := by omega
  have zq4 : gr.q ≤ 4000000000 := by omega
  obtain ⟨a0, a1, a2, a3⟩ := all_four Ecv.out hca
  obtain ⟨a01, a02⟩ := expB_bd a0
  obtain ⟨a11, a12⟩ := expB_bd a1
  obtain ⟨a21, a22⟩ := expB_bd a2
  obtain ⟨a31, a32⟩ := expB_bd a3
  clear a0 a1 a2 a3
  have hgg := elT_gen HGD.out
  have sgg : Small gr.g := elB_small HG.out hgg
  obtain ⟨GV, hGV⟩ : ∃ x, powE gr gr.g vote = x := ⟨_, rfl⟩
  have HGV := Lib.hid hGV
  have sGV : Small GV := hGV ▸ powE_small HG.out gr.g vote
  obtain ⟨C, hC⟩ : ∃ x, enC gr key cred (nth cs 0) = x := ⟨_, rfl⟩
  have HC := Lib.hid hC
  have sC : SmallC C := hC ▸ enC_small HG.out key cred (nth cs 0)
  obtain ⟨D, hD⟩ : ∃ x, enC gr key GV (nth cs 1) = x := ⟨_, rfl⟩
  have HD := Lib.hid hD
  have sD : SmallC D := hD ▸ enC_small HG.out key GV (nth cs 1)
  obtain ⟨X0, hX0⟩ : ∃ x, powE gr gr.g (nth cs 2) = x := ⟨_, rfl⟩
  have HX0 := Lib.hid hX0
  have sX0 : Small X0 := hX0 ▸ powE_small HG.out gr.g (nth cs 2)
  obtain ⟨X1, hX1⟩ : ∃ x, powE gr gr.g (nth cs 3) = x := ⟨_, rfl⟩
  have HX1 := Lib.hid hX1
  have sX1 : Small X1 := hX1 ▸ powE_small HG.out gr.g (nth cs 3)
  obtain ⟨E, hE⟩ : ∃ x, caE gr sCast C D [X0, X1] = x := ⟨_, rfl⟩
  have HE := Lib.hid hE
  have he := chV_bd HG.out sCast ([C.a, C.b, D.a, D.b] ++ [X0, X1])
  obtain ⟨e1, e2⟩ : 0 ≤ E ∧ E < gr.q := hE ▸ he
  have iE : I64 E := ⟨by omega, by omega⟩
  have HAS : Hid (AllSmall ([C.a, C.b, D.a, D.b] ++ [X0, X1])) := AllSmall.cons sC.1 (AllSmall.cons sC.2 (AllSmall.cons sD.1 (AllSmall.cons sD.2 (AllSmall.cons sX0 (AllSmall.cons sX1 AllSmall.nil)))))
  have HII : Hid ((I64 C.a ∧ I64 C.b) ∧ (I64 D.a ∧ I64 D.b)) := ⟨⟨small_64 sC.1, small_64 sC.2⟩, ⟨small_64 sD.1, small_64 sD.2⟩⟩
  have hqz : ¬ gr.q = 0 := by omega
  obtain ⟨pp1, pp2⟩ := mul_bnd (a := E) (b := nth cs 0) (by omega) (by omega) (by omega) (by omega)
  have ewa1 : IntKind.i64.wrap (E * nth cs 0) = E * nth cs 0 := IntWalk.i64_in _ (by omega)
  have ewb1 : IntKind.i64.wrap (nth cs 2 + E * nth cs 0) = nth cs 2 + E * nth cs 0 := IntWalk.i64_in _ (by omega)
  have HN1 : Hid (I64 (nth cs 2 + E * nth cs 0)) := ⟨by omega, by omega⟩
  have et1 : Int.tmod (nth cs 2 + E * nth cs 0) gr.q = (nth cs 2 + E * nth cs 0) % gr.q := Int.tmod_eq_emod_of_nonneg (by omega)
  clear pp1 pp2
  obtain ⟨Z0, hZ0⟩ : ∃ x, (nth cs 2 + E * nth cs 0) % gr.q = x := ⟨_, rfl⟩
  rw [hZ0] at et1
  have HZ0 := Lib.hid hZ0
  have iZ0 : I64 Z0 := by rw [← hZ0]; have z1 : 0 ≤ (nth cs 2 + E * nth cs 0) % gr.q := Int.emod_nonneg _ (by omega); have z2 : (nth cs 2 + E * nth cs 0) % gr.q < gr.q := Int.emod_lt_of_pos _ (by omega); exact ⟨by omega, by omega⟩
  have ewz1 : IntKind.i64.wrap Z0 = Z0 := IntWalk.i64_in _ iZ0
  clear hZ0
  obtain ⟨pp1, pp2⟩ := mul_bnd (a := E) (b := nth cs 1) (by omega) (by omega) (by omega) (by omega)
  have ewa2 : IntKind.i64.wrap (E * nth cs 1) = E * nth cs 1 := IntWalk.i64_in _ (by omega)
  have ewb2 : IntKind.i64.wrap (nth cs 3 + E * nth cs 1) = nth cs 3 + E * nth cs 1 := IntWalk.i64_in _ (by omega)
  have HN2 : Hid (I64 (nth cs 3 + E * nth cs 1)) := ⟨by omega, by omega⟩
  have et2 : Int.tmod (nth cs 3 + E * nth cs 1) gr.q = (nth cs 3 + E * nth cs 1) % gr.q := Int.tmod_eq_emod_of_nonneg (by omega)
  clear pp1 pp2
  obtain ⟨Z1, hZ1⟩ : ∃ x, (nth cs 3 + E * nth cs 1) % gr.q = x := ⟨_, rfl⟩
  rw [hZ1] at et2
  have HZ1 := Lib.hid hZ1
  have iZ1 : I64 Z1 := by rw [← hZ1]; have z1 : 0 ≤ (nth cs 3 + E * nth cs 1) % gr.q := Int.emod_nonneg _ (by omega); have z2 : (nth cs 3 + E * nth cs 1) % gr.q < gr.q := Int.emod_lt_of_pos _ (by omega); exact ⟨by omega, by omega⟩
  have ewz2 : IntKind.i64.wrap Z1 = Z1 := IntWalk.i64_in _ iZ1
  clear hZ1
  have HBD : Hid (caD gr sCast key cred vote cs = ⟨C, D, ⟨[X0, X1], [E], [Z0, Z1]⟩⟩) := by
    unfold Hid caD caX caC caV
    rw [hGV, hC, hD, hX0, hX1, hE, HZ0.out, HZ1.out]
  clear hGV hC hD hX0 hX1 hE he hgg
  clear hkey hcred hvote hca hcl
  obtain ⟨cvb, cvo, rfl, hx⟩ := Hcv.out.at_ (by omega)
  have Kcv0 : Hid (w.cell? ⟨cvb, cvo, none⟩ = some (.int .i64 (nth cs 0))) := by unfold Hid; have h := hx 0 (by omega); simpa using h
  have Kcv1 : Hid (w.cell? ⟨cvb, cvo + 1, none⟩ = some (.int .i64 (nth cs 1))) := by unfold Hid; have h := hx 1 (by omega); simpa using h
  have Kcv2 : Hid (w.cell? ⟨cvb, cvo + 2, none⟩ = some (.int .i64 (nth cs 2))) := by unfold Hid; have h := hx 2 (by omega); simpa using h
  have Kcv3 : Hid (w.cell? ⟨cvb, cvo + 3, none⟩ = some (.int .i64 (nth cs 3))) := by unfold Hid; have h := hx 3 (by omega); simpa using h
  clear hx
  obtain ⟨W, hW⟩ : ∃ W, W = (w.alloc (.cells #[.int .i64 gr.p, .int .i64 gr.q, .int .i64 gr.g] 39)).alloc (.cells #[.int .i64 0, .int .i64 0, .int .i64 0, .int .i64 0, (.slice none 0 0), (.slice none 0 0), (.slice none 0 0)] 104) := ⟨_, rfl⟩
  have HB : Hid (Below w.heap.size w W) := by unfold Hid; rw [hW]; (repeat (first | exact Below.refl _ _ | assumption | refine Below.drew ?_ | refine Below.alloc ?_ (by first | (simp; done) | (simp; omega)) _ | refine Below.setCell ?_ (by first | (simp; done) | (simp; omega)) _))
  have c0_0 : W.cell? ⟨w.heap.size, 0, none⟩ = some (.int .i64 gr.p) := by rw [hW]; simp [go_sem]
  have c0_1 : W.cell? ⟨w.heap.size, 1, none⟩ = some (.int .i64 gr.q) := by rw [hW]; simp [go_sem]
  have c0_2 : W.cell? ⟨w.heap.size, 2, none⟩ = some (.int .i64 gr.g) := by rw [hW]; simp [go_sem]
  have HR1 : Hid (BoxN W (w.heap.size + 1) 104 [.int .i64 0, .int .i64 0, .int .i64 0, .int .i64 0, (.slice none 0 0), (.slice none 0 0), (.slice none 0 0)]) := by unfold Hid; rw [hW]; have h := (BoxN.new (w.alloc (.cells #[.int .i64 gr.p, .int .i64 gr.q, .int .i64 gr.g] 39)) [.int .i64 0, .int .i64 0, .int .i64 0, .int .i64 0, (.slice none 0 0), (.slice none 0 0), (.slice none 0 0)] 104); simpa using h
  have HSW : Hid (W.heap.size = w.heap.size + 2) := by unfold Hid; rw [hW]; simp
  have lr1 : w.heap.size + 1 < W.heap.size := by have := HSW.out; omega
  go_enter Try.func192, Try.ntmps192
  go_wp2_with fail
  rw [← hW]
  have hse : w.heap.size + 1 + 1 = W.heap.size := by have := HSW.out; omega
  (try rw [hse])
  clear hse
  clear hW
  have hc : Below W.heap.size W W := Below.refl _ _
  have ycv0 := box_at Kcv0.out HB.out
  have ycv1 := box_at Kcv1.out HB.out
  have ycv2 := box_at Kcv2.out HB.out
  have ycv3 := box_at Kcv3.out HB.out
  have HCC : Hid (∀ u, Below W.heap.size W u → u.cell? ⟨w.heap.size, 0, none⟩ = some (.int .i64 gr.p) ∧ u.cell? ⟨w.heap.size, 1, none⟩ = some (.int .i64 gr.q) ∧ u.cell? ⟨w.heap.size, 2, none⟩ = some (.int .i64 gr.g) ∧ u.cell? ⟨cvb, cvo, none⟩ = some (.int .i64 (nth cs 0)) ∧ u.cell? ⟨cvb, cvo + 1, none⟩ = some (.int .i64 (nth cs 1)) ∧ u.cell? ⟨cvb, cvo + 2, none⟩ = some (.int .i64 (nth cs 2)) ∧ u.cell? ⟨cvb, cvo + 3, none⟩ = some (.int .i64 (nth cs 3))) := fun u h => ⟨box_at c0_0 h, box_at c0_1 h, box_at c0_2 h, box_at ycv0 h, box_at ycv1 h, box_at ycv2 h, box_at ycv3 h⟩
  have hszr := hc.size
  try (go_wp2_with fail)
  refine wp_region_noPanic ?_
  refine wp_region_P (fun w' => w'.cell? ⟨w.heap.size, 0, none⟩ = some (.int .i64 gr.p) ∧ w'.cell? ⟨w.heap.size, 1, none⟩ = some (.int .i64 gr.q) ∧ w'.cell? ⟨w.heap.size, 2, none⟩ = some (.int .i64 gr.g) ∧ w'.cell? ⟨cvb, cvo, none⟩ = some (.int .i64 (nth cs 0)) ∧ w'.cell? ⟨cvb, cvo + 1, none⟩ = some (.int .i64 (nth cs 1)) ∧ w'.cell? ⟨cvb, cvo + 2, none⟩ = some (.int .i64 (nth cs 2)) ∧ w'.cell? ⟨cvb, cvo + 3, none⟩ = some (.int .i64 (nth cs 3))) 18 [(0, []), (1, [0]), (2, [0]), (3, []), (4, [0]), (5, [0]), (6, []), (7, [0]), (8, [0]), (9, []), (10, [0]), (11, [0]), (12, [9]), (13, [7]), (14, [5]), (15, [3])] [] (by kernel_rfl) (by kernel_rfl) (by kernel_rfl) rfl (fun _ _ _ _ h => h) (fun w' h => ⟨box_at c0_0 h, box_at c0_1 h, box_at c0_2 h, box_at ycv0 h, box_at ycv1 h, box_at ycv2 h, box_at ycv3 h⟩) ?_
  simp only [pickP, pickN, List.getElem?_cons_zero, List.getElem?_cons_succ]
  iterate 16 (refine' chainP_read _ rfl rfl (fun w' hS' => ?_) ?_; rotate_left; · (simp only [lookP, allP, Act.put, List.getElem?_cons_zero, List.getElem?_cons_succ, List.setIfInBounds_toArray, List.set_cons_zero, List.set_cons_succ]; (try dsimp only at hS'); go_simp; (try with_reducible rfl)))
  refine chainP_nil (fun u1 hS' => ?_)
  simp only [allP, Act.put, List.setIfInBounds_toArray, List.set_cons_zero, List.set_cons_succ]
  have hq1 := hS'.1
  clear hS'
  replace hc := Below.next hc hq1
  clear hq1 c0_0 c0_1 c0_2 ycv0 ycv1 ycv2 ycv3
  obtain ⟨c0_0, c0_1, c0_2, ycv0, ycv1, ycv2, ycv3⟩ := HCC.out _ hc
  go_wp2_with fail
  refine NoPanic.normal ?_
  have hszr0 := hc.size
  have hszr := hc.size
  try (go_wp2_with fail)
  refine wp_region_noPanic ?_
  refine wp_region_P (fun w' => w'.cell? ⟨w.heap.size, 0, none⟩ = some (.int .i64 gr.p) ∧ w'.cell? ⟨w.heap.size, 1, none⟩ = some (.int .i64 gr.q) ∧ w'.cell? ⟨w.heap.size, 2, none⟩ = some (.int .i64 gr.g) ∧ w'.cell? ⟨cvb, cvo, none⟩ = some (.int .i64 (nth cs 0)) ∧ w'.cell? ⟨cvb, cvo + 1, none⟩ = some (.int .i64 (nth cs 1)) ∧ w'.cell? ⟨cvb, cvo + 2, none⟩ = some (.int .i64 (nth cs 2)) ∧ w'.cell? ⟨cvb, cvo + 3, none⟩ = some (.int .i64 (nth cs 3))) 19 [(0, []), (1, []), (2, []), (3, []), (4, [3, 2, 1, 0]), (5, []), (6, []), (7, []), (8, []), (9, [0]), (10, []), (11, [3, 1, 0]), (12, []), (13, [7, 6, 1, 0]), (14, [9, 0]), (15, [])] [16] (by kernel_rfl) (by kernel_rfl) (by kernel_rfl) rfl (fun _ _ _ _ h => h) (fun w' h => ⟨box_at c0_0 h, box_at c0_1 h, box_at c0_2 h, box_at ycv0 h, box_at ycv1 h, box_at ycv2 h, box_at ycv3 h⟩) ?_
  simp only [pickP, pickN, List.getElem?_cons_zero, List.getElem?_cons_succ]
  iterate 4 (refine' chainP_read _ rfl rfl (fun w' hS' => ?_) ?_; rotate_left; · (simp only [lookP, allP, Act.put, List.getElem?_cons_zero, List.getElem?_cons_succ, List.setIfInBounds_toArray, List.set_cons_zero, List.set_cons_succ]; (try dsimp only at hS'); go_simp; (try with_reducible rfl)))
  -- 4: call { callee := value (func 157), args := #[t29, t30, t31, t32], argTypes := #[39, 3, 3, 3] }
  refine chainP_call (d := (some 33)) (.agg #[.int .i64 C.a, .int .i64 C.b]) rfl rfl (fun w' hS' => ?_) ?_
  · simp only [lookP, allP, Act.put, List.getElem?_cons_zero, List.getElem?_cons_succ, List.setIfInBounds_toArray, List.set_cons_zero, List.set_cons_succ]
    intro K hK
    go_simp
    go_at_call 157
    refine (spec_eEnc gr key cred (nth cs 0) _ HG.out skey scred ⟨by omega, by omega⟩).mono ?_
    rintro e u ⟨rfl, hq⟩
    rw [HC.out]
    exact hK.out _ hq
  iterate 6 (refine' chainP_read _ rfl rfl (fun w' hS' => ?_) ?_; rotate_left; · (simp only [lookP, allP, Act.put, List.getElem?_cons_zero, List.getElem?_cons_succ, List.setIfInBounds_toArray, List.set_cons_zero, List.set_cons_succ]; (try dsimp only at hS'); go_simp; (try with_reducible rfl)))
  -- 11: call { callee := value (func 156), args := #[t36, t38, t39], argTypes := #[39, 3, 3] }
  refine chainP_call (d := (some 40)) (.int .i64 GV) rfl rfl (fun w' hS' => ?_) ?_
  · simp only [lookP, allP, Act.put, List.getElem?_cons_zero, List.getElem?_cons_succ, List.setIfInBounds_toArray, List.set_cons_zero, List.set_cons_succ]
    intro K hK
    go_simp
    go_at_call 156
    refine (spec_gExp gr gr.g vote _ HG.out sgg ⟨by omega, by omega⟩).mono ?_
    rintro e u ⟨rfl, hq⟩
    rw [HGV.out]
    exact hK.out _ hq
  -- 12: move t12
  refine' chainP_read (d := (some 41)) _ rfl rfl (fun w' hS' => ?_) ?_; rotate_left
  · simp only [lookP, allP, Act.put, List.getElem?_cons_zero, List.getElem?_cons_succ, List.setIfInBounds_toArray, List.set_cons_zero, List.set_cons_succ]
    (try dsimp only at hS')
    go_simp
    (try with_reducible rfl)
  -- 13: call { callee := value (func 157), args := #[t34, t35, t40, t41], argTypes := #[39, 3, 3, 3] }
  refine chainP_call (d := (some 42)) (.agg #[.int .i64 D.a, .int .i64 D.b]) rfl rfl (fun w' hS' => ?_) ?_
  · simp only [lookP, allP, Act.put, List.getElem?_cons_zero, List.getElem?_cons_succ, List.setIfInBounds_toArray, List.set_cons_zero, List.set_cons_succ]
    intro K hK
    go_simp
    go_at_call 157
    refine (spec_eEnc gr key GV (nth cs 1) _ HG.out skey sGV ⟨by omega, by omega⟩).mono ?_
    rintro e u ⟨rfl, hq⟩
    rw [HD.out]
    exact hK.out _ hq
  -- 14: build 104 #[(0, t33), (1, t42)]
  refine' chainP_read (d := (some 43)) _ rfl rfl (fun w' hS' => ?_) ?_; rotate_left
  · simp only [lookP, allP, Act.put, List.getElem?_cons_zero, List.getElem?_cons_succ, List.setIfInBounds_toArray, List.set_cons_zero, List.set_cons_succ]
    (try dsimp only at hS')
    go_simp
    (try with_reducible rfl)
  -- 15: alloc 104
  refine chainP_do (d := (some 15)) (fun v u => ∃ b, v = .pointer (some ⟨b, 0, none⟩) ∧ u1.heap.size ≤ b ∧ BoxN u b 104 [.int .i64 0, .int .i64 0, .int .i64 0, .int .i64 0, (.slice none 0 0), (.slice none 0 0), (.slice none 0 0)]) (fun v w1 w2 hw h => by obtain ⟨b, h1, h2, h3⟩ := h; exact ⟨b, h1, h2, h3.below hw⟩) rfl rfl (fun w' hS' => ?_) ?_
  · simp only [lookP, allP, Act.put, List.getElem?_cons_zero, List.getElem?_cons_succ, List.setIfInBounds_toArray, List.set_cons_zero, List.set_cons_succ]
    intro K hK
    go_simp
    refine hK.out _ _ ((Below.refl _ _).alloc (Nat.le_refl _) _) ⟨_, rfl, hS'.1.size, ?_⟩
    exact BoxN.new w' [.int .i64 0, .int .i64 0, .int .i64 0, .int .i64 0, (.slice none 0 0), (.slice none 0 0), (.slice none 0 0)] _
  refine chainP_nil (fun u2 hS' => ?_)
  simp only [allP, Act.put, List.setIfInBounds_toArray, List.set_cons_zero, List.set_cons_succ]
  intro x15 hx15
  have hq2 := hS'.1
  clear hS'
  replace hc := Below.next hc hq2
  clear hq2 c0_0 c0_1 c0_2 ycv0 ycv1 ycv2 ycv3
  obtain ⟨c0_0, c0_1, c0_2, ycv0, ycv1, ycv2, ycv3⟩ := HCC.out _ hc
  obtain ⟨XB, rfl, hXB, hm0⟩ := hx15
  have HM := Lib.hid hm0
  clear hm0
  have hWX : W.heap.size ≤ XB := Nat.le_trans (by have := hszr0; omega) hXB
  clear hXB
  have m0 := HM.out.cell (i := 0) rfl
  have m1 := HM.out.cell (i := 1) rfl
  have m2 := HM.out.cell (i := 2) rfl
  have m3 := HM.out.cell (i := 3) rfl
  have m4 := HM.out.cell (i := 4) rfl
  have m5 := HM.out.cell (i := 5) rfl
  have m6 := HM.out.cell (i := 6) rfl
  have fzm := fun i => HM.out.frozen i
  have hsz := hc.size
  go_wp2_with fail
  refine NoPanic.normal ?_
  (try (go_wp2_with fail))
  obtain ⟨Y_3, hY⟩ : ∃ Y, Y = ((((((u2.setCell ⟨XB, 0, none⟩ (.int .i64 C.a)).setCell ⟨XB, 1, none⟩ (.int .i64 C.b)).setCell ⟨XB, 2, none⟩ (.int .i64 D.a)).setCell ⟨XB, 3, none⟩ (.int .i64 D.b)).setCell ⟨XB, 4, none⟩ (.slice none 0 0)).setCell ⟨XB, 5, none⟩ (.slice none 0 0)).setCell ⟨XB, 6, none⟩ (.slice none 0 0) := ⟨_, rfl⟩
  have NHM : Hid (BoxN Y_3 XB 104 [.int .i64 C.a, .int .i64 C.b, .int .i64 D.a, .int .i64 D.b, .slice none 0 0, .slice none 0 0, .slice none 0 0]) := by unfold Hid; rw [hY]; exact (((((((HM.out.set 0 (.int .i64 C.a)).set 1 (.int .i64 C.b)).set 2 (.int .i64 D.a)).set 3 (.int .i64 D.b)).set 4 (.slice none 0 0)).set 5 (.slice none 0 0)).set 6 (.slice none 0 0))
  have hcY : Below W.heap.size W Y_3 := by rw [hY]; exact (((((((hc.setCell (p := ⟨XB, 0, none⟩) (by show W.heap.size ≤ XB; omega) (.int .i64 C.a)).setCell (p := ⟨XB, 1, none⟩) (by show W.heap.size ≤ XB; omega) (.int .i64 C.b)).setCell (p := ⟨XB, 2, none⟩) (by show W.heap.size ≤ XB; omega) (.int .i64 D.a)).setCell (p := ⟨XB, 3, none⟩) (by show W.heap.size ≤ XB; omega) (.int .i64 D.b)).setCell (p := ⟨XB, 4, none⟩) (by show W.heap.size ≤ XB; omega) (.slice none 0 0)).setCell (p := ⟨XB, 5, none⟩) (by show W.heap.size ≤ XB; omega) (.slice none 0 0)).setCell (p := ⟨XB, 6, none⟩) (by show W.heap.size ≤ XB; omega) (.slice none 0 0))
  rw [← hY]
  clear hY fzm hsz HM 
  have HM := NHM
  clear NHM
  clear m0 m1 m2 m3 m4 m5 m6
  clear hc c0_0 c0_1 c0_2 ycv0 ycv1 ycv2 ycv3
  have hc := hcY
  clear hcY
  obtain ⟨c0_0, c0_1, c0_2, ycv0, ycv1, ycv2, ycv3⟩ := HCC.out _ hc
  clear hszr0
  have hszr1 := hc.size
  have hszr := hc.size
  try (go_wp2_with fail)
  refine wp_region_noPanic ?_
  refine wp_region_P (fun w' => w'.cell? ⟨w.heap.size, 0, none⟩ = some (.int .i64 gr.p) ∧ w'.cell? ⟨w.heap.size, 1, none⟩ = some (.int .i64 gr.q) ∧ w'.cell? ⟨w.heap.size, 2, none⟩ = some (.int .i64 gr.g) ∧ w'.cell? ⟨cvb, cvo, none⟩ = some (.int .i64 (nth cs 0)) ∧ w'.cell? ⟨cvb, cvo + 1, none⟩ = some (.int .i64 (nth cs 1)) ∧ w'.cell? ⟨cvb, cvo + 2, none⟩ = some (.int .i64 (nth cs 2)) ∧ w'.cell? ⟨cvb, cvo + 3, none⟩ = some (.int .i64 (nth cs 3))) 16 [(0, []), (1, []), (2, [0]), (3, []), (4, [3, 1, 0]), (5, []), (6, []), (7, [0]), (8, []), (9, [3, 1, 0]), (10, [5, 0]), (11, []), (12, [0])] [13] (by kernel_rfl) (by kernel_rfl) (by kernel_rfl) rfl (fun _ _ _ _ h => h) (fun w' h => ⟨box_at c0_0 h, box_at c0_1 h, box_at c0_2 h, box_at ycv0 h, box_at ycv1 h, box_at ycv2 h, box_at ycv3 h⟩) ?_
  simp only [pickP, pickN, List.getElem?_cons_zero, List.getElem?_cons_succ]
  iterate 4 (refine' chainP_read _ rfl rfl (fun w' hS' => ?_) ?_; rotate_left; · (simp only [lookP, allP, Act.put, List.getElem?_cons_zero, List.getElem?_cons_succ, List.setIfInBounds_toArray, List.set_cons_zero, List.set_cons_succ]; (try dsimp only at hS'); go_simp; (try with_reducible rfl)))
  -- 4: call { callee := value (func 156), args := #[t44, t46, t47], argTypes := #[39, 3, 3] }
  refine chainP_call (d := (some 48)) (.int .i64 X0) rfl rfl (fun w' hS' => ?_) ?_
  · simp only [lookP, allP, Act.put, List.getElem?_cons_zero, List.getElem?_cons_succ, List.setIfInBounds_toArray, List.set_cons_zero, List.set_cons_succ]
    intro K hK
    go_simp
    go_at_call 156
    refine (spec_gExp gr gr.g (nth cs 2) _ HG.out sgg ⟨by omega, by omega⟩).mono ?_
    rintro e u ⟨rfl, hq⟩
    rw [HX0.out]
    exact hK.out _ hq
  iterate 4 (refine' chainP_read _ rfl rfl (fun w' hS' => ?_) ?_; rotate_left; · (simp only [lookP, allP, Act.put, List.getElem?_cons_zero, List.getElem?_cons_succ, List.setIfInBounds_toArray, List.set_cons_zero, List.set_cons_succ]; (try dsimp only at hS'); go_simp; (try with_reducible rfl)))
  -- 9: call { callee := value (func 156), args := #[t49, t51, t52], argTypes := #[39, 3, 3] }
  refine chainP_call (d := (some 53)) (.int .i64 X1) rfl rfl (fun w' hS' => ?_) ?_
  · simp only [lookP, allP, Act.put, List.getElem?_cons_zero, List.getElem?_cons_succ, List.setIfInBounds_toArray, List.set_cons_zero, List.set_cons_succ]
    intro K hK
    go_simp
    go_at_call 156
    refine (spec_gExp gr gr.g (nth cs 3) _ HG.out sgg ⟨by omega, by omega⟩).mono ?_
    rintro e u ⟨rfl, hq⟩
    rw [HX1.out]
    exact hK.out _ hq
  -- 10: buildSlice 24 2 #[(0, t48), (1, t53)]
  refine chainP_do (d := (some 54)) (fun v u => OwnI u Y_3.heap.size v [X0, X1]) (fun v w1 w2 hw h => OwnI.below h hw) rfl rfl (fun w' hS' => ?_) ?_
  · simp only [lookP, allP, Act.put, List.getElem?_cons_zero, List.getElem?_cons_succ, List.setIfInBounds_toArray, List.set_cons_zero, List.set_cons_succ]
    intro K hK
    go_simp
    have hsz0 := hS'.1.size
    refine hK.out _ _ ((Below.refl _ _).alloc (Nat.le_refl _) _) ?_
    exact OwnI.lit w' hsz0 (l := [X0, X1]) (AllI64.cons (small_64 sX0) (AllI64.cons (small_64 sX1) AllI64.nil)) rfl (by simp [maxLen]) 2 rfl
  iterate 2 (refine' chainP_read _ rfl rfl (fun w' hS' => ?_) ?_; rotate_left; · (simp only [lookP, allP, Act.put, List.getElem?_cons_zero, List.getElem?_cons_succ, List.setIfInBounds_toArray, List.set_cons_zero, List.set_cons_succ]; (try dsimp only at hS'); go_simp; (try with_reducible rfl)))
  refine chainP_nil (fun u4 hS' => ?_)
  simp only [allP, Act.put, List.setIfInBounds_toArray, List.set_cons_zero, List.set_cons_succ]
  intro x10 hx10
  have hq4 := hS'.1
  clear hS'
  replace HM := Lib.hid (HM.out.below hq4)
  replace hc := Below.next hc hq4
  clear hq4 c0_0 c0_1 c0_2 ycv0 ycv1 ycv2 ycv3
  obtain ⟨c0_0, c0_1, c0_2, ycv0, ycv1, ycv2, ycv3⟩ := HCC.out _ hc
  have hwrHO0 : W.heap.size ≤ Y_3.heap.size := hszr1
  clear hszr1
  obtain ⟨xaHO0, xcHO0, rfl⟩ := OwnI.shapeN (n := 2) hx10 rfl
  have HO0 := Lib.hid (hx10.mono hwrHO0)
  clear hx10 hwrHO0
  have m0 := HM.out.cell (i := 0) rfl
  have m1 := HM.out.cell (i := 1) rfl
  have m2 := HM.out.cell (i := 2) rfl
  have m3 := HM.out.cell (i := 3) rfl
  have m4 := HM.out.cell (i := 4) rfl
  have m5 := HM.out.cell (i := 5) rfl
  have m6 := HM.out.cell (i := 6) rfl
  have fzm := fun i => HM.out.frozen i
  have hsz := hc.size
  go_wp2_with fail
  refine NoPanic.normal ?_
  obtain ⟨Y_5, hY⟩ : ∃ Y, Y = u4.setCell ⟨XB, 4, none⟩ (.slice xaHO0 2 xcHO0) := ⟨_, rfl⟩
  have NHM : Hid (BoxN Y_5 XB 104 [.int .i64 C.a, .int .i64 C.b, .int .i64 D.a, .int .i64 D.b, .slice xaHO0 2 xcHO0, .slice none 0 0, .slice none 0 0]) := by unfold Hid; rw [hY]; exact (HM.out.set 4 (.slice xaHO0 2 xcHO0))
  have NHO0 : Hid (OwnI Y_5 W.heap.size (.slice xaHO0 2 xcHO0) [X0, X1]) := by unfold Hid; rw [hY]; exact (HO0.out.setC HM.out 4 (.slice xaHO0 2 xcHO0))
  have hcY : Below W.heap.size W Y_5 := by rw [hY]; exact (hc.setCell (p := ⟨XB, 4, none⟩) (by show W.heap.size ≤ XB; omega) (.slice xaHO0 2 xcHO0))
  rw [← hY]
  clear hY fzm hsz HM HO0
  have HM := NHM
  clear NHM
  have HO0 := NHO0
  clear NHO0
  clear m0 m1 m2 m3 m4 m5 m6
  clear hc c0_0 c0_1 c0_2 ycv0 ycv1 ycv2 ycv3
  have hc := hcY
  clear hcY
  obtain ⟨c0_0, c0_1, c0_2, ycv0, ycv1, ycv2, ycv3⟩ := HCC.out _ hc
  have m0 := HM.out.cell (i := 0) rfl
  have m1 := HM.out.cell (i := 1) rfl
  have m2 := HM.out.cell (i := 2) rfl
  have m3 := HM.out.cell (i := 3) rfl
  have m4 := HM.out.cell (i := 4) rfl
  have m5 := HM.out.cell (i := 5) rfl
  have m6 := HM.out.cell (i := 6) rfl
  go_wp2_with fail
  refine (spec_dChallenge gr _ ⟨C, D, ⟨[X0, X1], [], []⟩⟩ _ HG.out (CaR.mk (x := ⟨C, D, ⟨[X0, X1], [], []⟩⟩) HII.out HO0.out.ints (Ints.nil _) (Ints.nil _)) (by simp) HAS.out).mono ?_
  rintro e u_c ⟨he, hqc⟩
  obtain rfl : e = .returned (.int .i64 E) := he.trans (congrArg (fun z => Ending.returned (.int .i64 z)) HE.out)
  clear he
  clear m0 m1 m2 m3 m4 m5 m6
  replace HM := Lib.hid (HM.out.below hqc)
  replace HO0 := Lib.hid (HO0.out.below hqc)
  replace hc := Below.next hc hqc
  clear hqc c0_0 c0_1 c0_2 ycv0 ycv1 ycv2 ycv3
  obtain ⟨c0_0, c0_1, c0_2, ycv0, ycv1, ycv2, ycv3⟩ := HCC.out _ hc
  have HL1 : Hid True := trivial
  obtain ⟨RB, hRB⟩ : ∃ r, r = u_c.heap.size := ⟨_, rfl⟩
  have hRBc : W.heap.size ≤ u_c.heap.size := hc.size
  have m0 := HM.out.cell (i := 0) rfl
  have m1 := HM.out.cell (i := 1) rfl
  have m2 := HM.out.cell (i := 2) rfl
  have m3 := HM.out.cell (i := 3) rfl
  have m4 := HM.out.cell (i := 4) rfl
  have m5 := HM.out.cell (i := 5) rfl
  have m6 := HM.out.cell (i := 6) rfl
  have fzm := fun i => HM.out.frozen i
  have hsz := hc.size
  have hltm := HM.out.lt
  go_upto_region 6 with fail
  obtain ⟨Y_6, hY⟩ : ∃ Y, Y = (u_c.setCell ⟨XB, 5, none⟩ (.slice (some ⟨u_c.heap.size, 0, none⟩) 1 1)).alloc (.cells #[.int .i64 E] 3) := ⟨_, rfl⟩
  have NHM : Hid (BoxN Y_6 XB 104 [.int .i64 C.a, .int .i64 C.b, .int .i64 D.a, .int .i64 D.b, .slice xaHO0 2 xcHO0, .slice (some ⟨u_c.heap.size, 0, none⟩) 1 1, .slice none 0 0]) := by unfold Hid; rw [hY]; exact (HM.out.set 5 (.slice (some ⟨u_c.heap.size, 0, none⟩) 1 1)).alloc (.cells #[.int .i64 E] 3)
  have NHO0 : Hid (OwnI Y_6 W.heap.size (.slice xaHO0 2 xcHO0) [X0, X1]) := by unfold Hid; rw [hY]; exact (HO0.out.setC HM.out 5 (.slice (some ⟨u_c.heap.size, 0, none⟩) 1 1)).alloc (.cells #[.int .i64 E] 3)
  have NHO1 : Hid (OwnI Y_6 W.heap.size (.slice (some ⟨u_c.heap.size, 0, none⟩) 1 1) [E]) := by unfold Hid; rw [hY]; have h := OwnI.lit (u_c.setCell ⟨XB, 5, none⟩ (.slice (some ⟨u_c.heap.size, 0, none⟩) 1 1)) (B := W.heap.size) (by simpa using hc.size) (cs := #[.int .i64 E]) (l := [E]) (AllI64.cons iE AllI64.nil) rfl (by simp [maxLen]) 1 rfl; simpa using h
  have hcY : Below W.heap.size W Y_6 := by rw [hY]; exact (hc.setCell (p := ⟨XB, 5, none⟩) (by show W.heap.size ≤ XB; omega) (.slice (some ⟨u_c.heap.size, 0, none⟩) 1 1)).alloc (by simpa using hc.size) (.cells #[.int .i64 E] 3)
  rw [← hY]
  clear hY fzm hsz hltm HM HL1 HO0
  have HM := NHM
  clear NHM
  have HO0 := NHO0
  clear NHO0
  have HO1 := NHO1
  clear NHO1
  clear m0 m1 m2 m3 m4 m5 m6
  rw [← hRB] at HM HO1
  try rw [← hRB]
  rw [← hRB] at hRBc
  clear hRB
  clear hc c0_0 c0_1 c0_2 ycv0 ycv1 ycv2 ycv3
  have hc := hcY
  clear hcY
  obtain ⟨c0_0, c0_1, c0_2, ycv0, ycv1, ycv2, ycv3⟩ := HCC.out _ hc
  have hszr1 := hc.size
  have hszr := hc.size
  try (go_wp2_with fail)
  refine wp_region_noPanic ?_
  refine wp_region_P (fun w' => w'.cell? ⟨w.heap.size, 0, none⟩ = some (.int .i64 gr.p) ∧ w'.cell? ⟨w.heap.size, 1, none⟩ = some (.int .i64 gr.q) ∧ w'.cell? ⟨w.heap.size, 2, none⟩ = some (.int .i64 gr.g) ∧ w'.cell? ⟨cvb, cvo, none⟩ = some (.int .i64 (nth cs 0)) ∧ w'.cell? ⟨cvb, cvo + 1, none⟩ = some (.int .i64 (nth cs 1)) ∧ w'.cell? ⟨cvb, cvo + 2, none⟩ = some (.int .i64 (nth cs 2)) ∧ w'.cell? ⟨cvb, cvo + 3, none⟩ = some (.int .i64 (nth cs 3))) 22 [(0, []), (1, []), (2, []), (3, [1, 0]), (4, [3, 0]), (5, []), (6, [0]), (7, [2, 0]), (8, []), (9, []), (10, []), (11, [1, 0]), (12, [3, 0]), (13, []), (14, [0]), (15, [2, 0]), (16, [8, 0]), (17, []), (18, [0])] [19] (by kernel_rfl) (by kernel_rfl) (by kernel_rfl) rfl (fun _ _ _ _ h => h) (fun w' h => ⟨box_at c0_0 h, box_at c0_1 h, box_at c0_2 h, box_at ycv0 h, box_at ycv1 h, box_at ycv2 h, box_at ycv3 h⟩) ?_
  simp only [pickP, pickN, List.getElem?_cons_zero, List.getElem?_cons_succ]
  iterate 16 (refine' chainP_read _ rfl rfl (fun w' hS' => ?_) ?_; rotate_left; · (simp only [lookP, allP, Act.put, List.getElem?_cons_zero, List.getElem?_cons_succ, List.setIfInBounds_toArray, List.set_cons_zero, List.set_cons_succ]; (try dsimp only at hS'); go_simp; (try with_reducible rfl)))
  -- 16: buildSlice 24 2 #[(0, t71), (1, t79)]
  refine chainP_do (d := (some 80)) (fun v u => OwnI u Y_6.heap.size v [Z0, Z1]) (fun v w1 w2 hw h => OwnI.below h hw) rfl rfl (fun w' hS' => ?_) ?_
  · simp only [lookP, allP, Act.put, List.getElem?_cons_zero, List.getElem?_cons_succ, List.setIfInBounds_toArray, List.set_cons_zero, List.set_cons_succ]
    intro K hK
    go_simp
    have hsz0 := hS'.1.size
    refine hK.out _ _ ((Below.refl _ _).alloc (Nat.le_refl _) _) ?_
    exact OwnI.lit w' hsz0 (l := [Z0, Z1]) (AllI64.cons iZ0 (AllI64.cons iZ1 AllI64.nil)) rfl (by simp [maxLen]) 2 rfl
  iterate 2 (refine' chainP_read _ rfl rfl (fun w' hS' => ?_) ?_; rotate_left; · (simp only [lookP, allP, Act.put, List.getElem?_cons_zero, List.getElem?_cons_succ, List.setIfInBounds_toArray, List.set_cons_zero, List.set_cons_succ]; (try dsimp only at hS'); go_simp; (try with_reducible rfl)))
  refine chainP_nil (fun u7 hS' => ?_)
  simp only [allP, Act.put, List.setIfInBounds_toArray, List.set_cons_zero, List.set_cons_succ]
  intro x16 hx16
  have hq7 := hS'.1
  clear hS'
  replace HM := Lib.hid (HM.out.below hq7)
  replace HO0 := Lib.hid (HO0.out.below hq7)
  replace HO1 := Lib.hid (HO1.out.below hq7)
  replace hc := Below.next hc hq7
  clear hq7 c0_0 c0_1 c0_2 ycv0 ycv1 ycv2 ycv3
  obtain ⟨c0_0, c0_1, c0_2, ycv0, ycv1, ycv2, ycv3⟩ := HCC.out _ hc
  have hwrHO2 : W.heap.size ≤ Y_6.heap.size := hszr1
  clear hszr1
  obtain ⟨xaHO2, xcHO2, rfl⟩ := OwnI.shapeN (n := 2) hx16 rfl
  have HO2 := Lib.hid (hx16.mono hwrHO2)
  clear hx16 hwrHO2
  have m0 := HM.out.cell (i := 0) rfl
  have m1 := HM.out.cell (i := 1) rfl
  have m2 := HM.out.cell (i := 2) rfl
  have m3 := HM.out.cell (i := 3) rfl
  have m4 := HM.out.cell (i := 4) rfl
  have m5 := HM.out.cell (i := 5) rfl
  have m6 := HM.out.cell (i := 6) rfl
  have fzm := fun i => HM.out.frozen i
  have hsz := hc.size
  go_wp2_with fail
  refine NoPanic.normal ?_
  obtain ⟨Y_8, hY⟩ : ∃ Y, Y = u7.setCell ⟨XB, 6, none⟩ (.slice xaHO2 2 xcHO2) := ⟨_, rfl⟩
  have NHM : Hid (BoxN Y_8 XB 104 [.int .i64 C.a, .int .i64 C.b, .int .i64 D.a, .int .i64 D.b, .slice xaHO0 2 xcHO0, .slice (some ⟨RB, 0, none⟩) 1 1, .slice xaHO2 2 xcHO2]) := by unfold Hid; rw [hY]; exact (HM.out.set 6 (.slice xaHO2 2 xcHO2))
  have NHO0 : Hid (OwnI Y_8 W.heap.size (.slice xaHO0 2 xcHO0) [X0, X1]) := by unfold Hid; rw [hY]; exact (HO0.out.setC HM.out 6 (.slice xaHO2 2 xcHO2))
  have NHO1 : Hid (OwnI Y_8 W.heap.size (.slice (some ⟨RB, 0, none⟩) 1 1) [E]) := by unfold Hid; rw [hY]; exact (HO1.out.setC HM.out 6 (.slice xaHO2 2 xcHO2))
  have NHO2 : Hid (OwnI Y_8 W.heap.size (.slice xaHO2 2 xcHO2) [Z0, Z1]) := by unfold Hid; rw [hY]; exact (HO2.out.setC HM.out 6 (.slice xaHO2 2 xcHO2))
  have hcY : Below W.heap.size W Y_8 := by rw [hY]; exact (hc.setCell (p := ⟨XB, 6, none⟩) (by show W.heap.size ≤ XB; omega) (.slice xaHO2 2 xcHO2))
  rw [← hY]
  clear hY fzm hsz HM HO0 HO1 HO2
  have HM := NHM
  clear NHM
  have HO0 := NHO0
  clear NHO0
  have HO1 := NHO1
  clear NHO1
  have HO2 := NHO2
  clear NHO2
  clear m0 m1 m2 m3 m4 m5 m6
  clear hc c0_0 c0_1 c0_2 ycv0 ycv1 ycv2 ycv3
  have hc := hcY
  clear hcY
  obtain ⟨c0_0, c0_1, c0_2, ycv0, ycv1, ycv2, ycv3⟩ := HCC.out _ hc
  have m0 := HM.out.cell (i := 0) rfl
  have m1 := HM.out.cell (i := 1) rfl
  have m2 := HM.out.cell (i := 2) rfl
  have m3 := HM.out.cell (i := 3) rfl
  have m4 := HM.out.cell (i := 4) rfl
  have m5 := HM.out.cell (i := 5) rfl
  have m6 := HM.out.cell (i := 6) rfl
  have HRE1 := Lib.hid (HR1.out.below hc)
  clear HR1
  have HBE := Lib.hid (HB.out.trans (hc.mono HB.out.size))
  have r1_0 := HRE1.out.cell (i := 0) rfl
  have r1_1 := HRE1.out.cell (i := 1) rfl
  have r1_2 := HRE1.out.cell (i := 2) rfl
  have r1_3 := HRE1.out.cell (i := 3) rfl
  have r1_4 := HRE1.out.cell (i := 4) rfl
  have r1_5 := HRE1.out.cell (i := 5) rfl
  have r1_6 := HRE1.out.cell (i := 6) rfl
  have fr1 := fun j => HRE1.out.frozen j
  go_wp2_with fail
  have HRF := Lib.hid (((((((HRE1.out.set 0 (.int .i64 C.a)).set 1 (.int .i64 C.b)).set 2 (.int .i64 D.a)).set 3 (.int .i64 D.b)).set 4 (.slice xaHO0 2 xcHO0)).set 5 (.slice (some ⟨RB, 0, none⟩) 1 1)).set 6 (.slice xaHO2 2 xcHO2))
  have HBF := Lib.hid (((((((HBE.out.setCell (p := ⟨w.heap.size + 1, 0, none⟩) (by show w.heap.size ≤ w.heap.size + 1; omega) (.int .i64 C.a)).setCell (p := ⟨w.heap.size + 1, 1, none⟩) (by show w.heap.size ≤ w.heap.size + 1; omega) (.int .i64 C.b)).setCell (p := ⟨w.heap.size + 1, 2, none⟩) (by show w.heap.size ≤ w.heap.size + 1; omega) (.int .i64 D.a)).setCell (p := ⟨w.heap.size + 1, 3, none⟩) (by show w.heap.size ≤ w.heap.size + 1; omega) (.int .i64 D.b)).setCell (p := ⟨w.heap.size + 1, 4, none⟩) (by show w.heap.size ≤ w.heap.size + 1; omega) (.slice xaHO0 2 xcHO0)).setCell (p := ⟨w.heap.size + 1, 5, none⟩) (by show w.heap.size ≤ w.heap.size + 1; omega) (.slice (some ⟨RB, 0, none⟩) 1 1)).setCell (p := ⟨w.heap.size + 1, 6, none⟩) (by show w.heap.size ≤ w.heap.size + 1; omega) (.slice xaHO2 2 xcHO2))
  clear r1_0 r1_1 r1_2 r1_3 r1_4 r1_5 r1_6 fr1
  have r1_0 := HRF.out.cell (i := 0) rfl
  have r1_1 := HRF.out.cell (i := 1) rfl
  have r1_2 := HRF.out.cell (i := 2) rfl
  have r1_3 := HRF.out.cell (i := 3) rfl
  have r1_4 := HRF.out.cell (i := 4) rfl
  have r1_5 := HRF.out.cell (i := 5) rfl
  have r1_6 := HRF.out.cell (i := 6) rfl
  try (go_wp2_with fail)
  refine bodyPost_ret (v := .agg #[.int .i64 C.a, .int .i64 C.b, .int .i64 D.a, .int .i64 D.b, .slice xaHO0 2 xcHO0, .slice (some ⟨RB, 0, none⟩) 1 1, .slice xaHO2 2 xcHO2]) (by simp [results, Try.results192, go_sem, r1_0, r1_1, r1_2, r1_3, r1_4, r1_5, r1_6]) rfl ⟨(by rw [HBD.out]; exact RetCD.mk (x := ⟨C, D, ⟨[X0, X1], [E], [Z0, Z1]⟩⟩) HII.out ((((((((HO0.out.oth (b := w.heap.size + 1) (by omega) 0 (.int .i64 C.a)).oth (b := w.heap.size + 1) (by omega) 1 (.int .i64 C.b)).oth (b := w.heap.size + 1) (by omega) 2 (.int .i64 D.a)).oth (b := w.heap.size + 1) (by omega) 3 (.int .i64 D.b)).oth (b := w.heap.size + 1) (by omega) 4 (.slice xaHO0 2 xcHO0)).oth (b := w.heap.size + 1) (by omega) 5 (.slice (some ⟨RB, 0, none⟩) 1 1)).oth (b := w.heap.size + 1) (by omega) 6 (.slice xaHO2 2 xcHO2)).mono (by omega)) ((((((((HO1.out.oth (b := w.heap.size + 1) (by omega) 0 (.int .i64 C.a)).oth (b := w.heap.size + 1) (by omega) 1 (.int .i64 C.b)).oth (b := w.heap.size + 1) (by omega) 2 (.int .i64 D.a)).oth (b := w.heap.size + 1) (by omega) 3 (.int .i64 D.b)).oth (b := w.heap.size + 1) (by omega) 4 (.slice xaHO0 2 xcHO0)).oth (b := w.heap.size + 1) (by omega) 5 (.slice (some ⟨RB, 0, none⟩) 1 1)).oth (b := w.heap.size + 1) (by omega) 6 (.slice xaHO2 2 xcHO2)).mono (by omega)) ((((((((HO2.out.oth (b := w.heap.size + 1) (by omega) 0 (.int .i64 C.a)).oth (b := w.heap.size + 1) (by omega) 1 (.int .i64 C.b)).oth (b := w.heap.size + 1) (by omega) 2 (.int .i64 D.a)).oth (b := w.heap.size + 1) (by omega) 3 (.int .i64 D.b)).oth (b := w.heap.size + 1) (by omega) 4 (.slice xaHO0 2 xcHO0)).oth (b := w.heap.size + 1) (by omega) 5 (.slice (some ⟨RB, 0, none⟩) 1 1)).oth (b := w.heap.size + 1) (by omega) 6 (.slice xaHO2 2 xcHO2)).mono (by omega))), HBF.out⟩
set_option maxRecDepth 100000 in
set_option maxHeartbeats 4000000 in
theorem impl_CastVote (gr : GroupD) (key cred vote : Int) (cv : Value) (cs : List Int) (w : World) (hkey : I64 key) (hcred : I64 cred) (hvote : I64 vote) (hcs : Ints w cv cs) :
    Calls Try.prog 70 #[.agg #[.int .i64 gr.p, .int .i64 gr.q, .int .i64 gr.g], .int .i64 key, .int .i64 cred, .int .i64 vote, cv] w fun e w' => RetC e w' w.heap.size (caB gr key cred vote cs) (caR gr sCast key cred vote cs) ∧ Below w.heap.size w w' := by
  obtain ⟨cva, cvn, cvc, rfl⟩ := hcs.shape
  have Ecv := Lib.hid hcs.len
  have Kcv := Lib.hid hcs.capMax
  have Hcv := Lib.hid hcs
  clear hcs
  obtain ⟨W, hW⟩ : ∃ W, W = (w.alloc (.cells #[.int .i64 gr.p, .int .i64 gr.q, .int .i64 gr.g] 39)).alloc (.cells #[.int .i64 0, .int .i64 0, .int .i64 0, .int .i64 0, (.slice none 0 0), (.slice none 0 0), (.slice none 0 0)] 104) := ⟨_, rfl⟩
  have HB : Hid (Below w.heap.size w W) := by unfold Hid; rw [hW]; (repeat (first | exact Below.refl _ _ | assumption | refine Below.drew ?_ | refine Below.alloc ?_ (by first | (simp; done) | (simp; omega)) _ | refine Below.setCell ?_ (by first | (simp; done) | (simp; omega)) _))
  have c0_0 : W.cell? ⟨w.heap.size, 0, none⟩ = some (.int .i64 gr.p) := by rw [hW]; simp [go_sem]
  have c0_1 : W.cell? ⟨w.heap.size, 1, none⟩ = some (.int .i64 gr.q) := by rw [hW]; simp [go_sem]
  have c0_2 : W.cell? ⟨w.heap.size, 2, none⟩ = some (.int .i64 gr.g) := by rw [hW]; simp [go_sem]
  have HR1 : Hid (BoxN W (w.heap.size + 1) 104 [.int .i64 0, .int .i64 0, .int .i64 0, .int .i64 0, (.slice none 0 0), (.slice none 0 0), (.slice none 0 0)]) := by unfold Hid; rw [hW]; have h := (BoxN.new (w.alloc (.cells #[.int .i64 gr.p, .int .i64 gr.q, .int .i64 gr.g] 39)) [.int .i64 0, .int .i64 0, .int .i64 0, .int .i64 0, (.slice none 0 0), (.slice none 0 0), (.slice none 0 0)] 104); simpa using h
  have HSW : Hid (W.heap.size = w.heap.size + 2) := by unfold Hid; rw [hW]; simp
  have lr1 : w.heap.size + 1 < W.heap.size := by have := HSW.out; omega
  go_enter Try.func70, Try.ntmps70
  go_wp2_with fail
  rw [← hW]
  have hse : w.heap.size + 1 + 1 = W.heap.size := by have := HSW.out; omega
  (try rw [hse])
  clear hse
  clear hW
  have hc : Below W.heap.size W W := Below.refl _ _
  have HCC : Hid (∀ u, Below W.heap.size W u → u.cell? ⟨w.heap.size, 0, none⟩ = some (.int .i64 gr.p) ∧ u.cell? ⟨w.heap.size, 1, none⟩ = some (.int .i64 gr.q) ∧ u.cell? ⟨w.heap.size, 2, none⟩ = some (.int .i64 gr.g)) := fun u h => ⟨box_at c0_0 h, box_at c0_1 h, box_at c0_2 h⟩
  go_wp2_with fail
  refine (impl_IsValidGroup gr _).mono ?_
  rintro e u1 ⟨rfl, hq1⟩
  replace hc := Below.next hc hq1
  clear hq1 c0_0 c0_1 c0_2
  obtain ⟨c0_0, c0_1, c0_2⟩ := HCC.out _ hc
  cases hc1 : goodG gr with
  | false =>
    have Hhc1 := Lib.hid hc1
    clear hc1
    have HRE1 := Lib.hid (HR1.out.below hc)
    clear HR1
    have HBE := Lib.hid (HB.out.trans (hc.mono HB.out.size))
    have r1_0 := HRE1.out.cell (i := 0) rfl
    have r1_1 := HRE1.out.cell (i := 1) rfl
    have r1_2 := HRE1.out.cell (i := 2) rfl
    have r1_3 := HRE1.out.cell (i := 3) rfl
    have r1_4 := HRE1.out.cell (i := 4) rfl
    have r1_5 := HRE1.out.cell (i := 5) rfl
    have r1_6 := HRE1.out.cell (i := 6) rfl
    have fr1 := fun j => HRE1.out.frozen j
    go_wp2_with fail
    have HRF := Lib.hid (((((((HRE1.out.set 0 (.int .i64 0)).set 1 (.int .i64 0)).set 2 (.int .i64 0)).set 3 (.int .i64 0)).set 4 ((.slice none 0 0))).set 5 ((.slice none 0 0))).set 6 ((.slice none 0 0)))
    have HBF := Lib.hid (((((((HBE.out.setCell (p := ⟨w.heap.size + 1, 0, none⟩) (by show w.heap.size ≤ w.heap.size + 1; omega) (.int .i64 0)).setCell (p := ⟨w.heap.size + 1, 1, none⟩) (by show w.heap.size ≤ w.heap.size + 1; omega) (.int .i64 0)).setCell (p := ⟨w.heap.size + 1, 2, none⟩) (by show w.heap.size ≤ w.heap.size + 1; omega) (.int .i64 0)).setCell (p := ⟨w.heap.size + 1, 3, none⟩) (by show w.heap.size ≤ w.heap.size + 1; omega) (.int .i64 0)).setCell (p := ⟨w.heap.size + 1, 4, none⟩) (by show w.heap.size ≤ w.heap.size + 1; omega) ((.slice none 0 0))).setCell (p := ⟨w.heap.size + 1, 5, none⟩) (by show w.heap.size ≤ w.heap.size + 1; omega) ((.slice none 0 0))).setCell (p := ⟨w.heap.size + 1, 6, none⟩) (by show w.heap.size ≤ w.heap.size + 1; omega) ((.slice none 0 0)))
    clear r1_0 r1_1 r1_2 r1_3 r1_4 r1_5 r1_6 fr1
    have r1_0 := HRF.out.cell (i := 0) rfl
    have r1_1 := HRF.out.cell (i := 1) rfl
    have r1_2 := HRF.out.cell (i := 2) rfl
    have r1_3 := HRF.out.cell (i := 3) rfl
    have r1_4 := HRF.out.cell (i := 4) rfl
    have r1_5 := HRF.out.cell (i := 5) rfl
    have r1_6 := HRF.out.cell (i := 6) rfl
    try (go_wp2_with fail)
    have HVB : Hid (caB gr key cred vote cs = false) := by unfold Hid; simp [caB, Hhc1.out]
    have HPR : Hid (caR gr sCast key cred vote cs = ⟨⟨0, 0⟩, ⟨0, 0⟩, ⟨[], [], []⟩⟩) := by unfold Hid caR; rw [if_neg (by rw [HVB.out]; simp)]
    refine bodyPost_ret (v := .tuple #[.agg #[.int .i64 0, .int .i64 0, .int .i64 0, .int .i64 0, (.slice none 0 0), (.slice none 0 0), (.slice none 0 0)], .bool false]) (by simp [results, Try.results70, go_sem, r1_0, r1_1, r1_2, r1_3, r1_4, r1_5, r1_6]) rfl ⟨(by rw [HVB.out, HPR.out]; exact RetC.mk (x := ⟨⟨0, 0⟩, ⟨0, 0⟩, ⟨[], [], []⟩⟩) ⟨⟨⟨by decide, by decide⟩, ⟨by decide, by decide⟩⟩, ⟨⟨by decide, by decide⟩, ⟨by decide, by decide⟩⟩⟩ (OwnI.nil _ _) (OwnI.nil _ _) (OwnI.nil _ _)), HBF.out⟩
  | true =>
    have HGD := Lib.hid hc1
    have HG := Lib.hid (goodG_ok hc1)
    have Hhc1 := Lib.hid hc1
    clear hc1
    go_wp2_with fail
    refine (impl_has gr key _ HG.out).mono ?_
    rintro e u2 ⟨rfl, hq2⟩
    replace hc := Below.next hc hq2
    clear hq2 c0_0 c0_1 c0_2
    obtain ⟨c0_0, c0_1, c0_2⟩ := HCC.out _ hc
    cases hc2 : elB gr key with
    | false =>
      have Hhc2 := Lib.hid hc2
      clear hc2
      have HRE1 := Lib.hid (HR1.out.below hc)
      clear HR1
      have HBE := Lib.hid (HB.out.trans (hc.mono HB.out.size))
      have r1_0 := HRE1.out.cell (i := 0) rfl
      have r1_1 := HRE1.out.cell (i := 1) rfl
      have r1_2 := HRE1.out.cell (i := 2) rfl
      have r1_3 := HRE1.out.cell (i := 3) rfl
      have r1_4 := HRE1.out.cell (i := 4) rfl
      have r1_5 := HRE1.out.cell (i := 5) rfl
      have r1_6 := HRE1.out.cell (i := 6) rfl
      have fr1 := fun j => HRE1.out.frozen j
      go_wp2_with fail
      have HRF := Lib.hid (((((((HRE1.out.set 0 (.int .i64 0)).set 1 (.int .i64 0)).set 2 (.int .i64 0)).set 3 (.int .i64 0)).set 4 ((.slice none 0 0))).set 5 ((.slice none 0 0))).set 6 ((.slice none 0 0)))
      have HBF := Lib.hid (((((((HBE.out.setCell (p := ⟨w.heap.size + 1, 0, none⟩) (by show w.heap.size ≤ w.heap.size + 1; omega) (.int .i64 0)).setCell (p := ⟨w.heap.size + 1, 1, none⟩) (by show w.heap.size ≤ w.heap.size + 1; omega) (.int .i64 0)).setCell (p := ⟨w.heap.size + 1, 2, none⟩) (by show w.heap.size ≤ w.heap.size + 1; omega) (.int .i64 0)).setCell (p := ⟨w.heap.size + 1, 3, none⟩) (by show w.heap.size ≤ w.heap.size + 1; omega) (.int .i64 0)).setCell (p := ⟨w.heap.size + 1, 4, none⟩) (by show w.heap.size ≤ w.heap.size + 1; omega) ((.slice none 0 0))).setCell (p := ⟨w.heap.size + 1, 5, none⟩) (by show w.heap.size ≤ w.heap.size + 1; omega) ((.slice none 0 0))).setCell (p := ⟨w.heap.size + 1, 6, none⟩) (by show w.heap.size ≤ w.heap.size + 1; omega) ((.slice none 0 0)))
      clear r1_0 r1_1 r1_2 r1_3 r1_4 r1_5 r1_6 fr1
      have r1_0 := HRF.out.cell (i := 0) rfl
      have r1_1 := HRF.out.cell (i := 1) rfl
      have r1_2 := HRF.out.cell (i := 2) rfl
      have r1_3 := HRF.out.cell (i := 3) rfl
      have r1_4 := HRF.out.cell (i := 4) rfl
      have r1_5 := HRF.out.cell (i := 5) rfl
      have r1_6 := HRF.out.cell (i := 6) rfl
      try (go_wp2_with fail)
      have HVB : Hid (caB gr key cred vote cs = false) := by unfold Hid; simp [caB, Hhc1.out, Hhc2.out]
      have HPR : Hid (caR gr sCast key cred vote cs = ⟨⟨0, 0⟩, ⟨0, 0⟩, ⟨[], [], []⟩⟩) := by unfold Hid caR; rw [if_neg (by rw [HVB.out]; simp)]
      refine bodyPost_ret (v := .tuple #[.agg #[.int .i64 0, .int .i64 0, .int .i64 0, .int .i64 0, (.slice none 0 0), (.slice none 0 0), (.slice none 0 0)], .bool false]) (by simp [results, Try.results70, go_sem, r1_0, r1_1, r1_2, r1_3, r1_4, r1_5, r1_6]) rfl ⟨(by rw [HVB.out, HPR.out]; exact RetC.mk (x := ⟨⟨0, 0⟩, ⟨0, 0⟩, ⟨[], [], []⟩⟩) ⟨⟨⟨by decide, by decide⟩, ⟨by decide, by decide⟩⟩, ⟨⟨by decide, by decide⟩, ⟨by decide, by decide⟩⟩⟩ (OwnI.nil _ _) (OwnI.nil _ _) (OwnI.nil _ _)), HBF.out⟩
    | true =>
      have skey : Small key := elB_small HG.out hc2
      have Hhc2 := Lib.hid hc2
      clear hc2
      go_wp2_with fail
      refine (impl_isCredential gr cred _ HG.out hcred).mono ?_
      rintro e u3 ⟨rfl, hq3⟩
      replace hc := Below.next hc hq3
      clear hq3 c0_0 c0_1 c0_2
      obtain ⟨c0_0, c0_1, c0_2⟩ := HCC.out _ hc
      cases hc3 : crB gr cred with
      | false =>
        have Hhc3 := Lib.hid hc3
        clear hc3
        have HRE1 := Lib.hid (HR1.out.below hc)
        clear HR1
        have HBE := Lib.hid (HB.out.trans (hc.mono HB.out.size))
        have r1_0 := HRE1.out.cell (i := 0) rfl
        have r1_1 := HRE1.out.cell (i := 1) rfl
        have r1_2 := HRE1.out.cell (i := 2) rfl
        have r1_3 := HRE1.out.cell (i := 3) rfl
        have r1_4 := HRE1.out.cell (i := 4) rfl
        have r1_5 := HRE1.out.cell (i := 5) rfl
        have r1_6 := HRE1.out.cell (i := 6) rfl
        have fr1 := fun j => HRE1.out.frozen j
        go_wp2_with fail
        have HRF := Lib.hid (((((((HRE1.out.set 0 (.int .i64 0)).set 1 (.int .i64 0)).set 2 (.int .i64 0)).set 3 (.int .i64 0)).set 4 ((.slice none 0 0))).set 5 ((.slice none 0 0))).set 6 ((.slice none 0 0)))
        have HBF := Lib.hid (((((((HBE.out.setCell (p := ⟨w.heap.size + 1, 0, none⟩) (by show w.heap.size ≤ w.heap.size + 1; omega) (.int .i64 0)).setCell (p := ⟨w.heap.size + 1, 1, none⟩) (by show w.heap.size ≤ w.heap.size + 1; omega) (.int .i64 0)).setCell (p := ⟨w.heap.size + 1, 2, none⟩) (by show w.heap.size ≤ w.heap.size + 1; omega) (.int .i64 0)).setCell (p := ⟨w.heap.size + 1, 3, none⟩) (by show w.heap.size ≤ w.heap.size + 1; omega) (.int .i64 0)).setCell (p := ⟨w.heap.size + 1, 4, none⟩) (by show w.heap.size ≤ w.heap.size + 1; omega) ((.slice none 0 0))).setCell (p := ⟨w.heap.size + 1, 5, none⟩) (by show w.heap.size ≤ w.heap.size + 1; omega) ((.slice none 0 0))).setCell (p := ⟨w.heap.size + 1, 6, none⟩) (by show w.heap.size ≤ w.heap.size + 1; omega) ((.slice none 0 0)))
        clear r1_0 r1_1 r1_2 r1_3 r1_4 r1_5 r1_6 fr1
        have r1_0 := HRF.out.cell (i := 0) rfl
        have r1_1 := HRF.out.cell (i := 1) rfl
        have r1_2 := HRF.out.cell (i := 2) rfl
        have r1_3 := HRF.out.cell (i := 3) rfl
        have r1_4 := HRF.out.cell (i := 4) rfl
        have r1_5 := HRF.out.cell (i := 5) rfl
        have r1_6 := HRF.out.cell (i := 6) rfl
        try (go_wp2_with fail)
        have HVB : Hid (caB gr key cred vote cs = false) := by unfold Hid; simp [caB, Hhc1.out, Hhc2.out, Hhc3.out]
        have HPR : Hid (caR gr sCast key cred vote cs = ⟨⟨0, 0⟩, ⟨0, 0⟩, ⟨[], [], []⟩⟩) := by unfold Hid caR; rw [if_neg (by rw [HVB.out]; simp)]
        refine bodyPost_ret (v := .tuple #[.agg #[.int .i64 0, .int .i64 0, .int .i64 0, .int .i64 0, (.slice none 0 0), (.slice none 0 0), (.slice none 0 0)], .bool false]) (by simp [results, Try.results70, go_sem, r1_0, r1_1, r1_2, r1_3, r1_4, r1_5, r1_6]) rfl ⟨(by rw [HVB.out, HPR.out]; exact RetC.mk (x := ⟨⟨0, 0⟩, ⟨0, 0⟩, ⟨[], [], []⟩⟩) ⟨⟨⟨by decide, by decide⟩, ⟨by decide, by decide⟩⟩, ⟨⟨by decide, by decide⟩, ⟨by decide, by decide⟩⟩⟩ (OwnI.nil _ _) (OwnI.nil _ _) (OwnI.nil _ _)), HBF.out⟩
      | true =>
        have scred : Small cred := elB_small HG.out (crB_el hc3)
        have Hhc3 := Lib.hid hc3
        clear hc3
        go_wp2_with fail
        refine (impl_isExp gr vote _ HG.out).mono ?_
        rintro e u4 ⟨rfl, hq4⟩
        replace hc := Below.next hc hq4
        clear hq4 c0_0 c0_1 c0_2
        obtain ⟨c0_0, c0_1, c0_2⟩ := HCC.out _ hc
        cases hc4 : expB gr vote with
        | false =>
          have Hhc4 := Lib.hid hc4
          clear hc4
          have HRE1 := Lib.hid (HR1.out.below hc)
          clear HR1
          have HBE := Lib.hid (HB.out.trans (hc.mono HB.out.size))
          have r1_0 := HRE1.out.cell (i := 0) rfl
          have r1_1 := HRE1.out.cell (i := 1) rfl
          have r1_2 := HRE1.out.cell (i := 2) rfl
          have r1_3 := HRE1.out.cell (i := 3) rfl
          have r1_4 := HRE1.out.cell (i := 4) rfl
          have r1_5 := HRE1.out.cell (i := 5) rfl
          have r1_6 := HRE1.out.cell (i := 6) rfl
          have fr1 := fun j => HRE1.out.frozen j
          go_wp2_with fail
          have HRF := Lib.hid (((((((HRE1.out.set 0 (.int .i64 0)).set 1 (.int .i64 0)).set 2 (.int .i64 0)).set 3 (.int .i64 0)).set 4 ((.slice none 0 0))).set 5 ((.slice none 0 0))).set 6 ((.slice none 0 0)))
          have HBF := Lib.hid (((((((HBE.out.setCell (p := ⟨w.heap.size + 1, 0, none⟩) (by show w.heap.size ≤ w.heap.size + 1; omega) (.int .i64 0)).setCell (p := ⟨w.heap.size + 1, 1, none⟩) (by show w.heap.size ≤ w.heap.size + 1; omega) (.int .i64 0)).setCell (p := ⟨w.heap.size + 1, 2, none⟩) (by show w.heap.size ≤ w.heap.size + 1; omega) (.int .i64 0)).setCell (p := ⟨w.heap.size + 1, 3, none⟩) (by show w.heap.size ≤ w.heap.size + 1; omega) (.int .i64 0)).setCell (p := ⟨w.heap.size + 1, 4, none⟩) (by show w.heap.size ≤ w.heap.size + 1; omega) ((.slice none 0 0))).setCell (p := ⟨w.heap.size + 1, 5, none⟩) (by show w.heap.size ≤ w.heap.size + 1; omega) ((.slice none 0 0))).setCell (p := ⟨w.heap.size + 1, 6, none⟩) (by show w.heap.size ≤ w.heap.size + 1; omega) ((.slice none 0 0)))
          clear r1_0 r1_1 r1_2 r1_3 r1_4 r1_5 r1_6 fr1
          have r1_0 := HRF.out.cell (i := 0) rfl
          have r1_1 := HRF.out.cell (i := 1) rfl
          have r1_2 := HRF.out.cell (i := 2) rfl
          have r1_3 := HRF.out.cell (i := 3) rfl
          have r1_4 := HRF.out.cell (i := 4) rfl
          have r1_5 := HRF.out.cell (i := 5) rfl
          have r1_6 := HRF.out.cell (i := 6) rfl
          try (go_wp2_with fail)
          have HVB : Hid (caB gr key cred vote cs = false) := by unfold Hid; simp [caB, Hhc1.out, Hhc2.out, Hhc3.out, Hhc4.out]
          have HPR : Hid (caR gr sCast key cred vote cs = ⟨⟨0, 0⟩, ⟨0, 0⟩, ⟨[], [], []⟩⟩) := by unfold Hid caR; rw [if_neg (by rw [HVB.out]; simp)]
          refine bodyPost_ret (v := .tuple #[.agg #[.int .i64 0, .int .i64 0, .int .i64 0, .int .i64 0, (.slice none 0 0), (.slice none 0 0), (.slice none 0 0)], .bool false]) (by simp [results, Try.results70, go_sem, r1_0, r1_1, r1_2, r1_3, r1_4, r1_5, r1_6]) rfl ⟨(by rw [HVB.out, HPR.out]; exact RetC.mk (x := ⟨⟨0, 0⟩, ⟨0, 0⟩, ⟨[], [], []⟩⟩) ⟨⟨⟨by decide, by decide⟩, ⟨by decide, by decide⟩⟩, ⟨⟨by decide, by decide⟩, ⟨by decide, by decide⟩⟩⟩ (OwnI.nil _ _) (OwnI.nil _ _) (OwnI.nil _ _)), HBF.out⟩
        | true =>
          obtain ⟨v1, v2⟩ := expB_bd hc4
          have Hhc4 := Lib.hid hc4
          clear hc4
          cases hc5 : ((cvn : Int) != 4) with
          | false =>
            obtain rfl : cvn = 4 := by have q := hc5; rw [bne_eq_false_iff_eq] at q; omega
            obtain ⟨cvb, cvo, rfl, hx⟩ := Hcv.out.at_ (by omega)
            have Kcv0 : Hid (w.cell? ⟨cvb, cvo, none⟩ = some (.int .i64 (nth cs 0))) := by unfold Hid; have h := hx 0 (by omega); simpa using h
            have Kcv1 : Hid (w.cell? ⟨cvb, cvo + 1, none⟩ = some (.int .i64 (nth cs 1))) := by unfold Hid; have h := hx 1 (by omega); simpa using h
            have Kcv2 : Hid (w.cell? ⟨cvb, cvo + 2, none⟩ = some (.int .i64 (nth cs 2))) := by unfold Hid; have h := hx 2 (by omega); simpa using h
            have Kcv3 : Hid (w.cell? ⟨cvb, cvo + 3, none⟩ = some (.int .i64 (nth cs 3))) := by unfold Hid; have h := hx 3 (by omega); simpa using h
            clear hx
            have ycv0 := box_at Kcv0.out (HB.out.trans (hc.mono HB.out.size))
            have ycv1 := box_at Kcv1.out (HB.out.trans (hc.mono HB.out.size))
            have ycv2 := box_at Kcv2.out (HB.out.trans (hc.mono HB.out.size))
            have ycv3 := box_at Kcv3.out (HB.out.trans (hc.mono HB.out.size))
            replace HCC : Hid (∀ u, Below W.heap.size W u → u.cell? ⟨w.heap.size, 0, none⟩ = some (.int .i64 gr.p) ∧ u.cell? ⟨w.heap.size, 1, none⟩ = some (.int .i64 gr.q) ∧ u.cell? ⟨w.heap.size, 2, none⟩ = some (.int .i64 gr.g) ∧ u.cell? ⟨cvb, cvo, none⟩ = some (.int .i64 (nth cs 0)) ∧ u.cell? ⟨cvb, cvo + 1, none⟩ = some (.int .i64 (nth cs 1)) ∧ u.cell? ⟨cvb, cvo + 2, none⟩ = some (.int .i64 (nth cs 2)) ∧ u.cell? ⟨cvb, cvo + 3, none⟩ = some (.int .i64 (nth cs 3))) := fun u h => by obtain ⟨c0_0, c0_1, c0_2⟩ := HCC.out u h; exact ⟨c0_0, c0_1, c0_2, box_at Kcv0.out (HB.out.trans (h.mono HB.out.size)), box_at Kcv1.out (HB.out.trans (h.mono HB.out.size)), box_at Kcv2.out (HB.out.trans (h.mono HB.out.size)), box_at Kcv3.out (HB.out.trans (h.mono HB.out.size))⟩
            have HL2 : Hid (decide (cs.length = 4) = true) := decide_eq_true Ecv.out
            go_wp2_with fail
            refine (impl_areExps gr _ cs _ HG.out (Hcv.out.below (HB.out.trans (hc.mono HB.out.size)))).mono ?_
            rintro e u5 ⟨rfl, hq5⟩
            replace hc := Below.next hc hq5
            clear hq5 c0_0 c0_1 c0_2 ycv0 ycv1 ycv2 ycv3
            obtain ⟨c0_0, c0_1, c0_2, ycv0, ycv1, ycv2, ycv3⟩ := HCC.out _ hc
            cases hc6 : cs.all (expB gr) with
            | false =>
              have Hhc6 := Lib.hid hc6
              clear hc6
              have HRE1 := Lib.hid (HR1.out.below hc)
              clear HR1
              have HBE := Lib.hid (HB.out.trans (hc.mono HB.out.size))
              have r1_0 := HRE1.out.cell (i := 0) rfl
              have r1_1 := HRE1.out.cell (i := 1) rfl
              have r1_2 := HRE1.out.cell (i := 2) rfl
              have r1_3 := HRE1.out.cell (i := 3) rfl
              have r1_4 := HRE1.out.cell (i := 4) rfl
              have r1_5 := HRE1.out.cell (i := 5) rfl
              have r1_6 := HRE1.out.cell (i := 6) rfl
              have fr1 := fun j => HRE1.out.frozen j
              go_wp2_with fail
              have HRF := Lib.hid (((((((HRE1.out.set 0 (.int .i64 0)).set 1 (.int .i64 0)).set 2 (.int .i64 0)).set 3 (.int .i64 0)).set 4 ((.slice none 0 0))).set 5 ((.slice none 0 0))).set 6 ((.slice none 0 0)))
              have HBF := Lib.hid (((((((HBE.out.setCell (p := ⟨w.heap.size + 1, 0, none⟩) (by show w.heap.size ≤ w.heap.size + 1; omega) (.int .i64 0)).setCell (p := ⟨w.heap.size + 1, 1, none⟩) (by show w.heap.size ≤ w.heap.size + 1; omega) (.int .i64 0)).setCell (p := ⟨w.heap.size + 1, 2, none⟩) (by show w.heap.size ≤ w.heap.size + 1; omega) (.int .i64 0)).setCell (p := ⟨w.heap.size + 1, 3, none⟩) (by show w.heap.size ≤ w.heap.size + 1; omega) (.int .i64 0)).setCell (p := ⟨w.heap.size + 1, 4, none⟩) (by show w.heap.size ≤ w.heap.size + 1; omega) ((.slice none 0 0))).setCell (p := ⟨w.heap.size + 1, 5, none⟩) (by show w.heap.size ≤ w.heap.size + 1; omega) ((.slice none 0 0))).setCell (p := ⟨w.heap.size + 1, 6, none⟩) (by show w.heap.size ≤ w.heap.size + 1; omega) ((.slice none 0 0)))
              clear r1_0 r1_1 r1_2 r1_3 r1_4 r1_5 r1_6 fr1
              have r1_0 := HRF.out.cell (i := 0) rfl
              have r1_1 := HRF.out.cell (i := 1) rfl
              have r1_2 := HRF.out.cell (i := 2) rfl
              have r1_3 := HRF.out.cell (i := 3) rfl
              have r1_4 := HRF.out.cell (i := 4) rfl
              have r1_5 := HRF.out.cell (i := 5) rfl
              have r1_6 := HRF.out.cell (i := 6) rfl
              try (go_wp2_with fail)
              have HVB : Hid (caB gr key cred vote cs = false) := by unfold Hid; simp [caB, Hhc1.out, Hhc2.out, Hhc3.out, Hhc4.out, hc5, Hhc6.out, HL2.out]
              have HPR : Hid (caR gr sCast key cred vote cs = ⟨⟨0, 0⟩, ⟨0, 0⟩, ⟨[], [], []⟩⟩) := by unfold Hid caR; rw [if_neg (by rw [HVB.out]; simp)]
              refine bodyPost_ret (v := .tuple #[.agg #[.int .i64 0, .int .i64 0, .int .i64 0, .int .i64 0, (.slice none 0 0), (.slice none 0 0), (.slice none 0 0)], .bool false]) (by simp [results, Try.results70, go_sem, r1_0, r1_1, r1_2, r1_3, r1_4, r1_5, r1_6]) rfl ⟨(by rw [HVB.out, HPR.out]; exact RetC.mk (x := ⟨⟨0, 0⟩, ⟨0, 0⟩, ⟨[], [], []⟩⟩) ⟨⟨⟨by decide, by decide⟩, ⟨by decide, by decide⟩⟩, ⟨⟨by decide, by decide⟩, ⟨by decide, by decide⟩⟩⟩ (OwnI.nil _ _) (OwnI.nil _ _) (OwnI.nil _ _)), HBF.out⟩
            | true =>
              have zq1 := HG.out.q1
              have zq2 := HG.out.q2
              have zp2 := HG.out.p2
              have zq3 : gr.q ≤ 2000000000 := by omega
              have zq0 : 0 < gr.q := by omega
              have zq4 : gr.q ≤ 4000000000 := by omega
              obtain ⟨a0, a1, a2, a3⟩ := all_four Ecv.out hc6
              obtain ⟨a01, a02⟩ := expB_bd a0
              obtain ⟨a11, a12⟩ := expB_bd a1
              obtain ⟨a21, a22⟩ := expB_bd a2
              obtain ⟨a31, a32⟩ := expB_bd a3
              clear a0 a1 a2 a3
              have hgg := elT_gen HGD.out
              have sgg : Small gr.g := elB_small HG.out hgg
              obtain ⟨GV, hGV⟩ : ∃ x, powE gr gr.g vote = x := ⟨_, rfl⟩
              have HGV := Lib.hid hGV
              have sGV : Small GV := hGV ▸ powE_small HG.out gr.g vote
              obtain ⟨C, hC⟩ : ∃ x, enC gr key cred (nth cs 0) = x := ⟨_, rfl⟩
              have HC := Lib.hid hC
              have sC : SmallC C := hC ▸ enC_small HG.out key cred (nth cs 0)
              obtain ⟨D, hD⟩ : ∃ x, enC gr key GV (nth cs 1) = x := ⟨_, rfl⟩
              have HD := Lib.hid hD
              have sD : SmallC D := hD ▸ enC_small HG.out key GV (nth cs 1)
              obtain ⟨X0, hX0⟩ : ∃ x, powE gr gr.g (nth cs 2) = x := ⟨_, rfl⟩
              have HX0 := Lib.hid hX0
              have sX0 : Small X0 := hX0 ▸ powE_small HG.out gr.g (nth cs 2)
              obtain ⟨X1, hX1⟩ : ∃ x, powE gr gr.g (nth cs 3) = x := ⟨_, rfl⟩
              have HX1 := Lib.hid hX1
              have sX1 : Small X1 := hX1 ▸ powE_small HG.out gr.g (nth cs 3)
              obtain ⟨E, hE⟩ : ∃ x, caE gr sCast C D [X0, X1] = x := ⟨_, rfl⟩
              have HE := Lib.hid hE
              have he := chV_bd HG.out sCast ([C.a, C.b, D.a, D.b] ++ [X0, X1])
              obtain ⟨e1, e2⟩ : 0 ≤ E ∧ E < gr.q := hE ▸ he
              have iE : I64 E := ⟨by omega, by omega⟩
              have HAS : Hid (AllSmall ([C.a, C.b, D.a, D.b] ++ [X0, X1])) := AllSmall.cons sC.1 (AllSmall.cons sC.2 (AllSmall.cons sD.1 (AllSmall.cons sD.2 (AllSmall.cons sX0 (AllSmall.cons sX1 AllSmall.nil)))))
              have HII : Hid ((I64 C.a ∧ I64 C.b) ∧ (I64 D.a ∧ I64 D.b)) := ⟨⟨small_64 sC.1, small_64 sC.2⟩, ⟨small_64 sD.1, small_64 sD.2⟩⟩
              have hqz : ¬ gr.q = 0 := by omega
              obtain ⟨pp1, pp2⟩ := mul_bnd (a := E) (b := nth cs 0) (by omega) (by omega) (by omega) (by omega)
              have ewa1 : IntKind.i64.wrap (E * nth cs 0) = E * nth cs 0 := IntWalk.i64_in _ (by omega)
              have ewb1 : IntKind.i64.wrap (nth cs 2 + E * nth cs 0) = nth cs 2 + E * nth cs 0 := IntWalk.i64_in _ (by omega)
              have HN1 : Hid (I64 (nth cs 2 + E * nth cs 0)) := ⟨by omega, by omega⟩
              have et1 : Int.tmod (nth cs 2 + E * nth cs 0) gr.q = (nth cs 2 + E * nth cs 0) % gr.q := Int.tmod_eq_emod_of_nonneg (by omega)
              clear pp1 pp2
              obtain ⟨Z0, hZ0⟩ : ∃ x, (nth cs 2 + E * nth cs 0) % gr.q = x := ⟨_, rfl⟩
              rw [hZ0] at et1
              have HZ0 := Lib.hid hZ0
              have iZ0 : I64 Z0 := by rw [← hZ0]; have z1 : 0 ≤ (nth cs 2 + E * nth cs 0) % gr.q := Int.emod_nonneg _ (by omega); have z2 : (nth cs 2 + E * nth cs 0) % gr.q < gr.q := Int.emod_lt_of_pos _ (by omega); exact ⟨by omega, by omega⟩
              have ewz1 : IntKind.i64.wrap Z0 = Z0 := IntWalk.i64_in _ iZ0
              clear hZ0
              obtain ⟨pp1, pp2⟩ := mul_bnd (a := E) (b := nth cs 1) (by omega) (by omega) (by omega) (by omega)
              have ewa2 : IntKind.i64.wrap (E * nth cs 1) = E * nth cs 1 := IntWalk.i64_in _ (by omega)
              have ewb2 : IntKind.i64.wrap (nth cs 3 + E * nth cs 1) = nth cs 3 + E * nth cs 1 := IntWalk.i64_in _ (by omega)
              have HN2 : Hid (I64 (nth cs 3 + E * nth cs 1)) := ⟨by omega, by omega⟩
              have et2 : Int.tmod (nth cs 3 + E * nth cs 1) gr.q = (nth cs 3 + E * nth cs 1) % gr.q := Int.tmod_eq_emod_of_nonneg (by omega)
              clear pp1 pp2
              obtain ⟨Z1, hZ1⟩ : ∃ x, (nth cs 3 + E * nth cs 1) % gr.q = x := ⟨_, rfl⟩
              rw [hZ1] at et2
              have HZ1 := Lib.hid hZ1
              have iZ1 : I64 Z1 := by rw [← hZ1]; have z1 : 0 ≤ (nth cs 3 + E * nth cs 1) % gr.q := Int.emod_nonneg _ (by omega); have z2 : (nth cs 3 + E * nth cs 1) % gr.q < gr.q := Int.emod_lt_of_pos _ (by omega); exact ⟨by omega, by omega⟩
              have ewz2 : IntKind.i64.wrap Z1 = Z1 := IntWalk.i64_in _ iZ1
              clear hZ1
              have HBD : Hid (caD gr sCast key cred vote cs = ⟨C, D, ⟨[X0, X1], [E], [Z0, Z1]⟩⟩) := by
                unfold Hid caD caX caC caV
                rw [hGV, hC, hD, hX0, hX1, hE, HZ0.out, HZ1.out]
              clear hGV hC hD hX0 hX1 hE he hgg
              have Hhc6 := Lib.hid hc6
              clear hc6
              have hszr := hc.size
              try (go_wp2_with fail)
              refine wp_region_noPanic ?_
              refine wp_region_P (fun w' => w'.cell? ⟨w.heap.size, 0, none⟩ = some (.int .i64 gr.p) ∧ w'.cell? ⟨w.heap.size, 1, none⟩ = some (.int .i64 gr.q) ∧ w'.cell? ⟨w.heap.size, 2, none⟩ = some (.int .i64 gr.g) ∧ w'.cell? ⟨cvb, cvo, none⟩ = some (.int .i64 (nth cs 0)) ∧ w'.cell? ⟨cvb, cvo + 1, none⟩ = some (.int .i64 (nth cs 1)) ∧ w'.cell? ⟨cvb, cvo + 2, none⟩ = some (.int .i64 (nth cs 2)) ∧ w'.cell? ⟨cvb, cvo + 3, none⟩ = some (.int .i64 (nth cs 3))) 18 [(0, []), (1, [0]), (2, [0]), (3, []), (4, [0]), (5, [0]), (6, []), (7, [0]), (8, [0]), (9, []), (10, [0]), (11, [0]), (12, [9]), (13, [7]), (14, [5]), (15, [3])] [] (by kernel_rfl) (by kernel_rfl) (by kernel_rfl) rfl (fun _ _ _ _ h => h) (fun w' h => ⟨box_at c0_0 h, box_at c0_1 h, box_at c0_2 h, box_at ycv0 h, box_at ycv1 h, box_at ycv2 h, box_at ycv3 h⟩) ?_
              simp only [pickP, pickN, List.getElem?_cons_zero, List.getElem?_cons_succ]
              iterate 16 (refine' chainP_read _ rfl rfl (fun w' hS' => ?_) ?_; rotate_left; · (simp only [lookP, allP, Act.put, List.getElem?_cons_zero, List.getElem?_cons_succ, List.setIfInBounds_toArray, List.set_cons_zero, List.set_cons_succ]; (try dsimp only at hS'); go_simp; (try with_reducible rfl)))
              refine chainP_nil (fun u6 hS' => ?_)
              simp only [allP, Act.put, List.setIfInBounds_toArray, List.set_cons_zero, List.set_cons_succ]
              have hq6 := hS'.1
              clear hS'
              replace hc := Below.next hc hq6
              clear hq6 c0_0 c0_1 c0_2 ycv0 ycv1 ycv2 ycv3
              obtain ⟨c0_0, c0_1, c0_2, ycv0, ycv1, ycv2, ycv3⟩ := HCC.out _ hc
              go_wp2_with fail
              refine NoPanic.normal ?_
              have hszr0 := hc.size
              have hszr := hc.size
              try (go_wp2_with fail)
              refine wp_region_noPanic ?_
              refine wp_region_P (fun w' => w'.cell? ⟨w.heap.size, 0, none⟩ = some (.int .i64 gr.p) ∧ w'.cell? ⟨w.heap.size, 1, none⟩ = some (.int .i64 gr.q) ∧ w'.cell? ⟨w.heap.size, 2, none⟩ = some (.int .i64 gr.g) ∧ w'.cell? ⟨cvb, cvo, none⟩ = some (.int .i64 (nth cs 0)) ∧ w'.cell? ⟨cvb, cvo + 1, none⟩ = some (.int .i64 (nth cs 1)) ∧ w'.cell? ⟨cvb, cvo + 2, none⟩ = some (.int .i64 (nth cs 2)) ∧ w'.cell? ⟨cvb, cvo + 3, none⟩ = some (.int .i64 (nth cs 3))) 19 [(0, []), (1, []), (2, []), (3, []), (4, [3, 2, 1, 0]), (5, []), (6, []), (7, []), (8, []), (9, [0]), (10, []), (11, [3, 1, 0]), (12, []), (13, [7, 6, 1, 0]), (14, [9, 0]), (15, [])] [16] (by kernel_rfl) (by kernel_rfl) (by kernel_rfl) rfl (fun _ _ _ _ h => h) (fun w' h => ⟨box_at c0_0 h, box_at c0_1 h, box_at c0_2 h, box_at ycv0 h, box_at ycv1 h, box_at ycv2 h, box_at ycv3 h⟩) ?_
              simp only [pickP, pickN, List.getElem?_cons_zero, List.getElem?_cons_succ]
              iterate 4 (refine' chainP_read _ rfl rfl (fun w' hS' => ?_) ?_; rotate_left; · (simp only [lookP, allP, Act.put, List.getElem?_cons_zero, List.getElem?_cons_succ, List.setIfInBounds_toArray, List.set_cons_zero, List.set_cons_succ]; (try dsimp only at hS'); go_simp; (try with_reducible rfl)))
              -- 4: call { callee := value (func 184), args := #[t63, t64, t65, t66], argTypes := #[39, 3, 3, 3] }
              refine chainP_call (d := (some 67)) (.agg #[.int .i64 C.a, .int .i64 C.b]) rfl rfl (fun w' hS' => ?_) ?_
              · simp only [lookP, allP, Act.put, List.getElem?_cons_zero, List.getElem?_cons_succ, List.setIfInBounds_toArray, List.set_cons_zero, List.set_cons_succ]
                intro K hK
                go_simp
                go_at_call 184
                refine (impl_encrypt gr key cred (nth cs 0) _ HG.out skey scred ⟨by omega, by omega⟩).mono ?_
                rintro e u ⟨rfl, hq⟩
                rw [HC.out]
                exact hK.out _ hq
              iterate 6 (refine' chainP_read _ rfl rfl (fun w' hS' => ?_) ?_; rotate_left; · (simp only [lookP, allP, Act.put, List.getElem?_cons_zero, List.getElem?_cons_succ, List.setIfInBounds_toArray, List.set_cons_zero, List.set_cons_succ]; (try dsimp only at hS'); go_simp; (try with_reducible rfl)))
              -- 11: call { callee := value (func 165), args := #[t70, t72, t73], argTypes := #[39, 3, 3] }
              refine chainP_call (d := (some 74)) (.int .i64 GV) rfl rfl (fun w' hS' => ?_) ?_
              · simp only [lookP, allP, Act.put, List.getElem?_cons_zero, List.getElem?_cons_succ, List.setIfInBounds_toArray, List.set_cons_zero, List.set_cons_succ]
                intro K hK
                go_simp
                go_at_call 165
                refine (impl_pow gr gr.g vote _ HG.out sgg ⟨by omega, by omega⟩).mono ?_
                rintro e u ⟨rfl, hq⟩
                rw [HGV.out]
                exact hK.out _ hq
              -- 12: move t13
              refine' chainP_read (d := (some 75)) _ rfl rfl (fun w' hS' => ?_) ?_; rotate_left
              · simp only [lookP, allP, Act.put, List.getElem?_cons_zero, List.getElem?_cons_succ, List.setIfInBounds_toArray, List.set_cons_zero, List.set_cons_succ]
                (try dsimp only at hS')
                go_simp
                (try with_reducible rfl)
              -- 13: call { callee := value (func 184), args := #[t68, t69, t74, t75], argTypes := #[39, 3, 3, 3] }
              refine chainP_call (d := (some 76)) (.agg #[.int .i64 D.a, .int .i64 D.b]) rfl rfl (fun w' hS' => ?_) ?_
              · simp only [lookP, allP, Act.put, List.getElem?_cons_zero, List.getElem?_cons_succ, List.setIfInBounds_toArray, List.set_cons_zero, List.set_cons_succ]
                intro K hK
                go_simp
                go_at_call 184
                refine (impl_encrypt gr key GV (nth cs 1) _ HG.out skey sGV ⟨by omega, by omega⟩).mono ?_
                rintro e u ⟨rfl, hq⟩
                rw [HD.out]
                exact hK.out _ hq
              -- 14: build 104 #[(0, t67), (1, t76)]
              refine' chainP_read (d := (some 77)) _ rfl rfl (fun w' hS' => ?_) ?_; rotate_left
              · simp only [lookP, allP, Act.put, List.getElem?_cons_zero, List.getElem?_cons_succ, List.setIfInBounds_toArray, List.set_cons_zero, List.set_cons_succ]
                (try dsimp only at hS')
                go_simp
                (try with_reducible rfl)
              -- 15: alloc 104
              refine chainP_do (d := (some 16)) (fun v u => ∃ b, v = .pointer (some ⟨b, 0, none⟩) ∧ u6.heap.size ≤ b ∧ BoxN u b 104 [.int .i64 0, .int .i64 0, .int .i64 0, .int .i64 0, (.slice none 0 0), (.slice none 0 0), (.slice none 0 0)]) (fun v w1 w2 hw h => by obtain ⟨b, h1, h2, h3⟩ := h; exact ⟨b, h1, h2, h3.below hw⟩) rfl rfl (fun w' hS' => ?_) ?_
              · simp only [lookP, allP, Act.put, List.getElem?_cons_zero, List.getElem?_cons_succ, List.setIfInBounds_toArray, List.set_cons_zero, List.set_cons_succ]
                intro K hK
                go_simp
                refine hK.out _ _ ((Below.refl _ _).alloc (Nat.le_refl _) _) ⟨_, rfl, hS'.1.size, ?_⟩
                exact BoxN.new w' [.int .i64 0, .int .i64 0, .int .i64 0, .int .i64 0, (.slice none 0 0), (.slice none 0 0), (.slice none 0 0)] _
              refine chainP_nil (fun u7 hS' => ?_)
              simp only [allP, Act.put, List.setIfInBounds_toArray, List.set_cons_zero, List.set_cons_succ]
              intro x15 hx15
              have hq7 := hS'.1
              clear hS'
              replace hc := Below.next hc hq7
              clear hq7 c0_0 c0_1 c0_2 ycv0 ycv1 ycv2 ycv3
              obtain ⟨c0_0, c0_1, c0_2, ycv0, ycv1, ycv2, ycv3⟩ := HCC.out _ hc
              obtain ⟨XB, rfl, hXB, hm0⟩ := hx15
              have HM := Lib.hid hm0
              clear hm0
              have hWX : W.heap.size ≤ XB := Nat.le_trans (by have := hszr0; omega) hXB
              clear hXB
              have m0 := HM.out.cell (i := 0) rfl
              have m1 := HM.out.cell (i := 1) rfl
              have m2 := HM.out.cell (i := 2) rfl
              have m3 := HM.out.cell (i := 3) rfl
              have m4 := HM.out.cell (i := 4) rfl
              have m5 := HM.out.cell (i := 5) rfl
              have m6 := HM.out.cell (i := 6) rfl
              have fzm := fun i => HM.out.frozen i
              have hsz := hc.size
              go_wp2_with fail
              refine NoPanic.normal ?_
              (try (go_wp2_with fail))
              obtain ⟨Y_8, hY⟩ : ∃ Y, Y = ((((((u7.setCell ⟨XB, 0, none⟩ (.int .i64 C.a)).setCell ⟨XB, 1, none⟩ (.int .i64 C.b)).setCell ⟨XB, 2, none⟩ (.int .i64 D.a)).setCell ⟨XB, 3, none⟩ (.int .i64 D.b)).setCell ⟨XB, 4, none⟩ (.slice none 0 0)).setCell ⟨XB, 5, none⟩ (.slice none 0 0)).setCell ⟨XB, 6, none⟩ (.slice none 0 0) := ⟨_, rfl⟩
              have NHM : Hid (BoxN Y_8 XB 104 [.int .i64 C.a, .int .i64 C.b, .int .i64 D.a, .int .i64 D.b, .slice none 0 0, .slice none 0 0, .slice none 0 0]) := by unfold Hid; rw [hY]; exact (((((((HM.out.set 0 (.int .i64 C.a)).set 1 (.int .i64 C.b)).set 2 (.int .i64 D.a)).set 3 (.int .i64 D.b)).set 4 (.slice none 0 0)).set 5 (.slice none 0 0)).set 6 (.slice none 0 0))
              have hcY : Below W.heap.size W Y_8 := by rw [hY]; exact (((((((hc.setCell (p := ⟨XB, 0, none⟩) (by show W.heap.size ≤ XB; omega) (.int .i64 C.a)).setCell (p := ⟨XB, 1, none⟩) (by show W.heap.size ≤ XB; omega) (.int .i64 C.b)).setCell (p := ⟨XB, 2, none⟩) (by show W.heap.size ≤ XB; omega) (.int .i64 D.a)).setCell (p := ⟨XB, 3, none⟩) (by show W.heap.size ≤ XB; omega) (.int .i64 D.b)).setCell (p := ⟨XB, 4, none⟩) (by show W.heap.size ≤ XB; omega) (.slice none 0 0)).setCell (p := ⟨XB, 5, none⟩) (by show W.heap.size ≤ XB; omega) (.slice none 0 0)).setCell (p := ⟨XB, 6, none⟩) (by show W.heap.size ≤ XB; omega) (.slice none 0 0))
              rw [← hY]
              clear hY fzm hsz HM 
              have HM := NHM
              clear NHM
              clear m0 m1 m2 m3 m4 m5 m6
              clear hc c0_0 c0_1 c0_2 ycv0 ycv1 ycv2 ycv3
              have hc := hcY
              clear hcY
              obtain ⟨c0_0, c0_1, c0_2, ycv0, ycv1, ycv2, ycv3⟩ := HCC.out _ hc
              clear hszr0
              have hszr1 := hc.size
              have hszr := hc.size
              try (go_wp2_with fail)
              refine wp_region_noPanic ?_
              refine wp_region_P (fun w' => w'.cell? ⟨w.heap.size, 0, none⟩ = some (.int .i64 gr.p) ∧ w'.cell? ⟨w.heap.size, 1, none⟩ = some (.int .i64 gr.q) ∧ w'.cell? ⟨w.heap.size, 2, none⟩ = some (.int .i64 gr.g) ∧ w'.cell? ⟨cvb, cvo, none⟩ = some (.int .i64 (nth cs 0)) ∧ w'.cell? ⟨cvb, cvo + 1, none⟩ = some (.int .i64 (nth cs 1)) ∧ w'.cell? ⟨cvb, cvo + 2, none⟩ = some (.int .i64 (nth cs 2)) ∧ w'.cell? ⟨cvb, cvo + 3, none⟩ = some (.int .i64 (nth cs 3))) 16 [(0, []), (1, []), (2, [0]), (3, []), (4, [3, 1, 0]), (5, []), (6, []), (7, [0]), (8, []), (9, [3, 1, 0]), (10, [5, 0]), (11, []), (12, [0])] [13] (by kernel_rfl) (by kernel_rfl) (by kernel_rfl) rfl (fun _ _ _ _ h => h) (fun w' h => ⟨box_at c0_0 h, box_at c0_1 h, box_at c0_2 h, box_at ycv0 h, box_at ycv1 h, box_at ycv2 h, box_at ycv3 h⟩) ?_
              simp only [pickP, pickN, List.getElem?_cons_zero, List.getElem?_cons_succ]
              iterate 4 (refine' chainP_read _ rfl rfl (fun w' hS' => ?_) ?_; rotate_left; · (simp only [lookP, allP, Act.put, List.getElem?_cons_zero, List.getElem?_cons_succ, List.setIfInBounds_toArray, List.set_cons_zero, List.set_cons_succ]; (try dsimp only at hS'); go_simp; (try with_reducible rfl)))
              -- 4: call { callee := value (func 165), args := #[t78, t80, t81], argTypes := #[39, 3, 3] }
              refine chainP_call (d := (some 82)) (.int .i64 X0) rfl rfl (fun w' hS' => ?_) ?_
              · simp only [lookP, allP, Act.put, List.getElem?_cons_zero, List.getElem?_cons_succ, List.setIfInBounds_toArray, List.set_cons_zero, List.set_cons_succ]
                intro K hK
                go_simp
                go_at_call 165
                refine (impl_pow gr gr.g (nth cs 2) _ HG.out sgg ⟨by omega, by omega⟩).mono ?_
                rintro e u ⟨rfl, hq⟩
                rw [HX0.out]
                exact hK.out _ hq
              iterate 4 (refine' chainP_read _ rfl rfl (fun w' hS' => ?_) ?_; rotate_left; · (simp only [lookP, allP, Act.put, List.getElem?_cons_zero, List.getElem?_cons_succ, List.setIfInBounds_toArray, List.set_cons_zero, List.set_cons_succ]; (try dsimp only at hS'); go_simp; (try with_reducible rfl)))
              -- 9: call { callee := value (func 165), args := #[t83, t85, t86], argTypes := #[39, 3, 3] }
              refine chainP_call (d := (some 87)) (.int .i64 X1) rfl rfl (fun w' hS' => ?_) ?_
              · simp only [lookP, allP, Act.put, List.getElem?_cons_zero, List.getElem?_cons_succ, List.setIfInBounds_toArray, List.set_cons_zero, List.set_cons_succ]
                intro K hK
                go_simp
                go_at_call 165
                refine (impl_pow gr gr.g (nth cs 3) _ HG.out sgg ⟨by omega, by omega⟩).mono ?_
                rintro e u ⟨rfl, hq⟩
                rw [HX1.out]
                exact hK.out _ hq
              -- 10: buildSlice 24 2 #[(0, t82), (1, t87)]
              refine chainP_do (d := (some 88)) (fun v u => OwnI u Y_8.heap.size v [X0, X1]) (fun v w1 w2 hw h => OwnI.below h hw) rfl rfl (fun w' hS' => ?_) ?_
              · simp only [lookP, allP, Act.put, List.getElem?_cons_zero, List.getElem?_cons_succ, List.setIfInBounds_toArray, List.set_cons_zero, List.set_cons_succ]
                intro K hK
                go_simp
                have hsz0 := hS'.1.size
                refine hK.out _ _ ((Below.refl _ _).alloc (Nat.le_refl _) _) ?_
                exact OwnI.lit w' hsz0 (l := [X0, X1]) (AllI64.cons (small_64 sX0) (AllI64.cons (small_64 sX1) AllI64.nil)) rfl (by simp [maxLen]) 2 rfl
              iterate 2 (refine' chainP_read _ rfl rfl (fun w' hS' => ?_) ?_; rotate_left; · (simp only [lookP, allP, Act.put, List.getElem?_cons_zero, List.getElem?_cons_succ, List.setIfInBounds_toArray, List.set_cons_zero, List.set_cons_succ]; (try dsimp only at hS'); go_simp; (try with_reducible rfl)))
              refine chainP_nil (fun u9 hS' => ?_)
              simp only [allP, Act.put, List.setIfInBounds_toArray, List.set_cons_zero, List.set_cons_succ]
              intro x10 hx10
              have hq9 := hS'.1
              clear hS'
              replace HM := Lib.hid (HM.out.below hq9)
              replace hc := Below.next hc hq9
              clear hq9 c0_0 c0_1 c0_2 ycv0 ycv1 ycv2 ycv3
              obtain ⟨c0_0, c0_1, c0_2, ycv0, ycv1, ycv2, ycv3⟩ := HCC.out _ hc
              have hwrHO0 : W.heap.size ≤ Y_8.heap.size := hszr1
              clear hszr1
              obtain ⟨xaHO0, xcHO0, rfl⟩ := OwnI.shapeN (n := 2) hx10 rfl
              have HO0 := Lib.hid (hx10.mono hwrHO0)
              clear hx10 hwrHO0
              have m0 := HM.out.cell (i := 0) rfl
              have m1 := HM.out.cell (i := 1) rfl
              have m2 := HM.out.cell (i := 2) rfl
              have m3 := HM.out.cell (i := 3) rfl
              have m4 := HM.out.cell (i := 4) rfl
              have m5 := HM.out.cell (i := 5) rfl
              have m6 := HM.out.cell (i := 6) rfl
              have fzm := fun i => HM.out.frozen i
              have hsz := hc.size
              go_wp2_with fail
              refine NoPanic.normal ?_
              obtain ⟨Y_10, hY⟩ : ∃ Y, Y = u9.setCell ⟨XB, 4, none⟩ (.slice xaHO0 2 xcHO0) := ⟨_, rfl⟩
              have NHM : Hid (BoxN Y_10 XB 104 [.int .i64 C.a, .int .i64 C.b, .int .i64 D.a, .int .i64 D.b, .slice xaHO0 2 xcHO0, .slice none 0 0, .slice none 0 0]) := by unfold Hid; rw [hY]; exact (HM.out.set 4 (.slice xaHO0 2 xcHO0))
              have NHO0 : Hid (OwnI Y_10 W.heap.size (.slice xaHO0 2 xcHO0) [X0, X1]) := by unfold Hid; rw [hY]; exact (HO0.out.setC HM.out 4 (.slice xaHO0 2 xcHO0))
              have hcY : Below W.heap.size W Y_10 := by rw [hY]; exact (hc.setCell (p := ⟨XB, 4, none⟩) (by show W.heap.size ≤ XB; omega) (.slice xaHO0 2 xcHO0))
              rw [← hY]
              clear hY fzm hsz HM HO0
              have HM := NHM
              clear NHM
              have HO0 := NHO0
              clear NHO0
              clear m0 m1 m2 m3 m4 m5 m6
              clear hc c0_0 c0_1 c0_2 ycv0 ycv1 ycv2 ycv3
              have hc := hcY
              clear hcY
              obtain ⟨c0_0, c0_1, c0_2, ycv0, ycv1, ycv2, ycv3⟩ := HCC.out _ hc
              have m0 := HM.out.cell (i := 0) rfl
              have m1 := HM.out.cell (i := 1) rfl
              have m2 := HM.out.cell (i := 2) rfl
              have m3 := HM.out.cell (i := 3) rfl
              have m4 := HM.out.cell (i := 4) rfl
              have m5 := HM.out.cell (i := 5) rfl
              have m6 := HM.out.cell (i := 6) rfl
              go_wp2_with fail
              refine (impl_castChallenge gr _ ⟨C, D, ⟨[X0, X1], [], []⟩⟩ _ [X0, X1] _ HG.out (CaR.mk (x := ⟨C, D, ⟨[X0, X1], [], []⟩⟩) HII.out HO0.out.ints (Ints.nil _) (Ints.nil _)) HO0.out.ints (by simp) HAS.out).mono ?_
              rintro e u_c ⟨he, hqc⟩
              obtain rfl : e = .returned (.int .i64 E) := he.trans (congrArg (fun z => Ending.returned (.int .i64 z)) HE.out)
              clear he
              clear m0 m1 m2 m3 m4 m5 m6
              replace HM := Lib.hid (HM.out.below hqc)
              replace HO0 := Lib.hid (HO0.out.below hqc)
              replace hc := Below.next hc hqc
              clear hqc c0_0 c0_1 c0_2 ycv0 ycv1 ycv2 ycv3
              obtain ⟨c0_0, c0_1, c0_2, ycv0, ycv1, ycv2, ycv3⟩ := HCC.out _ hc
              have HL1 : Hid True := trivial
              obtain ⟨RB, hRB⟩ : ∃ r, r = u_c.heap.size := ⟨_, rfl⟩
              have hRBc : W.heap.size ≤ u_c.heap.size := hc.size
              have m0 := HM.out.cell (i := 0) rfl
              have m1 := HM.out.cell (i := 1) rfl
              have m2 := HM.out.cell (i := 2) rfl
              have m3 := HM.out.cell (i := 3) rfl
              have m4 := HM.out.cell (i := 4) rfl
              have m5 := HM.out.cell (i := 5) rfl
              have m6 := HM.out.cell (i := 6) rfl
              have fzm := fun i => HM.out.frozen i
              have hsz := hc.size
              have hltm := HM.out.lt
              go_upto_region 8 with fail
              obtain ⟨Y_11, hY⟩ : ∃ Y, Y = (u_c.setCell ⟨XB, 5, none⟩ (.slice (some ⟨u_c.heap.size, 0, none⟩) 1 1)).alloc (.cells #[.int .i64 E] 3) := ⟨_, rfl⟩
              have NHM : Hid (BoxN Y_11 XB 104 [.int .i64 C.a, .int .i64 C.b, .int .i64 D.a, .int .i64 D.b, .slice xaHO0 2 xcHO0, .slice (some ⟨u_c.heap.size, 0, none⟩) 1 1, .slice none 0 0]) := by unfold Hid; rw [hY]; exact (HM.out.set 5 (.slice (some ⟨u_c.heap.size, 0, none⟩) 1 1)).alloc (.cells #[.int .i64 E] 3)
              have NHO0 : Hid (OwnI Y_11 W.heap.size (.slice xaHO0 2 xcHO0) [X0, X1]) := by unfold Hid; rw [hY]; exact (HO0.out.setC HM.out 5 (.slice (some ⟨u_c.heap.size, 0, none⟩) 1 1)).alloc (.cells #[.int .i64 E] 3)
              have NHO1 : Hid (OwnI Y_11 W.heap.size (.slice (some ⟨u_c.heap.size, 0, none⟩) 1 1) [E]) := by unfold Hid; rw [hY]; have h := OwnI.lit (u_c.setCell ⟨XB, 5, none⟩ (.slice (some ⟨u_c.heap.size, 0, none⟩) 1 1)) (B := W.heap.size) (by simpa using hc.size) (cs := #[.int .i64 E]) (l := [E]) (AllI64.cons iE AllI64.nil) rfl (by simp [maxLen]) 1 rfl; simpa using h
              have hcY : Below W.heap.size W Y_11 := by rw [hY]; exact (hc.setCell (p := ⟨XB, 5, none⟩) (by show W.heap.size ≤ XB; omega) (.slice (some ⟨u_c.heap.size, 0, none⟩) 1 1)).alloc (by simpa using hc.size) (.cells #[.int .i64 E] 3)
              rw [← hY]
              clear hY fzm hsz hltm HM HL1 HO0
              have HM := NHM
              clear NHM
              have HO0 := NHO0
              clear NHO0
              have HO1 := NHO1
              clear NHO1
              clear m0 m1 m2 m3 m4 m5 m6
              rw [← hRB] at HM HO1
              try rw [← hRB]
              rw [← hRB] at hRBc
              clear hRB
              clear hc c0_0 c0_1 c0_2 ycv0 ycv1 ycv2 ycv3
              have hc := hcY
              clear hcY
              obtain ⟨c0_0, c0_1, c0_2, ycv0, ycv1, ycv2, ycv3⟩ := HCC.out _ hc
              have hszr1 := hc.size
              have hszr := hc.size
              try (go_wp2_with fail)
              refine wp_region_noPanic ?_
              refine wp_region_P (fun w' => w'.cell? ⟨w.heap.size, 0, none⟩ = some (.int .i64 gr.p) ∧ w'.cell? ⟨w.heap.size, 1, none⟩ = some (.int .i64 gr.q) ∧ w'.cell? ⟨w.heap.size, 2, none⟩ = some (.int .i64 gr.g) ∧ w'.cell? ⟨cvb, cvo, none⟩ = some (.int .i64 (nth cs 0)) ∧ w'.cell? ⟨cvb, cvo + 1, none⟩ = some (.int .i64 (nth cs 1)) ∧ w'.cell? ⟨cvb, cvo + 2, none⟩ = some (.int .i64 (nth cs 2)) ∧ w'.cell? ⟨cvb, cvo + 3, none⟩ = some (.int .i64 (nth cs 3))) 20 [(0, []), (1, []), (2, []), (3, []), (4, [1, 0]), (5, [3, 0]), (6, [5, 0]), (7, []), (8, []), (9, []), (10, []), (11, [1, 0]), (12, [3, 0]), (13, [5, 0]), (14, [7, 0]), (15, []), (16, [0])] [17] (by kernel_rfl) (by kernel_rfl) (by kernel_rfl) rfl (fun _ _ _ _ h => h) (fun w' h => ⟨box_at c0_0 h, box_at c0_1 h, box_at c0_2 h, box_at ycv0 h, box_at ycv1 h, box_at ycv2 h, box_at ycv3 h⟩) ?_
              simp only [pickP, pickN, List.getElem?_cons_zero, List.getElem?_cons_succ]
              iterate 6 (refine' chainP_read _ rfl rfl (fun w' hS' => ?_) ?_; rotate_left; · (simp only [lookP, allP, Act.put, List.getElem?_cons_zero, List.getElem?_cons_succ, List.setIfInBounds_toArray, List.set_cons_zero, List.set_cons_succ]; (try dsimp only at hS'); go_simp; (try with_reducible rfl)))
              -- 6: call { callee := value (func 177), args := #[t101, t106], argTypes := #[39, 3] }
              refine chainP_call (d := (some 107)) (.int .i64 Z0) rfl rfl (fun w' hS' => ?_) ?_
              · simp only [lookP, allP, Act.put, List.getElem?_cons_zero, List.getElem?_cons_succ, List.setIfInBounds_toArray, List.set_cons_zero, List.set_cons_succ]
                intro K hK
                go_simp
                go_at_call 177
                refine (impl_exp gr (nth cs 2 + E * nth cs 0) _ HG.out HN1.out).mono ?_
                rintro e u ⟨rfl, hq⟩
                rw [HZ0.out]
                exact hK.out _ hq
              iterate 6 (refine' chainP_read _ rfl rfl (fun w' hS' => ?_) ?_; rotate_left; · (simp only [lookP, allP, Act.put, List.getElem?_cons_zero, List.getElem?_cons_succ, List.setIfInBounds_toArray, List.set_cons_zero, List.set_cons_succ]; (try dsimp only at hS'); go_simp; (try with_reducible rfl)))
              -- 13: call { callee := value (func 177), args := #[t108, t113], argTypes := #[39, 3] }
              refine chainP_call (d := (some 114)) (.int .i64 Z1) rfl rfl (fun w' hS' => ?_) ?_
              · simp only [lookP, allP, Act.put, List.getElem?_cons_zero, List.getElem?_cons_succ, List.setIfInBounds_toArray, List.set_cons_zero, List.set_cons_succ]
                intro K hK
                go_simp
                go_at_call 177
                refine (impl_exp gr (nth cs 3 + E * nth cs 1) _ HG.out HN2.out).mono ?_
                rintro e u ⟨rfl, hq⟩
                rw [HZ1.out]
                exact hK.out _ hq
              -- 14: buildSlice 24 2 #[(0, t107), (1, t114)]
              refine chainP_do (d := (some 115)) (fun v u => OwnI u Y_11.heap.size v [Z0, Z1]) (fun v w1 w2 hw h => OwnI.below h hw) rfl rfl (fun w' hS' => ?_) ?_
              · simp only [lookP, allP, Act.put, List.getElem?_cons_zero, List.getElem?_cons_succ, List.setIfInBounds_toArray, List.set_cons_zero, List.set_cons_succ]
                intro K hK
                go_simp
                have hsz0 := hS'.1.size
                refine hK.out _ _ ((Below.refl _ _).alloc (Nat.le_refl _) _) ?_
                exact OwnI.lit w' hsz0 (l := [Z0, Z1]) (AllI64.cons iZ0 (AllI64.cons iZ1 AllI64.nil)) rfl (by simp [maxLen]) 2 rfl
              iterate 2 (refine' chainP_read _ rfl rfl (fun w' hS' => ?_) ?_; rotate_left; · (simp only [lookP, allP, Act.put, List.getElem?_cons_zero, List.getElem?_cons_succ, List.setIfInBounds_toArray, List.set_cons_zero, List.set_cons_succ]; (try dsimp only at hS'); go_simp; (try with_reducible rfl)))
              refine chainP_nil (fun u12 hS' => ?_)
              simp only [allP, Act.put, List.setIfInBounds_toArray, List.set_cons_zero, List.set_cons_succ]
              intro x14 hx14
              have hq12 := hS'.1
              clear hS'
              replace HM := Lib.hid (HM.out.below hq12)
              replace HO0 := Lib.hid (HO0.out.below hq12)
              replace HO1 := Lib.hid (HO1.out.below hq12)
              replace hc := Below.next hc hq12
              clear hq12 c0_0 c0_1 c0_2 ycv0 ycv1 ycv2 ycv3
              obtain ⟨c0_0, c0_1, c0_2, ycv0, ycv1, ycv2, ycv3⟩ := HCC.out _ hc
              have hwrHO2 : W.heap.size ≤ Y_11.heap.size := hszr1
              clear hszr1
              obtain ⟨xaHO2, xcHO2, rfl⟩ := OwnI.shapeN (n := 2) hx14 rfl
              have HO2 := Lib.hid (hx14.mono hwrHO2)
              clear hx14 hwrHO2
              have m0 := HM.out.cell (i := 0) rfl
              have m1 := HM.out.cell (i := 1) rfl
              have m2 := HM.out.cell (i := 2) rfl
              have m3 := HM.out.cell (i := 3) rfl
              have m4 := HM.out.cell (i := 4) rfl
              have m5 := HM.out.cell (i := 5) rfl
              have m6 := HM.out.cell (i := 6) rfl
              have fzm := fun i => HM.out.frozen i
              have hsz := hc.size
              go_wp2_with fail
              refine NoPanic.normal ?_
              obtain ⟨Y_13, hY⟩ : ∃ Y, Y = u12.setCell ⟨XB, 6, none⟩ (.slice xaHO2 2 xcHO2) := ⟨_, rfl⟩
              have NHM : Hid (BoxN Y_13 XB 104 [.int .i64 C.a, .int .i64 C.b, .int .i64 D.a, .int .i64 D.b, .slice xaHO0 2 xcHO0, .slice (some ⟨RB, 0, none⟩) 1 1, .slice xaHO2 2 xcHO2]) := by unfold Hid; rw [hY]; exact (HM.out.set 6 (.slice xaHO2 2 xcHO2))
              have NHO0 : Hid (OwnI Y_13 W.heap.size (.slice xaHO0 2 xcHO0) [X0, X1]) := by unfold Hid; rw [hY]; exact (HO0.out.setC HM.out 6 (.slice xaHO2 2 xcHO2))
              have NHO1 : Hid (OwnI Y_13 W.heap.size (.slice (some ⟨RB, 0, none⟩) 1 1) [E]) := by unfold Hid; rw [hY]; exact (HO1.out.setC HM.out 6 (.slice xaHO2 2 xcHO2))
              have NHO2 : Hid (OwnI Y_13 W.heap.size (.slice xaHO2 2 xcHO2) [Z0, Z1]) := by unfold Hid; rw [hY]; exact (HO2.out.setC HM.out 6 (.slice xaHO2 2 xcHO2))
              have hcY : Below W.heap.size W Y_13 := by rw [hY]; exact (hc.setCell (p := ⟨XB, 6, none⟩) (by show W.heap.size ≤ XB; omega) (.slice xaHO2 2 xcHO2))
              rw [← hY]
              clear hY fzm hsz HM HO0 HO1 HO2
              have HM := NHM
              clear NHM
              have HO0 := NHO0
              clear NHO0
              have HO1 := NHO1
              clear NHO1
              have HO2 := NHO2
              clear NHO2
              clear m0 m1 m2 m3 m4 m5 m6
              clear hc c0_0 c0_1 c0_2 ycv0 ycv1 ycv2 ycv3
              have hc := hcY
              clear hcY
              obtain ⟨c0_0, c0_1, c0_2, ycv0, ycv1, ycv2, ycv3⟩ := HCC.out _ hc
              have m0 := HM.out.cell (i := 0) rfl
              have m1 := HM.out.cell (i := 1) rfl
              have m2 := HM.out.cell (i := 2) rfl
              have m3 := HM.out.cell (i := 3) rfl
              have m4 := HM.out.cell (i := 4) rfl
              have m5 := HM.out.cell (i := 5) rfl
              have m6 := HM.out.cell (i := 6) rfl
              have HRE1 := Lib.hid (HR1.out.below hc)
              clear HR1
              have HBE := Lib.hid (HB.out.trans (hc.mono HB.out.size))
              have r1_0 := HRE1.out.cell (i := 0) rfl
              have r1_1 := HRE1.out.cell (i := 1) rfl
              have r1_2 := HRE1.out.cell (i := 2) rfl
              have r1_3 := HRE1.out.cell (i := 3) rfl
              have r1_4 := HRE1.out.cell (i := 4) rfl
              have r1_5 := HRE1.out.cell (i := 5) rfl
              have r1_6 := HRE1.out.cell (i := 6) rfl
              have fr1 := fun j => HRE1.out.frozen j
              go_wp2_with fail
              have HRF := Lib.hid (((((((HRE1.out.set 0 (.int .i64 C.a)).set 1 (.int .i64 C.b)).set 2 (.int .i64 D.a)).set 3 (.int .i64 D.b)).set 4 (.slice xaHO0 2 xcHO0)).set 5 (.slice (some ⟨RB, 0, none⟩) 1 1)).set 6 (.slice xaHO2 2 xcHO2))
              have HBF := Lib.hid (((((((HBE.out.setCell (p := ⟨w.heap.size + 1, 0, none⟩) (by show w.heap.size ≤ w.heap.size + 1; omega) (.int .i64 C.a)).setCell (p := ⟨w.heap.size + 1, 1, none⟩) (by show w.heap.size ≤ w.heap.size + 1; omega) (.int .i64 C.b)).setCell (p := ⟨w.heap.size + 1, 2, none⟩) (by show w.heap.size ≤ w.heap.size + 1; omega) (.int .i64 D.a)).setCell (p := ⟨w.heap.size + 1, 3, none⟩) (by show w.heap.size ≤ w.heap.size + 1; omega) (.int .i64 D.b)).setCell (p := ⟨w.heap.size + 1, 4, none⟩) (by show w.heap.size ≤ w.heap.size + 1; omega) (.slice xaHO0 2 xcHO0)).setCell (p := ⟨w.heap.size + 1, 5, none⟩) (by show w.heap.size ≤ w.heap.size + 1; omega) (.slice (some ⟨RB, 0, none⟩) 1 1)).setCell (p := ⟨w.heap.size + 1, 6, none⟩) (by show w.heap.size ≤ w.heap.size + 1; omega) (.slice xaHO2 2 xcHO2))
              clear r1_0 r1_1 r1_2 r1_3 r1_4 r1_5 r1_6 fr1
              have r1_0 := HRF.out.cell (i := 0) rfl
              have r1_1 := HRF.out.cell (i := 1) rfl
              have r1_2 := HRF.out.cell (i := 2) rfl
              have r1_3 := HRF.out.cell (i := 3) rfl
              have r1_4 := HRF.out.cell (i := 4) rfl
              have r1_5 := HRF.out.cell (i := 5) rfl
              have r1_6 := HRF.out.cell (i := 6) rfl
              try (go_wp2_with fail)
              have HVB : Hid (caB gr key cred vote cs = true) := by unfold Hid; simp [caB, Hhc1.out, Hhc2.out, Hhc3.out, Hhc4.out, hc5, Hhc6.out, HL2.out]
              have HPR : Hid (caR gr sCast key cred vote cs = ⟨C, D, ⟨[X0, X1], [E], [Z0, Z1]⟩⟩) := by unfold Hid caR; rw [if_pos HVB.out]; exact HBD.out
              refine bodyPost_ret (v := .tuple #[.agg #[.int .i64 C.a, .int .i64 C.b, .int .i64 D.a, .int .i64 D.b, .slice xaHO0 2 xcHO0, .slice (some ⟨RB, 0, none⟩) 1 1, .slice xaHO2 2 xcHO2], .bool true]) (by simp [results, Try.results70, go_sem, r1_0, r1_1, r1_2, r1_3, r1_4, r1_5, r1_6]) rfl ⟨(by rw [HVB.out, HPR.out]; exact RetC.mk (x := ⟨C, D, ⟨[X0, X1], [E], [Z0, Z1]⟩⟩) HII.out ((((((((HO0.out.oth (b := w.heap.size + 1) (by omega) 0 (.int .i64 C.a)).oth (b := w.heap.size + 1) (by omega) 1 (.int .i64 C.b)).oth (b := w.heap.size + 1) (by omega) 2 (.int .i64 D.a)).oth (b := w.heap.size + 1) (by omega) 3 (.int .i64 D.b)).oth (b := w.heap.size + 1) (by omega) 4 (.slice xaHO0 2 xcHO0)).oth (b := w.heap.size + 1) (by omega) 5 (.slice (some ⟨RB, 0, none⟩) 1 1)).oth (b := w.heap.size + 1) (by omega) 6 (.slice xaHO2 2 xcHO2)).mono (by omega)) ((((((((HO1.out.oth (b := w.heap.size + 1) (by omega) 0 (.int .i64 C.a)).oth (b := w.heap.size + 1) (by omega) 1 (.int .i64 C.b)).oth (b := w.heap.size + 1) (by omega) 2 (.int .i64 D.a)).oth (b := w.heap.size + 1) (by omega) 3 (.int .i64 D.b)).oth (b := w.heap.size + 1) (by omega) 4 (.slice xaHO0 2 xcHO0)).oth (b := w.heap.size + 1) (by omega) 5 (.slice (some ⟨RB, 0, none⟩) 1 1)).oth (b := w.heap.size + 1) (by omega) 6 (.slice xaHO2 2 xcHO2)).mono (by omega)) ((((((((HO2.out.oth (b := w.heap.size + 1) (by omega) 0 (.int .i64 C.a)).oth (b := w.heap.size + 1) (by omega) 1 (.int .i64 C.b)).oth (b := w.heap.size + 1) (by omega) 2 (.int .i64 D.a)).oth (b := w.heap.size + 1) (by omega) 3 (.int .i64 D.b)).oth (b := w.heap.size + 1) (by omega) 4 (.slice xaHO0 2 xcHO0)).oth (b := w.heap.size + 1) (by omega) 5 (.slice (some ⟨RB, 0, none⟩) 1 1)).oth (b := w.heap.size + 1) (by omega) 6 (.slice xaHO2 2 xcHO2)).mono (by omega))), HBF.out⟩
          | true =>
            have HL2 : Hid (decide (cs.length = 4) = false) := by have q := hc5; rw [bne_iff_ne] at q; exact decide_eq_false (by have := Ecv.out; omega)
            have HRE1 := Lib.hid (HR1.out.below hc)
            clear HR1
            have HBE := Lib.hid (HB.out.trans (hc.mono HB.out.size))
            have r1_0 := HRE1.out.cell (i := 0) rfl
            have r1_1 := HRE1.out.cell (i := 1) rfl
            have r1_2 := HRE1.out.cell (i := 2) rfl
            have r1_3 := HRE1.out.cell (i := 3) rfl
            have r1_4 := HRE1.out.cell (i := 4) rfl
            have r1_5 := HRE1.out.cell (i := 5) rfl
            have r1_6 := HRE1.out.cell (i := 6) rfl
            have fr1 := fun j => HRE1.out.frozen j
            go_wp2_with fail
            have HRF := Lib.hid (((((((HRE1.out.set 0 (.int .i64 0)).set 1 (.int .i64 0)).set 2 (.int .i64 0)).set 3 (.int .i64 0)).set 4 ((.slice none 0 0))).set 5 ((.slice none 0 0))).set 6 ((.slice none 0 0)))
            have HBF := Lib.hid (((((((HBE.out.setCell (p := ⟨w.heap.size + 1, 0, none⟩) (by show w.heap.size ≤ w.heap.size + 1; omega) (.int .i64 0)).setCell (p := ⟨w.heap.size + 1, 1, none⟩) (by show w.heap.size ≤ w.heap.size + 1; omega) (.int .i64 0)).setCell (p := ⟨w.heap.size + 1, 2, none⟩) (by show w.heap.size ≤ w.heap.size + 1; omega) (.int .i64 0)).setCell (p := ⟨w.heap.size + 1, 3, none⟩) (by show w.heap.size ≤ w.heap.size + 1; omega) (.int .i64 0)).setCell (p := ⟨w.heap.size + 1, 4, none⟩) (by show w.heap.size ≤ w.heap.size + 1; omega) ((.slice none 0 0))).setCell (p := ⟨w.heap.size + 1, 5, none⟩) (by show w.heap.size ≤ w.heap.size + 1; omega) ((.slice none 0 0))).setCell (p := ⟨w.heap.size + 1, 6, none⟩) (by show w.heap.size ≤ w.heap.size + 1; omega) ((.slice none 0 0)))
            clear r1_0 r1_1 r1_2 r1_3 r1_4 r1_5 r1_6 fr1
            have r1_0 := HRF.out.cell (i := 0) rfl
            have r1_1 := HRF.out.cell (i := 1) rfl
            have r1_2 := HRF.out.cell (i := 2) rfl
            have r1_3 := HRF.out.cell (i := 3) rfl
            have r1_4 := HRF.out.cell (i := 4) rfl
            have r1_5 := HRF.out.cell (i := 5) rfl
            have r1_6 := HRF.out.cell (i := 6) rfl
            try (go_wp2_with fail)
            have HVB : Hid (caB gr key cred vote cs = false) := by unfold Hid; simp [caB, Hhc1.out, Hhc2.out, Hhc3.out, Hhc4.out, hc5, HL2.out]
            have HPR : Hid (caR gr sCast key cred vote cs = ⟨⟨0, 0⟩, ⟨0, 0⟩, ⟨[], [], []⟩⟩) := by unfold Hid caR; rw [if_neg (by rw [HVB.out]; simp)]
            refine bodyPost_ret (v := .tuple #[.agg #[.int .i64 0, .int .i64 0, .int .i64 0, .int .i64 0, (.slice none 0 0), (.slice none 0 0), (.slice none 0 0)], .bool false]) (by simp [results, Try.results70, go_sem, r1_0, r1_1, r1_2, r1_3, r1_4, r1_5, r1_6]) rfl ⟨(by rw [HVB.out, HPR.out]; exact RetC.mk (x := ⟨⟨0, 0⟩, ⟨0, 0⟩, ⟨[], [], []⟩⟩) ⟨⟨⟨by decide, by decide⟩, ⟨by decide, by decide⟩⟩, ⟨⟨by decide, by decide⟩, ⟨by decide, by decide⟩⟩⟩ (OwnI.nil _ _) (OwnI.nil _ _) (OwnI.nil _ _)), HBF.out⟩
end Go.Proofs.Ytboahnklilmdpaa
