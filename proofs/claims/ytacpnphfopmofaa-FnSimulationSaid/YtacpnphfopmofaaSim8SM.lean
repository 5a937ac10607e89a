/- The real transcripts, the reference's (printed by gen_sim4.py). -/
import Derived.Test.YtacpnphfopmofaaRegVSM
import Derived.Test.YtacpnphfopmofaaSim2SM
import Derived.Test.YtacpnphfopmofaaSim1SM
import Derived.Deep.Cut
import Derived.Sort.Grow
import Derived.Deep.Draws
import Derived.Test.YtacpnphfopmofaaPow2SM
import Derived.Test.YtacpnphfopmofaaProg
import Derived.Shelf.SlSortCmp.NoneTotal
namespace Go.Proofs.Ytacpnphfopmofaa
open Go.RowKit
set_option linter.unusedSimpArgs false
set_option linter.unusedVariables false

noncomputable def rlB (gr : GroupD) (b x : Int) : Bool := cntB gr && (elB gr b && expB gr x)
noncomputable def rlL (gr : GroupD) (b x : Int) : List TrD := if rlB gr b x = true then trS (rtL gr b x gr.q.toNat gr.q.toNat) else []
set_option maxRecDepth 100000 in
set_option maxHeartbeats 4000000 in
theorem spec_RealTranscripts (gr : GroupD) (b x : Int) (w : World) (hb : I64 b) (hx : I64 x) :
    Calls Try.prog 9 #[.agg #[.int .i64 gr.p, .int .i64 gr.q, .int .i64 gr.g], .int .i64 b, .int .i64 x] w fun e w' => (∃ v', e = .returned (.tuple #[v', .bool (rlB gr b x)]) ∧ OwnT w' w.heap.size v' (rlL gr b x)) ∧ Below w.heap.size w w' := by
  have HB6 := Lib.hid hb
  have HX6 := Lib.hid hx
  clear hb hx
  obtain ⟨W, hW⟩ : ∃ W, W = w.alloc (.cells #[.int .i64 gr.p, .int .i64 gr.q, .int .i64 gr.g] 24) := ⟨_, rfl⟩
  have HB : Hid (Below w.heap.size w W) := by unfold Hid; rw [hW]; (repeat (first | exact Below.refl _ _ | assumption | refine Below.drew ?_ | refine Below.alloc ?_ (by first | (simp; done) | (simp; omega)) _ | refine Below.setCell ?_ (by first | (simp; done) | (simp; omega)) _))
  have HGB : Hid (BoxN W w.heap.size 24 [.int .i64 gr.p, .int .i64 gr.q, .int .i64 gr.g]) := by unfold Hid; rw [hW]; exact BoxN.new w [.int .i64 gr.p, .int .i64 gr.q, .int .i64 gr.g] _
  have hsW : w.heap.size < W.heap.size := by rw [hW]; simp
  go_enter Try.func9, Try.ntmps9
  go_wp2_with fail
  rw [← hW]
  clear hW
  have g0 := HGB.out.cell (i := 0) rfl
  have g1 := HGB.out.cell (i := 1) rfl
  have g2 := HGB.out.cell (i := 2) rfl
  try (go_wp2_with fail)
  clear g0 g1 g2
  refine (spec_l2Good gr W).mono ?_
  rintro e w1 ⟨rfl, hb1⟩
  have hs1 := hb1.size
  have HB1 := Lib.hid (HB.out.trans (hb1.mono HB.out.size))
  have HG1 := Lib.hid (HGB.out.below hb1)
  clear hb1 HGB
  obtain ⟨q, hq⟩ : ∃ q, goodG gr = q := ⟨_, rfl⟩
  rw [hq]
  have HQ0 := Lib.hid hq
  clear hq
  cases q with
  | false =>
    have HN : Hid (rlB gr b x = false) := by unfold Hid rlB cntB; rw [HQ0.out, Bool.and_false]; rfl
    have HR : Hid (rlL gr b x = []) := by unfold Hid rlL; rw [HN.out]; rfl
    go_wp2_with fail
    go_ret2
    exact ⟨⟨_, by rw [HN.out]; rfl, by rw [HR.out]; exact OwnT.nil _ _⟩, HB1.out⟩
  | true =>
  by_cases hq23 : gr.q ≤ 23
  rotate_left
  · have HN : Hid (rlB gr b x = false) := by unfold Hid rlB cntB; rw [decide_eq_false hq23]; rfl
    have b23 : decide ((23 : Int) < gr.q) = true := decide_eq_true (by omega)
    have g1 := HG1.out.cell (i := 1) rfl
    have HR : Hid (rlL gr b x = []) := by unfold Hid rlL; rw [HN.out]; rfl
    go_wp2_with fail
    go_ret2
    exact ⟨⟨_, by rw [HN.out]; rfl, by rw [HR.out]; exact OwnT.nil _ _⟩, HB1.out⟩
  have b23 : decide ((23 : Int) < gr.q) = false := decide_eq_false (by omega)
  have HQ : Hid (cntB gr = true) := by unfold Hid cntB; rw [HQ0.out, decide_eq_true hq23]; rfl
  have HCN := Lib.hid (cntB_parts HQ.out)
  have HG : Hid (OkG gr) := HCN.out.2
  obtain ⟨w2, hw2⟩ : ∃ V, V = w1.alloc (.cells #[.int .i64 b] 3) := ⟨_, rfl⟩
  have hb2 : Below w1.heap.size w1 w2 := by rw [hw2]; exact (Below.refl _ _).alloc (Nat.le_refl _) _
  have HL2 : Hid (Ints w2 (.slice (some ⟨w1.heap.size, 0, none⟩) 1 1) [b]) := by unfold Hid; rw [hw2]; exact Ints.lit1 w1 HB6.out
  have HG2 := Lib.hid (HG1.out.below hb2)
  have HB2 := Lib.hid (HB1.out.trans (hb2.mono HB1.out.size))
  have hs2 := hb2.size
  have g0 := HG1.out.cell (i := 0) rfl
  have g1 := HG1.out.cell (i := 1) rfl
  have g2 := HG1.out.cell (i := 2) rfl
  go_wp2_with fail
  rw [← hw2]
  clear hw2 hb2 g0 g1 g2 HG1
  refine (spec_gIs gr _ [b] w2 HG.out HL2.out).mono ?_
  rintro e w3 ⟨rfl, hb3⟩
  have hs3 := hb3.size
  have HB3 := Lib.hid (HB2.out.trans (hb3.mono HB2.out.size))
  have HG3 := Lib.hid (HG2.out.below hb3)
  clear hb3 HG2 HL2
  have HE1 : Hid ([b].all (elB gr) = elB gr b) := by unfold Hid; simp
  obtain ⟨q, hq⟩ : ∃ q, elB gr b = q := ⟨_, rfl⟩
  rw [HE1.out, hq]
  have HQ2 := Lib.hid hq
  clear hq
  cases q with
  | false =>
    have HN : Hid (rlB gr b x = false) := by unfold Hid rlB; rw [HQ.out, HQ2.out]; rfl
    have HR : Hid (rlL gr b x = []) := by unfold Hid rlL; rw [HN.out]; rfl
    go_wp2_with fail
    go_ret2
    exact ⟨⟨_, by rw [HN.out]; rfl, by rw [HR.out]; exact OwnT.nil _ _⟩, HB3.out⟩
  | true =>
  obtain ⟨w4, hw4⟩ : ∃ V, V = w3.alloc (.cells #[.int .i64 x] 3) := ⟨_, rfl⟩
  have hb4 : Below w3.heap.size w3 w4 := by rw [hw4]; exact (Below.refl _ _).alloc (Nat.le_refl _) _
  have HL4 : Hid (Ints w4 (.slice (some ⟨w3.heap.size, 0, none⟩) 1 1) [x]) := by unfold Hid; rw [hw4]; exact Ints.lit1 w3 HX6.out
  have HG4 := Lib.hid (HG3.out.below hb4)
  have HB4 := Lib.hid (HB3.out.trans (hb4.mono HB3.out.size))
  have hs4 := hb4.size
  have g0 := HG3.out.cell (i := 0) rfl
  have g1 := HG3.out.cell (i := 1) rfl
  have g2 := HG3.out.cell (i := 2) rfl
  go_wp2_with fail
  rw [← hw4]
  clear hw4 hb4 g0 g1 g2 HG3
  refine (spec_gExps gr _ [x] w4 HG.out HL4.out).mono ?_
  rintro e w6 ⟨rfl, hb6⟩
  have hs6 := hb6.size
  have HBA := Lib.hid (HB4.out.trans (hb6.mono HB4.out.size))
  have HGA := Lib.hid (HG4.out.below hb6)
  clear hb6 HG4 HL4
  have HE2 : Hid ([x].all (expB gr) = expB gr x) := by unfold Hid; simp
  obtain ⟨q, hq⟩ : ∃ q, expB gr x = q := ⟨_, rfl⟩
  rw [HE2.out, hq]
  have HQ3 := Lib.hid hq
  clear hq
  cases q with
  | false =>
    have HN : Hid (rlB gr b x = false) := by unfold Hid rlB; rw [HQ.out, HQ2.out, HQ3.out]; rfl
    have HR : Hid (rlL gr b x = []) := by unfold Hid rlL; rw [HN.out]; rfl
    go_wp2_with fail
    go_ret2
    exact ⟨⟨_, by rw [HN.out]; rfl, by rw [HR.out]; exact OwnT.nil _ _⟩, HBA.out⟩
  | true =>
  have HN : Hid (rlB gr b x = true) := by unfold Hid rlB; rw [HQ.out, HQ2.out, HQ3.out]; rfl
  obtain ⟨Q, hQ⟩ : ∃ Q : Nat, (Q : Int) = gr.q := ⟨gr.q.toNat, by have := HG.out.q1; omega⟩
  have HQQ := Lib.hid hQ
  have HR : Hid (rlL gr b x = trS (rtL gr b x Q Q)) := by unfold Hid rlL; rw [HN.out, if_pos rfl, ← HQQ.out]; simp
  have hQ23 : Q ≤ 23 := by have := HCN.out.1; omega
  have hQ2 : 2 ≤ Q := by have := HG.out.q1; omega
  have HXB : Hid (0 ≤ x ∧ x ≤ 22) := by have := expB_bd HQ3.out; unfold Hid; omega
  have HBS := Lib.hid (elB_small HG.out HQ2.out)
  clear hQ b23 hq23
  obtain ⟨x0, x1⟩ := HXB.out
  go_wp2_with fail
  go_loopg [8, 9] Q (fun gk ov iv wr => ∃ (n : Nat) (os : List TrD), n + gk = Q ∧ iv = .int .i64 (n : Int) ∧ Hid (OwnT wr w6.heap.size ov os) ∧ Hid (TrSorted os ∧ os.Perm (rtL gr b x Q n)) ∧ Hid (Below w6.heap.size w6 wr))
  case atStart => exact ⟨0, [], by omega, rfl, OwnT.nil _ _, ⟨List.Pairwise.nil, List.Perm.refl _⟩, Below.refl _ _⟩
  case round =>
    obtain ⟨n, os0, hng, rfl, HO0, HP0, HBr⟩ := hrel
    obtain ⟨wO, rfl⟩ : ∃ u, u = wr := ⟨_, rfl⟩
    obtain ⟨gO, rfl⟩ : ∃ u, u = gk := ⟨_, rfl⟩
    have HGr := Lib.hid (HGA.out.below HBr.out)
    have hsO := HBr.out.size
    have g1 := HGr.out.cell (i := 1) rfl
    by_cases hlt : n < Q
    · have b1 : decide ((n : Int) < gr.q) = true := decide_eq_true (by have := HQQ.out; omega)
      have hwn : IntKind.i64.wrap ((n : Int) + 1) = (n : Int) + 1 := IntWalk.i64_in _ (by omega)
      have hgO : Q - (n + 1) < gO := by omega
      have hgO2 : n + 1 + (Q - (n + 1)) = Q := by omega
      have HN6 : Hid (I64 (n : Int)) := ⟨by omega, by omega⟩
      obtain ⟨oa0, oc0, rfl⟩ := HO0.out.shape
      go_wp2_with fail
      clear g1
      go_loopg [8, 10] Q (fun gk ov iv wr => ∃ (k : Nat) (os : List TrD), k + gk = Q ∧ iv = .int .i64 (k : Int) ∧ Hid (OwnT wr w6.heap.size ov os) ∧ Hid (TrSorted os ∧ os.Perm (rtL gr b x Q n ++ rtR gr b x n k)) ∧ Hid (Below w6.heap.size w6 wr))
      case atStart => exact ⟨0, os0, by omega, rfl, HO0, ⟨HP0.out.1, by simpa [rtR] using HP0.out.2⟩, HBr⟩
      case round =>
        clear HO0 HP0 HBr HGr
        obtain ⟨k, os, hkg, rfl, HO, HPP, HBr⟩ := hrel
        have HGr := Lib.hid (HGA.out.below HBr.out)
        have hsr := HBr.out.size
        have g1 := HGr.out.cell (i := 1) rfl
        obtain ⟨oa, oc, rfl⟩ := HO.out.shape
        by_cases hlk : k < Q
        · have b2 : decide ((k : Int) < gr.q) = true := decide_eq_true (by have := HQQ.out; omega)
          have hwk : IntKind.i64.wrap ((k : Int) + 1) = (k : Int) + 1 := IntWalk.i64_in _ (by omega)
          have hgk : Q - (k + 1) < gk := by omega
          have hgk2 : k + 1 + (Q - (k + 1)) = Q := by omega
          have HLE : Hid (os.length ≤ 1000) := by
            unfold Hid
            rw [HPP.out.2.length_eq, List.length_append, rtL_len, rtR_len]
            have : n * Q ≤ 23 * 23 := Nat.mul_le_mul (by omega) hQ23
            omega
          obtain ⟨on, hon⟩ : ∃ z, os.length = z := ⟨_, rfl⟩
          have HON := Lib.hid hon
          rw [hon] at HO ⊢
          clear hon
          have m0 : 0 ≤ (k : Int) * x := Int.mul_nonneg (by omega) x0
          have m1 : (k : Int) * x ≤ 23 * 22 := Int.mul_le_mul (by omega) x1 x0 (by omega)
          have hq1 := HG.out.q1
          have etm : Int.tmod ((n : Int) + (k : Int) * x) gr.q = ((n : Int) + (k : Int) * x) % gr.q := Int.tmod_eq_emod_of_nonneg (by omega)
          have s0 : 0 ≤ ((n : Int) + (k : Int) * x) % gr.q := Int.emod_nonneg _ (by omega)
          have s1 : ((n : Int) + (k : Int) * x) % gr.q < gr.q := Int.emod_lt_of_pos _ (by omega)
          have hgq := HCN.out.1
          have ewa : IntKind.i64.wrap ((k : Int) * x) = (k : Int) * x := IntWalk.i64_in _ (by omega)
          have ewb : IntKind.i64.wrap ((n : Int) + (k : Int) * x) = (n : Int) + (k : Int) * x := IntWalk.i64_in _ (by omega)
          have ewc : IntKind.i64.wrap (((n : Int) + (k : Int) * x) % gr.q) = ((n : Int) + (k : Int) * x) % gr.q := IntWalk.i64_in _ (by omega)
          have hpz : ¬ gr.q = 0 := by omega
          have hpz2 : (gr.q == 0) = false := by rw [beq_eq_false_iff_ne]; omega
          obtain ⟨X, hX⟩ : ∃ z, powE gr b n = z := ⟨_, rfl⟩
          have HXE := Lib.hid hX
          clear hX
          go_upto_region 10 with fail
          have g0 := HGr.out.cell (i := 0) rfl
          have g2 := HGr.out.cell (i := 2) rfl
          refine wp_region_noPanic ?_
          refine wp_region_P (fun w' => w'.cell? ⟨w.heap.size, 0, none⟩ = some (.int .i64 gr.p) ∧ w'.cell? ⟨w.heap.size, 1, none⟩ = some (.int .i64 gr.q) ∧ w'.cell? ⟨w.heap.size, 2, none⟩ = some (.int .i64 gr.g)) 19 [(0, []), (1, []), (2, []), (3, []), (4, [2, 1, 0]), (5, []), (6, []), (7, []), (8, []), (9, [1, 0]), (10, [3, 0]), (11, []), (12, [0]), (13, [2, 0]), (14, [9, 8, 0])] [15, 16] (by kernel_rfl) (by kernel_rfl) (by kernel_rfl) rfl (fun _ _ _ _ h => h) (fun w' h => ⟨box_at g0 h, box_at g1 h, box_at g2 h⟩) ?_
          simp only [pickP, pickN, List.getElem?_cons_zero, List.getElem?_cons_succ]
          iterate 4 (refine' chainP_read _ rfl rfl (fun w' hS' => ?_) ?_; rotate_left; · (simp only [lookP, allP, Act.put, List.getElem?_cons_zero, List.getElem?_cons_succ, List.setIfInBounds_toArray, List.set_cons_zero, List.set_cons_succ]; (try dsimp only at hS'); go_simp; (try with_reducible rfl)))
          -- 4: call { callee := value (func 57), args := #[t46, t47, t48], argTypes := #[24, 3, 3] }
          refine chainP_call (d := (some 49)) (.int .i64 X) rfl rfl (fun w' hS' => ?_) ?_
          · simp only [lookP, allP, Act.put, List.getElem?_cons_zero, List.getElem?_cons_succ, List.setIfInBounds_toArray, List.set_cons_zero, List.set_cons_succ]
            intro K hK
            go_simp
            go_at_call 57
            refine (spec_gExp gr b n _ HG.out HBS.out HN6.out).mono ?_
            rintro e u ⟨rfl, hq⟩
            rw [HXE.out]
            exact hK.out _ hq
          iterate 10 (refine' chainP_read _ rfl rfl (fun w' hS' => ?_) ?_; rotate_left; · (simp only [lookP, allP, Act.put, List.getElem?_cons_zero, List.getElem?_cons_succ, List.setIfInBounds_toArray, List.set_cons_zero, List.set_cons_succ]; (try dsimp only at hS'); go_simp; (try with_reducible rfl)))
          refine chainP_nil (fun w5 hS' => ?_)
          simp only [allP, Act.put, List.setIfInBounds_toArray, List.set_cons_zero, List.set_cons_succ]
          have hb5 := hS'.1
          clear hS' g0 g1 g2
          have hs5 := hb5.size
          have HO5 := Lib.hid (HO.out.below hb5)
          have HB5 := Lib.hid (HBr.out.trans (hb5.mono hsr))
          clear hb5
          obtain ⟨Z, hZ⟩ : ∃ z, ((n : Int) + (k : Int) * x) % gr.q = z := ⟨_, rfl⟩
          have HZE := Lib.hid hZ
          rw [hZ]
          clear hZ
          go_wp2_with fail
          refine (spec_xPut (.slice oa on oc) os ⟨X, k, Z⟩ w6.heap.size w5 HO5.out (by omega) HLE.out).mono ?_
          rintro e w7 ⟨⟨v', i, rfl, hov, hin1, hin2⟩, hb7⟩
          have HOV := Lib.hid hov
          have HB7 := Lib.hid (HB5.out.trans hb7)
          have HSO : Hid (TrSorted (os.take i ++ (⟨X, k, Z⟩ : TrD) :: os.drop i) ∧ (os.take i ++ (⟨X, k, Z⟩ : TrD) :: os.drop i).Perm (rtL gr b x Q n ++ rtR gr b x n (k + 1))) := by
            refine ⟨ins_sorted HPP.out.1 hin1 hin2, (ins_perm os _ i).trans ?_⟩
            show (os ++ [(⟨X, k, Z⟩ : TrD)]).Perm (rtL gr b x Q n ++ (rtR gr b x n k ++ [(⟨powE gr b n, k, ((n : Int) + (k : Int) * x) % gr.q⟩ : TrD)]))
            rw [HXE.out, HZE.out, ← List.append_assoc]
            exact HPP.out.2.append_right _
          clear hov hb7 hin1 hin2
          go_wp2_with fail
          refine NoPanic.normal ?_
          (try (go_wp2_with fail))
          go_roundg (Q - (k + 1))
          case measure => exact hgk
          case rel => exact ⟨k + 1, _, hgk2, by go_num, HOV, HSO, HB7⟩
        · obtain rfl : Q = k := by omega
          have b2 : decide ((Q : Int) < gr.q) = false := decide_eq_false (by have := HQQ.out; omega)
          go_wp2_with fail
          go_roundg (Q - (n + 1))
          case measure => exact hgO
          case rel => exact ⟨n + 1, os, hgO2, by go_num, HO, HPP, HBr⟩
    · obtain rfl : Q = n := by omega
      have b1 : decide ((Q : Int) < gr.q) = false := decide_eq_false (by have := HQQ.out; omega)
      have HBF := Lib.hid (HBA.out.trans (HBr.out.mono HBA.out.size))
      have HOS : Hid (os0 = rlL gr b x) := by unfold Hid; rw [HR.out]; exact trS_unique HP0.out.2 HP0.out.1
      go_wp2_with fail
      go_ret2
      exact ⟨⟨_, by rw [HN.out]; rfl, by rw [← HOS.out]; exact HO0.out.mono (by omega)⟩, HBF.out⟩
end Go.Proofs.Ytacpnphfopmofaa
namespace Go.Proofs.Ytacpnphfopmofaa
open Go.RowKit
set_option linter.unusedSimpArgs false
set_option linter.unusedVariables false

/-- draws and new blocks, nothing else -/
def GrN (w w' : World) : Prop := ∃ q os, w' = Go.Sort.grow (w.drewN q) os
theorem GrN.refl (w : World) : GrN w w := ⟨0, #[], by show w = ({ w with heap := w.heap ++ #[] } : World); rw [Array.append_empty]⟩
theorem GrN.trans {a b c : World} (h : GrN a b) (k : GrN b c) : GrN a c := by
  obtain ⟨q, os, rfl⟩ := h
  obtain ⟨q', os', rfl⟩ := k
  refine ⟨q + q', os ++ os', ?_⟩
  unfold Go.Sort.grow World.drewN
  simp [Array.append_assoc, Nat.add_assoc]
theorem GrN.drew (w : World) : GrN w w.drew := ⟨1, #[], by show w.drew = ({ w.drew with heap := w.heap ++ #[] } : World); rw [Array.append_empty]; rfl⟩
theorem GrN.alloc (w : World) (o : Obj) : GrN w (w.alloc o) := ⟨0, #[o], by unfold Go.Sort.grow World.drewN World.alloc; simp⟩
theorem GrN.below {w w' : World} (h : GrN w w') : Below w.heap.size w w' := by
  obtain ⟨q, os, rfl⟩ := h
  refine ⟨rfl, rfl, rfl, ?_, fun k hk => ?_⟩
  · show w.heap.size ≤ (w.heap ++ os).size; simp
  · show (w.heap ++ os)[k]? = w.heap[k]?; rw [Array.getElem?_append_left hk]
theorem GrN.box {w w' : World} {b : Nat} {t : TypeId} {cs : List Value} (h : GrN w w') (hx : BoxN w b t cs) : BoxN w' b t cs := hx.below h.below
def orI (x y z : Int) : Int := if x = 0 then (if y = 0 then z else y) else x
theorem cmp_isNaN (x : Int) (w : World) : Calls Try.prog 185 #[.int .i64 x] w fun e w' => e = .returned (.bool false) ∧ w = w' := by
  have h : (x != x) = false := by simp
  go_enter Try.func185, Try.ntmps185
  go_wp2_with fail
  go_ret
  exact ⟨rfl, rfl⟩
set_option maxHeartbeats 1000000 in
theorem cmp_Compare (x y : Int) (w : World) : Calls Try.prog 138 #[.int .i64 x, .int .i64 y] w fun e w' => e = .returned (.int .i64 (cmpT x y)) ∧ w = w' := by
  have HR : Hid (cmpT x y = if x < y then -1 else if y < x then 1 else 0) := rfl
  rw [HR.out]
  by_cases h1 : x < y
  · rw [if_pos h1]
    have d1 : decide (x < y) = true := decide_eq_true h1
    clear h1
    go_enter Try.func138, Try.ntmps138
    go_wp2_with (first | (go_at_call 185; refine (cmp_isNaN _ _).mono ?_; rintro e u ⟨rfl, rfl⟩) | fail)
    go_ret
    exact ⟨rfl, rfl⟩
  · rw [if_neg h1]
    have d1 : decide (x < y) = false := decide_eq_false h1
    clear h1
    by_cases h2 : y < x
    · rw [if_pos h2]
      have d2 : decide (y < x) = true := decide_eq_true h2
      clear h2
      go_enter Try.func138, Try.ntmps138
      go_wp2_with (first | (go_at_call 185; refine (cmp_isNaN _ _).mono ?_; rintro e u ⟨rfl, rfl⟩) | fail)
      go_ret
      exact ⟨rfl, rfl⟩
    · rw [if_neg h2]
      have d2 : decide (y < x) = false := decide_eq_false h2
      clear h2
      go_enter Try.func138, Try.ntmps138
      go_wp2_with (first | (go_at_call 185; refine (cmp_isNaN _ _).mono ?_; rintro e u ⟨rfl, rfl⟩) | fail)
      go_ret
      exact ⟨rfl, rfl⟩
set_option maxRecDepth 100000 in
set_option maxHeartbeats 1000000 in
theorem cmp_Or3 (b : Nat) (x y z : Int) (w : World) (h : BoxN w b 3 [.int .i64 x, .int .i64 y, .int .i64 z]) : Calls Try.prog 137 #[.slice (some ⟨b, 0, none⟩) 3 3] w fun e w' => e = .returned (.int .i64 (orI x y z)) ∧ w = w' := by
  have H := Lib.hid h
  clear h
  have HR : Hid (orI x y z = if x = 0 then (if y = 0 then z else y) else x) := rfl
  obtain ⟨R, hR⟩ : ∃ r, orI x y z = r := ⟨_, rfl⟩
  rw [HR.out] at hR
  have HE : Hid (orI x y z = R) := by unfold Hid; rw [HR.out]; exact hR
  have HV := Lib.hid hR
  clear hR
  rw [HE.out]
  have w1 : IntKind.i64.wrap (0 + 1) = 1 := by decide
  have w2 : IntKind.i64.wrap (1 + 1) = 2 := by decide
  have w3 : IntKind.i64.wrap (2 + 1) = 3 := by decide
  go_enter Try.func137, Try.ntmps137
  go_wp2_with fail
  go_loopg [8] 3 (fun gk iv wr => ∃ k : Nat, k + gk = 3 ∧ iv = .int .i64 (k : Int) ∧ wr = w ∧ Hid (1 ≤ k → x = 0) ∧ Hid (2 ≤ k → y = 0) ∧ Hid (3 ≤ k → z = 0))
  case atStart => exact ⟨0, by omega, rfl, rfl, fun h => by omega, fun h => by omega, fun h => by omega⟩
  case round =>
    obtain ⟨k, hkg, rfl, rfl, P1, P2, P3⟩ := hrel
    have c0 := H.out.cell (i := 0) rfl
    have c1 := H.out.cell (i := 1) rfl
    have c2 := H.out.cell (i := 2) rfl
    rcases (by omega : k = 0 ∨ k = 1 ∨ k = 2 ∨ k = 3) with rfl | rfl | rfl | rfl
    · by_cases hz : x = 0
      · have t1 : (x != 0) = false := by rw [bne_eq_false_iff_eq]; exact hz
        have HZ := Lib.hid hz
        clear hz
        go_wp2_with fail
        go_roundg 2
        case measure => omega
        case rel => exact ⟨1, rfl, by go_num, rfl, fun _ => HZ.out, fun h => by omega, fun h => by omega⟩
      · have t1 : (x != 0) = true := by rw [bne_iff_ne]; exact hz
        have HX : Hid (x = R) := by unfold Hid; rw [← HV.out, if_neg hz]
        clear hz
        go_wp2_with fail
        go_ret
        exact ⟨by rw [← HX.out]; rfl, rfl⟩
    · by_cases hz : y = 0
      · have t1 : (y != 0) = false := by rw [bne_eq_false_iff_eq]; exact hz
        have HZ := Lib.hid hz
        clear hz
        go_wp2_with fail
        go_roundg 1
        case measure => omega
        case rel => exact ⟨2, rfl, by go_num, rfl, fun _ => P1.out (by omega), fun _ => HZ.out, fun h => by omega⟩
      · have t1 : (y != 0) = true := by rw [bne_iff_ne]; exact hz
        have HX : Hid (y = R) := by unfold Hid; rw [← HV.out, if_pos (P1.out (by omega)), if_neg hz]
        clear hz
        go_wp2_with fail
        go_ret
        exact ⟨by rw [← HX.out]; rfl, rfl⟩
    · by_cases hz : z = 0
      · have t1 : (z != 0) = false := by rw [bne_eq_false_iff_eq]; exact hz
        have HZ := Lib.hid hz
        clear hz
        go_wp2_with fail
        go_roundg 0
        case measure => omega
        case rel => exact ⟨3, rfl, by go_num, rfl, fun _ => P1.out (by omega), fun _ => P2.out (by omega), fun _ => HZ.out⟩
      · have t1 : (z != 0) = true := by rw [bne_iff_ne]; exact hz
        have HX : Hid (z = R) := by unfold Hid; rw [← HV.out, if_pos (P1.out (by omega)), if_pos (P2.out (by omega))]
        clear hz
        go_wp2_with fail
        go_ret
        exact ⟨by rw [← HX.out]; rfl, rfl⟩
    · have HX : Hid ((0 : Int) = R) := by unfold Hid; rw [← HV.out, if_pos (P1.out (by omega)), if_pos (P2.out (by omega))]; exact (P3.out (by omega)).symm
      go_wp2_with fail
      go_ret
      exact ⟨by rw [← HX.out]; rfl, rfl⟩
set_option maxRecDepth 100000 in
set_option maxHeartbeats 2000000 in
theorem impl_transcripts1 (a b : TrD) (w : World) :
    Calls Try.prog 136 #[.agg #[.int .i64 a.c, .int .i64 a.e, .int .i64 a.z], .agg #[.int .i64 b.c, .int .i64 b.e, .int .i64 b.z]] w fun e w' => e = .returned (.int .i64 (trF a b)) ∧ GrN w w' := by
  obtain ⟨SB, hSB⟩ : ∃ z, z = w.heap.size + 1 := ⟨_, rfl⟩
  obtain ⟨W, hW⟩ : ∃ W, W = (w.alloc (.cells #[.int .i64 a.c, .int .i64 a.e, .int .i64 a.z] 40)).alloc (.cells #[.int .i64 b.c, .int .i64 b.e, .int .i64 b.z] 40) := ⟨_, rfl⟩
  have HB : Hid (GrN w W) := by unfold Hid; rw [hW]; exact (GrN.alloc _ _).trans (GrN.alloc _ _)
  have HA : Hid (BoxN W w.heap.size 40 [.int .i64 a.c, .int .i64 a.e, .int .i64 a.z]) := by unfold Hid; rw [hW]; exact (BoxN.new w [.int .i64 a.c, .int .i64 a.e, .int .i64 a.z] _).alloc _
  have HBB : Hid (BoxN W SB 40 [.int .i64 b.c, .int .i64 b.e, .int .i64 b.z]) := by
    unfold Hid; rw [hW, hSB]
    have h9 := BoxN.new (w.alloc (.cells #[.int .i64 a.c, .int .i64 a.e, .int .i64 a.z] 40)) [.int .i64 b.c, .int .i64 b.e, .int .i64 b.z] 40
    rw [show (w.alloc (.cells #[.int .i64 a.c, .int .i64 a.e, .int .i64 a.z] 40)).heap.size = w.heap.size + 1 by simp] at h9
    exact h9
  obtain ⟨C0, hC0⟩ : ∃ z, cmpT a.c b.c = z := ⟨_, rfl⟩
  obtain ⟨C1, hC1⟩ : ∃ z, cmpT a.e b.e = z := ⟨_, rfl⟩
  obtain ⟨C2, hC2⟩ : ∃ z, cmpT a.z b.z = z := ⟨_, rfl⟩
  have HFE : Hid (orI C0 C1 C2 = trF a b) := by unfold Hid; rw [← hC0, ← hC1, ← hC2]; rfl
  have HC0 := Lib.hid hC0
  have HC1 := Lib.hid hC1
  have HC2 := Lib.hid hC2
  clear hC0 hC1 hC2
  go_enter Try.func136, Try.ntmps136
  go_upto_region 1 with fail
  rw [← hW]
  (try rw [← hSB])
  clear hW hSB
  have a0 := HA.out.cell (i := 0) rfl
  have a1 := HA.out.cell (i := 1) rfl
  have a2 := HA.out.cell (i := 2) rfl
  have b0 := HBB.out.cell (i := 0) rfl
  have b1 := HBB.out.cell (i := 1) rfl
  have b2 := HBB.out.cell (i := 2) rfl
  refine wp_region_noPanic ?_
  refine wp_region_Q GrN (fun _ w' => GrN W w' ∧ (w'.cell? ⟨w.heap.size, 0, none⟩ = some (.int .i64 a.c) ∧ w'.cell? ⟨w.heap.size, 1, none⟩ = some (.int .i64 a.e) ∧ w'.cell? ⟨w.heap.size, 2, none⟩ = some (.int .i64 a.z) ∧ w'.cell? ⟨SB, 0, none⟩ = some (.int .i64 b.c) ∧ w'.cell? ⟨SB, 1, none⟩ = some (.int .i64 b.e) ∧ w'.cell? ⟨SB, 2, none⟩ = some (.int .i64 b.z))) 20 [(0, []), (1, [0]), (2, []), (3, [0]), (4, [2, 0]), (5, []), (6, [0]), (7, []), (8, [0]), (9, [2, 0]), (10, []), (11, [0]), (12, []), (13, [0]), (14, [2, 0]), (15, [10, 5, 0]), (16, [0])] [17] (by kernel_rfl) (by kernel_rfl) (by kernel_rfl) rfl (fun _ _ _ _ h => h) ⟨GrN.refl, fun _ _ h => h⟩ ⟨GrN.drew W, ⟨a0, a1, a2, b0, b1, b2⟩⟩ ?_
  simp only [pickP, pickN, List.getElem?_cons_zero, List.getElem?_cons_succ]
  iterate 4 (refine' chainQ_read (⟨GrN.refl, fun _ _ h => h⟩ : GoodQ GrN _) _ rfl rfl (fun m w' hm' hS' => ?_) ?_; rotate_left; · (simp only [lookP, allP, Act.put, List.getElem?_cons_zero, List.getElem?_cons_succ, List.setIfInBounds_toArray, List.set_cons_zero, List.set_cons_succ]; (try dsimp only at hS'); go_simp; (try with_reducible rfl)))
  -- 4: call { callee := value (func 138), args := #[t6, t8], argTypes := #[3, 3] }
  refine chainQ_call (d := (some 9)) (.int .i64 C0) rfl rfl (fun m w' hm' hS' => ?_) ?_
  · simp only [lookP, allP, Act.put, List.getElem?_cons_zero, List.getElem?_cons_succ, List.setIfInBounds_toArray, List.set_cons_zero, List.set_cons_succ]
    intro K hK
    go_simp
    go_at_call 138
    refine (cmp_Compare a.c b.c _).mono ?_
    rintro e u ⟨rfl, rfl⟩
    rw [HC0.out]
    exact hK.out _ (GrN.refl _) hS'
  iterate 4 (refine' chainQ_read (⟨GrN.refl, fun _ _ h => h⟩ : GoodQ GrN _) _ rfl rfl (fun m w' hm' hS' => ?_) ?_; rotate_left; · (simp only [lookP, allP, Act.put, List.getElem?_cons_zero, List.getElem?_cons_succ, List.setIfInBounds_toArray, List.set_cons_zero, List.set_cons_succ]; (try dsimp only at hS'); go_simp; (try with_reducible rfl)))
  -- 9: call { callee := value (func 138), args := #[t11, t13], argTypes := #[3, 3] }
  refine chainQ_call (d := (some 14)) (.int .i64 C1) rfl rfl (fun m w' hm' hS' => ?_) ?_
  · simp only [lookP, allP, Act.put, List.getElem?_cons_zero, List.getElem?_cons_succ, List.setIfInBounds_toArray, List.set_cons_zero, List.set_cons_succ]
    intro K hK
    go_simp
    go_at_call 138
    refine (cmp_Compare a.e b.e _).mono ?_
    rintro e u ⟨rfl, rfl⟩
    rw [HC1.out]
    exact hK.out _ (GrN.refl _) hS'
  iterate 4 (refine' chainQ_read (⟨GrN.refl, fun _ _ h => h⟩ : GoodQ GrN _) _ rfl rfl (fun m w' hm' hS' => ?_) ?_; rotate_left; · (simp only [lookP, allP, Act.put, List.getElem?_cons_zero, List.getElem?_cons_succ, List.setIfInBounds_toArray, List.set_cons_zero, List.set_cons_succ]; (try dsimp only at hS'); go_simp; (try with_reducible rfl)))
  -- 14: call { callee := value (func 138), args := #[t16, t18], argTypes := #[3, 3] }
  refine chainQ_call (d := (some 19)) (.int .i64 C2) rfl rfl (fun m w' hm' hS' => ?_) ?_
  · simp only [lookP, allP, Act.put, List.getElem?_cons_zero, List.getElem?_cons_succ, List.setIfInBounds_toArray, List.set_cons_zero, List.set_cons_succ]
    intro K hK
    go_simp
    go_at_call 138
    refine (cmp_Compare a.z b.z _).mono ?_
    rintro e u ⟨rfl, rfl⟩
    rw [HC2.out]
    exact hK.out _ (GrN.refl _) hS'
  -- 15: buildSlice 42 3 #[(0, t9), (1, t14), (2, t19)]
  refine chainQ_do (d := (some 20)) (fun v z => ∃ b, v = .slice (some ⟨b, 0, none⟩) 3 3 ∧ BoxN z b 3 [.int .i64 C0, .int .i64 C1, .int .i64 C2]) (fun v w1 w2 hw h => by obtain ⟨b, e, h1⟩ := h; exact ⟨b, e, GrN.box hw h1⟩) rfl rfl (fun m w' hm' hS' => ?_) ?_
  · simp only [lookP, allP, Act.put, List.getElem?_cons_zero, List.getElem?_cons_succ, List.setIfInBounds_toArray, List.set_cons_zero, List.set_cons_succ]
    intro K hK
    go_simp
    refine hK.out _ _ (GrN.alloc _ _) ⟨hS'.1.trans (GrN.alloc _ _), (by obtain ⟨_, h0, h1, h2, h3, h4, h5⟩ := hS'; have hb := (GrN.alloc w' (.cells #[.int .i64 C0, .int .i64 C1, .int .i64 C2] 3)).below; exact ⟨box_at h0 hb, box_at h1 hb, box_at h2 hb, box_at h3 hb, box_at h4 hb, box_at h5 hb⟩)⟩ ⟨_, rfl, BoxN.new w' [.int .i64 C0, .int .i64 C1, .int .i64 C2] _⟩
  -- 16: call { callee := value (func 137), args := #[t20], argTypes := #[42] }
  refine chainQ_do (d := (some 21)) (fun v z => v = .int .i64 (trF a b)) (fun v w1 w2 hw h => h) rfl rfl (fun m w' hm' hS' => ?_) ?_
  · simp only [lookP, allP, Act.put, List.getElem?_cons_zero, List.getElem?_cons_succ, List.setIfInBounds_toArray, List.set_cons_zero, List.set_cons_succ]
    intro x15 hx15
    intro K hK
    obtain ⟨bb, rfl, hbb⟩ := hx15
    go_simp
    go_at_call 137
    refine (cmp_Or3 bb C0 C1 C2 _ hbb).mono ?_
    rintro e u ⟨rfl, rfl⟩
    rw [HFE.out]
    exact hK.out _ _ (GrN.refl _) hS' rfl
  refine chainQ_nil (fun u1 hS' => ?_)
  simp only [allP, Act.put, List.setIfInBounds_toArray, List.set_cons_zero, List.set_cons_succ]
  intro x16 hx16
  intro x15 hx15
  obtain ⟨hgr, -⟩ := hS'
  subst hx16
  obtain ⟨bb, rfl, -⟩ := hx15
  clear a0 a1 a2 b0 b1 b2
  go_wp2_with fail
  refine NoPanic.normal ?_
  (try (go_wp2_with fail))
  go_ret
  exact ⟨rfl, HB.out.trans hgr⟩
end Go.Proofs.Ytacpnphfopmofaa
namespace Go.Proofs.Ytacpnphfopmofaa
open Go.RowKit
set_option linter.unusedSimpArgs false
set_option linter.unusedVariables false

def gnR (f : Nat → Nat → TrD) (n : Nat) : Nat → List TrD
  | 0 => []
  | m + 1 => gnR f n m ++ [f n m]
def gnL (f : Nat → Nat → TrD) (Q : Nat) : Nat → List TrD
  | 0 => []
  | n + 1 => gnL f Q n ++ gnR f n Q
theorem gnR_len (f : Nat → Nat → TrD) (n m : Nat) : (gnR f n m).length = m := by
  induction m with
  | zero => rfl
  | succ m ih => unfold gnR; rw [List.length_append, ih]; rfl
theorem gnL_len (f : Nat → Nat → TrD) (Q n : Nat) : (gnL f Q n).length = n * Q := by
  induction n with
  | zero => simp [gnL]
  | succ n ih => unfold gnL; rw [List.length_append, ih, gnR_len, Nat.succ_mul]
theorem mem_gnR {f : Nat → Nat → TrD} {n : Nat} {t : TrD} : ∀ m, t ∈ gnR f n m ↔ ∃ j : Nat, j < m ∧ t = f n j := by
  intro m
  induction m with
  | zero => simp [gnR]
  | succ m ih =>
    unfold gnR
    rw [List.mem_append, ih, List.mem_singleton]
    constructor
    · rintro (⟨j, hj, e⟩ | e)
      · exact ⟨j, by omega, e⟩
      · exact ⟨m, by omega, e⟩
    · rintro ⟨j, hj, e⟩
      by_cases h : j = m
      · subst h; exact .inr e
      · exact .inl ⟨j, by omega, e⟩
theorem mem_gnL {f : Nat → Nat → TrD} {Q : Nat} {t : TrD} : ∀ n, t ∈ gnL f Q n ↔ ∃ i : Nat, i < n ∧ ∃ j : Nat, j < Q ∧ t = f i j := by
  intro n
  induction n with
  | zero => simp [gnL]
  | succ n ih =>
    unfold gnL
    rw [List.mem_append, ih, mem_gnR]
    constructor
    · rintro (⟨i, hi, e⟩ | e)
      · exact ⟨i, by omega, e⟩
      · exact ⟨n, by omega, e⟩
    · rintro ⟨i, hi, e⟩
      by_cases h : i = n
      · subst h; exact .inr e
      · exact .inl ⟨i, by omega, e⟩
def rtF (gr : GroupD) (b x : Int) (n m : Nat) : TrD := ⟨powE gr b n, m, ((n : Int) + (m : Int) * x) % gr.q⟩
def stF (gr : GroupD) (b y : Int) (c z : Nat) : TrD := ⟨smX gr b y c z, c, z⟩
theorem rtR_gn (gr : GroupD) (b x : Int) (n m : Nat) : rtR gr b x n m = gnR (rtF gr b x) n m := by
  induction m with
  | zero => rfl
  | succ m ih => unfold rtR gnR; rw [ih]; rfl
theorem rtL_gn (gr : GroupD) (b x : Int) (Q n : Nat) : rtL gr b x Q n = gnL (rtF gr b x) Q n := by
  induction n with
  | zero => rfl
  | succ n ih => unfold rtL gnL; rw [ih, rtR_gn]
/-- the simulated transcripts, challenge by challenge, sorted, are the real ones, sorted -/
theorem sim_same {gr : GroupD} (hg : OkG gr) {b x : Int} {Q : Nat} (hQ : (Q : Int) = gr.q) (hb : elB gr b = true) : trS (rtL gr b x Q Q) = trS (gnL (stF gr b (powE gr b x)) Q Q) := by
  refine trS_congr (perm_of_sub (rtL_nodup hg b x hQ Q (Nat.le_refl _)) (fun t ht => ?_) (by rw [rtL_len, gnL_len]; exact Nat.le_refl _))
  obtain ⟨i, hi, j, hj, e⟩ := (mem_stL Q).1 (real_sub hg hQ hb ht)
  exact (mem_gnL Q).2 ⟨j, hj, i, hi, e⟩
set_option maxRecDepth 100000 in
set_option maxHeartbeats 2000000 in
theorem impl_simulateT (gr : GroupD) (x y c z : Int) (w : World) (hg : OkG gr) (hx : elB gr x = true) (hy : elB gr y = true) (hc : Small c) (hz : Small z) :
    Calls Try.prog 70 #[.agg #[.int .i64 gr.p, .int .i64 gr.q, .int .i64 gr.g], .int .i64 x, .int .i64 y, .int .i64 c, .int .i64 z] w fun e w' => e = .returned (.agg #[.int .i64 (smX gr x y c z), .int .i64 c, .int .i64 z]) ∧ Below w.heap.size w w' := by
  have HG := Lib.hid hg
  have HXS := Lib.hid (elB_small hg hx)
  have HYS := Lib.hid (elB_small hg hy)
  have HX1 := Lib.hid (elB_small hg (elT_pow hg hx z))
  have HY1 := Lib.hid (elB_small hg (elT_pow hg hy (-c)))
  have HZ6 := Lib.hid (small_64 hz)
  obtain ⟨c0, c1⟩ := hc
  have HN6 : Hid (I64 (-c)) := ⟨by omega, by omega⟩
  have ewn : IntKind.i64.wrap (-c) = -c := IntWalk.i64_in _ (by omega)
  obtain ⟨X, hX⟩ : ∃ v, powE gr x z = v := ⟨_, rfl⟩
  obtain ⟨Y, hY⟩ : ∃ v, powE gr y (-c) = v := ⟨_, rfl⟩
  rw [hX] at HX1
  rw [hY] at HY1
  obtain ⟨M, hM⟩ : ∃ v, mulL gr [X, Y] = v := ⟨_, rfl⟩
  have HR : Hid (smX gr x y c z = M) := by unfold Hid smX; rw [hX, hY, hM]
  have HX := Lib.hid hX
  have HY := Lib.hid hY
  have HM := Lib.hid hM
  have HXY : Hid (AllSmall [X, Y]) := AllSmall.cons HX1.out (AllSmall.cons HY1.out (fun x hx => by cases hx))
  clear hX hY hM hg hx hy hz
  rw [HR.out]
  obtain ⟨TB, hTB⟩ : ∃ v, v = w.heap.size + 1 := ⟨_, rfl⟩
  obtain ⟨W, hW⟩ : ∃ W, W = (w.alloc (.cells #[.int .i64 gr.p, .int .i64 gr.q, .int .i64 gr.g] 24)).alloc (.cells #[.int .i64 0, .int .i64 0, .int .i64 0] 40) := ⟨_, rfl⟩
  have HB : Hid (Below w.heap.size w W) := by unfold Hid; rw [hW]; (repeat (first | exact Below.refl _ _ | assumption | refine Below.drew ?_ | refine Below.alloc ?_ (by first | (simp; done) | (simp; omega)) _ | refine Below.setCell ?_ (by first | (simp; done) | (simp; omega)) _))
  have HGB : Hid (BoxN W w.heap.size 24 [.int .i64 gr.p, .int .i64 gr.q, .int .i64 gr.g]) := by unfold Hid; rw [hW]; exact (BoxN.new w [.int .i64 gr.p, .int .i64 gr.q, .int .i64 gr.g] _).alloc _
  have HT : Hid (BoxN W TB 40 [.int .i64 0, .int .i64 0, .int .i64 0]) := by
    unfold Hid; rw [hW, hTB]
    have h9 := BoxN.new (w.alloc (.cells #[.int .i64 gr.p, .int .i64 gr.q, .int .i64 gr.g] 24)) [.int .i64 0, .int .i64 0, .int .i64 0] 40
    rw [show (w.alloc (.cells #[.int .i64 gr.p, .int .i64 gr.q, .int .i64 gr.g] 24)).heap.size = w.heap.size + 1 by simp] at h9
    exact h9
  have hTB1 : w.heap.size ≤ TB := by omega
  go_enter Try.func70, Try.ntmps70
  go_upto_region 1 with fail
  rw [← hW]
  (try rw [← hTB])
  clear hW hTB
  have g0 := HGB.out.cell (i := 0) rfl
  have g1 := HGB.out.cell (i := 1) rfl
  have g2 := HGB.out.cell (i := 2) rfl
  refine wp_region_noPanic ?_
  refine wp_region_P (fun w' => w'.cell? ⟨w.heap.size, 0, none⟩ = some (.int .i64 gr.p) ∧ w'.cell? ⟨w.heap.size, 1, none⟩ = some (.int .i64 gr.q) ∧ w'.cell? ⟨w.heap.size, 2, none⟩ = some (.int .i64 gr.g)) 18 [(0, []), (1, []), (2, []), (3, []), (4, [2, 1, 0]), (5, []), (6, []), (7, []), (8, [0]), (9, [3, 2, 0]), (10, [5, 0]), (11, [10, 0]), (12, []), (13, []), (14, [2, 1, 0])] [15] (by kernel_rfl) (by kernel_rfl) (by kernel_rfl) rfl (fun _ _ _ _ h => h) (fun w' h => ⟨box_at g0 h, box_at g1 h, box_at g2 h⟩) ?_
  simp only [pickP, pickN, List.getElem?_cons_zero, List.getElem?_cons_succ]
  iterate 4 (refine' chainP_read _ rfl rfl (fun w' hS' => ?_) ?_; rotate_left; · (simp only [lookP, allP, Act.put, List.getElem?_cons_zero, List.getElem?_cons_succ, List.setIfInBounds_toArray, List.set_cons_zero, List.set_cons_succ]; (try dsimp only at hS'); go_simp; (try with_reducible rfl)))
  -- 4: call { callee := value (func 51), args := #[t12, t13, t14], argTypes := #[24, 3, 3] }
  refine chainP_call (d := (some 15)) (.int .i64 X) rfl rfl (fun w' hS' => ?_) ?_
  · simp only [lookP, allP, Act.put, List.getElem?_cons_zero, List.getElem?_cons_succ, List.setIfInBounds_toArray, List.set_cons_zero, List.set_cons_succ]
    intro K hK
    go_simp
    go_at_call 51
    refine (impl_pow gr x z _ HG.out HXS.out HZ6.out).mono ?_
    rintro e u ⟨rfl, hq⟩
    rw [HX.out]
    exact hK.out _ hq
  iterate 4 (refine' chainP_read _ rfl rfl (fun w' hS' => ?_) ?_; rotate_left; · (simp only [lookP, allP, Act.put, List.getElem?_cons_zero, List.getElem?_cons_succ, List.setIfInBounds_toArray, List.set_cons_zero, List.set_cons_succ]; (try dsimp only at hS'); go_simp; (try with_reducible rfl)))
  -- 9: call { callee := value (func 51), args := #[t16, t17, t19], argTypes := #[24, 3, 3] }
  refine chainP_call (d := (some 20)) (.int .i64 Y) rfl rfl (fun w' hS' => ?_) ?_
  · simp only [lookP, allP, Act.put, List.getElem?_cons_zero, List.getElem?_cons_succ, List.setIfInBounds_toArray, List.set_cons_zero, List.set_cons_succ]
    intro K hK
    go_simp
    go_at_call 51
    refine (impl_pow gr y (-c) _ HG.out HYS.out HN6.out).mono ?_
    rintro e u ⟨rfl, hq⟩
    rw [HY.out]
    exact hK.out _ hq
  -- 10: buildSlice 42 2 #[(0, t15), (1, t20)]
  refine chainP_do (d := (some 21)) (fun v w => Ints w v [X, Y]) (fun v w w' hb h => Ints.below h hb) rfl rfl (fun w' hS' => ?_) ?_
  · simp only [lookP, allP, Act.put, List.getElem?_cons_zero, List.getElem?_cons_succ, List.setIfInBounds_toArray, List.set_cons_zero, List.set_cons_succ]
    intro K hK
    go_simp
    refine hK.out _ _ ((Below.refl _ _).alloc (Nat.le_refl _) _) ?_
    exact Ints.lit2 w' (small_64 HX1.out) (small_64 HY1.out)
  -- 11: call { callee := value (func 90), args := #[t11, t21], argTypes := #[24, 42] }
  refine chainP_call (d := (some 22)) (.int .i64 M) rfl rfl (fun w' hS' => ?_) ?_
  · simp only [lookP, allP, Act.put, List.getElem?_cons_zero, List.getElem?_cons_succ, List.setIfInBounds_toArray, List.set_cons_zero, List.set_cons_succ]
    intro x10 hx10
    intro K hK
    go_simp
    go_at_call 90
    refine (impl_mul gr _ [X, Y] _ HG.out hx10 HXY.out).mono ?_
    rintro e u ⟨rfl, hq⟩
    rw [HM.out]
    exact hK.out _ hq
  iterate 3 (refine' chainP_read _ rfl rfl (fun w' hS' => ?_) ?_; rotate_left; · (simp only [lookP, allP, Act.put, List.getElem?_cons_zero, List.getElem?_cons_succ, List.setIfInBounds_toArray, List.set_cons_zero, List.set_cons_succ]; (try dsimp only at hS'); go_simp; (try with_reducible rfl)))
  refine chainP_nil (fun u1 hS' => ?_)
  simp only [allP, Act.put, List.setIfInBounds_toArray, List.set_cons_zero, List.set_cons_succ]
  intro x10 hx10
  have hb1 := hS'.1
  clear hS' g0 g1 g2
  have hs1 := hb1.size
  have HB1 := Lib.hid (HB.out.trans (hb1.mono HB.out.size))
  have HT1 := Lib.hid (HT.out.below hb1)
  have r0 := HT1.out.cell (i := 0) rfl
  have r1 := HT1.out.cell (i := 1) rfl
  have r2 := HT1.out.cell (i := 2) rfl
  have fr := fun j => HT1.out.frozen j
  go_wp2_with fail
  refine NoPanic.normal ?_
  clear r0 r1 r2 fr
  have HT9 := Lib.hid (((HT1.out.set 0 (.int .i64 M)).set 1 (.int .i64 c)).set 2 (.int .i64 z))
  have x0 := HT9.out.cell (i := 0) rfl
  have x1 := HT9.out.cell (i := 1) rfl
  have x2 := HT9.out.cell (i := 2) rfl
  try (go_wp2_with fail)
  refine bodyPost_ret (v := .agg #[.int .i64 M, .int .i64 c, .int .i64 z]) (by simp [results, Try.results70, go_sem, x0, x1, x2]) rfl ⟨rfl, ((HB1.out.setCell (p := ⟨TB, 0, none⟩) hTB1 _).setCell (p := ⟨TB, 1, none⟩) hTB1 _).setCell (p := ⟨TB, 2, none⟩) hTB1 _⟩
set_option maxRecDepth 100000 in
set_option maxHeartbeats 2000000 in
theorem impl_real1 (gr : GroupD) (b x : Int) (n m GA BA XA : Nat) (w : World) (hg : OkG gr) (hb : elB gr b = true) (hx : 0 ≤ x ∧ x ≤ 22) (hn : n ≤ 23) (hm : m ≤ 23) (h1 : BoxN w GA 24 [.int .i64 gr.p, .int .i64 gr.q, .int .i64 gr.g]) (h2 : BoxN w BA 3 [.int .i64 b]) (h3 : BoxN w XA 3 [.int .i64 x]) :
    Calls Try.prog 50 #[.int .i64 (n : Int), .int .i64 (m : Int), .pointer (some ⟨GA, 0, none⟩), .pointer (some ⟨BA, 0, none⟩), .pointer (some ⟨XA, 0, none⟩)] w fun e w' => e = .returned (.agg #[.int .i64 (rtF gr b x n m).c, .int .i64 (rtF gr b x n m).e, .int .i64 (rtF gr b x n m).z]) ∧ Below w.heap.size w w' := by
  have HG := Lib.hid hg
  have HBS := Lib.hid (elB_small hg hb)
  obtain ⟨x0, x1⟩ := hx
  have HN6 : Hid (I64 (n : Int)) := ⟨by omega, by omega⟩
  have m0 : 0 ≤ (m : Int) * x := Int.mul_nonneg (by omega) x0
  have m1 : (m : Int) * x ≤ 23 * 22 := Int.mul_le_mul (by omega) x1 x0 (by omega)
  have HE6 : Hid (I64 ((n : Int) + (m : Int) * x)) := ⟨by omega, by omega⟩
  have ewa : IntKind.i64.wrap ((m : Int) * x) = (m : Int) * x := IntWalk.i64_in _ (by omega)
  have ewb : IntKind.i64.wrap ((n : Int) + (m : Int) * x) = (n : Int) + (m : Int) * x := IntWalk.i64_in _ (by omega)
  obtain ⟨X, hX⟩ : ∃ v, powE gr b n = v := ⟨_, rfl⟩
  obtain ⟨Z, hZ⟩ : ∃ v, ((n : Int) + (m : Int) * x) % gr.q = v := ⟨_, rfl⟩
  have HR : Hid (rtF gr b x n m = ⟨X, m, Z⟩) := by unfold Hid rtF; rw [hX, hZ]
  have HX := Lib.hid hX
  have HZ := Lib.hid hZ
  rw [HR.out]
  clear hX hZ hg hb
  obtain ⟨TB, hTB⟩ : ∃ v, v = w.heap.size := ⟨_, rfl⟩
  obtain ⟨W, hW⟩ : ∃ W, W = w.alloc (.cells #[.int .i64 0, .int .i64 0, .int .i64 0] 40) := ⟨_, rfl⟩
  have hbW : Below w.heap.size w W := by rw [hW]; exact (Below.refl _ _).alloc (Nat.le_refl _) _
  have HB := Lib.hid hbW
  have HT : Hid (BoxN W TB 40 [.int .i64 0, .int .i64 0, .int .i64 0]) := by unfold Hid; rw [hW, hTB]; exact BoxN.new w [.int .i64 0, .int .i64 0, .int .i64 0] _
  have hTB1 : w.heap.size ≤ TB := Nat.le_of_eq hTB.symm
  have H1 := Lib.hid (h1.below hbW)
  have H2 := Lib.hid (h2.below hbW)
  have H3 := Lib.hid (h3.below hbW)
  clear h1 h2 h3 hbW
  go_enter Try.func50, Try.ntmps50
  go_upto_region 1 with fail
  rw [← hW]
  (try rw [← hTB])
  clear hW hTB
  have g0 := H1.out.cell (i := 0) rfl
  have g1 := H1.out.cell (i := 1) rfl
  have g2 := H1.out.cell (i := 2) rfl
  have c0 := H2.out.cell (i := 0) rfl
  have d0 := H3.out.cell (i := 0) rfl
  refine wp_region_noPanic ?_
  refine wp_region_P (fun w' => w'.cell? ⟨GA, 0, none⟩ = some (.int .i64 gr.p) ∧ w'.cell? ⟨GA, 1, none⟩ = some (.int .i64 gr.q) ∧ w'.cell? ⟨GA, 2, none⟩ = some (.int .i64 gr.g) ∧ w'.cell? ⟨BA, 0, none⟩ = some (.int .i64 b) ∧ w'.cell? ⟨XA, 0, none⟩ = some (.int .i64 x)) 16 [(0, []), (1, []), (2, []), (3, [2, 1, 0]), (4, []), (5, []), (6, []), (7, []), (8, []), (9, [1, 0]), (10, [3, 0]), (11, [5, 0]), (12, [8, 7, 0])] [13] (by kernel_rfl) (by kernel_rfl) (by kernel_rfl) rfl (fun _ _ _ _ h => h) (fun w' h => ⟨box_at g0 h, box_at g1 h, box_at g2 h, box_at c0 h, box_at d0 h⟩) ?_
  simp only [pickP, pickN, List.getElem?_cons_zero, List.getElem?_cons_succ]
  iterate 3 (refine' chainP_read _ rfl rfl (fun w' hS' => ?_) ?_; rotate_left; · (simp only [lookP, allP, Act.put, List.getElem?_cons_zero, List.getElem?_cons_succ, List.setIfInBounds_toArray, List.set_cons_zero, List.set_cons_succ]; (try dsimp only at hS'); go_simp; (try with_reducible rfl)))
  -- 3: call { callee := value (func 51), args := #[t8, t9, t10], argTypes := #[24, 3, 3] }
  refine chainP_call (d := (some 11)) (.int .i64 X) rfl rfl (fun w' hS' => ?_) ?_
  · simp only [lookP, allP, Act.put, List.getElem?_cons_zero, List.getElem?_cons_succ, List.setIfInBounds_toArray, List.set_cons_zero, List.set_cons_succ]
    intro K hK
    go_simp
    go_at_call 51
    refine (impl_pow gr b n _ HG.out HBS.out HN6.out).mono ?_
    rintro e u ⟨rfl, hq⟩
    rw [HX.out]
    exact hK.out _ hq
  iterate 7 (refine' chainP_read _ rfl rfl (fun w' hS' => ?_) ?_; rotate_left; · (simp only [lookP, allP, Act.put, List.getElem?_cons_zero, List.getElem?_cons_succ, List.setIfInBounds_toArray, List.set_cons_zero, List.set_cons_succ]; (try dsimp only at hS'); go_simp; (try with_reducible rfl)))
  -- 11: call { callee := value (func 52), args := #[t13, t18], argTypes := #[24, 3] }
  refine chainP_call (d := (some 19)) (.int .i64 Z) rfl rfl (fun w' hS' => ?_) ?_
  · simp only [lookP, allP, Act.put, List.getElem?_cons_zero, List.getElem?_cons_succ, List.setIfInBounds_toArray, List.set_cons_zero, List.set_cons_succ]
    intro K hK
    go_simp
    go_at_call 52
    refine (impl_exp gr ((n : Int) + (m : Int) * x) _ HG.out HE6.out).mono ?_
    rintro e u ⟨rfl, hq⟩
    rw [HZ.out]
    exact hK.out _ hq
  -- 12: build 40 #[(0, t11), (1, t12), (2, t19)]
  refine' chainP_read (d := (some 20)) _ rfl rfl (fun w' hS' => ?_) ?_; rotate_left
  · simp only [lookP, allP, Act.put, List.getElem?_cons_zero, List.getElem?_cons_succ, List.setIfInBounds_toArray, List.set_cons_zero, List.set_cons_succ]
    (try dsimp only at hS')
    go_simp
    (try with_reducible rfl)
  refine chainP_nil (fun u1 hS' => ?_)
  simp only [allP, Act.put, List.setIfInBounds_toArray, List.set_cons_zero, List.set_cons_succ]
  have hb1 := hS'.1
  clear hS' g0 g1 g2 c0 d0
  have hs1 := hb1.size
  have HB1 := Lib.hid (HB.out.trans (hb1.mono HB.out.size))
  have HT1 := Lib.hid (HT.out.below hb1)
  have r0 := HT1.out.cell (i := 0) rfl
  have r1 := HT1.out.cell (i := 1) rfl
  have r2 := HT1.out.cell (i := 2) rfl
  have fr := fun j => HT1.out.frozen j
  go_wp2_with fail
  refine NoPanic.normal ?_
  clear r0 r1 r2 fr
  have HT9 := Lib.hid (((HT1.out.set 0 (.int .i64 X)).set 1 (.int .i64 (m : Int))).set 2 (.int .i64 Z))
  clear x0 x1
  have x0 := HT9.out.cell (i := 0) rfl
  have x1 := HT9.out.cell (i := 1) rfl
  have x2 := HT9.out.cell (i := 2) rfl
  try (go_wp2_with fail)
  refine bodyPost_ret (v := .agg #[.int .i64 X, .int .i64 (m : Int), .int .i64 Z]) (by simp [results, Try.results50, go_sem, x0, x1, x2]) rfl ⟨rfl, ((HB1.out.setCell (p := ⟨TB, 0, none⟩) hTB1 _).setCell (p := ⟨TB, 1, none⟩) hTB1 _).setCell (p := ⟨TB, 2, none⟩) hTB1 _⟩
end Go.Proofs.Ytacpnphfopmofaa
namespace Go.Proofs.Ytacpnphfopmofaa
open Go.RowKit
set_option linter.unusedSimpArgs false
set_option linter.unusedVariables false

set_option maxRecDepth 100000 in
set_option maxHeartbeats 2000000 in
theorem impl_sim1 (gr : GroupD) (b y : Int) (n m GA BA YA : Nat) (w : World) (hg : OkG gr) (hb : elB gr b = true) (hy : elB gr y = true) (hn : n ≤ 23) (hm : m ≤ 23) (h1 : BoxN w GA 24 [.int .i64 gr.p, .int .i64 gr.q, .int .i64 gr.g]) (h2 : BoxN w BA 3 [.int .i64 b]) (h3 : BoxN w YA 3 [.int .i64 y]) :
    Calls Try.prog 69 #[.int .i64 (n : Int), .int .i64 (m : Int), .pointer (some ⟨GA, 0, none⟩), .pointer (some ⟨BA, 0, none⟩), .pointer (some ⟨YA, 0, none⟩)] w fun e w' => e = .returned (.agg #[.int .i64 (stF gr b y n m).c, .int .i64 (stF gr b y n m).e, .int .i64 (stF gr b y n m).z]) ∧ Below w.heap.size w w' := by
  have HG := Lib.hid hg
  have HBE := Lib.hid hb
  have HYE := Lib.hid hy
  have HNS : Hid (Small (n : Int)) := ⟨by omega, by omega⟩
  have HMS : Hid (Small (m : Int)) := ⟨by omega, by omega⟩
  obtain ⟨X, hX⟩ : ∃ v, smX gr b y n m = v := ⟨_, rfl⟩
  have HR : Hid (stF gr b y n m = ⟨X, n, m⟩) := by unfold Hid stF; rw [hX]
  have HX := Lib.hid hX
  rw [HR.out]
  clear hX hg hb hy
  obtain ⟨TB, hTB⟩ : ∃ v, v = w.heap.size := ⟨_, rfl⟩
  obtain ⟨W, hW⟩ : ∃ W, W = w.alloc (.cells #[.int .i64 0, .int .i64 0, .int .i64 0] 40) := ⟨_, rfl⟩
  have hbW : Below w.heap.size w W := by rw [hW]; exact (Below.refl _ _).alloc (Nat.le_refl _) _
  have HB := Lib.hid hbW
  have HT : Hid (BoxN W TB 40 [.int .i64 0, .int .i64 0, .int .i64 0]) := by unfold Hid; rw [hW, hTB]; exact BoxN.new w [.int .i64 0, .int .i64 0, .int .i64 0] _
  have hTB1 : w.heap.size ≤ TB := Nat.le_of_eq hTB.symm
  have H1 := Lib.hid (h1.below hbW)
  have H2 := Lib.hid (h2.below hbW)
  have H3 := Lib.hid (h3.below hbW)
  clear h1 h2 h3 hbW
  go_enter Try.func69, Try.ntmps69
  go_upto_region 1 with fail
  rw [← hW]
  (try rw [← hTB])
  clear hW hTB
  have g0 := H1.out.cell (i := 0) rfl
  have g1 := H1.out.cell (i := 1) rfl
  have g2 := H1.out.cell (i := 2) rfl
  have c0 := H2.out.cell (i := 0) rfl
  have d0 := H3.out.cell (i := 0) rfl
  go_wp2_with fail
  clear g0 g1 g2 c0 d0
  refine (impl_simulateT gr b y n m W HG.out HBE.out HYE.out HNS.out HMS.out).mono ?_
  rintro e w1 ⟨rfl, hb1⟩
  rw [HX.out]
  have hs1 := hb1.size
  have HB1 := Lib.hid (HB.out.trans (hb1.mono HB.out.size))
  have HT1 := Lib.hid (HT.out.below hb1)
  clear hb1
  have r0 := HT1.out.cell (i := 0) rfl
  have r1 := HT1.out.cell (i := 1) rfl
  have r2 := HT1.out.cell (i := 2) rfl
  have fr := fun j => HT1.out.frozen j
  go_wp2_with fail
  clear r0 r1 r2 fr
  have HT9 := Lib.hid (((HT1.out.set 0 (.int .i64 X)).set 1 (.int .i64 (n : Int))).set 2 (.int .i64 (m : Int)))
  have x0 := HT9.out.cell (i := 0) rfl
  have x1 := HT9.out.cell (i := 1) rfl
  have x2 := HT9.out.cell (i := 2) rfl
  try (go_wp2_with fail)
  refine bodyPost_ret (v := .agg #[.int .i64 X, .int .i64 (n : Int), .int .i64 (m : Int)]) (by simp [results, Try.results69, go_sem, x0, x1, x2]) rfl ⟨rfl, ((HB1.out.setCell (p := ⟨TB, 0, none⟩) hTB1 _).setCell (p := ⟨TB, 1, none⟩) hTB1 _).setCell (p := ⟨TB, 2, none⟩) hTB1 _⟩
end Go.Proofs.Ytacpnphfopmofaa
namespace Go.Proofs.Ytacpnphfopmofaa
open Go.Shelf
def sortTr_ren : Go.Shelf.Ren := ⟨fun | 6 => 135 | 15 => 184 | 14 => 183 | 28 => 216 | 29 => 217 | 20 => 208 | 21 => 209 | 22 => 210 | 23 => 211 | 24 => 212 | 25 => 213 | 26 => 214 | 27 => 215 | 46 => 224 | 47 => 225 | 48 => 226 | 49 => 227 | 50 => 228 | 57 => 231 | n => n, fun | 22 => 27 | 24 => 40 | 25 => 152 | 3 => 3 | 39 => 179 | 0 => 0 | 53 => 204 | 55 => 83 | 4 => 4 | 46 => 198 | 45 => 197 | 50 => 34 | 5 => 5 | 9 => 9 | 66 => 211 | 70 => 215 | 76 => 217 | 77 => 102 | n => n, fun | n => n⟩
theorem sortTr : Go.Proofs.SlLaysF0.n6 Try.prog sortTr_ren := {
  mixed := by kernel_rfl
  f6 := ⟨Try.f135.name, by decide, Try.func135.trans (congrArg some (by kernel_rfl))⟩
  f14 := ⟨Try.f183.name, by decide, Try.func183.trans (congrArg some (by kernel_rfl))⟩
  f15 := Try.func184.trans (congrArg some (by kernel_rfl))
  f20 := ⟨Try.f208.name, by decide, Try.func208.trans (congrArg some (by kernel_rfl))⟩
  f21 := ⟨Try.f209.name, by decide, Try.func209.trans (congrArg some (by kernel_rfl))⟩
  f22 := ⟨Try.f210.name, by decide, Try.func210.trans (congrArg some (by kernel_rfl))⟩
  f23 := ⟨Try.f211.name, by decide, Try.func211.trans (congrArg some (by kernel_rfl))⟩
  f24 := ⟨Try.f212.name, by decide, Try.func212.trans (congrArg some (by kernel_rfl))⟩
  f25 := ⟨Try.f213.name, by decide, Try.func213.trans (congrArg some (by kernel_rfl))⟩
  f26 := ⟨Try.f214.name, by decide, Try.func214.trans (congrArg some (by kernel_rfl))⟩
  f27 := ⟨Try.f215.name, by decide, Try.func215.trans (congrArg some (by kernel_rfl))⟩
  f28 := Try.func216.trans (congrArg some (by kernel_rfl))
  f29 := Try.func217.trans (congrArg some (by kernel_rfl))
  f46 := ⟨Try.f224.name, by decide, Try.func224.trans (congrArg some (by kernel_rfl))⟩
  f47 := Try.func225.trans (congrArg some (by kernel_rfl))
  f48 := Try.func226.trans (congrArg some (by kernel_rfl))
  f49 := ⟨Try.f227.name, by decide, Try.func227.trans (congrArg some (by kernel_rfl))⟩
  f50 := ⟨Try.f228.name, by decide, Try.func228.trans (congrArg some (by kernel_rfl))⟩
  f57 := ⟨Try.f231.name, by decide, Try.func231.trans (congrArg some (by kernel_rfl))⟩
  t0 := Try.underlying0
  a0 := Try.isAgg0
  z0 := Try.sizeOf0
  v0 := Try.zeroValue0
  t3 := Try.underlying3
  a3 := Try.isAgg3
  z3 := Try.sizeOf3
  v3 := Try.zeroValue3
  t4 := Try.underlying4
  a4 := Try.isAgg4
  z4 := Try.sizeOf4
  v4 := Try.zeroValue4
  t5 := Try.underlying5
  a5 := Try.isAgg5
  z5 := Try.sizeOf5
  v5 := Try.zeroValue5
  t9 := Try.underlying9
  a9 := Try.isAgg9
  z9 := Try.sizeOf9
  v9 := Try.zeroValue9
  t22 := Try.underlying27
  a22 := Try.isAgg27
  z22 := Try.sizeOf27
  v22 := Try.zeroValue27
  t25 := Try.underlying152
  a25 := Try.isAgg152
  z25 := Try.sizeOf152
  v25 := Try.zeroValue152
  t39 := Try.underlying179
  a39 := Try.isAgg179
  z39 := Try.sizeOf179
  v39 := Try.zeroValue179
  t45 := Try.underlying197
  a45 := Try.isAgg197
  z45 := Try.sizeOf197
  v45 := Try.zeroValue197
  t46 := Try.underlying198
  a46 := Try.isAgg198
  z46 := Try.sizeOf198
  v46 := Try.zeroValue198
  t50 := Try.underlying34
  a50 := Try.isAgg34
  z50 := Try.sizeOf34
  v50 := Try.zeroValue34
  t53 := Try.underlying204
  a53 := Try.isAgg204
  z53 := Try.sizeOf204
  v53 := Try.zeroValue204
  t55 := Try.underlying83
  a55 := Try.isAgg83
  z55 := Try.sizeOf83
  v55 := Try.zeroValue83
  t66 := Try.underlying211
  a66 := Try.isAgg211
  z66 := Try.sizeOf211
  v66 := Try.zeroValue211
  t70 := Try.underlying215
  a70 := Try.isAgg215
  z70 := Try.sizeOf215
  v70 := Try.zeroValue215
  t76 := Try.underlying217
  a76 := Try.isAgg217
  z76 := Try.sizeOf217
  v76 := Try.zeroValue217
  t77 := Try.underlying102
  a77 := Try.isAgg102
  z77 := Try.sizeOf102
  v77 := Try.zeroValue102 }
end Go.Proofs.Ytacpnphfopmofaa
namespace Go.Proofs.Ytacpnphfopmofaa
open Go.Shelf Go.RowKit Go.Lib Go.Sort
set_option linter.unusedSimpArgs false
set_option linter.unusedVariables false

theorem tr_swo : SWO (ltOf trF) where
  irrefl x := tr_irrefl x
  trans x y z h1 h2 := tr_trans h1 h2
  ntrans x y z h1 h2 := tr_ntrans h1 h2
theorem heap_putT {w : World} {g n : Nat} {os : Array Obj} {cur : Array Value} {e : TypeId} {fr : Nat × Nat} (d : Array Value) (hb : w.heap[g]? = some (.cells cur e fr)) :
    (Go.Sort.grow (putRow id (Sort.ahead w n) g 0 d) os).heap[g]? = some (.cells (putCells id 0 d cur) e fr) := by
  have hg : g < w.heap.size := (Array.getElem?_eq_some_iff.1 hb).1
  rw [heap_grow_old _ _ (by simpa using hg)]
  simp [putRow, mapBlock, Sort.ahead, Array.getElem?_modify, hb, onCells]
theorem grownBy_putT {w : World} {g n : Nat} {os : Array Obj} (d : Array Value) : w.grownBy (Go.Sort.grow (putRow id (Sort.ahead w n) g 0 d) os) (some g) := by
  refine ⟨rfl, rfl, rfl, by simp, fun k hk hne => ?_⟩
  rw [heap_grow_old _ _ (by simpa using hk)]
  have : g ≠ k := fun e => hne (by rw [e])
  simp [putRow, mapBlock, Sort.ahead, Array.getElem?_modify, this]
theorem take_putT (cur d : Array Value) (h : d.size ≤ cur.size) : (putCells id 0 d cur).toList.take d.size = d.toList := by
  apply List.ext_getElem?
  intro j
  by_cases hj : j < d.size
  · rw [List.getElem?_take_of_lt hj, Array.getElem?_toList]
    simp [putCells, hj, show j < cur.size by omega]
  · rw [List.getElem?_take_eq_none (by omega), List.getElem?_eq_none (by simp; omega)]
theorem flatK_tr (l : List TrD) : (flatK trV 3 l.toArray).toList = (l.map trV).flatten := by
  have hl : ((l.map trV).flatten).length = l.length * 3 := by
    have := flat_len (trV_len l)
    rwa [List.length_map] at this
  apply List.ext_getElem?
  intro t
  by_cases ht : t < l.length * 3
  · have hk : t / 3 < l.length := by omega
    have e : ((l.map trV).flatten)[t]? = (trV l[t / 3])[t % 3]? := by
      have h1 := flat_get (trV_len l) (i := t / 3) (k := t % 3) (by omega)
      rw [show t / 3 * 3 + t % 3 = t by omega, List.getElem?_map, List.getElem?_eq_getElem hk] at h1
      exact h1
    have e2 : (flatK trV 3 l.toArray)[t]! = (trV l.toArray[t / 3]!)[t % 3]! := get_flatK trV 3 l.toArray t (by simpa using ht)
    have hs : t < (flatK trV 3 l.toArray).size := by simpa using ht
    rw [Array.getElem?_toList, Array.getElem?_eq_getElem hs, ← getElem!_pos (flatK trV 3 l.toArray) t hs, e2, e]
    have e3 : l.toArray[t / 3]! = l[t / 3] := by simp [hk]
    rw [e3]
    have h3 : t % 3 < (trV l[t / 3]).length := by show t % 3 < 3; omega
    rw [List.getElem?_eq_getElem h3, getElem!_pos (trV l[t / 3]) (t % 3) h3]
  · rw [List.getElem?_eq_none (by simp; omega), List.getElem?_eq_none (by omega)]
theorem flatK_at (l : List TrD) {j : Nat} (h : j < l.length * 3) : ((l.map trV).flatten)[j]? = some (flatK trV 3 l.toArray)[j]! := by
  have hs : j < (flatK trV 3 l.toArray).size := by simpa using h
  rw [← flatK_tr, Array.getElem?_toList, Array.getElem?_eq_getElem hs, ← getElem!_pos (flatK trV 3 l.toArray) j hs]
theorem OwnT.num {w : World} {B n c : Nat} {a : Option Addr} {l : List TrD} (h : OwnT w B (.slice a n c) l) : n = l.length := by
  obtain ⟨_, _, e⟩ := h.shape
  injection e
theorem OwnT.holds {w : World} {B b n c : Nat} {l : List TrD} (h : OwnT w B (.slice (some ⟨b, 0, none⟩) n c) l) : HoldsK trV 3 w b 0 l.toArray := by
  intro j hj
  have hj' : j < l.length * 3 := by simpa using hj
  have hn := h.num
  subst hn
  rw [Nat.zero_add]
  have h1 := World.ownsRow.cellAt h j (by have := flat_len (trV_len l); rw [List.length_map] at this; omega)
  exact ⟨by rw [h1, flatK_at l hj']; rfl, World.ownsRow.frozenAt h j⟩
theorem OwnT.sorted {w : World} {B b n c m : Nat} {os : Array Obj} {l l' : List TrD} (h : OwnT w B (.slice (some ⟨b, 0, none⟩) n c) l) (hl : l'.length = l.length) :
    OwnT (sortWorldK trV 3 w b 0 m l'.toArray os) B (.slice (some ⟨b, 0, none⟩) n c) l' := by
  have hfl := flat_len (trV_len l')
  rw [List.length_map] at hfl
  have hn := h.num
  subst hn
  obtain ⟨h0, h2⟩ := h
  rcases h2 with ⟨e, _⟩ | ⟨g, cap, cur, e, hB, hg, hnc, hcm, hcs, htake⟩
  · cases e
  · cases e
    unfold OwnT
    rw [hl]
    refine ⟨by rw [hfl, hl], .inr ⟨b, c, _, rfl, hB, heap_putT (flatK trV 3 l'.toArray) hg, hnc, hcm, by simp [putCells, hcs], ?_⟩⟩
    have hsz : (flatK trV 3 l'.toArray).size = l.length * 3 := by simp [hl]
    rw [← hsz, take_putT _ _ (by rw [hsz, hcs]; exact Nat.mul_le_mul_right _ hnc), flatK_tr]
theorem tr_cmpLays (b off size : Nat) (w : World) : CmpLays Try.prog 136 #[] trV 3 trF b off size w :=
  fun m os dk _ x y => (impl_transcripts1 x y _).mono fun _ _ ⟨he, hg⟩ => ⟨he, hg⟩
/-- the sort of an own row of transcripts -/
theorem sort_T {w : World} {B : Nat} {v : Value} {l : List TrD} (h : OwnT w B v l) (h1 : 0 < l.length) (h2 : l.length ≤ 1000000) :
    Calls Try.prog 135 #[v, .func (.func 136) #[] #[]] w fun e w' => e = .returned (.tuple #[]) ∧ OwnT w' B v (trS l) ∧ Below B w w' := by
  obtain ⟨b, c, rfl, hB, hb, _⟩ := h.get h1
  have eg : ∀ args w, (callFunc 136 args).run Try.prog w = .ok (.enter 136 args) w := enters_of Try.func136 (by kernel_rfl) rfl
  have hcon := AnyQ.slices_SortFunc_total sortTr 3 Try.isAgg40 Try.sizeOf40 trV (fun _ => rfl) (fun x v hv => by simp [trV] at hv; rcases hv with rfl | rfl | rfl <;> rfl) trF tr_swo 136 #[] b 0 c l.toArray w eg (tr_cmpLays b 0 _ w) h.holds hb (by simp; omega) (fun x y k1 k2 => tr_anti k1 k2)
  change Calls Try.prog 135 _ _ _ at hcon
  rw [List.size_toArray] at hcon
  refine hcon.mono ?_
  rintro e w' ⟨rfl, m, os, rfl⟩
  refine ⟨rfl, h.sorted (trS_len l), ?_⟩
  have hg : w.grownBy (sortWorldK trV 3 w b 0 m (trS l).toArray os) (some b) := grownBy_putT _
  exact ⟨hg.os, hg.tape, hg.output, hg.size, fun k hk => hg.block k (by omega) (fun e => by injection e with e; omega)⟩
end Go.Proofs.Ytacpnphfopmofaa
