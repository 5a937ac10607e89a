/- Proofs of openings: walks (printed by gen_op1.py). -/
import Derived.Test.YtboahnklilmdpaaOpL
namespace Go.Proofs.Ytboahnklilmdpaa
open Go.RowKit
set_option linter.unusedSimpArgs false
set_option linter.unusedVariables false

/-- a proof in memory -/
def PfR (w : World) (v : Value) (d : ProofD) : Prop := ∃ a b c, v = .agg #[a, b, c] ∧ Ints w a d.c ∧ Ints w b d.h ∧ Ints w c d.r
theorem PfR.below {w w' : World} {v : Value} {d : ProofD} (h : PfR w v d) (hb : Below w.heap.size w w') : PfR w' v d := by
  obtain ⟨a, b, c, e, h1, h2, h3⟩ := h; exact ⟨a, b, c, e, h1.below hb, h2.below hb, h3.below hb⟩
theorem PfR.mk {w : World} {a b c : Value} {d : ProofD} (h1 : Ints w a d.c) (h2 : Ints w b d.h) (h3 : Ints w c d.r) : PfR w (.agg #[a, b, c]) d := ⟨a, b, c, rfl, h1, h2, h3⟩
/-- a proof in new memory and a Bool are returned -/
def RetP (e : Ending) (w : World) (B : Nat) (b : Bool) (d : ProofD) : Prop := ∃ x y z, e = .returned (.tuple #[.agg #[x, y, z], .bool b]) ∧ OwnI w B x d.c ∧ OwnI w B y d.h ∧ OwnI w B z d.r
theorem RetP.mk {w : World} {B : Nat} {x y z : Value} {b : Bool} {d : ProofD} (h1 : OwnI w B x d.c) (h2 : OwnI w B y d.h) (h3 : OwnI w B z d.r) : RetP (.returned (.tuple #[.agg #[x, y, z], .bool b])) w B b d := ⟨x, y, z, rfl, h1, h2, h3⟩
theorem OwnI.shapeN {w : World} {B n : Nat} {v : Value} {l : List Int} (h : OwnI w B v l) (hn : l.length = n) : ∃ a c, v = .slice a n c := by subst hn; exact h.shape
theorem OwnI.oth {w : World} {B b : Nat} {v : Value} {l : List Int} (h : OwnI w B v l) (hb : b < B) (j : Nat) (x : Value) : OwnI (w.setCell ⟨b, j, none⟩ x) B v l :=
  h.kept (grownBy_setCell _ b j x) (.inr fun e => by have := (h.lt _ e).1; omega)

def sOpen : ByteArray := { data := #[111, 112, 101, 110, 105, 110, 103] }
theorem coM_small {gr : GroupD} (hg : OkG gr) (h m r : Int) : Small (coM gr h m r) := mulL_small hg _
theorem mul_bnd {a b : Int} (h1 : 0 ≤ a) (h2 : a ≤ 2000000000) (h3 : 0 ≤ b) (h4 : b ≤ 2000000000) : 0 ≤ a * b ∧ a * b ≤ 4000000000000000000 :=
  ⟨Int.mul_nonneg h1 h3, Int.le_trans (Int.mul_le_mul h2 h4 h3 (by omega)) (by decide)⟩
theorem all_two {f : Int → Bool} {l : List Int} (h : l.length = 2) (ha : l.all f = true) : f (nth l 0) = true ∧ f (nth l 1) = true := by
  rw [list_two h] at ha
  simpa using ha
theorem all_one {f : Int → Bool} {l : List Int} (h : l.length = 1) (ha : l.all f = true) : f (nth l 0) = true := by
  rw [list_one h] at ha
  simpa using ha
theorem nth_64 {w : World} {v : Value} {l : List Int} (h : Ints w v l) (i : Nat) : I64 (nth l i) := by
  by_cases hi : i < l.length
  · have e : nth l i = l[i] := by simp [nth, List.getD, hi]
    rw [e]; exact h.all _ (List.getElem_mem _)
  · have e : nth l i = 0 := by simp [nth, List.getD, Nat.not_lt.1 hi]
    rw [e]; exact ⟨by decide, by decide⟩
set_option maxRecDepth 100000 in
set_option maxHeartbeats 2000000 in
theorem impl_openingChallenge (gr : GroupD) (bh : Int) (bv : Value) (bl : List Int) (c0 x0 : Int) (w : World) (hg : OkG gr) (hb : Ints w bv bl) (sbh : Small bh) (sc0 : Small c0) (sx0 : Small x0) :
    Calls Try.prog 198 #[.agg #[.int .i64 gr.p, .int .i64 gr.q, .int .i64 gr.g], .agg #[.int .i64 bh, bv], .int .i64 c0, .int .i64 x0] w fun e w' => e = .returned (.tuple #[.int .i64 (opE gr sOpen bh c0 x0), .bool true]) ∧ Below w.heap.size w w' := by
  have HG := Lib.hid hg
  clear hg
  obtain ⟨bva, bvn, bvc, rfl⟩ := hb.shape
  have Ebv := Lib.hid hb.len
  have Kbv := Lib.hid hb.capMax
  have Hbv := Lib.hid hb
  clear hb
  have HAS : Hid (AllSmall [bh, c0, x0]) := AllSmall.cons sbh (AllSmall.cons sc0 (AllSmall.cons sx0 AllSmall.nil))
  have HDG := Lib.hid (digests_small HAS.out)
  have HCB : Hid (chB gr sOpen [bh, c0, x0] = true) := chB_yes HG.out HDG.out (by decide) (by simp)
  obtain ⟨E0, hE0⟩ : ∃ e, opE gr sOpen bh c0 x0 = e := ⟨_, rfl⟩
  have HEE : Hid (chV gr sOpen [bh, c0, x0] = E0) := hE0
  have HCI : Hid (chI gr sOpen [bh, c0, x0] = E0) := (chI_yes HCB.out).trans hE0
  rw [hE0]
  clear hE0
  obtain ⟨W, hW⟩ : ∃ W, W = (w.alloc (.cells #[.int .i64 gr.p, .int .i64 gr.q, .int .i64 gr.g] 39)).alloc (.cells #[.int .i64 bh, (.slice bva bvn bvc)] 79) := ⟨_, rfl⟩
  have HB : Hid (Below w.heap.size w W) := by unfold Hid; rw [hW]; (repeat (first | exact Below.refl _ _ | assumption | refine Below.drew ?_ | refine Below.alloc ?_ (by first | (simp; done) | (simp; omega)) _ | refine Below.setCell ?_ (by first | (simp; done) | (simp; omega)) _))
  have c0_0 : W.cell? ⟨w.heap.size, 0, none⟩ = some (.int .i64 gr.p) := by rw [hW]; simp [go_sem]
  have c0_1 : W.cell? ⟨w.heap.size, 1, none⟩ = some (.int .i64 gr.q) := by rw [hW]; simp [go_sem]
  have c0_2 : W.cell? ⟨w.heap.size, 2, none⟩ = some (.int .i64 gr.g) := by rw [hW]; simp [go_sem]
  have c1_0 : W.cell? ⟨w.heap.size + 1, 0, none⟩ = some (.int .i64 bh) := by rw [hW]; simp [go_sem]
  have c1_1 : W.cell? ⟨w.heap.size + 1, 1, none⟩ = some ((.slice bva bvn bvc)) := by rw [hW]; simp [go_sem]
  have HSW : Hid (W.heap.size = w.heap.size + 2) := by unfold Hid; rw [hW]; simp
  go_enter Try.func198, Try.ntmps198
  go_wp2_with fail
  rw [← hW]
  have hse : w.heap.size + 1 + 1 = W.heap.size := by have := HSW.out; omega
  (try rw [hse])
  clear hse
  clear hW
  have hc : Below W.heap.size W W := Below.refl _ _
  go_wp2_with fail
  refine (impl_challenge gr sOpen _ [bh, c0, x0] _ HG.out (OwnI.lit (B := 0) _ (Nat.zero_le _) (l := [bh, c0, x0]) (AllI64.cons (small_64 sbh) (AllI64.cons (small_64 sc0) (AllI64.cons (small_64 sx0) AllI64.nil))) rfl (by simp [maxLen]) 3 rfl).ints (by decide) (by simp)).mono ?_
  rintro e u1 ⟨rfl, hq1⟩
  rw [HCB.out, HCI.out]
  replace hq1 := Below.next (keep_al (Below.refl _ _) _) hq1
  replace hc := Below.next hc hq1
  replace c0_0 := box_at c0_0 hq1
  replace c0_1 := box_at c0_1 hq1
  replace c0_2 := box_at c0_2 hq1
  replace c1_0 := box_at c1_0 hq1
  replace c1_1 := box_at c1_1 hq1
  clear hq1
  go_wp2_with fail
  go_ret2
  exact ⟨rfl, HB.out.trans (hc.mono HB.out.size)⟩
set_option maxRecDepth 100000 in
set_option maxHeartbeats 2000000 in
theorem spec_l9Challenge (gr : GroupD) (bh : Int) (bv : Value) (bl : List Int) (c0 x0 : Int) (w : World) (hg : OkG gr) (hb : Ints w bv bl) (sbh : Small bh) (sc0 : Small c0) (sx0 : Small x0) :
    Calls Try.prog 199 #[.agg #[.int .i64 gr.p, .int .i64 gr.q, .int .i64 gr.g], .agg #[.int .i64 bh, bv], .int .i64 c0, .int .i64 x0] w fun e w' => e = .returned (.int .i64 (opE gr sOpen bh c0 x0)) ∧ Below w.heap.size w w' := by
  have HG := Lib.hid hg
  clear hg
  obtain ⟨bva, bvn, bvc, rfl⟩ := hb.shape
  have Ebv := Lib.hid hb.len
  have Kbv := Lib.hid hb.capMax
  have Hbv := Lib.hid hb
  clear hb
  have HAS : Hid (AllSmall [bh, c0, x0]) := AllSmall.cons sbh (AllSmall.cons sc0 (AllSmall.cons sx0 AllSmall.nil))
  have HDG := Lib.hid (digests_small HAS.out)
  have HCB : Hid (chB gr sOpen [bh, c0, x0] = true) := chB_yes HG.out HDG.out (by decide) (by simp)
  obtain ⟨E0, hE0⟩ : ∃ e, opE gr sOpen bh c0 x0 = e := ⟨_, rfl⟩
  have HEE : Hid (chV gr sOpen [bh, c0, x0] = E0) := hE0
  have HCI : Hid (chI gr sOpen [bh, c0, x0] = E0) := (chI_yes HCB.out).trans hE0
  rw [hE0]
  clear hE0
  obtain ⟨W, hW⟩ : ∃ W, W = (w.alloc (.cells #[.int .i64 gr.p, .int .i64 gr.q, .int .i64 gr.g] 39)).alloc (.cells #[.int .i64 bh, (.slice bva bvn bvc)] 79) := ⟨_, rfl⟩
  have HB : Hid (Below w.heap.size w W) := by unfold Hid; rw [hW]; (repeat (first | exact Below.refl _ _ | assumption | refine Below.drew ?_ | refine Below.alloc ?_ (by first | (simp; done) | (simp; omega)) _ | refine Below.setCell ?_ (by first | (simp; done) | (simp; omega)) _))
  have c0_0 : W.cell? ⟨w.heap.size, 0, none⟩ = some (.int .i64 gr.p) := by rw [hW]; simp [go_sem]
  have c0_1 : W.cell? ⟨w.heap.size, 1, none⟩ = some (.int .i64 gr.q) := by rw [hW]; simp [go_sem]
  have c0_2 : W.cell? ⟨w.heap.size, 2, none⟩ = some (.int .i64 gr.g) := by rw [hW]; simp [go_sem]
  have c1_0 : W.cell? ⟨w.heap.size + 1, 0, none⟩ = some (.int .i64 bh) := by rw [hW]; simp [go_sem]
  have c1_1 : W.cell? ⟨w.heap.size + 1, 1, none⟩ = some ((.slice bva bvn bvc)) := by rw [hW]; simp [go_sem]
  have HSW : Hid (W.heap.size = w.heap.size + 2) := by unfold Hid; rw [hW]; simp
  go_enter Try.func199, Try.ntmps199
  go_wp2_with fail
  rw [← hW]
  have hse : w.heap.size + 1 + 1 = W.heap.size := by have := HSW.out; omega
  (try rw [hse])
  clear hse
  clear hW
  have hc : Below W.heap.size W W := Below.refl _ _
  go_wp2_with fail
  refine (spec_hChallenge gr sOpen _ [bh, c0, x0] _ HG.out (OwnI.lit (B := 0) _ (Nat.zero_le _) (l := [bh, c0, x0]) (AllI64.cons (small_64 sbh) (AllI64.cons (small_64 sc0) (AllI64.cons (small_64 sx0) AllI64.nil))) rfl (by simp [maxLen]) 3 rfl).ints (by decide) (by simp) HDG.out).mono ?_
  rintro e u1 ⟨rfl, hq1⟩
  rw [HEE.out]
  replace hq1 := Below.next (keep_al (Below.refl _ _) _) hq1
  replace hc := Below.next hc hq1
  replace c0_0 := box_at c0_0 hq1
  replace c0_1 := box_at c0_1 hq1
  replace c0_2 := box_at c0_2 hq1
  replace c1_0 := box_at c1_0 hq1
  replace c1_1 := box_at c1_1 hq1
  clear hq1
  go_wp2_with fail
  go_ret
  exact ⟨rfl, HB.out.trans (hc.mono HB.out.size)⟩
set_option maxRecDepth 100000 in
set_option maxHeartbeats 2000000 in
theorem impl_ProveOpening (gr : GroupD) (bh : Int) (bv : Value) (bl : List Int) (m r : Int) (cv : Value) (cs : List Int) (w : World) (hb : Ints w bv bl) (ibh : I64 bh) (hm : I64 m) (hr : I64 r) (hcs : Ints w cv cs) :
    Calls Try.prog 78 #[.agg #[.int .i64 gr.p, .int .i64 gr.q, .int .i64 gr.g], .agg #[.int .i64 bh, bv], .int .i64 m, .int .i64 r, cv] w fun e w' => RetP e w' w.heap.size (poB gr bh bl m r cs) (poR gr sOpen bh bl m r cs) ∧ Below w.heap.size w w' := by
  obtain ⟨bva, bvn, bvc, rfl⟩ := hb.shape
  have Ebv := Lib.hid hb.len
  have Kbv := Lib.hid hb.capMax
  have Hbv := Lib.hid hb
  clear hb
  obtain ⟨cva, cvn, cvc, rfl⟩ := hcs.shape
  have Ecv := Lib.hid hcs.len
  have Kcv := Lib.hid hcs.capMax
  have Hcv := Lib.hid hcs
  clear hcs
  obtain ⟨W, hW⟩ : ∃ W, W = ((w.alloc (.cells #[.int .i64 gr.p, .int .i64 gr.q, .int .i64 gr.g] 39)).alloc (.cells #[.int .i64 bh, (.slice bva bvn bvc)] 79)).alloc (.cells #[(.slice none 0 0), (.slice none 0 0), (.slice none 0 0)] 42) := ⟨_, rfl⟩
  have HB : Hid (Below w.heap.size w W) := by unfold Hid; rw [hW]; (repeat (first | exact Below.refl _ _ | assumption | refine Below.drew ?_ | refine Below.alloc ?_ (by first | (simp; done) | (simp; omega)) _ | refine Below.setCell ?_ (by first | (simp; done) | (simp; omega)) _))
  have c0_0 : W.cell? ⟨w.heap.size, 0, none⟩ = some (.int .i64 gr.p) := by rw [hW]; simp [go_sem]
  have c0_1 : W.cell? ⟨w.heap.size, 1, none⟩ = some (.int .i64 gr.q) := by rw [hW]; simp [go_sem]
  have c0_2 : W.cell? ⟨w.heap.size, 2, none⟩ = some (.int .i64 gr.g) := by rw [hW]; simp [go_sem]
  have c1_0 : W.cell? ⟨w.heap.size + 1, 0, none⟩ = some (.int .i64 bh) := by rw [hW]; simp [go_sem]
  have c1_1 : W.cell? ⟨w.heap.size + 1, 1, none⟩ = some ((.slice bva bvn bvc)) := by rw [hW]; simp [go_sem]
  have HR2 : Hid (BoxN W (w.heap.size + 1 + 1) 42 [(.slice none 0 0), (.slice none 0 0), (.slice none 0 0)]) := by unfold Hid; rw [hW]; have h := (BoxN.new ((w.alloc (.cells #[.int .i64 gr.p, .int .i64 gr.q, .int .i64 gr.g] 39)).alloc (.cells #[.int .i64 bh, (.slice bva bvn bvc)] 79)) [(.slice none 0 0), (.slice none 0 0), (.slice none 0 0)] 42); simpa using h
  have HSW : Hid (W.heap.size = w.heap.size + 3) := by unfold Hid; rw [hW]; simp
  have lr2 : w.heap.size + 1 + 1 < W.heap.size := by have := HSW.out; omega
  go_enter Try.func78, Try.ntmps78
  go_wp2_with fail
  rw [← hW]
  have hse : w.heap.size + 1 + 1 + 1 = W.heap.size := by have := HSW.out; omega
  (try rw [hse])
  clear hse
  clear hW
  have hc : Below W.heap.size W W := Below.refl _ _
  have HCC : Hid (∀ u, Below W.heap.size W u → u.cell? ⟨w.heap.size, 0, none⟩ = some (.int .i64 gr.p) ∧ u.cell? ⟨w.heap.size, 1, none⟩ = some (.int .i64 gr.q) ∧ u.cell? ⟨w.heap.size, 2, none⟩ = some (.int .i64 gr.g) ∧ u.cell? ⟨w.heap.size + 1, 0, none⟩ = some (.int .i64 bh) ∧ u.cell? ⟨w.heap.size + 1, 1, none⟩ = some ((.slice bva bvn bvc))) := fun u h => ⟨box_at c0_0 h, box_at c0_1 h, box_at c0_2 h, box_at c1_0 h, box_at c1_1 h⟩
  go_wp2_with fail
  refine (impl_IsValidBases gr bh _ bl _ (Hbv.out.below (HB.out.trans (hc.mono HB.out.size))) ibh).mono ?_
  rintro e u1 ⟨rfl, hq1⟩
  replace hc := Below.next hc hq1
  clear hq1 c0_0 c0_1 c0_2 c1_0 c1_1
  obtain ⟨c0_0, c0_1, c0_2, c1_0, c1_1⟩ := HCC.out _ hc
  cases hc1 : baB gr bh bl with
  | false =>
    have Hhc1 := Lib.hid hc1
    clear hc1
    have HRE2 := Lib.hid (HR2.out.below hc)
    clear HR2
    have HBE := Lib.hid (HB.out.trans (hc.mono HB.out.size))
    have r2_0 := HRE2.out.cell (i := 0) rfl
    have r2_1 := HRE2.out.cell (i := 1) rfl
    have r2_2 := HRE2.out.cell (i := 2) rfl
    have fr2 := fun j => HRE2.out.frozen j
    go_wp2_with fail
    have HRF := Lib.hid (((HRE2.out.set 0 ((.slice none 0 0))).set 1 ((.slice none 0 0))).set 2 ((.slice none 0 0)))
    have HBF := Lib.hid (((HBE.out.setCell (p := ⟨w.heap.size + 1 + 1, 0, none⟩) (by show w.heap.size ≤ w.heap.size + 1 + 1; omega) ((.slice none 0 0))).setCell (p := ⟨w.heap.size + 1 + 1, 1, none⟩) (by show w.heap.size ≤ w.heap.size + 1 + 1; omega) ((.slice none 0 0))).setCell (p := ⟨w.heap.size + 1 + 1, 2, none⟩) (by show w.heap.size ≤ w.heap.size + 1 + 1; omega) ((.slice none 0 0)))
    clear r2_0 r2_1 r2_2 fr2
    have r2_0 := HRF.out.cell (i := 0) rfl
    have r2_1 := HRF.out.cell (i := 1) rfl
    have r2_2 := HRF.out.cell (i := 2) rfl
    try (go_wp2_with fail)
    have HVB : Hid (poB gr bh bl m r cs = false) := by unfold Hid; simp [poB, Hhc1.out]
    have HPR : Hid (poR gr sOpen bh bl m r cs = ⟨[], [], []⟩) := by unfold Hid poR; rw [if_neg (by rw [HVB.out]; simp)]
    refine bodyPost_ret (v := .tuple #[.agg #[(.slice none 0 0), (.slice none 0 0), (.slice none 0 0)], .bool false]) (by simp [results, Try.results78, go_sem, r2_0, r2_1, r2_2]) rfl ⟨(by rw [HVB.out, HPR.out]; exact RetP.mk (OwnI.nil _ _) (OwnI.nil _ _) (OwnI.nil _ _)), HBF.out⟩
  | true =>
    have HBA := Lib.hid (baB_parts hc1)
    have HG := Lib.hid (goodG_ok HBA.out.1)
    have sbh : Small bh := elB_small HG.out HBA.out.2.1
    have Hhc1 := Lib.hid hc1
    clear hc1
    go_wp2_with fail
    refine (impl_areExps gr _ [m, r] _ HG.out (OwnI.lit (B := 0) _ (Nat.zero_le _) (l := [m, r]) (AllI64.cons hm (AllI64.cons hr AllI64.nil)) rfl (by simp [maxLen]) 2 rfl).ints).mono ?_
    rintro e u2 ⟨rfl, hq2⟩
    replace hq2 := Below.next (keep_al (Below.refl _ _) _) hq2
    replace hc := Below.next hc hq2
    clear hq2 c0_0 c0_1 c0_2 c1_0 c1_1
    obtain ⟨c0_0, c0_1, c0_2, c1_0, c1_1⟩ := HCC.out _ hc
    cases hc2 : [m, r].all (expB gr) with
    | false =>
      have Hhc2 := Lib.hid hc2
      clear hc2
      have HRE2 := Lib.hid (HR2.out.below hc)
      clear HR2
      have HBE := Lib.hid (HB.out.trans (hc.mono HB.out.size))
      have r2_0 := HRE2.out.cell (i := 0) rfl
      have r2_1 := HRE2.out.cell (i := 1) rfl
      have r2_2 := HRE2.out.cell (i := 2) rfl
      have fr2 := fun j => HRE2.out.frozen j
      go_wp2_with fail
      have HRF := Lib.hid (((HRE2.out.set 0 ((.slice none 0 0))).set 1 ((.slice none 0 0))).set 2 ((.slice none 0 0)))
      have HBF := Lib.hid (((HBE.out.setCell (p := ⟨w.heap.size + 1 + 1, 0, none⟩) (by show w.heap.size ≤ w.heap.size + 1 + 1; omega) ((.slice none 0 0))).setCell (p := ⟨w.heap.size + 1 + 1, 1, none⟩) (by show w.heap.size ≤ w.heap.size + 1 + 1; omega) ((.slice none 0 0))).setCell (p := ⟨w.heap.size + 1 + 1, 2, none⟩) (by show w.heap.size ≤ w.heap.size + 1 + 1; omega) ((.slice none 0 0)))
      clear r2_0 r2_1 r2_2 fr2
      have r2_0 := HRF.out.cell (i := 0) rfl
      have r2_1 := HRF.out.cell (i := 1) rfl
      have r2_2 := HRF.out.cell (i := 2) rfl
      try (go_wp2_with fail)
      have HVB : Hid (poB gr bh bl m r cs = false) := by unfold Hid; have qhc2 := Hhc2.out; simp only [List.all_cons, List.all_nil, Bool.and_true] at qhc2; simp [poB, Hhc1.out, qhc2]
      have HPR : Hid (poR gr sOpen bh bl m r cs = ⟨[], [], []⟩) := by unfold Hid poR; rw [if_neg (by rw [HVB.out]; simp)]
      refine bodyPost_ret (v := .tuple #[.agg #[(.slice none 0 0), (.slice none 0 0), (.slice none 0 0)], .bool false]) (by simp [results, Try.results78, go_sem, r2_0, r2_1, r2_2]) rfl ⟨(by rw [HVB.out, HPR.out]; exact RetP.mk (OwnI.nil _ _) (OwnI.nil _ _) (OwnI.nil _ _)), HBF.out⟩
    | true =>
      have HMR : Hid (expB gr m = true ∧ expB gr r = true) := by unfold Hid; simpa using hc2
      have Hhc2 := Lib.hid hc2
      clear hc2
      cases hc3 : ((cvn : Int) != 2) with
      | false =>
        obtain rfl : cvn = 2 := by have q := hc3; rw [bne_eq_false_iff_eq] at q; omega
        obtain ⟨cvb, cvo, rfl, hx⟩ := Hcv.out.at_ (by omega)
        have Kcv0 : Hid (w.cell? ⟨cvb, cvo, none⟩ = some (.int .i64 (nth cs 0))) := by unfold Hid; have h := hx 0 (by omega); simpa using h
        have Kcv1 : Hid (w.cell? ⟨cvb, cvo + 1, none⟩ = some (.int .i64 (nth cs 1))) := by unfold Hid; have h := hx 1 (by omega); simpa using h
        clear hx
        have ycv0 := box_at Kcv0.out (HB.out.trans (hc.mono HB.out.size))
        have ycv1 := box_at Kcv1.out (HB.out.trans (hc.mono HB.out.size))
        replace HCC : Hid (∀ u, Below W.heap.size W u → u.cell? ⟨w.heap.size, 0, none⟩ = some (.int .i64 gr.p) ∧ u.cell? ⟨w.heap.size, 1, none⟩ = some (.int .i64 gr.q) ∧ u.cell? ⟨w.heap.size, 2, none⟩ = some (.int .i64 gr.g) ∧ u.cell? ⟨w.heap.size + 1, 0, none⟩ = some (.int .i64 bh) ∧ u.cell? ⟨w.heap.size + 1, 1, none⟩ = some ((.slice bva bvn bvc)) ∧ u.cell? ⟨cvb, cvo, none⟩ = some (.int .i64 (nth cs 0)) ∧ u.cell? ⟨cvb, cvo + 1, none⟩ = some (.int .i64 (nth cs 1))) := fun u h => by obtain ⟨c0_0, c0_1, c0_2, c1_0, c1_1⟩ := HCC.out u h; exact ⟨c0_0, c0_1, c0_2, c1_0, c1_1, box_at Kcv0.out (HB.out.trans (h.mono HB.out.size)), box_at Kcv1.out (HB.out.trans (h.mono HB.out.size))⟩
        have HL2 : Hid (decide (cs.length = 2) = true) := decide_eq_true Ecv.out
        go_wp2_with fail
        refine (impl_areExps gr _ cs _ HG.out (Hcv.out.below (HB.out.trans (hc.mono HB.out.size)))).mono ?_
        rintro e u3 ⟨rfl, hq3⟩
        replace hc := Below.next hc hq3
        clear hq3 c0_0 c0_1 c0_2 c1_0 c1_1 ycv0 ycv1
        obtain ⟨c0_0, c0_1, c0_2, c1_0, c1_1, ycv0, ycv1⟩ := HCC.out _ hc
        cases hc4 : cs.all (expB gr) with
        | false =>
          have Hhc4 := Lib.hid hc4
          clear hc4
          have HRE2 := Lib.hid (HR2.out.below hc)
          clear HR2
          have HBE := Lib.hid (HB.out.trans (hc.mono HB.out.size))
          have r2_0 := HRE2.out.cell (i := 0) rfl
          have r2_1 := HRE2.out.cell (i := 1) rfl
          have r2_2 := HRE2.out.cell (i := 2) rfl
          have fr2 := fun j => HRE2.out.frozen j
          go_wp2_with fail
          have HRF := Lib.hid (((HRE2.out.set 0 ((.slice none 0 0))).set 1 ((.slice none 0 0))).set 2 ((.slice none 0 0)))
          have HBF := Lib.hid (((HBE.out.setCell (p := ⟨w.heap.size + 1 + 1, 0, none⟩) (by show w.heap.size ≤ w.heap.size + 1 + 1; omega) ((.slice none 0 0))).setCell (p := ⟨w.heap.size + 1 + 1, 1, none⟩) (by show w.heap.size ≤ w.heap.size + 1 + 1; omega) ((.slice none 0 0))).setCell (p := ⟨w.heap.size + 1 + 1, 2, none⟩) (by show w.heap.size ≤ w.heap.size + 1 + 1; omega) ((.slice none 0 0)))
          clear r2_0 r2_1 r2_2 fr2
          have r2_0 := HRF.out.cell (i := 0) rfl
          have r2_1 := HRF.out.cell (i := 1) rfl
          have r2_2 := HRF.out.cell (i := 2) rfl
          try (go_wp2_with fail)
          have HVB : Hid (poB gr bh bl m r cs = false) := by unfold Hid; have qhc2 := Hhc2.out; simp only [List.all_cons, List.all_nil, Bool.and_true] at qhc2; simp [poB, Hhc1.out, qhc2, hc3, Hhc4.out, HL2.out]
          have HPR : Hid (poR gr sOpen bh bl m r cs = ⟨[], [], []⟩) := by unfold Hid poR; rw [if_neg (by rw [HVB.out]; simp)]
          refine bodyPost_ret (v := .tuple #[.agg #[(.slice none 0 0), (.slice none 0 0), (.slice none 0 0)], .bool false]) (by simp [results, Try.results78, go_sem, r2_0, r2_1, r2_2]) rfl ⟨(by rw [HVB.out, HPR.out]; exact RetP.mk (OwnI.nil _ _) (OwnI.nil _ _) (OwnI.nil _ _)), HBF.out⟩
        | true =>
          have zq1 := HG.out.q1
          have zq2 := HG.out.q2
          have zp2 := HG.out.p2
          have zq3 : gr.q ≤ 2000000000 := by omega
          have zq0 : 0 < gr.q := by omega
          have zq4 : gr.q ≤ 4000000000 := by omega
          obtain ⟨m1, m2⟩ := expB_bd HMR.out.1
          obtain ⟨r1, r2⟩ := expB_bd HMR.out.2
          have HX2 := Lib.hid (all_two Ecv.out hc4)
          obtain ⟨a1, a2⟩ := expB_bd HX2.out.1
          obtain ⟨b1, b2⟩ := expB_bd HX2.out.2
          obtain ⟨X1, hX1⟩ : ∃ x, coM gr bh (nth cs 0) (nth cs 1) = x := ⟨_, rfl⟩
          have HX1 := Lib.hid hX1
          have sX1 : Small X1 := hX1 ▸ coM_small HG.out bh (nth cs 0) (nth cs 1)
          obtain ⟨C0, hC0⟩ : ∃ x, coM gr bh m r = x := ⟨_, rfl⟩
          have HC0 := Lib.hid hC0
          have sC0 : Small C0 := hC0 ▸ coM_small HG.out bh m r
          obtain ⟨E, hE⟩ : ∃ x, opE gr sOpen bh C0 X1 = x := ⟨_, rfl⟩
          have HE := Lib.hid hE
          have he := chV_bd HG.out sOpen [bh, C0, X1]
          obtain ⟨e1, e2⟩ : 0 ≤ E ∧ E < gr.q := hE ▸ he
          have iE : I64 E := ⟨by omega, by omega⟩
          clear hX1 hC0 hE he
          obtain ⟨pp1, pp2⟩ := mul_bnd (a := E) (b := m) (by omega) (by omega) (by omega) (by omega)
          have ewa1 : IntKind.i64.wrap (E * m) = E * m := IntWalk.i64_in _ (by omega)
          have ewb1 : IntKind.i64.wrap (nth cs 0 + E * m) = nth cs 0 + E * m := IntWalk.i64_in _ (by omega)
          have HN1 : Hid (I64 (nth cs 0 + E * m)) := ⟨by omega, by omega⟩
          clear pp1 pp2
          obtain ⟨Z1, hZ1⟩ : ∃ x, (nth cs 0 + E * m) % gr.q = x := ⟨_, rfl⟩
          have HZ1 := Lib.hid hZ1
          have iZ1 : I64 Z1 := by rw [← hZ1]; have z1 : 0 ≤ (nth cs 0 + E * m) % gr.q := Int.emod_nonneg _ (by omega); have z2 : (nth cs 0 + E * m) % gr.q < gr.q := Int.emod_lt_of_pos _ (by omega); exact ⟨by omega, by omega⟩
          clear hZ1
          obtain ⟨pp1, pp2⟩ := mul_bnd (a := E) (b := r) (by omega) (by omega) (by omega) (by omega)
          have ewa2 : IntKind.i64.wrap (E * r) = E * r := IntWalk.i64_in _ (by omega)
          have ewb2 : IntKind.i64.wrap (nth cs 1 + E * r) = nth cs 1 + E * r := IntWalk.i64_in _ (by omega)
          have HN2 : Hid (I64 (nth cs 1 + E * r)) := ⟨by omega, by omega⟩
          clear pp1 pp2
          obtain ⟨Z2, hZ2⟩ : ∃ x, (nth cs 1 + E * r) % gr.q = x := ⟨_, rfl⟩
          have HZ2 := Lib.hid hZ2
          have iZ2 : I64 Z2 := by rw [← hZ2]; have z1 : 0 ≤ (nth cs 1 + E * r) % gr.q := Int.emod_nonneg _ (by omega); have z2 : (nth cs 1 + E * r) % gr.q < gr.q := Int.emod_lt_of_pos _ (by omega); exact ⟨by omega, by omega⟩
          clear hZ2
          have Hhc4 := Lib.hid hc4
          clear hc4
          have hszr := hc.size
          try (go_wp2_with fail)
          refine wp_region_noPanic ?_
          refine wp_region_P (fun w' => w'.cell? ⟨w.heap.size, 0, none⟩ = some (.int .i64 gr.p) ∧ w'.cell? ⟨w.heap.size, 1, none⟩ = some (.int .i64 gr.q) ∧ w'.cell? ⟨w.heap.size, 2, none⟩ = some (.int .i64 gr.g) ∧ w'.cell? ⟨w.heap.size + 1, 0, none⟩ = some (.int .i64 bh) ∧ w'.cell? ⟨w.heap.size + 1, 1, none⟩ = some ((.slice bva bvn bvc)) ∧ w'.cell? ⟨cvb, cvo, none⟩ = some (.int .i64 (nth cs 0)) ∧ w'.cell? ⟨cvb, cvo + 1, none⟩ = some (.int .i64 (nth cs 1))) 12 [(0, []), (1, []), (2, []), (3, [0]), (4, [0]), (5, []), (6, [0]), (7, [0]), (8, [7, 6, 3, 0]), (9, [0])] [] (by kernel_rfl) (by kernel_rfl) (by kernel_rfl) rfl (fun _ _ _ _ h => h) (fun w' h => ⟨box_at c0_0 h, box_at c0_1 h, box_at c0_2 h, box_at c1_0 h, box_at c1_1 h, box_at ycv0 h, box_at ycv1 h⟩) ?_
          simp only [pickP, pickN, List.getElem?_cons_zero, List.getElem?_cons_succ]
          iterate 8 (refine' chainP_read _ rfl rfl (fun w' hS' => ?_) ?_; rotate_left; · (simp only [lookP, allP, Act.put, List.getElem?_cons_zero, List.getElem?_cons_succ, List.setIfInBounds_toArray, List.set_cons_zero, List.set_cons_succ]; (try dsimp only at hS'); go_simp; (try with_reducible rfl)))
          -- 8: call { callee := value (func 171), args := #[t39, t40, t43, t46], argTypes := #[39, 79, 3, 3] }
          refine chainP_call (d := (some 47)) (.int .i64 X1) rfl rfl (fun w' hS' => ?_) ?_
          · simp only [lookP, allP, Act.put, List.getElem?_cons_zero, List.getElem?_cons_succ, List.setIfInBounds_toArray, List.set_cons_zero, List.set_cons_succ]
            intro K hK
            go_simp
            go_at_call 171
            refine (impl_commit gr bh _ bl (nth cs 0) (nth cs 1) _ HG.out ((Hbv.out.below (HB.out.trans (hc.mono HB.out.size))).below hS'.1) sbh ⟨by omega, by omega⟩ ⟨by omega, by omega⟩).mono ?_
            rintro e u ⟨rfl, hq⟩
            rw [HX1.out]
            exact hK.out _ hq
          -- 9: assign t47
          refine' chainP_read (d := (some 12)) _ rfl rfl (fun w' hS' => ?_) ?_; rotate_left
          · simp only [lookP, allP, Act.put, List.getElem?_cons_zero, List.getElem?_cons_succ, List.setIfInBounds_toArray, List.set_cons_zero, List.set_cons_succ]
            (try dsimp only at hS')
            go_simp
            (try with_reducible rfl)
          refine chainP_nil (fun u4 hS' => ?_)
          simp only [allP, Act.put, List.setIfInBounds_toArray, List.set_cons_zero, List.set_cons_succ]
          have hq4 := hS'.1
          clear hS'
          replace hc := Below.next hc hq4
          clear hq4 c0_0 c0_1 c0_2 c1_0 c1_1 ycv0 ycv1
          obtain ⟨c0_0, c0_1, c0_2, c1_0, c1_1, ycv0, ycv1⟩ := HCC.out _ hc
          go_wp2_with fail
          refine NoPanic.normal ?_
          have hszr := hc.size
          try (go_wp2_with fail)
          refine wp_region_noPanic ?_
          refine wp_region_P (fun w' => w'.cell? ⟨w.heap.size, 0, none⟩ = some (.int .i64 gr.p) ∧ w'.cell? ⟨w.heap.size, 1, none⟩ = some (.int .i64 gr.q) ∧ w'.cell? ⟨w.heap.size, 2, none⟩ = some (.int .i64 gr.g) ∧ w'.cell? ⟨w.heap.size + 1, 0, none⟩ = some (.int .i64 bh) ∧ w'.cell? ⟨w.heap.size + 1, 1, none⟩ = some ((.slice bva bvn bvc)) ∧ w'.cell? ⟨cvb, cvo, none⟩ = some (.int .i64 (nth cs 0)) ∧ w'.cell? ⟨cvb, cvo + 1, none⟩ = some (.int .i64 (nth cs 1))) 16 [(0, []), (1, []), (2, []), (3, []), (4, []), (5, []), (6, [3, 2, 1, 0]), (7, []), (8, [7, 6, 1, 0]), (9, [0]), (10, [0]), (11, [1]), (12, [1]), (13, [1])] [] (by kernel_rfl) (by kernel_rfl) (by kernel_rfl) rfl (fun _ _ _ _ h => h) (fun w' h => ⟨box_at c0_0 h, box_at c0_1 h, box_at c0_2 h, box_at c1_0 h, box_at c1_1 h, box_at ycv0 h, box_at ycv1 h⟩) ?_
          simp only [pickP, pickN, List.getElem?_cons_zero, List.getElem?_cons_succ]
          iterate 6 (refine' chainP_read _ rfl rfl (fun w' hS' => ?_) ?_; rotate_left; · (simp only [lookP, allP, Act.put, List.getElem?_cons_zero, List.getElem?_cons_succ, List.setIfInBounds_toArray, List.set_cons_zero, List.set_cons_succ]; (try dsimp only at hS'); go_simp; (try with_reducible rfl)))
          -- 6: call { callee := value (func 171), args := #[t51, t52, t53, t54], argTypes := #[39, 79, 3, 3] }
          refine chainP_call (d := (some 55)) (.int .i64 C0) rfl rfl (fun w' hS' => ?_) ?_
          · simp only [lookP, allP, Act.put, List.getElem?_cons_zero, List.getElem?_cons_succ, List.setIfInBounds_toArray, List.set_cons_zero, List.set_cons_succ]
            intro K hK
            go_simp
            go_at_call 171
            refine (impl_commit gr bh _ bl m r _ HG.out ((Hbv.out.below (HB.out.trans (hc.mono HB.out.size))).below hS'.1) sbh hm hr).mono ?_
            rintro e u ⟨rfl, hq⟩
            rw [HC0.out]
            exact hK.out _ hq
          -- 7: move t12
          refine' chainP_read (d := (some 56)) _ rfl rfl (fun w' hS' => ?_) ?_; rotate_left
          · simp only [lookP, allP, Act.put, List.getElem?_cons_zero, List.getElem?_cons_succ, List.setIfInBounds_toArray, List.set_cons_zero, List.set_cons_succ]
            (try dsimp only at hS')
            go_simp
            (try with_reducible rfl)
          -- 8: call { callee := value (func 198), args := #[t49, t50, t55, t56], argTypes := #[39, 79, 3, 3] }
          refine chainP_call (d := (some 57)) (.tuple #[.int .i64 E, .bool true]) rfl rfl (fun w' hS' => ?_) ?_
          · simp only [lookP, allP, Act.put, List.getElem?_cons_zero, List.getElem?_cons_succ, List.setIfInBounds_toArray, List.set_cons_zero, List.set_cons_succ]
            intro K hK
            go_simp
            go_at_call 198
            refine (impl_openingChallenge gr bh _ bl C0 X1 _ HG.out ((Hbv.out.below (HB.out.trans (hc.mono HB.out.size))).below hS'.1) sbh sC0 sX1).mono ?_
            rintro e u ⟨rfl, hq⟩
            rw [HE.out]
            exact hK.out _ hq
          iterate 5 (refine' chainP_read _ rfl rfl (fun w' hS' => ?_) ?_; rotate_left; · (simp only [lookP, allP, Act.put, List.getElem?_cons_zero, List.getElem?_cons_succ, List.setIfInBounds_toArray, List.set_cons_zero, List.set_cons_succ]; (try dsimp only at hS'); go_simp; (try with_reducible rfl)))
          refine chainP_nil (fun u5 hS' => ?_)
          simp only [allP, Act.put, List.setIfInBounds_toArray, List.set_cons_zero, List.set_cons_succ]
          have hq5 := hS'.1
          clear hS'
          replace hc := Below.next hc hq5
          clear hq5 c0_0 c0_1 c0_2 c1_0 c1_1 ycv0 ycv1
          obtain ⟨c0_0, c0_1, c0_2, c1_0, c1_1, ycv0, ycv1⟩ := HCC.out _ hc
          go_wp2_with fail
          refine NoPanic.normal ?_
          have hszr := hc.size
          try (go_wp2_with fail)
          refine wp_region_noPanic ?_
          refine wp_region_P (fun w' => w'.cell? ⟨w.heap.size, 0, none⟩ = some (.int .i64 gr.p) ∧ w'.cell? ⟨w.heap.size, 1, none⟩ = some (.int .i64 gr.q) ∧ w'.cell? ⟨w.heap.size, 2, none⟩ = some (.int .i64 gr.g) ∧ w'.cell? ⟨w.heap.size + 1, 0, none⟩ = some (.int .i64 bh) ∧ w'.cell? ⟨w.heap.size + 1, 1, none⟩ = some ((.slice bva bvn bvc)) ∧ w'.cell? ⟨cvb, cvo, none⟩ = some (.int .i64 (nth cs 0)) ∧ w'.cell? ⟨cvb, cvo + 1, none⟩ = some (.int .i64 (nth cs 1))) 28 [(0, []), (1, [0]), (2, []), (3, [0]), (4, []), (5, []), (6, [0]), (7, [0]), (8, []), (9, []), (10, [1, 0]), (11, [3, 0]), (12, [7, 0]), (13, []), (14, []), (15, [0]), (16, [0]), (17, []), (18, []), (19, [1, 0]), (20, [3, 0]), (21, [7, 0]), (22, [9, 0])] [23, 24, 25] (by kernel_rfl) (by kernel_rfl) (by kernel_rfl) rfl (fun _ _ _ _ h => h) (fun w' h => ⟨box_at c0_0 h, box_at c0_1 h, box_at c0_2 h, box_at c1_0 h, box_at c1_1 h, box_at ycv0 h, box_at ycv1 h⟩) ?_
          simp only [pickP, pickN, List.getElem?_cons_zero, List.getElem?_cons_succ]
          -- 0: move t12
          refine' chainP_read (d := (some 60)) _ rfl rfl (fun w' hS' => ?_) ?_; rotate_left
          · simp only [lookP, allP, Act.put, List.getElem?_cons_zero, List.getElem?_cons_succ, List.setIfInBounds_toArray, List.set_cons_zero, List.set_cons_succ]
            (try dsimp only at hS')
            go_simp
            (try with_reducible rfl)
          -- 1: buildSlice 24 1 #[(0, t60)]
          refine chainP_do (d := (some 61)) (fun v u => OwnI u u5.heap.size v [X1]) (fun v w1 w2 hw h => OwnI.below h hw) rfl rfl (fun w' hS' => ?_) ?_
          · simp only [lookP, allP, Act.put, List.getElem?_cons_zero, List.getElem?_cons_succ, List.setIfInBounds_toArray, List.set_cons_zero, List.set_cons_succ]
            intro K hK
            go_simp
            have hsz0 := hS'.1.size
            refine hK.out _ _ ((Below.refl _ _).alloc (Nat.le_refl _) _) ?_
            exact OwnI.lit w' hsz0 (l := [X1]) (AllI64.cons (small_64 sX1) AllI64.nil) rfl (by simp [maxLen]) 1 rfl
          -- 2: move t13
          refine' chainP_read (d := (some 62)) _ rfl rfl (fun w' hS' => ?_) ?_; rotate_left
          · simp only [lookP, allP, Act.put, List.getElem?_cons_zero, List.getElem?_cons_succ, List.setIfInBounds_toArray, List.set_cons_zero, List.set_cons_succ]
            (try dsimp only at hS')
            go_simp
            (try with_reducible rfl)
          -- 3: buildSlice 24 1 #[(0, t62)]
          refine chainP_do (d := (some 63)) (fun v u => OwnI u u5.heap.size v [E]) (fun v w1 w2 hw h => OwnI.below h hw) rfl rfl (fun w' hS' => ?_) ?_
          · simp only [lookP, allP, Act.put, List.getElem?_cons_zero, List.getElem?_cons_succ, List.setIfInBounds_toArray, List.set_cons_zero, List.set_cons_succ]
            intro K hK
            go_simp
            have hsz0 := hS'.1.size
            refine hK.out _ _ ((Below.refl _ _).alloc (Nat.le_refl _) _) ?_
            exact OwnI.lit w' hsz0 (l := [E]) (AllI64.cons iE AllI64.nil) rfl (by simp [maxLen]) 1 rfl
          iterate 8 (refine' chainP_read _ rfl rfl (fun w' hS' => ?_) ?_; rotate_left; · (simp only [lookP, allP, Act.put, List.getElem?_cons_zero, List.getElem?_cons_succ, List.setIfInBounds_toArray, List.set_cons_zero, List.set_cons_succ]; (try dsimp only at hS'); go_simp; (try with_reducible rfl)))
          -- 12: call { callee := value (func 177), args := #[t64, t71], argTypes := #[39, 3] }
          refine chainP_call (d := (some 72)) (.int .i64 Z1) rfl rfl (fun w' hS' => ?_) ?_
          · simp only [lookP, allP, Act.put, List.getElem?_cons_zero, List.getElem?_cons_succ, List.setIfInBounds_toArray, List.set_cons_zero, List.set_cons_succ]
            intro K hK
            go_simp
            go_at_call 177
            refine (impl_exp gr (nth cs 0 + E * m) _ HG.out HN1.out).mono ?_
            rintro e u ⟨rfl, hq⟩
            rw [HZ1.out]
            exact hK.out _ hq
          iterate 8 (refine' chainP_read _ rfl rfl (fun w' hS' => ?_) ?_; rotate_left; · (simp only [lookP, allP, Act.put, List.getElem?_cons_zero, List.getElem?_cons_succ, List.setIfInBounds_toArray, List.set_cons_zero, List.set_cons_succ]; (try dsimp only at hS'); go_simp; (try with_reducible rfl)))
          -- 21: call { callee := value (func 177), args := #[t73, t80], argTypes := #[39, 3] }
          refine chainP_call (d := (some 81)) (.int .i64 Z2) rfl rfl (fun w' hS' => ?_) ?_
          · simp only [lookP, allP, Act.put, List.getElem?_cons_zero, List.getElem?_cons_succ, List.setIfInBounds_toArray, List.set_cons_zero, List.set_cons_succ]
            intro K hK
            go_simp
            go_at_call 177
            refine (impl_exp gr (nth cs 1 + E * r) _ HG.out HN2.out).mono ?_
            rintro e u ⟨rfl, hq⟩
            rw [HZ2.out]
            exact hK.out _ hq
          -- 22: buildSlice 24 2 #[(0, t72), (1, t81)]
          refine chainP_do (d := (some 82)) (fun v u => OwnI u u5.heap.size v [Z1, Z2]) (fun v w1 w2 hw h => OwnI.below h hw) rfl rfl (fun w' hS' => ?_) ?_
          · simp only [lookP, allP, Act.put, List.getElem?_cons_zero, List.getElem?_cons_succ, List.setIfInBounds_toArray, List.set_cons_zero, List.set_cons_succ]
            intro K hK
            go_simp
            have hsz0 := hS'.1.size
            refine hK.out _ _ ((Below.refl _ _).alloc (Nat.le_refl _) _) ?_
            exact OwnI.lit w' hsz0 (l := [Z1, Z2]) (AllI64.cons iZ1 (AllI64.cons iZ2 AllI64.nil)) rfl (by simp [maxLen]) 2 rfl
          refine chainP_nil (fun u6 hS' => ?_)
          simp only [allP, Act.put, List.setIfInBounds_toArray, List.set_cons_zero, List.set_cons_succ]
          intro x22 hx22
          intro x3 hx3
          intro x1 hx1
          have hq6 := hS'.1
          clear hS'
          replace hc := Below.next hc hq6
          clear hq6 c0_0 c0_1 c0_2 c1_0 c1_1 ycv0 ycv1
          obtain ⟨c0_0, c0_1, c0_2, c1_0, c1_1, ycv0, ycv1⟩ := HCC.out _ hc
          have HRE2 := Lib.hid (HR2.out.below hc)
          clear HR2
          have HBE := Lib.hid (HB.out.trans (hc.mono HB.out.size))
          have r2_0 := HRE2.out.cell (i := 0) rfl
          have r2_1 := HRE2.out.cell (i := 1) rfl
          have r2_2 := HRE2.out.cell (i := 2) rfl
          have fr2 := fun j => HRE2.out.frozen j
          obtain ⟨xa1, xc1, rfl⟩ := OwnI.shapeN (n := 1) hx1 rfl
          obtain ⟨xa3, xc3, rfl⟩ := OwnI.shapeN (n := 1) hx3 rfl
          obtain ⟨xa22, xc22, rfl⟩ := OwnI.shapeN (n := 2) hx22 rfl
          go_wp2_with fail
          refine NoPanic.normal ?_
          have HRF := Lib.hid (((HRE2.out.set 0 ((.slice xa1 1 xc1))).set 1 ((.slice xa3 1 xc3))).set 2 ((.slice xa22 2 xc22)))
          have HBF := Lib.hid (((HBE.out.setCell (p := ⟨w.heap.size + 1 + 1, 0, none⟩) (by show w.heap.size ≤ w.heap.size + 1 + 1; omega) ((.slice xa1 1 xc1))).setCell (p := ⟨w.heap.size + 1 + 1, 1, none⟩) (by show w.heap.size ≤ w.heap.size + 1 + 1; omega) ((.slice xa3 1 xc3))).setCell (p := ⟨w.heap.size + 1 + 1, 2, none⟩) (by show w.heap.size ≤ w.heap.size + 1 + 1; omega) ((.slice xa22 2 xc22)))
          clear r2_0 r2_1 r2_2 fr2
          have r2_0 := HRF.out.cell (i := 0) rfl
          have r2_1 := HRF.out.cell (i := 1) rfl
          have r2_2 := HRF.out.cell (i := 2) rfl
          try (go_wp2_with fail)
          have HVB : Hid (poB gr bh bl m r cs = true) := by unfold Hid; have qhc2 := Hhc2.out; simp only [List.all_cons, List.all_nil, Bool.and_true] at qhc2; simp [poB, Hhc1.out, qhc2, hc3, Hhc4.out, HL2.out]
          have HPR : Hid (poR gr sOpen bh bl m r cs = ⟨[X1], [E], [Z1, Z2]⟩) := by unfold Hid poR; rw [if_pos HVB.out]; unfold poD; rw [HC0.out, HX1.out, HE.out, HZ1.out, HZ2.out]
          refine bodyPost_ret (v := .tuple #[.agg #[(.slice xa1 1 xc1), (.slice xa3 1 xc3), (.slice xa22 2 xc22)], .bool true]) (by simp [results, Try.results78, go_sem, r2_0, r2_1, r2_2]) rfl ⟨(by rw [HVB.out, HPR.out]; exact RetP.mk ((((hx1.oth (b := w.heap.size + 1 + 1) (by omega) 0 ((.slice xa1 1 xc1))).oth (b := w.heap.size + 1 + 1) (by omega) 1 ((.slice xa3 1 xc3))).oth (b := w.heap.size + 1 + 1) (by omega) 2 ((.slice xa22 2 xc22))).mono (by omega)) ((((hx3.oth (b := w.heap.size + 1 + 1) (by omega) 0 ((.slice xa1 1 xc1))).oth (b := w.heap.size + 1 + 1) (by omega) 1 ((.slice xa3 1 xc3))).oth (b := w.heap.size + 1 + 1) (by omega) 2 ((.slice xa22 2 xc22))).mono (by omega)) ((((hx22.oth (b := w.heap.size + 1 + 1) (by omega) 0 ((.slice xa1 1 xc1))).oth (b := w.heap.size + 1 + 1) (by omega) 1 ((.slice xa3 1 xc3))).oth (b := w.heap.size + 1 + 1) (by omega) 2 ((.slice xa22 2 xc22))).mono (by omega))), HBF.out⟩
      | true =>
        have HL2 : Hid (decide (cs.length = 2) = false) := by have q := hc3; rw [bne_iff_ne] at q; exact decide_eq_false (by have := Ecv.out; omega)
        have HRE2 := Lib.hid (HR2.out.below hc)
        clear HR2
        have HBE := Lib.hid (HB.out.trans (hc.mono HB.out.size))
        have r2_0 := HRE2.out.cell (i := 0) rfl
        have r2_1 := HRE2.out.cell (i := 1) rfl
        have r2_2 := HRE2.out.cell (i := 2) rfl
        have fr2 := fun j => HRE2.out.frozen j
        go_wp2_with fail
        have HRF := Lib.hid (((HRE2.out.set 0 ((.slice none 0 0))).set 1 ((.slice none 0 0))).set 2 ((.slice none 0 0)))
        have HBF := Lib.hid (((HBE.out.setCell (p := ⟨w.heap.size + 1 + 1, 0, none⟩) (by show w.heap.size ≤ w.heap.size + 1 + 1; omega) ((.slice none 0 0))).setCell (p := ⟨w.heap.size + 1 + 1, 1, none⟩) (by show w.heap.size ≤ w.heap.size + 1 + 1; omega) ((.slice none 0 0))).setCell (p := ⟨w.heap.size + 1 + 1, 2, none⟩) (by show w.heap.size ≤ w.heap.size + 1 + 1; omega) ((.slice none 0 0)))
        clear r2_0 r2_1 r2_2 fr2
        have r2_0 := HRF.out.cell (i := 0) rfl
        have r2_1 := HRF.out.cell (i := 1) rfl
        have r2_2 := HRF.out.cell (i := 2) rfl
        try (go_wp2_with fail)
        have HVB : Hid (poB gr bh bl m r cs = false) := by unfold Hid; have qhc2 := Hhc2.out; simp only [List.all_cons, List.all_nil, Bool.and_true] at qhc2; simp [poB, Hhc1.out, qhc2, hc3, HL2.out]
        have HPR : Hid (poR gr sOpen bh bl m r cs = ⟨[], [], []⟩) := by unfold Hid poR; rw [if_neg (by rw [HVB.out]; simp)]
        refine bodyPost_ret (v := .tuple #[.agg #[(.slice none 0 0), (.slice none 0 0), (.slice none 0 0)], .bool false]) (by simp [results, Try.results78, go_sem, r2_0, r2_1, r2_2]) rfl ⟨(by rw [HVB.out, HPR.out]; exact RetP.mk (OwnI.nil _ _) (OwnI.nil _ _) (OwnI.nil _ _)), HBF.out⟩
set_option maxRecDepth 100000 in
set_option maxHeartbeats 2000000 in
theorem spec_ProveOpening (gr : GroupD) (bh : Int) (bv : Value) (bl : List Int) (m r : Int) (cv : Value) (cs : List Int) (w : World) (hb : Ints w bv bl) (ibh : I64 bh) (hm : I64 m) (hr : I64 r) (hcs : Ints w cv cs) :
    Calls Try.prog 79 #[.agg #[.int .i64 gr.p, .int .i64 gr.q, .int .i64 gr.g], .agg #[.int .i64 bh, bv], .int .i64 m, .int .i64 r, cv] w fun e w' => RetP e w' w.heap.size (poB gr bh bl m r cs) (poR gr sOpen bh bl m r cs) ∧ Below w.heap.size w w' := by
  obtain ⟨bva, bvn, bvc, rfl⟩ := hb.shape
  have Ebv := Lib.hid hb.len
  have Kbv := Lib.hid hb.capMax
  have Hbv := Lib.hid hb
  clear hb
  obtain ⟨cva, cvn, cvc, rfl⟩ := hcs.shape
  have Ecv := Lib.hid hcs.len
  have Kcv := Lib.hid hcs.capMax
  have Hcv := Lib.hid hcs
  clear hcs
  obtain ⟨W, hW⟩ : ∃ W, W = ((w.alloc (.cells #[.int .i64 gr.p, .int .i64 gr.q, .int .i64 gr.g] 39)).alloc (.cells #[.int .i64 bh, (.slice bva bvn bvc)] 79)).alloc (.cells #[(.slice none 0 0), (.slice none 0 0), (.slice none 0 0)] 42) := ⟨_, rfl⟩
  have HB : Hid (Below w.heap.size w W) := by unfold Hid; rw [hW]; (repeat (first | exact Below.refl _ _ | assumption | refine Below.drew ?_ | refine Below.alloc ?_ (by first | (simp; done) | (simp; omega)) _ | refine Below.setCell ?_ (by first | (simp; done) | (simp; omega)) _))
  have c0_0 : W.cell? ⟨w.heap.size, 0, none⟩ = some (.int .i64 gr.p) := by rw [hW]; simp [go_sem]
  have c0_1 : W.cell? ⟨w.heap.size, 1, none⟩ = some (.int .i64 gr.q) := by rw [hW]; simp [go_sem]
  have c0_2 : W.cell? ⟨w.heap.size, 2, none⟩ = some (.int .i64 gr.g) := by rw [hW]; simp [go_sem]
  have c1_0 : W.cell? ⟨w.heap.size + 1, 0, none⟩ = some (.int .i64 bh) := by rw [hW]; simp [go_sem]
  have c1_1 : W.cell? ⟨w.heap.size + 1, 1, none⟩ = some ((.slice bva bvn bvc)) := by rw [hW]; simp [go_sem]
  have HR2 : Hid (BoxN W (w.heap.size + 1 + 1) 42 [(.slice none 0 0), (.slice none 0 0), (.slice none 0 0)]) := by unfold Hid; rw [hW]; have h := (BoxN.new ((w.alloc (.cells #[.int .i64 gr.p, .int .i64 gr.q, .int .i64 gr.g] 39)).alloc (.cells #[.int .i64 bh, (.slice bva bvn bvc)] 79)) [(.slice none 0 0), (.slice none 0 0), (.slice none 0 0)] 42); simpa using h
  have HSW : Hid (W.heap.size = w.heap.size + 3) := by unfold Hid; rw [hW]; simp
  have lr2 : w.heap.size + 1 + 1 < W.heap.size := by have := HSW.out; omega
  go_enter Try.func79, Try.ntmps79
  go_wp2_with fail
  rw [← hW]
  have hse : w.heap.size + 1 + 1 + 1 = W.heap.size := by have := HSW.out; omega
  (try rw [hse])
  clear hse
  clear hW
  have hc : Below W.heap.size W W := Below.refl _ _
  have HCC : Hid (∀ u, Below W.heap.size W u → u.cell? ⟨w.heap.size, 0, none⟩ = some (.int .i64 gr.p) ∧ u.cell? ⟨w.heap.size, 1, none⟩ = some (.int .i64 gr.q) ∧ u.cell? ⟨w.heap.size, 2, none⟩ = some (.int .i64 gr.g) ∧ u.cell? ⟨w.heap.size + 1, 0, none⟩ = some (.int .i64 bh) ∧ u.cell? ⟨w.heap.size + 1, 1, none⟩ = some ((.slice bva bvn bvc))) := fun u h => ⟨box_at c0_0 h, box_at c0_1 h, box_at c0_2 h, box_at c1_0 h, box_at c1_1 h⟩
  go_wp2_with fail
  refine (spec_l9Good gr bh _ bl _ (Hbv.out.below (HB.out.trans (hc.mono HB.out.size))) ibh).mono ?_
  rintro e u1 ⟨rfl, hq1⟩
  replace hc := Below.next hc hq1
  clear hq1 c0_0 c0_1 c0_2 c1_0 c1_1
  obtain ⟨c0_0, c0_1, c0_2, c1_0, c1_1⟩ := HCC.out _ hc
  cases hc1 : baB gr bh bl with
  | false =>
    have Hhc1 := Lib.hid hc1
    clear hc1
    have HRE2 := Lib.hid (HR2.out.below hc)
    clear HR2
    have HBE := Lib.hid (HB.out.trans (hc.mono HB.out.size))
    have r2_0 := HRE2.out.cell (i := 0) rfl
    have r2_1 := HRE2.out.cell (i := 1) rfl
    have r2_2 := HRE2.out.cell (i := 2) rfl
    have fr2 := fun j => HRE2.out.frozen j
    go_wp2_with fail
    have HRF := Lib.hid (((HRE2.out.set 0 ((.slice none 0 0))).set 1 ((.slice none 0 0))).set 2 ((.slice none 0 0)))
    have HBF := Lib.hid (((HBE.out.setCell (p := ⟨w.heap.size + 1 + 1, 0, none⟩) (by show w.heap.size ≤ w.heap.size + 1 + 1; omega) ((.slice none 0 0))).setCell (p := ⟨w.heap.size + 1 + 1, 1, none⟩) (by show w.heap.size ≤ w.heap.size + 1 + 1; omega) ((.slice none 0 0))).setCell (p := ⟨w.heap.size + 1 + 1, 2, none⟩) (by show w.heap.size ≤ w.heap.size + 1 + 1; omega) ((.slice none 0 0)))
    clear r2_0 r2_1 r2_2 fr2
    have r2_0 := HRF.out.cell (i := 0) rfl
    have r2_1 := HRF.out.cell (i := 1) rfl
    have r2_2 := HRF.out.cell (i := 2) rfl
    try (go_wp2_with fail)
    have HVB : Hid (poB gr bh bl m r cs = false) := by unfold Hid; simp [poB, Hhc1.out]
    have HPR : Hid (poR gr sOpen bh bl m r cs = ⟨[], [], []⟩) := by unfold Hid poR; rw [if_neg (by rw [HVB.out]; simp)]
    refine bodyPost_ret (v := .tuple #[.agg #[(.slice none 0 0), (.slice none 0 0), (.slice none 0 0)], .bool false]) (by simp [results, Try.results79, go_sem, r2_0, r2_1, r2_2]) rfl ⟨(by rw [HVB.out, HPR.out]; exact RetP.mk (OwnI.nil _ _) (OwnI.nil _ _) (OwnI.nil _ _)), HBF.out⟩
  | true =>
    have HBA := Lib.hid (baB_parts hc1)
    have HG := Lib.hid (goodG_ok HBA.out.1)
    have sbh : Small bh := elB_small HG.out HBA.out.2.1
    have Hhc1 := Lib.hid hc1
    clear hc1
    go_wp2_with fail
    refine (spec_gExps gr _ [m, r] _ HG.out (OwnI.lit (B := 0) _ (Nat.zero_le _) (l := [m, r]) (AllI64.cons hm (AllI64.cons hr AllI64.nil)) rfl (by simp [maxLen]) 2 rfl).ints).mono ?_
    rintro e u2 ⟨rfl, hq2⟩
    replace hq2 := Below.next (keep_al (Below.refl _ _) _) hq2
    replace hc := Below.next hc hq2
    clear hq2 c0_0 c0_1 c0_2 c1_0 c1_1
    obtain ⟨c0_0, c0_1, c0_2, c1_0, c1_1⟩ := HCC.out _ hc
    cases hc2 : [m, r].all (expB gr) with
    | false =>
      have Hhc2 := Lib.hid hc2
      clear hc2
      have HRE2 := Lib.hid (HR2.out.below hc)
      clear HR2
      have HBE := Lib.hid (HB.out.trans (hc.mono HB.out.size))
      have r2_0 := HRE2.out.cell (i := 0) rfl
      have r2_1 := HRE2.out.cell (i := 1) rfl
      have r2_2 := HRE2.out.cell (i := 2) rfl
      have fr2 := fun j => HRE2.out.frozen j
      go_wp2_with fail
      have HRF := Lib.hid (((HRE2.out.set 0 ((.slice none 0 0))).set 1 ((.slice none 0 0))).set 2 ((.slice none 0 0)))
      have HBF := Lib.hid (((HBE.out.setCell (p := ⟨w.heap.size + 1 + 1, 0, none⟩) (by show w.heap.size ≤ w.heap.size + 1 + 1; omega) ((.slice none 0 0))).setCell (p := ⟨w.heap.size + 1 + 1, 1, none⟩) (by show w.heap.size ≤ w.heap.size + 1 + 1; omega) ((.slice none 0 0))).setCell (p := ⟨w.heap.size + 1 + 1, 2, none⟩) (by show w.heap.size ≤ w.heap.size + 1 + 1; omega) ((.slice none 0 0)))
      clear r2_0 r2_1 r2_2 fr2
      have r2_0 := HRF.out.cell (i := 0) rfl
      have r2_1 := HRF.out.cell (i := 1) rfl
      have r2_2 := HRF.out.cell (i := 2) rfl
      try (go_wp2_with fail)
      have HVB : Hid (poB gr bh bl m r cs = false) := by unfold Hid; have qhc2 := Hhc2.out; simp only [List.all_cons, List.all_nil, Bool.and_true] at qhc2; simp [poB, Hhc1.out, qhc2]
      have HPR : Hid (poR gr sOpen bh bl m r cs = ⟨[], [], []⟩) := by unfold Hid poR; rw [if_neg (by rw [HVB.out]; simp)]
      refine bodyPost_ret (v := .tuple #[.agg #[(.slice none 0 0), (.slice none 0 0), (.slice none 0 0)], .bool false]) (by simp [results, Try.results79, go_sem, r2_0, r2_1, r2_2]) rfl ⟨(by rw [HVB.out, HPR.out]; exact RetP.mk (OwnI.nil _ _) (OwnI.nil _ _) (OwnI.nil _ _)), HBF.out⟩
    | true =>
      have HMR : Hid (expB gr m = true ∧ expB gr r = true) := by unfold Hid; simpa using hc2
      have Hhc2 := Lib.hid hc2
      clear hc2
      cases hc3 : ((cvn : Int) != 2) with
      | false =>
        obtain rfl : cvn = 2 := by have q := hc3; rw [bne_eq_false_iff_eq] at q; omega
        obtain ⟨cvb, cvo, rfl, hx⟩ := Hcv.out.at_ (by omega)
        have Kcv0 : Hid (w.cell? ⟨cvb, cvo, none⟩ = some (.int .i64 (nth cs 0))) := by unfold Hid; have h := hx 0 (by omega); simpa using h
        have Kcv1 : Hid (w.cell? ⟨cvb, cvo + 1, none⟩ = some (.int .i64 (nth cs 1))) := by unfold Hid; have h := hx 1 (by omega); simpa using h
        clear hx
        have ycv0 := box_at Kcv0.out (HB.out.trans (hc.mono HB.out.size))
        have ycv1 := box_at Kcv1.out (HB.out.trans (hc.mono HB.out.size))
        replace HCC : Hid (∀ u, Below W.heap.size W u → u.cell? ⟨w.heap.size, 0, none⟩ = some (.int .i64 gr.p) ∧ u.cell? ⟨w.heap.size, 1, none⟩ = some (.int .i64 gr.q) ∧ u.cell? ⟨w.heap.size, 2, none⟩ = some (.int .i64 gr.g) ∧ u.cell? ⟨w.heap.size + 1, 0, none⟩ = some (.int .i64 bh) ∧ u.cell? ⟨w.heap.size + 1, 1, none⟩ = some ((.slice bva bvn bvc)) ∧ u.cell? ⟨cvb, cvo, none⟩ = some (.int .i64 (nth cs 0)) ∧ u.cell? ⟨cvb, cvo + 1, none⟩ = some (.int .i64 (nth cs 1))) := fun u h => by obtain ⟨c0_0, c0_1, c0_2, c1_0, c1_1⟩ := HCC.out u h; exact ⟨c0_0, c0_1, c0_2, c1_0, c1_1, box_at Kcv0.out (HB.out.trans (h.mono HB.out.size)), box_at Kcv1.out (HB.out.trans (h.mono HB.out.size))⟩
        have HL2 : Hid (decide (cs.length = 2) = true) := decide_eq_true Ecv.out
        go_wp2_with fail
        refine (spec_gExps gr _ cs _ HG.out (Hcv.out.below (HB.out.trans (hc.mono HB.out.size)))).mono ?_
        rintro e u3 ⟨rfl, hq3⟩
        replace hc := Below.next hc hq3
        clear hq3 c0_0 c0_1 c0_2 c1_0 c1_1 ycv0 ycv1
        obtain ⟨c0_0, c0_1, c0_2, c1_0, c1_1, ycv0, ycv1⟩ := HCC.out _ hc
        cases hc4 : cs.all (expB gr) with
        | false =>
          have Hhc4 := Lib.hid hc4
          clear hc4
          have HRE2 := Lib.hid (HR2.out.below hc)
          clear HR2
          have HBE := Lib.hid (HB.out.trans (hc.mono HB.out.size))
          have r2_0 := HRE2.out.cell (i := 0) rfl
          have r2_1 := HRE2.out.cell (i := 1) rfl
          have r2_2 := HRE2.out.cell (i := 2) rfl
          have fr2 := fun j => HRE2.out.frozen j
          go_wp2_with fail
          have HRF := Lib.hid (((HRE2.out.set 0 ((.slice none 0 0))).set 1 ((.slice none 0 0))).set 2 ((.slice none 0 0)))
          have HBF := Lib.hid (((HBE.out.setCell (p := ⟨w.heap.size + 1 + 1, 0, none⟩) (by show w.heap.size ≤ w.heap.size + 1 + 1; omega) ((.slice none 0 0))).setCell (p := ⟨w.heap.size + 1 + 1, 1, none⟩) (by show w.heap.size ≤ w.heap.size + 1 + 1; omega) ((.slice none 0 0))).setCell (p := ⟨w.heap.size + 1 + 1, 2, none⟩) (by show w.heap.size ≤ w.heap.size + 1 + 1; omega) ((.slice none 0 0)))
          clear r2_0 r2_1 r2_2 fr2
          have r2_0 := HRF.out.cell (i := 0) rfl
          have r2_1 := HRF.out.cell (i := 1) rfl
          have r2_2 := HRF.out.cell (i := 2) rfl
          try (go_wp2_with fail)
          have HVB : Hid (poB gr bh bl m r cs = false) := by unfold Hid; have qhc2 := Hhc2.out; simp only [List.all_cons, List.all_nil, Bool.and_true] at qhc2; simp [poB, Hhc1.out, qhc2, hc3, Hhc4.out, HL2.out]
          have HPR : Hid (poR gr sOpen bh bl m r cs = ⟨[], [], []⟩) := by unfold Hid poR; rw [if_neg (by rw [HVB.out]; simp)]
          refine bodyPost_ret (v := .tuple #[.agg #[(.slice none 0 0), (.slice none 0 0), (.slice none 0 0)], .bool false]) (by simp [results, Try.results79, go_sem, r2_0, r2_1, r2_2]) rfl ⟨(by rw [HVB.out, HPR.out]; exact RetP.mk (OwnI.nil _ _) (OwnI.nil _ _) (OwnI.nil _ _)), HBF.out⟩
        | true =>
          have zq1 := HG.out.q1
          have zq2 := HG.out.q2
          have zp2 := HG.out.p2
          have zq3 : gr.q ≤ 2000000000 := by omega
          have zq0 : 0 < gr.q := by omega
          have zq4 : gr.q ≤ 4000000000 := by omega
          obtain ⟨m1, m2⟩ := expB_bd HMR.out.1
          obtain ⟨r1, r2⟩ := expB_bd HMR.out.2
          have HX2 := Lib.hid (all_two Ecv.out hc4)
          obtain ⟨a1, a2⟩ := expB_bd HX2.out.1
          obtain ⟨b1, b2⟩ := expB_bd HX2.out.2
          obtain ⟨X1, hX1⟩ : ∃ x, coM gr bh (nth cs 0) (nth cs 1) = x := ⟨_, rfl⟩
          have HX1 := Lib.hid hX1
          have sX1 : Small X1 := hX1 ▸ coM_small HG.out bh (nth cs 0) (nth cs 1)
          obtain ⟨C0, hC0⟩ : ∃ x, coM gr bh m r = x := ⟨_, rfl⟩
          have HC0 := Lib.hid hC0
          have sC0 : Small C0 := hC0 ▸ coM_small HG.out bh m r
          obtain ⟨E, hE⟩ : ∃ x, opE gr sOpen bh C0 X1 = x := ⟨_, rfl⟩
          have HE := Lib.hid hE
          have he := chV_bd HG.out sOpen [bh, C0, X1]
          obtain ⟨e1, e2⟩ : 0 ≤ E ∧ E < gr.q := hE ▸ he
          have iE : I64 E := ⟨by omega, by omega⟩
          clear hX1 hC0 hE he
          obtain ⟨pp1, pp2⟩ := mul_bnd (a := E) (b := m) (by omega) (by omega) (by omega) (by omega)
          have ewa1 : IntKind.i64.wrap (E * m) = E * m := IntWalk.i64_in _ (by omega)
          have ewb1 : IntKind.i64.wrap (nth cs 0 + E * m) = nth cs 0 + E * m := IntWalk.i64_in _ (by omega)
          have HN1 : Hid (I64 (nth cs 0 + E * m)) := ⟨by omega, by omega⟩
          clear pp1 pp2
          obtain ⟨Z1, hZ1⟩ : ∃ x, (nth cs 0 + E * m) % gr.q = x := ⟨_, rfl⟩
          have HZ1 := Lib.hid hZ1
          have iZ1 : I64 Z1 := by rw [← hZ1]; have z1 : 0 ≤ (nth cs 0 + E * m) % gr.q := Int.emod_nonneg _ (by omega); have z2 : (nth cs 0 + E * m) % gr.q < gr.q := Int.emod_lt_of_pos _ (by omega); exact ⟨by omega, by omega⟩
          clear hZ1
          obtain ⟨pp1, pp2⟩ := mul_bnd (a := E) (b := r) (by omega) (by omega) (by omega) (by omega)
          have ewa2 : IntKind.i64.wrap (E * r) = E * r := IntWalk.i64_in _ (by omega)
          have ewb2 : IntKind.i64.wrap (nth cs 1 + E * r) = nth cs 1 + E * r := IntWalk.i64_in _ (by omega)
          have HN2 : Hid (I64 (nth cs 1 + E * r)) := ⟨by omega, by omega⟩
          clear pp1 pp2
          obtain ⟨Z2, hZ2⟩ : ∃ x, (nth cs 1 + E * r) % gr.q = x := ⟨_, rfl⟩
          have HZ2 := Lib.hid hZ2
          have iZ2 : I64 Z2 := by rw [← hZ2]; have z1 : 0 ≤ (nth cs 1 + E * r) % gr.q := Int.emod_nonneg _ (by omega); have z2 : (nth cs 1 + E * r) % gr.q < gr.q := Int.emod_lt_of_pos _ (by omega); exact ⟨by omega, by omega⟩
          clear hZ2
          have Hhc4 := Lib.hid hc4
          clear hc4
          have hszr := hc.size
          try (go_wp2_with fail)
          refine wp_region_noPanic ?_
          refine wp_region_P (fun w' => w'.cell? ⟨w.heap.size, 0, none⟩ = some (.int .i64 gr.p) ∧ w'.cell? ⟨w.heap.size, 1, none⟩ = some (.int .i64 gr.q) ∧ w'.cell? ⟨w.heap.size, 2, none⟩ = some (.int .i64 gr.g) ∧ w'.cell? ⟨w.heap.size + 1, 0, none⟩ = some (.int .i64 bh) ∧ w'.cell? ⟨w.heap.size + 1, 1, none⟩ = some ((.slice bva bvn bvc)) ∧ w'.cell? ⟨cvb, cvo, none⟩ = some (.int .i64 (nth cs 0)) ∧ w'.cell? ⟨cvb, cvo + 1, none⟩ = some (.int .i64 (nth cs 1))) 12 [(0, []), (1, []), (2, []), (3, [0]), (4, [0]), (5, []), (6, [0]), (7, [0]), (8, [7, 6, 3, 0]), (9, [0])] [] (by kernel_rfl) (by kernel_rfl) (by kernel_rfl) rfl (fun _ _ _ _ h => h) (fun w' h => ⟨box_at c0_0 h, box_at c0_1 h, box_at c0_2 h, box_at c1_0 h, box_at c1_1 h, box_at ycv0 h, box_at ycv1 h⟩) ?_
          simp only [pickP, pickN, List.getElem?_cons_zero, List.getElem?_cons_succ]
          iterate 8 (refine' chainP_read _ rfl rfl (fun w' hS' => ?_) ?_; rotate_left; · (simp only [lookP, allP, Act.put, List.getElem?_cons_zero, List.getElem?_cons_succ, List.setIfInBounds_toArray, List.set_cons_zero, List.set_cons_succ]; (try dsimp only at hS'); go_simp; (try with_reducible rfl)))
          -- 8: call { callee := value (func 173), args := #[t38, t39, t42, t45], argTypes := #[39, 79, 3, 3] }
          refine chainP_call (d := (some 46)) (.int .i64 X1) rfl rfl (fun w' hS' => ?_) ?_
          · simp only [lookP, allP, Act.put, List.getElem?_cons_zero, List.getElem?_cons_succ, List.setIfInBounds_toArray, List.set_cons_zero, List.set_cons_succ]
            intro K hK
            go_simp
            go_at_call 173
            refine (spec_pCommit gr bh _ bl (nth cs 0) (nth cs 1) _ HG.out ((Hbv.out.below (HB.out.trans (hc.mono HB.out.size))).below hS'.1) sbh ⟨by omega, by omega⟩ ⟨by omega, by omega⟩).mono ?_
            rintro e u ⟨rfl, hq⟩
            rw [HX1.out]
            exact hK.out _ hq
          -- 9: assign t46
          refine' chainP_read (d := (some 12)) _ rfl rfl (fun w' hS' => ?_) ?_; rotate_left
          · simp only [lookP, allP, Act.put, List.getElem?_cons_zero, List.getElem?_cons_succ, List.setIfInBounds_toArray, List.set_cons_zero, List.set_cons_succ]
            (try dsimp only at hS')
            go_simp
            (try with_reducible rfl)
          refine chainP_nil (fun u4 hS' => ?_)
          simp only [allP, Act.put, List.setIfInBounds_toArray, List.set_cons_zero, List.set_cons_succ]
          have hq4 := hS'.1
          clear hS'
          replace hc := Below.next hc hq4
          clear hq4 c0_0 c0_1 c0_2 c1_0 c1_1 ycv0 ycv1
          obtain ⟨c0_0, c0_1, c0_2, c1_0, c1_1, ycv0, ycv1⟩ := HCC.out _ hc
          go_wp2_with fail
          refine NoPanic.normal ?_
          have hszr := hc.size
          try (go_wp2_with fail)
          refine wp_region_noPanic ?_
          refine wp_region_P (fun w' => w'.cell? ⟨w.heap.size, 0, none⟩ = some (.int .i64 gr.p) ∧ w'.cell? ⟨w.heap.size, 1, none⟩ = some (.int .i64 gr.q) ∧ w'.cell? ⟨w.heap.size, 2, none⟩ = some (.int .i64 gr.g) ∧ w'.cell? ⟨w.heap.size + 1, 0, none⟩ = some (.int .i64 bh) ∧ w'.cell? ⟨w.heap.size + 1, 1, none⟩ = some ((.slice bva bvn bvc)) ∧ w'.cell? ⟨cvb, cvo, none⟩ = some (.int .i64 (nth cs 0)) ∧ w'.cell? ⟨cvb, cvo + 1, none⟩ = some (.int .i64 (nth cs 1))) 12 [(0, []), (1, []), (2, []), (3, []), (4, []), (5, []), (6, [3, 2, 1, 0]), (7, []), (8, [7, 6, 1, 0]), (9, [0])] [] (by kernel_rfl) (by kernel_rfl) (by kernel_rfl) rfl (fun _ _ _ _ h => h) (fun w' h => ⟨box_at c0_0 h, box_at c0_1 h, box_at c0_2 h, box_at c1_0 h, box_at c1_1 h, box_at ycv0 h, box_at ycv1 h⟩) ?_
          simp only [pickP, pickN, List.getElem?_cons_zero, List.getElem?_cons_succ]
          iterate 6 (refine' chainP_read _ rfl rfl (fun w' hS' => ?_) ?_; rotate_left; · (simp only [lookP, allP, Act.put, List.getElem?_cons_zero, List.getElem?_cons_succ, List.setIfInBounds_toArray, List.set_cons_zero, List.set_cons_succ]; (try dsimp only at hS'); go_simp; (try with_reducible rfl)))
          -- 6: call { callee := value (func 173), args := #[t49, t50, t51, t52], argTypes := #[39, 79, 3, 3] }
          refine chainP_call (d := (some 53)) (.int .i64 C0) rfl rfl (fun w' hS' => ?_) ?_
          · simp only [lookP, allP, Act.put, List.getElem?_cons_zero, List.getElem?_cons_succ, List.setIfInBounds_toArray, List.set_cons_zero, List.set_cons_succ]
            intro K hK
            go_simp
            go_at_call 173
            refine (spec_pCommit gr bh _ bl m r _ HG.out ((Hbv.out.below (HB.out.trans (hc.mono HB.out.size))).below hS'.1) sbh hm hr).mono ?_
            rintro e u ⟨rfl, hq⟩
            rw [HC0.out]
            exact hK.out _ hq
          -- 7: move t12
          refine' chainP_read (d := (some 54)) _ rfl rfl (fun w' hS' => ?_) ?_; rotate_left
          · simp only [lookP, allP, Act.put, List.getElem?_cons_zero, List.getElem?_cons_succ, List.setIfInBounds_toArray, List.set_cons_zero, List.set_cons_succ]
            (try dsimp only at hS')
            go_simp
            (try with_reducible rfl)
          -- 8: call { callee := value (func 199), args := #[t47, t48, t53, t54], argTypes := #[39, 79, 3, 3] }
          refine chainP_call (d := (some 55)) (.int .i64 E) rfl rfl (fun w' hS' => ?_) ?_
          · simp only [lookP, allP, Act.put, List.getElem?_cons_zero, List.getElem?_cons_succ, List.setIfInBounds_toArray, List.set_cons_zero, List.set_cons_succ]
            intro K hK
            go_simp
            go_at_call 199
            refine (spec_l9Challenge gr bh _ bl C0 X1 _ HG.out ((Hbv.out.below (HB.out.trans (hc.mono HB.out.size))).below hS'.1) sbh sC0 sX1).mono ?_
            rintro e u ⟨rfl, hq⟩
            rw [HE.out]
            exact hK.out _ hq
          -- 9: assign t55
          refine' chainP_read (d := (some 13)) _ rfl rfl (fun w' hS' => ?_) ?_; rotate_left
          · simp only [lookP, allP, Act.put, List.getElem?_cons_zero, List.getElem?_cons_succ, List.setIfInBounds_toArray, List.set_cons_zero, List.set_cons_succ]
            (try dsimp only at hS')
            go_simp
            (try with_reducible rfl)
          refine chainP_nil (fun u5 hS' => ?_)
          simp only [allP, Act.put, List.setIfInBounds_toArray, List.set_cons_zero, List.set_cons_succ]
          have hq5 := hS'.1
          clear hS'
          replace hc := Below.next hc hq5
          clear hq5 c0_0 c0_1 c0_2 c1_0 c1_1 ycv0 ycv1
          obtain ⟨c0_0, c0_1, c0_2, c1_0, c1_1, ycv0, ycv1⟩ := HCC.out _ hc
          go_wp2_with fail
          refine NoPanic.normal ?_
          have hszr := hc.size
          try (go_wp2_with fail)
          refine wp_region_noPanic ?_
          refine wp_region_P (fun w' => w'.cell? ⟨w.heap.size, 0, none⟩ = some (.int .i64 gr.p) ∧ w'.cell? ⟨w.heap.size, 1, none⟩ = some (.int .i64 gr.q) ∧ w'.cell? ⟨w.heap.size, 2, none⟩ = some (.int .i64 gr.g) ∧ w'.cell? ⟨w.heap.size + 1, 0, none⟩ = some (.int .i64 bh) ∧ w'.cell? ⟨w.heap.size + 1, 1, none⟩ = some ((.slice bva bvn bvc)) ∧ w'.cell? ⟨cvb, cvo, none⟩ = some (.int .i64 (nth cs 0)) ∧ w'.cell? ⟨cvb, cvo + 1, none⟩ = some (.int .i64 (nth cs 1))) 30 [(0, []), (1, [0]), (2, []), (3, [0]), (4, []), (5, [0]), (6, [0]), (7, []), (8, []), (9, [1, 0]), (10, [3, 0]), (11, []), (12, [0]), (13, [2, 0]), (14, []), (15, [0]), (16, [0]), (17, []), (18, []), (19, [1, 0]), (20, [3, 0]), (21, []), (22, [0]), (23, [2, 0]), (24, [10, 0])] [25, 26, 27] (by kernel_rfl) (by kernel_rfl) (by kernel_rfl) rfl (fun _ _ _ _ h => h) (fun w' h => ⟨box_at c0_0 h, box_at c0_1 h, box_at c0_2 h, box_at c1_0 h, box_at c1_1 h, box_at ycv0 h, box_at ycv1 h⟩) ?_
          simp only [pickP, pickN, List.getElem?_cons_zero, List.getElem?_cons_succ]
          -- 0: move t12
          refine' chainP_read (d := (some 56)) _ rfl rfl (fun w' hS' => ?_) ?_; rotate_left
          · simp only [lookP, allP, Act.put, List.getElem?_cons_zero, List.getElem?_cons_succ, List.setIfInBounds_toArray, List.set_cons_zero, List.set_cons_succ]
            (try dsimp only at hS')
            go_simp
            (try with_reducible rfl)
          -- 1: buildSlice 24 1 #[(0, t56)]
          refine chainP_do (d := (some 57)) (fun v u => OwnI u u5.heap.size v [X1]) (fun v w1 w2 hw h => OwnI.below h hw) rfl rfl (fun w' hS' => ?_) ?_
          · simp only [lookP, allP, Act.put, List.getElem?_cons_zero, List.getElem?_cons_succ, List.setIfInBounds_toArray, List.set_cons_zero, List.set_cons_succ]
            intro K hK
            go_simp
            have hsz0 := hS'.1.size
            refine hK.out _ _ ((Below.refl _ _).alloc (Nat.le_refl _) _) ?_
            exact OwnI.lit w' hsz0 (l := [X1]) (AllI64.cons (small_64 sX1) AllI64.nil) rfl (by simp [maxLen]) 1 rfl
          -- 2: move t13
          refine' chainP_read (d := (some 58)) _ rfl rfl (fun w' hS' => ?_) ?_; rotate_left
          · simp only [lookP, allP, Act.put, List.getElem?_cons_zero, List.getElem?_cons_succ, List.setIfInBounds_toArray, List.set_cons_zero, List.set_cons_succ]
            (try dsimp only at hS')
            go_simp
            (try with_reducible rfl)
          -- 3: buildSlice 24 1 #[(0, t58)]
          refine chainP_do (d := (some 59)) (fun v u => OwnI u u5.heap.size v [E]) (fun v w1 w2 hw h => OwnI.below h hw) rfl rfl (fun w' hS' => ?_) ?_
          · simp only [lookP, allP, Act.put, List.getElem?_cons_zero, List.getElem?_cons_succ, List.setIfInBounds_toArray, List.set_cons_zero, List.set_cons_succ]
            intro K hK
            go_simp
            have hsz0 := hS'.1.size
            refine hK.out _ _ ((Below.refl _ _).alloc (Nat.le_refl _) _) ?_
            exact OwnI.lit w' hsz0 (l := [E]) (AllI64.cons iE AllI64.nil) rfl (by simp [maxLen]) 1 rfl
          iterate 9 (refine' chainP_read _ rfl rfl (fun w' hS' => ?_) ?_; rotate_left; · (simp only [lookP, allP, Act.put, List.getElem?_cons_zero, List.getElem?_cons_succ, List.setIfInBounds_toArray, List.set_cons_zero, List.set_cons_succ]; (try dsimp only at hS'); go_simp; (try with_reducible rfl)))
          -- 13: call { callee := value (func 180), args := #[t66, t68], argTypes := #[3, 3] }
          refine chainP_call (d := (some 69)) (.int .i64 Z1) rfl rfl (fun w' hS' => ?_) ?_
          · simp only [lookP, allP, Act.put, List.getElem?_cons_zero, List.getElem?_cons_succ, List.setIfInBounds_toArray, List.set_cons_zero, List.set_cons_succ]
            intro K hK
            go_simp
            go_at_call 180
            refine (spec_nMod (nth cs 0 + E * m) gr.q _ HN1.out zq0 zq4).mono ?_
            rintro e u ⟨rfl, rfl⟩
            rw [HZ1.out]
            exact hK.out _ (Below.refl _ _)
          iterate 9 (refine' chainP_read _ rfl rfl (fun w' hS' => ?_) ?_; rotate_left; · (simp only [lookP, allP, Act.put, List.getElem?_cons_zero, List.getElem?_cons_succ, List.setIfInBounds_toArray, List.set_cons_zero, List.set_cons_succ]; (try dsimp only at hS'); go_simp; (try with_reducible rfl)))
          -- 23: call { callee := value (func 180), args := #[t76, t78], argTypes := #[3, 3] }
          refine chainP_call (d := (some 79)) (.int .i64 Z2) rfl rfl (fun w' hS' => ?_) ?_
          · simp only [lookP, allP, Act.put, List.getElem?_cons_zero, List.getElem?_cons_succ, List.setIfInBounds_toArray, List.set_cons_zero, List.set_cons_succ]
            intro K hK
            go_simp
            go_at_call 180
            refine (spec_nMod (nth cs 1 + E * r) gr.q _ HN2.out zq0 zq4).mono ?_
            rintro e u ⟨rfl, rfl⟩
            rw [HZ2.out]
            exact hK.out _ (Below.refl _ _)
          -- 24: buildSlice 24 2 #[(0, t69), (1, t79)]
          refine chainP_do (d := (some 80)) (fun v u => OwnI u u5.heap.size v [Z1, Z2]) (fun v w1 w2 hw h => OwnI.below h hw) rfl rfl (fun w' hS' => ?_) ?_
          · simp only [lookP, allP, Act.put, List.getElem?_cons_zero, List.getElem?_cons_succ, List.setIfInBounds_toArray, List.set_cons_zero, List.set_cons_succ]
            intro K hK
            go_simp
            have hsz0 := hS'.1.size
            refine hK.out _ _ ((Below.refl _ _).alloc (Nat.le_refl _) _) ?_
            exact OwnI.lit w' hsz0 (l := [Z1, Z2]) (AllI64.cons iZ1 (AllI64.cons iZ2 AllI64.nil)) rfl (by simp [maxLen]) 2 rfl
          refine chainP_nil (fun u6 hS' => ?_)
          simp only [allP, Act.put, List.setIfInBounds_toArray, List.set_cons_zero, List.set_cons_succ]
          intro x24 hx24
          intro x3 hx3
          intro x1 hx1
          have hq6 := hS'.1
          clear hS'
          replace hc := Below.next hc hq6
          clear hq6 c0_0 c0_1 c0_2 c1_0 c1_1 ycv0 ycv1
          obtain ⟨c0_0, c0_1, c0_2, c1_0, c1_1, ycv0, ycv1⟩ := HCC.out _ hc
          have HRE2 := Lib.hid (HR2.out.below hc)
          clear HR2
          have HBE := Lib.hid (HB.out.trans (hc.mono HB.out.size))
          have r2_0 := HRE2.out.cell (i := 0) rfl
          have r2_1 := HRE2.out.cell (i := 1) rfl
          have r2_2 := HRE2.out.cell (i := 2) rfl
          have fr2 := fun j => HRE2.out.frozen j
          obtain ⟨xa1, xc1, rfl⟩ := OwnI.shapeN (n := 1) hx1 rfl
          obtain ⟨xa3, xc3, rfl⟩ := OwnI.shapeN (n := 1) hx3 rfl
          obtain ⟨xa24, xc24, rfl⟩ := OwnI.shapeN (n := 2) hx24 rfl
          go_wp2_with fail
          refine NoPanic.normal ?_
          have HRF := Lib.hid (((HRE2.out.set 0 ((.slice xa1 1 xc1))).set 1 ((.slice xa3 1 xc3))).set 2 ((.slice xa24 2 xc24)))
          have HBF := Lib.hid (((HBE.out.setCell (p := ⟨w.heap.size + 1 + 1, 0, none⟩) (by show w.heap.size ≤ w.heap.size + 1 + 1; omega) ((.slice xa1 1 xc1))).setCell (p := ⟨w.heap.size + 1 + 1, 1, none⟩) (by show w.heap.size ≤ w.heap.size + 1 + 1; omega) ((.slice xa3 1 xc3))).setCell (p := ⟨w.heap.size + 1 + 1, 2, none⟩) (by show w.heap.size ≤ w.heap.size + 1 + 1; omega) ((.slice xa24 2 xc24)))
          clear r2_0 r2_1 r2_2 fr2
          have r2_0 := HRF.out.cell (i := 0) rfl
          have r2_1 := HRF.out.cell (i := 1) rfl
          have r2_2 := HRF.out.cell (i := 2) rfl
          try (go_wp2_with fail)
          have HVB : Hid (poB gr bh bl m r cs = true) := by unfold Hid; have qhc2 := Hhc2.out; simp only [List.all_cons, List.all_nil, Bool.and_true] at qhc2; simp [poB, Hhc1.out, qhc2, hc3, Hhc4.out, HL2.out]
          have HPR : Hid (poR gr sOpen bh bl m r cs = ⟨[X1], [E], [Z1, Z2]⟩) := by unfold Hid poR; rw [if_pos HVB.out]; unfold poD; rw [HC0.out, HX1.out, HE.out, HZ1.out, HZ2.out]
          refine bodyPost_ret (v := .tuple #[.agg #[(.slice xa1 1 xc1), (.slice xa3 1 xc3), (.slice xa24 2 xc24)], .bool true]) (by simp [results, Try.results79, go_sem, r2_0, r2_1, r2_2]) rfl ⟨(by rw [HVB.out, HPR.out]; exact RetP.mk ((((hx1.oth (b := w.heap.size + 1 + 1) (by omega) 0 ((.slice xa1 1 xc1))).oth (b := w.heap.size + 1 + 1) (by omega) 1 ((.slice xa3 1 xc3))).oth (b := w.heap.size + 1 + 1) (by omega) 2 ((.slice xa24 2 xc24))).mono (by omega)) ((((hx3.oth (b := w.heap.size + 1 + 1) (by omega) 0 ((.slice xa1 1 xc1))).oth (b := w.heap.size + 1 + 1) (by omega) 1 ((.slice xa3 1 xc3))).oth (b := w.heap.size + 1 + 1) (by omega) 2 ((.slice xa24 2 xc24))).mono (by omega)) ((((hx24.oth (b := w.heap.size + 1 + 1) (by omega) 0 ((.slice xa1 1 xc1))).oth (b := w.heap.size + 1 + 1) (by omega) 1 ((.slice xa3 1 xc3))).oth (b := w.heap.size + 1 + 1) (by omega) 2 ((.slice xa24 2 xc24))).mono (by omega))), HBF.out⟩
      | true =>
        have HL2 : Hid (decide (cs.length = 2) = false) := by have q := hc3; rw [bne_iff_ne] at q; exact decide_eq_false (by have := Ecv.out; omega)
        have HRE2 := Lib.hid (HR2.out.below hc)
        clear HR2
        have HBE := Lib.hid (HB.out.trans (hc.mono HB.out.size))
        have r2_0 := HRE2.out.cell (i := 0) rfl
        have r2_1 := HRE2.out.cell (i := 1) rfl
        have r2_2 := HRE2.out.cell (i := 2) rfl
        have fr2 := fun j => HRE2.out.frozen j
        go_wp2_with fail
        have HRF := Lib.hid (((HRE2.out.set 0 ((.slice none 0 0))).set 1 ((.slice none 0 0))).set 2 ((.slice none 0 0)))
        have HBF := Lib.hid (((HBE.out.setCell (p := ⟨w.heap.size + 1 + 1, 0, none⟩) (by show w.heap.size ≤ w.heap.size + 1 + 1; omega) ((.slice none 0 0))).setCell (p := ⟨w.heap.size + 1 + 1, 1, none⟩) (by show w.heap.size ≤ w.heap.size + 1 + 1; omega) ((.slice none 0 0))).setCell (p := ⟨w.heap.size + 1 + 1, 2, none⟩) (by show w.heap.size ≤ w.heap.size + 1 + 1; omega) ((.slice none 0 0)))
        clear r2_0 r2_1 r2_2 fr2
        have r2_0 := HRF.out.cell (i := 0) rfl
        have r2_1 := HRF.out.cell (i := 1) rfl
        have r2_2 := HRF.out.cell (i := 2) rfl
        try (go_wp2_with fail)
        have HVB : Hid (poB gr bh bl m r cs = false) := by unfold Hid; have qhc2 := Hhc2.out; simp only [List.all_cons, List.all_nil, Bool.and_true] at qhc2; simp [poB, Hhc1.out, qhc2, hc3, HL2.out]
        have HPR : Hid (poR gr sOpen bh bl m r cs = ⟨[], [], []⟩) := by unfold Hid poR; rw [if_neg (by rw [HVB.out]; simp)]
        refine bodyPost_ret (v := .tuple #[.agg #[(.slice none 0 0), (.slice none 0 0), (.slice none 0 0)], .bool false]) (by simp [results, Try.results79, go_sem, r2_0, r2_1, r2_2]) rfl ⟨(by rw [HVB.out, HPR.out]; exact RetP.mk (OwnI.nil _ _) (OwnI.nil _ _) (OwnI.nil _ _)), HBF.out⟩
end Go.Proofs.Ytboahnklilmdpaa
