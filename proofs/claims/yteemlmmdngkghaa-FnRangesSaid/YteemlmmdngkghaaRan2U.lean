/- Proofs of ranges made: walks (printed by gen_ran2.py). -/
import Derived.Test.YteemlmmdngkghaaRanMU
import Derived.Test.YteemlmmdngkghaaBit2U
namespace Go.Proofs.Yteemlmmdngkghaa
open Go.RowKit
set_option linter.unusedSimpArgs false
set_option linter.unusedVariables false

theorem Parted.since {u Y : World} {B : Nat} {x z : Value} {l1 l2 : List Int} (h1 : OwnI u Y.heap.size x l1) (h2 : OwnI Y B z l2) : Parted x z := by
  cases e : x.ownBlock with
  | none => exact .inl e
  | some k =>
    refine .inr fun e2 => ?_
    have a := (h1.lt k e).1
    rw [e] at e2
    have b := (h2.lt k e2.symm).2
    omega
/-- a proof of a range in new memory is returned -/
def RetG (e : Ending) (w : World) (B : Nat) (d : RangeD) : Prop := ∃ x y, e = .returned (.agg #[x, y]) ∧ OwnI w B x d.b ∧ OwnQ w B x y d.p
theorem RetG.mk {w : World} {B : Nat} {x y : Value} {d : RangeD} (h1 : OwnI w B x d.b) (h2 : OwnQ w B x y d.p) : RetG (.returned (.agg #[x, y])) w B d := ⟨x, y, rfl, h1, h2⟩
theorem OwnQ.mono {w : World} {B B' : Nat} {z v : Value} {ds : List ProofD} (h : OwnQ w B z v ds) (hB : B' ≤ B) : OwnQ w B' z v ds := by
  obtain ⟨css, hl, hO, hel⟩ := h
  refine ⟨css, hl, ownsRow_mono hO hB, fun i h1 h2 => ?_⟩
  obtain ⟨x, y, u, e, ⟨q1, p1⟩, ⟨q2, p2⟩, ⟨q3, p3⟩⟩ := hel i h1 h2
  exact ⟨x, y, u, e, ⟨q1.mono hB, p1⟩, ⟨q2.mono hB, p2⟩, ⟨q3.mono hB, p3⟩⟩
theorem OwnQ.shapeN {w : World} {B n : Nat} {z v : Value} {ds : List ProofD} (h : OwnQ w B z v ds) (hn : ds.length = n) : ∃ a c, v = .slice a n c := by subst hn; exact h.len64
theorem rgB_len (gr : GroupD) (bh m : Int) (rs : List Int) (n : Nat) : (rgB gr bh m rs n).length = n := by unfold rgB; simp
theorem rgP_len (gr : GroupD) (s : ByteArray) (bh m : Int) (rs cs : List Int) (n : Nat) : (rgP gr s bh m rs cs n).length = n := by unfold rgP; simp
/-- the own numbers behind k steps -/
def rgS (q r : Int) (cs : List Int) (N k : Nat) : List Int := rg0 q r cs k :: cs.take (N - 1)
theorem rgS_zero (q r : Int) (cs : List Int) (N : Nat) : [r] ++ cs.take (N - 1) = rgS q r cs N 0 := rfl
theorem rgS_length {q r : Int} {cs : List Int} {N k : Nat} (h : N - 1 ≤ cs.length) (h1 : 1 ≤ N) : (rgS q r cs N k).length = N := by
  unfold rgS; rw [List.length_cons, List.length_take]; omega
theorem rgS_at0 (q r : Int) (cs : List Int) (N k : Nat) : nth (rgS q r cs N k) 0 = rg0 q r cs k := rfl
theorem rgS_at {q r : Int} {cs : List Int} {N k j : Nat} (h1 : 1 ≤ j) (h2 : j < N) : nth (rgS q r cs N k) j = nth cs (j - 1) := by
  obtain ⟨i, rfl⟩ : ∃ i, j = i + 1 := ⟨j - 1, by omega⟩
  unfold rgS nth
  simp only [List.getD_cons_succ, Nat.add_sub_cancel]
  simp [List.getD, List.getElem?_take, show i < N - 1 by omega]
theorem rgS_set {q r : Int} {cs : List Int} {N j : Nat} (h1 : 1 ≤ j) : (rgS q r cs N (j - 1)).set 0 ((rg0 q r cs (j - 1) - (2 ^ j * nth cs (j - 1)) % q) % q) = rgS q r cs N j := by
  obtain ⟨i, rfl⟩ : ∃ i, j = i + 1 := ⟨j - 1, by omega⟩
  rfl
theorem rgS_last (q r : Int) (cs : List Int) (N : Nat) : rgS q r cs N (N - 1) = rgL q r cs N := rfl
theorem rg0_bd {q r : Int} {cs : List Int} (hq : 0 < q) (h1 : 0 ≤ r) (h2 : r < q) (k : Nat) : 0 ≤ rg0 q r cs k ∧ rg0 q r cs k < q := by
  cases k with
  | zero => exact ⟨h1, h2⟩
  | succ k => exact ⟨Int.emod_nonneg _ (by omega), Int.emod_lt_of_pos _ hq⟩
theorem exp_of {gr : GroupD} {x : Int} (h1 : 0 ≤ x) (h2 : x < gr.q) : expB gr x = true := by
  unfold expB; simp; omega
theorem take_map_succ {α : Type} (f : Nat → α) {n k : Nat} (h : k < n) : ((List.range n).map f).take (k + 1) = ((List.range n).map f).take k ++ [f k] := by
  rw [List.take_succ_eq_append_getElem (by simpa using h)]
  simp
theorem shr_bit {m : Int} {k : Nat} (h1 : 0 ≤ m) (h2 : m ≤ 65535) (hk : k < 17) : m / (2 ^ min (IntKind.u64.wrap (k : Int)).toNat 64) = m / 2 ^ k := by
  have e : (2 : Int) ^ min (IntKind.u64.wrap (k : Int)).toNat 64 = 2 ^ k := by
    obtain ⟨j, rfl⟩ : ∃ j : Fin 17, k = j.val := ⟨⟨k, hk⟩, rfl⟩
    revert j
    intro j _
    revert j
    decide +kernel
  rw [e]
theorem and_bit {s : Int} (h1 : 0 ≤ s) (h2 : s ≤ 65535) : bits BinOp.and IntKind.i64 s 1 = s % 2 := by
  show IntKind.i64.wrap ((BitVec.ofInt 64 s &&& BitVec.ofInt 64 1).toNat : Int) = s % 2
  obtain ⟨n, rfl⟩ : ∃ n : Nat, s = (n : Int) := ⟨s.toNat, by omega⟩
  have e : (BitVec.ofInt 64 (n : Int) &&& BitVec.ofInt 64 1).toNat = n % 2 := by
    rw [BitVec.toNat_and]
    have e1 : (BitVec.ofInt 64 (n : Int)).toNat = n := by
      rw [BitVec.ofInt_natCast, BitVec.toNat_ofNat]; exact Nat.mod_eq_of_lt (by omega)
    rw [e1]
    exact Nat.and_one_is_mod n
  rw [e]
  exact IntWalk.i64_in _ (by omega)
set_option maxRecDepth 100000 in
set_option maxHeartbeats 1000000 in
theorem impl_proveRange (gr : GroupD) (bh : Int) (bv : Value) (bl : List Int) (m r : Int) (N : Nat) (cv : Value) (cs : List Int) (w : World) (hg : OkG gr) (hb : Ints w bv bl) (sbh : Small bh) (hm : 0 ≤ m ∧ m ≤ 65535) (hr : expB gr r = true) (hN : 1 ≤ N ∧ N ≤ 16) (hcs : Ints w cv cs) (hcl : cs.length = 4 * N - 1) (hca : cs.all (expB gr) = true) :
    Calls Try.prog 91 #[.agg #[.int .i64 gr.p, .int .i64 gr.q, .int .i64 gr.g], .agg #[.int .i64 bh, bv], .int .i64 m, .int .i64 r, .int .i64 (N : Int), cv] w fun e w' => RetG e w' w.heap.size (rgD gr sBit bh m r N cs) ∧ Below w.heap.size w w' := by
  obtain ⟨hN1, hN2⟩ := hN
  obtain ⟨hm1, hm2⟩ := hm
  obtain ⟨bva, bvn, bvc, rfl⟩ := hb.shape
  have Hbv := Lib.hid hb
  clear hb
  obtain ⟨cva, cvn, cvc, rfl⟩ := hcs.shape
  have Ecv := Lib.hid hcs.len
  have Hcv := Lib.hid hcs
  clear hcs
  have HG := Lib.hid hg
  clear hg
  have zq1 := HG.out.q1
  have zq2 := HG.out.q2
  have zp2 := HG.out.p2
  have zq3 : gr.q ≤ 2000000000 := by omega
  have zq0 : 0 < gr.q := by omega
  have zq4 : gr.q ≤ 4000000000 := by omega
  obtain ⟨r1, r2⟩ := expB_bd hr
  have HIr : Hid (I64 r) := ⟨by omega, by omega⟩
  clear hr
  have HCA := Lib.hid hca
  clear hca
  have HCL := Lib.hid hcl
  clear hcl
  have HCN : Hid (cvn = 4 * N - 1) := by have := Ecv.out; have := HCL.out; unfold Hid; omega
  have hw1 : IntKind.i64.wrap ((N : Int) - 1) = (N : Int) - 1 := IntWalk.i64_in _ (by omega)
  obtain ⟨hs1, HI1⟩ := sl_take Hcv.out (x := (N : Int) - 1) (k := N - 1) (by omega) (by have := HCN.out; omega)
  have HT := Lib.hid HI1
  clear HI1
  have HTL : Hid ((cs.take (N - 1)).length = N - 1) := by have := HCL.out; unfold Hid; rw [List.length_take]; omega
  have HSL : Hid (∀ k, (rgS gr.q r cs N k).length = N) := fun k => rgS_length (by have := HCL.out; omega) hN1
  obtain ⟨W, hW⟩ : ∃ W, W = ((w.alloc (.cells #[.int .i64 gr.p, .int .i64 gr.q, .int .i64 gr.g] 25)).alloc (.cells #[.int .i64 bh, .slice bva bvn bvc] 28)).alloc (.cells #[.slice none 0 0, .slice none 0 0] 33) := ⟨_, rfl⟩
  have HB : Hid (Below w.heap.size w W) := by unfold Hid; rw [hW]; (repeat (first | exact Below.refl _ _ | assumption | refine Below.drew ?_ | refine Below.alloc ?_ (by first | (simp; done) | (simp; omega)) _ | refine Below.setCell ?_ (by first | (simp; done) | (simp; omega)) _))
  have C0 : Hid (W.cell? ⟨w.heap.size, 0, none⟩ = some (.int .i64 gr.p)) := by unfold Hid; rw [hW]; simp [go_sem]
  have C1 : Hid (W.cell? ⟨w.heap.size, 1, none⟩ = some (.int .i64 gr.q)) := by unfold Hid; rw [hW]; simp [go_sem]
  have C2 : Hid (W.cell? ⟨w.heap.size, 2, none⟩ = some (.int .i64 gr.g)) := by unfold Hid; rw [hW]; simp [go_sem]
  have C3 : Hid (W.cell? ⟨w.heap.size + 1, 0, none⟩ = some (.int .i64 bh)) := by unfold Hid; rw [hW]; simp [go_sem]
  have C4 : Hid (W.cell? ⟨w.heap.size + 1, 1, none⟩ = some (.slice bva bvn bvc)) := by unfold Hid; rw [hW]; simp [go_sem]
  have HX2 : Hid (BoxN W (w.heap.size + 1 + 1) 33 [.slice none 0 0, .slice none 0 0]) := by
    unfold Hid; rw [hW]
    have h := BoxN.new ((w.alloc (.cells #[.int .i64 gr.p, .int .i64 gr.q, .int .i64 gr.g] 25)).alloc (.cells #[.int .i64 bh, .slice bva bvn bvc] 28)) [.slice none 0 0, .slice none 0 0] 33
    simpa using h
  have HSW : Hid (W.heap.size = w.heap.size + 3) := by unfold Hid; rw [hW]; simp
  have hO0 : Hid (OwnI (W.alloc (.cells #[.int .i64 r] 3)) W.heap.size (.slice (some ⟨W.heap.size, 0, none⟩) 1 1) [r]) := OwnI.lit1 W (Nat.le_refl _) HIr.out
  go_enter Try.func91, Try.ntmps91
  go_upto_region 1 with fail
  rw [← hW]
  have hse : w.heap.size + 1 + 1 + 1 = W.heap.size := by have := HSW.out; omega
  (try rw [hse])
  clear hse hW
  go_upto_region 2 with (at_builtin; refine wpList_append_intsN rfl _ _ rfl W.heap.size _ _ [r] (cs.take (N - 1)) rfl hO0.out rfl ((HT.out.below HB.out).alloc _) (by rw [HTL.out]; simp only [List.length_cons, List.length_nil]; omega) (by simp) N (by rw [HTL.out]; simp only [List.length_cons, List.length_nil]; omega) ?_; intro va vc w1 hown1 hgr1)
  have HB1 : Hid (Below W.heap.size W w1) := ((Below.refl _ _).alloc (Nat.le_refl _) _).trans (hO0.out.grown hgr1 (by simp))
  rw [rgS_zero gr.q r cs N] at hown1
  obtain ⟨rb, hva, hrb, _, _⟩ := hown1.at_ (by rw [HSL.out]; omega)
  subst hva
  have HO1 := Lib.hid hown1
  clear hown1 hgr1 hO0 hs1
  go_wp2_with fail
  go_loopg [14] (N - 1) (fun gh iv wr => ∃ j : Nat, 1 ≤ j ∧ j + gh = N ∧ iv = .int .i64 (j : Int) ∧ OwnI wr W.heap.size (.slice (some ⟨rb, 0, none⟩) N vc) (rgS gr.q r cs N (j - 1)) ∧ Below W.heap.size W wr)
  case atStart => exact ⟨1, by omega, by omega, rfl, HO1.out, HB1.out⟩
  case round =>
    obtain ⟨j, hj1, hjg, rfl, how, hbu⟩ := hrel
    clear HO1 HB1
    have HOW := Lib.hid how
    clear how
    have HBU := Lib.hid hbu
    clear hbu
    by_cases hlt : j < N
    · obtain ⟨A, hA⟩ : ∃ a, rg0 gr.q r cs (j - 1) = a := ⟨_, rfl⟩
      obtain ⟨C, hC⟩ : ∃ c, nth cs (j - 1) = c := ⟨_, rfl⟩
      obtain ⟨PW, hPW⟩ : ∃ z, (2 : Int) ^ j = z := ⟨_, rfl⟩
      have hpw : IntKind.i64.wrap (2 ^ min (IntKind.u64.wrap (j : Int)).toNat 64) = PW := by rw [powS j (by omega), hPW]
      have hpb := powR_bd j (by omega)
      rw [hPW] at hpb
      obtain ⟨hp1, hp2⟩ := hpb
      obtain ⟨ha1, ha2⟩ : 0 ≤ A ∧ A < gr.q := by rw [← hA]; exact rg0_bd zq0 r1 (by omega) _
      obtain ⟨hc1, hc2⟩ : 0 ≤ C ∧ C < gr.q := by
        have hl : j - 1 < cs.length := by have := HCL.out; omega
        have q := List.all_eq_true.1 HCA.out _ (List.getElem_mem hl)
        rw [show nth cs (j - 1) = cs[j - 1] by simp [nth, hl]] at hC
        have q2 := expB_bd q; rw [← hC]; omega
      obtain ⟨hx1, hx2⟩ : 0 ≤ PW * C ∧ PW * C ≤ 131072000000000 := ⟨Int.mul_nonneg (by omega) hc1, Int.le_trans (Int.mul_le_mul hp2 (show C ≤ 2000000000 by omega) hc1 (by decide)) (by decide)⟩
      have ew1 : IntKind.i64.wrap (PW * C) = PW * C := IntWalk.i64_in _ (by omega)
      have HN1 : Hid (I64 (PW * C)) := ⟨by omega, by omega⟩
      obtain ⟨D, hD⟩ : ∃ d, (PW * C) % gr.q = d := ⟨_, rfl⟩
      obtain ⟨hd1, hd2⟩ : 0 ≤ D ∧ D < gr.q := by rw [← hD]; exact ⟨Int.emod_nonneg _ (by omega), Int.emod_lt_of_pos _ zq0⟩
      have ew2 : IntKind.i64.wrap (A - D) = A - D := IntWalk.i64_in _ (by omega)
      have HN2 : Hid (I64 (A - D)) := ⟨by omega, by omega⟩
      obtain ⟨E, hE⟩ : ∃ d, (A - D) % gr.q = d := ⟨_, rfl⟩
      obtain ⟨he1, he2⟩ : 0 ≤ E ∧ E < gr.q := by rw [← hE]; exact ⟨Int.emod_nonneg _ (by omega), Int.emod_lt_of_pos _ zq0⟩
      have HST : Hid ((rgS gr.q r cs N (j - 1)).set 0 E = rgS gr.q r cs N j) := by have h := rgS_set (q := gr.q) (r := r) (cs := cs) (N := N) hj1; rw [hA, hC, hPW, hD, hE] at h; exact h
      have HD := Lib.hid hD
      have HE := Lib.hid hE
      have HIE : Hid (I64 E) := ⟨by omega, by omega⟩
      have HA0 : Hid (nth (rgS gr.q r cs N (j - 1)) 0 = A) := hA
      have HA1 : Hid (nth (rgS gr.q r cs N (j - 1)) j = C) := by unfold Hid; rw [rgS_at hj1 hlt, hC]
      clear hA hC hPW hD hE
      obtain ⟨_, hva, _, _, hcx⟩ := HOW.out.at_ (by rw [HSL.out]; omega)
      cases hva
      obtain ⟨y_0, _⟩ := hcx 0 (by omega)
      obtain ⟨y_1, _⟩ := hcx j hlt
      rw [HA0.out] at y_0
      rw [HA1.out] at y_1
      clear hcx
      have hc := HBU.out
      have c0_0 := box_at C0.out hc
      have c0_1 := box_at C1.out hc
      have c0_2 := box_at C2.out hc
      clear hc
      have hc : Below wr.heap.size wr wr := Below.refl _ _
      have b0 : (0 : Int) ≤ (j : Int) := by omega
      have b1 : (j : Int) < (N : Int) := by omega
      have b2 : (0 : Int) < (N : Int) := by omega
      have b3 : 0 < N := by omega
      have hwj : IntKind.i64.wrap ((j : Int) + 1) = (j : Int) + 1 := IntWalk.i64_in _ (by omega)
      go_wp2_with fail
      try (go_wp2_with fail)
      refine wp_region_noPanic ?_
      refine wp_region_P (fun w' => w'.cell? ⟨w.heap.size, 0, none⟩ = some (.int .i64 gr.p) ∧ w'.cell? ⟨w.heap.size, 1, none⟩ = some (.int .i64 gr.q) ∧ w'.cell? ⟨w.heap.size, 2, none⟩ = some (.int .i64 gr.g) ∧ w'.cell? ⟨rb, 0, none⟩ = some (.int .i64 A) ∧ w'.cell? ⟨rb, j, none⟩ = some (.int .i64 C)) 21 [(0, []), (1, []), (2, []), (3, [0]), (4, [0]), (5, []), (6, []), (7, [0]), (8, [0]), (9, []), (10, []), (11, [1, 0]), (12, [0]), (13, [4, 0]), (14, [8, 0]), (15, [10, 0]), (16, [14, 0]), (17, [16])] [18] (by kernel_rfl) (by kernel_rfl) (by kernel_rfl) rfl (fun _ _ _ _ h => h) (fun w' h => ⟨box_at c0_0 h, box_at c0_1 h, box_at c0_2 h, box_at y_0 h, box_at y_1 h⟩) ?_
      simp only [pickP, pickN, List.getElem?_cons_zero, List.getElem?_cons_succ]
      iterate 7 (refine' chainP_read _ rfl rfl (fun w' hS' => ?_) ?_; rotate_left; · (simp only [lookP, allP, Act.put, List.getElem?_cons_zero, List.getElem?_cons_succ, List.setIfInBounds_toArray, List.set_cons_zero, List.set_cons_succ]; (try dsimp only at hS'); go_simp; (try with_reducible rfl)))
      -- 7: convert 3 229 t38
      refine' chainP_read (d := (some 39)) _ rfl rfl (fun w' hS' => ?_) ?_; rotate_left
      · simp only [lookP, allP, Act.put, List.getElem?_cons_zero, List.getElem?_cons_succ, List.setIfInBounds_toArray, List.set_cons_zero, List.set_cons_succ]
        (try dsimp only at hS')
        go_simp
        (try with_reducible rfl)
      -- 8: binOp Binshl 3 (const (int i64 1)) t39 229
      refine' chainP_read (d := (some 40)) _ rfl rfl (fun w' hS' => ?_) ?_; rotate_left
      · simp only [lookP, allP, Act.put, List.getElem?_cons_zero, List.getElem?_cons_succ, List.setIfInBounds_toArray, List.set_cons_zero, List.set_cons_succ]
        (try dsimp only at hS')
        go_simp
        (try with_reducible rfl)
      iterate 5 (refine' chainP_read _ rfl rfl (fun w' hS' => ?_) ?_; rotate_left; · (simp only [lookP, allP, Act.put, List.getElem?_cons_zero, List.getElem?_cons_succ, List.setIfInBounds_toArray, List.set_cons_zero, List.set_cons_succ]; (try dsimp only at hS'); go_simp; (try with_reducible rfl)))
      -- 14: call { callee := value (func 177), args := #[t37, t45], argTypes := #[39, 3] }
      refine chainP_call (d := (some 46)) (.int .i64 D) rfl rfl (fun w' hS' => ?_) ?_
      · simp only [lookP, allP, Act.put, List.getElem?_cons_zero, List.getElem?_cons_succ, List.setIfInBounds_toArray, List.set_cons_zero, List.set_cons_succ]
        intro K hK
        go_simp
        go_at_call 103
        refine (impl_exp gr (PW * C) w' HG.out HN1.out).mono ?_
        rintro e u ⟨rfl, hq⟩
        rw [HD.out]
        exact hK.out _ hq
      -- 15: binOp Binsub 3 t36 t46 3
      refine' chainP_read (d := (some 47)) _ rfl rfl (fun w' hS' => ?_) ?_; rotate_left
      · simp only [lookP, allP, Act.put, List.getElem?_cons_zero, List.getElem?_cons_succ, List.setIfInBounds_toArray, List.set_cons_zero, List.set_cons_succ]
        (try dsimp only at hS')
        go_simp
        (try with_reducible rfl)
      -- 16: call { callee := value (func 177), args := #[t33, t47], argTypes := #[39, 3] }
      refine chainP_call (d := (some 48)) (.int .i64 E) rfl rfl (fun w' hS' => ?_) ?_
      · simp only [lookP, allP, Act.put, List.getElem?_cons_zero, List.getElem?_cons_succ, List.setIfInBounds_toArray, List.set_cons_zero, List.set_cons_succ]
        intro K hK
        go_simp
        go_at_call 103
        refine (impl_exp gr (A - D) w' HG.out HN2.out).mono ?_
        rintro e u ⟨rfl, hq⟩
        rw [HE.out]
        exact hK.out _ hq
      -- 17: indexAddr 24 t32 (const (int i64 0))
      refine' chainP_read (d := (some 49)) _ rfl rfl (fun w' hS' => ?_) ?_; rotate_left
      · simp only [lookP, allP, Act.put, List.getElem?_cons_zero, List.getElem?_cons_succ, List.setIfInBounds_toArray, List.set_cons_zero, List.set_cons_succ]
        (try dsimp only at hS')
        go_simp
        (try with_reducible rfl)
      refine chainP_nil (fun u1 hS' => ?_)
      simp only [allP, Act.put, List.setIfInBounds_toArray, List.set_cons_zero, List.set_cons_succ]
      have hq1 := hS'.1
      clear hS'
      replace hc := Below.next hc hq1
      replace c0_0 := box_at c0_0 hq1
      replace c0_1 := box_at c0_1 hq1
      replace c0_2 := box_at c0_2 hq1
      replace y_0 := box_at y_0 hq1
      replace y_1 := box_at y_1 hq1
      clear hq1
      clear c0_0 c0_1 c0_2 y_0 y_1
      have HOU := Lib.hid (HOW.out.below hc)
      have HBV := Lib.hid (Below.next HBU.out hc)
      obtain ⟨_, hva, _, _, hcx⟩ := HOU.out.at_ (by rw [HSL.out]; omega)
      cases hva
      obtain ⟨y_0, fr_0⟩ := hcx 0 (by omega)
      clear hcx hc
      go_wp2_with fail
      refine NoPanic.normal ?_
      obtain ⟨Y, hY⟩ : ∃ Y, Y = u1.setCell ⟨rb, 0, none⟩ (.int .i64 E) := ⟨_, rfl⟩
      have HOY : Hid (OwnI Y W.heap.size (.slice (some ⟨rb, 0, none⟩) N vc) (rgS gr.q r cs N j)) := by
        have h := (HOU.out.stored (HSL.out _) 0 HIE.out).1
        rw [HST.out] at h
        rw [hY]; exact h
      have HBY : Hid (Below W.heap.size W Y) := by unfold Hid; rw [hY]; exact HBV.out.setCell (p := ⟨rb, 0, none⟩) hrb _
      clear y_0 fr_0
      go_wp2_with fail
      try rw [← hY]
      clear hY
      go_roundg (N - (j + 1))
      case measure => omega
      case rel => exact ⟨j + 1, by omega, by omega, by go_num, HOY.out, HBY.out⟩
    · obtain rfl : N = j := by omega
      obtain ⟨wA, hwA⟩ : ∃ u, u = wr := ⟨_, rfl⟩
      subst hwA
      have HRL : Hid (rgS gr.q r cs N (N - 1) = rgL gr.q r cs N) := rgS_last _ _ _ _
      have HRB : Hid (∀ i, i < N → expB gr (nth (rgL gr.q r cs N) i) = true ∧ wA.cell? ⟨rb, i, none⟩ = some (.int .i64 (nth (rgL gr.q r cs N) i))) := by
        intro i hi
        obtain ⟨_, hva, _, _, hcx⟩ := HOW.out.at_ (by rw [HSL.out]; omega)
        cases hva
        refine ⟨?_, ?_⟩
        · rw [← HRL.out]
          rcases Nat.eq_zero_or_pos i with h0 | h0
          · subst h0
            rw [rgS_at0]
            obtain ⟨q1, q2⟩ := rg0_bd (cs := cs) zq0 r1 (show r < gr.q by omega) (N - 1)
            exact exp_of q1 q2
          · rw [rgS_at h0 hi]
            have hl : i - 1 < cs.length := by have := HCL.out; omega
            rw [show nth cs (i - 1) = cs[i - 1] by simp [nth, hl]]
            exact List.all_eq_true.1 HCA.out _ (List.getElem_mem hl)
        · rw [← HRL.out]; exact (hcx i hi).1
      obtain ⟨G, hG⟩ : ∃ g, g = wA.heap.size := ⟨_, rfl⟩
      obtain ⟨V, hV⟩ : ∃ V, V = wA.alloc (.cells #[.slice none 0 0, .slice none 0 0] 33) := ⟨_, rfl⟩
      have HXV : Hid (BoxN V G 33 [.slice none 0 0, .slice none 0 0]) := by unfold Hid; rw [hV, hG]; exact BoxN.new wA [.slice none 0 0, .slice none 0 0] 33
      have HBV : Hid (Below G wA V) := by unfold Hid; rw [hV, hG]; exact (Below.refl _ _).alloc (Nat.le_refl _) _
      have HVS : Hid (V.heap.size = G + 1) := by unfold Hid; rw [hV, hG]; simp
      have hGW : W.heap.size ≤ G := by rw [hG]; exact HBU.out.size
      have b2 : (0 : Int) < (N : Int) := by omega
      go_wp2_with fail
      rw [← hV]
      rw [← hG]
      have HGE := Lib.hid hG
      clear hG
      clear hV
      go_loopg [53] N (fun gh iv wr => ∃ (k : Nat) (a1 : Option Addr) (c1 : Nat) (a2 : Option Addr) (c2 : Nat), k + gh = N ∧ iv = .int .i64 (k : Int) ∧ BoxN wr G 33 [.slice a1 k c1, .slice a2 k c2] ∧ OwnI wr (G + 1) (.slice a1 k c1) ((rgB gr bh m (rgL gr.q r cs N) N).take k) ∧ OwnQ wr (G + 1) (.slice a1 k c1) (.slice a2 k c2) ((rgP gr sBit bh m (rgL gr.q r cs N) cs N).take k) ∧ Below G wA wr)
      case atStart => exact ⟨0, none, 0, none, 0, by omega, rfl, HXV.out, OwnI.nil _ _, OwnQ.nil _ _ _, HBV.out⟩
      case round =>
        obtain ⟨k, a1, c1, a2, c2, hkg, rfl, hxk, hok, hqk, hbk⟩ := hrel
        clear HXV HBV HVS
        have HXK := Lib.hid hxk
        have HOK := Lib.hid hok
        have HQK := Lib.hid hqk
        have HBK := Lib.hid hbk
        clear hxk hok hqk hbk
        have HGK : Hid (G < wr.heap.size) := HXK.out.lt
        have HWQ : Hid (Below W.heap.size W wr) := by have h := HBK.out; unfold Hid; rw [HGE.out] at h; exact Below.next HBU.out h
        by_cases hlt : k < N
        · have HS1 := Lib.hid (take_map_succ (fun i => coM gr bh (bitI m i) (nth (rgL gr.q r cs N) i)) hlt)
          have HS2 := Lib.hid (take_map_succ (fun i => btD gr sBit bh (bitI m i) (nth (rgL gr.q r cs N) i) ((cs.drop (N - 1 + 3 * i)).take 3)) hlt)
          obtain ⟨qe, qc⟩ := HRB.out k hlt
          obtain ⟨R, hR⟩ : ∃ x, nth (rgL gr.q r cs N) k = x := ⟨_, rfl⟩
          simp only [hR] at HS1 HS2
          rw [hR] at qe qc
          clear hR
          have HER := Lib.hid qe
          obtain ⟨rr1, rr2⟩ := expB_bd qe
          have HIR : Hid (I64 R) := ⟨by omega, by omega⟩
          have y1 : wr.cell? ⟨rb, k, none⟩ = some (.int .i64 R) := by have h := HBK.out; rw [HGE.out] at h; exact box_at qc h
          clear qe qc
          obtain ⟨SH, hSH⟩ : ∃ x, m / 2 ^ k = x := ⟨_, rfl⟩
          have hsh : m / 2 ^ min (IntKind.u64.wrap (k : Int)).toNat 64 = SH := by rw [shr_bit hm1 hm2 (by omega), hSH]
          obtain ⟨hsh1, hsh2⟩ : 0 ≤ SH ∧ SH ≤ 65535 := by
            rw [← hSH]
            have hp : (0 : Int) < 2 ^ k := Int.pow_pos (by decide)
            exact ⟨Int.ediv_nonneg hm1 (Int.le_of_lt hp), Int.le_trans (Int.ediv_le_self _ hm1) hm2⟩
          obtain ⟨BT, hBT⟩ : ∃ x, SH % 2 = x := ⟨_, rfl⟩
          have hbt : bits BinOp.and IntKind.i64 SH 1 = BT := by rw [and_bit hsh1 hsh2, hBT]
          have HBO : Hid (BT = 0 ∨ BT = 1) := by unfold Hid; omega
          have HIB : Hid (I64 BT) := by have := HBO.out; exact ⟨by omega, by omega⟩
          have hbi : bitI m k = BT := by unfold bitI; rw [hSH, hBT]
          simp only [hbi] at HS1 HS2
          clear hbi hBT hSH
          obtain ⟨X, hX⟩ : ∃ x, coM gr bh BT R = x := ⟨_, rfl⟩
          have HX := Lib.hid hX
          have HIX : Hid (I64 X) := by unfold Hid; rw [← hX]; exact small_64 (coM_small HG.out _ _ _)
          rw [hX] at HS1
          clear hX
          obtain ⟨CS, hCS⟩ : ∃ x, (cs.drop (N - 1 + 3 * k)).take 3 = x := ⟨_, rfl⟩
          obtain ⟨DD, hDD⟩ : ∃ x, btD gr sBit bh BT R CS = x := ⟨_, rfl⟩
          have HDD := Lib.hid hDD
          rw [hCS, hDD] at HS2
          clear hDD
          have HCT3 : Hid (CS.length = 3) := by unfold Hid; rw [← hCS, List.length_take, List.length_drop]; have := HCL.out; omega
          have HCTA : Hid (CS.all (expB gr) = true) := by
            unfold Hid; rw [← hCS, List.all_eq_true]
            intro x hx
            exact List.all_eq_true.1 HCA.out x (List.mem_of_mem_drop (List.mem_of_mem_take hx))
          obtain ⟨xd, hs2, HI2⟩ := sl_drop Hcv.out (x := (N : Int) - 1 + 3 * (k : Int)) (k := N - 1 + 3 * k) (by omega) (by have := HCN.out; omega)
          obtain ⟨hs3, HI3⟩ := sl_take HI2 (x := 3) (k := 3) rfl (by have := HCN.out; omega)
          rw [hCS] at HI3
          clear hCS HI2
          have HCT := Lib.hid HI3
          clear HI3
          have hw2 : IntKind.i64.wrap (3 * (k : Int)) = 3 * (k : Int) := IntWalk.i64_in _ (by omega)
          have hw3 : IntKind.i64.wrap ((N : Int) - 1 + 3 * (k : Int)) = (N : Int) - 1 + 3 * (k : Int) := IntWalk.i64_in _ (by omega)
          have hwk : IntKind.i64.wrap ((k : Int) + 1) = (k : Int) + 1 := IntWalk.i64_in _ (by omega)
          have HLB : Hid (((rgB gr bh m (rgL gr.q r cs N) N).take k).length = k) := by unfold Hid rgB; rw [List.length_take, List.length_map, List.length_range]; omega
          have HLP : Hid (((rgP gr sBit bh m (rgL gr.q r cs N) cs N).take k).length = k) := by unfold Hid rgP; rw [List.length_take, List.length_map, List.length_range]; omega
          have b0 : (0 : Int) ≤ (k : Int) := by omega
          have b1 : (k : Int) < (N : Int) := by omega
          have hc : Below wr.heap.size wr wr := Below.refl _ _
          have c0_0 := box_at C0.out HWQ.out
          have c0_1 := box_at C1.out HWQ.out
          have c0_2 := box_at C2.out HWQ.out
          have c1_0 := box_at C3.out HWQ.out
          have c1_1 := box_at C4.out HWQ.out
          have c2_0 := HXK.out.cell (i := 0) rfl
          have c2_1 := HXK.out.cell (i := 1) rfl
          go_wp2_with fail
          clear y1
          try (go_wp2_with fail)
          refine wp_region_noPanic ?_
          refine wp_region_P (fun w' => w'.cell? ⟨w.heap.size, 0, none⟩ = some (.int .i64 gr.p) ∧ w'.cell? ⟨w.heap.size, 1, none⟩ = some (.int .i64 gr.q) ∧ w'.cell? ⟨w.heap.size, 2, none⟩ = some (.int .i64 gr.g) ∧ w'.cell? ⟨(w.heap.size + 1), 0, none⟩ = some (.int .i64 bh) ∧ w'.cell? ⟨(w.heap.size + 1), 1, none⟩ = some (.slice bva bvn bvc) ∧ w'.cell? ⟨G, 0, none⟩ = some (.slice a1 k c1) ∧ w'.cell? ⟨G, 1, none⟩ = some (.slice a2 k c2)) 16 [(0, []), (1, []), (2, [0]), (3, [2, 0]), (4, [0]), (5, []), (6, []), (7, [0]), (8, []), (9, [0]), (10, [2, 0]), (11, [5, 0]), (12, [7]), (13, [1])] [] (by kernel_rfl) (by kernel_rfl) (by kernel_rfl) rfl (fun _ _ _ _ h => h) (fun w' h => ⟨box_at c0_0 h, box_at c0_1 h, box_at c0_2 h, box_at c1_0 h, box_at c1_1 h, box_at c2_0 h, box_at c2_1 h⟩) ?_
          simp only [pickP, pickN, List.getElem?_cons_zero, List.getElem?_cons_succ]
          iterate 2 (refine' chainP_read _ rfl rfl (fun w' hS' => ?_) ?_; rotate_left; · (simp only [lookP, allP, Act.put, List.getElem?_cons_zero, List.getElem?_cons_succ, List.setIfInBounds_toArray, List.set_cons_zero, List.set_cons_succ]; (try dsimp only at hS'); go_simp; (try with_reducible rfl)))
          -- 2: convert 3 229 t59
          refine' chainP_read (d := (some 60)) _ rfl rfl (fun w' hS' => ?_) ?_; rotate_left
          · simp only [lookP, allP, Act.put, List.getElem?_cons_zero, List.getElem?_cons_succ, List.setIfInBounds_toArray, List.set_cons_zero, List.set_cons_succ]
            (try dsimp only at hS')
            go_simp
            (try with_reducible rfl)
          -- 3: binOp Binshr 3 t58 t60 229
          refine' chainP_read (d := (some 61)) _ rfl rfl (fun w' hS' => ?_) ?_; rotate_left
          · simp only [lookP, allP, Act.put, List.getElem?_cons_zero, List.getElem?_cons_succ, List.setIfInBounds_toArray, List.set_cons_zero, List.set_cons_succ]
            (try dsimp only at hS')
            go_simp
            (try with_reducible rfl)
          -- 4: binOp Binand 3 t61 (const (int i64 1)) 3
          refine' chainP_read (d := (some 62)) _ rfl rfl (fun w' hS' => ?_) ?_; rotate_left
          · simp only [lookP, allP, Act.put, List.getElem?_cons_zero, List.getElem?_cons_succ, List.setIfInBounds_toArray, List.set_cons_zero, List.set_cons_succ]
            (try dsimp only at hS')
            go_simp
            (try with_reducible rfl)
          iterate 6 (refine' chainP_read _ rfl rfl (fun w' hS' => ?_) ?_; rotate_left; · (simp only [lookP, allP, Act.put, List.getElem?_cons_zero, List.getElem?_cons_succ, List.setIfInBounds_toArray, List.set_cons_zero, List.set_cons_succ]; (try dsimp only at hS'); go_simp; (try with_reducible rfl)))
          -- 11: slice 24 t63 (some t68) none none
          refine' chainP_read (d := (some 69)) _ rfl rfl (fun w' hS' => ?_) ?_; rotate_left
          · simp only [lookP, allP, Act.put, List.getElem?_cons_zero, List.getElem?_cons_succ, List.setIfInBounds_toArray, List.set_cons_zero, List.set_cons_succ]
            (try dsimp only at hS')
            go_simp
            (try with_reducible rfl)
          iterate 2 (refine' chainP_read _ rfl rfl (fun w' hS' => ?_) ?_; rotate_left; · (simp only [lookP, allP, Act.put, List.getElem?_cons_zero, List.getElem?_cons_succ, List.setIfInBounds_toArray, List.set_cons_zero, List.set_cons_succ]; (try dsimp only at hS'); go_simp; (try with_reducible rfl)))
          refine chainP_nil (fun ua hS' => ?_)
          simp only [allP, Act.put, List.setIfInBounds_toArray, List.set_cons_zero, List.set_cons_succ]
          have hq1 := hS'.1
          clear hS'
          replace hc := Below.next hc hq1
          replace c0_0 := box_at c0_0 hq1
          replace c0_1 := box_at c0_1 hq1
          replace c0_2 := box_at c0_2 hq1
          replace c1_0 := box_at c1_0 hq1
          replace c1_1 := box_at c1_1 hq1
          replace c2_0 := box_at c2_0 hq1
          replace c2_1 := box_at c2_1 hq1
          clear hq1
          go_wp2_with fail
          refine NoPanic.normal ?_
          have HXA := Lib.hid (HXK.out.below hc)
          have HOA := Lib.hid (HOK.out.below hc)
          have HQA := Lib.hid (HQK.out.below hc)
          have HWA : Hid (Below w.heap.size w ua) := HB.out.trans ((Below.next HWQ.out hc).mono HB.out.size)
          have HBA : Hid (Below G wA ua) := by have h := HBK.out; unfold Hid; rw [HGE.out] at h ⊢; exact Below.next h hc
          have hGA : G < ua.heap.size := HXA.out.lt
          clear hc
          have hc : Below ua.heap.size ua ua := Below.refl _ _
          clear hsh hbt
          go_wp2_with fail
          try (go_wp2_with fail)
          refine wp_region_noPanic ?_
          refine wp_region_P (fun w' => w'.cell? ⟨w.heap.size, 0, none⟩ = some (.int .i64 gr.p) ∧ w'.cell? ⟨w.heap.size, 1, none⟩ = some (.int .i64 gr.q) ∧ w'.cell? ⟨w.heap.size, 2, none⟩ = some (.int .i64 gr.g) ∧ w'.cell? ⟨(w.heap.size + 1), 0, none⟩ = some (.int .i64 bh) ∧ w'.cell? ⟨(w.heap.size + 1), 1, none⟩ = some (.slice bva bvn bvc) ∧ w'.cell? ⟨G, 0, none⟩ = some (.slice a1 k c1) ∧ w'.cell? ⟨G, 1, none⟩ = some (.slice a2 k c2)) 13 [(0, []), (1, [0]), (2, []), (3, []), (4, []), (5, []), (6, [3, 2, 1, 0]), (7, [0])] [8, 9, 10] (by kernel_rfl) (by kernel_rfl) (by kernel_rfl) rfl (fun _ _ _ _ h => h) (fun w' h => ⟨box_at c0_0 h, box_at c0_1 h, box_at c0_2 h, box_at c1_0 h, box_at c1_1 h, box_at c2_0 h, box_at c2_1 h⟩) ?_
          simp only [pickP, pickN, List.getElem?_cons_zero, List.getElem?_cons_succ]
          iterate 6 (refine' chainP_read _ rfl rfl (fun w' hS' => ?_) ?_; rotate_left; · (simp only [lookP, allP, Act.put, List.getElem?_cons_zero, List.getElem?_cons_succ, List.setIfInBounds_toArray, List.set_cons_zero, List.set_cons_succ]; (try dsimp only at hS'); go_simp; (try with_reducible rfl)))
          -- 6: call { callee := value (func 171), args := #[t72, t73, t74, t75], argTypes := #[39, 79, 3, 3] }
          refine chainP_call (d := (some 76)) (.int .i64 X) rfl rfl (fun w' hS' => ?_) ?_
          · simp only [lookP, allP, Act.put, List.getElem?_cons_zero, List.getElem?_cons_succ, List.setIfInBounds_toArray, List.set_cons_zero, List.set_cons_succ]
            intro K hK
            go_simp
            go_at_call 219
            refine (impl_commit gr bh _ bl BT R w' HG.out ((Hbv.out.below HWA.out).below hS'.1) sbh HIB.out HIR.out).mono ?_
            rintro e u ⟨rfl, hq⟩
            rw [HX.out]
            exact hK.out _ hq
          -- 7: buildSlice 24 1 #[(0, t76)]
          refine chainP_do (d := (some 77)) (fun v w => Ints w v [X]) (fun v w w' hb h => Ints.below h hb) rfl rfl (fun w' hS' => ?_) ?_
          · simp only [lookP, allP, Act.put, List.getElem?_cons_zero, List.getElem?_cons_succ, List.setIfInBounds_toArray, List.set_cons_zero, List.set_cons_succ]
            intro K hK
            go_simp
            refine hK.out _ _ ((Below.refl _ _).alloc (Nat.le_refl _) _) ?_
            exact (OwnI.lit1 (B := w'.heap.size) w' (Nat.le_refl _) HIX.out).ints
          refine chainP_nil (fun ub hS' => ?_)
          simp only [allP, Act.put, List.setIfInBounds_toArray, List.set_cons_zero, List.set_cons_succ]
          intro x7 hx7
          have hq1 := hS'.1
          clear hS'
          replace hc := Below.next hc hq1
          replace c0_0 := box_at c0_0 hq1
          replace c0_1 := box_at c0_1 hq1
          replace c0_2 := box_at c0_2 hq1
          replace c1_0 := box_at c1_0 hq1
          replace c1_1 := box_at c1_1 hq1
          replace c2_0 := box_at c2_0 hq1
          replace c2_1 := box_at c2_1 hq1
          clear hq1
          clear c0_0 c0_1 c0_2 c1_0 c1_1 c2_0 c2_1
          have HXB := Lib.hid (HXA.out.below hc)
          have HOB := Lib.hid (HOA.out.below hc)
          have HQB := Lib.hid (HQA.out.below hc)
          have HBB : Hid (Below G wA ub) := by have h := HBA.out; unfold Hid; rw [HGE.out] at h ⊢; exact Below.next h hc
          have hGB : G < ub.heap.size := HXB.out.lt
          have HX7 := Lib.hid hx7
          clear hx7 hc
          go_wp2_with (at_builtin; refine wpList_append_oneX rfl _ _ rfl (G + 1) _ _ _ X (k + 1) rfl HOB.out rfl HX7.out (by rw [HLB.out]; omega) (by omega) (by rw [HLB.out]) ?_; intro a3 c3 w3 hown3 hgr3 hfr3; have HXC := Lib.hid (HXB.out.grownR hgr3 (fun q hq e => by have := (HOB.out.lt q hq).1; omega)); have r0 := HXC.out.cell (i := 0) rfl; have fr := fun j => HXC.out.frozen j)
          refine NoPanic.normal ?_
          have hGC : G < w3.heap.size := HXC.out.lt
          obtain ⟨Y1, hY1⟩ : ∃ Y, Y = w3.setCell ⟨G, 0, none⟩ (.slice a3 (k + 1) c3) := ⟨_, rfl⟩
          have HXY : Hid (BoxN Y1 G 33 [.slice a3 (k + 1) c3, .slice a2 k c2]) := by unfold Hid; rw [hY1]; exact HXC.out.set 0 _
          have HOY : Hid (OwnI Y1 (G + 1) (.slice a3 (k + 1) c3) ((rgB gr bh m (rgL gr.q r cs N) N).take (k + 1))) := by
            unfold Hid; rw [hY1, show (rgB gr bh m (rgL gr.q r cs N) N).take (k + 1) = (rgB gr bh m (rgL gr.q r cs N) N).take k ++ [X] from HS1.out]; exact hown3.other (by omega) _ _
          have HQY : Hid (OwnQ Y1 (G + 1) (.slice a3 (k + 1) c3) (.slice a2 k c2) ((rgP gr sBit bh m (rgL gr.q r cs N) cs N).take k)) := by
            unfold Hid; rw [hY1]; exact (HQB.out.ints HOB.out hgr3 hfr3).other (by omega) _ _
          have HBY : Hid (Below G wA Y1) := by
            unfold Hid; rw [hY1]
            exact (HBB.out.grown hgr3 (by omega) (fun q hq => by have := (HOB.out.lt q hq).1; omega)).setCell (p := ⟨G, 0, none⟩) (Nat.le_refl _) _
          clear r0 fr hown3 hgr3 hfr3
          (try (go_wp2_with fail))
          rw [← hY1]
          clear hY1
          have HWY : Hid (Below w.heap.size w Y1) := by have h := HBY.out; rw [HGE.out] at h; exact HB.out.trans ((Below.next HBU.out h).mono HB.out.size)
          have hWY : Below W.heap.size W Y1 := by have h := HBY.out; rw [HGE.out] at h; exact Below.next HBU.out h
          have hc : Below Y1.heap.size Y1 Y1 := Below.refl _ _
          have c0_0 := box_at C0.out hWY
          have c0_1 := box_at C1.out hWY
          have c0_2 := box_at C2.out hWY
          have c1_0 := box_at C3.out hWY
          have c1_1 := box_at C4.out hWY
          clear hWY
          have c2_0 := HXY.out.cell (i := 0) rfl
          have c2_1 := HXY.out.cell (i := 1) rfl
          go_wp2_with fail
          try (go_wp2_with fail)
          refine wp_region_noPanic ?_
          refine wp_region_P (fun w' => w'.cell? ⟨w.heap.size, 0, none⟩ = some (.int .i64 gr.p) ∧ w'.cell? ⟨w.heap.size, 1, none⟩ = some (.int .i64 gr.q) ∧ w'.cell? ⟨w.heap.size, 2, none⟩ = some (.int .i64 gr.g) ∧ w'.cell? ⟨(w.heap.size + 1), 0, none⟩ = some (.int .i64 bh) ∧ w'.cell? ⟨(w.heap.size + 1), 1, none⟩ = some (.slice bva bvn bvc) ∧ w'.cell? ⟨G, 0, none⟩ = some (.slice a3 (k + 1) c3) ∧ w'.cell? ⟨G, 1, none⟩ = some (.slice a2 k c2)) 15 [(0, []), (1, [0]), (2, []), (3, []), (4, []), (5, []), (6, []), (7, [0]), (8, [5, 4, 3, 2, 0]), (9, [0])] [10, 11, 12] (by kernel_rfl) (by kernel_rfl) (by kernel_rfl) rfl (fun _ _ _ _ h => h) (fun w' h => ⟨box_at c0_0 h, box_at c0_1 h, box_at c0_2 h, box_at c1_0 h, box_at c1_1 h, box_at c2_0 h, box_at c2_1 h⟩) ?_
          simp only [pickP, pickN, List.getElem?_cons_zero, List.getElem?_cons_succ]
          iterate 7 (refine' chainP_read _ rfl rfl (fun w' hS' => ?_) ?_; rotate_left; · (simp only [lookP, allP, Act.put, List.getElem?_cons_zero, List.getElem?_cons_succ, List.setIfInBounds_toArray, List.set_cons_zero, List.set_cons_succ]; (try dsimp only at hS'); go_simp; (try with_reducible rfl)))
          -- 7: slice 24 t86 none (some (const (int i64 3))) none
          refine' chainP_read (d := (some 87)) _ rfl rfl (fun w' hS' => ?_) ?_; rotate_left
          · simp only [lookP, allP, Act.put, List.getElem?_cons_zero, List.getElem?_cons_succ, List.setIfInBounds_toArray, List.set_cons_zero, List.set_cons_succ]
            (try dsimp only at hS')
            go_simp
            (try with_reducible rfl)
          -- 8: call { callee := value (func 212), args := #[t82, t83, t84, t85, t87], argTypes := #[39, 79, 3, 3, 24] }
          refine chainP_do (d := (some 88)) (fun v u => ∃ x y z, v = .agg #[x, y, z] ∧ OwnI u Y1.heap.size x DD.c ∧ OwnI u Y1.heap.size y DD.h ∧ OwnI u Y1.heap.size z DD.r) (fun v w1 w2 hb h => by obtain ⟨x, y, z, e, h1, h2, h3⟩ := h; exact ⟨x, y, z, e, h1.below hb, h2.below hb, h3.below hb⟩) rfl rfl (fun w' hS' => ?_) ?_
          · simp only [lookP, allP, Act.put, List.getElem?_cons_zero, List.getElem?_cons_succ, List.setIfInBounds_toArray, List.set_cons_zero, List.set_cons_succ]
            intro K hK
            go_simp
            go_at_call 220
            refine (impl_proveBit gr bh _ bl BT R _ CS w' HG.out ((Hbv.out.below HWY.out).below hS'.1) sbh HBO.out HER.out ((HCT.out.below HWY.out).below hS'.1) HCT3.out HCTA.out).mono ?_
            rintro e u ⟨⟨x, y, z, rfl, h1, h2, h3⟩, hq⟩
            rw [HDD.out] at h1 h2 h3
            exact hK.out _ _ hq ⟨x, y, z, rfl, h1.mono hS'.1.size, h2.mono hS'.1.size, h3.mono hS'.1.size⟩
          -- 9: buildSlice 126 1 #[(0, t88)]
          refine chainP_do (d := (some 89)) (fun v u => ∃ b x y z, v = .slice (some ⟨b, 0, none⟩) 1 1 ∧ (u.cell? ⟨b, 0, none⟩ = some x ∧ u.cell? ⟨b, 1, none⟩ = some y ∧ u.cell? ⟨b, 2, none⟩ = some z) ∧ OwnI u Y1.heap.size x DD.c ∧ OwnI u Y1.heap.size y DD.h ∧ OwnI u Y1.heap.size z DD.r) (fun v w1 w2 hb h => by obtain ⟨b, x, y, z, e, ⟨k0, k1, k2⟩, h1, h2, h3⟩ := h; exact ⟨b, x, y, z, e, ⟨box_at k0 hb, box_at k1 hb, box_at k2 hb⟩, h1.below hb, h2.below hb, h3.below hb⟩) rfl rfl (fun w' hS' => ?_) ?_
          · simp only [lookP, allP, Act.put, List.getElem?_cons_zero, List.getElem?_cons_succ, List.setIfInBounds_toArray, List.set_cons_zero, List.set_cons_succ]
            intro x8 hx8
            intro K hK
            obtain ⟨x, y, z, rfl, h1, h2, h3⟩ := hx8
            obtain ⟨xa, xc, hxe⟩ := h1.shape
            obtain ⟨ya, yc, hye⟩ := h2.shape
            obtain ⟨za, zc, hze⟩ := h3.shape
            subst hxe
            subst hye
            subst hze
            go_simp
            refine hK.out _ _ ((Below.refl _ _).alloc (Nat.le_refl _) _) ⟨w'.heap.size, _, _, _, rfl, ⟨by simp [go_sem], by simp [go_sem], by simp [go_sem]⟩, h1.alloc _, h2.alloc _, h3.alloc _⟩
          refine chainP_nil (fun uc hS' => ?_)
          simp only [allP, Act.put, List.setIfInBounds_toArray, List.set_cons_zero, List.set_cons_succ]
          intro x9 hx9
          intro x8 hx8
          have hq1 := hS'.1
          clear hS'
          replace hc := Below.next hc hq1
          replace c0_0 := box_at c0_0 hq1
          replace c0_1 := box_at c0_1 hq1
          replace c0_2 := box_at c0_2 hq1
          replace c1_0 := box_at c1_0 hq1
          replace c1_1 := box_at c1_1 hq1
          replace c2_0 := box_at c2_0 hq1
          replace c2_1 := box_at c2_1 hq1
          clear hq1
          clear c0_0 c0_1 c0_2 c1_0 c1_1 c2_0 c2_1
          clear hx8
          obtain ⟨xb, x, y, z, hxe, ⟨k0, k1, k2⟩, h1, h2, h3⟩ := hx9
          subst hxe
          have HXD := Lib.hid (HXY.out.below hc)
          have HOD := Lib.hid (HOY.out.below hc)
          have HQD := Lib.hid (HQY.out.below hc)
          have HBD : Hid (Below G wA uc) := by have h := HBY.out; unfold Hid; rw [HGE.out] at h ⊢; exact Below.next h hc
          have hGD : G < uc.heap.size := HXD.out.lt
          have hGY : G < Y1.heap.size := HXY.out.lt
          have HP1 := Lib.hid (Parted.since h1 HOY.out)
          have HP2 := Lib.hid (Parted.since h2 HOY.out)
          have HP3 := Lib.hid (Parted.since h3 HOY.out)
          have HR1 := Lib.hid (h1.mono (show G + 1 ≤ Y1.heap.size by omega))
          have HR2 := Lib.hid (h2.mono (show G + 1 ≤ Y1.heap.size by omega))
          have HR3 := Lib.hid (h3.mono (show G + 1 ≤ Y1.heap.size by omega))
          have K0 := Lib.hid k0
          have K1 := Lib.hid k1
          have K2 := Lib.hid k2
          clear h1 h2 h3 k0 k1 k2 hc
          go_wp2_with (at_builtin; refine wpList_append_Q (z := .slice a3 (k + 1) c3) (d := DD) rfl _ _ rfl xb (k + 1) x y z rfl HQD.out HOD.out HR1.out HR2.out HR3.out HP1.out HP2.out HP3.out rfl K0.out K1.out K2.out (by omega) (by rw [HLP.out]; omega) (by rw [HLP.out]) ?_; intro a4 c4 w4 hown4 hz4 hgr4; have HXE := Lib.hid (HXD.out.grownR hgr4 (fun q hq e => by have := (HQD.out.lt q hq).1; omega)); have r0 := HXE.out.cell (i := 1) rfl; have fr := fun j => HXE.out.frozen j)
          refine NoPanic.normal ?_
          obtain ⟨Y2, hY2⟩ : ∃ Y, Y = w4.setCell ⟨G, 1, none⟩ (.slice a4 (k + 1) c4) := ⟨_, rfl⟩
          have HXZ : Hid (BoxN Y2 G 33 [.slice a3 (k + 1) c3, .slice a4 (k + 1) c4]) := by unfold Hid; rw [hY2]; exact HXE.out.set 1 _
          have HOZ : Hid (OwnI Y2 (G + 1) (.slice a3 (k + 1) c3) ((rgB gr bh m (rgL gr.q r cs N) N).take (k + 1))) := by
            unfold Hid; rw [hY2]; exact hz4.other (by omega) _ _
          have HQZ : Hid (OwnQ Y2 (G + 1) (.slice a3 (k + 1) c3) (.slice a4 (k + 1) c4) ((rgP gr sBit bh m (rgL gr.q r cs N) cs N).take (k + 1))) := by
            unfold Hid; rw [hY2, show (rgP gr sBit bh m (rgL gr.q r cs N) cs N).take (k + 1) = (rgP gr sBit bh m (rgL gr.q r cs N) cs N).take k ++ [DD] from HS2.out]; exact hown4.other (by omega) _ _
          have HBZ : Hid (Below G wA Y2) := by
            unfold Hid; rw [hY2]
            exact (HBD.out.grown hgr4 (by omega) (fun q hq => by have := (HQD.out.lt q hq).1; omega)).setCell (p := ⟨G, 1, none⟩) (Nat.le_refl _) _
          clear r0 fr hown4 hz4 hgr4
          (try (go_wp2_with fail))
          try rw [← hY2]
          clear hY2
          go_roundg (N - (k + 1))
          case measure => omega
          case rel => exact ⟨k + 1, a3, c3, a4, c4, by omega, by go_num, HXZ.out, HOZ.out, HQZ.out, HBZ.out⟩
        · obtain rfl : N = k := by omega
          have HF1 : Hid ((rgB gr bh m (rgL gr.q r cs N) N).take N = rgB gr bh m (rgL gr.q r cs N) N) := by unfold Hid rgB; rw [List.take_of_length_le (by rw [List.length_map, List.length_range]; omega)]
          have HF2 : Hid ((rgP gr sBit bh m (rgL gr.q r cs N) cs N).take N = rgP gr sBit bh m (rgL gr.q r cs N) cs N) := by unfold Hid rgP; rw [List.take_of_length_le (by rw [List.length_map, List.length_range]; omega)]
          rw [HF1.out] at HOK
          rw [HF2.out] at HQK
          have c2_0 := HXK.out.cell (i := 0) rfl
          have c2_1 := HXK.out.cell (i := 1) rfl
          have HXR := Lib.hid (HX2.out.belowB HWQ.out (by have := HSW.out; omega))
          have r0 := HXR.out.cell (i := 0) rfl
          have r1 := HXR.out.cell (i := 1) rfl
          have fr := fun j => HXR.out.frozen j
          go_wp2_with fail
          obtain ⟨Z, hZ⟩ : ∃ Z, Z = (wr.setCell ⟨w.heap.size + 1 + 1, 0, none⟩ (.slice a1 N c1)).setCell ⟨w.heap.size + 1 + 1, 1, none⟩ (.slice a2 N c2) := ⟨_, rfl⟩
          have HXZ : Hid (BoxN Z (w.heap.size + 1 + 1) 33 [.slice a1 N c1, .slice a2 N c2]) := by unfold Hid; rw [hZ]; exact (HXR.out.set 0 _).set 1 _
          have HIZ : Hid (OwnI Z w.heap.size (.slice a1 N c1) (rgB gr bh m (rgL gr.q r cs N) N)) := by unfold Hid; rw [hZ]; exact ((HOK.out.other (by have := HSW.out; omega) _ _).other (by have := HSW.out; omega) _ _).mono (by have := HSW.out; omega)
          have HQZ : Hid (OwnQ Z w.heap.size (.slice a1 N c1) (.slice a2 N c2) (rgP gr sBit bh m (rgL gr.q r cs N) cs N)) := by unfold Hid; rw [hZ]; exact ((HQK.out.other (by have := HSW.out; omega) _ _).other (by have := HSW.out; omega) _ _).mono (by have := HSW.out; omega)
          have HBZ : Hid (Below w.heap.size w Z) := by unfold Hid; rw [hZ]; exact ((HB.out.trans (HWQ.out.mono HB.out.size)).setCell (p := ⟨w.heap.size + 1 + 1, 0, none⟩) (by show w.heap.size ≤ w.heap.size + 1 + 1; omega) _).setCell (p := ⟨w.heap.size + 1 + 1, 1, none⟩) (by show w.heap.size ≤ w.heap.size + 1 + 1; omega) _
          rw [← hZ]
          clear hZ r0 r1 fr
          have t0 := HXZ.out.cell (i := 0) rfl
          have t1 := HXZ.out.cell (i := 1) rfl
          try (go_wp2_with fail)
          refine bodyPost_ret (v := .agg #[.slice a1 N c1, .slice a2 N c2]) (by simp [results, Try.results91, go_sem, t0, t1]) rfl ⟨RetG.mk HIZ.out HQZ.out, HBZ.out⟩
set_option maxRecDepth 100000 in
set_option maxHeartbeats 1000000 in
theorem spec_rRange (gr : GroupD) (bh : Int) (bv : Value) (bl : List Int) (m r : Int) (N : Nat) (cv : Value) (cs : List Int) (w : World) (hg : OkG gr) (hb : Ints w bv bl) (sbh : Small bh) (hm : 0 ≤ m ∧ m ≤ 65535) (hr : expB gr r = true) (hN : 1 ≤ N ∧ N ≤ 16) (hcs : Ints w cv cs) (hcl : cs.length = 4 * N - 1) (hca : cs.all (expB gr) = true) :
    Calls Try.prog 96 #[.agg #[.int .i64 gr.p, .int .i64 gr.q, .int .i64 gr.g], .agg #[.int .i64 bh, bv], .int .i64 m, .int .i64 r, .int .i64 (N : Int), cv] w fun e w' => RetG e w' w.heap.size (rgD gr sBit bh m r N cs) ∧ Below w.heap.size w w' := by
  obtain ⟨hN1, hN2⟩ := hN
  obtain ⟨hm1, hm2⟩ := hm
  obtain ⟨bva, bvn, bvc, rfl⟩ := hb.shape
  have Hbv := Lib.hid hb
  clear hb
  obtain ⟨cva, cvn, cvc, rfl⟩ := hcs.shape
  have Ecv := Lib.hid hcs.len
  have Hcv := Lib.hid hcs
  clear hcs
  have HG := Lib.hid hg
  clear hg
  have zq1 := HG.out.q1
  have zq2 := HG.out.q2
  have zp2 := HG.out.p2
  have zq3 : gr.q ≤ 2000000000 := by omega
  have zq0 : 0 < gr.q := by omega
  have zq4 : gr.q ≤ 4000000000 := by omega
  obtain ⟨r1, r2⟩ := expB_bd hr
  have HIr : Hid (I64 r) := ⟨by omega, by omega⟩
  clear hr
  have HCA := Lib.hid hca
  clear hca
  have HCL := Lib.hid hcl
  clear hcl
  have HCN : Hid (cvn = 4 * N - 1) := by have := Ecv.out; have := HCL.out; unfold Hid; omega
  have hw1 : IntKind.i64.wrap ((N : Int) - 1) = (N : Int) - 1 := IntWalk.i64_in _ (by omega)
  obtain ⟨hs1, HI1⟩ := sl_take Hcv.out (x := (N : Int) - 1) (k := N - 1) (by omega) (by have := HCN.out; omega)
  have HT := Lib.hid HI1
  clear HI1
  have HTL : Hid ((cs.take (N - 1)).length = N - 1) := by have := HCL.out; unfold Hid; rw [List.length_take]; omega
  have HSL : Hid (∀ k, (rgS gr.q r cs N k).length = N) := fun k => rgS_length (by have := HCL.out; omega) hN1
  obtain ⟨W, hW⟩ : ∃ W, W = ((w.alloc (.cells #[.int .i64 gr.p, .int .i64 gr.q, .int .i64 gr.g] 25)).alloc (.cells #[.int .i64 bh, .slice bva bvn bvc] 28)).alloc (.cells #[.slice none 0 0, .slice none 0 0] 33) := ⟨_, rfl⟩
  have HB : Hid (Below w.heap.size w W) := by unfold Hid; rw [hW]; (repeat (first | exact Below.refl _ _ | assumption | refine Below.drew ?_ | refine Below.alloc ?_ (by first | (simp; done) | (simp; omega)) _ | refine Below.setCell ?_ (by first | (simp; done) | (simp; omega)) _))
  have C0 : Hid (W.cell? ⟨w.heap.size, 0, none⟩ = some (.int .i64 gr.p)) := by unfold Hid; rw [hW]; simp [go_sem]
  have C1 : Hid (W.cell? ⟨w.heap.size, 1, none⟩ = some (.int .i64 gr.q)) := by unfold Hid; rw [hW]; simp [go_sem]
  have C2 : Hid (W.cell? ⟨w.heap.size, 2, none⟩ = some (.int .i64 gr.g)) := by unfold Hid; rw [hW]; simp [go_sem]
  have C3 : Hid (W.cell? ⟨w.heap.size + 1, 0, none⟩ = some (.int .i64 bh)) := by unfold Hid; rw [hW]; simp [go_sem]
  have C4 : Hid (W.cell? ⟨w.heap.size + 1, 1, none⟩ = some (.slice bva bvn bvc)) := by unfold Hid; rw [hW]; simp [go_sem]
  have HX2 : Hid (BoxN W (w.heap.size + 1 + 1) 33 [.slice none 0 0, .slice none 0 0]) := by
    unfold Hid; rw [hW]
    have h := BoxN.new ((w.alloc (.cells #[.int .i64 gr.p, .int .i64 gr.q, .int .i64 gr.g] 25)).alloc (.cells #[.int .i64 bh, .slice bva bvn bvc] 28)) [.slice none 0 0, .slice none 0 0] 33
    simpa using h
  have HSW : Hid (W.heap.size = w.heap.size + 3) := by unfold Hid; rw [hW]; simp
  have hO0 : Hid (OwnI (W.alloc (.cells #[.int .i64 r] 3)) W.heap.size (.slice (some ⟨W.heap.size, 0, none⟩) 1 1) [r]) := OwnI.lit1 W (Nat.le_refl _) HIr.out
  go_enter Try.func96, Try.ntmps96
  go_upto_region 1 with fail
  rw [← hW]
  have hse : w.heap.size + 1 + 1 + 1 = W.heap.size := by have := HSW.out; omega
  (try rw [hse])
  clear hse hW
  go_upto_region 2 with (at_builtin; refine wpList_append_intsN rfl _ _ rfl W.heap.size _ _ [r] (cs.take (N - 1)) rfl hO0.out rfl ((HT.out.below HB.out).alloc _) (by rw [HTL.out]; simp only [List.length_cons, List.length_nil]; omega) (by simp) N (by rw [HTL.out]; simp only [List.length_cons, List.length_nil]; omega) ?_; intro va vc w1 hown1 hgr1)
  have HB1 : Hid (Below W.heap.size W w1) := ((Below.refl _ _).alloc (Nat.le_refl _) _).trans (hO0.out.grown hgr1 (by simp))
  rw [rgS_zero gr.q r cs N] at hown1
  obtain ⟨rb, hva, hrb, _, _⟩ := hown1.at_ (by rw [HSL.out]; omega)
  subst hva
  have HO1 := Lib.hid hown1
  clear hown1 hgr1 hO0 hs1
  go_wp2_with fail
  go_loopg [14] (N - 1) (fun gh iv wr => ∃ j : Nat, 1 ≤ j ∧ j + gh = N ∧ iv = .int .i64 (j : Int) ∧ OwnI wr W.heap.size (.slice (some ⟨rb, 0, none⟩) N vc) (rgS gr.q r cs N (j - 1)) ∧ Below W.heap.size W wr)
  case atStart => exact ⟨1, by omega, by omega, rfl, HO1.out, HB1.out⟩
  case round =>
    obtain ⟨j, hj1, hjg, rfl, how, hbu⟩ := hrel
    clear HO1 HB1
    have HOW := Lib.hid how
    clear how
    have HBU := Lib.hid hbu
    clear hbu
    by_cases hlt : j < N
    · obtain ⟨A, hA⟩ : ∃ a, rg0 gr.q r cs (j - 1) = a := ⟨_, rfl⟩
      obtain ⟨C, hC⟩ : ∃ c, nth cs (j - 1) = c := ⟨_, rfl⟩
      obtain ⟨PW, hPW⟩ : ∃ z, (2 : Int) ^ j = z := ⟨_, rfl⟩
      have hpw : IntKind.i64.wrap (2 ^ min (IntKind.u64.wrap (j : Int)).toNat 64) = PW := by rw [powS j (by omega), hPW]
      have hpb := powR_bd j (by omega)
      rw [hPW] at hpb
      obtain ⟨hp1, hp2⟩ := hpb
      obtain ⟨ha1, ha2⟩ : 0 ≤ A ∧ A < gr.q := by rw [← hA]; exact rg0_bd zq0 r1 (by omega) _
      obtain ⟨hc1, hc2⟩ : 0 ≤ C ∧ C < gr.q := by
        have hl : j - 1 < cs.length := by have := HCL.out; omega
        have q := List.all_eq_true.1 HCA.out _ (List.getElem_mem hl)
        rw [show nth cs (j - 1) = cs[j - 1] by simp [nth, hl]] at hC
        have q2 := expB_bd q; rw [← hC]; omega
      obtain ⟨hx1, hx2⟩ : 0 ≤ PW * C ∧ PW * C ≤ 131072000000000 := ⟨Int.mul_nonneg (by omega) hc1, Int.le_trans (Int.mul_le_mul hp2 (show C ≤ 2000000000 by omega) hc1 (by decide)) (by decide)⟩
      have ew1 : IntKind.i64.wrap (PW * C) = PW * C := IntWalk.i64_in _ (by omega)
      have HN1 : Hid (I64 (PW * C)) := ⟨by omega, by omega⟩
      have ew2 : IntKind.i64.wrap (A - PW * C) = A - PW * C := IntWalk.i64_in _ (by omega)
      have HN2 : Hid (I64 (A - PW * C)) := ⟨by omega, by omega⟩
      have hEE : (A - (PW * C) % gr.q) % gr.q = (A - PW * C) % gr.q := by rw [Int.sub_emod A ((PW * C) % gr.q), Int.emod_emod, ← Int.sub_emod]
      obtain ⟨E, hE⟩ : ∃ d, (A - PW * C) % gr.q = d := ⟨_, rfl⟩
      obtain ⟨he1, he2⟩ : 0 ≤ E ∧ E < gr.q := by rw [← hE]; exact ⟨Int.emod_nonneg _ (by omega), Int.emod_lt_of_pos _ zq0⟩
      have HST : Hid ((rgS gr.q r cs N (j - 1)).set 0 E = rgS gr.q r cs N j) := by have h := rgS_set (q := gr.q) (r := r) (cs := cs) (N := N) hj1; rw [hA, hC, hPW, hEE, hE] at h; exact h
      have HE := Lib.hid hE
      have HIE : Hid (I64 E) := ⟨by omega, by omega⟩
      have HA0 : Hid (nth (rgS gr.q r cs N (j - 1)) 0 = A) := hA
      have HA1 : Hid (nth (rgS gr.q r cs N (j - 1)) j = C) := by unfold Hid; rw [rgS_at hj1 hlt, hC]
      clear hA hC hPW hE hEE
      obtain ⟨_, hva, _, _, hcx⟩ := HOW.out.at_ (by rw [HSL.out]; omega)
      cases hva
      obtain ⟨y_0, _⟩ := hcx 0 (by omega)
      obtain ⟨y_1, _⟩ := hcx j hlt
      rw [HA0.out] at y_0
      rw [HA1.out] at y_1
      clear hcx
      have hc := HBU.out
      have c0_0 := box_at C0.out hc
      have c0_1 := box_at C1.out hc
      have c0_2 := box_at C2.out hc
      clear hc
      have hc : Below wr.heap.size wr wr := Below.refl _ _
      have b0 : (0 : Int) ≤ (j : Int) := by omega
      have b1 : (j : Int) < (N : Int) := by omega
      have b2 : (0 : Int) < (N : Int) := by omega
      have b3 : 0 < N := by omega
      have hwj : IntKind.i64.wrap ((j : Int) + 1) = (j : Int) + 1 := IntWalk.i64_in _ (by omega)
      go_wp2_with fail
      try (go_wp2_with fail)
      refine wp_region_noPanic ?_
      refine wp_region_P (fun w' => w'.cell? ⟨w.heap.size, 0, none⟩ = some (.int .i64 gr.p) ∧ w'.cell? ⟨w.heap.size, 1, none⟩ = some (.int .i64 gr.q) ∧ w'.cell? ⟨w.heap.size, 2, none⟩ = some (.int .i64 gr.g) ∧ w'.cell? ⟨rb, 0, none⟩ = some (.int .i64 A) ∧ w'.cell? ⟨rb, j, none⟩ = some (.int .i64 C)) 20 [(0, []), (1, []), (2, [0]), (3, [0]), (4, []), (5, [0]), (6, [0]), (7, []), (8, []), (9, [1, 0]), (10, [0]), (11, [4, 0]), (12, [8, 0]), (13, []), (14, [0]), (15, [2, 0]), (16, [15])] [17] (by kernel_rfl) (by kernel_rfl) (by kernel_rfl) rfl (fun _ _ _ _ h => h) (fun w' h => ⟨box_at c0_0 h, box_at c0_1 h, box_at c0_2 h, box_at y_0 h, box_at y_1 h⟩) ?_
      simp only [pickP, pickN, List.getElem?_cons_zero, List.getElem?_cons_succ]
      iterate 5 (refine' chainP_read _ rfl rfl (fun w' hS' => ?_) ?_; rotate_left; · (simp only [lookP, allP, Act.put, List.getElem?_cons_zero, List.getElem?_cons_succ, List.setIfInBounds_toArray, List.set_cons_zero, List.set_cons_succ]; (try dsimp only at hS'); go_simp; (try with_reducible rfl)))
      -- 5: convert 3 229 t34
      refine' chainP_read (d := (some 35)) _ rfl rfl (fun w' hS' => ?_) ?_; rotate_left
      · simp only [lookP, allP, Act.put, List.getElem?_cons_zero, List.getElem?_cons_succ, List.setIfInBounds_toArray, List.set_cons_zero, List.set_cons_succ]
        (try dsimp only at hS')
        go_simp
        (try with_reducible rfl)
      -- 6: binOp Binshl 3 (const (int i64 1)) t35 229
      refine' chainP_read (d := (some 36)) _ rfl rfl (fun w' hS' => ?_) ?_; rotate_left
      · simp only [lookP, allP, Act.put, List.getElem?_cons_zero, List.getElem?_cons_succ, List.setIfInBounds_toArray, List.set_cons_zero, List.set_cons_succ]
        (try dsimp only at hS')
        go_simp
        (try with_reducible rfl)
      iterate 8 (refine' chainP_read _ rfl rfl (fun w' hS' => ?_) ?_; rotate_left; · (simp only [lookP, allP, Act.put, List.getElem?_cons_zero, List.getElem?_cons_succ, List.setIfInBounds_toArray, List.set_cons_zero, List.set_cons_succ]; (try dsimp only at hS'); go_simp; (try with_reducible rfl)))
      -- 15: call { callee := value (func 180), args := #[t42, t44], argTypes := #[3, 3] }
      refine chainP_call (d := (some 45)) (.int .i64 E) rfl rfl (fun w' hS' => ?_) ?_
      · simp only [lookP, allP, Act.put, List.getElem?_cons_zero, List.getElem?_cons_succ, List.setIfInBounds_toArray, List.set_cons_zero, List.set_cons_succ]
        intro K hK
        go_simp
        go_at_call 104
        refine (spec_nMod (A - PW * C) gr.q w' HN2.out zq0 zq4).mono ?_
        rintro e u ⟨rfl, rfl⟩
        rw [HE.out]
        exact hK.out _ (Below.refl _ _)
      -- 16: indexAddr 24 t30 (const (int i64 0))
      refine' chainP_read (d := (some 46)) _ rfl rfl (fun w' hS' => ?_) ?_; rotate_left
      · simp only [lookP, allP, Act.put, List.getElem?_cons_zero, List.getElem?_cons_succ, List.setIfInBounds_toArray, List.set_cons_zero, List.set_cons_succ]
        (try dsimp only at hS')
        go_simp
        (try with_reducible rfl)
      refine chainP_nil (fun u1 hS' => ?_)
      simp only [allP, Act.put, List.setIfInBounds_toArray, List.set_cons_zero, List.set_cons_succ]
      have hq1 := hS'.1
      clear hS'
      replace hc := Below.next hc hq1
      replace c0_0 := box_at c0_0 hq1
      replace c0_1 := box_at c0_1 hq1
      replace c0_2 := box_at c0_2 hq1
      replace y_0 := box_at y_0 hq1
      replace y_1 := box_at y_1 hq1
      clear hq1
      clear c0_0 c0_1 c0_2 y_0 y_1
      have HOU := Lib.hid (HOW.out.below hc)
      have HBV := Lib.hid (Below.next HBU.out hc)
      obtain ⟨_, hva, _, _, hcx⟩ := HOU.out.at_ (by rw [HSL.out]; omega)
      cases hva
      obtain ⟨y_0, fr_0⟩ := hcx 0 (by omega)
      clear hcx hc
      go_wp2_with fail
      refine NoPanic.normal ?_
      obtain ⟨Y, hY⟩ : ∃ Y, Y = u1.setCell ⟨rb, 0, none⟩ (.int .i64 E) := ⟨_, rfl⟩
      have HOY : Hid (OwnI Y W.heap.size (.slice (some ⟨rb, 0, none⟩) N vc) (rgS gr.q r cs N j)) := by
        have h := (HOU.out.stored (HSL.out _) 0 HIE.out).1
        rw [HST.out] at h
        rw [hY]; exact h
      have HBY : Hid (Below W.heap.size W Y) := by unfold Hid; rw [hY]; exact HBV.out.setCell (p := ⟨rb, 0, none⟩) hrb _
      clear y_0 fr_0
      go_wp2_with fail
      try rw [← hY]
      clear hY
      go_roundg (N - (j + 1))
      case measure => omega
      case rel => exact ⟨j + 1, by omega, by omega, by go_num, HOY.out, HBY.out⟩
    · obtain rfl : N = j := by omega
      obtain ⟨wA, hwA⟩ : ∃ u, u = wr := ⟨_, rfl⟩
      subst hwA
      have HRL : Hid (rgS gr.q r cs N (N - 1) = rgL gr.q r cs N) := rgS_last _ _ _ _
      have HRB : Hid (∀ i, i < N → expB gr (nth (rgL gr.q r cs N) i) = true ∧ wA.cell? ⟨rb, i, none⟩ = some (.int .i64 (nth (rgL gr.q r cs N) i))) := by
        intro i hi
        obtain ⟨_, hva, _, _, hcx⟩ := HOW.out.at_ (by rw [HSL.out]; omega)
        cases hva
        refine ⟨?_, ?_⟩
        · rw [← HRL.out]
          rcases Nat.eq_zero_or_pos i with h0 | h0
          · subst h0
            rw [rgS_at0]
            obtain ⟨q1, q2⟩ := rg0_bd (cs := cs) zq0 r1 (show r < gr.q by omega) (N - 1)
            exact exp_of q1 q2
          · rw [rgS_at h0 hi]
            have hl : i - 1 < cs.length := by have := HCL.out; omega
            rw [show nth cs (i - 1) = cs[i - 1] by simp [nth, hl]]
            exact List.all_eq_true.1 HCA.out _ (List.getElem_mem hl)
        · rw [← HRL.out]; exact (hcx i hi).1
      obtain ⟨G, hG⟩ : ∃ g, g = wA.heap.size := ⟨_, rfl⟩
      obtain ⟨V, hV⟩ : ∃ V, V = wA.alloc (.cells #[.slice none 0 0, .slice none 0 0] 33) := ⟨_, rfl⟩
      have HXV : Hid (BoxN V G 33 [.slice none 0 0, .slice none 0 0]) := by unfold Hid; rw [hV, hG]; exact BoxN.new wA [.slice none 0 0, .slice none 0 0] 33
      have HBV : Hid (Below G wA V) := by unfold Hid; rw [hV, hG]; exact (Below.refl _ _).alloc (Nat.le_refl _) _
      have HVS : Hid (V.heap.size = G + 1) := by unfold Hid; rw [hV, hG]; simp
      have hGW : W.heap.size ≤ G := by rw [hG]; exact HBU.out.size
      have b2 : (0 : Int) < (N : Int) := by omega
      go_wp2_with fail
      rw [← hV]
      rw [← hG]
      have HGE := Lib.hid hG
      clear hG
      clear hV
      go_loopg [16] N (fun gh iv wr => ∃ (k : Nat) (a1 : Option Addr) (c1 : Nat) (a2 : Option Addr) (c2 : Nat), k + gh = N ∧ iv = .int .i64 (k : Int) ∧ BoxN wr G 33 [.slice a1 k c1, .slice a2 k c2] ∧ OwnI wr (G + 1) (.slice a1 k c1) ((rgB gr bh m (rgL gr.q r cs N) N).take k) ∧ OwnQ wr (G + 1) (.slice a1 k c1) (.slice a2 k c2) ((rgP gr sBit bh m (rgL gr.q r cs N) cs N).take k) ∧ Below G wA wr)
      case atStart => exact ⟨0, none, 0, none, 0, by omega, rfl, HXV.out, OwnI.nil _ _, OwnQ.nil _ _ _, HBV.out⟩
      case round =>
        obtain ⟨k, a1, c1, a2, c2, hkg, rfl, hxk, hok, hqk, hbk⟩ := hrel
        clear HXV HBV HVS
        have HXK := Lib.hid hxk
        have HOK := Lib.hid hok
        have HQK := Lib.hid hqk
        have HBK := Lib.hid hbk
        clear hxk hok hqk hbk
        have HGK : Hid (G < wr.heap.size) := HXK.out.lt
        have HWQ : Hid (Below W.heap.size W wr) := by have h := HBK.out; unfold Hid; rw [HGE.out] at h; exact Below.next HBU.out h
        by_cases hlt : k < N
        · have HS1 := Lib.hid (take_map_succ (fun i => coM gr bh (bitI m i) (nth (rgL gr.q r cs N) i)) hlt)
          have HS2 := Lib.hid (take_map_succ (fun i => btD gr sBit bh (bitI m i) (nth (rgL gr.q r cs N) i) ((cs.drop (N - 1 + 3 * i)).take 3)) hlt)
          obtain ⟨qe, qc⟩ := HRB.out k hlt
          obtain ⟨R, hR⟩ : ∃ x, nth (rgL gr.q r cs N) k = x := ⟨_, rfl⟩
          simp only [hR] at HS1 HS2
          rw [hR] at qe qc
          clear hR
          have HER := Lib.hid qe
          obtain ⟨rr1, rr2⟩ := expB_bd qe
          have HIR : Hid (I64 R) := ⟨by omega, by omega⟩
          have QC := Lib.hid qc
          have y_1 : wr.cell? ⟨rb, k, none⟩ = some (.int .i64 R) := by have h := HBK.out; rw [HGE.out] at h; exact box_at qc h
          clear qe qc
          obtain ⟨SH, hSH⟩ : ∃ x, m / 2 ^ k = x := ⟨_, rfl⟩
          have hsh : m / 2 ^ min (IntKind.u64.wrap (k : Int)).toNat 64 = SH := by rw [shr_bit hm1 hm2 (by omega), hSH]
          obtain ⟨hsh1, hsh2⟩ : 0 ≤ SH ∧ SH ≤ 65535 := by
            rw [← hSH]
            have hp : (0 : Int) < 2 ^ k := Int.pow_pos (by decide)
            exact ⟨Int.ediv_nonneg hm1 (Int.le_of_lt hp), Int.le_trans (Int.ediv_le_self _ hm1) hm2⟩
          obtain ⟨BT, hBT⟩ : ∃ x, SH % 2 = x := ⟨_, rfl⟩
          have hbt : bits BinOp.and IntKind.i64 SH 1 = BT := by rw [and_bit hsh1 hsh2, hBT]
          have HBO : Hid (BT = 0 ∨ BT = 1) := by unfold Hid; omega
          have HIB : Hid (I64 BT) := by have := HBO.out; exact ⟨by omega, by omega⟩
          have hbi : bitI m k = BT := by unfold bitI; rw [hSH, hBT]
          simp only [hbi] at HS1 HS2
          clear hbi hBT
          obtain ⟨X, hX⟩ : ∃ x, coM gr bh BT R = x := ⟨_, rfl⟩
          have HX := Lib.hid hX
          have HIX : Hid (I64 X) := by unfold Hid; rw [← hX]; exact small_64 (coM_small HG.out _ _ _)
          rw [hX] at HS1
          clear hX
          obtain ⟨CS, hCS⟩ : ∃ x, (cs.drop (N - 1 + 3 * k)).take 3 = x := ⟨_, rfl⟩
          obtain ⟨DD, hDD⟩ : ∃ x, btD gr sBit bh BT R CS = x := ⟨_, rfl⟩
          have HDD := Lib.hid hDD
          rw [hCS, hDD] at HS2
          clear hDD
          have HCT3 : Hid (CS.length = 3) := by unfold Hid; rw [← hCS, List.length_take, List.length_drop]; have := HCL.out; omega
          have HCTA : Hid (CS.all (expB gr) = true) := by
            unfold Hid; rw [← hCS, List.all_eq_true]
            intro x hx
            exact List.all_eq_true.1 HCA.out x (List.mem_of_mem_drop (List.mem_of_mem_take hx))
          obtain ⟨xd, hs2, HI3⟩ := sl_mid Hcv.out (x := (N : Int) - 1 + 3 * (k : Int)) (y := (N : Int) + 2 + 3 * (k : Int)) (j := N - 1 + 3 * k) (k := N - 1 + 3 * k + 3) (by omega) (by omega) (by omega) (by have := HCN.out; omega)
          rw [Nat.add_sub_cancel_left] at hs2 HI3
          rw [hCS] at HI3
          clear hCS
          have hw4 : IntKind.i64.wrap ((N : Int) + 2) = (N : Int) + 2 := IntWalk.i64_in _ (by omega)
          have hw5 : IntKind.i64.wrap ((N : Int) + 2 + 3 * (k : Int)) = (N : Int) + 2 + 3 * (k : Int) := IntWalk.i64_in _ (by omega)
          have HCT := Lib.hid HI3
          clear HI3
          have hw2 : IntKind.i64.wrap (3 * (k : Int)) = 3 * (k : Int) := IntWalk.i64_in _ (by omega)
          have hw3 : IntKind.i64.wrap ((N : Int) - 1 + 3 * (k : Int)) = (N : Int) - 1 + 3 * (k : Int) := IntWalk.i64_in _ (by omega)
          have hwk : IntKind.i64.wrap ((k : Int) + 1) = (k : Int) + 1 := IntWalk.i64_in _ (by omega)
          have HLB : Hid (((rgB gr bh m (rgL gr.q r cs N) N).take k).length = k) := by unfold Hid rgB; rw [List.length_take, List.length_map, List.length_range]; omega
          have HLP : Hid (((rgP gr sBit bh m (rgL gr.q r cs N) cs N).take k).length = k) := by unfold Hid rgP; rw [List.length_take, List.length_map, List.length_range]; omega
          have b0 : (0 : Int) ≤ (k : Int) := by omega
          have b1 : (k : Int) < (N : Int) := by omega
          have hc : Below wr.heap.size wr wr := Below.refl _ _
          have c0_0 := box_at C0.out HWQ.out
          have c0_1 := box_at C1.out HWQ.out
          have c0_2 := box_at C2.out HWQ.out
          have c1_0 := box_at C3.out HWQ.out
          have c1_1 := box_at C4.out HWQ.out
          have c2_0 := HXK.out.cell (i := 0) rfl
          have c2_1 := HXK.out.cell (i := 1) rfl
          go_wp2_with fail
          obtain ⟨ua, hua⟩ : ∃ u, u = wr := ⟨_, rfl⟩
          subst hua
          have HXA := Lib.hid (HXK.out.below (Below.refl _ _))
          have HOA := Lib.hid (HOK.out.below (Below.refl _ _))
          have HQA := Lib.hid (HQK.out.below (Below.refl _ _))
          have HWA : Hid (Below w.heap.size w ua) := HB.out.trans (HWQ.out.mono HB.out.size)
          have HBA : Hid (Below G wA ua) := HBK.out
          have hGA : G < ua.heap.size := HXA.out.lt
          clear hsh hbt hSH
          try (go_wp2_with fail)
          refine wp_region_noPanic ?_
          refine wp_region_P (fun w' => w'.cell? ⟨w.heap.size, 0, none⟩ = some (.int .i64 gr.p) ∧ w'.cell? ⟨w.heap.size, 1, none⟩ = some (.int .i64 gr.q) ∧ w'.cell? ⟨w.heap.size, 2, none⟩ = some (.int .i64 gr.g) ∧ w'.cell? ⟨(w.heap.size + 1), 0, none⟩ = some (.int .i64 bh) ∧ w'.cell? ⟨(w.heap.size + 1), 1, none⟩ = some (.slice bva bvn bvc) ∧ w'.cell? ⟨G, 0, none⟩ = some (.slice a1 k c1) ∧ w'.cell? ⟨G, 1, none⟩ = some (.slice a2 k c2) ∧ w'.cell? ⟨rb, k, none⟩ = some (.int .i64 R)) 16 [(0, []), (1, [0]), (2, []), (3, []), (4, []), (5, []), (6, []), (7, [1, 0]), (8, [0]), (9, [6, 5, 4, 0]), (10, [0])] [11, 12, 13] (by kernel_rfl) (by kernel_rfl) (by kernel_rfl) rfl (fun _ _ _ _ h => h) (fun w' h => ⟨box_at c0_0 h, box_at c0_1 h, box_at c0_2 h, box_at c1_0 h, box_at c1_1 h, box_at c2_0 h, box_at c2_1 h, box_at y_1 h⟩) ?_
          simp only [pickP, pickN, List.getElem?_cons_zero, List.getElem?_cons_succ]
          iterate 9 (refine' chainP_read _ rfl rfl (fun w' hS' => ?_) ?_; rotate_left; · (simp only [lookP, allP, Act.put, List.getElem?_cons_zero, List.getElem?_cons_succ, List.setIfInBounds_toArray, List.set_cons_zero, List.set_cons_succ]; (try dsimp only at hS'); go_simp; (try with_reducible rfl)))
          -- 9: call { callee := value (func 173), args := #[t59, t60, t61, t65], argTypes := #[39, 79, 3, 3] }
          refine chainP_call (d := (some 66)) (.int .i64 X) rfl rfl (fun w' hS' => ?_) ?_
          · simp only [lookP, allP, Act.put, List.getElem?_cons_zero, List.getElem?_cons_succ, List.setIfInBounds_toArray, List.set_cons_zero, List.set_cons_succ]
            intro K hK
            go_simp
            go_at_call 97
            refine (spec_pCommit gr bh _ bl BT R w' HG.out ((Hbv.out.below HWA.out).below hS'.1) sbh HIB.out HIR.out).mono ?_
            rintro e u ⟨rfl, hq⟩
            rw [HX.out]
            exact hK.out _ hq
          -- 10: buildSlice 24 1 #[(0, t66)]
          refine chainP_do (d := (some 67)) (fun v w => Ints w v [X]) (fun v w w' hb h => Ints.below h hb) rfl rfl (fun w' hS' => ?_) ?_
          · simp only [lookP, allP, Act.put, List.getElem?_cons_zero, List.getElem?_cons_succ, List.setIfInBounds_toArray, List.set_cons_zero, List.set_cons_succ]
            intro K hK
            go_simp
            refine hK.out _ _ ((Below.refl _ _).alloc (Nat.le_refl _) _) ?_
            exact (OwnI.lit1 (B := w'.heap.size) w' (Nat.le_refl _) HIX.out).ints
          refine chainP_nil (fun ub hS' => ?_)
          simp only [allP, Act.put, List.setIfInBounds_toArray, List.set_cons_zero, List.set_cons_succ]
          intro x10 hx10
          have hq1 := hS'.1
          clear hS'
          replace hc := Below.next hc hq1
          replace c0_0 := box_at c0_0 hq1
          replace c0_1 := box_at c0_1 hq1
          replace c0_2 := box_at c0_2 hq1
          replace c1_0 := box_at c1_0 hq1
          replace c1_1 := box_at c1_1 hq1
          replace c2_0 := box_at c2_0 hq1
          replace c2_1 := box_at c2_1 hq1
          replace y_1 := box_at y_1 hq1
          clear hq1
          clear c0_0 c0_1 c0_2 c1_0 c1_1 c2_0 c2_1 y_1
          have HXB := Lib.hid (HXA.out.below hc)
          have HOB := Lib.hid (HOA.out.below hc)
          have HQB := Lib.hid (HQA.out.below hc)
          have HBB : Hid (Below G wA ub) := by have h := HBA.out; unfold Hid; rw [HGE.out] at h ⊢; exact Below.next h hc
          have hGB : G < ub.heap.size := HXB.out.lt
          have HX7 := Lib.hid hx10
          clear hx10 hc
          go_wp2_with (at_builtin; refine wpList_append_oneX rfl _ _ rfl (G + 1) _ _ _ X (k + 1) rfl HOB.out rfl HX7.out (by rw [HLB.out]; omega) (by omega) (by rw [HLB.out]) ?_; intro a3 c3 w3 hown3 hgr3 hfr3; have HXC := Lib.hid (HXB.out.grownR hgr3 (fun q hq e => by have := (HOB.out.lt q hq).1; omega)); have r0 := HXC.out.cell (i := 0) rfl; have fr := fun j => HXC.out.frozen j)
          refine NoPanic.normal ?_
          have hGC : G < w3.heap.size := HXC.out.lt
          obtain ⟨Y1, hY1⟩ : ∃ Y, Y = w3.setCell ⟨G, 0, none⟩ (.slice a3 (k + 1) c3) := ⟨_, rfl⟩
          have HXY : Hid (BoxN Y1 G 33 [.slice a3 (k + 1) c3, .slice a2 k c2]) := by unfold Hid; rw [hY1]; exact HXC.out.set 0 _
          have HOY : Hid (OwnI Y1 (G + 1) (.slice a3 (k + 1) c3) ((rgB gr bh m (rgL gr.q r cs N) N).take (k + 1))) := by
            unfold Hid; rw [hY1, show (rgB gr bh m (rgL gr.q r cs N) N).take (k + 1) = (rgB gr bh m (rgL gr.q r cs N) N).take k ++ [X] from HS1.out]; exact hown3.other (by omega) _ _
          have HQY : Hid (OwnQ Y1 (G + 1) (.slice a3 (k + 1) c3) (.slice a2 k c2) ((rgP gr sBit bh m (rgL gr.q r cs N) cs N).take k)) := by
            unfold Hid; rw [hY1]; exact (HQB.out.ints HOB.out hgr3 hfr3).other (by omega) _ _
          have HBY : Hid (Below G wA Y1) := by
            unfold Hid; rw [hY1]
            exact (HBB.out.grown hgr3 (by omega) (fun q hq => by have := (HOB.out.lt q hq).1; omega)).setCell (p := ⟨G, 0, none⟩) (Nat.le_refl _) _
          clear r0 fr hown3 hgr3 hfr3
          (try (go_wp2_with fail))
          rw [← hY1]
          clear hY1
          have HWY : Hid (Below w.heap.size w Y1) := by have h := HBY.out; rw [HGE.out] at h; exact HB.out.trans ((Below.next HBU.out h).mono HB.out.size)
          have hWY : Below W.heap.size W Y1 := by have h := HBY.out; rw [HGE.out] at h; exact Below.next HBU.out h
          have hc : Below Y1.heap.size Y1 Y1 := Below.refl _ _
          have c0_0 := box_at C0.out hWY
          have c0_1 := box_at C1.out hWY
          have c0_2 := box_at C2.out hWY
          have c1_0 := box_at C3.out hWY
          have c1_1 := box_at C4.out hWY
          clear hWY
          have y_1 : Y1.cell? ⟨rb, k, none⟩ = some (.int .i64 R) := by have h := HBY.out; rw [HGE.out] at h; exact box_at QC.out h
          have c2_0 := HXY.out.cell (i := 0) rfl
          have c2_1 := HXY.out.cell (i := 1) rfl
          go_wp2_with fail
          try (go_wp2_with fail)
          refine wp_region_noPanic ?_
          refine wp_region_P (fun w' => w'.cell? ⟨w.heap.size, 0, none⟩ = some (.int .i64 gr.p) ∧ w'.cell? ⟨w.heap.size, 1, none⟩ = some (.int .i64 gr.q) ∧ w'.cell? ⟨w.heap.size, 2, none⟩ = some (.int .i64 gr.g) ∧ w'.cell? ⟨(w.heap.size + 1), 0, none⟩ = some (.int .i64 bh) ∧ w'.cell? ⟨(w.heap.size + 1), 1, none⟩ = some (.slice bva bvn bvc) ∧ w'.cell? ⟨G, 0, none⟩ = some (.slice a3 (k + 1) c3) ∧ w'.cell? ⟨G, 1, none⟩ = some (.slice a2 k c2) ∧ w'.cell? ⟨rb, k, none⟩ = some (.int .i64 R)) 28 [(0, []), (1, [0]), (2, []), (3, []), (4, []), (5, []), (6, []), (7, [1, 0]), (8, [0]), (9, []), (10, []), (11, [0]), (12, []), (13, [0]), (14, [2, 0]), (15, []), (16, [0]), (17, []), (18, [0]), (19, [2, 0]), (20, [10, 5, 0]), (21, [18, 17, 16, 12, 0]), (22, [0])] [23, 24, 25] (by kernel_rfl) (by kernel_rfl) (by kernel_rfl) rfl (fun _ _ _ _ h => h) (fun w' h => ⟨box_at c0_0 h, box_at c0_1 h, box_at c0_2 h, box_at c1_0 h, box_at c1_1 h, box_at c2_0 h, box_at c2_1 h, box_at y_1 h⟩) ?_
          simp only [pickP, pickN, List.getElem?_cons_zero, List.getElem?_cons_succ]
          iterate 20 (refine' chainP_read _ rfl rfl (fun w' hS' => ?_) ?_; rotate_left; · (simp only [lookP, allP, Act.put, List.getElem?_cons_zero, List.getElem?_cons_succ, List.setIfInBounds_toArray, List.set_cons_zero, List.set_cons_succ]; (try dsimp only at hS'); go_simp; (try with_reducible rfl)))
          -- 20: slice 24 t79 (some t84) (some t89) none
          refine' chainP_read (d := (some 90)) _ rfl rfl (fun w' hS' => ?_) ?_; rotate_left
          · simp only [lookP, allP, Act.put, List.getElem?_cons_zero, List.getElem?_cons_succ, List.setIfInBounds_toArray, List.set_cons_zero, List.set_cons_succ]
            (try dsimp only at hS')
            go_simp
            (try with_reducible rfl)
          -- 21: call { callee := value (func 213), args := #[t72, t73, t74, t78, t90], argTypes := #[39, 79, 3, 3, 24] }
          refine chainP_do (d := (some 91)) (fun v u => ∃ x y z, v = .agg #[x, y, z] ∧ OwnI u Y1.heap.size x DD.c ∧ OwnI u Y1.heap.size y DD.h ∧ OwnI u Y1.heap.size z DD.r) (fun v w1 w2 hb h => by obtain ⟨x, y, z, e, h1, h2, h3⟩ := h; exact ⟨x, y, z, e, h1.below hb, h2.below hb, h3.below hb⟩) rfl rfl (fun w' hS' => ?_) ?_
          · simp only [lookP, allP, Act.put, List.getElem?_cons_zero, List.getElem?_cons_succ, List.setIfInBounds_toArray, List.set_cons_zero, List.set_cons_succ]
            intro K hK
            go_simp
            go_at_call 222
            refine (spec_rBit gr bh _ bl BT R _ CS w' HG.out ((Hbv.out.below HWY.out).below hS'.1) sbh HBO.out HER.out ((HCT.out.below HWY.out).below hS'.1) HCT3.out HCTA.out).mono ?_
            rintro e u ⟨⟨x, y, z, rfl, h1, h2, h3⟩, hq⟩
            rw [HDD.out] at h1 h2 h3
            exact hK.out _ _ hq ⟨x, y, z, rfl, h1.mono hS'.1.size, h2.mono hS'.1.size, h3.mono hS'.1.size⟩
          -- 22: buildSlice 126 1 #[(0, t91)]
          refine chainP_do (d := (some 92)) (fun v u => ∃ b x y z, v = .slice (some ⟨b, 0, none⟩) 1 1 ∧ (u.cell? ⟨b, 0, none⟩ = some x ∧ u.cell? ⟨b, 1, none⟩ = some y ∧ u.cell? ⟨b, 2, none⟩ = some z) ∧ OwnI u Y1.heap.size x DD.c ∧ OwnI u Y1.heap.size y DD.h ∧ OwnI u Y1.heap.size z DD.r) (fun v w1 w2 hb h => by obtain ⟨b, x, y, z, e, ⟨k0, k1, k2⟩, h1, h2, h3⟩ := h; exact ⟨b, x, y, z, e, ⟨box_at k0 hb, box_at k1 hb, box_at k2 hb⟩, h1.below hb, h2.below hb, h3.below hb⟩) rfl rfl (fun w' hS' => ?_) ?_
          · simp only [lookP, allP, Act.put, List.getElem?_cons_zero, List.getElem?_cons_succ, List.setIfInBounds_toArray, List.set_cons_zero, List.set_cons_succ]
            intro x21 hx21
            intro K hK
            obtain ⟨x, y, z, rfl, h1, h2, h3⟩ := hx21
            obtain ⟨xa, xc, hxe⟩ := h1.shape
            obtain ⟨ya, yc, hye⟩ := h2.shape
            obtain ⟨za, zc, hze⟩ := h3.shape
            subst hxe
            subst hye
            subst hze
            go_simp
            refine hK.out _ _ ((Below.refl _ _).alloc (Nat.le_refl _) _) ⟨w'.heap.size, _, _, _, rfl, ⟨by simp [go_sem], by simp [go_sem], by simp [go_sem]⟩, h1.alloc _, h2.alloc _, h3.alloc _⟩
          refine chainP_nil (fun uc hS' => ?_)
          simp only [allP, Act.put, List.setIfInBounds_toArray, List.set_cons_zero, List.set_cons_succ]
          intro x22 hx22
          intro x21 hx21
          have hq1 := hS'.1
          clear hS'
          replace hc := Below.next hc hq1
          replace c0_0 := box_at c0_0 hq1
          replace c0_1 := box_at c0_1 hq1
          replace c0_2 := box_at c0_2 hq1
          replace c1_0 := box_at c1_0 hq1
          replace c1_1 := box_at c1_1 hq1
          replace c2_0 := box_at c2_0 hq1
          replace c2_1 := box_at c2_1 hq1
          replace y_1 := box_at y_1 hq1
          clear hq1
          clear c0_0 c0_1 c0_2 c1_0 c1_1 c2_0 c2_1 y_1
          clear hx21
          obtain ⟨xb, x, y, z, hxe, ⟨k0, k1, k2⟩, h1, h2, h3⟩ := hx22
          subst hxe
          have HXD := Lib.hid (HXY.out.below hc)
          have HOD := Lib.hid (HOY.out.below hc)
          have HQD := Lib.hid (HQY.out.below hc)
          have HBD : Hid (Below G wA uc) := by have h := HBY.out; unfold Hid; rw [HGE.out] at h ⊢; exact Below.next h hc
          have hGD : G < uc.heap.size := HXD.out.lt
          have hGY : G < Y1.heap.size := HXY.out.lt
          have HP1 := Lib.hid (Parted.since h1 HOY.out)
          have HP2 := Lib.hid (Parted.since h2 HOY.out)
          have HP3 := Lib.hid (Parted.since h3 HOY.out)
          have HR1 := Lib.hid (h1.mono (show G + 1 ≤ Y1.heap.size by omega))
          have HR2 := Lib.hid (h2.mono (show G + 1 ≤ Y1.heap.size by omega))
          have HR3 := Lib.hid (h3.mono (show G + 1 ≤ Y1.heap.size by omega))
          have K0 := Lib.hid k0
          have K1 := Lib.hid k1
          have K2 := Lib.hid k2
          clear h1 h2 h3 k0 k1 k2 hc
          go_wp2_with (at_builtin; refine wpList_append_Q (z := .slice a3 (k + 1) c3) (d := DD) rfl _ _ rfl xb (k + 1) x y z rfl HQD.out HOD.out HR1.out HR2.out HR3.out HP1.out HP2.out HP3.out rfl K0.out K1.out K2.out (by omega) (by rw [HLP.out]; omega) (by rw [HLP.out]) ?_; intro a4 c4 w4 hown4 hz4 hgr4; have HXE := Lib.hid (HXD.out.grownR hgr4 (fun q hq e => by have := (HQD.out.lt q hq).1; omega)); have r0 := HXE.out.cell (i := 1) rfl; have fr := fun j => HXE.out.frozen j)
          refine NoPanic.normal ?_
          obtain ⟨Y2, hY2⟩ : ∃ Y, Y = w4.setCell ⟨G, 1, none⟩ (.slice a4 (k + 1) c4) := ⟨_, rfl⟩
          have HXZ : Hid (BoxN Y2 G 33 [.slice a3 (k + 1) c3, .slice a4 (k + 1) c4]) := by unfold Hid; rw [hY2]; exact HXE.out.set 1 _
          have HOZ : Hid (OwnI Y2 (G + 1) (.slice a3 (k + 1) c3) ((rgB gr bh m (rgL gr.q r cs N) N).take (k + 1))) := by
            unfold Hid; rw [hY2]; exact hz4.other (by omega) _ _
          have HQZ : Hid (OwnQ Y2 (G + 1) (.slice a3 (k + 1) c3) (.slice a4 (k + 1) c4) ((rgP gr sBit bh m (rgL gr.q r cs N) cs N).take (k + 1))) := by
            unfold Hid; rw [hY2, show (rgP gr sBit bh m (rgL gr.q r cs N) cs N).take (k + 1) = (rgP gr sBit bh m (rgL gr.q r cs N) cs N).take k ++ [DD] from HS2.out]; exact hown4.other (by omega) _ _
          have HBZ : Hid (Below G wA Y2) := by
            unfold Hid; rw [hY2]
            exact (HBD.out.grown hgr4 (by omega) (fun q hq => by have := (HQD.out.lt q hq).1; omega)).setCell (p := ⟨G, 1, none⟩) (Nat.le_refl _) _
          clear r0 fr hown4 hz4 hgr4
          (try (go_wp2_with fail))
          try rw [← hY2]
          clear hY2
          go_roundg (N - (k + 1))
          case measure => omega
          case rel => exact ⟨k + 1, a3, c3, a4, c4, by omega, by go_num, HXZ.out, HOZ.out, HQZ.out, HBZ.out⟩
        · obtain rfl : N = k := by omega
          have HF1 : Hid ((rgB gr bh m (rgL gr.q r cs N) N).take N = rgB gr bh m (rgL gr.q r cs N) N) := by unfold Hid rgB; rw [List.take_of_length_le (by rw [List.length_map, List.length_range]; omega)]
          have HF2 : Hid ((rgP gr sBit bh m (rgL gr.q r cs N) cs N).take N = rgP gr sBit bh m (rgL gr.q r cs N) cs N) := by unfold Hid rgP; rw [List.take_of_length_le (by rw [List.length_map, List.length_range]; omega)]
          rw [HF1.out] at HOK
          rw [HF2.out] at HQK
          have c2_0 := HXK.out.cell (i := 0) rfl
          have c2_1 := HXK.out.cell (i := 1) rfl
          have HXR := Lib.hid (HX2.out.belowB HWQ.out (by have := HSW.out; omega))
          have r0 := HXR.out.cell (i := 0) rfl
          have r1 := HXR.out.cell (i := 1) rfl
          have fr := fun j => HXR.out.frozen j
          go_wp2_with fail
          obtain ⟨Z, hZ⟩ : ∃ Z, Z = (wr.setCell ⟨w.heap.size + 1 + 1, 0, none⟩ (.slice a1 N c1)).setCell ⟨w.heap.size + 1 + 1, 1, none⟩ (.slice a2 N c2) := ⟨_, rfl⟩
          have HXZ : Hid (BoxN Z (w.heap.size + 1 + 1) 33 [.slice a1 N c1, .slice a2 N c2]) := by unfold Hid; rw [hZ]; exact (HXR.out.set 0 _).set 1 _
          have HIZ : Hid (OwnI Z w.heap.size (.slice a1 N c1) (rgB gr bh m (rgL gr.q r cs N) N)) := by unfold Hid; rw [hZ]; exact ((HOK.out.other (by have := HSW.out; omega) _ _).other (by have := HSW.out; omega) _ _).mono (by have := HSW.out; omega)
          have HQZ : Hid (OwnQ Z w.heap.size (.slice a1 N c1) (.slice a2 N c2) (rgP gr sBit bh m (rgL gr.q r cs N) cs N)) := by unfold Hid; rw [hZ]; exact ((HQK.out.other (by have := HSW.out; omega) _ _).other (by have := HSW.out; omega) _ _).mono (by have := HSW.out; omega)
          have HBZ : Hid (Below w.heap.size w Z) := by unfold Hid; rw [hZ]; exact ((HB.out.trans (HWQ.out.mono HB.out.size)).setCell (p := ⟨w.heap.size + 1 + 1, 0, none⟩) (by show w.heap.size ≤ w.heap.size + 1 + 1; omega) _).setCell (p := ⟨w.heap.size + 1 + 1, 1, none⟩) (by show w.heap.size ≤ w.heap.size + 1 + 1; omega) _
          rw [← hZ]
          clear hZ r0 r1 fr
          have t0 := HXZ.out.cell (i := 0) rfl
          have t1 := HXZ.out.cell (i := 1) rfl
          try (go_wp2_with fail)
          refine bodyPost_ret (v := .agg #[.slice a1 N c1, .slice a2 N c2]) (by simp [results, Try.results96, go_sem, t0, t1]) rfl ⟨RetG.mk HIZ.out HQZ.out, HBZ.out⟩
theorem impl_proveRangeN (gr : GroupD) (bh : Int) (bv : Value) (bl : List Int) (m r n : Int) (cv : Value) (cs : List Int) (w : World) (hg : OkG gr) (hb : Ints w bv bl) (sbh : Small bh) (hm : 0 ≤ m ∧ m ≤ 65535) (hr : expB gr r = true) (hn : 1 ≤ n ∧ n ≤ 16) (hcs : Ints w cv cs) (hcl : (cs.length : Int) = 4 * n - 1) (hca : cs.all (expB gr) = true) :
    Calls Try.prog 91 #[.agg #[.int .i64 gr.p, .int .i64 gr.q, .int .i64 gr.g], .agg #[.int .i64 bh, bv], .int .i64 m, .int .i64 r, .int .i64 n, cv] w fun e w' => RetG e w' w.heap.size (rgD gr sBit bh m r n.toNat cs) ∧ Below w.heap.size w w' := by
  obtain ⟨N, rfl⟩ : ∃ N : Nat, n = (N : Int) := ⟨n.toNat, by omega⟩
  rw [Int.toNat_natCast]
  exact impl_proveRange gr bh bv bl m r N cv cs w hg hb sbh hm hr (by omega) hcs (by omega) hca
theorem spec_rRangeN (gr : GroupD) (bh : Int) (bv : Value) (bl : List Int) (m r n : Int) (cv : Value) (cs : List Int) (w : World) (hg : OkG gr) (hb : Ints w bv bl) (sbh : Small bh) (hm : 0 ≤ m ∧ m ≤ 65535) (hr : expB gr r = true) (hn : 1 ≤ n ∧ n ≤ 16) (hcs : Ints w cv cs) (hcl : (cs.length : Int) = 4 * n - 1) (hca : cs.all (expB gr) = true) :
    Calls Try.prog 96 #[.agg #[.int .i64 gr.p, .int .i64 gr.q, .int .i64 gr.g], .agg #[.int .i64 bh, bv], .int .i64 m, .int .i64 r, .int .i64 n, cv] w fun e w' => RetG e w' w.heap.size (rgD gr sBit bh m r n.toNat cs) ∧ Below w.heap.size w w' := by
  obtain ⟨N, rfl⟩ : ∃ N : Nat, n = (N : Int) := ⟨n.toNat, by omega⟩
  rw [Int.toNat_natCast]
  exact spec_rRange gr bh bv bl m r N cv cs w hg hb sbh hm hr (by omega) hcs (by omega) hca
end Go.Proofs.Yteemlmmdngkghaa
