/- The walk of FnLinearProofs (printed by gen_lawlin.py). -/
import Derived.Test.YteemlmmdngkghaaDrL2V
import Derived.Test.YteemlmmdngkghaaEqIV
import Derived.Test.YteemlmmdngkghaaSpoilV
import Derived.Deep.Cut
namespace Go.Proofs.Yteemlmmdngkghaa
open Go.RowKit
set_option linter.unusedSimpArgs false
set_option linter.unusedVariables false

theorem OwnI.apartT {w : World} {B b : Nat} {t : TypeId} {v : Value} {l : List Int} {cs : List Value} (ht : t ≠ 3) (h : OwnI w B v l) (hx : BoxN w b t cs) : ∀ k, v.ownBlock = some k → b ≠ k := by
  rintro k hk rfl
  rcases h.2.2 with h2 | ⟨g, cap, cur, rfl, hg, hr, r⟩
  · rw [h2.1] at hk; cases hk
  · cases hk
    unfold BoxN at hx
    rw [hx] at hr
    injection hr with hr
    injection hr with h1 h2 h3
    exact ht h2
theorem OwnI.setT {w : World} {B b : Nat} {t : TypeId} {v : Value} {l : List Int} {cs : List Value} (ht : t ≠ 3) (h : OwnI w B v l) (hx : BoxN w b t cs) (j : Nat) (x : Value) : OwnI (w.setCell ⟨b, j, none⟩ x) B v l :=
  h.kept (grownBy_setCell _ b j x) (.inr fun e => h.apartT ht hx _ e rfl)
theorem BoxN.grownT {w w' : World} {B b : Nat} {t : TypeId} {v : Value} {l : List Int} {cs : List Value} (ht : t ≠ 3) (h : OwnI w B v l) (hx : BoxN w b t cs) (hg : w.grownBy w' v.ownBlock) : BoxN w' b t cs :=
  (hg.block b hx.lt (fun e => h.apartT ht hx b e.symm rfl)).trans hx
/-- append of two slices of integers, as an operation of a drawn region: what it writes to -/
theorem do_append_intsG {o : Oper} {a : Act} {w : World} {K : Act → World → Prop} {Q : Exit → Act → World → Prop} (s x : Operand)
    (ho : o.op = .call { callee := .builtin .append, args := #[s, x], argTypes := #[26, 26] })
    (B : Nat) (v y : Value) (l m : List Int) (hs : a.eval s = v) (hown : OwnI w B v l) (hx : a.eval x = y) (hy : Ints w y m) (hlen : l.length + m.length ≤ 1000000000000) (hB : B ≤ w.heap.size)
    (hK : ∀ v' w', OwnI w' B v' (l ++ m) → w.grownBy w' v.ownBlock → K (a.put o.dst v') w') : Oper.wp Try.prog o a w K Q := by
  obtain ⟨v', w', hr, h1, h2⟩ := run_append_ints (t := 26) rfl hown hy hlen hB o.type
  unfold Oper.wp execOp
  simp only [ho, resolve, invoke, builtin, Sem.run_bind, Sem.run_pure, Result.andThen_ok, List.map_toArray, List.map_cons, List.map_nil, hs, hx, hr]
  exact hK v' w' h1 h2
theorem plB_linok {gr : GroupD} {s : ByteArray} {bs : List (List Int)} {xs ws : List Int} (h : plB gr s bs xs ws = true) : goodG gr = true ∧ s.size ≤ 40 ∧ LinOk gr bs xs ws := by
  unfold plB at h
  simp only [Bool.and_eq_true, decide_eq_true_iff] at h
  obtain ⟨h1, h2, h3, h4, h5, h6, h7⟩ := h
  exact ⟨h1, h2, h3, h4, h5, h6, h7⟩
/-- what the law asks of a proof -/
theorem lin_tail {gr : GroupD} {s : ByteArray} {bs : List (List Int)} {xs ws : List Int} (h : plB gr s bs xs ws = true) :
    ilB gr bs xs = true ∧ vlA gr s bs (ilR gr bs xs) = true ∧ vlR gr s bs (ilR gr bs xs) (plD gr s bs xs ws) = true := by
  obtain ⟨h1, h2, h3⟩ := plB_linok h
  have hg := goodG_ok h1
  have hi : ilB gr bs xs = true := by unfold ilB; rw [h1, h3.rows, decide_eq_true h3.lx, h3.xe]; rfl
  have hR : ilR gr bs xs = imagesL gr bs xs := by unfold ilR; rw [if_pos hi]
  have hD : plD gr s bs xs ws = pvD gr s bs xs ws := by unfold plD; rw [if_pos h]
  have hA : vlA gr s bs (ilR gr bs xs) = true := by
    unfold vlA
    rw [hR, h1, decide_eq_true h2, h3.rows, decide_eq_true imagesL_length, imagesL_el hg h3.rows h3.lx]; rfl
  refine ⟨hi, hA, ?_⟩
  unfold vlR
  rw [hA, hR, hD, lin_right hg h3]; rfl
theorem bend_tail {gr : GroupD} {s : ByteArray} {bs : List (List Int)} {xs ws : List Int} (h : plB gr s bs xs ws = true) (h1 : nth (bs.headD []) 0 ≠ 1) :
    vlR gr s bs (ilR gr bs xs) (bendD gr (plD gr s bs xs ws)) = false := by
  obtain ⟨g1, _, h3⟩ := plB_linok h
  have hi : ilB gr bs xs = true := (lin_tail h).1
  have hR : ilR gr bs xs = imagesL gr bs xs := by unfold ilR; rw [if_pos hi]
  have hD : plD gr s bs xs ws = pvD gr s bs xs ws := by unfold plD; rw [if_pos h]
  unfold vlR
  rw [hR, hD, lin_wrong (goodG_ok g1) h3 h1, Bool.and_false]
theorem plD_resp {gr : GroupD} {s : ByteArray} {bs : List (List Int)} {xs ws : List Int} (h : plB gr s bs xs ws = true) : 0 < (plD gr s bs xs ws).r.length ∧ (0 ≤ nth (plD gr s bs xs ws).r 0 ∧ nth (plD gr s bs xs ws).r 0 < gr.q) ∧ gr.q ≤ 2000000000 ∧ 2 ≤ gr.q ∧ 0 < bs.length ∧ 0 < headLen bs := by
  obtain ⟨g1, _, h3⟩ := plB_linok h
  have hg := goodG_ok g1
  have hD : plD gr s bs xs ws = pvD gr s bs xs ws := by unfold plD; rw [if_pos h]
  obtain ⟨⟨b1, _⟩, n1, _⟩ := rowsB_len h3.rows
  have hl : ws.length = headLen bs := by rw [h3.lw, h3.lx]
  have e : (pvD gr s bs xs ws).r = respN gr (pvE gr s bs xs ws) ws xs ws.length := rfl
  have hq := hg.q1; have hq2 := hg.q2; have hp2 := hg.p2
  refine ⟨by rw [hD, e, respN_length]; omega, ?_, by omega, hq, by omega, by omega⟩
  rw [hD, e, nth_respN (by omega)]
  exact ⟨Int.emod_nonneg _ (by omega), Int.emod_lt_of_pos _ (by omega)⟩
theorem spec_DrawProveLinear (v : Value) (w : World) (h : Bytes w v) :
    Calls Try.prog 31 #[v] w fun e w' => (∃ (P : Int) (Q : Int) (G : Int) (s : ByteArray) (vr2 : Value) (lr2 : List (List Int)) (vr3 : Value) (lr3 : List Int) (vr4 : Value) (lr4 : List Int), e = .returned (.tuple #[.agg #[.int .i64 P, .int .i64 Q, .int .i64 G], .string s, vr2, vr3, vr4]) ∧ GrB ⟨P, Q, G⟩ ∧ s.size ≤ 100 ∧ (RdL kInts w' vr2 lr2 ∧ lr2.length ≤ 9 ∧ ∀ r ∈ lr2, r.length ≤ 3) ∧ (Ints w' vr3 lr3 ∧ lr3.length ≤ 4) ∧ (Ints w' vr4 lr4 ∧ lr4.length ≤ 5)) ∧ Below w.heap.size w w' := by
  refine (spec_DrawProveLinearS v w h).mono ?_
  rintro e w' ⟨⟨P, Q, G, s, a, b, c, d, f, g, rfl, h1, h2, ⟨h3, h4, h5⟩, ⟨h6, h7⟩, ⟨h8, h9⟩⟩, hb⟩
  exact ⟨⟨P, Q, G, s, a, b, c, d, f, g, rfl, h1, h2, ⟨h3.here, h4, h5⟩, ⟨h6.here, h7⟩, ⟨h8.here, h9⟩⟩, hb⟩
set_option maxRecDepth 100000 in
set_option maxHeartbeats 8000000 in
theorem law_LinearProofs (va vb : Value) (w : World) (h1 : Bytes w va) (h2 : Bytes w vb) :
    Calls Try.prog 5 #[va, vb] w fun e w' => e = .returned (.bool true) ∧ Below w.heap.size w w' := by
  obtain ⟨a, m, c, rfl, k1, k2, hv⟩ := h1
  obtain ⟨a', m', c', rfl, k3, k4, hv'⟩ := h2
  have H1 : Hid (Bytes w (.slice a m c)) := ⟨a, m, c, rfl, k1, k2, hv⟩
  have H2 : Hid (Bytes w (.slice a' m' c')) := ⟨a', m', c', rfl, k3, k4, hv'⟩
  clear hv hv'
  unfold maxLen at k2 k4
  by_cases hbig : (1048576 : Int) < wrap64 ((m : Int) + (m' : Int))
  · go_enter Try.func5, Try.ntmps5
    go_wp2_with fail
    go_ret
    exact ⟨rfl, Below.refl _ _⟩
  have HB : Hid (Below w.heap.size w w) := Below.refl _ _
  go_enter Try.func5, Try.ntmps5
  go_wp2_with fail
  try (go_wp2_with fail)
  refine (spec_DrawProveLinear _ _ (H1.out.below HB.out)).mono ?_
  rintro e u1 ⟨⟨P1a, Q1a, G1a, s1b, v1c, l1c, v1d, l1d, v1e, l1e, rfl, hgr1a, hz1b, ⟨hs1c, hl1c, hr1c⟩, ⟨hs1d, hl1d⟩, ⟨hs1e, hl1e⟩⟩, hb⟩
  clear hgr1a
  clear hr1c
  have HL1c := Lib.hid hs1c
  obtain ⟨a1c, n1c, c1c, rfl⟩ := hs1c.shape
  have HE1c := Lib.hid hs1c.len
  clear hs1c
  have HL1d := Lib.hid hs1d
  obtain ⟨a1d, n1d, c1d, rfl⟩ := hs1d.shape
  have HE1d := Lib.hid hs1d.len
  clear hs1d
  have HL1e := Lib.hid hs1e
  obtain ⟨a1e, n1e, c1e, rfl⟩ := hs1e.shape
  have HE1e := Lib.hid hs1e.len
  clear hs1e
  replace HB := Lib.hid (Below.next HB.out hb)
  clear hb
  obtain ⟨V2, hV⟩ : ∃ V, V = u1.alloc (.cells #[.int .i64 P1a, .int .i64 Q1a, .int .i64 G1a] 25) := ⟨_, rfl⟩
  have hbV : Below u1.heap.size u1 V2 := by rw [hV]; (repeat (first | exact Below.refl _ _ | assumption | refine Below.drew ?_ | refine Below.alloc ?_ (by first | (simp; done) | (simp; omega)) _ | refine Below.setCell ?_ (by first | (simp; done) | (simp; omega)) _))
  have HZ1 : Hid (BoxN V2 u1.heap.size 25 [.int .i64 P1a, .int .i64 Q1a, .int .i64 G1a]) := by unfold Hid; rw [hV]; have h := (BoxN.new u1 [.int .i64 P1a, .int .i64 Q1a, .int .i64 G1a] 25); simpa using h
  try (go_wp2_with fail)
  rw [← hV]
  clear hV
  replace HB := Lib.hid (Below.next HB.out hbV)
  replace HL1c := Lib.hid (HL1c.out.below hbV)
  replace HL1d := Lib.hid (HL1d.out.below hbV)
  replace HL1e := Lib.hid (HL1e.out.below hbV)
  clear hbV
  have z_0_0 := HZ1.out.cell (i := 0) rfl
  have z_0_1 := HZ1.out.cell (i := 1) rfl
  have z_0_2 := HZ1.out.cell (i := 2) rfl
  try (go_wp2_with fail)
  clear z_0_0 z_0_1 z_0_2
  refine (impl_ProveLinearP ⟨P1a, Q1a, G1a⟩ s1b _ l1c _ l1d _ l1e _ (by omega) HL1c.out HL1d.out HL1e.out).mono ?_
  rintro e u3 ⟨⟨v3a, v3b, v3c, rfl, o3a, o3b, o3c⟩, hb⟩
  obtain ⟨D3, hD3⟩ : ∃ d, plD ⟨P1a, Q1a, G1a⟩ s1b l1c l1d l1e = d := ⟨_, rfl⟩
  have HD3 := Lib.hid hD3
  rw [hD3] at o3a o3b o3c
  clear hD3
  have hs3a := o3a.ints
  clear o3a
  have HL3a := Lib.hid hs3a
  obtain ⟨a3a, n3a, c3a, rfl⟩ := hs3a.shape
  have HE3a := Lib.hid hs3a.len
  clear hs3a
  have hs3b := o3b.ints
  clear o3b
  have HL3b := Lib.hid hs3b
  obtain ⟨a3b, n3b, c3b, rfl⟩ := hs3b.shape
  have HE3b := Lib.hid hs3b.len
  clear hs3b
  have hs3c := o3c.ints
  clear o3c
  have HL3c := Lib.hid hs3c
  obtain ⟨a3c, n3c, c3c, rfl⟩ := hs3c.shape
  have HE3c := Lib.hid hs3c.len
  clear hs3c
  obtain ⟨q3, hq3⟩ : ∃ r, plB ⟨P1a, Q1a, G1a⟩ s1b l1c l1d l1e = r := ⟨_, rfl⟩
  have Hq3 := Lib.hid hq3
  rw [hq3]
  clear hq3
  replace HB := Lib.hid (Below.next HB.out hb)
  replace HZ1 := Lib.hid (HZ1.out.below hb)
  replace HL1c := Lib.hid (HL1c.out.below hb)
  replace HL1d := Lib.hid (HL1d.out.below hb)
  replace HL1e := Lib.hid (HL1e.out.below hb)
  clear hb
  have z_0_0 := HZ1.out.cell (i := 0) rfl
  have z_0_1 := HZ1.out.cell (i := 1) rfl
  have z_0_2 := HZ1.out.cell (i := 2) rfl
  have lt_HZ1 := HZ1.out.lt
  obtain ⟨V4, hV⟩ : ∃ V, V = u3.alloc (.cells #[.slice a3a n3a c3a, .slice a3b n3b c3b, .slice a3c n3c c3c] 63) := ⟨_, rfl⟩
  have hbV : Below u3.heap.size u3 V4 := by rw [hV]; (repeat (first | exact Below.refl _ _ | assumption | refine Below.drew ?_ | refine Below.alloc ?_ (by first | (simp; done) | (simp; omega)) _ | refine Below.setCell ?_ (by first | (simp; done) | (simp; omega)) _))
  have HZ2 : Hid (BoxN V4 u3.heap.size 63 [.slice a3a n3a c3a, .slice a3b n3b c3b, .slice a3c n3c c3c]) := by unfold Hid; rw [hV]; have h := (BoxN.new u3 [.slice a3a n3a c3a, .slice a3b n3b c3b, .slice a3c n3c c3c] 63); simpa using h
  try (go_wp2_with fail)
  rw [← hV]
  clear hV
  clear lt_HZ1
  clear z_0_0 z_0_1 z_0_2
  replace HB := Lib.hid (Below.next HB.out hbV)
  replace HZ1 := Lib.hid (HZ1.out.below hbV)
  replace HL1c := Lib.hid (HL1c.out.below hbV)
  replace HL1d := Lib.hid (HL1d.out.below hbV)
  replace HL1e := Lib.hid (HL1e.out.below hbV)
  replace HL3a := Lib.hid (HL3a.out.below hbV)
  replace HL3b := Lib.hid (HL3b.out.below hbV)
  replace HL3c := Lib.hid (HL3c.out.below hbV)
  clear hbV
  have z_0_0 := HZ1.out.cell (i := 0) rfl
  have z_0_1 := HZ1.out.cell (i := 1) rfl
  have z_0_2 := HZ1.out.cell (i := 2) rfl
  have z_1_0 := HZ2.out.cell (i := 0) rfl
  have z_1_1 := HZ2.out.cell (i := 1) rfl
  have z_1_2 := HZ2.out.cell (i := 2) rfl
  try (go_wp2_with fail)
  clear z_0_0 z_0_1 z_0_2 z_1_0 z_1_1 z_1_2
  refine (spec_ProveLinear ⟨P1a, Q1a, G1a⟩ s1b _ l1c _ l1d _ l1e _ (by omega) HL1c.out HL1d.out HL1e.out).mono ?_
  rintro e u5 ⟨⟨v5a, v5b, v5c, rfl, o5a, o5b, o5c⟩, hb⟩
  rw [HD3.out] at o5a o5b o5c
  have hs5a := o5a.ints
  clear o5a
  have HL5a := Lib.hid hs5a
  obtain ⟨a5a, n5a, c5a, rfl⟩ := hs5a.shape
  have HE5a := Lib.hid hs5a.len
  clear hs5a
  have hs5b := o5b.ints
  clear o5b
  have HL5b := Lib.hid hs5b
  obtain ⟨a5b, n5b, c5b, rfl⟩ := hs5b.shape
  have HE5b := Lib.hid hs5b.len
  clear hs5b
  have hs5c := o5c.ints
  clear o5c
  have HL5c := Lib.hid hs5c
  obtain ⟨a5c, n5c, c5c, rfl⟩ := hs5c.shape
  have HE5c := Lib.hid hs5c.len
  clear hs5c
  rw [Hq3.out]
  replace HB := Lib.hid (Below.next HB.out hb)
  replace HZ1 := Lib.hid (HZ1.out.below hb)
  replace HZ2 := Lib.hid (HZ2.out.below hb)
  replace HL1c := Lib.hid (HL1c.out.below hb)
  replace HL1d := Lib.hid (HL1d.out.below hb)
  replace HL1e := Lib.hid (HL1e.out.below hb)
  replace HL3a := Lib.hid (HL3a.out.below hb)
  replace HL3b := Lib.hid (HL3b.out.below hb)
  replace HL3c := Lib.hid (HL3c.out.below hb)
  clear hb
  have z_0_0 := HZ1.out.cell (i := 0) rfl
  have z_0_1 := HZ1.out.cell (i := 1) rfl
  have z_0_2 := HZ1.out.cell (i := 2) rfl
  have z_1_0 := HZ2.out.cell (i := 0) rfl
  have z_1_1 := HZ2.out.cell (i := 1) rfl
  have z_1_2 := HZ2.out.cell (i := 2) rfl
  have lt_HZ1 := HZ1.out.lt
  have lt_HZ2 := HZ2.out.lt
  obtain ⟨V6, hV⟩ : ∃ V, V = u5.alloc (.cells #[.slice a5a n5a c5a, .slice a5b n5b c5b, .slice a5c n5c c5c] 63) := ⟨_, rfl⟩
  have hbV : Below u5.heap.size u5 V6 := by rw [hV]; (repeat (first | exact Below.refl _ _ | assumption | refine Below.drew ?_ | refine Below.alloc ?_ (by first | (simp; done) | (simp; omega)) _ | refine Below.setCell ?_ (by first | (simp; done) | (simp; omega)) _))
  have HZ3 : Hid (BoxN V6 u5.heap.size 63 [.slice a5a n5a c5a, .slice a5b n5b c5b, .slice a5c n5c c5c]) := by unfold Hid; rw [hV]; have h := (BoxN.new u5 [.slice a5a n5a c5a, .slice a5b n5b c5b, .slice a5c n5c c5c] 63); simpa using h
  try (go_wp2_with fail)
  rw [← hV]
  clear hV
  clear lt_HZ1
  clear lt_HZ2
  clear z_0_0 z_0_1 z_0_2 z_1_0 z_1_1 z_1_2
  replace HB := Lib.hid (Below.next HB.out hbV)
  replace HZ1 := Lib.hid (HZ1.out.below hbV)
  replace HZ2 := Lib.hid (HZ2.out.below hbV)
  replace HL1c := Lib.hid (HL1c.out.below hbV)
  replace HL1d := Lib.hid (HL1d.out.below hbV)
  replace HL1e := Lib.hid (HL1e.out.below hbV)
  replace HL3a := Lib.hid (HL3a.out.below hbV)
  replace HL3b := Lib.hid (HL3b.out.below hbV)
  replace HL3c := Lib.hid (HL3c.out.below hbV)
  replace HL5a := Lib.hid (HL5a.out.below hbV)
  replace HL5b := Lib.hid (HL5b.out.below hbV)
  replace HL5c := Lib.hid (HL5c.out.below hbV)
  clear hbV
  have z_0_0 := HZ1.out.cell (i := 0) rfl
  have z_0_1 := HZ1.out.cell (i := 1) rfl
  have z_0_2 := HZ1.out.cell (i := 2) rfl
  have z_1_0 := HZ2.out.cell (i := 0) rfl
  have z_1_1 := HZ2.out.cell (i := 1) rfl
  have z_1_2 := HZ2.out.cell (i := 2) rfl
  have z_2_0 := HZ3.out.cell (i := 0) rfl
  have z_2_1 := HZ3.out.cell (i := 1) rfl
  have z_2_2 := HZ3.out.cell (i := 2) rfl
  try (go_wp2_with fail)
  clear z_0_0 z_0_1 z_0_2 z_1_0 z_1_1 z_1_2 z_2_0 z_2_1 z_2_2
  refine (spec_DrawVerifyLinear _ _ (H2.out.below HB.out)).mono ?_
  rintro e u7 ⟨⟨P7a, Q7a, G7a, s7b, v7c, l7c, v7d, l7d, v7ea, v7eb, v7ec, l7ea, l7eb, l7ec, rfl, hgr7a, hz7b, ⟨hs7c, hl7c, hr7c⟩, ⟨hs7d, hl7d⟩, ⟨hs7ea, hl7ea⟩, ⟨hs7eb, hl7eb⟩, ⟨hs7ec, hl7ec⟩⟩, hb⟩
  clear hgr7a
  clear hr7c
  have HL7c := Lib.hid hs7c
  obtain ⟨a7c, n7c, c7c, rfl⟩ := hs7c.shape
  have HE7c := Lib.hid hs7c.len
  clear hs7c
  have HL7d := Lib.hid hs7d
  obtain ⟨a7d, n7d, c7d, rfl⟩ := hs7d.shape
  have HE7d := Lib.hid hs7d.len
  clear hs7d
  have HL7ea := Lib.hid hs7ea
  obtain ⟨a7ea, n7ea, c7ea, rfl⟩ := hs7ea.shape
  have HE7ea := Lib.hid hs7ea.len
  clear hs7ea
  have HL7eb := Lib.hid hs7eb
  obtain ⟨a7eb, n7eb, c7eb, rfl⟩ := hs7eb.shape
  have HE7eb := Lib.hid hs7eb.len
  clear hs7eb
  have HL7ec := Lib.hid hs7ec
  obtain ⟨a7ec, n7ec, c7ec, rfl⟩ := hs7ec.shape
  have HE7ec := Lib.hid hs7ec.len
  clear hs7ec
  replace HB := Lib.hid (Below.next HB.out hb)
  replace HZ1 := Lib.hid (HZ1.out.below hb)
  replace HZ2 := Lib.hid (HZ2.out.below hb)
  replace HZ3 := Lib.hid (HZ3.out.below hb)
  replace HL1c := Lib.hid (HL1c.out.below hb)
  replace HL1d := Lib.hid (HL1d.out.below hb)
  replace HL1e := Lib.hid (HL1e.out.below hb)
  replace HL3a := Lib.hid (HL3a.out.below hb)
  replace HL3b := Lib.hid (HL3b.out.below hb)
  replace HL3c := Lib.hid (HL3c.out.below hb)
  replace HL5a := Lib.hid (HL5a.out.below hb)
  replace HL5b := Lib.hid (HL5b.out.below hb)
  replace HL5c := Lib.hid (HL5c.out.below hb)
  clear hb
  have z_0_0 := HZ1.out.cell (i := 0) rfl
  have z_0_1 := HZ1.out.cell (i := 1) rfl
  have z_0_2 := HZ1.out.cell (i := 2) rfl
  have z_1_0 := HZ2.out.cell (i := 0) rfl
  have z_1_1 := HZ2.out.cell (i := 1) rfl
  have z_1_2 := HZ2.out.cell (i := 2) rfl
  have z_2_0 := HZ3.out.cell (i := 0) rfl
  have z_2_1 := HZ3.out.cell (i := 1) rfl
  have z_2_2 := HZ3.out.cell (i := 2) rfl
  have lt_HZ1 := HZ1.out.lt
  have lt_HZ2 := HZ2.out.lt
  have lt_HZ3 := HZ3.out.lt
  obtain ⟨V8, hV⟩ : ∃ V, V = (u7.alloc (.cells #[.int .i64 P7a, .int .i64 Q7a, .int .i64 G7a] 25)).alloc (.cells #[.slice a7ea n7ea c7ea, .slice a7eb n7eb c7eb, .slice a7ec n7ec c7ec] 63) := ⟨_, rfl⟩
  have hbV : Below u7.heap.size u7 V8 := by rw [hV]; (repeat (first | exact Below.refl _ _ | assumption | refine Below.drew ?_ | refine Below.alloc ?_ (by first | (simp; done) | (simp; omega)) _ | refine Below.setCell ?_ (by first | (simp; done) | (simp; omega)) _))
  have HZ4 : Hid (BoxN V8 u7.heap.size 25 [.int .i64 P7a, .int .i64 Q7a, .int .i64 G7a]) := by unfold Hid; rw [hV]; have h := ((BoxN.new u7 [.int .i64 P7a, .int .i64 Q7a, .int .i64 G7a] 25).alloc (.cells #[.slice a7ea n7ea c7ea, .slice a7eb n7eb c7eb, .slice a7ec n7ec c7ec] 63)); simpa using h
  have HZ5 : Hid (BoxN V8 (u7.heap.size + 1) 63 [.slice a7ea n7ea c7ea, .slice a7eb n7eb c7eb, .slice a7ec n7ec c7ec]) := by unfold Hid; rw [hV]; have h := (BoxN.new (u7.alloc (.cells #[.int .i64 P7a, .int .i64 Q7a, .int .i64 G7a] 25)) [.slice a7ea n7ea c7ea, .slice a7eb n7eb c7eb, .slice a7ec n7ec c7ec] 63); simpa using h
  try (go_wp2_with fail)
  rw [← hV]
  clear hV
  clear lt_HZ1
  clear lt_HZ2
  clear lt_HZ3
  clear z_0_0 z_0_1 z_0_2 z_1_0 z_1_1 z_1_2 z_2_0 z_2_1 z_2_2
  replace HB := Lib.hid (Below.next HB.out hbV)
  replace HZ1 := Lib.hid (HZ1.out.below hbV)
  replace HZ2 := Lib.hid (HZ2.out.below hbV)
  replace HZ3 := Lib.hid (HZ3.out.below hbV)
  replace HL1c := Lib.hid (HL1c.out.below hbV)
  replace HL1d := Lib.hid (HL1d.out.below hbV)
  replace HL1e := Lib.hid (HL1e.out.below hbV)
  replace HL3a := Lib.hid (HL3a.out.below hbV)
  replace HL3b := Lib.hid (HL3b.out.below hbV)
  replace HL3c := Lib.hid (HL3c.out.below hbV)
  replace HL5a := Lib.hid (HL5a.out.below hbV)
  replace HL5b := Lib.hid (HL5b.out.below hbV)
  replace HL5c := Lib.hid (HL5c.out.below hbV)
  replace HL7c := Lib.hid (HL7c.out.below hbV)
  replace HL7d := Lib.hid (HL7d.out.below hbV)
  replace HL7ea := Lib.hid (HL7ea.out.below hbV)
  replace HL7eb := Lib.hid (HL7eb.out.below hbV)
  replace HL7ec := Lib.hid (HL7ec.out.below hbV)
  clear hbV
  have z_0_0 := HZ1.out.cell (i := 0) rfl
  have z_0_1 := HZ1.out.cell (i := 1) rfl
  have z_0_2 := HZ1.out.cell (i := 2) rfl
  have z_1_0 := HZ2.out.cell (i := 0) rfl
  have z_1_1 := HZ2.out.cell (i := 1) rfl
  have z_1_2 := HZ2.out.cell (i := 2) rfl
  have z_2_0 := HZ3.out.cell (i := 0) rfl
  have z_2_1 := HZ3.out.cell (i := 1) rfl
  have z_2_2 := HZ3.out.cell (i := 2) rfl
  have z_3_0 := HZ4.out.cell (i := 0) rfl
  have z_3_1 := HZ4.out.cell (i := 1) rfl
  have z_3_2 := HZ4.out.cell (i := 2) rfl
  have z_4_0 := HZ5.out.cell (i := 0) rfl
  have z_4_1 := HZ5.out.cell (i := 1) rfl
  have z_4_2 := HZ5.out.cell (i := 2) rfl
  try (go_wp2_with fail)
  clear z_0_0 z_0_1 z_0_2 z_1_0 z_1_1 z_1_2 z_2_0 z_2_1 z_2_2 z_3_0 z_3_1 z_3_2 z_4_0 z_4_1 z_4_2
  refine (impl_VerifyLinear ⟨P7a, Q7a, G7a⟩ s7b _ l7c _ l7d _ ⟨l7ea, l7eb, l7ec⟩ _ (by omega) HL7c.out HL7d.out (PfR.mk HL7ea.out HL7eb.out HL7ec.out)).mono ?_
  rintro e u9 ⟨rfl, hb⟩
  obtain ⟨q9a, hq9a⟩ : ∃ r, vlR ⟨P7a, Q7a, G7a⟩ s7b l7c l7d ⟨l7ea, l7eb, l7ec⟩ = r := ⟨_, rfl⟩
  have Hq9a := Lib.hid hq9a
  rw [hq9a]
  clear hq9a
  obtain ⟨q9b, hq9b⟩ : ∃ r, vlA ⟨P7a, Q7a, G7a⟩ s7b l7c l7d = r := ⟨_, rfl⟩
  have Hq9b := Lib.hid hq9b
  rw [hq9b]
  clear hq9b
  replace HB := Lib.hid (Below.next HB.out hb)
  replace HZ1 := Lib.hid (HZ1.out.below hb)
  replace HZ2 := Lib.hid (HZ2.out.below hb)
  replace HZ3 := Lib.hid (HZ3.out.below hb)
  replace HZ4 := Lib.hid (HZ4.out.below hb)
  replace HZ5 := Lib.hid (HZ5.out.below hb)
  replace HL1c := Lib.hid (HL1c.out.below hb)
  replace HL1d := Lib.hid (HL1d.out.below hb)
  replace HL1e := Lib.hid (HL1e.out.below hb)
  replace HL3a := Lib.hid (HL3a.out.below hb)
  replace HL3b := Lib.hid (HL3b.out.below hb)
  replace HL3c := Lib.hid (HL3c.out.below hb)
  replace HL5a := Lib.hid (HL5a.out.below hb)
  replace HL5b := Lib.hid (HL5b.out.below hb)
  replace HL5c := Lib.hid (HL5c.out.below hb)
  replace HL7c := Lib.hid (HL7c.out.below hb)
  replace HL7d := Lib.hid (HL7d.out.below hb)
  replace HL7ea := Lib.hid (HL7ea.out.below hb)
  replace HL7eb := Lib.hid (HL7eb.out.below hb)
  replace HL7ec := Lib.hid (HL7ec.out.below hb)
  clear hb
  have z_0_0 := HZ1.out.cell (i := 0) rfl
  have z_0_1 := HZ1.out.cell (i := 1) rfl
  have z_0_2 := HZ1.out.cell (i := 2) rfl
  have z_1_0 := HZ2.out.cell (i := 0) rfl
  have z_1_1 := HZ2.out.cell (i := 1) rfl
  have z_1_2 := HZ2.out.cell (i := 2) rfl
  have z_2_0 := HZ3.out.cell (i := 0) rfl
  have z_2_1 := HZ3.out.cell (i := 1) rfl
  have z_2_2 := HZ3.out.cell (i := 2) rfl
  have z_3_0 := HZ4.out.cell (i := 0) rfl
  have z_3_1 := HZ4.out.cell (i := 1) rfl
  have z_3_2 := HZ4.out.cell (i := 2) rfl
  have z_4_0 := HZ5.out.cell (i := 0) rfl
  have z_4_1 := HZ5.out.cell (i := 1) rfl
  have z_4_2 := HZ5.out.cell (i := 2) rfl
  try (go_wp2_with fail)
  clear z_0_0 z_0_1 z_0_2 z_1_0 z_1_1 z_1_2 z_2_0 z_2_1 z_2_2 z_3_0 z_3_1 z_3_2 z_4_0 z_4_1 z_4_2
  refine (spec_VerifyLinear ⟨P7a, Q7a, G7a⟩ s7b _ l7c _ l7d _ ⟨l7ea, l7eb, l7ec⟩ _ (by omega) HL7c.out HL7d.out (PfR.mk HL7ea.out HL7eb.out HL7ec.out)).mono ?_
  rintro e u10 ⟨rfl, hb⟩
  rw [Hq9a.out]
  rw [Hq9b.out]
  replace HB := Lib.hid (Below.next HB.out hb)
  replace HZ1 := Lib.hid (HZ1.out.below hb)
  replace HZ2 := Lib.hid (HZ2.out.below hb)
  replace HZ3 := Lib.hid (HZ3.out.below hb)
  replace HZ4 := Lib.hid (HZ4.out.below hb)
  replace HZ5 := Lib.hid (HZ5.out.below hb)
  replace HL1c := Lib.hid (HL1c.out.below hb)
  replace HL1d := Lib.hid (HL1d.out.below hb)
  replace HL1e := Lib.hid (HL1e.out.below hb)
  replace HL3a := Lib.hid (HL3a.out.below hb)
  replace HL3b := Lib.hid (HL3b.out.below hb)
  replace HL3c := Lib.hid (HL3c.out.below hb)
  replace HL5a := Lib.hid (HL5a.out.below hb)
  replace HL5b := Lib.hid (HL5b.out.below hb)
  replace HL5c := Lib.hid (HL5c.out.below hb)
  replace HL7c := Lib.hid (HL7c.out.below hb)
  replace HL7d := Lib.hid (HL7d.out.below hb)
  replace HL7ea := Lib.hid (HL7ea.out.below hb)
  replace HL7eb := Lib.hid (HL7eb.out.below hb)
  replace HL7ec := Lib.hid (HL7ec.out.below hb)
  clear hb
  have eq_q3 : (q3 == q3) = true := by simp
  have z_0_0 := HZ1.out.cell (i := 0) rfl
  have z_0_1 := HZ1.out.cell (i := 1) rfl
  have z_0_2 := HZ1.out.cell (i := 2) rfl
  have z_1_0 := HZ2.out.cell (i := 0) rfl
  have z_1_1 := HZ2.out.cell (i := 1) rfl
  have z_1_2 := HZ2.out.cell (i := 2) rfl
  have z_2_0 := HZ3.out.cell (i := 0) rfl
  have z_2_1 := HZ3.out.cell (i := 1) rfl
  have z_2_2 := HZ3.out.cell (i := 2) rfl
  have z_3_0 := HZ4.out.cell (i := 0) rfl
  have z_3_1 := HZ4.out.cell (i := 1) rfl
  have z_3_2 := HZ4.out.cell (i := 2) rfl
  have z_4_0 := HZ5.out.cell (i := 0) rfl
  have z_4_1 := HZ5.out.cell (i := 1) rfl
  have z_4_2 := HZ5.out.cell (i := 2) rfl
  try (go_wp2_with fail)
  clear z_0_0 z_0_1 z_0_2 z_1_0 z_1_1 z_1_2 z_2_0 z_2_1 z_2_2 z_3_0 z_3_1 z_3_2 z_4_0 z_4_1 z_4_2
  refine (laws_qProof _ _ D3 _ (PfR.mk HL3a.out HL3b.out HL3c.out) (PfR.mk HL5a.out HL5b.out HL5c.out)).mono ?_
  rintro e u11 ⟨rfl, hb⟩
  replace HB := Lib.hid (Below.next HB.out hb)
  replace HZ1 := Lib.hid (HZ1.out.below hb)
  replace HZ2 := Lib.hid (HZ2.out.below hb)
  replace HZ3 := Lib.hid (HZ3.out.below hb)
  replace HZ4 := Lib.hid (HZ4.out.below hb)
  replace HZ5 := Lib.hid (HZ5.out.below hb)
  replace HL1c := Lib.hid (HL1c.out.below hb)
  replace HL1d := Lib.hid (HL1d.out.below hb)
  replace HL1e := Lib.hid (HL1e.out.below hb)
  replace HL3a := Lib.hid (HL3a.out.below hb)
  replace HL3b := Lib.hid (HL3b.out.below hb)
  replace HL3c := Lib.hid (HL3c.out.below hb)
  replace HL5a := Lib.hid (HL5a.out.below hb)
  replace HL5b := Lib.hid (HL5b.out.below hb)
  replace HL5c := Lib.hid (HL5c.out.below hb)
  replace HL7c := Lib.hid (HL7c.out.below hb)
  replace HL7d := Lib.hid (HL7d.out.below hb)
  replace HL7ea := Lib.hid (HL7ea.out.below hb)
  replace HL7eb := Lib.hid (HL7eb.out.below hb)
  replace HL7ec := Lib.hid (HL7ec.out.below hb)
  clear hb
  have eq_q9b : (q9b == q9b) = true := by simp
  have eq_q9a : (q9a == q9a) = true := by simp
  cases q3 with
  | false =>
    have z_0_0 := HZ1.out.cell (i := 0) rfl
    have z_0_1 := HZ1.out.cell (i := 1) rfl
    have z_0_2 := HZ1.out.cell (i := 2) rfl
    have z_1_0 := HZ2.out.cell (i := 0) rfl
    have z_1_1 := HZ2.out.cell (i := 1) rfl
    have z_1_2 := HZ2.out.cell (i := 2) rfl
    have z_2_0 := HZ3.out.cell (i := 0) rfl
    have z_2_1 := HZ3.out.cell (i := 1) rfl
    have z_2_2 := HZ3.out.cell (i := 2) rfl
    have z_3_0 := HZ4.out.cell (i := 0) rfl
    have z_3_1 := HZ4.out.cell (i := 1) rfl
    have z_3_2 := HZ4.out.cell (i := 2) rfl
    have z_4_0 := HZ5.out.cell (i := 0) rfl
    have z_4_1 := HZ5.out.cell (i := 1) rfl
    have z_4_2 := HZ5.out.cell (i := 2) rfl
    try (go_wp2_with fail)
    clear z_0_0 z_0_1 z_0_2 z_1_0 z_1_1 z_1_2 z_2_0 z_2_1 z_2_2 z_3_0 z_3_1 z_3_2 z_4_0 z_4_1 z_4_2
    go_ret
    exact ⟨rfl, HB.out⟩
  | true =>
    have ht := lin_tail Hq3.out
    have hrs := plD_resp Hq3.out
    rw [HD3.out] at ht hrs
    obtain ⟨IM, hIM⟩ : ∃ l, ilR ⟨P1a, Q1a, G1a⟩ l1c l1d = l := ⟨_, rfl⟩
    rw [hIM] at ht
    have HIM := Lib.hid hIM
    have HT := Lib.hid ht
    have HRS := Lib.hid hrs
    have HPB : Hid (plB ⟨P1a, Q1a, G1a⟩ s1b l1c l1d l1e = true) := Hq3.out
    clear ht hIM hrs
    have z_0_0 := HZ1.out.cell (i := 0) rfl
    have z_0_1 := HZ1.out.cell (i := 1) rfl
    have z_0_2 := HZ1.out.cell (i := 2) rfl
    have z_1_0 := HZ2.out.cell (i := 0) rfl
    have z_1_1 := HZ2.out.cell (i := 1) rfl
    have z_1_2 := HZ2.out.cell (i := 2) rfl
    have z_2_0 := HZ3.out.cell (i := 0) rfl
    have z_2_1 := HZ3.out.cell (i := 1) rfl
    have z_2_2 := HZ3.out.cell (i := 2) rfl
    have z_3_0 := HZ4.out.cell (i := 0) rfl
    have z_3_1 := HZ4.out.cell (i := 1) rfl
    have z_3_2 := HZ4.out.cell (i := 2) rfl
    have z_4_0 := HZ5.out.cell (i := 0) rfl
    have z_4_1 := HZ5.out.cell (i := 1) rfl
    have z_4_2 := HZ5.out.cell (i := 2) rfl
    try (go_wp2_with fail)
    clear z_0_0 z_0_1 z_0_2 z_1_0 z_1_1 z_1_2 z_2_0 z_2_1 z_2_2 z_3_0 z_3_1 z_3_2 z_4_0 z_4_1 z_4_2
    refine (impl_ImagesOf ⟨P1a, Q1a, G1a⟩ _ l1c _ l1d _ HL1c.out HL1d.out).mono ?_
    rintro e u12 ⟨⟨v12, rfl, o12⟩, hb⟩
    have hs12 := o12.ints
    clear o12
    rw [HIM.out] at hs12
    rw [HT.out.1]
    have HL12 := Lib.hid hs12
    obtain ⟨a12, n12, c12, rfl⟩ := hs12.shape
    have HE12 := Lib.hid hs12.len
    clear hs12
    replace HB := Lib.hid (Below.next HB.out hb)
    replace HZ1 := Lib.hid (HZ1.out.below hb)
    replace HZ2 := Lib.hid (HZ2.out.below hb)
    replace HZ3 := Lib.hid (HZ3.out.below hb)
    replace HZ4 := Lib.hid (HZ4.out.below hb)
    replace HZ5 := Lib.hid (HZ5.out.below hb)
    replace HL1c := Lib.hid (HL1c.out.below hb)
    replace HL1d := Lib.hid (HL1d.out.below hb)
    replace HL1e := Lib.hid (HL1e.out.below hb)
    replace HL3a := Lib.hid (HL3a.out.below hb)
    replace HL3b := Lib.hid (HL3b.out.below hb)
    replace HL3c := Lib.hid (HL3c.out.below hb)
    replace HL5a := Lib.hid (HL5a.out.below hb)
    replace HL5b := Lib.hid (HL5b.out.below hb)
    replace HL5c := Lib.hid (HL5c.out.below hb)
    replace HL7c := Lib.hid (HL7c.out.below hb)
    replace HL7d := Lib.hid (HL7d.out.below hb)
    replace HL7ea := Lib.hid (HL7ea.out.below hb)
    replace HL7eb := Lib.hid (HL7eb.out.below hb)
    replace HL7ec := Lib.hid (HL7ec.out.below hb)
    clear hb
    have z_0_0 := HZ1.out.cell (i := 0) rfl
    have z_0_1 := HZ1.out.cell (i := 1) rfl
    have z_0_2 := HZ1.out.cell (i := 2) rfl
    have z_1_0 := HZ2.out.cell (i := 0) rfl
    have z_1_1 := HZ2.out.cell (i := 1) rfl
    have z_1_2 := HZ2.out.cell (i := 2) rfl
    have z_2_0 := HZ3.out.cell (i := 0) rfl
    have z_2_1 := HZ3.out.cell (i := 1) rfl
    have z_2_2 := HZ3.out.cell (i := 2) rfl
    have z_3_0 := HZ4.out.cell (i := 0) rfl
    have z_3_1 := HZ4.out.cell (i := 1) rfl
    have z_3_2 := HZ4.out.cell (i := 2) rfl
    have z_4_0 := HZ5.out.cell (i := 0) rfl
    have z_4_1 := HZ5.out.cell (i := 1) rfl
    have z_4_2 := HZ5.out.cell (i := 2) rfl
    try (go_wp2_with fail)
    clear z_0_0 z_0_1 z_0_2 z_1_0 z_1_1 z_1_2 z_2_0 z_2_1 z_2_2 z_3_0 z_3_1 z_3_2 z_4_0 z_4_1 z_4_2
    refine (impl_VerifyLinear ⟨P1a, Q1a, G1a⟩ s1b _ l1c _ IM _ D3 _ (by omega) HL1c.out HL12.out (PfR.mk HL3a.out HL3b.out HL3c.out)).mono ?_
    rintro e u13 ⟨rfl, hb⟩
    rw [HT.out.2.1, HT.out.2.2]
    replace HB := Lib.hid (Below.next HB.out hb)
    replace HZ1 := Lib.hid (HZ1.out.below hb)
    replace HZ2 := Lib.hid (HZ2.out.below hb)
    replace HZ3 := Lib.hid (HZ3.out.below hb)
    replace HZ4 := Lib.hid (HZ4.out.below hb)
    replace HZ5 := Lib.hid (HZ5.out.below hb)
    replace HL1c := Lib.hid (HL1c.out.below hb)
    replace HL1d := Lib.hid (HL1d.out.below hb)
    replace HL1e := Lib.hid (HL1e.out.below hb)
    replace HL3a := Lib.hid (HL3a.out.below hb)
    replace HL3b := Lib.hid (HL3b.out.below hb)
    replace HL3c := Lib.hid (HL3c.out.below hb)
    replace HL5a := Lib.hid (HL5a.out.below hb)
    replace HL5b := Lib.hid (HL5b.out.below hb)
    replace HL5c := Lib.hid (HL5c.out.below hb)
    replace HL7c := Lib.hid (HL7c.out.below hb)
    replace HL7d := Lib.hid (HL7d.out.below hb)
    replace HL7ea := Lib.hid (HL7ea.out.below hb)
    replace HL7eb := Lib.hid (HL7eb.out.below hb)
    replace HL7ec := Lib.hid (HL7ec.out.below hb)
    replace HL12 := Lib.hid (HL12.out.below hb)
    clear hb
    obtain ⟨bb, bo, r0a, r0n, r0c, e, hf1, hf2, hf3⟩ := first_row HL1c.out (by have := HE1c.out; have := HRS.out.2.2.2.2.1; omega)
    cases e
    have hbn : 0 < n1c := by have := HE1c.out; have := HRS.out.2.2.2.2.1; omega
    have hr0 : 0 < r0n := by rw [hf2]; exact HRS.out.2.2.2.2.2
    obtain ⟨rb, ro, e, hcr⟩ := hf3.at_ hr0
    cases e
    have hf4 := hcr 0 hr0
    rw [Nat.add_zero] at hf4
    obtain ⟨x1, hx1⟩ : ∃ x, nth (l1c.headD []) 0 = x := ⟨_, rfl⟩
    rw [hx1] at hf4
    have HX1 := Lib.hid hx1
    clear hf2 hf3 hcr hx1
    by_cases hone : x1 = 1
    · subst hone
      have z_0_0 := HZ1.out.cell (i := 0) rfl
      have z_0_1 := HZ1.out.cell (i := 1) rfl
      have z_0_2 := HZ1.out.cell (i := 2) rfl
      have z_1_0 := HZ2.out.cell (i := 0) rfl
      have z_1_1 := HZ2.out.cell (i := 1) rfl
      have z_1_2 := HZ2.out.cell (i := 2) rfl
      have z_2_0 := HZ3.out.cell (i := 0) rfl
      have z_2_1 := HZ3.out.cell (i := 1) rfl
      have z_2_2 := HZ3.out.cell (i := 2) rfl
      have z_3_0 := HZ4.out.cell (i := 0) rfl
      have z_3_1 := HZ4.out.cell (i := 1) rfl
      have z_3_2 := HZ4.out.cell (i := 2) rfl
      have z_4_0 := HZ5.out.cell (i := 0) rfl
      have z_4_1 := HZ5.out.cell (i := 1) rfl
      have z_4_2 := HZ5.out.cell (i := 2) rfl
      try (go_wp2_with fail)
      clear z_0_0 z_0_1 z_0_2 z_1_0 z_1_1 z_1_2 z_2_0 z_2_1 z_2_2 z_3_0 z_3_1 z_3_2 z_4_0 z_4_1 z_4_2
      go_ret
      exact ⟨rfl, HB.out⟩
    have hone1 : (x1 == 1) = false := by rw [beq_eq_false_iff_ne]; exact hone
    have HBT0 := Lib.hid (bend_tail HPB.out (by rw [HX1.out]; exact hone))
    clear hone
    have z_0_0 := HZ1.out.cell (i := 0) rfl
    have z_0_1 := HZ1.out.cell (i := 1) rfl
    have z_0_2 := HZ1.out.cell (i := 2) rfl
    have z_1_0 := HZ2.out.cell (i := 0) rfl
    have z_1_1 := HZ2.out.cell (i := 1) rfl
    have z_1_2 := HZ2.out.cell (i := 2) rfl
    have z_2_0 := HZ3.out.cell (i := 0) rfl
    have z_2_1 := HZ3.out.cell (i := 1) rfl
    have z_2_2 := HZ3.out.cell (i := 2) rfl
    have z_3_0 := HZ4.out.cell (i := 0) rfl
    have z_3_1 := HZ4.out.cell (i := 1) rfl
    have z_3_2 := HZ4.out.cell (i := 2) rfl
    have z_4_0 := HZ5.out.cell (i := 0) rfl
    have z_4_1 := HZ5.out.cell (i := 1) rfl
    have z_4_2 := HZ5.out.cell (i := 2) rfl
    go_upto_region 19 with fail
    clear z_0_0 z_0_1 z_0_2 z_1_0 z_1_1 z_1_2 z_2_0 z_2_1 z_2_2 z_3_0 z_3_1 z_3_2 z_4_0 z_4_1 z_4_2
    clear hf1 hf4 hone1
    have hr := HRS.out.1
    obtain ⟨rb, ro, e, hcr⟩ := HL3c.out.at_ (by have := HE3c.out; omega)
    cases e
    have hrn : 0 < n3c := by have := HE3c.out; omega
    have yr := hcr 0 hrn
    rw [Nat.add_zero] at yr
    obtain ⟨⟨y1, y2⟩, q1, q2, _⟩ := HRS.out.2
    obtain ⟨y, hy⟩ : ∃ y, nth D3.r 0 = y := ⟨_, rfl⟩
    rw [hy] at yr y1 y2
    have HY := Lib.hid hy
    clear hy hcr hr
    replace y2 : y < Q1a := y2
    replace q1 : Q1a ≤ 2000000000 := q1
    replace q2 : 2 ≤ Q1a := q2
    have hqz : ¬ Q1a = 0 := by omega
    have hqz2 : (Q1a == 0) = false := by rw [beq_eq_false_iff_ne]; omega
    have ew1 : IntKind.i64.wrap (y + 1) = y + 1 := IntWalk.i64_in _ (by omega)
    have et1 : Int.tmod (y + 1) Q1a = (y + 1) % Q1a := Int.tmod_eq_emod_of_nonneg (by omega)
    have z1 : 0 ≤ (y + 1) % Q1a := Int.emod_nonneg _ (by omega)
    have z2 : (y + 1) % Q1a < Q1a := Int.emod_lt_of_pos _ (by omega)
    have ew2 : IntKind.i64.wrap ((y + 1) % Q1a) = (y + 1) % Q1a := IntWalk.i64_in _ (by omega)
    have HZI : Hid (I64 ((y + 1) % Q1a)) := ⟨by omega, by omega⟩
    obtain ⟨ad, hrun, hsl⟩ := sl_dropU (a := some ⟨rb, ro, none⟩) (n := n3c) (c := c3c) (x := 1) (k := 1) rfl (by omega)
    have HSL := Lib.hid hsl
    clear hsl z1 z2
    have c0 := HZ1.out.cell (i := 0) rfl
    have c1 := HZ1.out.cell (i := 1) rfl
    have c2 := HZ1.out.cell (i := 2) rfl
    have p0 := HZ2.out.cell (i := 0) rfl
    have p1 := HZ2.out.cell (i := 1) rfl
    have p2 := HZ2.out.cell (i := 2) rfl
    have HCC : Hid (∀ w', Below u13.heap.size u13 w' → w'.cell? ⟨u1.heap.size, 0, none⟩ = some (.int .i64 P1a) ∧ w'.cell? ⟨u1.heap.size, 1, none⟩ = some (.int .i64 Q1a) ∧ w'.cell? ⟨u1.heap.size, 2, none⟩ = some (.int .i64 G1a) ∧ w'.cell? ⟨u3.heap.size, 0, none⟩ = some (.slice a3a n3a c3a) ∧ w'.cell? ⟨u3.heap.size, 1, none⟩ = some (.slice a3b n3b c3b) ∧ w'.cell? ⟨u3.heap.size, 2, none⟩ = some (.slice (some ⟨rb, ro, none⟩) n3c c3c) ∧ w'.cell? ⟨rb, ro, none⟩ = some (.int .i64 y)) := fun w' h => ⟨box_at c0 h, box_at c1 h, box_at c2 h, box_at p0 h, box_at p1 h, box_at p2 h, box_at yr h⟩
    go_wp2_with fail
    refine wp_region_noPanic ?_
    refine wp_region_V (fun w' => w'.cell? ⟨u1.heap.size, 0, none⟩ = some (.int .i64 P1a) ∧ w'.cell? ⟨u1.heap.size, 1, none⟩ = some (.int .i64 Q1a) ∧ w'.cell? ⟨u1.heap.size, 2, none⟩ = some (.int .i64 G1a) ∧ w'.cell? ⟨u3.heap.size, 0, none⟩ = some (.slice a3a n3a c3a) ∧ w'.cell? ⟨u3.heap.size, 1, none⟩ = some (.slice a3b n3b c3b) ∧ w'.cell? ⟨u3.heap.size, 2, none⟩ = some (.slice (some ⟨rb, ro, none⟩) n3c c3c) ∧ w'.cell? ⟨rb, ro, none⟩ = some (.int .i64 y)) 22 19 (.rd 0 (.rd 1 (.rd 2 (.rd 3 (.rd 4 (.rd 5 (.rd 6 (.rd 7 (.rd 8 (.rd 9 (.rd 10 (.rd 11 (.rd 13 (.rd 14 (.rd 15 (.alt 12 (.alt 16 (.alt 17 (.alt 18 .done .nil) (.alt 18 (.alt 17 .done .nil) .nil)) (.alt 18 (.alt 16 (.alt 17 .done .nil) .nil) .nil)) (.alt 18 (.alt 12 (.alt 16 (.alt 17 .done .nil) .nil) .nil) .nil))))))))))))))))) [19] (by kernel_rfl) (by kernel_rfl) rfl (fun _ _ _ _ _ h => h) (HCC.out _ (Below.refl _ _).drew) ?_
    simp only [pickV, pickN, List.getElem?_cons_zero, List.getElem?_cons_succ]
    repeat (refine' wpV_read _ (by kernel_rfl) (fun w' hS' => ?_) ?_; rotate_left; · ((try dsimp only at hS'); go_simp; (try with_reducible rfl)); (try simp only [Act.put, List.setIfInBounds_toArray, List.set_cons_zero, List.set_cons_succ]))
    have hbd : Below u13.heap.size u13 u13.drew := (Below.refl _ _).drew
    have hszd := hbd.size
    obtain ⟨D0, hD0⟩ : ∃ D0, D0 = u13.drew := ⟨_, rfl⟩
    rw [← hD0] at hbd hszd ⊢
    have hB0 : u13.heap.size ≤ D0.heap.size := hszd
    clear hD0
    have hl3cx : D3.r.length ≤ 30 := by have h := (plD_len ⟨P1a, Q1a, G1a⟩ s1b l1c l1d l1e).2.2; rw [HD3.out] at h; exact h
    refine wpV_or (by kernel_rfl) (fun K hK => ?_) ?_
    · obtain ⟨A1, hA⟩ : ∃ V, V = D0.alloc (.cells #[.int .i64 ((y + 1) % Q1a)] 3) := ⟨_, rfl⟩
      have hbA : Below D0.heap.size D0 A1 := by rw [hA]; exact (Below.refl _ _).alloc (Nat.le_refl _) _
      have hsA1 : D0.heap.size < A1.heap.size := by rw [hA]; simp
      have HOA : Hid (OwnI A1 D0.heap.size (.slice (some ⟨D0.heap.size, 0, none⟩) 1 1) [((y + 1) % Q1a)]) := by unfold Hid; rw [hA]; exact OwnI.lit D0 (Nat.le_refl _) (l := [((y + 1) % Q1a)]) (AllI64.cons HZI.out AllI64.nil) rfl (by simp [maxLen]) 1 rfl
      replace HOA := Lib.hid (HOA.out.mono (B' := u13.heap.size) (by omega))
      have hcA1 : Below u13.heap.size u13 A1 := Below.next hbd hbA
      go_simp
      rw [← hA]
      refine hK.out _ _ (HCC.out _ hcA1) (fun _ => ?_)
      clear hA hbA
      clear hK K
      (try simp only [Act.put, List.setIfInBounds_toArray, List.set_cons_zero, List.set_cons_succ])
      refine wpV_or (by kernel_rfl) (fun K hK => ?_) ?_
      · refine do_append_intsG _ _ rfl u13.heap.size _ _ [((y + 1) % Q1a)] (D3.r.drop 1) rfl HOA.out rfl ((HSL.out _ _ HL3c.out).below hcA1) (by have := HE3c.out; have := hl3cx; simp; omega) hcA1.size ?_
        intro v3 A2 ho3 hg3
        have hcA2 : Below u13.heap.size u13 A2 := (hcA1.mono (Nat.le_refl _)).trans (HOA.out.grown hg3 hcA1.size)
        obtain ⟨a3, n3, c3, rfl⟩ := ho3.ints.shape
        have HOV := Lib.hid ho3
        clear ho3 hg3 HOA
        refine hK.out _ _ (HCC.out _ hcA2) (fun _ => ?_)
        clear hK K
        (try simp only [Act.put, List.setIfInBounds_toArray, List.set_cons_zero, List.set_cons_succ])
        refine wpV_or (by kernel_rfl) (fun K hK => ?_) ?_
        · go_simp
          refine hK.out _ _ (HCC.out _ hcA2) (fun _ => ?_)
          clear hK K
          (try simp only [Act.put, List.setIfInBounds_toArray, List.set_cons_zero, List.set_cons_succ])
          refine wpV_do (by kernel_rfl) (fun K hK => ?_)
          obtain ⟨A3, hA⟩ : ∃ V, V = A2.alloc (.cells #[.slice none 0 0, .slice none 0 0, .slice none 0 0] 63) := ⟨_, rfl⟩
          have hbA : Below A2.heap.size A2 A3 := by rw [hA]; exact (Below.refl _ _).alloc (Nat.le_refl _) _
          have hsA3 : A2.heap.size < A3.heap.size := by rw [hA]; simp
          have HNB : Hid (BoxN A3 A2.heap.size 63 [.slice none 0 0, .slice none 0 0, .slice none 0 0]) := by unfold Hid; rw [hA]; exact BoxN.new A2 _ _
          replace HOV := Lib.hid (HOV.out.below hbA)
          have hcA3 : Below u13.heap.size u13 A3 := Below.next hcA2 hbA
          go_simp
          rw [← hA]
          refine hK.out _ _ (HCC.out _ hcA3) (fun _ => ?_)
          clear hA hbA
          clear hK K
          (try simp only [Act.put, List.setIfInBounds_toArray, List.set_cons_zero, List.set_cons_succ])
          refine wpV_done ?_
          have hbx : u13.heap.size ≤ A2.heap.size := by have := hcA2.size; omega
          have r0 := HNB.out.cell (i := 0) rfl
          have r1 := HNB.out.cell (i := 1) rfl
          have r2 := HNB.out.cell (i := 2) rfl
          have fr := fun j => HNB.out.frozen j
          go_wp2_with fail
          refine NoPanic.normal ?_
          obtain ⟨Y, hY⟩ : ∃ Y, Y = ((A3.setCell ⟨A2.heap.size, 0, none⟩ (.slice a3a n3a c3a)).setCell ⟨A2.heap.size, 1, none⟩ (.slice a3b n3b c3b)).setCell ⟨A2.heap.size, 2, none⟩ (.slice a3 n3 c3) := ⟨_, rfl⟩
          have HNY : Hid (BoxN Y (A2.heap.size) 63 [.slice a3a n3a c3a, .slice a3b n3b c3b, .slice a3 n3 c3]) := by unfold Hid; rw [hY]; exact (((HNB.out.set 0 (.slice a3a n3a c3a)).set 1 (.slice a3b n3b c3b)).set 2 (.slice a3 n3 c3))
          have hOY : Ints Y (.slice a3 n3 c3) ([((y + 1) % Q1a)] ++ D3.r.drop 1) := by rw [hY]; exact (((HOV.out.setT (by decide) HNB.out 0 (.slice a3a n3a c3a)).setT (by decide) (HNB.out.set 0 (.slice a3a n3a c3a)) 1 (.slice a3b n3b c3b)).setT (by decide) ((HNB.out.set 0 (.slice a3a n3a c3a)).set 1 (.slice a3b n3b c3b)) 2 (.slice a3 n3 c3)).ints
          have hbY : Below u13.heap.size u13 Y := by rw [hY]; exact (((hcA3.setCell (p := ⟨A2.heap.size, 0, none⟩) (by show u13.heap.size ≤ A2.heap.size; omega) (.slice a3a n3a c3a)).setCell (p := ⟨A2.heap.size, 1, none⟩) (by show u13.heap.size ≤ A2.heap.size; omega) (.slice a3b n3b c3b)).setCell (p := ⟨A2.heap.size, 2, none⟩) (by show u13.heap.size ≤ A2.heap.size; omega) (.slice a3 n3 c3))
          rw [← hY]
          clear hY r0 r1 r2 fr HOV HNB HCC c0 c1 c2 p0 p1 p2 yr
          have HLz := Lib.hid hOY
          clear hOY
          have HEz := Lib.hid HLz.out.len
          replace HB := Lib.hid (Below.next HB.out hbY)
          replace HZ1 := Lib.hid (HZ1.out.below hbY)
          replace HZ2 := Lib.hid (HZ2.out.below hbY)
          replace HZ3 := Lib.hid (HZ3.out.below hbY)
          replace HZ4 := Lib.hid (HZ4.out.below hbY)
          replace HZ5 := Lib.hid (HZ5.out.below hbY)
          replace HL1c := Lib.hid (HL1c.out.below hbY)
          replace HL1d := Lib.hid (HL1d.out.below hbY)
          replace HL1e := Lib.hid (HL1e.out.below hbY)
          replace HL3a := Lib.hid (HL3a.out.below hbY)
          replace HL3b := Lib.hid (HL3b.out.below hbY)
          replace HL3c := Lib.hid (HL3c.out.below hbY)
          replace HL5a := Lib.hid (HL5a.out.below hbY)
          replace HL5b := Lib.hid (HL5b.out.below hbY)
          replace HL5c := Lib.hid (HL5c.out.below hbY)
          replace HL7c := Lib.hid (HL7c.out.below hbY)
          replace HL7d := Lib.hid (HL7d.out.below hbY)
          replace HL7ea := Lib.hid (HL7ea.out.below hbY)
          replace HL7eb := Lib.hid (HL7eb.out.below hbY)
          replace HL7ec := Lib.hid (HL7ec.out.below hbY)
          replace HL12 := Lib.hid (HL12.out.below hbY)
          clear hbY
          have HBT : Hid (vlR ⟨P1a, Q1a, G1a⟩ s1b l1c IM (bendD ⟨P1a, Q1a, G1a⟩ D3) = false) := by have h := HBT0.out; rw [HIM.out, HD3.out] at h; exact h
          have z_0_0 := HZ1.out.cell (i := 0) rfl
          have z_0_1 := HZ1.out.cell (i := 1) rfl
          have z_0_2 := HZ1.out.cell (i := 2) rfl
          have z_1_0 := HZ2.out.cell (i := 0) rfl
          have z_1_1 := HZ2.out.cell (i := 1) rfl
          have z_1_2 := HZ2.out.cell (i := 2) rfl
          have z_2_0 := HZ3.out.cell (i := 0) rfl
          have z_2_1 := HZ3.out.cell (i := 1) rfl
          have z_2_2 := HZ3.out.cell (i := 2) rfl
          have z_3_0 := HZ4.out.cell (i := 0) rfl
          have z_3_1 := HZ4.out.cell (i := 1) rfl
          have z_3_2 := HZ4.out.cell (i := 2) rfl
          have z_4_0 := HZ5.out.cell (i := 0) rfl
          have z_4_1 := HZ5.out.cell (i := 1) rfl
          have z_4_2 := HZ5.out.cell (i := 2) rfl
          have z_5_0 := HNY.out.cell (i := 0) rfl
          have z_5_1 := HNY.out.cell (i := 1) rfl
          have z_5_2 := HNY.out.cell (i := 2) rfl
          try (go_wp2_with fail)
          clear z_0_0 z_0_1 z_0_2 z_1_0 z_1_1 z_1_2 z_2_0 z_2_1 z_2_2 z_3_0 z_3_1 z_3_2 z_4_0 z_4_1 z_4_2 z_5_0 z_5_1 z_5_2
          refine (impl_VerifyLinear ⟨P1a, Q1a, G1a⟩ s1b _ l1c _ IM _ (bendD ⟨P1a, Q1a, G1a⟩ D3) _ (by omega) HL1c.out HL12.out (PfR.mk HL3a.out HL3b.out (by have h := HLz.out; have e := HY.out; unfold bendD; rw [e]; exact h))).mono ?_
          rintro e u14 ⟨rfl, hb⟩
          rw [HT.out.2.1, HBT.out]
          replace HB := Lib.hid (Below.next HB.out hb)
          replace HZ1 := Lib.hid (HZ1.out.below hb)
          replace HZ2 := Lib.hid (HZ2.out.below hb)
          replace HZ3 := Lib.hid (HZ3.out.below hb)
          replace HZ4 := Lib.hid (HZ4.out.below hb)
          replace HZ5 := Lib.hid (HZ5.out.below hb)
          replace HNY := Lib.hid (HNY.out.below hb)
          replace HL1c := Lib.hid (HL1c.out.below hb)
          replace HL1d := Lib.hid (HL1d.out.below hb)
          replace HL1e := Lib.hid (HL1e.out.below hb)
          replace HL3a := Lib.hid (HL3a.out.below hb)
          replace HL3b := Lib.hid (HL3b.out.below hb)
          replace HL3c := Lib.hid (HL3c.out.below hb)
          replace HL5a := Lib.hid (HL5a.out.below hb)
          replace HL5b := Lib.hid (HL5b.out.below hb)
          replace HL5c := Lib.hid (HL5c.out.below hb)
          replace HL7c := Lib.hid (HL7c.out.below hb)
          replace HL7d := Lib.hid (HL7d.out.below hb)
          replace HL7ea := Lib.hid (HL7ea.out.below hb)
          replace HL7eb := Lib.hid (HL7eb.out.below hb)
          replace HL7ec := Lib.hid (HL7ec.out.below hb)
          replace HL12 := Lib.hid (HL12.out.below hb)
          replace HLz := Lib.hid (HLz.out.below hb)
          clear hb
          have z_0_0 := HZ1.out.cell (i := 0) rfl
          have z_0_1 := HZ1.out.cell (i := 1) rfl
          have z_0_2 := HZ1.out.cell (i := 2) rfl
          have z_1_0 := HZ2.out.cell (i := 0) rfl
          have z_1_1 := HZ2.out.cell (i := 1) rfl
          have z_1_2 := HZ2.out.cell (i := 2) rfl
          have z_2_0 := HZ3.out.cell (i := 0) rfl
          have z_2_1 := HZ3.out.cell (i := 1) rfl
          have z_2_2 := HZ3.out.cell (i := 2) rfl
          have z_3_0 := HZ4.out.cell (i := 0) rfl
          have z_3_1 := HZ4.out.cell (i := 1) rfl
          have z_3_2 := HZ4.out.cell (i := 2) rfl
          have z_4_0 := HZ5.out.cell (i := 0) rfl
          have z_4_1 := HZ5.out.cell (i := 1) rfl
          have z_4_2 := HZ5.out.cell (i := 2) rfl
          have z_5_0 := HNY.out.cell (i := 0) rfl
          have z_5_1 := HNY.out.cell (i := 1) rfl
          have z_5_2 := HNY.out.cell (i := 2) rfl
          try (go_wp2_with fail)
          clear z_0_0 z_0_1 z_0_2 z_1_0 z_1_1 z_1_2 z_2_0 z_2_1 z_2_2 z_3_0 z_3_1 z_3_2 z_4_0 z_4_1 z_4_2 z_5_0 z_5_1 z_5_2
          go_ret
          exact ⟨rfl, HB.out⟩
        refine wpV_do (by kernel_rfl) (fun K hK => ?_)
        obtain ⟨A3, hA⟩ : ∃ V, V = A2.alloc (.cells #[.slice none 0 0, .slice none 0 0, .slice none 0 0] 63) := ⟨_, rfl⟩
        have hbA : Below A2.heap.size A2 A3 := by rw [hA]; exact (Below.refl _ _).alloc (Nat.le_refl _) _
        have hsA3 : A2.heap.size < A3.heap.size := by rw [hA]; simp
        have HNB : Hid (BoxN A3 A2.heap.size 63 [.slice none 0 0, .slice none 0 0, .slice none 0 0]) := by unfold Hid; rw [hA]; exact BoxN.new A2 _ _
        replace HOV := Lib.hid (HOV.out.below hbA)
        have hcA3 : Below u13.heap.size u13 A3 := Below.next hcA2 hbA
        go_simp
        rw [← hA]
        refine hK.out _ _ (HCC.out _ hcA3) (fun _ => ?_)
        clear hA hbA
        clear hK K
        (try simp only [Act.put, List.setIfInBounds_toArray, List.set_cons_zero, List.set_cons_succ])
        refine wpV_do (by kernel_rfl) (fun K hK => ?_)
        go_simp
        refine hK.out _ _ (HCC.out _ hcA3) (fun _ => ?_)
        clear hK K
        (try simp only [Act.put, List.setIfInBounds_toArray, List.set_cons_zero, List.set_cons_succ])
        refine wpV_done ?_
        have hbx : u13.heap.size ≤ A2.heap.size := by have := hcA2.size; omega
        have r0 := HNB.out.cell (i := 0) rfl
        have r1 := HNB.out.cell (i := 1) rfl
        have r2 := HNB.out.cell (i := 2) rfl
        have fr := fun j => HNB.out.frozen j
        go_wp2_with fail
        refine NoPanic.normal ?_
        obtain ⟨Y, hY⟩ : ∃ Y, Y = ((A3.setCell ⟨A2.heap.size, 0, none⟩ (.slice a3a n3a c3a)).setCell ⟨A2.heap.size, 1, none⟩ (.slice a3b n3b c3b)).setCell ⟨A2.heap.size, 2, none⟩ (.slice a3 n3 c3) := ⟨_, rfl⟩
        have HNY : Hid (BoxN Y (A2.heap.size) 63 [.slice a3a n3a c3a, .slice a3b n3b c3b, .slice a3 n3 c3]) := by unfold Hid; rw [hY]; exact (((HNB.out.set 0 (.slice a3a n3a c3a)).set 1 (.slice a3b n3b c3b)).set 2 (.slice a3 n3 c3))
        have hOY : Ints Y (.slice a3 n3 c3) ([((y + 1) % Q1a)] ++ D3.r.drop 1) := by rw [hY]; exact (((HOV.out.setT (by decide) HNB.out 0 (.slice a3a n3a c3a)).setT (by decide) (HNB.out.set 0 (.slice a3a n3a c3a)) 1 (.slice a3b n3b c3b)).setT (by decide) ((HNB.out.set 0 (.slice a3a n3a c3a)).set 1 (.slice a3b n3b c3b)) 2 (.slice a3 n3 c3)).ints
        have hbY : Below u13.heap.size u13 Y := by rw [hY]; exact (((hcA3.setCell (p := ⟨A2.heap.size, 0, none⟩) (by show u13.heap.size ≤ A2.heap.size; omega) (.slice a3a n3a c3a)).setCell (p := ⟨A2.heap.size, 1, none⟩) (by show u13.heap.size ≤ A2.heap.size; omega) (.slice a3b n3b c3b)).setCell (p := ⟨A2.heap.size, 2, none⟩) (by show u13.heap.size ≤ A2.heap.size; omega) (.slice a3 n3 c3))
        rw [← hY]
        clear hY r0 r1 r2 fr HOV HNB HCC c0 c1 c2 p0 p1 p2 yr
        have HLz := Lib.hid hOY
        clear hOY
        have HEz := Lib.hid HLz.out.len
        replace HB := Lib.hid (Below.next HB.out hbY)
        replace HZ1 := Lib.hid (HZ1.out.below hbY)
        replace HZ2 := Lib.hid (HZ2.out.below hbY)
        replace HZ3 := Lib.hid (HZ3.out.below hbY)
        replace HZ4 := Lib.hid (HZ4.out.below hbY)
        replace HZ5 := Lib.hid (HZ5.out.below hbY)
        replace HL1c := Lib.hid (HL1c.out.below hbY)
        replace HL1d := Lib.hid (HL1d.out.below hbY)
        replace HL1e := Lib.hid (HL1e.out.below hbY)
        replace HL3a := Lib.hid (HL3a.out.below hbY)
        replace HL3b := Lib.hid (HL3b.out.below hbY)
        replace HL3c := Lib.hid (HL3c.out.below hbY)
        replace HL5a := Lib.hid (HL5a.out.below hbY)
        replace HL5b := Lib.hid (HL5b.out.below hbY)
        replace HL5c := Lib.hid (HL5c.out.below hbY)
        replace HL7c := Lib.hid (HL7c.out.below hbY)
        replace HL7d := Lib.hid (HL7d.out.below hbY)
        replace HL7ea := Lib.hid (HL7ea.out.below hbY)
        replace HL7eb := Lib.hid (HL7eb.out.below hbY)
        replace HL7ec := Lib.hid (HL7ec.out.below hbY)
        replace HL12 := Lib.hid (HL12.out.below hbY)
        clear hbY
        have HBT : Hid (vlR ⟨P1a, Q1a, G1a⟩ s1b l1c IM (bendD ⟨P1a, Q1a, G1a⟩ D3) = false) := by have h := HBT0.out; rw [HIM.out, HD3.out] at h; exact h
        have z_0_0 := HZ1.out.cell (i := 0) rfl
        have z_0_1 := HZ1.out.cell (i := 1) rfl
        have z_0_2 := HZ1.out.cell (i := 2) rfl
        have z_1_0 := HZ2.out.cell (i := 0) rfl
        have z_1_1 := HZ2.out.cell (i := 1) rfl
        have z_1_2 := HZ2.out.cell (i := 2) rfl
        have z_2_0 := HZ3.out.cell (i := 0) rfl
        have z_2_1 := HZ3.out.cell (i := 1) rfl
        have z_2_2 := HZ3.out.cell (i := 2) rfl
        have z_3_0 := HZ4.out.cell (i := 0) rfl
        have z_3_1 := HZ4.out.cell (i := 1) rfl
        have z_3_2 := HZ4.out.cell (i := 2) rfl
        have z_4_0 := HZ5.out.cell (i := 0) rfl
        have z_4_1 := HZ5.out.cell (i := 1) rfl
        have z_4_2 := HZ5.out.cell (i := 2) rfl
        have z_5_0 := HNY.out.cell (i := 0) rfl
        have z_5_1 := HNY.out.cell (i := 1) rfl
        have z_5_2 := HNY.out.cell (i := 2) rfl
        try (go_wp2_with fail)
        clear z_0_0 z_0_1 z_0_2 z_1_0 z_1_1 z_1_2 z_2_0 z_2_1 z_2_2 z_3_0 z_3_1 z_3_2 z_4_0 z_4_1 z_4_2 z_5_0 z_5_1 z_5_2
        refine (impl_VerifyLinear ⟨P1a, Q1a, G1a⟩ s1b _ l1c _ IM _ (bendD ⟨P1a, Q1a, G1a⟩ D3) _ (by omega) HL1c.out HL12.out (PfR.mk HL3a.out HL3b.out (by have h := HLz.out; have e := HY.out; unfold bendD; rw [e]; exact h))).mono ?_
        rintro e u14 ⟨rfl, hb⟩
        rw [HT.out.2.1, HBT.out]
        replace HB := Lib.hid (Below.next HB.out hb)
        replace HZ1 := Lib.hid (HZ1.out.below hb)
        replace HZ2 := Lib.hid (HZ2.out.below hb)
        replace HZ3 := Lib.hid (HZ3.out.below hb)
        replace HZ4 := Lib.hid (HZ4.out.below hb)
        replace HZ5 := Lib.hid (HZ5.out.below hb)
        replace HNY := Lib.hid (HNY.out.below hb)
        replace HL1c := Lib.hid (HL1c.out.below hb)
        replace HL1d := Lib.hid (HL1d.out.below hb)
        replace HL1e := Lib.hid (HL1e.out.below hb)
        replace HL3a := Lib.hid (HL3a.out.below hb)
        replace HL3b := Lib.hid (HL3b.out.below hb)
        replace HL3c := Lib.hid (HL3c.out.below hb)
        replace HL5a := Lib.hid (HL5a.out.below hb)
        replace HL5b := Lib.hid (HL5b.out.below hb)
        replace HL5c := Lib.hid (HL5c.out.below hb)
        replace HL7c := Lib.hid (HL7c.out.below hb)
        replace HL7d := Lib.hid (HL7d.out.below hb)
        replace HL7ea := Lib.hid (HL7ea.out.below hb)
        replace HL7eb := Lib.hid (HL7eb.out.below hb)
        replace HL7ec := Lib.hid (HL7ec.out.below hb)
        replace HL12 := Lib.hid (HL12.out.below hb)
        replace HLz := Lib.hid (HLz.out.below hb)
        clear hb
        have z_0_0 := HZ1.out.cell (i := 0) rfl
        have z_0_1 := HZ1.out.cell (i := 1) rfl
        have z_0_2 := HZ1.out.cell (i := 2) rfl
        have z_1_0 := HZ2.out.cell (i := 0) rfl
        have z_1_1 := HZ2.out.cell (i := 1) rfl
        have z_1_2 := HZ2.out.cell (i := 2) rfl
        have z_2_0 := HZ3.out.cell (i := 0) rfl
        have z_2_1 := HZ3.out.cell (i := 1) rfl
        have z_2_2 := HZ3.out.cell (i := 2) rfl
        have z_3_0 := HZ4.out.cell (i := 0) rfl
        have z_3_1 := HZ4.out.cell (i := 1) rfl
        have z_3_2 := HZ4.out.cell (i := 2) rfl
        have z_4_0 := HZ5.out.cell (i := 0) rfl
        have z_4_1 := HZ5.out.cell (i := 1) rfl
        have z_4_2 := HZ5.out.cell (i := 2) rfl
        have z_5_0 := HNY.out.cell (i := 0) rfl
        have z_5_1 := HNY.out.cell (i := 1) rfl
        have z_5_2 := HNY.out.cell (i := 2) rfl
        try (go_wp2_with fail)
        clear z_0_0 z_0_1 z_0_2 z_1_0 z_1_1 z_1_2 z_2_0 z_2_1 z_2_2 z_3_0 z_3_1 z_3_2 z_4_0 z_4_1 z_4_2 z_5_0 z_5_1 z_5_2
        go_ret
        exact ⟨rfl, HB.out⟩
      refine wpV_do (by kernel_rfl) (fun K hK => ?_)
      obtain ⟨A2, hA⟩ : ∃ V, V = A1.alloc (.cells #[.slice none 0 0, .slice none 0 0, .slice none 0 0] 63) := ⟨_, rfl⟩
      have hbA : Below A1.heap.size A1 A2 := by rw [hA]; exact (Below.refl _ _).alloc (Nat.le_refl _) _
      have hsA2 : A1.heap.size < A2.heap.size := by rw [hA]; simp
      have HNB : Hid (BoxN A2 A1.heap.size 63 [.slice none 0 0, .slice none 0 0, .slice none 0 0]) := by unfold Hid; rw [hA]; exact BoxN.new A1 _ _
      replace HOA := Lib.hid (HOA.out.below hbA)
      have hcA2 : Below u13.heap.size u13 A2 := Below.next hcA1 hbA
      go_simp
      rw [← hA]
      refine hK.out _ _ (HCC.out _ hcA2) (fun _ => ?_)
      clear hA hbA
      clear hK K
      (try simp only [Act.put, List.setIfInBounds_toArray, List.set_cons_zero, List.set_cons_succ])
      refine wpV_do (by kernel_rfl) (fun K hK => ?_)
      refine do_append_intsG _ _ rfl u13.heap.size _ _ [((y + 1) % Q1a)] (D3.r.drop 1) rfl HOA.out rfl ((HSL.out _ _ HL3c.out).below hcA2) (by have := HE3c.out; have := hl3cx; simp; omega) hcA2.size ?_
      intro v3 A3 ho3 hg3
      have hcA3 : Below u13.heap.size u13 A3 := (hcA2.mono (Nat.le_refl _)).trans (HOA.out.grown hg3 hcA2.size)
      replace HNB := Lib.hid (BoxN.grownT (by decide) HOA.out HNB.out hg3)
      obtain ⟨a3, n3, c3, rfl⟩ := ho3.ints.shape
      have HOV := Lib.hid ho3
      clear ho3 hg3 HOA
      refine hK.out _ _ (HCC.out _ hcA3) (fun _ => ?_)
      clear hK K
      (try simp only [Act.put, List.setIfInBounds_toArray, List.set_cons_zero, List.set_cons_succ])
      refine wpV_do (by kernel_rfl) (fun K hK => ?_)
      go_simp
      refine hK.out _ _ (HCC.out _ hcA3) (fun _ => ?_)
      clear hK K
      (try simp only [Act.put, List.setIfInBounds_toArray, List.set_cons_zero, List.set_cons_succ])
      refine wpV_done ?_
      have hbx : u13.heap.size ≤ A1.heap.size := by have := hcA1.size; omega
      have r0 := HNB.out.cell (i := 0) rfl
      have r1 := HNB.out.cell (i := 1) rfl
      have r2 := HNB.out.cell (i := 2) rfl
      have fr := fun j => HNB.out.frozen j
      go_wp2_with fail
      refine NoPanic.normal ?_
      obtain ⟨Y, hY⟩ : ∃ Y, Y = ((A3.setCell ⟨A1.heap.size, 0, none⟩ (.slice a3a n3a c3a)).setCell ⟨A1.heap.size, 1, none⟩ (.slice a3b n3b c3b)).setCell ⟨A1.heap.size, 2, none⟩ (.slice a3 n3 c3) := ⟨_, rfl⟩
      have HNY : Hid (BoxN Y (A1.heap.size) 63 [.slice a3a n3a c3a, .slice a3b n3b c3b, .slice a3 n3 c3]) := by unfold Hid; rw [hY]; exact (((HNB.out.set 0 (.slice a3a n3a c3a)).set 1 (.slice a3b n3b c3b)).set 2 (.slice a3 n3 c3))
      have hOY : Ints Y (.slice a3 n3 c3) ([((y + 1) % Q1a)] ++ D3.r.drop 1) := by rw [hY]; exact (((HOV.out.setT (by decide) HNB.out 0 (.slice a3a n3a c3a)).setT (by decide) (HNB.out.set 0 (.slice a3a n3a c3a)) 1 (.slice a3b n3b c3b)).setT (by decide) ((HNB.out.set 0 (.slice a3a n3a c3a)).set 1 (.slice a3b n3b c3b)) 2 (.slice a3 n3 c3)).ints
      have hbY : Below u13.heap.size u13 Y := by rw [hY]; exact (((hcA3.setCell (p := ⟨A1.heap.size, 0, none⟩) (by show u13.heap.size ≤ A1.heap.size; omega) (.slice a3a n3a c3a)).setCell (p := ⟨A1.heap.size, 1, none⟩) (by show u13.heap.size ≤ A1.heap.size; omega) (.slice a3b n3b c3b)).setCell (p := ⟨A1.heap.size, 2, none⟩) (by show u13.heap.size ≤ A1.heap.size; omega) (.slice a3 n3 c3))
      rw [← hY]
      clear hY r0 r1 r2 fr HOV HNB HCC c0 c1 c2 p0 p1 p2 yr
      have HLz := Lib.hid hOY
      clear hOY
      have HEz := Lib.hid HLz.out.len
      replace HB := Lib.hid (Below.next HB.out hbY)
      replace HZ1 := Lib.hid (HZ1.out.below hbY)
      replace HZ2 := Lib.hid (HZ2.out.below hbY)
      replace HZ3 := Lib.hid (HZ3.out.below hbY)
      replace HZ4 := Lib.hid (HZ4.out.below hbY)
      replace HZ5 := Lib.hid (HZ5.out.below hbY)
      replace HL1c := Lib.hid (HL1c.out.below hbY)
      replace HL1d := Lib.hid (HL1d.out.below hbY)
      replace HL1e := Lib.hid (HL1e.out.below hbY)
      replace HL3a := Lib.hid (HL3a.out.below hbY)
      replace HL3b := Lib.hid (HL3b.out.below hbY)
      replace HL3c := Lib.hid (HL3c.out.below hbY)
      replace HL5a := Lib.hid (HL5a.out.below hbY)
      replace HL5b := Lib.hid (HL5b.out.below hbY)
      replace HL5c := Lib.hid (HL5c.out.below hbY)
      replace HL7c := Lib.hid (HL7c.out.below hbY)
      replace HL7d := Lib.hid (HL7d.out.below hbY)
      replace HL7ea := Lib.hid (HL7ea.out.below hbY)
      replace HL7eb := Lib.hid (HL7eb.out.below hbY)
      replace HL7ec := Lib.hid (HL7ec.out.below hbY)
      replace HL12 := Lib.hid (HL12.out.below hbY)
      clear hbY
      have HBT : Hid (vlR ⟨P1a, Q1a, G1a⟩ s1b l1c IM (bendD ⟨P1a, Q1a, G1a⟩ D3) = false) := by have h := HBT0.out; rw [HIM.out, HD3.out] at h; exact h
      have z_0_0 := HZ1.out.cell (i := 0) rfl
      have z_0_1 := HZ1.out.cell (i := 1) rfl
      have z_0_2 := HZ1.out.cell (i := 2) rfl
      have z_1_0 := HZ2.out.cell (i := 0) rfl
      have z_1_1 := HZ2.out.cell (i := 1) rfl
      have z_1_2 := HZ2.out.cell (i := 2) rfl
      have z_2_0 := HZ3.out.cell (i := 0) rfl
      have z_2_1 := HZ3.out.cell (i := 1) rfl
      have z_2_2 := HZ3.out.cell (i := 2) rfl
      have z_3_0 := HZ4.out.cell (i := 0) rfl
      have z_3_1 := HZ4.out.cell (i := 1) rfl
      have z_3_2 := HZ4.out.cell (i := 2) rfl
      have z_4_0 := HZ5.out.cell (i := 0) rfl
      have z_4_1 := HZ5.out.cell (i := 1) rfl
      have z_4_2 := HZ5.out.cell (i := 2) rfl
      have z_5_0 := HNY.out.cell (i := 0) rfl
      have z_5_1 := HNY.out.cell (i := 1) rfl
      have z_5_2 := HNY.out.cell (i := 2) rfl
      try (go_wp2_with fail)
      clear z_0_0 z_0_1 z_0_2 z_1_0 z_1_1 z_1_2 z_2_0 z_2_1 z_2_2 z_3_0 z_3_1 z_3_2 z_4_0 z_4_1 z_4_2 z_5_0 z_5_1 z_5_2
      refine (impl_VerifyLinear ⟨P1a, Q1a, G1a⟩ s1b _ l1c _ IM _ (bendD ⟨P1a, Q1a, G1a⟩ D3) _ (by omega) HL1c.out HL12.out (PfR.mk HL3a.out HL3b.out (by have h := HLz.out; have e := HY.out; unfold bendD; rw [e]; exact h))).mono ?_
      rintro e u14 ⟨rfl, hb⟩
      rw [HT.out.2.1, HBT.out]
      replace HB := Lib.hid (Below.next HB.out hb)
      replace HZ1 := Lib.hid (HZ1.out.below hb)
      replace HZ2 := Lib.hid (HZ2.out.below hb)
      replace HZ3 := Lib.hid (HZ3.out.below hb)
      replace HZ4 := Lib.hid (HZ4.out.below hb)
      replace HZ5 := Lib.hid (HZ5.out.below hb)
      replace HNY := Lib.hid (HNY.out.below hb)
      replace HL1c := Lib.hid (HL1c.out.below hb)
      replace HL1d := Lib.hid (HL1d.out.below hb)
      replace HL1e := Lib.hid (HL1e.out.below hb)
      replace HL3a := Lib.hid (HL3a.out.below hb)
      replace HL3b := Lib.hid (HL3b.out.below hb)
      replace HL3c := Lib.hid (HL3c.out.below hb)
      replace HL5a := Lib.hid (HL5a.out.below hb)
      replace HL5b := Lib.hid (HL5b.out.below hb)
      replace HL5c := Lib.hid (HL5c.out.below hb)
      replace HL7c := Lib.hid (HL7c.out.below hb)
      replace HL7d := Lib.hid (HL7d.out.below hb)
      replace HL7ea := Lib.hid (HL7ea.out.below hb)
      replace HL7eb := Lib.hid (HL7eb.out.below hb)
      replace HL7ec := Lib.hid (HL7ec.out.below hb)
      replace HL12 := Lib.hid (HL12.out.below hb)
      replace HLz := Lib.hid (HLz.out.below hb)
      clear hb
      have z_0_0 := HZ1.out.cell (i := 0) rfl
      have z_0_1 := HZ1.out.cell (i := 1) rfl
      have z_0_2 := HZ1.out.cell (i := 2) rfl
      have z_1_0 := HZ2.out.cell (i := 0) rfl
      have z_1_1 := HZ2.out.cell (i := 1) rfl
      have z_1_2 := HZ2.out.cell (i := 2) rfl
      have z_2_0 := HZ3.out.cell (i := 0) rfl
      have z_2_1 := HZ3.out.cell (i := 1) rfl
      have z_2_2 := HZ3.out.cell (i := 2) rfl
      have z_3_0 := HZ4.out.cell (i := 0) rfl
      have z_3_1 := HZ4.out.cell (i := 1) rfl
      have z_3_2 := HZ4.out.cell (i := 2) rfl
      have z_4_0 := HZ5.out.cell (i := 0) rfl
      have z_4_1 := HZ5.out.cell (i := 1) rfl
      have z_4_2 := HZ5.out.cell (i := 2) rfl
      have z_5_0 := HNY.out.cell (i := 0) rfl
      have z_5_1 := HNY.out.cell (i := 1) rfl
      have z_5_2 := HNY.out.cell (i := 2) rfl
      try (go_wp2_with fail)
      clear z_0_0 z_0_1 z_0_2 z_1_0 z_1_1 z_1_2 z_2_0 z_2_1 z_2_2 z_3_0 z_3_1 z_3_2 z_4_0 z_4_1 z_4_2 z_5_0 z_5_1 z_5_2
      go_ret
      exact ⟨rfl, HB.out⟩
    refine wpV_do (by kernel_rfl) (fun K hK => ?_)
    obtain ⟨A1, hA⟩ : ∃ V, V = D0.alloc (.cells #[.slice none 0 0, .slice none 0 0, .slice none 0 0] 63) := ⟨_, rfl⟩
    have hbA : Below D0.heap.size D0 A1 := by rw [hA]; exact (Below.refl _ _).alloc (Nat.le_refl _) _
    have hsA1 : D0.heap.size < A1.heap.size := by rw [hA]; simp
    have HNB : Hid (BoxN A1 D0.heap.size 63 [.slice none 0 0, .slice none 0 0, .slice none 0 0]) := by unfold Hid; rw [hA]; exact BoxN.new D0 _ _
    have hcA1 : Below u13.heap.size u13 A1 := Below.next hbd hbA
    go_simp
    rw [← hA]
    refine hK.out _ _ (HCC.out _ hcA1) (fun _ => ?_)
    clear hA hbA
    clear hK K
    (try simp only [Act.put, List.setIfInBounds_toArray, List.set_cons_zero, List.set_cons_succ])
    refine wpV_do (by kernel_rfl) (fun K hK => ?_)
    obtain ⟨A2, hA⟩ : ∃ V, V = A1.alloc (.cells #[.int .i64 ((y + 1) % Q1a)] 3) := ⟨_, rfl⟩
    have hbA : Below A1.heap.size A1 A2 := by rw [hA]; exact (Below.refl _ _).alloc (Nat.le_refl _) _
    have hsA2 : A1.heap.size < A2.heap.size := by rw [hA]; simp
    have HOA : Hid (OwnI A2 A1.heap.size (.slice (some ⟨A1.heap.size, 0, none⟩) 1 1) [((y + 1) % Q1a)]) := by unfold Hid; rw [hA]; exact OwnI.lit A1 (Nat.le_refl _) (l := [((y + 1) % Q1a)]) (AllI64.cons HZI.out AllI64.nil) rfl (by simp [maxLen]) 1 rfl
    replace HOA := Lib.hid (HOA.out.mono (B' := u13.heap.size) (by omega))
    replace HNB := Lib.hid (HNB.out.below hbA)
    have hcA2 : Below u13.heap.size u13 A2 := Below.next hcA1 hbA
    go_simp
    rw [← hA]
    refine hK.out _ _ (HCC.out _ hcA2) (fun _ => ?_)
    clear hA hbA
    clear hK K
    (try simp only [Act.put, List.setIfInBounds_toArray, List.set_cons_zero, List.set_cons_succ])
    refine wpV_do (by kernel_rfl) (fun K hK => ?_)
    refine do_append_intsG _ _ rfl u13.heap.size _ _ [((y + 1) % Q1a)] (D3.r.drop 1) rfl HOA.out rfl ((HSL.out _ _ HL3c.out).below hcA2) (by have := HE3c.out; have := hl3cx; simp; omega) hcA2.size ?_
    intro v3 A3 ho3 hg3
    have hcA3 : Below u13.heap.size u13 A3 := (hcA2.mono (Nat.le_refl _)).trans (HOA.out.grown hg3 hcA2.size)
    replace HNB := Lib.hid (BoxN.grownT (by decide) HOA.out HNB.out hg3)
    obtain ⟨a3, n3, c3, rfl⟩ := ho3.ints.shape
    have HOV := Lib.hid ho3
    clear ho3 hg3 HOA
    refine hK.out _ _ (HCC.out _ hcA3) (fun _ => ?_)
    clear hK K
    (try simp only [Act.put, List.setIfInBounds_toArray, List.set_cons_zero, List.set_cons_succ])
    refine wpV_do (by kernel_rfl) (fun K hK => ?_)
    go_simp
    refine hK.out _ _ (HCC.out _ hcA3) (fun _ => ?_)
    clear hK K
    (try simp only [Act.put, List.setIfInBounds_toArray, List.set_cons_zero, List.set_cons_succ])
    refine wpV_done ?_
    have hbx : u13.heap.size ≤ D0.heap.size := by have := hB0; omega
    have r0 := HNB.out.cell (i := 0) rfl
    have r1 := HNB.out.cell (i := 1) rfl
    have r2 := HNB.out.cell (i := 2) rfl
    have fr := fun j => HNB.out.frozen j
    go_wp2_with fail
    refine NoPanic.normal ?_
    obtain ⟨Y, hY⟩ : ∃ Y, Y = ((A3.setCell ⟨D0.heap.size, 0, none⟩ (.slice a3a n3a c3a)).setCell ⟨D0.heap.size, 1, none⟩ (.slice a3b n3b c3b)).setCell ⟨D0.heap.size, 2, none⟩ (.slice a3 n3 c3) := ⟨_, rfl⟩
    have HNY : Hid (BoxN Y (D0.heap.size) 63 [.slice a3a n3a c3a, .slice a3b n3b c3b, .slice a3 n3 c3]) := by unfold Hid; rw [hY]; exact (((HNB.out.set 0 (.slice a3a n3a c3a)).set 1 (.slice a3b n3b c3b)).set 2 (.slice a3 n3 c3))
    have hOY : Ints Y (.slice a3 n3 c3) ([((y + 1) % Q1a)] ++ D3.r.drop 1) := by rw [hY]; exact (((HOV.out.setT (by decide) HNB.out 0 (.slice a3a n3a c3a)).setT (by decide) (HNB.out.set 0 (.slice a3a n3a c3a)) 1 (.slice a3b n3b c3b)).setT (by decide) ((HNB.out.set 0 (.slice a3a n3a c3a)).set 1 (.slice a3b n3b c3b)) 2 (.slice a3 n3 c3)).ints
    have hbY : Below u13.heap.size u13 Y := by rw [hY]; exact (((hcA3.setCell (p := ⟨D0.heap.size, 0, none⟩) (by show u13.heap.size ≤ D0.heap.size; omega) (.slice a3a n3a c3a)).setCell (p := ⟨D0.heap.size, 1, none⟩) (by show u13.heap.size ≤ D0.heap.size; omega) (.slice a3b n3b c3b)).setCell (p := ⟨D0.heap.size, 2, none⟩) (by show u13.heap.size ≤ D0.heap.size; omega) (.slice a3 n3 c3))
    rw [← hY]
    clear hY r0 r1 r2 fr HOV HNB HCC c0 c1 c2 p0 p1 p2 yr
    have HLz := Lib.hid hOY
    clear hOY
    have HEz := Lib.hid HLz.out.len
    replace HB := Lib.hid (Below.next HB.out hbY)
    replace HZ1 := Lib.hid (HZ1.out.below hbY)
    replace HZ2 := Lib.hid (HZ2.out.below hbY)
    replace HZ3 := Lib.hid (HZ3.out.below hbY)
    replace HZ4 := Lib.hid (HZ4.out.below hbY)
    replace HZ5 := Lib.hid (HZ5.out.below hbY)
    replace HL1c := Lib.hid (HL1c.out.below hbY)
    replace HL1d := Lib.hid (HL1d.out.below hbY)
    replace HL1e := Lib.hid (HL1e.out.below hbY)
    replace HL3a := Lib.hid (HL3a.out.below hbY)
    replace HL3b := Lib.hid (HL3b.out.below hbY)
    replace HL3c := Lib.hid (HL3c.out.below hbY)
    replace HL5a := Lib.hid (HL5a.out.below hbY)
    replace HL5b := Lib.hid (HL5b.out.below hbY)
    replace HL5c := Lib.hid (HL5c.out.below hbY)
    replace HL7c := Lib.hid (HL7c.out.below hbY)
    replace HL7d := Lib.hid (HL7d.out.below hbY)
    replace HL7ea := Lib.hid (HL7ea.out.below hbY)
    replace HL7eb := Lib.hid (HL7eb.out.below hbY)
    replace HL7ec := Lib.hid (HL7ec.out.below hbY)
    replace HL12 := Lib.hid (HL12.out.below hbY)
    clear hbY
    have HBT : Hid (vlR ⟨P1a, Q1a, G1a⟩ s1b l1c IM (bendD ⟨P1a, Q1a, G1a⟩ D3) = false) := by have h := HBT0.out; rw [HIM.out, HD3.out] at h; exact h
    have z_0_0 := HZ1.out.cell (i := 0) rfl
    have z_0_1 := HZ1.out.cell (i := 1) rfl
    have z_0_2 := HZ1.out.cell (i := 2) rfl
    have z_1_0 := HZ2.out.cell (i := 0) rfl
    have z_1_1 := HZ2.out.cell (i := 1) rfl
    have z_1_2 := HZ2.out.cell (i := 2) rfl
    have z_2_0 := HZ3.out.cell (i := 0) rfl
    have z_2_1 := HZ3.out.cell (i := 1) rfl
    have z_2_2 := HZ3.out.cell (i := 2) rfl
    have z_3_0 := HZ4.out.cell (i := 0) rfl
    have z_3_1 := HZ4.out.cell (i := 1) rfl
    have z_3_2 := HZ4.out.cell (i := 2) rfl
    have z_4_0 := HZ5.out.cell (i := 0) rfl
    have z_4_1 := HZ5.out.cell (i := 1) rfl
    have z_4_2 := HZ5.out.cell (i := 2) rfl
    have z_5_0 := HNY.out.cell (i := 0) rfl
    have z_5_1 := HNY.out.cell (i := 1) rfl
    have z_5_2 := HNY.out.cell (i := 2) rfl
    try (go_wp2_with fail)
    clear z_0_0 z_0_1 z_0_2 z_1_0 z_1_1 z_1_2 z_2_0 z_2_1 z_2_2 z_3_0 z_3_1 z_3_2 z_4_0 z_4_1 z_4_2 z_5_0 z_5_1 z_5_2
    refine (impl_VerifyLinear ⟨P1a, Q1a, G1a⟩ s1b _ l1c _ IM _ (bendD ⟨P1a, Q1a, G1a⟩ D3) _ (by omega) HL1c.out HL12.out (PfR.mk HL3a.out HL3b.out (by have h := HLz.out; have e := HY.out; unfold bendD; rw [e]; exact h))).mono ?_
    rintro e u14 ⟨rfl, hb⟩
    rw [HT.out.2.1, HBT.out]
    replace HB := Lib.hid (Below.next HB.out hb)
    replace HZ1 := Lib.hid (HZ1.out.below hb)
    replace HZ2 := Lib.hid (HZ2.out.below hb)
    replace HZ3 := Lib.hid (HZ3.out.below hb)
    replace HZ4 := Lib.hid (HZ4.out.below hb)
    replace HZ5 := Lib.hid (HZ5.out.below hb)
    replace HNY := Lib.hid (HNY.out.below hb)
    replace HL1c := Lib.hid (HL1c.out.below hb)
    replace HL1d := Lib.hid (HL1d.out.below hb)
    replace HL1e := Lib.hid (HL1e.out.below hb)
    replace HL3a := Lib.hid (HL3a.out.below hb)
    replace HL3b := Lib.hid (HL3b.out.below hb)
    replace HL3c := Lib.hid (HL3c.out.below hb)
    replace HL5a := Lib.hid (HL5a.out.below hb)
    replace HL5b := Lib.hid (HL5b.out.below hb)
    replace HL5c := Lib.hid (HL5c.out.below hb)
    replace HL7c := Lib.hid (HL7c.out.below hb)
    replace HL7d := Lib.hid (HL7d.out.below hb)
    replace HL7ea := Lib.hid (HL7ea.out.below hb)
    replace HL7eb := Lib.hid (HL7eb.out.below hb)
    replace HL7ec := Lib.hid (HL7ec.out.below hb)
    replace HL12 := Lib.hid (HL12.out.below hb)
    replace HLz := Lib.hid (HLz.out.below hb)
    clear hb
    have z_0_0 := HZ1.out.cell (i := 0) rfl
    have z_0_1 := HZ1.out.cell (i := 1) rfl
    have z_0_2 := HZ1.out.cell (i := 2) rfl
    have z_1_0 := HZ2.out.cell (i := 0) rfl
    have z_1_1 := HZ2.out.cell (i := 1) rfl
    have z_1_2 := HZ2.out.cell (i := 2) rfl
    have z_2_0 := HZ3.out.cell (i := 0) rfl
    have z_2_1 := HZ3.out.cell (i := 1) rfl
    have z_2_2 := HZ3.out.cell (i := 2) rfl
    have z_3_0 := HZ4.out.cell (i := 0) rfl
    have z_3_1 := HZ4.out.cell (i := 1) rfl
    have z_3_2 := HZ4.out.cell (i := 2) rfl
    have z_4_0 := HZ5.out.cell (i := 0) rfl
    have z_4_1 := HZ5.out.cell (i := 1) rfl
    have z_4_2 := HZ5.out.cell (i := 2) rfl
    have z_5_0 := HNY.out.cell (i := 0) rfl
    have z_5_1 := HNY.out.cell (i := 1) rfl
    have z_5_2 := HNY.out.cell (i := 2) rfl
    try (go_wp2_with fail)
    clear z_0_0 z_0_1 z_0_2 z_1_0 z_1_1 z_1_2 z_2_0 z_2_1 z_2_2 z_3_0 z_3_1 z_3_2 z_4_0 z_4_1 z_4_2 z_5_0 z_5_1 z_5_2
    go_ret
    exact ⟨rfl, HB.out⟩
end Go.Proofs.Yteemlmmdngkghaa
