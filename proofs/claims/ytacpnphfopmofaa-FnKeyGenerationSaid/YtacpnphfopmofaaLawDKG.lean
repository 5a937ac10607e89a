/- Key generation: the key of a trustee (printed by gen_kg6.py). -/
import Derived.Test.YtacpnphfopmofaaKg7KG
import Derived.Test.YtacpnphfopmofaaDrK7KG
import Derived.Test.YtacpnphfopmofaaKg11KG
import Derived.Test.YtacpnphfopmofaaKg4KG
import Derived.Test.YtacpnphfopmofaaSh2KG
import Derived.Test.YtacpnphfopmofaaCom1KG
import Derived.Test.YtacpnphfopmofaaBaKG
import Derived.WalkKit
import Derived.ProofKit
import Derived.OpenShut
import Derived.JoinedCond
import Derived.Lib.SmallJoins
import Derived.Deep.Fields
import Derived.Test.YtacpnphfopmofaaBgKG
import Derived.Test.YtacpnphfopmofaaDrG0KG
namespace Go.Proofs.Ytacpnphfopmofaa
open Go.RowKit
set_option linter.unusedSimpArgs false
set_option linter.unusedVariables false

noncomputable def tkB (gr : GroupD) (cs : List Int) (i : Int) : Bool := decide (1 ≤ i ∧ i ≤ 7) && caB' gr cs i
noncomputable def tkR (gr : GroupD) (cs : List Int) (i : Int) : Int := if decide (1 ≤ i ∧ i ≤ 7) = true then caR' gr cs i else 0
set_option maxRecDepth 100000 in
set_option maxHeartbeats 2000000 in
theorem impl_TrusteeKey (gr : GroupD) (qv : Value) (qs : List Int) (y : Int) (cv : Value) (cs : List Int) (sv : Value) (ss : List Int) (i : Int) (w : World) (hq0 : Ints w qv qs) (hc0 : Ints w cv cs) (hs0 : Ints w sv ss) (hi : I64 i) :
    Calls Try.prog 42 #[.agg #[.int .i64 gr.p, .int .i64 gr.q, .int .i64 gr.g], .agg #[qv, .int .i64 y, cv, sv], .int .i64 i] w fun e w' => e = .returned (.tuple #[.int .i64 (tkR gr cs i), .bool (tkB gr cs i)]) ∧ Below w.heap.size w w' := by
  have HII := Lib.hid hi
  clear hi
  obtain ⟨qva, qvn, qvc, rfl⟩ := hq0.shape
  have Eqv := Lib.hid hq0.len
  have Kqv := Lib.hid hq0.capMax
  have Hqv := Lib.hid hq0
  clear hq0
  obtain ⟨cva, cvn, cvc, rfl⟩ := hc0.shape
  have Ecv := Lib.hid hc0.len
  have Kcv := Lib.hid hc0.capMax
  have Hcv := Lib.hid hc0
  clear hc0
  obtain ⟨sva, svn, svc, rfl⟩ := hs0.shape
  have Esv := Lib.hid hs0.len
  have Ksv := Lib.hid hs0.capMax
  have Hsv := Lib.hid hs0
  clear hs0
  obtain ⟨W, hW⟩ : ∃ W, W = (w.alloc (.cells #[.int .i64 gr.p, .int .i64 gr.q, .int .i64 gr.g] 24)).alloc (.cells #[(.slice qva qvn qvc), .int .i64 y, (.slice cva cvn cvc), (.slice sva svn svc)] 73) := ⟨_, rfl⟩
  have HB : Hid (Below w.heap.size w W) := by unfold Hid; rw [hW]; (repeat (first | exact Below.refl _ _ | assumption | refine Below.drew ?_ | refine Below.alloc ?_ (by first | (simp; done) | (simp; omega)) _ | refine Below.setCell ?_ (by first | (simp; done) | (simp; omega)) _))
  have c0_0 : W.cell? ⟨w.heap.size, 0, none⟩ = some (.int .i64 gr.p) := by rw [hW]; simp [go_sem]
  have c0_1 : W.cell? ⟨w.heap.size, 1, none⟩ = some (.int .i64 gr.q) := by rw [hW]; simp [go_sem]
  have c0_2 : W.cell? ⟨w.heap.size, 2, none⟩ = some (.int .i64 gr.g) := by rw [hW]; simp [go_sem]
  have c1_0 : W.cell? ⟨w.heap.size + 1, 0, none⟩ = some ((.slice qva qvn qvc)) := by rw [hW]; simp [go_sem]
  have c1_1 : W.cell? ⟨w.heap.size + 1, 1, none⟩ = some (.int .i64 y) := by rw [hW]; simp [go_sem]
  have c1_2 : W.cell? ⟨w.heap.size + 1, 2, none⟩ = some ((.slice cva cvn cvc)) := by rw [hW]; simp [go_sem]
  have c1_3 : W.cell? ⟨w.heap.size + 1, 3, none⟩ = some ((.slice sva svn svc)) := by rw [hW]; simp [go_sem]
  have HSW : Hid (W.heap.size = w.heap.size + 2) := by unfold Hid; rw [hW]; simp
  go_enter Try.func42, Try.ntmps42
  go_wp2_with fail
  rw [← hW]
  have hse : w.heap.size + 1 + 1 = W.heap.size := by have := HSW.out; omega
  (try rw [hse])
  clear hse
  clear hW
  have hc : Below W.heap.size W W := Below.refl _ _
  have HCC : Hid (∀ u, Below W.heap.size W u → u.cell? ⟨w.heap.size, 0, none⟩ = some (.int .i64 gr.p) ∧ u.cell? ⟨w.heap.size, 1, none⟩ = some (.int .i64 gr.q) ∧ u.cell? ⟨w.heap.size, 2, none⟩ = some (.int .i64 gr.g) ∧ u.cell? ⟨w.heap.size + 1, 0, none⟩ = some ((.slice qva qvn qvc)) ∧ u.cell? ⟨w.heap.size + 1, 1, none⟩ = some (.int .i64 y) ∧ u.cell? ⟨w.heap.size + 1, 2, none⟩ = some ((.slice cva cvn cvc)) ∧ u.cell? ⟨w.heap.size + 1, 3, none⟩ = some ((.slice sva svn svc))) := fun u h => ⟨box_at c0_0 h, box_at c0_1 h, box_at c0_2 h, box_at c1_0 h, box_at c1_1 h, box_at c1_2 h, box_at c1_3 h⟩
  go_wp2_with fail
  refine (impl_isTrustee i _).mono ?_
  rintro e u1 ⟨rfl, hq1⟩
  replace hc := Below.next hc hq1
  clear hq1 c0_0 c0_1 c0_2 c1_0 c1_1 c1_2 c1_3
  obtain ⟨c0_0, c0_1, c0_2, c1_0, c1_1, c1_2, c1_3⟩ := HCC.out _ hc
  cases hc1 : decide (1 ≤ i ∧ i ≤ 7) with
  | false =>
    go_wp2_with fail
    have HV : Hid ((.tuple #[.int .i64 (tkR gr cs i), .bool (tkB gr cs i)] : Value) = .tuple #[.int .i64 0, .bool false]) := by unfold Hid; simp [tkR, tkB, hc1]
    go_ret2
    exact ⟨congrArg Ending.returned HV.out.symm, HB.out.trans (hc.mono HB.out.size)⟩
  | true =>
    go_wp2_with fail
    refine (impl_CommitAt gr _ cs i _ (Hcv.out.below (HB.out.trans (hc.mono HB.out.size))) HII.out).mono ?_
    rintro e u2 ⟨rfl, hq2⟩
    replace hc := Below.next hc hq2
    clear hq2 c0_0 c0_1 c0_2 c1_0 c1_1 c1_2 c1_3
    obtain ⟨c0_0, c0_1, c0_2, c1_0, c1_1, c1_2, c1_3⟩ := HCC.out _ hc
    go_wp2_with fail
    have HV : Hid ((.tuple #[.int .i64 (tkR gr cs i), .bool (tkB gr cs i)] : Value) = .tuple #[.int .i64 (caR' gr cs i), .bool (caB' gr cs i)]) := by unfold Hid; simp [tkR, tkB, hc1]
    go_ret2
    exact ⟨congrArg Ending.returned HV.out.symm, HB.out.trans (hc.mono HB.out.size)⟩
end Go.Proofs.Ytacpnphfopmofaa
namespace Go.Proofs.Ytacpnphfopmofaa
open Go.RowKit
set_option linter.unusedSimpArgs false
set_option linter.unusedVariables false

theorem kg_all {gr : GroupD} {l : List DealingD} {an : List (List Int)} (h : cbB gr l an = true) :
    ckE gr l an (kgQ gr l an) (kgY gr l an) (kgD gr l an).c (kgD gr l an).s = 0 ∧ vdB gr (kgD gr l an) = true ∧ bsR gr (kgD gr l an) = [] ∧ tkB gr (kgD gr l an).c 1 = true ∧
      tkR gr (kgD gr l an).c 1 = exR gr gr.g (nth (kgD gr l an).s 0) ∧ exB gr gr.g (nth (kgD gr l an).s 0) = true ∧ 0 < (kgD gr l an).s.length ∧ kaB gr l an = true ∧ kaR gr l an = kgQ gr l an := by
  obtain ⟨e1, _, e3⟩ := cbB_yes h
  obtain ⟨k1, k2, k3, k4, k5, k6, k7⟩ := kg_right h
  obtain ⟨hka, hne⟩ := cbB_parts h
  refine ⟨?_, by rw [e3]; exact k1, by rw [e3]; exact k2, ?_, ?_, by rw [e3]; exact k4, by rw [e3]; exact k6, hka, ?_⟩
  · unfold ckE; rw [h]; simp
  · unfold tkB; rw [e3, k3]; decide
  · unfold tkR; rw [e3, ← k5]; rfl
  · rw [e1]; unfold kaR; rw [if_pos hka]
set_option maxRecDepth 100000 in
set_option maxHeartbeats 8000000 in
theorem law_KeyGeneration (va vb : Value) (w : World) (h1 : Bytes w va) (h2 : Bytes w vb) :
    Calls Try.prog 6 #[va, vb] w fun e w' => e = .returned (.bool true) ∧ Below w.heap.size w w' := by
  obtain ⟨a, m, c, rfl, k1, k2, hv⟩ := h1
  obtain ⟨a', m', c', rfl, k3, k4, hv'⟩ := h2
  have H1 : Hid (Bytes w (.slice a m c)) := ⟨a, m, c, rfl, k1, k2, hv⟩
  have H2 : Hid (Bytes w (.slice a' m' c')) := ⟨a', m', c', rfl, k3, k4, hv'⟩
  clear hv hv'
  unfold maxLen at k2 k4
  by_cases hbig : (1048576 : Int) < wrap64 ((m : Int) + (m' : Int))
  · go_enter Try.func6, Try.ntmps6
    go_wp2_with fail
    go_ret
    exact ⟨rfl, Below.refl _ _⟩
  have HB : Hid (Below w.heap.size w w) := Below.refl _ _
  go_enter Try.func6, Try.ntmps6
  go_wp2_with fail
  try (go_wp2_with fail)
  refine (spec_DrawCombineKey _ _ (H1.out.below HB.out)).mono ?_
  rintro e u1 ⟨⟨P, Q, G, lv, l, av, an, rfl, hgr, hl, ha⟩, hb⟩
  clear hgr
  have HLZ := Lib.hid hl.here
  have HAS := Lib.hid ha.here
  obtain ⟨la, ln, lc, rfl⟩ := hl.here.shape
  obtain ⟨aa, an', ac, rfl⟩ := ha.here.shape
  clear hl ha
  replace HB := Lib.hid (Below.next HB.out hb)
  clear hb
  obtain ⟨GA, hGA⟩ : ∃ b, b = u1.heap.size := ⟨_, rfl⟩
  obtain ⟨V1, hV⟩ : ∃ V, V = u1.alloc (.cells #[.int .i64 P, .int .i64 Q, .int .i64 G] 24) := ⟨_, rfl⟩
  have hbV : Below u1.heap.size u1 V1 := by rw [hV]; exact (Below.refl _ _).alloc (Nat.le_refl _) _
  have HZ1 : Hid (BoxN V1 GA 24 [.int .i64 P, .int .i64 Q, .int .i64 G]) := by unfold Hid; rw [hV, hGA]; exact BoxN.new u1 [.int .i64 P, .int .i64 Q, .int .i64 G] _
  go_upto_region 4 with fail
  rw [← hV, ← hGA]
  clear hV hGA
  have hs_0 := hbV.size
  replace HB := Lib.hid (Below.next HB.out hbV)
  replace HLZ := Lib.hid (HLZ.out.below hbV)
  replace HAS := Lib.hid (RdL.below HAS.out hbV)
  clear hbV
  have z0 := HZ1.out.cell (i := 0) rfl
  have z1 := HZ1.out.cell (i := 1) rfl
  have z2 := HZ1.out.cell (i := 2) rfl
  try (go_wp2_with fail)
  clear z0 z1 z2
  refine (impl_CombineKey ⟨P, Q, G⟩ _ l _ an V1 HLZ.out HAS.out).mono ?_
  rintro e u2 ⟨⟨qa1, qn1, qc1, ca1, cn1, cc1, sa1, sn1, sc1, rfl, hq, hcc, hss⟩, hb⟩
  have HQ1 := Lib.hid hq.ints
  have HC1 := Lib.hid hcc.ints
  have HS1 := Lib.hid hss.ints
  clear hq hcc hss
  have hs_1 := hb.size
  replace HB := Lib.hid (Below.next HB.out hb)
  replace HLZ := Lib.hid (HLZ.out.below hb)
  replace HAS := Lib.hid (RdL.below HAS.out hb)
  replace HZ1 := Lib.hid (HZ1.out.below hb)
  clear hb
  obtain ⟨q, hq⟩ : ∃ q, cbB ⟨P, Q, G⟩ l an = q := ⟨_, rfl⟩
  rw [hq]
  have HCB := Lib.hid hq
  clear hq
  obtain ⟨Y, hY⟩ : ∃ z, kgY ⟨P, Q, G⟩ l an = z := ⟨_, rfl⟩
  rw [hY]
  have HYE := Lib.hid hY
  clear hY
  obtain ⟨KA, hKA⟩ : ∃ b, b = u2.heap.size := ⟨_, rfl⟩
  obtain ⟨V2, hV⟩ : ∃ V, V = u2.alloc (.cells #[.slice qa1 qn1 qc1, .int .i64 Y, .slice ca1 cn1 cc1, .slice sa1 sn1 sc1] 73) := ⟨_, rfl⟩
  have hbV : Below u2.heap.size u2 V2 := by rw [hV]; exact (Below.refl _ _).alloc (Nat.le_refl _) _
  have HKA : Hid (BoxN V2 KA 73 [.slice qa1 qn1 qc1, .int .i64 Y, .slice ca1 cn1 cc1, .slice sa1 sn1 sc1]) := by unfold Hid; rw [hV, hKA]; exact BoxN.new u2 [.slice qa1 qn1 qc1, .int .i64 Y, .slice ca1 cn1 cc1, .slice sa1 sn1 sc1] _
  go_upto_region 5 with fail
  rw [← hV, ← hKA]
  clear hV hKA
  have hs_2 := hbV.size
  replace HB := Lib.hid (Below.next HB.out hbV)
  replace HLZ := Lib.hid (HLZ.out.below hbV)
  replace HAS := Lib.hid (RdL.below HAS.out hbV)
  replace HZ1 := Lib.hid (HZ1.out.below hbV)
  replace HQ1 := Lib.hid (HQ1.out.below hbV)
  replace HC1 := Lib.hid (HC1.out.below hbV)
  replace HS1 := Lib.hid (HS1.out.below hbV)
  clear hbV
  have z0 := HZ1.out.cell (i := 0) rfl
  have z1 := HZ1.out.cell (i := 1) rfl
  have z2 := HZ1.out.cell (i := 2) rfl
  try (go_wp2_with fail)
  clear z0 z1 z2
  refine (spec_CombineKey ⟨P, Q, G⟩ _ l _ an V2 HLZ.out HAS.out).mono ?_
  rintro e u3 ⟨⟨qa2, qn2, qc2, ca2, cn2, cc2, sa2, sn2, sc2, rfl, hq, hcc, hss⟩, hb⟩
  have HQ2 := Lib.hid hq.ints
  have HC2 := Lib.hid hcc.ints
  have HS2 := Lib.hid hss.ints
  clear hq hcc hss
  have hs_3 := hb.size
  replace HB := Lib.hid (Below.next HB.out hb)
  replace HLZ := Lib.hid (HLZ.out.below hb)
  replace HAS := Lib.hid (RdL.below HAS.out hb)
  replace HZ1 := Lib.hid (HZ1.out.below hb)
  replace HQ1 := Lib.hid (HQ1.out.below hb)
  replace HC1 := Lib.hid (HC1.out.below hb)
  replace HS1 := Lib.hid (HS1.out.below hb)
  replace HKA := Lib.hid (HKA.out.below hb)
  clear hb
  rw [HCB.out, HYE.out]
  obtain ⟨KB, hKB⟩ : ∃ b, b = u3.heap.size := ⟨_, rfl⟩
  obtain ⟨V3, hV⟩ : ∃ V, V = u3.alloc (.cells #[.slice qa2 qn2 qc2, .int .i64 Y, .slice ca2 cn2 cc2, .slice sa2 sn2 sc2] 73) := ⟨_, rfl⟩
  have hbV : Below u3.heap.size u3 V3 := by rw [hV]; exact (Below.refl _ _).alloc (Nat.le_refl _) _
  have HKB : Hid (BoxN V3 KB 73 [.slice qa2 qn2 qc2, .int .i64 Y, .slice ca2 cn2 cc2, .slice sa2 sn2 sc2]) := by unfold Hid; rw [hV, hKB]; exact BoxN.new u3 [.slice qa2 qn2 qc2, .int .i64 Y, .slice ca2 cn2 cc2, .slice sa2 sn2 sc2] _
  go_upto_region 6 with fail
  rw [← hV, ← hKB]
  clear hV hKB
  have hs_4 := hbV.size
  replace HB := Lib.hid (Below.next HB.out hbV)
  replace HLZ := Lib.hid (HLZ.out.below hbV)
  replace HAS := Lib.hid (RdL.below HAS.out hbV)
  replace HZ1 := Lib.hid (HZ1.out.below hbV)
  replace HQ1 := Lib.hid (HQ1.out.below hbV)
  replace HC1 := Lib.hid (HC1.out.below hbV)
  replace HS1 := Lib.hid (HS1.out.below hbV)
  replace HKA := Lib.hid (HKA.out.below hbV)
  replace HQ2 := Lib.hid (HQ2.out.below hbV)
  replace HC2 := Lib.hid (HC2.out.below hbV)
  replace HS2 := Lib.hid (HS2.out.below hbV)
  clear hbV
  try (go_wp2_with fail)
  refine (spec_DrawCheckKeyGen _ _ (H2.out.below HB.out)).mono ?_
  rintro e u4 ⟨⟨P2, Q2, G2, lv2, l2, av2, an2, qv3, qs3, Y3, cv3, cs3, sv3, ss3, rfl, hgr, hl, ha, hq, hcc, hss⟩, hb⟩
  clear hgr
  have HLZ2 := Lib.hid hl
  have HAS2 := Lib.hid ha
  have HQ3 := Lib.hid hq
  have HC3 := Lib.hid hcc
  have HS3 := Lib.hid hss
  obtain ⟨la2, ln2, lc2, rfl⟩ := hl.shape
  obtain ⟨aa2, an2', ac2, rfl⟩ := ha.shape
  obtain ⟨qa3, qn3, qc3, rfl⟩ := hq.shape
  obtain ⟨ca3, cn3, cc3, rfl⟩ := hcc.shape
  obtain ⟨sa3, sn3, sc3, rfl⟩ := hss.shape
  clear hl ha hq hcc hss
  have hs_5 := hb.size
  replace HB := Lib.hid (Below.next HB.out hb)
  replace HLZ := Lib.hid (HLZ.out.below hb)
  replace HAS := Lib.hid (RdL.below HAS.out hb)
  replace HZ1 := Lib.hid (HZ1.out.below hb)
  replace HQ1 := Lib.hid (HQ1.out.below hb)
  replace HC1 := Lib.hid (HC1.out.below hb)
  replace HS1 := Lib.hid (HS1.out.below hb)
  replace HKA := Lib.hid (HKA.out.below hb)
  replace HQ2 := Lib.hid (HQ2.out.below hb)
  replace HC2 := Lib.hid (HC2.out.below hb)
  replace HS2 := Lib.hid (HS2.out.below hb)
  replace HKB := Lib.hid (HKB.out.below hb)
  clear hb
  obtain ⟨V5, hV⟩ : ∃ V, V = (u4.alloc (.cells #[.int .i64 P2, .int .i64 Q2, .int .i64 G2] 24)).alloc (.cells #[.slice qa3 qn3 qc3, .int .i64 Y3, .slice ca3 cn3 cc3, .slice sa3 sn3 sc3] 73) := ⟨_, rfl⟩
  have hbV : Below u4.heap.size u4 V5 := by rw [hV]; (repeat (first | exact Below.refl _ _ | assumption | refine Below.drew ?_ | refine Below.alloc ?_ (by first | (simp; done) | (simp; omega)) _ | refine Below.setCell ?_ (by first | (simp; done) | (simp; omega)) _))
  have HZ2 : Hid (BoxN V5 u4.heap.size 24 [.int .i64 P2, .int .i64 Q2, .int .i64 G2]) := by unfold Hid; rw [hV]; have h := ((BoxN.new u4 [.int .i64 P2, .int .i64 Q2, .int .i64 G2] 24).alloc (.cells #[.slice qa3 qn3 qc3, .int .i64 Y3, .slice ca3 cn3 cc3, .slice sa3 sn3 sc3] 73)); simpa using h
  have HKC : Hid (BoxN V5 (u4.heap.size + 1) 73 [.slice qa3 qn3 qc3, .int .i64 Y3, .slice ca3 cn3 cc3, .slice sa3 sn3 sc3]) := by unfold Hid; rw [hV]; have h := (BoxN.new (u4.alloc (.cells #[.int .i64 P2, .int .i64 Q2, .int .i64 G2] 24)) [.slice qa3 qn3 qc3, .int .i64 Y3, .slice ca3 cn3 cc3, .slice sa3 sn3 sc3] 73); simpa using h
  go_upto_region 7 with fail
  rw [← hV]
  clear hV
  have hs_6 := hbV.size
  replace HB := Lib.hid (Below.next HB.out hbV)
  replace HLZ := Lib.hid (HLZ.out.below hbV)
  replace HAS := Lib.hid (RdL.below HAS.out hbV)
  replace HZ1 := Lib.hid (HZ1.out.below hbV)
  replace HQ1 := Lib.hid (HQ1.out.below hbV)
  replace HC1 := Lib.hid (HC1.out.below hbV)
  replace HS1 := Lib.hid (HS1.out.below hbV)
  replace HKA := Lib.hid (HKA.out.below hbV)
  replace HQ2 := Lib.hid (HQ2.out.below hbV)
  replace HC2 := Lib.hid (HC2.out.below hbV)
  replace HS2 := Lib.hid (HS2.out.below hbV)
  replace HKB := Lib.hid (HKB.out.below hbV)
  replace HLZ2 := Lib.hid (HLZ2.out.below hbV)
  replace HAS2 := Lib.hid (RdL.below HAS2.out hbV)
  replace HQ3 := Lib.hid (HQ3.out.below hbV)
  replace HC3 := Lib.hid (HC3.out.below hbV)
  replace HS3 := Lib.hid (HS3.out.below hbV)
  clear hbV
  have z0 := HZ2.out.cell (i := 0) rfl
  have z1 := HZ2.out.cell (i := 1) rfl
  have z2 := HZ2.out.cell (i := 2) rfl
  have k0 := HKC.out.cell (i := 0) rfl
  have k1 := HKC.out.cell (i := 1) rfl
  have k2 := HKC.out.cell (i := 2) rfl
  have k3 := HKC.out.cell (i := 3) rfl
  try (go_wp2_with fail)
  clear z0 z1 z2 k0 k1 k2 k3
  refine (impl_CheckKeyGen ⟨P2, Q2, G2⟩ _ l2 _ an2 _ qs3 Y3 _ cs3 _ ss3 V5 HLZ2.out HAS2.out HQ3.out HC3.out HS3.out).mono ?_
  rintro e u6 ⟨rfl, hb⟩
  have hs_7 := hb.size
  replace HB := Lib.hid (Below.next HB.out hb)
  replace HLZ := Lib.hid (HLZ.out.below hb)
  replace HAS := Lib.hid (RdL.below HAS.out hb)
  replace HZ1 := Lib.hid (HZ1.out.below hb)
  replace HQ1 := Lib.hid (HQ1.out.below hb)
  replace HC1 := Lib.hid (HC1.out.below hb)
  replace HS1 := Lib.hid (HS1.out.below hb)
  replace HKA := Lib.hid (HKA.out.below hb)
  replace HQ2 := Lib.hid (HQ2.out.below hb)
  replace HC2 := Lib.hid (HC2.out.below hb)
  replace HS2 := Lib.hid (HS2.out.below hb)
  replace HKB := Lib.hid (HKB.out.below hb)
  replace HLZ2 := Lib.hid (HLZ2.out.below hb)
  replace HAS2 := Lib.hid (RdL.below HAS2.out hb)
  replace HQ3 := Lib.hid (HQ3.out.below hb)
  replace HC3 := Lib.hid (HC3.out.below hb)
  replace HS3 := Lib.hid (HS3.out.below hb)
  replace HZ2 := Lib.hid (HZ2.out.below hb)
  replace HKC := Lib.hid (HKC.out.below hb)
  clear hb
  obtain ⟨E, hE⟩ : ∃ z, ckE ⟨P2, Q2, G2⟩ l2 an2 qs3 Y3 cs3 ss3 = z := ⟨_, rfl⟩
  rw [hE]
  have HEE := Lib.hid hE
  clear hE
  obtain ⟨q9, hq9⟩ : ∃ z, cbB ⟨P2, Q2, G2⟩ l2 an2 = z := ⟨_, rfl⟩
  rw [hq9]
  have HE9 := Lib.hid hq9
  clear hq9
  have z0 := HZ2.out.cell (i := 0) rfl
  have z1 := HZ2.out.cell (i := 1) rfl
  have z2 := HZ2.out.cell (i := 2) rfl
  have k0 := HKC.out.cell (i := 0) rfl
  have k1 := HKC.out.cell (i := 1) rfl
  have k2 := HKC.out.cell (i := 2) rfl
  have k3 := HKC.out.cell (i := 3) rfl
  try (go_wp2_with fail)
  clear z0 z1 z2 k0 k1 k2 k3
  refine (spec_CheckKeyGen ⟨P2, Q2, G2⟩ _ l2 _ an2 _ qs3 Y3 _ cs3 _ ss3 u6 HLZ2.out HAS2.out HQ3.out HC3.out HS3.out).mono ?_
  rintro e u7 ⟨rfl, hb⟩
  have hs_8 := hb.size
  replace HB := Lib.hid (Below.next HB.out hb)
  replace HLZ := Lib.hid (HLZ.out.below hb)
  replace HAS := Lib.hid (RdL.below HAS.out hb)
  replace HZ1 := Lib.hid (HZ1.out.below hb)
  replace HQ1 := Lib.hid (HQ1.out.below hb)
  replace HC1 := Lib.hid (HC1.out.below hb)
  replace HS1 := Lib.hid (HS1.out.below hb)
  replace HKA := Lib.hid (HKA.out.below hb)
  replace HQ2 := Lib.hid (HQ2.out.below hb)
  replace HC2 := Lib.hid (HC2.out.below hb)
  replace HS2 := Lib.hid (HS2.out.below hb)
  replace HKB := Lib.hid (HKB.out.below hb)
  replace HLZ2 := Lib.hid (HLZ2.out.below hb)
  replace HAS2 := Lib.hid (RdL.below HAS2.out hb)
  replace HQ3 := Lib.hid (HQ3.out.below hb)
  replace HC3 := Lib.hid (HC3.out.below hb)
  replace HS3 := Lib.hid (HS3.out.below hb)
  replace HZ2 := Lib.hid (HZ2.out.below hb)
  replace HKC := Lib.hid (HKC.out.below hb)
  clear hb
  rw [HEE.out, HE9.out]
  have bq : (q == q) = true := by simp
  have bqn : (q != q) = false := by simp
  have bq9 : (q9 == q9) = true := by simp
  have bq9n : (q9 != q9) = false := by simp
  have bY : (Y == Y) = true := by simp
  have bYn : (Y != Y) = false := by simp
  have bE : (E == E) = true := by simp
  have bEn : (E != E) = false := by simp
  have k0 := HKA.out.cell (i := 0) rfl
  have k1 := HKA.out.cell (i := 1) rfl
  have k2 := HKA.out.cell (i := 2) rfl
  have k3 := HKA.out.cell (i := 3) rfl
  have j0 := HKB.out.cell (i := 0) rfl
  have j1 := HKB.out.cell (i := 1) rfl
  have j2 := HKB.out.cell (i := 2) rfl
  have j3 := HKB.out.cell (i := 3) rfl
  try (go_wp2_with fail)
  clear k0 k1 k2 k3 j0 j1 j2 j3
  refine (laws_qInts _ _ (kgQ ⟨P, Q, G⟩ l an) u7 HQ1.out HQ2.out).mono ?_
  rintro e u8 ⟨rfl, hb⟩
  have hs_9 := hb.size
  replace HB := Lib.hid (Below.next HB.out hb)
  replace HLZ := Lib.hid (HLZ.out.below hb)
  replace HAS := Lib.hid (RdL.below HAS.out hb)
  replace HZ1 := Lib.hid (HZ1.out.below hb)
  replace HQ1 := Lib.hid (HQ1.out.below hb)
  replace HC1 := Lib.hid (HC1.out.below hb)
  replace HS1 := Lib.hid (HS1.out.below hb)
  replace HKA := Lib.hid (HKA.out.below hb)
  replace HQ2 := Lib.hid (HQ2.out.below hb)
  replace HC2 := Lib.hid (HC2.out.below hb)
  replace HS2 := Lib.hid (HS2.out.below hb)
  replace HKB := Lib.hid (HKB.out.below hb)
  replace HLZ2 := Lib.hid (HLZ2.out.below hb)
  replace HAS2 := Lib.hid (RdL.below HAS2.out hb)
  replace HQ3 := Lib.hid (HQ3.out.below hb)
  replace HC3 := Lib.hid (HC3.out.below hb)
  replace HS3 := Lib.hid (HS3.out.below hb)
  replace HZ2 := Lib.hid (HZ2.out.below hb)
  replace HKC := Lib.hid (HKC.out.below hb)
  clear hb
  have k0 := HKA.out.cell (i := 0) rfl
  have k1 := HKA.out.cell (i := 1) rfl
  have k2 := HKA.out.cell (i := 2) rfl
  have k3 := HKA.out.cell (i := 3) rfl
  have j0 := HKB.out.cell (i := 0) rfl
  have j1 := HKB.out.cell (i := 1) rfl
  have j2 := HKB.out.cell (i := 2) rfl
  have j3 := HKB.out.cell (i := 3) rfl
  try (go_wp2_with fail)
  clear k0 k1 k2 k3 j0 j1 j2 j3
  refine (laws_qInts _ _ ((kgD ⟨P, Q, G⟩ l an).c) u8 HC1.out HC2.out).mono ?_
  rintro e u9 ⟨rfl, hb⟩
  have hs_10 := hb.size
  replace HB := Lib.hid (Below.next HB.out hb)
  replace HLZ := Lib.hid (HLZ.out.below hb)
  replace HAS := Lib.hid (RdL.below HAS.out hb)
  replace HZ1 := Lib.hid (HZ1.out.below hb)
  replace HQ1 := Lib.hid (HQ1.out.below hb)
  replace HC1 := Lib.hid (HC1.out.below hb)
  replace HS1 := Lib.hid (HS1.out.below hb)
  replace HKA := Lib.hid (HKA.out.below hb)
  replace HQ2 := Lib.hid (HQ2.out.below hb)
  replace HC2 := Lib.hid (HC2.out.below hb)
  replace HS2 := Lib.hid (HS2.out.below hb)
  replace HKB := Lib.hid (HKB.out.below hb)
  replace HLZ2 := Lib.hid (HLZ2.out.below hb)
  replace HAS2 := Lib.hid (RdL.below HAS2.out hb)
  replace HQ3 := Lib.hid (HQ3.out.below hb)
  replace HC3 := Lib.hid (HC3.out.below hb)
  replace HS3 := Lib.hid (HS3.out.below hb)
  replace HZ2 := Lib.hid (HZ2.out.below hb)
  replace HKC := Lib.hid (HKC.out.below hb)
  clear hb
  have k0 := HKA.out.cell (i := 0) rfl
  have k1 := HKA.out.cell (i := 1) rfl
  have k2 := HKA.out.cell (i := 2) rfl
  have k3 := HKA.out.cell (i := 3) rfl
  have j0 := HKB.out.cell (i := 0) rfl
  have j1 := HKB.out.cell (i := 1) rfl
  have j2 := HKB.out.cell (i := 2) rfl
  have j3 := HKB.out.cell (i := 3) rfl
  try (go_wp2_with fail)
  clear k0 k1 k2 k3 j0 j1 j2 j3
  refine (laws_qInts _ _ ((kgD ⟨P, Q, G⟩ l an).s) u9 HS1.out HS2.out).mono ?_
  rintro e u10 ⟨rfl, hb⟩
  have hs_11 := hb.size
  replace HB := Lib.hid (Below.next HB.out hb)
  replace HLZ := Lib.hid (HLZ.out.below hb)
  replace HAS := Lib.hid (RdL.below HAS.out hb)
  replace HZ1 := Lib.hid (HZ1.out.below hb)
  replace HQ1 := Lib.hid (HQ1.out.below hb)
  replace HC1 := Lib.hid (HC1.out.below hb)
  replace HS1 := Lib.hid (HS1.out.below hb)
  replace HKA := Lib.hid (HKA.out.below hb)
  replace HQ2 := Lib.hid (HQ2.out.below hb)
  replace HC2 := Lib.hid (HC2.out.below hb)
  replace HS2 := Lib.hid (HS2.out.below hb)
  replace HKB := Lib.hid (HKB.out.below hb)
  replace HLZ2 := Lib.hid (HLZ2.out.below hb)
  replace HAS2 := Lib.hid (RdL.below HAS2.out hb)
  replace HQ3 := Lib.hid (HQ3.out.below hb)
  replace HC3 := Lib.hid (HC3.out.below hb)
  replace HS3 := Lib.hid (HS3.out.below hb)
  replace HZ2 := Lib.hid (HZ2.out.below hb)
  replace HKC := Lib.hid (HKC.out.below hb)
  clear hb
  clear bq bqn
  cases q with
  | false =>
    have k0 := HKA.out.cell (i := 0) rfl
    have k1 := HKA.out.cell (i := 1) rfl
    have k2 := HKA.out.cell (i := 2) rfl
    have k3 := HKA.out.cell (i := 3) rfl
    have j0 := HKB.out.cell (i := 0) rfl
    have j1 := HKB.out.cell (i := 1) rfl
    have j2 := HKB.out.cell (i := 2) rfl
    have j3 := HKB.out.cell (i := 3) rfl
    go_wp2_with fail
    go_ret
    exact ⟨rfl, HB.out⟩
  | true =>
  obtain ⟨f1, f2, f3, f4, f5, f6, f7, f8, f9⟩ := kg_all HCB.out
  have F1 : Hid (ckE ⟨P, Q, G⟩ l an (kgQ ⟨P, Q, G⟩ l an) Y (kgD ⟨P, Q, G⟩ l an).c (kgD ⟨P, Q, G⟩ l an).s = 0) := by unfold Hid; rw [← HYE.out]; exact f1
  have F2 := Lib.hid f2
  have F3 := Lib.hid f3
  have F4 := Lib.hid f4
  have F5 := Lib.hid f5
  have F6 := Lib.hid f6
  have F7 := Lib.hid f7
  have F8 := Lib.hid f8
  have F9 := Lib.hid f9
  clear f1 f2 f3 f4 f5 f6 f7 f8 f9
  have k0 := HKA.out.cell (i := 0) rfl
  have k1 := HKA.out.cell (i := 1) rfl
  have k2 := HKA.out.cell (i := 2) rfl
  have k3 := HKA.out.cell (i := 3) rfl
  have j0 := HKB.out.cell (i := 0) rfl
  have j1 := HKB.out.cell (i := 1) rfl
  have j2 := HKB.out.cell (i := 2) rfl
  have j3 := HKB.out.cell (i := 3) rfl
  have z0 := HZ1.out.cell (i := 0) rfl
  have z1 := HZ1.out.cell (i := 1) rfl
  have z2 := HZ1.out.cell (i := 2) rfl
  try (go_wp2_with fail)
  clear z0 z1 z2 k0 k1 k2 k3 j0 j1 j2 j3
  refine (impl_CheckKeyGen ⟨P, Q, G⟩ _ l _ an _ (kgQ ⟨P, Q, G⟩ l an) Y _ (kgD ⟨P, Q, G⟩ l an).c _ (kgD ⟨P, Q, G⟩ l an).s _ HLZ.out HAS.out HQ1.out HC1.out HS1.out).mono ?_
  rintro e u11 ⟨rfl, hb⟩
  have hs_12 := hb.size
  replace HB := Lib.hid (Below.next HB.out hb)
  replace HLZ := Lib.hid (HLZ.out.below hb)
  replace HAS := Lib.hid (RdL.below HAS.out hb)
  replace HZ1 := Lib.hid (HZ1.out.below hb)
  replace HQ1 := Lib.hid (HQ1.out.below hb)
  replace HC1 := Lib.hid (HC1.out.below hb)
  replace HS1 := Lib.hid (HS1.out.below hb)
  replace HKA := Lib.hid (HKA.out.below hb)
  replace HQ2 := Lib.hid (HQ2.out.below hb)
  replace HC2 := Lib.hid (HC2.out.below hb)
  replace HS2 := Lib.hid (HS2.out.below hb)
  replace HKB := Lib.hid (HKB.out.below hb)
  replace HLZ2 := Lib.hid (HLZ2.out.below hb)
  replace HAS2 := Lib.hid (RdL.below HAS2.out hb)
  replace HQ3 := Lib.hid (HQ3.out.below hb)
  replace HC3 := Lib.hid (HC3.out.below hb)
  replace HS3 := Lib.hid (HS3.out.below hb)
  replace HZ2 := Lib.hid (HZ2.out.below hb)
  replace HKC := Lib.hid (HKC.out.below hb)
  clear hb
  rw [F1.out, HCB.out]
  have z0 := HZ1.out.cell (i := 0) rfl
  have z1 := HZ1.out.cell (i := 1) rfl
  have z2 := HZ1.out.cell (i := 2) rfl
  have k0 := HKA.out.cell (i := 0) rfl
  have k1 := HKA.out.cell (i := 1) rfl
  have k2 := HKA.out.cell (i := 2) rfl
  have k3 := HKA.out.cell (i := 3) rfl
  try (go_wp2_with fail)
  clear z0 z1 z2 k0 k1 k2 k3
  refine (impl_BadShares ⟨P, Q, G⟩ _ (kgD ⟨P, Q, G⟩ l an) _ (DlR.mk HC1.out HS1.out)).mono ?_
  rintro e u12 ⟨⟨vb, rfl, hsb⟩, hb⟩
  have hs_13 := hb.size
  replace HB := Lib.hid (Below.next HB.out hb)
  replace HLZ := Lib.hid (HLZ.out.below hb)
  replace HAS := Lib.hid (RdL.below HAS.out hb)
  replace HZ1 := Lib.hid (HZ1.out.below hb)
  replace HQ1 := Lib.hid (HQ1.out.below hb)
  replace HC1 := Lib.hid (HC1.out.below hb)
  replace HS1 := Lib.hid (HS1.out.below hb)
  replace HKA := Lib.hid (HKA.out.below hb)
  replace HQ2 := Lib.hid (HQ2.out.below hb)
  replace HC2 := Lib.hid (HC2.out.below hb)
  replace HS2 := Lib.hid (HS2.out.below hb)
  replace HKB := Lib.hid (HKB.out.below hb)
  replace HLZ2 := Lib.hid (HLZ2.out.below hb)
  replace HAS2 := Lib.hid (RdL.below HAS2.out hb)
  replace HQ3 := Lib.hid (HQ3.out.below hb)
  replace HC3 := Lib.hid (HC3.out.below hb)
  replace HS3 := Lib.hid (HS3.out.below hb)
  replace HZ2 := Lib.hid (HZ2.out.below hb)
  replace HKC := Lib.hid (HKC.out.below hb)
  clear hb
  rw [F2.out]
  rw [F3.out] at hsb
  obtain ⟨ba, bn, bc, rfl⟩ := hsb.shape
  have hbn : bn = 0 := by have h := hsb.len; simpa using h.symm
  subst hbn
  clear hsb
  have z0 := HZ1.out.cell (i := 0) rfl
  have z1 := HZ1.out.cell (i := 1) rfl
  have z2 := HZ1.out.cell (i := 2) rfl
  have k0 := HKA.out.cell (i := 0) rfl
  have k1 := HKA.out.cell (i := 1) rfl
  have k2 := HKA.out.cell (i := 2) rfl
  have k3 := HKA.out.cell (i := 3) rfl
  try (go_wp2_with fail)
  clear z0 z1 z2 k0 k1 k2 k3
  refine (impl_QualifiedIn ⟨P, Q, G⟩ _ l _ an _ HLZ.out HAS.out).mono ?_
  rintro e u13 ⟨hret, hb⟩
  have hs_14 := hb.size
  replace HB := Lib.hid (Below.next HB.out hb)
  replace HLZ := Lib.hid (HLZ.out.below hb)
  replace HAS := Lib.hid (RdL.below HAS.out hb)
  replace HZ1 := Lib.hid (HZ1.out.below hb)
  replace HQ1 := Lib.hid (HQ1.out.below hb)
  replace HC1 := Lib.hid (HC1.out.below hb)
  replace HS1 := Lib.hid (HS1.out.below hb)
  replace HKA := Lib.hid (HKA.out.below hb)
  replace HQ2 := Lib.hid (HQ2.out.below hb)
  replace HC2 := Lib.hid (HC2.out.below hb)
  replace HS2 := Lib.hid (HS2.out.below hb)
  replace HKB := Lib.hid (HKB.out.below hb)
  replace HLZ2 := Lib.hid (HLZ2.out.below hb)
  replace HAS2 := Lib.hid (RdL.below HAS2.out hb)
  replace HQ3 := Lib.hid (HQ3.out.below hb)
  replace HC3 := Lib.hid (HC3.out.below hb)
  replace HS3 := Lib.hid (HS3.out.below hb)
  replace HZ2 := Lib.hid (HZ2.out.below hb)
  replace HKC := Lib.hid (HKC.out.below hb)
  clear hb
  obtain ⟨xw, rfl, how⟩ := hret
  rw [F8.out]
  rw [F9.out] at how
  obtain ⟨wa, wn, wc, rfl⟩ := how.ints.shape
  have HWQ := Lib.hid how.ints
  clear how
  have z0 := HZ1.out.cell (i := 0) rfl
  have z1 := HZ1.out.cell (i := 1) rfl
  have z2 := HZ1.out.cell (i := 2) rfl
  have k0 := HKA.out.cell (i := 0) rfl
  have k1 := HKA.out.cell (i := 1) rfl
  have k2 := HKA.out.cell (i := 2) rfl
  have k3 := HKA.out.cell (i := 3) rfl
  try (go_wp2_with fail)
  clear z0 z1 z2 k0 k1 k2 k3
  refine (impl_TrusteeKey ⟨P, Q, G⟩ _ (kgQ ⟨P, Q, G⟩ l an) Y _ (kgD ⟨P, Q, G⟩ l an).c _ (kgD ⟨P, Q, G⟩ l an).s 1 _ HQ1.out HC1.out HS1.out ⟨by decide, by decide⟩).mono ?_
  rintro e u14 ⟨rfl, hb⟩
  have hs_15 := hb.size
  replace HB := Lib.hid (Below.next HB.out hb)
  replace HLZ := Lib.hid (HLZ.out.below hb)
  replace HAS := Lib.hid (RdL.below HAS.out hb)
  replace HZ1 := Lib.hid (HZ1.out.below hb)
  replace HQ1 := Lib.hid (HQ1.out.below hb)
  replace HC1 := Lib.hid (HC1.out.below hb)
  replace HS1 := Lib.hid (HS1.out.below hb)
  replace HKA := Lib.hid (HKA.out.below hb)
  replace HQ2 := Lib.hid (HQ2.out.below hb)
  replace HC2 := Lib.hid (HC2.out.below hb)
  replace HS2 := Lib.hid (HS2.out.below hb)
  replace HKB := Lib.hid (HKB.out.below hb)
  replace HLZ2 := Lib.hid (HLZ2.out.below hb)
  replace HAS2 := Lib.hid (RdL.below HAS2.out hb)
  replace HQ3 := Lib.hid (HQ3.out.below hb)
  replace HC3 := Lib.hid (HC3.out.below hb)
  replace HS3 := Lib.hid (HS3.out.below hb)
  replace HZ2 := Lib.hid (HZ2.out.below hb)
  replace HKC := Lib.hid (HKC.out.below hb)
  replace HWQ := Lib.hid (HWQ.out.below hb)
  clear hb
  rw [F4.out, F5.out]
  obtain ⟨sb, so, hsa, hsp⟩ := HS1.out.at_ (by have := F7.out; have := HS1.out.len; omega)
  have y0 := hsp 0 (by have := F7.out; have := HS1.out.len; omega)
  rw [Nat.add_zero] at y0
  have hsn : 0 < sn1 := by have := F7.out; have := HS1.out.len; omega
  have hsnI : (0 : Int) < (sn1 : Int) := by omega
  have HS0' : Hid (I64 (nth (kgD ⟨P, Q, G⟩ l an).s 0)) := nth_64 HS1.out 0
  obtain ⟨s0, hs0⟩ : ∃ z, nth (kgD ⟨P, Q, G⟩ l an).s 0 = z := ⟨_, rfl⟩
  rw [hs0] at y0 HS0' F6
  rw [hs0]
  obtain ⟨xr, hxr⟩ : ∃ z, exR ⟨P, Q, G⟩ G s0 = z := ⟨_, rfl⟩
  have hxr2 : exR ⟨P, Q, G⟩ (GroupD.g ⟨P, Q, G⟩) s0 = xr := hxr
  rw [hxr2]
  have HX1 := Lib.hid hxr
  have HX2 : Hid (exB ⟨P, Q, G⟩ G s0 = true) := F6.out
  have HS0 := HS0'
  subst hsa
  clear hsp hs0 hxr hxr2 HS0' F6
  have z0 := HZ1.out.cell (i := 0) rfl
  have z1 := HZ1.out.cell (i := 1) rfl
  have z2 := HZ1.out.cell (i := 2) rfl
  have k0 := HKA.out.cell (i := 0) rfl
  have k1 := HKA.out.cell (i := 1) rfl
  have k2 := HKA.out.cell (i := 2) rfl
  have k3 := HKA.out.cell (i := 3) rfl
  go_upto_region 17 with fail
  refine wp_region_noPanic ?_
  refine wp_region_P (fun w' => w'.cell? ⟨GA, 0, none⟩ = some (.int .i64 P) ∧ w'.cell? ⟨GA, 1, none⟩ = some (.int .i64 Q) ∧ w'.cell? ⟨GA, 2, none⟩ = some (.int .i64 G) ∧ w'.cell? ⟨KA, 3, none⟩ = some (.slice (some ⟨sb, so, none⟩) sn1 sc1) ∧ w'.cell? ⟨sb, so, none⟩ = some (.int .i64 s0)) 15 [(0, []), (1, []), (2, [0]), (3, []), (4, [0]), (5, [0]), (6, [0]), (7, [6, 4, 0]), (8, [0]), (9, [0]), (10, [1]), (11, [1]), (12, [1])] [] (by kernel_rfl) (by kernel_rfl) (by kernel_rfl) rfl (fun _ _ _ _ h => h) (fun w' h => ⟨box_at z0 h, box_at z1 h, box_at z2 h, box_at k3 h, box_at y0 h⟩) ?_
  simp only [pickP, pickN, List.getElem?_cons_zero, List.getElem?_cons_succ]
  iterate 7 (refine' chainP_read _ rfl rfl (fun w' hS' => ?_) ?_; rotate_left; · (simp only [lookP, allP, Act.put, List.getElem?_cons_zero, List.getElem?_cons_succ, List.setIfInBounds_toArray, List.set_cons_zero, List.set_cons_succ]; (try dsimp only at hS'); go_simp; (try with_reducible rfl)))
  -- 7: call { callee := value (func 14), args := #[t157, t159, t163], argTypes := #[24, 3, 3] }
  refine chainP_call (d := (some 164)) (.tuple #[.int .i64 xr, .bool true]) rfl rfl (fun w' hS' => ?_) ?_
  · simp only [lookP, allP, Act.put, List.getElem?_cons_zero, List.getElem?_cons_succ, List.setIfInBounds_toArray, List.set_cons_zero, List.set_cons_succ]
    intro K hK
    go_simp
    go_at_call 14
    refine (impl_ExpOf ⟨P, Q, G⟩ G s0 _ HS0.out).mono ?_
    rintro e u ⟨rfl, hq⟩
    rw [HX1.out, HX2.out]
    exact hK.out _ hq
  iterate 5 (refine' chainP_read _ rfl rfl (fun w' hS' => ?_) ?_; rotate_left; · (simp only [lookP, allP, Act.put, List.getElem?_cons_zero, List.getElem?_cons_succ, List.setIfInBounds_toArray, List.set_cons_zero, List.set_cons_succ]; (try dsimp only at hS'); go_simp; (try with_reducible rfl)))
  refine chainP_nil (fun u15 hS' => ?_)
  simp only [allP, Act.put, List.setIfInBounds_toArray, List.set_cons_zero, List.set_cons_succ]
  have hb := hS'.1
  clear hS' z0 z1 z2 k0 k1 k2 k3 y0
  have hs_16 := hb.size
  replace HB := Lib.hid (Below.next HB.out hb)
  replace HLZ := Lib.hid (HLZ.out.below hb)
  replace HAS := Lib.hid (RdL.below HAS.out hb)
  replace HZ1 := Lib.hid (HZ1.out.below hb)
  replace HQ1 := Lib.hid (HQ1.out.below hb)
  replace HC1 := Lib.hid (HC1.out.below hb)
  replace HS1 := Lib.hid (HS1.out.below hb)
  replace HKA := Lib.hid (HKA.out.below hb)
  replace HQ2 := Lib.hid (HQ2.out.below hb)
  replace HC2 := Lib.hid (HC2.out.below hb)
  replace HS2 := Lib.hid (HS2.out.below hb)
  replace HKB := Lib.hid (HKB.out.below hb)
  replace HLZ2 := Lib.hid (HLZ2.out.below hb)
  replace HAS2 := Lib.hid (RdL.below HAS2.out hb)
  replace HQ3 := Lib.hid (HQ3.out.below hb)
  replace HC3 := Lib.hid (HC3.out.below hb)
  replace HS3 := Lib.hid (HS3.out.below hb)
  replace HZ2 := Lib.hid (HZ2.out.below hb)
  replace HKC := Lib.hid (HKC.out.below hb)
  replace HWQ := Lib.hid (HWQ.out.below hb)
  clear hb
  go_wp2_with fail
  refine NoPanic.normal ?_
  have bx : (xr == xr) = true := by simp
  have k0 := HKA.out.cell (i := 0) rfl
  have k1 := HKA.out.cell (i := 1) rfl
  have k2 := HKA.out.cell (i := 2) rfl
  have k3 := HKA.out.cell (i := 3) rfl
  try (go_wp2_with fail)
  clear k0 k1 k2 k3
  refine (laws_qInts _ _ (kgQ ⟨P, Q, G⟩ l an) _ HWQ.out HQ1.out).mono ?_
  rintro e u16 ⟨rfl, hb⟩
  replace HB := Lib.hid (Below.next HB.out hb)
  clear hb
  go_wp2_with fail
  go_ret
  exact ⟨rfl, HB.out⟩
end Go.Proofs.Ytacpnphfopmofaa
/- From a walk of a law to its row: whatever the arguments, the law returns true and nothing that was there has turned. -/







namespace Go.Proofs.Ytacpnphfopmofaa
open Go.ChangeShapes Go.WideShapes Go.ChangeAt Go.RowKit

theorem ownKnob_none : ownKnob Try.prog.godebug = none := by kernel_rfl
theorem laid_out : laidOutB Try.prog = true := by kernel_rfl

section
variable {H : Type} {enc : TypeId × Value → H} {P : Program}

theorem trodAll_below (hl : laidOutB P = true) {W W' : World} (hb : Below W.heap.size W W') :
    ∀ (ts : List TypeId) (vs : List Value) (ds : List (DataW H)) (ps : List MemPlace), (∀ t ∈ ts, P.readableRec t = true ∧ t < P.types.size) →
      DataW.TrodAll enc P W 0 (fun _ => true) true ts vs ds ps → (∀ x ∈ ps, x.block < W.heap.size) →
      ∀ sp : Nat → Bool, (∀ p ∈ ps, sp p.block = true) → DataW.TrodAll enc P W' 0 sp true ts vs ds ps
  | [], vs, ds, ps, _, h, _, sp, _ => by
    obtain ⟨rfl, rfl, rfl⟩ := trodAll_nil h
    exact trodAll_mk0
  | t :: ts, vs, ds, ps, ht, h, hlt, sp, hsp => by
    obtain ⟨v0, vs0, d0, ds0, p0, q0, rfl, rfl, rfl, h0, r0⟩ := trodAll_cons h
    refine trodAll_cons_mk ?_ (trodAll_below hl hb ts vs0 ds0 q0 (fun t' h' => ht t' (by simp [h'])) r0 (fun x hx => hlt x (by simp [hx])) sp (fun x hx => hsp x (by simp [hx])))
    exact WideElems.Trod_stays hl (ht t (by simp)).1 (ht t (by simp)).2 h0 (fun x hx => hb.same (hlt x (by simp [hx]))) (fun x hx => hsp x (by simp [hx]))

theorem post_law {f : Func} {s : ChangeSpec} {tb : TypeId} {W W' : World} {args : Array Value} {ds gs : List (DataW H)} {before : List MemPlace}
    (hl : laidOutB P = true) (hpB : f.params.toList.all (fun t => P.readableRec t && decide (t < P.types.size)) = true) (hrt : f.resultTypes = #[tb]) (htb : P.underlying tb = some .bool)
    (hvars : s.vars = []) (hW : DataW.Whole enc P f.params.toList s.vars false W args.toList ds gs before)
    (hfn : s.fn H ds = { results := [.lit (.bool true)], args := ds }) (hb : Below W.heap.size W W') :
    s.post enc P f false true false false W args (.bool true) W' := by
  have hp : ∀ t ∈ f.params.toList, P.readableRec t = true ∧ t < P.types.size := fun t ht => by simpa using List.all_eq_true.1 hpB t ht
  have hlt : ∀ x ∈ before, x.block < W.heap.size := fun x hx => by simpa using hW.lt x hx
  have hW' := hW
  obtain ⟨p, q, hA0, hV, rfl, hfz, hnd⟩ := hW
  rw [hvars] at hV
  obtain ⟨rfl, rfl⟩ := trodVars_none hV
  have e : s.fn H (ds ++ []) = { results := [.lit (.bool true)], args := ds } := by rw [List.append_nil]; exact hfn
  have hargs := trodAll_below (enc := enc) hl hb f.params.toList args.toList ds p hp hA0 (fun x hx => hlt x (by simp [hx]))
  refine ⟨ds, [], p ++ [], [], p, [], hW', ?_, ?_, ?_, ?_, fun h => by cases h⟩
  · rw [e, hrt]
    exact trodAll_cons_mk (shut_bool htb true) trodAll_mk0
  · rw [e]
    exact hargs _ (fun x hx => by simpa using hlt x (by simp [hx]))
  · rw [e, hvars]
    rfl
  · exact hb.frame _
end


section
variable {H : Type} {enc : TypeId × Value → H} {P : Program} {w : World} {base : Nat} {spare : Nat → Bool} {held : Bool}
open Go.Joins Go.Deep
end

section
variable {H : Type} {enc : TypeId × Value → H} {w : World} {base : Nat} {spare : Nat → Bool} {held : Bool}
theorem addr_of_cell {w : World} {a : Addr} {v : Value} (h : w.cell? a = some v) : a = ⟨a.block, a.off, none⟩ := by
  obtain ⟨b, o, s⟩ := a
  cases s with
  | none => rfl
  | some x =>
    unfold World.cell? at h
    split at h <;> simp at h
end
end Go.Proofs.Ytacpnphfopmofaa
/- Arguments that are slices of structs. -/


namespace Go.Proofs.Ytacpnphfopmofaa
open Go.ChangeShapes Go.WideShapes Go.ChangeAt Go.RowKit
set_option linter.unusedVariables false

end Go.Proofs.Ytacpnphfopmofaa
/- Arguments of type laws.Proof (printed by genarg.py). -/


namespace Go.Proofs.Ytacpnphfopmofaa
open Go.ChangeShapes Go.WideShapes Go.ChangeAt Go.RowKit
set_option linter.unusedVariables false
set_option linter.unusedSimpArgs false

section
variable {H : Type} {enc : TypeId × Value → H} {w : World} {base : Nat} {spare : Nat → Bool} {held : Bool}
open Go.Joins Go.Deep
end
end Go.Proofs.Ytacpnphfopmofaa
/- Arguments of type laws.Head (printed by genarg.py). -/



namespace Go.Proofs.Ytacpnphfopmofaa
open Go.ChangeShapes Go.WideShapes Go.ChangeAt Go.RowKit
set_option linter.unusedVariables false
set_option linter.unusedSimpArgs false

section
variable {H : Type} {enc : TypeId × Value → H} {w : World} {base : Nat} {spare : Nat → Bool} {held : Bool}
open Go.Joins Go.Deep
end
end Go.Proofs.Ytacpnphfopmofaa
/- Arguments of type laws.Entry (printed by genarg.py). -/



namespace Go.Proofs.Ytacpnphfopmofaa
open Go.ChangeShapes Go.WideShapes Go.ChangeAt Go.RowKit
set_option linter.unusedVariables false
set_option linter.unusedSimpArgs false

section
variable {H : Type} {enc : TypeId × Value → H} {w : World} {base : Nat} {spare : Nat → Bool} {held : Bool}
open Go.Joins Go.Deep
end
end Go.Proofs.Ytacpnphfopmofaa
/- Arguments of type laws.Group. -/


namespace Go.Proofs.Ytacpnphfopmofaa
open Go.ChangeShapes Go.WideShapes Go.ChangeAt Go.RowKit
set_option linter.unusedVariables false

section
variable {H : Type} {enc : TypeId × Value → H} {w : World} {base : Nat} {spare : Nat → Bool} {held : Bool}
open Go.Joins Go.Deep
end
end Go.Proofs.Ytacpnphfopmofaa
namespace Go.Proofs.Ytacpnphfopmofaa
open Go.ChangeShapes Go.WideShapes Go.ChangeAt Go.RowKit
set_option linter.unusedVariables false

section
variable {H : Type} {enc : TypeId × Value → H} {w : World} {base : Nat} {spare : Nat → Bool} {held : Bool}
theorem cells_byte : Try.prog.cellsOf 5 = 1 := by kernel_rfl
theorem wf_u8 {x : Int} (h : (Lit.int .u8 x).wf = true) : 0 ≤ x ∧ x ≤ 255 := by
  simpa [Lit.wf, IntKind.min, IntKind.max, IntKind.signed, IntKind.bits] using h
set_option maxRecDepth 100000 in
theorem bytes_of_trod {n : Nat} {v : Value} {y : DataW H × List MemPlace} (h : DataW.trod enc Try.prog w base spare held n 22 [v] = some y) : Bytes w v := by
  rcases open_ints Try.underlying22 Try.underlying5 cells_byte h with ⟨hcs, _⟩ | ⟨a, len, cap, zs, hcs, _, hl, hm, hz, _, hcell, hwz⟩
  · simp at hcs; subst hcs; exact ⟨none, 0, 0, rfl, Nat.le_refl _, Nat.zero_le _, .inl rfl⟩
  · simp only [List.cons.injEq, and_true] at hcs; subst hcs
    have hle : len ≤ zs.length := by rw [hz]; split <;> omega
    refine ⟨some a, len, cap, rfl, hl, hm, ?_⟩
    rcases Nat.eq_zero_or_pos len with h0 | h0
    · exact .inl h0
    · have hc0 := hcell 0 (by omega)
      have e : a.add 0 = a := by simp [Addr.add]
      rw [e] at hc0
      have ea := addr_of_cell hc0
      refine .inr ⟨a.block, a.off, by rw [← ea], fun i hi => ?_⟩
      have h1 := hcell i (by omega)
      rw [ea, Addr.add_lit] at h1
      refine ⟨_, h1, ?_⟩
      have h2 := hwz (zs.getD i 0) (by rw [List.getD_eq_getElem?_getD, List.getElem?_eq_getElem (by omega)]; exact List.getElem_mem _)
      exact wf_u8 h2
set_option maxRecDepth 100000 in
theorem bytes_of_arg {r : Reach} {b0 : Nat} {v : Value} {d : DataW H} {p : List MemPlace} (hv : Value.okWide Try.prog w r b0 22 v) (h : DataW.Trod enc Try.prog w base spare held 22 v d p) : Bytes w v := by
  obtain ⟨a, n, c, rfl⟩ := okWide_slice Try.underlying22 hv
  obtain ⟨fuel, hf⟩ := h
  exact bytes_of_trod (by simpa [Value.cells] using hf)
end
end Go.Proofs.Ytacpnphfopmofaa
