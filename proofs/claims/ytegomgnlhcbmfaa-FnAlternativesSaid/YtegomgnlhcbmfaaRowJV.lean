/- Draws: proofs of one of several to be checked (printed by gen_dr2.py). -/
import Derived.Test.YtegomgnlhcbmfaaDrOneV
import Derived.Test.YtegomgnlhcbmfaaSumLV
import Derived.Test.YtegomgnlhcbmfaaOne5V
import Derived.Test.YtegomgnlhcbmfaaRowIV
namespace Go.Proofs.Ytegomgnlhcbmfaa
open Go.RowKit
set_option linter.unusedSimpArgs false
set_option linter.unusedVariables false

theorem ooF_len (gr : GroupD) (s : ByteArray) (l : List EqualLogD) (k x : Int) (cs : List Int) : (ooF gr s l k x cs).c.length ≤ 30 ∧ (ooF gr s l k x cs).h.length ≤ 30 ∧ (ooF gr s l k x cs).r.length ≤ 30 := by
  unfold ooF
  split
  · rename_i h
    obtain ⟨_, _, h3, _⟩ := ooB_parts h
    have h4 := (stB_len h3).2
    refine ⟨?_, ?_, ?_⟩
    · show (ooCs gr l k.toNat cs l.length).length ≤ 30
      rw [ooCs_len]; omega
    · show ((ooHs k.toNat cs l.length).set k.toNat (ooOwn gr s l k.toNat cs)).length ≤ 30
      rw [List.length_set, ooHs_len]; omega
    · show ((ooRs k.toNat cs l.length).set k.toNat _).length ≤ 30
      rw [List.length_set, ooRs_len]; omega
  · exact ⟨by decide, by decide, by decide⟩
theorem OwnE.nilS (w : World) : Since w.heap.size w (fun z => RdR rEqualLog z (.slice none 0 0) ([] : List EqualLogD)) := Since.of_ownE (OwnE.nil _ _) (Nat.le_refl _)
set_option maxRecDepth 100000 in
set_option maxHeartbeats 4000000 in
theorem spec_DrawVerifyOneOf (v : Value) (w : World) (h : Bytes w v) :
    Calls Try.prog 22 #[v] w fun e w' => (∃ (P : Int) (Q : Int) (G : Int) (sr1 : ByteArray) (vr2 : Value) (lr2 : List EqualLogD) (vr3a : Value) (vr3b : Value) (vr3c : Value) (lr3a : List Int) (lr3b : List Int) (lr3c : List Int), e = .returned (.tuple #[.agg #[.int .i64 P, .int .i64 Q, .int .i64 G], .string sr1, vr2, .agg #[vr3a, vr3b, vr3c]]) ∧ GrB ⟨P, Q, G⟩ ∧ (sr1.size ≤ 100) ∧ (RdR rEqualLog w' vr2 lr2 ∧ lr2.length ≤ 3) ∧ (Ints w' vr3a lr3a ∧ lr3a.length ≤ 31) ∧ (Ints w' vr3b lr3b ∧ lr3b.length ≤ 31) ∧ (Ints w' vr3c lr3c ∧ lr3c.length ≤ 31)) ∧ Below w.heap.size w w' := by
  obtain ⟨a, m, c, rfl, hk1, hk2, hv⟩ := h
  have HY : Hid (Bytes w (.slice a m c)) := ⟨a, m, c, rfl, hk1, hk2, hv⟩
  clear hv
  unfold maxLen at hk2
  obtain ⟨U, hU⟩ : ∃ U, U = (w.alloc (.cells #[.int .i64 0, .int .i64 0, .int .i64 0] 24)).alloc (.cells #[(.slice none 0 0), (.slice none 0 0), (.slice none 0 0)] 47) := ⟨_, rfl⟩
  have hbU : Below w.heap.size w U := by rw [hU]; (repeat (first | exact Below.refl _ _ | assumption | refine Below.drew ?_ | refine Below.alloc ?_ (by first | (simp; done) | (simp; omega)) _ | refine Below.setCell ?_ (by first | (simp; done) | (simp; omega)) _))
  have HX0 : Hid (BoxN U w.heap.size 24 [.int .i64 0, .int .i64 0, .int .i64 0]) := by unfold Hid; rw [hU]; have h := ((BoxN.new w [.int .i64 0, .int .i64 0, .int .i64 0] 24).alloc (.cells #[(.slice none 0 0), (.slice none 0 0), (.slice none 0 0)] 47)); simpa using h
  have HX1 : Hid (BoxN U (w.heap.size + 1) 47 [(.slice none 0 0), (.slice none 0 0), (.slice none 0 0)]) := by unfold Hid; rw [hU]; have h := (BoxN.new (w.alloc (.cells #[.int .i64 0, .int .i64 0, .int .i64 0] 24)) [(.slice none 0 0), (.slice none 0 0), (.slice none 0 0)] 47); simpa using h
  have hsU : U.heap.size = w.heap.size + 1 + 1 := by rw [hU]; simp
  obtain ⟨W, hW⟩ : ∃ W, W = U.alloc (.cells #[.slice a m c, .int .i64 0, .int .u64 0] 107) := ⟨_, rfl⟩
  have HC : Hid (Cur U W U.heap.size 0) := by unfold Hid; rw [hW]; exact Cur.new U (HY.out.below hbU)
  have hbW : Below U.heap.size U W := by rw [hW]; exact (Below.refl _ _).alloc (Nat.le_refl _) _
  have HBW := Lib.hid (Below.next hbU hbW)
  have HUB := Lib.hid hbW
  replace HX0 := Lib.hid (HX0.out.below hbW)
  replace HX1 := Lib.hid (HX1.out.below hbW)
  obtain ⟨g, hg⟩ : ∃ g, g = U.heap.size := ⟨_, rfl⟩
  have HSU : Hid (w.heap.size + 1 + 1 = g) := by unfold Hid; rw [hg, hsU]
  have HWS : Hid (W.heap.size = g + 1) := by unfold Hid; rw [hW, hg]; simp
  go_enter Try.func22, Try.ntmps22
  go_wp2_with fail
  rw [← hU, ← hW]
  rw [HSU.out]
  rw [← hg] at HC HUB
  have HUS : Hid (U.heap.size = g) := hg.symm
  have hwg : w.heap.size + 2 = g := HSU.out
  have hsW := HWS.out
  have HW := Lib.hid (Within.refl g (g + 1) W)
  have HUC : Hid (Below U.heap.size U W) := by unfold Hid; rw [HUS.out]; exact HUB.out
  clear hU hW hbU hbW hsU hg
  have z_0_0 := HX0.out.cell (i := 0) rfl
  have z_0_1 := HX0.out.cell (i := 1) rfl
  have z_0_2 := HX0.out.cell (i := 2) rfl
  have z_1_0 := HX1.out.cell (i := 0) rfl
  have z_1_1 := HX1.out.cell (i := 1) rfl
  have z_1_2 := HX1.out.cell (i := 2) rfl
  try (go_wp2_with fail)
  clear z_0_0 z_0_1 z_0_2 z_1_0 z_1_1 z_1_2
  refine (spec_DrawProveOneOfS _ _ (HY.out.below (HW.out.belowOf HBW.out (by omega)))).mono ?_
  rintro e u1 ⟨⟨P, Q, G, s1b, v1c, l1c, x1d, x1e, v1f, l1f, rfl, hgr, hz1b, ⟨hs1c, hl1c⟩, ⟨x1dl, x1du⟩, ⟨x1el, x1eu⟩, ⟨hs1f, hl1f⟩⟩, hb⟩
  have HGR := Lib.hid hgr
  clear hgr
  have HL1c := Lib.hid hs1c
  obtain ⟨a1c, n1c, c1c, rfl⟩ := hs1c.here.shape
  have hn1c : n1c ≤ 3 := by have h1 := hs1c.here.len; omega
  have HE1c := Lib.hid hs1c.here.len
  clear hs1c
  have HL1f := Lib.hid hs1f
  obtain ⟨a1f, n1f, c1f, rfl⟩ := hs1f.here.shape
  have hn1f : n1f ≤ 1001 := by have h1 := hs1f.here.len; omega
  have HE1f := Lib.hid hs1f.here.len
  clear hs1f
  have hsz1 := hb.size
  replace HX0 := Lib.hid (HX0.out.below hb)
  replace HX1 := Lib.hid (HX1.out.below hb)
  replace HW := Lib.hid (HW.out.trans (Within.of_below hb))
  replace HC := Lib.hid (HC.out.keep hb)
  clear hb
  have z_0_0 := HX0.out.cell (i := 0) rfl
  have z_0_1 := HX0.out.cell (i := 1) rfl
  have z_0_2 := HX0.out.cell (i := 2) rfl
  have z_1_0 := HX1.out.cell (i := 0) rfl
  have z_1_1 := HX1.out.cell (i := 1) rfl
  have z_1_2 := HX1.out.cell (i := 2) rfl
  have lt_HX0 := HX0.out.lt
  have lt_HX1 := HX1.out.lt
  obtain ⟨V2, hV⟩ : ∃ V, V = u1.alloc (.cells #[.int .i64 P, .int .i64 Q, .int .i64 G] 24) := ⟨_, rfl⟩
  have hbV : Below u1.heap.size u1 V2 := by rw [hV]; (repeat (first | exact Below.refl _ _ | assumption | refine Below.drew ?_ | refine Below.alloc ?_ (by first | (simp; done) | (simp; omega)) _ | refine Below.setCell ?_ (by first | (simp; done) | (simp; omega)) _))
  have HZ1 : Hid (BoxN V2 u1.heap.size 24 [.int .i64 P, .int .i64 Q, .int .i64 G]) := by unfold Hid; rw [hV]; have h := (BoxN.new u1 [.int .i64 P, .int .i64 Q, .int .i64 G] 24); simpa using h
  have hgc : g < u1.heap.size := HC.out.lt
  go_wp2_with fail
  rw [← hV]
  have hsV2 : V2.heap.size = u1.heap.size + 1 := by rw [hV]; simp
  clear hV hgc
  replace HX0 := Lib.hid (HX0.out.below hbV)
  replace HX1 := Lib.hid (HX1.out.below hbV)
  replace HL1c := Lib.hid (HL1c.out.below hbV)
  replace HL1f := Lib.hid (HL1f.out.below hbV)
  replace HW := Lib.hid (HW.out.trans (Within.of_below hbV))
  replace HC := Lib.hid (HC.out.keep hbV)
  clear hbV
  clear z_0_0 z_0_1 z_0_2 z_1_0 z_1_1 z_1_2
  clear lt_HX0
  clear lt_HX1
  refine (spec_ProveOneOf ⟨P, Q, G⟩ s1b _ l1c x1d x1e _ l1f _ (by omega) ⟨by omega, by omega⟩ HL1c.out.here HL1f.out.here).mono ?_
  rintro e u3 ⟨⟨v3a, v3b, v3c, rfl, o3a, o3b, o3c⟩, hb⟩
  obtain ⟨n3a, n3b, n3c⟩ := ooF_len ⟨P, Q, G⟩ s1b l1c x1d x1e l1f
  obtain ⟨q3q, hq3q⟩ : ∃ r, ooB ⟨P, Q, G⟩ s1b l1c x1d x1e l1f = r := ⟨_, rfl⟩
  have Hq3q := Lib.hid hq3q
  rw [hq3q]
  clear hq3q
  obtain ⟨l3a, hl3a⟩ : ∃ l, (ooF ⟨P, Q, G⟩ s1b l1c x1d x1e l1f).c = l := ⟨_, rfl⟩
  rw [hl3a] at o3a n3a
  clear hl3a
  obtain ⟨a3a, n3a_, c3a, rfl⟩ := o3a.ints.shape
  have HE3a := Lib.hid o3a.ints.len
  have HL3a : Hid (Since V2.heap.size u3 (fun z => Ints z (.slice a3a n3a_ c3a) l3a)) := Since.of_ownI o3a (Nat.le_refl _)
  clear o3a
  obtain ⟨l3b, hl3b⟩ : ∃ l, (ooF ⟨P, Q, G⟩ s1b l1c x1d x1e l1f).h = l := ⟨_, rfl⟩
  rw [hl3b] at o3b n3b
  clear hl3b
  obtain ⟨a3b, n3b_, c3b, rfl⟩ := o3b.ints.shape
  have HE3b := Lib.hid o3b.ints.len
  have HL3b : Hid (Since V2.heap.size u3 (fun z => Ints z (.slice a3b n3b_ c3b) l3b)) := Since.of_ownI o3b (Nat.le_refl _)
  clear o3b
  obtain ⟨l3c, hl3c⟩ : ∃ l, (ooF ⟨P, Q, G⟩ s1b l1c x1d x1e l1f).r = l := ⟨_, rfl⟩
  rw [hl3c] at o3c n3c
  clear hl3c
  obtain ⟨a3c, n3c_, c3c, rfl⟩ := o3c.ints.shape
  have HE3c := Lib.hid o3c.ints.len
  have HL3c : Hid (Since V2.heap.size u3 (fun z => Ints z (.slice a3c n3c_ c3c) l3c)) := Since.of_ownI o3c (Nat.le_refl _)
  clear o3c
  have hsz3 := hb.size
  replace HX0 := Lib.hid (HX0.out.below hb)
  replace HX1 := Lib.hid (HX1.out.below hb)
  replace HZ1 := Lib.hid (HZ1.out.below hb)
  replace HL1c := Lib.hid (HL1c.out.below hb)
  replace HL1f := Lib.hid (HL1f.out.below hb)
  replace HW := Lib.hid (HW.out.trans (Within.of_below hb))
  replace HC := Lib.hid (HC.out.keep hb)
  clear hb
  have z_0_0 := HX0.out.cell (i := 0) rfl
  have z_0_1 := HX0.out.cell (i := 1) rfl
  have z_0_2 := HX0.out.cell (i := 2) rfl
  have z_1_0 := HX1.out.cell (i := 0) rfl
  have z_1_1 := HX1.out.cell (i := 1) rfl
  have z_1_2 := HX1.out.cell (i := 2) rfl
  have z_2_0 := HZ1.out.cell (i := 0) rfl
  have z_2_1 := HZ1.out.cell (i := 1) rfl
  have z_2_2 := HZ1.out.cell (i := 2) rfl
  have lt_HX0 := HX0.out.lt
  have lt_HX1 := HX1.out.lt
  have lt_HZ1 := HZ1.out.lt
  obtain ⟨V4, hV⟩ : ∃ V, V = u3.alloc (.cells #[.slice a3a n3a_ c3a, .slice a3b n3b_ c3b, .slice a3c n3c_ c3c] 47) := ⟨_, rfl⟩
  have hbV : Below u3.heap.size u3 V4 := by rw [hV]; (repeat (first | exact Below.refl _ _ | assumption | refine Below.drew ?_ | refine Below.alloc ?_ (by first | (simp; done) | (simp; omega)) _ | refine Below.setCell ?_ (by first | (simp; done) | (simp; omega)) _))
  have HZ2 : Hid (BoxN V4 u3.heap.size 47 [.slice a3a n3a_ c3a, .slice a3b n3b_ c3b, .slice a3c n3c_ c3c]) := by unfold Hid; rw [hV]; have h := (BoxN.new u3 [.slice a3a n3a_ c3a, .slice a3b n3b_ c3b, .slice a3c n3c_ c3c] 47); simpa using h
  have hgc : g < u3.heap.size := HC.out.lt
  go_wp2_with fail
  rw [← hV]
  have hsV4 : V4.heap.size = u3.heap.size + 1 := by rw [hV]; simp
  clear hV hgc
  replace HX0 := Lib.hid (HX0.out.below hbV)
  replace HX1 := Lib.hid (HX1.out.below hbV)
  replace HZ1 := Lib.hid (HZ1.out.below hbV)
  replace HL1c := Lib.hid (HL1c.out.below hbV)
  replace HL1f := Lib.hid (HL1f.out.below hbV)
  replace HL3a := Lib.hid (HL3a.out.below hbV)
  replace HL3b := Lib.hid (HL3b.out.below hbV)
  replace HL3c := Lib.hid (HL3c.out.below hbV)
  replace HW := Lib.hid (HW.out.trans (Within.of_below hbV))
  replace HC := Lib.hid (HC.out.keep hbV)
  clear hbV
  clear z_0_0 z_0_1 z_0_2 z_1_0 z_1_1 z_1_2 z_2_0 z_2_1 z_2_2
  clear lt_HX0
  clear lt_HX1
  clear lt_HZ1
  refine (spec_one U g _ 16 _ HC.out (HW.out.belowOf HUC.out (Nat.le_of_eq HUS.out)) (by omega) ).mono ?_
  rintro e u5 ⟨⟨b5, rfl⟩, hc, hw⟩
  have hsz5 := hw.size
  replace HX0 := Lib.hid (HX0.out.kept hw (.inl (by omega)))
  replace HX1 := Lib.hid (HX1.out.kept hw (.inl (by omega)))
  replace HZ1 := Lib.hid (HZ1.out.kept hw (.inr (by omega)))
  replace HZ2 := Lib.hid (HZ2.out.kept hw (.inr (by omega)))
  replace HL1c := Lib.hid (HL1c.out.within hw (by omega))
  replace HL1f := Lib.hid (HL1f.out.within hw (by omega))
  replace HL3a := Lib.hid (HL3a.out.within hw (by omega))
  replace HL3b := Lib.hid (HL3b.out.within hw (by omega))
  replace HL3c := Lib.hid (HL3c.out.within hw (by omega))
  replace HW := Lib.hid (HW.out.trans hw)
  replace HC := Lib.hid hc
  clear hc hw
  cases b5 with
  | false =>
    have z_0_0 := HX0.out.cell (i := 0) rfl
    have z_0_1 := HX0.out.cell (i := 1) rfl
    have z_0_2 := HX0.out.cell (i := 2) rfl
    have z_1_0 := HX1.out.cell (i := 0) rfl
    have z_1_1 := HX1.out.cell (i := 1) rfl
    have z_1_2 := HX1.out.cell (i := 2) rfl
    have z_2_0 := HZ1.out.cell (i := 0) rfl
    have z_2_1 := HZ1.out.cell (i := 1) rfl
    have z_2_2 := HZ1.out.cell (i := 2) rfl
    have z_3_0 := HZ2.out.cell (i := 0) rfl
    have z_3_1 := HZ2.out.cell (i := 1) rfl
    have z_3_2 := HZ2.out.cell (i := 2) rfl
    try (go_wp2_with fail)
    clear z_0_0
    clear z_0_1
    clear z_0_2
    clear z_1_0
    clear z_1_1
    clear z_1_2
    refine wp_region_noPanic ?_
    refine wp_region_V (fun w' => w'.cell? ⟨u1.heap.size, 0, none⟩ = some (.int .i64 P) ∧ w'.cell? ⟨u1.heap.size, 1, none⟩ = some (.int .i64 Q) ∧ w'.cell? ⟨u1.heap.size, 2, none⟩ = some (.int .i64 G) ∧ w'.cell? ⟨u3.heap.size, 0, none⟩ = some (.slice a3a n3a_ c3a) ∧ w'.cell? ⟨u3.heap.size, 1, none⟩ = some (.slice a3b n3b_ c3b) ∧ w'.cell? ⟨u3.heap.size, 2, none⟩ = some (.slice a3c n3c_ c3c)) 13 11 (.rd 0 (.rd 1 (.rd 2 (.rd 3 (.rd 4 (.rd 5 (.alt 6 (.alt 7 (.alt 8 (.alt 9 (.alt 10 .done .nil) .nil) .nil) .nil) .nil))))))) [] (by kernel_rfl) (by kernel_rfl) rfl (fun _ _ _ _ _ h => h) ⟨box_at z_2_0 (Below.refl _ _).drew, box_at z_2_1 (Below.refl _ _).drew, box_at z_2_2 (Below.refl _ _).drew, box_at z_3_0 (Below.refl _ _).drew, box_at z_3_1 (Below.refl _ _).drew, box_at z_3_2 (Below.refl _ _).drew⟩ ?_
    simp only [pickV, pickN, List.getElem?_cons_zero, List.getElem?_cons_succ]
    repeat (refine' wpV_read _ (by kernel_rfl) (fun w' hS' => ?_) ?_; rotate_left; · ((try dsimp only at hS'); go_simp; (try with_reducible rfl)); (try simp only [Act.put, List.setIfInBounds_toArray, List.set_cons_zero, List.set_cons_succ]))
    have hdr : Below u5.heap.size u5 u5.drew := (Below.refl _ _).drew
    have hszd := hdr.size
    replace HX0 := Lib.hid (HX0.out.below hdr)
    replace HX1 := Lib.hid (HX1.out.below hdr)
    replace HZ1 := Lib.hid (HZ1.out.below hdr)
    replace HZ2 := Lib.hid (HZ2.out.below hdr)
    replace HL1c := Lib.hid (HL1c.out.below hdr)
    replace HL1f := Lib.hid (HL1f.out.below hdr)
    replace HL3a := Lib.hid (HL3a.out.below hdr)
    replace HL3b := Lib.hid (HL3b.out.below hdr)
    replace HL3c := Lib.hid (HL3c.out.below hdr)
    replace HW := Lib.hid (HW.out.trans (Within.of_below hdr))
    replace HC := Lib.hid (HC.out.keep hdr)
    clear hdr
    refine wpV_do (by kernel_rfl) (fun K hK => ?_)
    -- 6: call
    go_simp
    go_at_call 110
    refine (spec_bent U g _ P Q G _ _ _ l3a l3b l3c _ HC.out (HW.out.belowOf HUC.out (Nat.le_of_eq HUS.out)) (by omega) HGR.out HL3a.out.here HL3b.out.here HL3c.out.here (by have := HE3a.out; omega) (by have := HE3b.out; omega) (by have := HE3c.out; omega)).mono ?_
    rintro e ut1 ⟨⟨vt1a, vt1b, vt1c, lt1a, lt1b, lt1c, rfl, ⟨hst1a, hlt1a⟩, ⟨hst1b, hlt1b⟩, ⟨hst1c, hlt1c⟩⟩, hc, hw⟩
    have HLt1a := Lib.hid hst1a
    obtain ⟨at1a, nt1a, ct1a, rfl⟩ := hst1a.here.shape
    have hnt1a : nt1a ≤ 31 := by have h1 := hst1a.here.len; omega
    have HEt1a := Lib.hid hst1a.here.len
    clear hst1a
    have HLt1b := Lib.hid hst1b
    obtain ⟨at1b, nt1b, ct1b, rfl⟩ := hst1b.here.shape
    have hnt1b : nt1b ≤ 31 := by have h1 := hst1b.here.len; omega
    have HEt1b := Lib.hid hst1b.here.len
    clear hst1b
    have HLt1c := Lib.hid hst1c
    obtain ⟨at1c, nt1c, ct1c, rfl⟩ := hst1c.here.shape
    have hnt1c : nt1c ≤ 31 := by have h1 := hst1c.here.len; omega
    have HEt1c := Lib.hid hst1c.here.len
    clear hst1c
    have hszt1 := hw.size
    replace HX0 := Lib.hid (HX0.out.kept hw (.inl (by omega)))
    replace HX1 := Lib.hid (HX1.out.kept hw (.inl (by omega)))
    replace HZ1 := Lib.hid (HZ1.out.kept hw (.inr (by omega)))
    replace HZ2 := Lib.hid (HZ2.out.kept hw (.inr (by omega)))
    replace HL1c := Lib.hid (HL1c.out.within hw (by omega))
    replace HL1f := Lib.hid (HL1f.out.within hw (by omega))
    replace HL3a := Lib.hid (HL3a.out.within hw (by omega))
    replace HL3b := Lib.hid (HL3b.out.within hw (by omega))
    replace HL3c := Lib.hid (HL3c.out.within hw (by omega))
    replace HW := Lib.hid (HW.out.trans hw)
    replace HC := Lib.hid hc
    clear hc hw
    clear z_2_0 z_2_1 z_2_2 z_3_0 z_3_1 z_3_2
    have z_2_0 := HZ1.out.cell (i := 0) rfl
    have z_2_1 := HZ1.out.cell (i := 1) rfl
    have z_2_2 := HZ1.out.cell (i := 2) rfl
    have z_3_0 := HZ2.out.cell (i := 0) rfl
    have z_3_1 := HZ2.out.cell (i := 1) rfl
    have z_3_2 := HZ2.out.cell (i := 2) rfl
    refine hK.out _ _ ⟨z_2_0, z_2_1, z_2_2, z_3_0, z_3_1, z_3_2⟩ (fun _ => ?_)
    clear hK K
    (try simp only [Act.put, List.setIfInBounds_toArray, List.set_cons_zero, List.set_cons_succ])
    refine wpV_do (by kernel_rfl) (fun K hK => ?_)
    -- 7: store
    have r0 := HX0.out.cell (i := 0) rfl
    have r1 := HX0.out.cell (i := 1) rfl
    have r2 := HX0.out.cell (i := 2) rfl
    have fr := fun j => HX0.out.frozen j
    obtain ⟨Y2, hY⟩ : ∃ Y, Y = ((ut1.setCell ⟨w.heap.size, 0, none⟩ (.int .i64 P)).setCell ⟨w.heap.size, 1, none⟩ (.int .i64 Q)).setCell ⟨w.heap.size, 2, none⟩ (.int .i64 G) := ⟨_, rfl⟩
    have hYl : Within (w.heap.size) (w.heap.size + 1) ut1 Y2 := by rw [hY]; exact ((((Within.refl (w.heap.size) (w.heap.size + 1) ut1).setCell (b := w.heap.size) (by omega) (by omega) 0 (.int .i64 P)).setCell (b := w.heap.size) (by omega) (by omega) 1 (.int .i64 Q)).setCell (b := w.heap.size) (by omega) (by omega) 2 (.int .i64 G))
    have HYW : Hid (Within w.heap.size (w.heap.size + 2) ut1 Y2) := hYl.mono (by omega) (by omega)
    have HYB : Hid (Below w.heap.size w Y2) := hYl.belowU (HW.out.belowOf HBW.out (by omega)) (by omega)
    have HCS : Hid (∀ w', Within w.heap.size (w.heap.size + 2) ut1 w' → w'.cell? ⟨u1.heap.size, 0, none⟩ = some (.int .i64 P) ∧ w'.cell? ⟨u1.heap.size, 1, none⟩ = some (.int .i64 Q) ∧ w'.cell? ⟨u1.heap.size, 2, none⟩ = some (.int .i64 G) ∧ w'.cell? ⟨u3.heap.size, 0, none⟩ = some (.slice a3a n3a_ c3a) ∧ w'.cell? ⟨u3.heap.size, 1, none⟩ = some (.slice a3b n3b_ c3b) ∧ w'.cell? ⟨u3.heap.size, 2, none⟩ = some (.slice a3c n3c_ c3c)) := fun w' h => ⟨within_at h z_2_0 (by omega), within_at h z_2_1 (by omega), within_at h z_2_2 (by omega), within_at h z_3_0 (by omega), within_at h z_3_1 (by omega), within_at h z_3_2 (by omega)⟩
    go_simp
    refine hK.out _ _ ?_ (fun _ => ?_)
    · rw [← hY]; exact HCS.out _ HYW.out
    rw [← hY]
    clear hK K fr r0 r1 r2
    replace HX0 : Hid (BoxN Y2 w.heap.size 24 [.int .i64 P, .int .i64 Q, .int .i64 G]) := by unfold Hid; rw [hY]; exact (((HX0.out.set 0 (.int .i64 P)).set 1 (.int .i64 Q)).set 2 (.int .i64 G))
    replace HX1 := Lib.hid (HX1.out.kept hYl (by omega))
    clear hY hYl
    (try simp only [Act.put, List.setIfInBounds_toArray, List.set_cons_zero, List.set_cons_succ])
    clear z_2_0 z_2_1 z_2_2 z_3_0 z_3_1 z_3_2
    obtain ⟨z_2_0, z_2_1, z_2_2, z_3_0, z_3_1, z_3_2⟩ := HCS.out _ HYW.out
    refine wpV_do (by kernel_rfl) (fun K hK => ?_)
    -- 8: load
    go_simp
    refine hK.out _ _ ⟨z_2_0, z_2_1, z_2_2, z_3_0, z_3_1, z_3_2⟩ (fun _ => ?_)
    clear hK K
    (try simp only [Act.put, List.setIfInBounds_toArray, List.set_cons_zero, List.set_cons_succ])
    refine wpV_do (by kernel_rfl) (fun K hK => ?_)
    -- 9: load
    go_simp
    refine hK.out _ _ ⟨z_2_0, z_2_1, z_2_2, z_3_0, z_3_1, z_3_2⟩ (fun _ => ?_)
    clear hK K
    (try simp only [Act.put, List.setIfInBounds_toArray, List.set_cons_zero, List.set_cons_succ])
    refine wpV_do (by kernel_rfl) (fun K hK => ?_)
    -- 10: store
    have r0 := HX1.out.cell (i := 0) rfl
    have r1 := HX1.out.cell (i := 1) rfl
    have r2 := HX1.out.cell (i := 2) rfl
    have fr := fun j => HX1.out.frozen j
    obtain ⟨Y3, hY⟩ : ∃ Y, Y = ((Y2.setCell ⟨w.heap.size + 1, 0, none⟩ (.slice at1a nt1a ct1a)).setCell ⟨w.heap.size + 1, 1, none⟩ (.slice at1b nt1b ct1b)).setCell ⟨w.heap.size + 1, 2, none⟩ (.slice at1c nt1c ct1c) := ⟨_, rfl⟩
    have hYl : Within (w.heap.size + 1) (w.heap.size + 1 + 1) Y2 Y3 := by rw [hY]; exact ((((Within.refl (w.heap.size + 1) (w.heap.size + 1 + 1) Y2).setCell (b := w.heap.size + 1) (by omega) (by omega) 0 (.slice at1a nt1a ct1a)).setCell (b := w.heap.size + 1) (by omega) (by omega) 1 (.slice at1b nt1b ct1b)).setCell (b := w.heap.size + 1) (by omega) (by omega) 2 (.slice at1c nt1c ct1c))
    replace HYW := Lib.hid (HYW.out.trans (hYl.mono (by omega) (by omega)))
    replace HYB := Lib.hid (hYl.belowU HYB.out (by omega))
    go_simp
    refine hK.out _ _ ?_ (fun _ => ?_)
    · rw [← hY]; exact HCS.out _ HYW.out
    rw [← hY]
    clear hK K fr r0 r1 r2
    replace HX1 : Hid (BoxN Y3 (w.heap.size + 1) 47 [.slice at1a nt1a ct1a, .slice at1b nt1b ct1b, .slice at1c nt1c ct1c]) := by unfold Hid; rw [hY]; exact (((HX1.out.set 0 (.slice at1a nt1a ct1a)).set 1 (.slice at1b nt1b ct1b)).set 2 (.slice at1c nt1c ct1c))
    replace HX0 := Lib.hid (HX0.out.kept hYl (by omega))
    clear hY hYl
    (try simp only [Act.put, List.setIfInBounds_toArray, List.set_cons_zero, List.set_cons_succ])
    clear z_2_0 z_2_1 z_2_2 z_3_0 z_3_1 z_3_2
    obtain ⟨z_2_0, z_2_1, z_2_2, z_3_0, z_3_1, z_3_2⟩ := HCS.out _ HYW.out
    refine wpV_done ?_
    go_wp2_with fail
    refine NoPanic.normal ?_
    clear z_2_0 z_2_1 z_2_2 z_3_0 z_3_1 z_3_2
    have t_HX0_0 := HX0.out.cell (i := 0) rfl
    have t_HX0_1 := HX0.out.cell (i := 1) rfl
    have t_HX0_2 := HX0.out.cell (i := 2) rfl
    have t_HX1_0 := HX1.out.cell (i := 0) rfl
    have t_HX1_1 := HX1.out.cell (i := 1) rfl
    have t_HX1_2 := HX1.out.cell (i := 2) rfl
    try (go_wp2_with fail)
    refine bodyPost_ret (v := .tuple #[.agg #[.int .i64 P, .int .i64 Q, .int .i64 G], .string s1b, .slice a1c n1c c1c, .agg #[.slice at1a nt1a ct1a, .slice at1b nt1b ct1b, .slice at1c nt1c ct1c]]) (by simp [results, Try.results22, go_sem, t_HX0_0, t_HX0_1, t_HX0_2, t_HX1_0, t_HX1_1, t_HX1_2]) rfl ⟨⟨_, _, _, _, _, _, _, _, _, _, _, _, rfl, HGR.out, hz1b, ⟨(HL1c.out.within HYW.out (by omega)).here, by have := HE1c.out; omega⟩, ⟨⟨(HLt1a.out.within HYW.out (by omega)).here, by have := HEt1a.out; omega⟩, ⟨(HLt1b.out.within HYW.out (by omega)).here, by have := HEt1b.out; omega⟩, ⟨(HLt1c.out.within HYW.out (by omega)).here, by have := HEt1c.out; omega⟩⟩⟩, HYB.out⟩
  | true =>
    have HLnl : Hid (Since u5.heap.size u5 (fun z => RdR rEqualLog z (.slice none 0 0) ([] : List EqualLogD))) := OwnE.nilS _
    have HEnl : Hid (([] : List EqualLogD).length = 0) := rfl
    have z_0_0 := HX0.out.cell (i := 0) rfl
    have z_0_1 := HX0.out.cell (i := 1) rfl
    have z_0_2 := HX0.out.cell (i := 2) rfl
    have z_1_0 := HX1.out.cell (i := 0) rfl
    have z_1_1 := HX1.out.cell (i := 1) rfl
    have z_1_2 := HX1.out.cell (i := 2) rfl
    have z_2_0 := HZ1.out.cell (i := 0) rfl
    have z_2_1 := HZ1.out.cell (i := 1) rfl
    have z_2_2 := HZ1.out.cell (i := 2) rfl
    have z_3_0 := HZ2.out.cell (i := 0) rfl
    have z_3_1 := HZ2.out.cell (i := 1) rfl
    have z_3_2 := HZ2.out.cell (i := 2) rfl
    try (go_wp2_with fail)
    clear z_0_0
    clear z_0_1
    clear z_0_2
    clear z_1_0
    clear z_1_1
    clear z_1_2
    refine wp_region_noPanic ?_
    refine wp_region_V (fun w' => w'.cell? ⟨u1.heap.size, 0, none⟩ = some (.int .i64 P) ∧ w'.cell? ⟨u1.heap.size, 1, none⟩ = some (.int .i64 Q) ∧ w'.cell? ⟨u1.heap.size, 2, none⟩ = some (.int .i64 G) ∧ w'.cell? ⟨u3.heap.size, 0, none⟩ = some (.slice a3a n3a_ c3a) ∧ w'.cell? ⟨u3.heap.size, 1, none⟩ = some (.slice a3b n3b_ c3b) ∧ w'.cell? ⟨u3.heap.size, 2, none⟩ = some (.slice a3c n3c_ c3c)) 13 11 (.rd 0 (.rd 1 (.rd 2 (.rd 3 (.rd 4 (.rd 5 (.alt 6 (.alt 7 (.alt 8 (.alt 9 (.alt 10 .done .nil) .nil) .nil) .nil) .nil))))))) [] (by kernel_rfl) (by kernel_rfl) rfl (fun _ _ _ _ _ h => h) ⟨box_at z_2_0 (Below.refl _ _).drew, box_at z_2_1 (Below.refl _ _).drew, box_at z_2_2 (Below.refl _ _).drew, box_at z_3_0 (Below.refl _ _).drew, box_at z_3_1 (Below.refl _ _).drew, box_at z_3_2 (Below.refl _ _).drew⟩ ?_
    simp only [pickV, pickN, List.getElem?_cons_zero, List.getElem?_cons_succ]
    repeat (refine' wpV_read _ (by kernel_rfl) (fun w' hS' => ?_) ?_; rotate_left; · ((try dsimp only at hS'); go_simp; (try with_reducible rfl)); (try simp only [Act.put, List.setIfInBounds_toArray, List.set_cons_zero, List.set_cons_succ]))
    have hdr : Below u5.heap.size u5 u5.drew := (Below.refl _ _).drew
    have hszd := hdr.size
    replace HX0 := Lib.hid (HX0.out.below hdr)
    replace HX1 := Lib.hid (HX1.out.below hdr)
    replace HZ1 := Lib.hid (HZ1.out.below hdr)
    replace HZ2 := Lib.hid (HZ2.out.below hdr)
    replace HL1c := Lib.hid (HL1c.out.below hdr)
    replace HL1f := Lib.hid (HL1f.out.below hdr)
    replace HL3a := Lib.hid (HL3a.out.below hdr)
    replace HL3b := Lib.hid (HL3b.out.below hdr)
    replace HL3c := Lib.hid (HL3c.out.below hdr)
    replace HLnl := Lib.hid (HLnl.out.below hdr)
    replace HW := Lib.hid (HW.out.trans (Within.of_below hdr))
    replace HC := Lib.hid (HC.out.keep hdr)
    clear hdr
    refine wpV_do (by kernel_rfl) (fun K hK => ?_)
    -- 6: call
    go_simp
    go_at_call 110
    refine (spec_bent U g _ P Q G _ _ _ l3a l3b l3c _ HC.out (HW.out.belowOf HUC.out (Nat.le_of_eq HUS.out)) (by omega) HGR.out HL3a.out.here HL3b.out.here HL3c.out.here (by have := HE3a.out; omega) (by have := HE3b.out; omega) (by have := HE3c.out; omega)).mono ?_
    rintro e ut1 ⟨⟨vt1a, vt1b, vt1c, lt1a, lt1b, lt1c, rfl, ⟨hst1a, hlt1a⟩, ⟨hst1b, hlt1b⟩, ⟨hst1c, hlt1c⟩⟩, hc, hw⟩
    have HLt1a := Lib.hid hst1a
    obtain ⟨at1a, nt1a, ct1a, rfl⟩ := hst1a.here.shape
    have hnt1a : nt1a ≤ 31 := by have h1 := hst1a.here.len; omega
    have HEt1a := Lib.hid hst1a.here.len
    clear hst1a
    have HLt1b := Lib.hid hst1b
    obtain ⟨at1b, nt1b, ct1b, rfl⟩ := hst1b.here.shape
    have hnt1b : nt1b ≤ 31 := by have h1 := hst1b.here.len; omega
    have HEt1b := Lib.hid hst1b.here.len
    clear hst1b
    have HLt1c := Lib.hid hst1c
    obtain ⟨at1c, nt1c, ct1c, rfl⟩ := hst1c.here.shape
    have hnt1c : nt1c ≤ 31 := by have h1 := hst1c.here.len; omega
    have HEt1c := Lib.hid hst1c.here.len
    clear hst1c
    have hszt1 := hw.size
    replace HX0 := Lib.hid (HX0.out.kept hw (.inl (by omega)))
    replace HX1 := Lib.hid (HX1.out.kept hw (.inl (by omega)))
    replace HZ1 := Lib.hid (HZ1.out.kept hw (.inr (by omega)))
    replace HZ2 := Lib.hid (HZ2.out.kept hw (.inr (by omega)))
    replace HL1c := Lib.hid (HL1c.out.within hw (by omega))
    replace HL1f := Lib.hid (HL1f.out.within hw (by omega))
    replace HL3a := Lib.hid (HL3a.out.within hw (by omega))
    replace HL3b := Lib.hid (HL3b.out.within hw (by omega))
    replace HL3c := Lib.hid (HL3c.out.within hw (by omega))
    replace HLnl := Lib.hid (HLnl.out.within hw (by omega))
    replace HW := Lib.hid (HW.out.trans hw)
    replace HC := Lib.hid hc
    clear hc hw
    clear z_2_0 z_2_1 z_2_2 z_3_0 z_3_1 z_3_2
    have z_2_0 := HZ1.out.cell (i := 0) rfl
    have z_2_1 := HZ1.out.cell (i := 1) rfl
    have z_2_2 := HZ1.out.cell (i := 2) rfl
    have z_3_0 := HZ2.out.cell (i := 0) rfl
    have z_3_1 := HZ2.out.cell (i := 1) rfl
    have z_3_2 := HZ2.out.cell (i := 2) rfl
    refine hK.out _ _ ⟨z_2_0, z_2_1, z_2_2, z_3_0, z_3_1, z_3_2⟩ (fun _ => ?_)
    clear hK K
    (try simp only [Act.put, List.setIfInBounds_toArray, List.set_cons_zero, List.set_cons_succ])
    refine wpV_do (by kernel_rfl) (fun K hK => ?_)
    -- 7: store
    have r0 := HX0.out.cell (i := 0) rfl
    have r1 := HX0.out.cell (i := 1) rfl
    have r2 := HX0.out.cell (i := 2) rfl
    have fr := fun j => HX0.out.frozen j
    obtain ⟨Y2, hY⟩ : ∃ Y, Y = ((ut1.setCell ⟨w.heap.size, 0, none⟩ (.int .i64 P)).setCell ⟨w.heap.size, 1, none⟩ (.int .i64 Q)).setCell ⟨w.heap.size, 2, none⟩ (.int .i64 G) := ⟨_, rfl⟩
    have hYl : Within (w.heap.size) (w.heap.size + 1) ut1 Y2 := by rw [hY]; exact ((((Within.refl (w.heap.size) (w.heap.size + 1) ut1).setCell (b := w.heap.size) (by omega) (by omega) 0 (.int .i64 P)).setCell (b := w.heap.size) (by omega) (by omega) 1 (.int .i64 Q)).setCell (b := w.heap.size) (by omega) (by omega) 2 (.int .i64 G))
    have HYW : Hid (Within w.heap.size (w.heap.size + 2) ut1 Y2) := hYl.mono (by omega) (by omega)
    have HYB : Hid (Below w.heap.size w Y2) := hYl.belowU (HW.out.belowOf HBW.out (by omega)) (by omega)
    have HCS : Hid (∀ w', Within w.heap.size (w.heap.size + 2) ut1 w' → w'.cell? ⟨u1.heap.size, 0, none⟩ = some (.int .i64 P) ∧ w'.cell? ⟨u1.heap.size, 1, none⟩ = some (.int .i64 Q) ∧ w'.cell? ⟨u1.heap.size, 2, none⟩ = some (.int .i64 G) ∧ w'.cell? ⟨u3.heap.size, 0, none⟩ = some (.slice a3a n3a_ c3a) ∧ w'.cell? ⟨u3.heap.size, 1, none⟩ = some (.slice a3b n3b_ c3b) ∧ w'.cell? ⟨u3.heap.size, 2, none⟩ = some (.slice a3c n3c_ c3c)) := fun w' h => ⟨within_at h z_2_0 (by omega), within_at h z_2_1 (by omega), within_at h z_2_2 (by omega), within_at h z_3_0 (by omega), within_at h z_3_1 (by omega), within_at h z_3_2 (by omega)⟩
    go_simp
    refine hK.out _ _ ?_ (fun _ => ?_)
    · rw [← hY]; exact HCS.out _ HYW.out
    rw [← hY]
    clear hK K fr r0 r1 r2
    replace HX0 : Hid (BoxN Y2 w.heap.size 24 [.int .i64 P, .int .i64 Q, .int .i64 G]) := by unfold Hid; rw [hY]; exact (((HX0.out.set 0 (.int .i64 P)).set 1 (.int .i64 Q)).set 2 (.int .i64 G))
    replace HX1 := Lib.hid (HX1.out.kept hYl (by omega))
    clear hY hYl
    (try simp only [Act.put, List.setIfInBounds_toArray, List.set_cons_zero, List.set_cons_succ])
    clear z_2_0 z_2_1 z_2_2 z_3_0 z_3_1 z_3_2
    obtain ⟨z_2_0, z_2_1, z_2_2, z_3_0, z_3_1, z_3_2⟩ := HCS.out _ HYW.out
    refine wpV_do (by kernel_rfl) (fun K hK => ?_)
    -- 8: load
    go_simp
    refine hK.out _ _ ⟨z_2_0, z_2_1, z_2_2, z_3_0, z_3_1, z_3_2⟩ (fun _ => ?_)
    clear hK K
    (try simp only [Act.put, List.setIfInBounds_toArray, List.set_cons_zero, List.set_cons_succ])
    refine wpV_do (by kernel_rfl) (fun K hK => ?_)
    -- 9: load
    go_simp
    refine hK.out _ _ ⟨z_2_0, z_2_1, z_2_2, z_3_0, z_3_1, z_3_2⟩ (fun _ => ?_)
    clear hK K
    (try simp only [Act.put, List.setIfInBounds_toArray, List.set_cons_zero, List.set_cons_succ])
    refine wpV_do (by kernel_rfl) (fun K hK => ?_)
    -- 10: store
    have r0 := HX1.out.cell (i := 0) rfl
    have r1 := HX1.out.cell (i := 1) rfl
    have r2 := HX1.out.cell (i := 2) rfl
    have fr := fun j => HX1.out.frozen j
    obtain ⟨Y3, hY⟩ : ∃ Y, Y = ((Y2.setCell ⟨w.heap.size + 1, 0, none⟩ (.slice at1a nt1a ct1a)).setCell ⟨w.heap.size + 1, 1, none⟩ (.slice at1b nt1b ct1b)).setCell ⟨w.heap.size + 1, 2, none⟩ (.slice at1c nt1c ct1c) := ⟨_, rfl⟩
    have hYl : Within (w.heap.size + 1) (w.heap.size + 1 + 1) Y2 Y3 := by rw [hY]; exact ((((Within.refl (w.heap.size + 1) (w.heap.size + 1 + 1) Y2).setCell (b := w.heap.size + 1) (by omega) (by omega) 0 (.slice at1a nt1a ct1a)).setCell (b := w.heap.size + 1) (by omega) (by omega) 1 (.slice at1b nt1b ct1b)).setCell (b := w.heap.size + 1) (by omega) (by omega) 2 (.slice at1c nt1c ct1c))
    replace HYW := Lib.hid (HYW.out.trans (hYl.mono (by omega) (by omega)))
    replace HYB := Lib.hid (hYl.belowU HYB.out (by omega))
    go_simp
    refine hK.out _ _ ?_ (fun _ => ?_)
    · rw [← hY]; exact HCS.out _ HYW.out
    rw [← hY]
    clear hK K fr r0 r1 r2
    replace HX1 : Hid (BoxN Y3 (w.heap.size + 1) 47 [.slice at1a nt1a ct1a, .slice at1b nt1b ct1b, .slice at1c nt1c ct1c]) := by unfold Hid; rw [hY]; exact (((HX1.out.set 0 (.slice at1a nt1a ct1a)).set 1 (.slice at1b nt1b ct1b)).set 2 (.slice at1c nt1c ct1c))
    replace HX0 := Lib.hid (HX0.out.kept hYl (by omega))
    clear hY hYl
    (try simp only [Act.put, List.setIfInBounds_toArray, List.set_cons_zero, List.set_cons_succ])
    clear z_2_0 z_2_1 z_2_2 z_3_0 z_3_1 z_3_2
    obtain ⟨z_2_0, z_2_1, z_2_2, z_3_0, z_3_1, z_3_2⟩ := HCS.out _ HYW.out
    refine wpV_done ?_
    go_wp2_with fail
    refine NoPanic.normal ?_
    clear z_2_0 z_2_1 z_2_2 z_3_0 z_3_1 z_3_2
    have t_HX0_0 := HX0.out.cell (i := 0) rfl
    have t_HX0_1 := HX0.out.cell (i := 1) rfl
    have t_HX0_2 := HX0.out.cell (i := 2) rfl
    have t_HX1_0 := HX1.out.cell (i := 0) rfl
    have t_HX1_1 := HX1.out.cell (i := 1) rfl
    have t_HX1_2 := HX1.out.cell (i := 2) rfl
    try (go_wp2_with fail)
    refine bodyPost_ret (v := .tuple #[.agg #[.int .i64 P, .int .i64 Q, .int .i64 G], .string s1b, .slice none 0 0, .agg #[.slice at1a nt1a ct1a, .slice at1b nt1b ct1b, .slice at1c nt1c ct1c]]) (by simp [results, Try.results22, go_sem, t_HX0_0, t_HX0_1, t_HX0_2, t_HX1_0, t_HX1_1, t_HX1_2]) rfl ⟨⟨_, _, _, _, _, _, _, _, _, _, _, _, rfl, HGR.out, hz1b, ⟨(HLnl.out.within HYW.out (by omega)).here, by have := HEnl.out; omega⟩, ⟨⟨(HLt1a.out.within HYW.out (by omega)).here, by have := HEt1a.out; omega⟩, ⟨(HLt1b.out.within HYW.out (by omega)).here, by have := HEt1b.out; omega⟩, ⟨(HLt1c.out.within HYW.out (by omega)).here, by have := HEt1c.out; omega⟩⟩⟩, HYB.out⟩
end Go.Proofs.Ytegomgnlhcbmfaa
namespace Go.Proofs.Ytegomgnlhcbmfaa
open Go.RowKit
set_option linter.unusedSimpArgs false
set_option linter.unusedVariables false

theorem RowsI.more {w : World} {B : Nat} {rs : List (Value × List Int)} (h : RowsI w B rs) : RowsI w B (rs ++ [(.slice none 0 0, [])]) := by
  have get : ∀ (j : Nat) y m, (rs ++ [((.slice none 0 0 : Value), ([] : List Int))])[j]? = some (y, m) → rs[j]? = some (y, m) ∨ (y = .slice none 0 0 ∧ m = []) := by
    intro j y m e
    by_cases hj : j < rs.length
    · rw [List.getElem?_append_left hj] at e; exact .inl e
    · rw [List.getElem?_append_right (Nat.le_of_not_lt hj)] at e
      cases hq : j - rs.length with
      | zero => rw [hq] at e; cases e; exact .inr ⟨rfl, rfl⟩
      | succ n => rw [hq] at e; simp at e
  refine ⟨?_, ?_⟩
  · intro j y m e
    rcases get j y m e with q | ⟨rfl, rfl⟩
    · exact h.own j y m q
    · exact OwnI.nil _ _
  · intro i j y m z n hne e1 e2 k hk
    rcases get i y m e1 with q1 | ⟨rfl, rfl⟩
    · rcases get j z n e2 with q2 | ⟨rfl, rfl⟩
      · exact h.ne i j y m z n hne q1 q2 k hk
      · intro q; cases q
    · cases hk
theorem RowsI.three {w : World} {B : Nat} {x y z : Value × List Int} {rs : List (Value × List Int)} (h : RowsI w B (x :: y :: z :: rs)) : RowsI w B [x, y, z] := by
  have get : ∀ (j : Nat) v m, [x, y, z][j]? = some (v, m) → (x :: y :: z :: rs)[j]? = some (v, m) := by
    intro j v m e
    match j, e with
    | 0, e => exact e
    | 1, e => exact e
    | 2, e => exact e
    | j + 3, e => simp at e
  exact ⟨fun j v m e => h.own j v m (get j v m e), fun i j v m y n hne e1 e2 => h.ne i j v m y n hne (get i v m e1) (get j y n e2)⟩
/-- rows that grow in a region: boxes stay -/
structure GrI (B : Nat) (u0 u : World) (rs : List (Value × List Int)) : Prop where
  rows : RowsI u B rs
  box : ∀ b t cs, t ≠ 3 → BoxN u0 b t cs → BoxN u b t cs
  bel : Below B u0 u
  hi : B ≤ u.heap.size
theorem GrI.lit1 {o : Oper} {a : Act} {u0 w : World} {K : Act → World → Prop} {Q : Exit → Act → World → Prop} (x : Operand)
    (ho : o.op = .buildSlice 43 1 #[(0, x)]) {B : Nat} {rs : List (Value × List Int)} (h : GrI B u0 w rs)
    (i : Nat) (hi : rs[i]? = some (.slice none 0 0, [])) {X : Int} (hX : I64 X) (hx : a.eval x = .int .i64 X)
    (hK : ∀ v' w', GrI B u0 w' (rs.set i (v', [X])) → K (a.put o.dst v') w') : Oper.wp Try.prog o a w K Q := by
  have hr := h.rows.lit h.hi hi (AllI64.cons hX AllI64.nil) (cs := #[.int .i64 X]) rfl (by simp [maxLen]) 1 rfl
  have hb : Below w.heap.size w (w.alloc (.cells #[.int .i64 X] 3)) := (Below.refl _ _).alloc (Nat.le_refl _) _
  have h2 := hK _ _ ⟨hr, fun b t cs ht q => (h.box b t cs ht q).below hb, h.bel.trans (hb.mono h.hi), Nat.le_trans h.hi hb.size⟩
  unfold Oper.wp execOp
  simp only [ho]
  generalize a.eval = ev at hx ⊢
  go_simp
  exact h2
theorem GrI.lit2 {o : Oper} {a : Act} {u0 w : World} {K : Act → World → Prop} {Q : Exit → Act → World → Prop} (x y : Operand)
    (ho : o.op = .buildSlice 43 2 #[(0, x), (1, y)]) {B : Nat} {rs : List (Value × List Int)} (h : GrI B u0 w rs)
    (i : Nat) (hi : rs[i]? = some (.slice none 0 0, [])) {X Y : Int} (hX : I64 X) (hY : I64 Y) (hx : a.eval x = .int .i64 X) (hy : a.eval y = .int .i64 Y)
    (hK : ∀ v' w', GrI B u0 w' (rs.set i (v', [X, Y])) → K (a.put o.dst v') w') : Oper.wp Try.prog o a w K Q := by
  have hr := h.rows.lit h.hi hi (AllI64.cons hX (AllI64.cons hY AllI64.nil)) (cs := #[.int .i64 X, .int .i64 Y]) rfl (by simp [maxLen]) 2 rfl
  have hb : Below w.heap.size w (w.alloc (.cells #[.int .i64 X, .int .i64 Y] 3)) := (Below.refl _ _).alloc (Nat.le_refl _) _
  have h2 := hK _ _ ⟨hr, fun b t cs ht q => (h.box b t cs ht q).below hb, h.bel.trans (hb.mono h.hi), Nat.le_trans h.hi hb.size⟩
  unfold Oper.wp execOp
  simp only [ho]
  generalize a.eval = ev at hx hy ⊢
  go_simp
  exact h2
theorem GrI.app {o : Oper} {a : Act} {u0 w : World} {K : Act → World → Prop} {Q : Exit → Act → World → Prop} (s x : Operand)
    (ho : o.op = .call { callee := .builtin .append, args := #[s, x], argTypes := #[43, 43] })
    {B : Nat} {rs : List (Value × List Int)} (h : GrI B u0 w rs)
    (i j : Nat) {v y : Value} {l m : List Int} (hi : rs[i]? = some (v, l)) (hj : rs[j]? = some (y, m)) (hm : m ≠ []) (N : Nat) (hN : l.length + m.length = N) (hlen : N ≤ 1000000000000) (hs : a.eval s = v) (hxx : a.eval x = y)
    (hK : ∀ a' c' w', GrI B u0 w' (rs.set i (.slice a' N c', l ++ m)) → K (a.put o.dst (.slice a' N c')) w') : Oper.wp Try.prog o a w K Q := by
  refine RowsI.do_app s x ho h.rows h.hi i j hi hj hm (by omega) hs hxx ?_
  intro v' w' h1 h2 h3
  have hil : i < rs.length := (List.getElem?_eq_some_iff.1 hi).1
  obtain ⟨a', c', e⟩ := (h1.own i v' (l ++ m) (List.getElem?_set_self hil)).shape
  rw [List.length_append, hN] at e
  subst e
  exact hK a' c' w' ⟨h1, fun b t cs ht q => h2 b t cs ht (h.box b t cs ht q), h.bel.trans h3, Nat.le_trans h.hi h3.size⟩
theorem PSt.grow {w0 w w' : World} {gb rb pb B : Nat} {gr : GroupD} {c h r c' h' r' : Value} {lc lh lr lc' lh' lr' : List Int} {rs : List (Value × List Int)} (q : PSt w0 w gb rb pb B gr c h r lc lh lr) (g : GrI B w w' ((c', lc') :: (h', lh') :: (r', lr') :: rs)) :
    PSt w0 (((w'.setCell ⟨pb, 0, none⟩ c').setCell ⟨pb, 1, none⟩ h').setCell ⟨pb, 2, none⟩ r') gb rb pb B gr c' h' r' lc' lh' lr' := by
  have hp := g.box _ _ _ (by decide) q.prf
  have hg := g.box _ _ _ (by decide) q.grp
  have hr := g.box _ _ _ (by decide) q.res
  have n1 : pb ≠ gb := BoxN.apartB hp hg (by decide)
  have p1 := hp.set 0 c'
  have p2 := p1.set 1 h'
  refine ⟨?_, ((hg.other n1 0 c').other n1 1 h').other n1 2 r', ((hr.other q.rne 0 c').other q.rne 1 h').other q.rne 2 r', p2.set 2 r', ((g.rows.three.setbox (by decide) hp 0 c').setbox (by decide) p1 1 h').setbox (by decide) p2 2 r', q.rne, q.lo, q.loB, ?_⟩
  · exact (((q.bel.trans (g.bel.mono q.loB)).setCell (p := ⟨pb, 0, none⟩) q.lo c').setCell (p := ⟨pb, 1, none⟩) q.lo h').setCell (p := ⟨pb, 2, none⟩) q.lo r'
  · simpa using g.hi
theorem PSt.start {w0 w : World} {gb rb pb B : Nat} {gr : GroupD} {c h r : Value} {lc lh lr : List Int} (q : PSt w0 w gb rb pb B gr c h r lc lh lr) : GrI B w w [(c, lc), (h, lh), (r, lr), (.slice none 0 0, []), (.slice none 0 0, []), (.slice none 0 0, [])] :=
  ⟨q.rows.more.more.more, fun _ _ _ _ h => h, Below.refl _ _, q.hi⟩
end Go.Proofs.Ytegomgnlhcbmfaa
