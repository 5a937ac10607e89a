/- Draws: pairs of proofs with the same commits (printed by gen_dr2.py). -/
import Derived.Test.YtegomgnlhcbmfaaDrOne2W
import Derived.Test.YtegomgnlhcbmfaaKEqualLogW
import Derived.Test.YtegomgnlhcbmfaaPow2W
namespace Go.Proofs.Ytegomgnlhcbmfaa
open Go.RowKit
set_option linter.unusedSimpArgs false
set_option linter.unusedVariables false

theorem I64_wrapE (n : Int) : I64 (IntKind.i64.wrap n) := by rw [IntKind.wrap_i64]; constructor <;> omega
theorem ooF_len2 (gr : GroupD) (s : ByteArray) (l : List EqualLogD) (k x : Int) (cs : List Int) :
    ((ooF gr s l k x cs).c.length ≤ 30 ∧ (ooF gr s l k x cs).h.length ≤ 30 ∧ (ooF gr s l k x cs).r.length ≤ 30) ∧ ((ooB gr s l k x cs = true → k.toNat < (ooF gr s l k x cs).c.length) ∧ (ooB gr s l k x cs = true → k.toNat < (ooF gr s l k x cs).h.length) ∧ (ooB gr s l k x cs = true → k.toNat < (ooF gr s l k x cs).r.length)) := by
  refine ⟨ooF_len gr s l k x cs, ?_, ?_, ?_⟩
  all_goals
    intro h
    have e : ooF gr s l k x cs = ooD gr s l k.toNat x cs := by unfold ooF; rw [if_pos h]
    obtain ⟨_, _, _, h4, _⟩ := ooB_parts h
    rw [e]
  · show k.toNat < (ooCs gr l k.toNat cs l.length).length
    rw [ooCs_len]; omega
  · show k.toNat < ((ooHs k.toNat cs l.length).set k.toNat (ooOwn gr s l k.toNat cs)).length
    rw [List.length_set, ooHs_len]; omega
  · show k.toNat < ((ooRs k.toNat cs l.length).set k.toNat _).length
    rw [List.length_set, ooRs_len]; omega
/-- a store of a number into a row that may be this one -/
theorem OwnI.poke {w : World} {B b k : Nat} {v : Value} {l : List Int} {x : Int} (h : OwnI w B v l) (hx : I64 x) (hk : k < l.length) :
    ∃ l', l'.length = l.length ∧ OwnI (w.setCell ⟨b, k, none⟩ (.int .i64 x)) B v l' := by
  by_cases e : v.ownBlock = some b
  · obtain ⟨a, c, rfl⟩ := h.shape
    obtain ⟨g, rfl, _, hn, _⟩ := h.at_ (by omega)
    have hb : g = b := by injection e
    subst hb
    exact ⟨l.set k x, by simp, (h.stored rfl k hx).1⟩
  · exact ⟨l, rfl, h.kept (grownBy_setCell _ b k _) (.inr e)⟩
theorem OwnI.outside {w Y : World} {B b : Nat} {v : Value} {l : List Int} (h : OwnI w B v l) (hne : ∀ k, v.ownBlock = some k → b ≠ k) (hY : Within b (b + 1) w Y) : OwnI Y B v l :=
  ⟨h.1, ownsRow_frame h.2 fun k hk => hY.block k (h.lt k hk).2 (by have := hne k hk; omega)⟩
set_option maxRecDepth 100000 in
set_option maxHeartbeats 4000000 in
theorem spec_DrawExtractOneOf (v : Value) (w : World) (h : Bytes w v) :
    Calls Try.prog 26 #[v] w fun e w' => (∃ (P : Int) (Q : Int) (G : Int) (vr1 : Value) (lr1 : List EqualLogD) (vr2a : Value) (vr2b : Value) (vr2c : Value) (lr2a : List Int) (lr2b : List Int) (lr2c : List Int) (vr3a : Value) (vr3b : Value) (vr3c : Value) (lr3a : List Int) (lr3b : List Int) (lr3c : List Int), e = .returned (.tuple #[.agg #[.int .i64 P, .int .i64 Q, .int .i64 G], vr1, .agg #[vr2a, vr2b, vr2c], .agg #[vr3a, vr3b, vr3c]]) ∧ GrB ⟨P, Q, G⟩ ∧ (RdR rEqualLog w' vr1 lr1 ∧ lr1.length ≤ 3) ∧ (Ints w' vr2a lr2a ∧ lr2a.length ≤ 31) ∧ (Ints w' vr2b lr2b ∧ lr2b.length ≤ 31) ∧ (Ints w' vr2c lr2c ∧ lr2c.length ≤ 31) ∧ (Ints w' vr3a lr3a ∧ lr3a.length ≤ 31) ∧ (Ints w' vr3b lr3b ∧ lr3b.length ≤ 31) ∧ (Ints w' vr3c lr3c ∧ lr3c.length ≤ 31)) ∧ Below w.heap.size w w' := by
  obtain ⟨a, m, c, rfl, hk1, hk2, hv⟩ := h
  have HY : Hid (Bytes w (.slice a m c)) := ⟨a, m, c, rfl, hk1, hk2, hv⟩
  clear hv
  unfold maxLen at hk2
  obtain ⟨U, hU⟩ : ∃ U, U = ((w.alloc (.cells #[.int .i64 0, .int .i64 0, .int .i64 0] 24)).alloc (.cells #[(.slice none 0 0), (.slice none 0 0), (.slice none 0 0)] 47)).alloc (.cells #[(.slice none 0 0), (.slice none 0 0), (.slice none 0 0)] 47) := ⟨_, rfl⟩
  have hbU : Below w.heap.size w U := by rw [hU]; (repeat (first | exact Below.refl _ _ | assumption | refine Below.drew ?_ | refine Below.alloc ?_ (by first | (simp; done) | (simp; omega)) _ | refine Below.setCell ?_ (by first | (simp; done) | (simp; omega)) _))
  have HX0 : Hid (BoxN U w.heap.size 24 [.int .i64 0, .int .i64 0, .int .i64 0]) := by unfold Hid; rw [hU]; have h := (((BoxN.new w [.int .i64 0, .int .i64 0, .int .i64 0] 24).alloc (.cells #[(.slice none 0 0), (.slice none 0 0), (.slice none 0 0)] 47)).alloc (.cells #[(.slice none 0 0), (.slice none 0 0), (.slice none 0 0)] 47)); simpa using h
  have HX1 : Hid (BoxN U (w.heap.size + 1) 47 [(.slice none 0 0), (.slice none 0 0), (.slice none 0 0)]) := by unfold Hid; rw [hU]; have h := ((BoxN.new (w.alloc (.cells #[.int .i64 0, .int .i64 0, .int .i64 0] 24)) [(.slice none 0 0), (.slice none 0 0), (.slice none 0 0)] 47).alloc (.cells #[(.slice none 0 0), (.slice none 0 0), (.slice none 0 0)] 47)); simpa using h
  have HX2 : Hid (BoxN U (w.heap.size + 1 + 1) 47 [(.slice none 0 0), (.slice none 0 0), (.slice none 0 0)]) := by unfold Hid; rw [hU]; have h := (BoxN.new ((w.alloc (.cells #[.int .i64 0, .int .i64 0, .int .i64 0] 24)).alloc (.cells #[(.slice none 0 0), (.slice none 0 0), (.slice none 0 0)] 47)) [(.slice none 0 0), (.slice none 0 0), (.slice none 0 0)] 47); simpa using h
  have hsU : U.heap.size = w.heap.size + 1 + 1 + 1 := by rw [hU]; simp
  obtain ⟨W, hW⟩ : ∃ W, W = U.alloc (.cells #[.slice a m c, .int .i64 0, .int .u64 0] 107) := ⟨_, rfl⟩
  have HC : Hid (Cur U W U.heap.size 0) := by unfold Hid; rw [hW]; exact Cur.new U (HY.out.below hbU)
  have hbW : Below U.heap.size U W := by rw [hW]; exact (Below.refl _ _).alloc (Nat.le_refl _) _
  have HBW := Lib.hid (Below.next hbU hbW)
  have HUB := Lib.hid hbW
  replace HX0 := Lib.hid (HX0.out.below hbW)
  replace HX1 := Lib.hid (HX1.out.below hbW)
  replace HX2 := Lib.hid (HX2.out.below hbW)
  obtain ⟨g, hg⟩ : ∃ g, g = U.heap.size := ⟨_, rfl⟩
  have HSU : Hid (w.heap.size + 1 + 1 + 1 = g) := by unfold Hid; rw [hg, hsU]
  have HWS : Hid (W.heap.size = g + 1) := by unfold Hid; rw [hW, hg]; simp
  go_enter Try.func26, Try.ntmps26
  go_wp2_with fail
  rw [← hU, ← hW]
  rw [HSU.out]
  rw [← hg] at HC HUB
  have HUS : Hid (U.heap.size = g) := hg.symm
  have hwg : w.heap.size + 3 = g := HSU.out
  have hsW := HWS.out
  have HW := Lib.hid (Within.refl g (g + 1) W)
  have HUC : Hid (Below U.heap.size U W) := by unfold Hid; rw [HUS.out]; exact HUB.out
  clear hU hW hbU hbW hsU hg
  have z_0_0 := HX0.out.cell (i := 0) rfl
  have z_0_1 := HX0.out.cell (i := 1) rfl
  have z_0_2 := HX0.out.cell (i := 2) rfl
  have z_1_0 := HX1.out.cell (i := 0) rfl
  have z_1_1 := HX1.out.cell (i := 1) rfl
  have z_1_2 := HX1.out.cell (i := 2) rfl
  have z_2_0 := HX2.out.cell (i := 0) rfl
  have z_2_1 := HX2.out.cell (i := 1) rfl
  have z_2_2 := HX2.out.cell (i := 2) rfl
  try (go_wp2_with fail)
  clear z_0_0 z_0_1 z_0_2 z_1_0 z_1_1 z_1_2 z_2_0 z_2_1 z_2_2
  refine (spec_DrawProveOneOfS _ _ (HY.out.below (HW.out.belowOf HBW.out (by omega)))).mono ?_
  rintro e u1 ⟨⟨P, Q, G, s1b, v1c, l1c, x1d, x1e, v1f, l1f, rfl, hgr, hz1b, ⟨hs1c, hl1c⟩, ⟨x1dl, x1du⟩, ⟨x1el, x1eu⟩, ⟨hs1f, hl1f⟩⟩, hb⟩
  have HGR := Lib.hid hgr
  clear hgr
  have HL1c := Lib.hid hs1c
  obtain ⟨a1c, n1c, c1c, rfl⟩ := hs1c.here.shape
  have hn1c : n1c ≤ 3 := by have h1 := hs1c.here.len; omega
  have HE1c := Lib.hid hs1c.here.len
  clear hs1c
  have HL1f := Lib.hid hs1f
  obtain ⟨a1f, n1f, c1f, rfl⟩ := hs1f.here.shape
  have hn1f : n1f ≤ 1001 := by have h1 := hs1f.here.len; omega
  have HE1f := Lib.hid hs1f.here.len
  clear hs1f
  have hsz1 := hb.size
  replace HX0 := Lib.hid (HX0.out.below hb)
  replace HX1 := Lib.hid (HX1.out.below hb)
  replace HX2 := Lib.hid (HX2.out.below hb)
  replace HW := Lib.hid (HW.out.trans (Within.of_below hb))
  replace HC := Lib.hid (HC.out.keep hb)
  clear hb
  have z_0_0 := HX0.out.cell (i := 0) rfl
  have z_0_1 := HX0.out.cell (i := 1) rfl
  have z_0_2 := HX0.out.cell (i := 2) rfl
  have z_1_0 := HX1.out.cell (i := 0) rfl
  have z_1_1 := HX1.out.cell (i := 1) rfl
  have z_1_2 := HX1.out.cell (i := 2) rfl
  have z_2_0 := HX2.out.cell (i := 0) rfl
  have z_2_1 := HX2.out.cell (i := 1) rfl
  have z_2_2 := HX2.out.cell (i := 2) rfl
  have lt_HX0 := HX0.out.lt
  have lt_HX1 := HX1.out.lt
  have lt_HX2 := HX2.out.lt
  obtain ⟨V2, hV⟩ : ∃ V, V = u1.alloc (.cells #[.int .i64 P, .int .i64 Q, .int .i64 G] 24) := ⟨_, rfl⟩
  have hbV : Below u1.heap.size u1 V2 := by rw [hV]; (repeat (first | exact Below.refl _ _ | assumption | refine Below.drew ?_ | refine Below.alloc ?_ (by first | (simp; done) | (simp; omega)) _ | refine Below.setCell ?_ (by first | (simp; done) | (simp; omega)) _))
  have HZ1 : Hid (BoxN V2 u1.heap.size 24 [.int .i64 P, .int .i64 Q, .int .i64 G]) := by unfold Hid; rw [hV]; have h := (BoxN.new u1 [.int .i64 P, .int .i64 Q, .int .i64 G] 24); simpa using h
  have hgc : g < u1.heap.size := HC.out.lt
  go_wp2_with fail
  rw [← hV]
  have hsV2 : V2.heap.size = u1.heap.size + 1 := by rw [hV]; simp
  clear hV hgc
  replace HX0 := Lib.hid (HX0.out.below hbV)
  replace HX1 := Lib.hid (HX1.out.below hbV)
  replace HX2 := Lib.hid (HX2.out.below hbV)
  replace HL1c := Lib.hid (HL1c.out.below hbV)
  replace HL1f := Lib.hid (HL1f.out.below hbV)
  replace HW := Lib.hid (HW.out.trans (Within.of_below hbV))
  replace HC := Lib.hid (HC.out.keep hbV)
  clear hbV
  clear z_0_0 z_0_1 z_0_2 z_1_0 z_1_1 z_1_2 z_2_0 z_2_1 z_2_2
  clear lt_HX0
  clear lt_HX1
  clear lt_HX2
  refine (spec_ProveOneOf ⟨P, Q, G⟩ s1b _ l1c x1d x1e _ l1f _ (by omega) ⟨by omega, by omega⟩ HL1c.out.here HL1f.out.here).mono ?_
  rintro e u3 ⟨⟨v3a, v3b, v3c, rfl, o3a, o3b, o3c⟩, hb⟩
  obtain ⟨⟨n3a, n3b, n3c⟩, m3a, m3b, m3c⟩ := ooF_len2 ⟨P, Q, G⟩ s1b l1c x1d x1e l1f
  obtain ⟨q3q, hq3q⟩ : ∃ r, ooB ⟨P, Q, G⟩ s1b l1c x1d x1e l1f = r := ⟨_, rfl⟩
  have Hq3q := Lib.hid hq3q
  rw [hq3q]
  clear hq3q
  obtain ⟨l3a, hl3a⟩ : ∃ l, (ooF ⟨P, Q, G⟩ s1b l1c x1d x1e l1f).c = l := ⟨_, rfl⟩
  rw [hl3a] at o3a n3a m3a
  have HMa := Lib.hid m3a
  clear m3a
  clear hl3a
  obtain ⟨a3a, n3a_, c3a, rfl⟩ := o3a.ints.shape
  have HE3a := Lib.hid o3a.ints.len
  have HL3a : Hid (Since V2.heap.size u3 (fun z => Ints z (.slice a3a n3a_ c3a) l3a)) := Since.of_ownI o3a (Nat.le_refl _)
  have HOB3a := Lib.hid (fun q hq => (o3a.lt q hq).1)
  clear o3a
  obtain ⟨l3b, hl3b⟩ : ∃ l, (ooF ⟨P, Q, G⟩ s1b l1c x1d x1e l1f).h = l := ⟨_, rfl⟩
  rw [hl3b] at o3b n3b m3b
  have HMb := Lib.hid m3b
  clear m3b
  clear hl3b
  obtain ⟨a3b, n3b_, c3b, rfl⟩ := o3b.ints.shape
  have HE3b := Lib.hid o3b.ints.len
  have HL3b : Hid (Since V2.heap.size u3 (fun z => Ints z (.slice a3b n3b_ c3b) l3b)) := Since.of_ownI o3b (Nat.le_refl _)
  have HOB3b := Lib.hid (fun q hq => (o3b.lt q hq).1)
  clear o3b
  obtain ⟨l3c, hl3c⟩ : ∃ l, (ooF ⟨P, Q, G⟩ s1b l1c x1d x1e l1f).r = l := ⟨_, rfl⟩
  rw [hl3c] at o3c n3c m3c
  have HMc := Lib.hid m3c
  clear m3c
  clear hl3c
  obtain ⟨a3c, n3c_, c3c, rfl⟩ := o3c.ints.shape
  have HE3c := Lib.hid o3c.ints.len
  have HL3c : Hid (Since V2.heap.size u3 (fun z => Ints z (.slice a3c n3c_ c3c) l3c)) := Since.of_ownI o3c (Nat.le_refl _)
  have HOB3c := Lib.hid (fun q hq => (o3c.lt q hq).1)
  clear o3c
  have hsz3 := hb.size
  replace HX0 := Lib.hid (HX0.out.below hb)
  replace HX1 := Lib.hid (HX1.out.below hb)
  replace HX2 := Lib.hid (HX2.out.below hb)
  replace HZ1 := Lib.hid (HZ1.out.below hb)
  replace HL1c := Lib.hid (HL1c.out.below hb)
  replace HL1f := Lib.hid (HL1f.out.below hb)
  replace HW := Lib.hid (HW.out.trans (Within.of_below hb))
  replace HC := Lib.hid (HC.out.keep hb)
  clear hb
  cases q3q with
  | false =>
    have z_0_0 := HX0.out.cell (i := 0) rfl
    have z_0_1 := HX0.out.cell (i := 1) rfl
    have z_0_2 := HX0.out.cell (i := 2) rfl
    have z_1_0 := HX1.out.cell (i := 0) rfl
    have z_1_1 := HX1.out.cell (i := 1) rfl
    have z_1_2 := HX1.out.cell (i := 2) rfl
    have z_2_0 := HX2.out.cell (i := 0) rfl
    have z_2_1 := HX2.out.cell (i := 1) rfl
    have z_2_2 := HX2.out.cell (i := 2) rfl
    have z_3_0 := HZ1.out.cell (i := 0) rfl
    have z_3_1 := HZ1.out.cell (i := 1) rfl
    have z_3_2 := HZ1.out.cell (i := 2) rfl
    have lt_HX0 := HX0.out.lt
    have lt_HX1 := HX1.out.lt
    have lt_HX2 := HX2.out.lt
    have lt_HZ1 := HZ1.out.lt
    obtain ⟨V4, hV⟩ : ∃ V, V = u3.alloc (.cells #[.slice a3a n3a_ c3a, .slice a3b n3b_ c3b, .slice a3c n3c_ c3c] 47) := ⟨_, rfl⟩
    have hbV : Below u3.heap.size u3 V4 := by rw [hV]; (repeat (first | exact Below.refl _ _ | assumption | refine Below.drew ?_ | refine Below.alloc ?_ (by first | (simp; done) | (simp; omega)) _ | refine Below.setCell ?_ (by first | (simp; done) | (simp; omega)) _))
    have HZ2 : Hid (BoxN V4 u3.heap.size 47 [.slice a3a n3a_ c3a, .slice a3b n3b_ c3b, .slice a3c n3c_ c3c]) := by unfold Hid; rw [hV]; have h := (BoxN.new u3 [.slice a3a n3a_ c3a, .slice a3b n3b_ c3b, .slice a3c n3c_ c3c] 47); simpa using h
    have hgc : g < u3.heap.size := HC.out.lt
    go_wp2_with fail
    rw [← hV]
    have hsV4 : V4.heap.size = u3.heap.size + 1 := by rw [hV]; simp
    clear hV hgc
    replace HX0 := Lib.hid (HX0.out.below hbV)
    replace HX1 := Lib.hid (HX1.out.below hbV)
    replace HX2 := Lib.hid (HX2.out.below hbV)
    replace HZ1 := Lib.hid (HZ1.out.below hbV)
    replace HL1c := Lib.hid (HL1c.out.below hbV)
    replace HL1f := Lib.hid (HL1f.out.below hbV)
    replace HL3a := Lib.hid (HL3a.out.below hbV)
    replace HL3b := Lib.hid (HL3b.out.below hbV)
    replace HL3c := Lib.hid (HL3c.out.below hbV)
    replace HW := Lib.hid (HW.out.trans (Within.of_below hbV))
    replace HC := Lib.hid (HC.out.keep hbV)
    clear hbV
    clear z_0_0 z_0_1 z_0_2 z_1_0 z_1_1 z_1_2 z_2_0 z_2_1 z_2_2 z_3_0 z_3_1 z_3_2
    clear lt_HX0
    clear lt_HX1
    clear lt_HX2
    clear lt_HZ1
    have z_0_0 := HX0.out.cell (i := 0) rfl
    have z_0_1 := HX0.out.cell (i := 1) rfl
    have z_0_2 := HX0.out.cell (i := 2) rfl
    have z_1_0 := HX1.out.cell (i := 0) rfl
    have z_1_1 := HX1.out.cell (i := 1) rfl
    have z_1_2 := HX1.out.cell (i := 2) rfl
    have z_2_0 := HX2.out.cell (i := 0) rfl
    have z_2_1 := HX2.out.cell (i := 1) rfl
    have z_2_2 := HX2.out.cell (i := 2) rfl
    have z_3_0 := HZ1.out.cell (i := 0) rfl
    have z_3_1 := HZ1.out.cell (i := 1) rfl
    have z_3_2 := HZ1.out.cell (i := 2) rfl
    have z_4_0 := HZ2.out.cell (i := 0) rfl
    have z_4_1 := HZ2.out.cell (i := 1) rfl
    have z_4_2 := HZ2.out.cell (i := 2) rfl
    clear z_0_0
    clear z_0_1
    clear z_0_2
    clear z_1_0
    clear z_1_1
    clear z_1_2
    clear z_2_0
    clear z_2_1
    clear z_2_2
    refine wp_region_noPanic ?_
    refine wp_region_V (fun w' => w'.cell? ⟨u1.heap.size, 0, none⟩ = some (.int .i64 P) ∧ w'.cell? ⟨u1.heap.size, 1, none⟩ = some (.int .i64 Q) ∧ w'.cell? ⟨u1.heap.size, 2, none⟩ = some (.int .i64 G) ∧ w'.cell? ⟨u3.heap.size, 0, none⟩ = some (.slice a3a n3a_ c3a) ∧ w'.cell? ⟨u3.heap.size, 1, none⟩ = some (.slice a3b n3b_ c3b) ∧ w'.cell? ⟨u3.heap.size, 2, none⟩ = some (.slice a3c n3c_ c3c)) 10 8 (.rd 0 (.rd 1 (.rd 2 (.rd 3 (.alt 4 (.alt 5 (.alt 6 (.alt 7 .done .nil) .nil) .nil) .nil))))) [] (by kernel_rfl) (by kernel_rfl) rfl (fun _ _ _ _ _ h => h) ⟨box_at z_3_0 (Below.refl _ _).drew, box_at z_3_1 (Below.refl _ _).drew, box_at z_3_2 (Below.refl _ _).drew, box_at z_4_0 (Below.refl _ _).drew, box_at z_4_1 (Below.refl _ _).drew, box_at z_4_2 (Below.refl _ _).drew⟩ ?_
    simp only [pickV, pickN, List.getElem?_cons_zero, List.getElem?_cons_succ]
    repeat (refine' wpV_read _ (by kernel_rfl) (fun w' hS' => ?_) ?_; rotate_left; (focus ((try dsimp only at hS'); go_simp; (try with_reducible rfl))); (try simp only [Act.put, List.setIfInBounds_toArray, List.set_cons_zero, List.set_cons_succ]))
    have hdr : Below V4.heap.size V4 V4.drew := (Below.refl _ _).drew
    have hszd := hdr.size
    replace HX0 := Lib.hid (HX0.out.below hdr)
    replace HX1 := Lib.hid (HX1.out.below hdr)
    replace HX2 := Lib.hid (HX2.out.below hdr)
    replace HZ1 := Lib.hid (HZ1.out.below hdr)
    replace HZ2 := Lib.hid (HZ2.out.below hdr)
    replace HL1c := Lib.hid (HL1c.out.below hdr)
    replace HL1f := Lib.hid (HL1f.out.below hdr)
    replace HL3a := Lib.hid (HL3a.out.below hdr)
    replace HL3b := Lib.hid (HL3b.out.below hdr)
    replace HL3c := Lib.hid (HL3c.out.below hdr)
    replace HW := Lib.hid (HW.out.trans (Within.of_below hdr))
    replace HC := Lib.hid (HC.out.keep hdr)
    clear hdr
    refine wpV_do (by kernel_rfl) (fun K hK => ?_)
    -- 4: store
    have r0 := HX0.out.cell (i := 0) rfl
    have r1 := HX0.out.cell (i := 1) rfl
    have r2 := HX0.out.cell (i := 2) rfl
    have fr := fun j => HX0.out.frozen j
    have q0 : V4.cell? ⟨w.heap.size, 0, none⟩ = some (.int .i64 0) := r0
    have q1 : V4.cell? ⟨w.heap.size, 1, none⟩ = some (.int .i64 0) := r1
    have q2 : V4.cell? ⟨w.heap.size, 2, none⟩ = some (.int .i64 0) := r2
    have frd : ∀ j, V4.frozen? ⟨w.heap.size, j, none⟩ = false := fr
    obtain ⟨Y1, hY⟩ : ∃ Y, Y = (((V4.setCell ⟨w.heap.size, 0, none⟩ (.int .i64 P)).setCell ⟨w.heap.size, 1, none⟩ (.int .i64 Q)).setCell ⟨w.heap.size, 2, none⟩ (.int .i64 G)).drew := ⟨_, rfl⟩
    have hYG := hY
    replace hY : Y1 = ((V4.drew.setCell ⟨w.heap.size, 0, none⟩ (.int .i64 P)).setCell ⟨w.heap.size, 1, none⟩ (.int .i64 Q)).setCell ⟨w.heap.size, 2, none⟩ (.int .i64 G) := by rw [hY]; first | rfl | simp [go_sem]
    have hYl : Within (w.heap.size) (w.heap.size + 1) V4.drew Y1 := by rw [hY]; exact ((((Within.refl (w.heap.size) (w.heap.size + 1) V4.drew).setCell (b := w.heap.size) (by omega) (by omega) 0 (.int .i64 P)).setCell (b := w.heap.size) (by omega) (by omega) 1 (.int .i64 Q)).setCell (b := w.heap.size) (by omega) (by omega) 2 (.int .i64 G))
    have HYW : Hid (Within w.heap.size (w.heap.size + 3) V4.drew Y1) := hYl.mono (by omega) (by omega)
    have HYB : Hid (Below w.heap.size w Y1) := hYl.belowU (HW.out.belowOf HBW.out (by omega)) (by omega)
    have HCS : Hid (∀ w', Within w.heap.size (w.heap.size + 3) V4.drew w' → w'.cell? ⟨u1.heap.size, 0, none⟩ = some (.int .i64 P) ∧ w'.cell? ⟨u1.heap.size, 1, none⟩ = some (.int .i64 Q) ∧ w'.cell? ⟨u1.heap.size, 2, none⟩ = some (.int .i64 G) ∧ w'.cell? ⟨u3.heap.size, 0, none⟩ = some (.slice a3a n3a_ c3a) ∧ w'.cell? ⟨u3.heap.size, 1, none⟩ = some (.slice a3b n3b_ c3b) ∧ w'.cell? ⟨u3.heap.size, 2, none⟩ = some (.slice a3c n3c_ c3c)) := fun w' h => ⟨within_at h z_3_0 (by omega), within_at h z_3_1 (by omega), within_at h z_3_2 (by omega), within_at h z_4_0 (by omega), within_at h z_4_1 (by omega), within_at h z_4_2 (by omega)⟩
    go_simp
    refine hK.out _ _ ?_ (fun _ => ?_)
    · rw [← hYG]; exact HCS.out _ HYW.out
    rw [← hYG]
    clear hK K fr r0 r1 r2
    replace HX0 : Hid (BoxN Y1 w.heap.size 24 [.int .i64 P, .int .i64 Q, .int .i64 G]) := by unfold Hid; rw [hY]; exact (((HX0.out.set 0 (.int .i64 P)).set 1 (.int .i64 Q)).set 2 (.int .i64 G))
    replace HX1 := Lib.hid (HX1.out.kept hYl (by omega))
    replace HX2 := Lib.hid (HX2.out.kept hYl (by omega))
    clear hYG frd q0 q1 q2
    clear hY hYl
    (try simp only [Act.put, List.setIfInBounds_toArray, List.set_cons_zero, List.set_cons_succ])
    clear z_3_0 z_3_1 z_3_2 z_4_0 z_4_1 z_4_2
    obtain ⟨z_3_0, z_3_1, z_3_2, z_4_0, z_4_1, z_4_2⟩ := HCS.out _ HYW.out
    refine wpV_do (by kernel_rfl) (fun K hK => ?_)
    -- 5: load
    go_simp
    refine hK.out _ _ ⟨z_3_0, z_3_1, z_3_2, z_4_0, z_4_1, z_4_2⟩ (fun _ => ?_)
    clear hK K
    (try simp only [Act.put, List.setIfInBounds_toArray, List.set_cons_zero, List.set_cons_succ])
    refine wpV_do (by kernel_rfl) (fun K hK => ?_)
    -- 6: store
    have r0 := HX1.out.cell (i := 0) rfl
    have r1 := HX1.out.cell (i := 1) rfl
    have r2 := HX1.out.cell (i := 2) rfl
    have fr := fun j => HX1.out.frozen j
    obtain ⟨Y2, hY⟩ : ∃ Y, Y = ((Y1.setCell ⟨w.heap.size + 1, 0, none⟩ (.slice a3a n3a_ c3a)).setCell ⟨w.heap.size + 1, 1, none⟩ (.slice a3b n3b_ c3b)).setCell ⟨w.heap.size + 1, 2, none⟩ (.slice a3c n3c_ c3c) := ⟨_, rfl⟩
    have hYl : Within (w.heap.size + 1) (w.heap.size + 1 + 1) Y1 Y2 := by rw [hY]; exact ((((Within.refl (w.heap.size + 1) (w.heap.size + 1 + 1) Y1).setCell (b := w.heap.size + 1) (by omega) (by omega) 0 (.slice a3a n3a_ c3a)).setCell (b := w.heap.size + 1) (by omega) (by omega) 1 (.slice a3b n3b_ c3b)).setCell (b := w.heap.size + 1) (by omega) (by omega) 2 (.slice a3c n3c_ c3c))
    replace HYW := Lib.hid (HYW.out.trans (hYl.mono (by omega) (by omega)))
    replace HYB := Lib.hid (hYl.belowU HYB.out (by omega))
    go_simp
    refine hK.out _ _ ?_ (fun _ => ?_)
    · rw [← hY]; exact HCS.out _ HYW.out
    rw [← hY]
    clear hK K fr r0 r1 r2
    replace HX1 : Hid (BoxN Y2 (w.heap.size + 1) 47 [.slice a3a n3a_ c3a, .slice a3b n3b_ c3b, .slice a3c n3c_ c3c]) := by unfold Hid; rw [hY]; exact (((HX1.out.set 0 (.slice a3a n3a_ c3a)).set 1 (.slice a3b n3b_ c3b)).set 2 (.slice a3c n3c_ c3c))
    replace HX0 := Lib.hid (HX0.out.kept hYl (by omega))
    replace HX2 := Lib.hid (HX2.out.kept hYl (by omega))
    clear hY hYl
    (try simp only [Act.put, List.setIfInBounds_toArray, List.set_cons_zero, List.set_cons_succ])
    clear z_3_0 z_3_1 z_3_2 z_4_0 z_4_1 z_4_2
    obtain ⟨z_3_0, z_3_1, z_3_2, z_4_0, z_4_1, z_4_2⟩ := HCS.out _ HYW.out
    refine wpV_do (by kernel_rfl) (fun K hK => ?_)
    -- 7: store
    have r0 := HX2.out.cell (i := 0) rfl
    have r1 := HX2.out.cell (i := 1) rfl
    have r2 := HX2.out.cell (i := 2) rfl
    have fr := fun j => HX2.out.frozen j
    obtain ⟨Y3, hY⟩ : ∃ Y, Y = ((Y2.setCell ⟨w.heap.size + 1 + 1, 0, none⟩ (.slice a3a n3a_ c3a)).setCell ⟨w.heap.size + 1 + 1, 1, none⟩ (.slice a3b n3b_ c3b)).setCell ⟨w.heap.size + 1 + 1, 2, none⟩ (.slice a3c n3c_ c3c) := ⟨_, rfl⟩
    have hYl : Within (w.heap.size + 1 + 1) (w.heap.size + 1 + 1 + 1) Y2 Y3 := by rw [hY]; exact ((((Within.refl (w.heap.size + 1 + 1) (w.heap.size + 1 + 1 + 1) Y2).setCell (b := w.heap.size + 1 + 1) (by omega) (by omega) 0 (.slice a3a n3a_ c3a)).setCell (b := w.heap.size + 1 + 1) (by omega) (by omega) 1 (.slice a3b n3b_ c3b)).setCell (b := w.heap.size + 1 + 1) (by omega) (by omega) 2 (.slice a3c n3c_ c3c))
    replace HYW := Lib.hid (HYW.out.trans (hYl.mono (by omega) (by omega)))
    replace HYB := Lib.hid (hYl.belowU HYB.out (by omega))
    go_simp
    refine hK.out _ _ ?_ (fun _ => ?_)
    · rw [← hY]; exact HCS.out _ HYW.out
    rw [← hY]
    clear hK K fr r0 r1 r2
    replace HX2 : Hid (BoxN Y3 (w.heap.size + 1 + 1) 47 [.slice a3a n3a_ c3a, .slice a3b n3b_ c3b, .slice a3c n3c_ c3c]) := by unfold Hid; rw [hY]; exact (((HX2.out.set 0 (.slice a3a n3a_ c3a)).set 1 (.slice a3b n3b_ c3b)).set 2 (.slice a3c n3c_ c3c))
    replace HX0 := Lib.hid (HX0.out.kept hYl (by omega))
    replace HX1 := Lib.hid (HX1.out.kept hYl (by omega))
    clear hY hYl
    (try simp only [Act.put, List.setIfInBounds_toArray, List.set_cons_zero, List.set_cons_succ])
    clear z_3_0 z_3_1 z_3_2 z_4_0 z_4_1 z_4_2
    obtain ⟨z_3_0, z_3_1, z_3_2, z_4_0, z_4_1, z_4_2⟩ := HCS.out _ HYW.out
    refine wpV_done ?_
    go_wp2_with fail
    refine NoPanic.normal ?_
    clear z_3_0 z_3_1 z_3_2 z_4_0 z_4_1 z_4_2
    have t_HX0_0 := HX0.out.cell (i := 0) rfl
    have t_HX0_1 := HX0.out.cell (i := 1) rfl
    have t_HX0_2 := HX0.out.cell (i := 2) rfl
    have t_HX1_0 := HX1.out.cell (i := 0) rfl
    have t_HX1_1 := HX1.out.cell (i := 1) rfl
    have t_HX1_2 := HX1.out.cell (i := 2) rfl
    have t_HX2_0 := HX2.out.cell (i := 0) rfl
    have t_HX2_1 := HX2.out.cell (i := 1) rfl
    have t_HX2_2 := HX2.out.cell (i := 2) rfl
    try (go_wp2_with fail)
    refine bodyPost_ret (v := .tuple #[.agg #[.int .i64 P, .int .i64 Q, .int .i64 G], .slice a1c n1c c1c, .agg #[.slice a3a n3a_ c3a, .slice a3b n3b_ c3b, .slice a3c n3c_ c3c], .agg #[.slice a3a n3a_ c3a, .slice a3b n3b_ c3b, .slice a3c n3c_ c3c]]) (by simp [results, Try.results26, go_sem, t_HX0_0, t_HX0_1, t_HX0_2, t_HX1_0, t_HX1_1, t_HX1_2, t_HX2_0, t_HX2_1, t_HX2_2]) rfl ⟨⟨_, _, _, _, _, _, _, _, _, _, _, _, _, _, _, _, _, rfl, HGR.out, ⟨(HL1c.out.within HYW.out (by omega)).here, by have := HE1c.out; omega⟩, ⟨(HL3a.out.within HYW.out (by omega)).here, by have := HE3a.out; omega⟩, ⟨(HL3b.out.within HYW.out (by omega)).here, by have := HE3b.out; omega⟩, ⟨(HL3c.out.within HYW.out (by omega)).here, by have := HE3c.out; omega⟩, ⟨(HL3a.out.within HYW.out (by omega)).here, by have := HE3a.out; omega⟩, ⟨(HL3b.out.within HYW.out (by omega)).here, by have := HE3b.out; omega⟩, ⟨(HL3c.out.within HYW.out (by omega)).here, by have := HE3c.out; omega⟩⟩, HYB.out⟩
  | true =>
    have z_0_0 := HX0.out.cell (i := 0) rfl
    have z_0_1 := HX0.out.cell (i := 1) rfl
    have z_0_2 := HX0.out.cell (i := 2) rfl
    have z_1_0 := HX1.out.cell (i := 0) rfl
    have z_1_1 := HX1.out.cell (i := 1) rfl
    have z_1_2 := HX1.out.cell (i := 2) rfl
    have z_2_0 := HX2.out.cell (i := 0) rfl
    have z_2_1 := HX2.out.cell (i := 1) rfl
    have z_2_2 := HX2.out.cell (i := 2) rfl
    have z_3_0 := HZ1.out.cell (i := 0) rfl
    have z_3_1 := HZ1.out.cell (i := 1) rfl
    have z_3_2 := HZ1.out.cell (i := 2) rfl
    have lt_HX0 := HX0.out.lt
    have lt_HX1 := HX1.out.lt
    have lt_HX2 := HX2.out.lt
    have lt_HZ1 := HZ1.out.lt
    obtain ⟨V4, hV⟩ : ∃ V, V = u3.alloc (.cells #[.slice a3a n3a_ c3a, .slice a3b n3b_ c3b, .slice a3c n3c_ c3c] 47) := ⟨_, rfl⟩
    have hbV : Below u3.heap.size u3 V4 := by rw [hV]; (repeat (first | exact Below.refl _ _ | assumption | refine Below.drew ?_ | refine Below.alloc ?_ (by first | (simp; done) | (simp; omega)) _ | refine Below.setCell ?_ (by first | (simp; done) | (simp; omega)) _))
    have HZ2 : Hid (BoxN V4 u3.heap.size 47 [.slice a3a n3a_ c3a, .slice a3b n3b_ c3b, .slice a3c n3c_ c3c]) := by unfold Hid; rw [hV]; have h := (BoxN.new u3 [.slice a3a n3a_ c3a, .slice a3b n3b_ c3b, .slice a3c n3c_ c3c] 47); simpa using h
    have hgc : g < u3.heap.size := HC.out.lt
    go_wp2_with fail
    rw [← hV]
    have hsV4 : V4.heap.size = u3.heap.size + 1 := by rw [hV]; simp
    clear hV hgc
    replace HX0 := Lib.hid (HX0.out.below hbV)
    replace HX1 := Lib.hid (HX1.out.below hbV)
    replace HX2 := Lib.hid (HX2.out.below hbV)
    replace HZ1 := Lib.hid (HZ1.out.below hbV)
    replace HL1c := Lib.hid (HL1c.out.below hbV)
    replace HL1f := Lib.hid (HL1f.out.below hbV)
    replace HL3a := Lib.hid (HL3a.out.below hbV)
    replace HL3b := Lib.hid (HL3b.out.below hbV)
    replace HL3c := Lib.hid (HL3c.out.below hbV)
    replace HW := Lib.hid (HW.out.trans (Within.of_below hbV))
    replace HC := Lib.hid (HC.out.keep hbV)
    clear hbV
    clear z_0_0 z_0_1 z_0_2 z_1_0 z_1_1 z_1_2 z_2_0 z_2_1 z_2_2 z_3_0 z_3_1 z_3_2
    clear lt_HX0
    clear lt_HX1
    clear lt_HX2
    clear lt_HZ1
    have hk1 := (ooB_parts Hq3q.out).2.2.2.1
    have hm1 := HMa.out Hq3q.out
    have hm2 := HMb.out Hq3q.out
    have hm3 := HMc.out Hq3q.out
    clear HMa HMb HMc
    obtain ⟨kk, hkk⟩ := Int.eq_ofNat_of_zero_le hk1.1
    clear hk1
    subst hkk
    rw [Int.toNat_natCast] at hm1 hm2 hm3
    have hgb : g < V4.heap.size := HC.out.lt
    replace HL1c : Hid (SinceT _ V4.heap.size V4 _) := SinceT.of HL1c.out (Below.refl _ _) ⟨Nat.le_refl _, Nat.le_refl _⟩
    replace HL1f : Hid (SinceT _ V4.heap.size V4 _) := SinceT.of HL1f.out (Below.refl _ _) ⟨Nat.le_refl _, Nat.le_refl _⟩
    replace HL3a : Hid (SinceT _ V4.heap.size V4 _) := SinceT.of HL3a.out (Below.refl _ _) ⟨Nat.le_refl _, Nat.le_refl _⟩
    replace HL3b : Hid (SinceT _ V4.heap.size V4 _) := SinceT.of HL3b.out (Below.refl _ _) ⟨Nat.le_refl _, Nat.le_refl _⟩
    replace HL3c : Hid (SinceT _ V4.heap.size V4 _) := SinceT.of HL3c.out (Below.refl _ _) ⟨Nat.le_refl _, Nat.le_refl _⟩
    have z_0_0 := HX0.out.cell (i := 0) rfl
    have z_0_1 := HX0.out.cell (i := 1) rfl
    have z_0_2 := HX0.out.cell (i := 2) rfl
    have z_1_0 := HX1.out.cell (i := 0) rfl
    have z_1_1 := HX1.out.cell (i := 1) rfl
    have z_1_2 := HX1.out.cell (i := 2) rfl
    have z_2_0 := HX2.out.cell (i := 0) rfl
    have z_2_1 := HX2.out.cell (i := 1) rfl
    have z_2_2 := HX2.out.cell (i := 2) rfl
    have z_3_0 := HZ1.out.cell (i := 0) rfl
    have z_3_1 := HZ1.out.cell (i := 1) rfl
    have z_3_2 := HZ1.out.cell (i := 2) rfl
    have z_4_0 := HZ2.out.cell (i := 0) rfl
    have z_4_1 := HZ2.out.cell (i := 1) rfl
    have z_4_2 := HZ2.out.cell (i := 2) rfl
    try (go_wp2_with fail)
    refine wp_region_noPanic ?_
    refine wp_region_Q (Within g (g + 1)) (DrawS U V4 g _ 1000000000 (fun w' => w'.cell? ⟨u1.heap.size, 0, none⟩ = some (.int .i64 P) ∧ w'.cell? ⟨u1.heap.size, 1, none⟩ = some (.int .i64 Q) ∧ w'.cell? ⟨u1.heap.size, 2, none⟩ = some (.int .i64 G) ∧ w'.cell? ⟨u3.heap.size, 0, none⟩ = some (.slice a3a n3a_ c3a) ∧ w'.cell? ⟨u3.heap.size, 1, none⟩ = some (.slice a3b n3b_ c3b) ∧ w'.cell? ⟨u3.heap.size, 2, none⟩ = some (.slice a3c n3c_ c3c))) 14 [(0, []), (1, [0]), (2, [0]), (3, []), (4, [0]), (5, [0]), (6, []), (7, [0]), (8, [0]), (9, [6, 3, 0]), (10, [])] [11] (by kernel_rfl) (by kernel_rfl) (by kernel_rfl) rfl (fun _ _ _ _ h => h) (DrawS.good _ _ _ _ _ _) ⟨(Within.refl _ _ _).drew, by simpa using HC.out.keep (Below.refl _ _).drew, ⟨box_at z_3_0 (Below.refl _ _).drew, box_at z_3_1 (Below.refl _ _).drew, box_at z_3_2 (Below.refl _ _).drew, box_at z_4_0 (Below.refl _ _).drew, box_at z_4_1 (Below.refl _ _).drew, box_at z_4_2 (Below.refl _ _).drew⟩⟩ ?_
    simp only [pickP, pickN, List.getElem?_cons_zero, List.getElem?_cons_succ]
    iterate 2 (refine' chainQ_read (DrawS.good _ _ _ _ _ _) _ rfl rfl (fun m w' hm' hS' => ?_) ?_; rotate_left; · (simp only [lookP, allP, Act.put, List.getElem?_cons_zero, List.getElem?_cons_succ, List.setIfInBounds_toArray, List.set_cons_zero, List.set_cons_succ]; (try dsimp only [DrawS] at hS'); go_simp; (try with_reducible rfl)))
    -- 2: call { callee := value (func 113), args := #[t46], argTypes := #[43] }
    refine chainQ_do (d := (some 47)) (fun v z => ∃ (a : Option Addr) (c : Nat), v = .slice a l3a.length c ∧ OwnI z V4.heap.size (.slice a l3a.length c) l3a) (fun v w1 w2 hw h => by obtain ⟨a, c, e, h1⟩ := h; exact ⟨a, c, e, h1.within hw (by omega)⟩) rfl rfl (fun m w' hm' hS' => ?_) ?_
    · simp only [lookP, allP, Act.put, List.getElem?_cons_zero, List.getElem?_cons_succ, List.setIfInBounds_toArray, List.set_cons_zero, List.set_cons_succ]
      intro K hK
      replace hm' : m < 11 := hm'
      go_simp
      go_at_call 113
      refine (spec_l1Own _ l3a _ (HL3a.out.within hS'.1 (by omega)).here (by have := HE3a.out; omega)).mono ?_
      rintro e z ⟨v, rfl, ho, hbz⟩
      obtain ⟨a, c, rfl⟩ := ho.shape
      have hsz0 := hS'.1.size
      have hw := (Within.of_below hbz : Within g (g + 1) _ _)
      exact hK.out _ _ hw ⟨hS'.1.trans hw, (hS'.2.1.keep hbz).mono (by omega), ⟨within_at (hS'.1.trans hw) z_3_0 (.inr (by omega)), within_at (hS'.1.trans hw) z_3_1 (.inr (by omega)), within_at (hS'.1.trans hw) z_3_2 (.inr (by omega)), within_at (hS'.1.trans hw) z_4_0 (.inr (by omega)), within_at (hS'.1.trans hw) z_4_1 (.inr (by omega)), within_at (hS'.1.trans hw) z_4_2 (.inr (by omega))⟩⟩ ⟨a, c, rfl, ho.mono (by omega)⟩
    iterate 2 (refine' chainQ_read (DrawS.good _ _ _ _ _ _) _ rfl rfl (fun m w' hm' hS' => ?_) ?_; rotate_left; · (simp only [lookP, allP, Act.put, List.getElem?_cons_zero, List.getElem?_cons_succ, List.setIfInBounds_toArray, List.set_cons_zero, List.set_cons_succ]; (try dsimp only [DrawS] at hS'); go_simp; (try with_reducible rfl)))
    -- 5: call { callee := value (func 113), args := #[t49], argTypes := #[43] }
    refine chainQ_do (d := (some 50)) (fun v z => ∃ (a : Option Addr) (c : Nat), v = .slice a l3b.length c ∧ OwnI z V4.heap.size (.slice a l3b.length c) l3b) (fun v w1 w2 hw h => by obtain ⟨a, c, e, h1⟩ := h; exact ⟨a, c, e, h1.within hw (by omega)⟩) rfl rfl (fun m w' hm' hS' => ?_) ?_
    · simp only [lookP, allP, Act.put, List.getElem?_cons_zero, List.getElem?_cons_succ, List.setIfInBounds_toArray, List.set_cons_zero, List.set_cons_succ]
      intro K hK
      replace hm' : m < 11 := hm'
      go_simp
      go_at_call 113
      refine (spec_l1Own _ l3b _ (HL3b.out.within hS'.1 (by omega)).here (by have := HE3b.out; omega)).mono ?_
      rintro e z ⟨v, rfl, ho, hbz⟩
      obtain ⟨a, c, rfl⟩ := ho.shape
      have hsz0 := hS'.1.size
      have hw := (Within.of_below hbz : Within g (g + 1) _ _)
      exact hK.out _ _ hw ⟨hS'.1.trans hw, (hS'.2.1.keep hbz).mono (by omega), ⟨within_at (hS'.1.trans hw) z_3_0 (.inr (by omega)), within_at (hS'.1.trans hw) z_3_1 (.inr (by omega)), within_at (hS'.1.trans hw) z_3_2 (.inr (by omega)), within_at (hS'.1.trans hw) z_4_0 (.inr (by omega)), within_at (hS'.1.trans hw) z_4_1 (.inr (by omega)), within_at (hS'.1.trans hw) z_4_2 (.inr (by omega))⟩⟩ ⟨a, c, rfl, ho.mono (by omega)⟩
    iterate 2 (refine' chainQ_read (DrawS.good _ _ _ _ _ _) _ rfl rfl (fun m w' hm' hS' => ?_) ?_; rotate_left; · (simp only [lookP, allP, Act.put, List.getElem?_cons_zero, List.getElem?_cons_succ, List.setIfInBounds_toArray, List.set_cons_zero, List.set_cons_succ]; (try dsimp only [DrawS] at hS'); go_simp; (try with_reducible rfl)))
    -- 8: call { callee := value (func 113), args := #[t52], argTypes := #[43] }
    refine chainQ_do (d := (some 53)) (fun v z => ∃ (a : Option Addr) (c : Nat), v = .slice a l3c.length c ∧ OwnI z V4.heap.size (.slice a l3c.length c) l3c) (fun v w1 w2 hw h => by obtain ⟨a, c, e, h1⟩ := h; exact ⟨a, c, e, h1.within hw (by omega)⟩) rfl rfl (fun m w' hm' hS' => ?_) ?_
    · simp only [lookP, allP, Act.put, List.getElem?_cons_zero, List.getElem?_cons_succ, List.setIfInBounds_toArray, List.set_cons_zero, List.set_cons_succ]
      intro K hK
      replace hm' : m < 11 := hm'
      go_simp
      go_at_call 113
      refine (spec_l1Own _ l3c _ (HL3c.out.within hS'.1 (by omega)).here (by have := HE3c.out; omega)).mono ?_
      rintro e z ⟨v, rfl, ho, hbz⟩
      obtain ⟨a, c, rfl⟩ := ho.shape
      have hsz0 := hS'.1.size
      have hw := (Within.of_below hbz : Within g (g + 1) _ _)
      exact hK.out _ _ hw ⟨hS'.1.trans hw, (hS'.2.1.keep hbz).mono (by omega), ⟨within_at (hS'.1.trans hw) z_3_0 (.inr (by omega)), within_at (hS'.1.trans hw) z_3_1 (.inr (by omega)), within_at (hS'.1.trans hw) z_3_2 (.inr (by omega)), within_at (hS'.1.trans hw) z_4_0 (.inr (by omega)), within_at (hS'.1.trans hw) z_4_1 (.inr (by omega)), within_at (hS'.1.trans hw) z_4_2 (.inr (by omega))⟩⟩ ⟨a, c, rfl, ho.mono (by omega)⟩
    -- 9: build 47 #[(0, t47), (1, t50), (2, t53)]
    refine chainQ_have (DrawS.good _ _ _ _ _ _) (d := (some 54)) (fun v z => ∃ (a1 : Option Addr) (c1 : Nat) (a2 : Option Addr) (c2 : Nat) (a3 : Option Addr) (c3 : Nat), v = .agg #[.slice a1 l3a.length c1, .slice a2 l3b.length c2, .slice a3 l3c.length c3] ∧ OwnI z V4.heap.size (.slice a1 l3a.length c1) l3a ∧ OwnI z V4.heap.size (.slice a2 l3b.length c2) l3b ∧ OwnI z V4.heap.size (.slice a3 l3c.length c3) l3c) (fun v w1 w2 hw h => by obtain ⟨a1, c1, a2, c2, a3, c3, e, h1, h2, h3⟩ := h; exact ⟨a1, c1, a2, c2, a3, c3, e, h1.within hw (by omega), h2.within hw (by omega), h3.within hw (by omega)⟩) rfl rfl (fun m w' hm' hS' => ?_) ?_
    · simp only [lookP, allP, Act.put, List.getElem?_cons_zero, List.getElem?_cons_succ, List.setIfInBounds_toArray, List.set_cons_zero, List.set_cons_succ]
      intro x2 hx2
      intro x5 hx5
      intro x8 hx8
      obtain ⟨a1, c1, rfl, o1⟩ := hx2
      obtain ⟨a2, c2, rfl, o2⟩ := hx5
      obtain ⟨a3, c3, rfl, o3⟩ := hx8
      refine ⟨.agg #[.slice a1 l3a.length c1, .slice a2 l3b.length c2, .slice a3 l3c.length c3], ?_, a1, c1, a2, c2, a3, c3, rfl, o1, o2, o3⟩
      go_simp
    -- 10: alloc 47
    refine chainQ_do (d := (some 15)) (fun v z => ∃ bz : Nat, v = .pointer (some ⟨bz, 0, none⟩) ∧ V4.heap.size ≤ bz ∧ BoxN z bz 47 [.slice none 0 0, .slice none 0 0, .slice none 0 0]) (fun v w1 w2 hw h => by obtain ⟨bz, e, h1, h2⟩ := h; exact ⟨bz, e, h1, h2.kept hw (.inr (by omega))⟩) rfl rfl (fun m w' hm' hS' => ?_) ?_
    · simp only [lookP, allP, Act.put, List.getElem?_cons_zero, List.getElem?_cons_succ, List.setIfInBounds_toArray, List.set_cons_zero, List.set_cons_succ]
      intro K hK
      replace hm' : m < 11 := hm'
      go_simp
      have hbn := (Below.refl w'.heap.size w').alloc (Nat.le_refl _) (.cells #[.slice none 0 0, .slice none 0 0, .slice none 0 0] 47)
      have hw := (Within.of_below hbn : Within g (g + 1) _ _)
      have hsz0 := hS'.1.size
      refine hK.out _ _ hw ⟨hS'.1.trans hw, (hS'.2.1.keep hbn).mono (by omega), ⟨within_at (hS'.1.trans hw) z_3_0 (.inr (by omega)), within_at (hS'.1.trans hw) z_3_1 (.inr (by omega)), within_at (hS'.1.trans hw) z_3_2 (.inr (by omega)), within_at (hS'.1.trans hw) z_4_0 (.inr (by omega)), within_at (hS'.1.trans hw) z_4_1 (.inr (by omega)), within_at (hS'.1.trans hw) z_4_2 (.inr (by omega))⟩⟩ ?_
      exact ⟨w'.heap.size, rfl, by omega, BoxN.new w' [.slice none 0 0, .slice none 0 0, .slice none 0 0] _⟩
    refine chainQ_nil (fun u5 hS' => ?_)
    simp only [allP, Act.put, List.setIfInBounds_toArray, List.set_cons_zero, List.set_cons_succ]
    intro x10 hx10
    intro x9 hx9
    intro x8 hx8
    intro x5 hx5
    intro x2 hx2
    replace hS' : DrawS U V4 g _ 1000000000 _ 11 u5 := hS'
    obtain ⟨hw, hc, hC⟩ := hS'
    have hsz5 := hw.size
    replace HX0 := Lib.hid (HX0.out.kept hw (.inl (by omega)))
    replace HX1 := Lib.hid (HX1.out.kept hw (.inl (by omega)))
    replace HX2 := Lib.hid (HX2.out.kept hw (.inl (by omega)))
    replace HZ1 := Lib.hid (HZ1.out.kept hw (.inr (by omega)))
    replace HZ2 := Lib.hid (HZ2.out.kept hw (.inr (by omega)))
    replace HL1c := Lib.hid (HL1c.out.within hw (by omega))
    replace HL1f := Lib.hid (HL1f.out.within hw (by omega))
    replace HL3a := Lib.hid (HL3a.out.within hw (by omega))
    replace HL3b := Lib.hid (HL3b.out.within hw (by omega))
    replace HL3c := Lib.hid (HL3c.out.within hw (by omega))
    replace HW := Lib.hid (HW.out.trans hw)
    replace HC := Lib.hid hc
    clear hc hw hC
    clear z_0_0 z_0_1 z_0_2 z_1_0 z_1_1 z_1_2 z_2_0 z_2_1 z_2_2 z_3_0 z_3_1 z_3_2 z_4_0 z_4_1 z_4_2
    obtain ⟨bz, rfl, hbz, hz⟩ := hx10
    obtain ⟨a1, c1, a2, c2, a3, c3, rfl, o1, o2, o3⟩ := hx9
    have HZe := Lib.hid hz
    clear hz
    clear hx2
    clear hx5
    clear hx8
    rw [HE3a.out] at o1
    rw [HE3b.out] at o2
    rw [HE3c.out] at o3
    rw [HE3a.out, HE3b.out, HE3c.out]
    have HLra := Lib.hid o1
    clear o1
    have HLrb := Lib.hid o2
    clear o2
    have HLrc := Lib.hid o3
    clear o3
    have apa := HLra.out.apart HZe.out (by decide)
    have apb := HLrb.out.apart HZe.out (by decide)
    have apc := HLrc.out.apart HZe.out (by decide)
    have z_0_0 := HX0.out.cell (i := 0) rfl
    have z_0_1 := HX0.out.cell (i := 1) rfl
    have z_0_2 := HX0.out.cell (i := 2) rfl
    have z_1_0 := HX1.out.cell (i := 0) rfl
    have z_1_1 := HX1.out.cell (i := 1) rfl
    have z_1_2 := HX1.out.cell (i := 2) rfl
    have z_2_0 := HX2.out.cell (i := 0) rfl
    have z_2_1 := HX2.out.cell (i := 1) rfl
    have z_2_2 := HX2.out.cell (i := 2) rfl
    have z_3_0 := HZ1.out.cell (i := 0) rfl
    have z_3_1 := HZ1.out.cell (i := 1) rfl
    have z_3_2 := HZ1.out.cell (i := 2) rfl
    have z_4_0 := HZ2.out.cell (i := 0) rfl
    have z_4_1 := HZ2.out.cell (i := 1) rfl
    have z_4_2 := HZ2.out.cell (i := 2) rfl
    have z_5_0 := HZe.out.cell (i := 0) rfl
    have z_5_1 := HZe.out.cell (i := 1) rfl
    have z_5_2 := HZe.out.cell (i := 2) rfl
    have frm := fun j => HZe.out.frozen j
    have ltm := HZe.out.lt
    go_wp2_with fail
    refine NoPanic.normal ?_
    obtain ⟨Y6, hY⟩ : ∃ Y, Y = ((u5.setCell ⟨bz, 0, none⟩ (.slice a1 n3a_ c1)).setCell ⟨bz, 1, none⟩ (.slice a2 n3b_ c2)).setCell ⟨bz, 2, none⟩ (.slice a3 n3c_ c3) := ⟨_, rfl⟩
    have hYl : Within (bz) (bz + 1) u5 Y6 := by rw [hY]; exact ((((Within.refl (bz) (bz + 1) u5).setCell (b := bz) (by omega) (by omega) 0 (.slice a1 n3a_ c1)).setCell (b := bz) (by omega) (by omega) 1 (.slice a2 n3b_ c2)).setCell (b := bz) (by omega) (by omega) 2 (.slice a3 n3c_ c3))
    have hszY6 := hYl.size
    have NHZe : Hid (BoxN Y6 bz 47 [.slice a1 n3a_ c1, .slice a2 n3b_ c2, .slice a3 n3c_ c3]) := by unfold Hid; rw [hY]; exact (((HZe.out.set 0 (.slice a1 n3a_ c1)).set 1 (.slice a2 n3b_ c2)).set 2 (.slice a3 n3c_ c3))
    have NC := Lib.hid (((HC.out.setNew (b := bz) (by omega) 0 (.slice a1 n3a_ c1)).setNew (b := bz) (by omega) 1 (.slice a2 n3b_ c2)).setNew (b := bz) (by omega) 2 (.slice a3 n3c_ c3))
    rw [← hY] at NC
    have NW := Lib.hid (((HW.out.setNew (b := bz) (by omega) 0 (.slice a1 n3a_ c1)).setNew (b := bz) (by omega) 1 (.slice a2 n3b_ c2)).setNew (b := bz) (by omega) 2 (.slice a3 n3c_ c3))
    rw [← hY] at NW
    replace HX0 := Lib.hid (HX0.out.kept hYl (by omega))
    replace HX1 := Lib.hid (HX1.out.kept hYl (by omega))
    replace HX2 := Lib.hid (HX2.out.kept hYl (by omega))
    replace HZ1 := Lib.hid (HZ1.out.kept hYl (by omega))
    replace HZ2 := Lib.hid (HZ2.out.kept hYl (by omega))
    replace HL1c := Lib.hid (HL1c.out.within hYl (by omega))
    replace HL1f := Lib.hid (HL1f.out.within hYl (by omega))
    replace HL3a := Lib.hid (HL3a.out.within hYl (by omega))
    replace HL3b := Lib.hid (HL3b.out.within hYl (by omega))
    replace HL3c := Lib.hid (HL3c.out.within hYl (by omega))
    replace HLra := Lib.hid (HLra.out.outside apa hYl)
    replace HLrb := Lib.hid (HLrb.out.outside apb hYl)
    replace HLrc := Lib.hid (HLrc.out.outside apc hYl)
    rw [← hY]
    clear apa apb apc hY hYl frm ltm HZe HC HW
    have HZe := NHZe
    have HC := NC
    have HW := NW
    clear NHZe NC NW
    clear z_0_0 z_0_1 z_0_2 z_1_0 z_1_1 z_1_2 z_2_0 z_2_1 z_2_2 z_3_0 z_3_1 z_3_2 z_4_0 z_4_1 z_4_2 z_5_0 z_5_1 z_5_2
    have HEra : Hid (l3a.length = n3a_) := HE3a
    have HErb : Hid (l3b.length = n3b_) := HE3b
    have HErc : Hid (l3c.length = n3c_) := HE3c
    have hkn0 : kk < n3a_ := by have := HE3a.out; omega
    have hkn1 : kk < n3b_ := by have := HE3b.out; omega
    have hkn2 : kk < n3c_ := by have := HE3c.out; omega
    have z_0_0 := HX0.out.cell (i := 0) rfl
    have z_0_1 := HX0.out.cell (i := 1) rfl
    have z_0_2 := HX0.out.cell (i := 2) rfl
    have z_1_0 := HX1.out.cell (i := 0) rfl
    have z_1_1 := HX1.out.cell (i := 1) rfl
    have z_1_2 := HX1.out.cell (i := 2) rfl
    have z_2_0 := HX2.out.cell (i := 0) rfl
    have z_2_1 := HX2.out.cell (i := 1) rfl
    have z_2_2 := HX2.out.cell (i := 2) rfl
    have z_3_0 := HZ1.out.cell (i := 0) rfl
    have z_3_1 := HZ1.out.cell (i := 1) rfl
    have z_3_2 := HZ1.out.cell (i := 2) rfl
    have z_4_0 := HZ2.out.cell (i := 0) rfl
    have z_4_1 := HZ2.out.cell (i := 1) rfl
    have z_4_2 := HZ2.out.cell (i := 2) rfl
    have z_5_0 := HZe.out.cell (i := 0) rfl
    have z_5_1 := HZe.out.cell (i := 1) rfl
    have z_5_2 := HZe.out.cell (i := 2) rfl
    try (go_wp2_with fail)
    clear z_0_0 z_0_1 z_0_2 z_1_0 z_1_1 z_1_2 z_2_0 z_2_1 z_2_2 z_3_0 z_3_1 z_3_2 z_4_0 z_4_1 z_4_2 z_5_0 z_5_1 z_5_2
    refine (spec_expo U g _ P Q G _ HC.out (HW.out.belowOf HUC.out (Nat.le_of_eq HUS.out)) (by omega) HGR.out).mono ?_
    rintro e u7 ⟨⟨x7, rfl, x7l, x7u⟩, hc, hw⟩
    have hsz7 := hw.size
    replace HX0 := Lib.hid (HX0.out.kept hw (.inl (by omega)))
    replace HX1 := Lib.hid (HX1.out.kept hw (.inl (by omega)))
    replace HX2 := Lib.hid (HX2.out.kept hw (.inl (by omega)))
    replace HZ1 := Lib.hid (HZ1.out.kept hw (.inr (by omega)))
    replace HZ2 := Lib.hid (HZ2.out.kept hw (.inr (by omega)))
    replace HZe := Lib.hid (HZe.out.kept hw (.inr (by omega)))
    replace HL1c := Lib.hid (HL1c.out.within hw (by omega))
    replace HL1f := Lib.hid (HL1f.out.within hw (by omega))
    replace HL3a := Lib.hid (HL3a.out.within hw (by omega))
    replace HL3b := Lib.hid (HL3b.out.within hw (by omega))
    replace HL3c := Lib.hid (HL3c.out.within hw (by omega))
    replace HLra := Lib.hid (HLra.out.within hw (by omega))
    replace HLrb := Lib.hid (HLrb.out.within hw (by omega))
    replace HLrc := Lib.hid (HLrc.out.within hw (by omega))
    replace HW := Lib.hid (HW.out.trans hw)
    replace HC := Lib.hid hc
    clear hc hw
    obtain ⟨hb_, ho_, e, hpc⟩ := HL3b.out.here.at_ (by have := HE3b.out; omega)
    cases e
    have yh := hpc kk (by have := HE3b.out; omega)
    have hgh := HOB3b.out hb_ rfl
    clear hpc
    obtain ⟨pb_, po_, e, hpc⟩ := HL3c.out.here.at_ (by have := HE3c.out; omega)
    cases e
    have yr := hpc kk (by have := HE3c.out; omega)
    have hgr2 := HOB3c.out pb_ rfl
    clear hpc
    obtain ⟨y1, hy1⟩ : ∃ y, nth l3b kk = y := ⟨_, rfl⟩
    obtain ⟨y2, hy2⟩ : ∃ y, nth l3c kk = y := ⟨_, rfl⟩
    rw [hy1] at yh
    rw [hy2] at yr
    clear hy1 hy2
    obtain ⟨rr, e, hrr, hlr, hrx⟩ := HLrc.out.at_ (by have := HErc.out; omega)
    cases e
    obtain ⟨r0, f0⟩ := hrx kk (by have := HErc.out; omega)
    have hrE := (HLrc.out.lt rr rfl).2
    have hap := HLrc.out.apart HZe.out (by decide) rr rfl
    clear hrx hlr
    have kk0 : (0 : Int) ≤ (kk : Int) := by omega
    have kk1 : (kk : Int) < (n3b_ : Int) := by have := HE3b.out; omega
    have kk2 : (kk : Int) < (n3c_ : Int) := by have := HE3c.out; omega
    have hQ := HGR.out.2.1
    have hQ1 : 2 ≤ Q := (goodG_ok (ooB_parts Hq3q.out).1).q1
    have z_0_0 := HX0.out.cell (i := 0) rfl
    have z_0_1 := HX0.out.cell (i := 1) rfl
    have z_0_2 := HX0.out.cell (i := 2) rfl
    have z_1_0 := HX1.out.cell (i := 0) rfl
    have z_1_1 := HX1.out.cell (i := 1) rfl
    have z_1_2 := HX1.out.cell (i := 2) rfl
    have z_2_0 := HX2.out.cell (i := 0) rfl
    have z_2_1 := HX2.out.cell (i := 1) rfl
    have z_2_2 := HX2.out.cell (i := 2) rfl
    have z_3_0 := HZ1.out.cell (i := 0) rfl
    have z_3_1 := HZ1.out.cell (i := 1) rfl
    have z_3_2 := HZ1.out.cell (i := 2) rfl
    have z_4_0 := HZ2.out.cell (i := 0) rfl
    have z_4_1 := HZ2.out.cell (i := 1) rfl
    have z_4_2 := HZ2.out.cell (i := 2) rfl
    have z_5_0 := HZe.out.cell (i := 0) rfl
    have z_5_1 := HZe.out.cell (i := 1) rfl
    have z_5_2 := HZe.out.cell (i := 2) rfl
    try (go_wp2_with fail)
    refine wp_region_noPanic ?_
    refine wp_region_Q (Within g (g + 1)) (DrawS U u7 g _ 1000000000 (fun w' => w'.cell? ⟨u1.heap.size, 0, none⟩ = some (.int .i64 P) ∧ w'.cell? ⟨u1.heap.size, 1, none⟩ = some (.int .i64 Q) ∧ w'.cell? ⟨u1.heap.size, 2, none⟩ = some (.int .i64 G) ∧ w'.cell? ⟨u3.heap.size, 0, none⟩ = some (.slice a3a n3a_ c3a) ∧ w'.cell? ⟨u3.heap.size, 1, none⟩ = some (.slice (some ⟨hb_, ho_, none⟩) n3b_ c3b) ∧ w'.cell? ⟨u3.heap.size, 2, none⟩ = some (.slice (some ⟨pb_, po_, none⟩) n3c_ c3c) ∧ w'.cell? ⟨bz, 0, none⟩ = some (.slice a1 n3a_ c1) ∧ w'.cell? ⟨bz, 1, none⟩ = some (.slice a2 n3b_ c2) ∧ w'.cell? ⟨bz, 2, none⟩ = some (.slice (some ⟨rr, 0, none⟩) n3c_ c3) ∧ w'.cell? ⟨hb_, ho_ + kk, none⟩ = some (.int .i64 y1) ∧ w'.cell? ⟨pb_, po_ + kk, none⟩ = some (.int .i64 y2))) 25 [(0, []), (1, [0]), (2, []), (3, []), (4, [0]), (5, []), (6, [1, 0]), (7, [0]), (8, []), (9, []), (10, [0]), (11, []), (12, [1, 0]), (13, [0]), (14, [5, 0]), (15, []), (16, [1, 0]), (17, [9, 0]), (18, []), (19, [0]), (20, [2, 0]), (21, [19, 18])] [22] (by kernel_rfl) (by kernel_rfl) (by kernel_rfl) rfl (fun _ _ _ _ h => h) (DrawS.good _ _ _ _ _ _) ⟨(Within.refl _ _ _).drew, by simpa using HC.out.keep (Below.refl _ _).drew, ⟨box_at z_3_0 (Below.refl _ _).drew, box_at z_3_1 (Below.refl _ _).drew, box_at z_3_2 (Below.refl _ _).drew, box_at z_4_0 (Below.refl _ _).drew, box_at z_4_1 (Below.refl _ _).drew, box_at z_4_2 (Below.refl _ _).drew, box_at z_5_0 (Below.refl _ _).drew, box_at z_5_1 (Below.refl _ _).drew, box_at z_5_2 (Below.refl _ _).drew, box_at yh (Below.refl _ _).drew, box_at yr (Below.refl _ _).drew⟩⟩ ?_
    simp only [pickP, pickN, List.getElem?_cons_zero, List.getElem?_cons_succ]
    iterate 14 (refine' chainQ_read (DrawS.good _ _ _ _ _ _) _ rfl rfl (fun m w' hm' hS' => ?_) ?_; rotate_left; · (simp only [lookP, allP, Act.put, List.getElem?_cons_zero, List.getElem?_cons_succ, List.setIfInBounds_toArray, List.set_cons_zero, List.set_cons_succ]; (try dsimp only [DrawS] at hS'); go_simp; (try with_reducible rfl)))
    -- 14: binOp Binsub 3 t66 t71 3
    refine chainQ_have (DrawS.good _ _ _ _ _ _) (d := (some 72)) (fun v u => ∃ z : Int, v = .int .i64 z ∧ I64 z) (fun v w1 w2 hw h => h) rfl rfl (fun m w' hm' hS' => ?_) ?_
    · simp only [lookP, allP, Act.put, List.getElem?_cons_zero, List.getElem?_cons_succ, List.setIfInBounds_toArray, List.set_cons_zero, List.set_cons_succ]
      refine ⟨.int .i64 (IntKind.i64.wrap (x7 - y1)), ?_, _, rfl, I64_wrapE _⟩
      go_simp
    -- 15: move t11
    refine' chainQ_read (DrawS.good _ _ _ _ _ _) (d := (some 73)) _ rfl rfl (fun m w' hm' hS' => ?_) ?_; rotate_left
    · simp only [lookP, allP, Act.put, List.getElem?_cons_zero, List.getElem?_cons_succ, List.setIfInBounds_toArray, List.set_cons_zero, List.set_cons_succ]
      (try dsimp only [DrawS] at hS')
      go_simp
      (try with_reducible rfl)
    -- 16: binOp Binmul 3 t72 t73 3
    refine chainQ_have (DrawS.good _ _ _ _ _ _) (d := (some 74)) (fun v u => ∃ z : Int, v = .int .i64 z ∧ I64 z) (fun v w1 w2 hw h => h) rfl rfl (fun m w' hm' hS' => ?_) ?_
    · simp only [lookP, allP, Act.put, List.getElem?_cons_zero, List.getElem?_cons_succ, List.setIfInBounds_toArray, List.set_cons_zero, List.set_cons_succ]
      intro x14 hx14
      obtain ⟨z, rfl, hz⟩ := hx14
      refine ⟨.int .i64 (IntKind.i64.wrap (z * x1e)), ?_, _, rfl, I64_wrapE _⟩
      go_simp
    -- 17: binOp Binadd 3 t65 t74 3
    refine chainQ_have (DrawS.good _ _ _ _ _ _) (d := (some 75)) (fun v u => ∃ z : Int, v = .int .i64 z ∧ I64 z) (fun v w1 w2 hw h => h) rfl rfl (fun m w' hm' hS' => ?_) ?_
    · simp only [lookP, allP, Act.put, List.getElem?_cons_zero, List.getElem?_cons_succ, List.setIfInBounds_toArray, List.set_cons_zero, List.set_cons_succ]
      intro x16 hx16
      obtain ⟨z, rfl, hz⟩ := hx16
      refine ⟨.int .i64 (IntKind.i64.wrap (y2 + z)), ?_, _, rfl, I64_wrapE _⟩
      go_simp
    iterate 2 (refine' chainQ_read (DrawS.good _ _ _ _ _ _) _ rfl rfl (fun m w' hm' hS' => ?_) ?_; rotate_left; · (simp only [lookP, allP, Act.put, List.getElem?_cons_zero, List.getElem?_cons_succ, List.setIfInBounds_toArray, List.set_cons_zero, List.set_cons_succ]; (try dsimp only [DrawS] at hS'); go_simp; (try with_reducible rfl)))
    -- 20: call { callee := value (func 114), args := #[t75, t77], argTypes := #[3, 3] }
    refine chainQ_do (d := (some 78)) (fun v u => ∃ z : Int, v = .int .i64 z ∧ I64 z) (fun v w1 w2 hw h => h) rfl rfl (fun m w' hm' hS' => ?_) ?_
    · simp only [lookP, allP, Act.put, List.getElem?_cons_zero, List.getElem?_cons_succ, List.setIfInBounds_toArray, List.set_cons_zero, List.set_cons_succ]
      intro x17 hx17
      intro K hK
      replace hm' : m < 22 := hm'
      obtain ⟨z, rfl, hz⟩ := hx17
      go_simp
      go_at_call 114
      refine (spec_nMod z Q _ hz (by omega) (by omega)).mono ?_
      rintro e u ⟨rfl, rfl⟩
      have z1 : 0 ≤ z % Q := Int.emod_nonneg _ (by omega)
      have z2 : z % Q < Q := Int.emod_lt_of_pos _ (by omega)
      have hw := Within.refl g (g + 1) w'
      exact hK.out _ _ hw ⟨hS'.1.trans hw, hS'.2.1.mono (by omega), ⟨within_at (hS'.1.trans hw) z_3_0 (.inr (by omega)), within_at (hS'.1.trans hw) z_3_1 (.inr (by omega)), within_at (hS'.1.trans hw) z_3_2 (.inr (by omega)), within_at (hS'.1.trans hw) z_4_0 (.inr (by omega)), within_at (hS'.1.trans hw) z_4_1 (.inr (by omega)), within_at (hS'.1.trans hw) z_4_2 (.inr (by omega)), within_at (hS'.1.trans hw) z_5_0 (.inr (by omega)), within_at (hS'.1.trans hw) z_5_1 (.inr (by omega)), within_at (hS'.1.trans hw) z_5_2 (.inr (by omega)), within_at (hS'.1.trans hw) yh (.inr (by omega)), within_at (hS'.1.trans hw) yr (.inr (by omega))⟩⟩ ⟨_, rfl, by omega, by omega⟩
    -- 21: indexAddr 43 t59 t60
    refine chainQ_have (DrawS.good _ _ _ _ _ _) (d := (some 79)) (fun v u => v = .pointer (some ⟨rr, kk, none⟩)) (fun v w1 w2 hw h => h) rfl rfl (fun m w' hm' hS' => ?_) ?_
    · simp only [lookP, allP, Act.put, List.getElem?_cons_zero, List.getElem?_cons_succ, List.setIfInBounds_toArray, List.set_cons_zero, List.set_cons_succ]
      refine ⟨.pointer (some ⟨rr, kk, none⟩), ?_, rfl⟩
      go_simp
    refine chainQ_nil (fun u8 hS' => ?_)
    simp only [allP, Act.put, List.setIfInBounds_toArray, List.set_cons_zero, List.set_cons_succ]
    intro x21 hx21
    intro x20 hx20
    intro x17 hx17
    intro x16 hx16
    intro x14 hx14
    replace hS' : DrawS U u7 g _ 1000000000 _ 22 u8 := hS'
    obtain ⟨hw, hc, hC⟩ := hS'
    have hsz8 := hw.size
    replace HX0 := Lib.hid (HX0.out.kept hw (.inl (by omega)))
    replace HX1 := Lib.hid (HX1.out.kept hw (.inl (by omega)))
    replace HX2 := Lib.hid (HX2.out.kept hw (.inl (by omega)))
    replace HZ1 := Lib.hid (HZ1.out.kept hw (.inr (by omega)))
    replace HZ2 := Lib.hid (HZ2.out.kept hw (.inr (by omega)))
    replace HZe := Lib.hid (HZe.out.kept hw (.inr (by omega)))
    replace HL1c := Lib.hid (HL1c.out.within hw (by omega))
    replace HL1f := Lib.hid (HL1f.out.within hw (by omega))
    replace HL3a := Lib.hid (HL3a.out.within hw (by omega))
    replace HL3b := Lib.hid (HL3b.out.within hw (by omega))
    replace HL3c := Lib.hid (HL3c.out.within hw (by omega))
    replace HLra := Lib.hid (HLra.out.within hw (by omega))
    replace HLrb := Lib.hid (HLrb.out.within hw (by omega))
    replace HLrc := Lib.hid (HLrc.out.within hw (by omega))
    replace HW := Lib.hid (HW.out.trans hw)
    replace HC := Lib.hid hc
    clear hc hw hC
    clear z_0_0 z_0_1 z_0_2 z_1_0 z_1_1 z_1_2 z_2_0 z_2_1 z_2_2 z_3_0 z_3_1 z_3_2 z_4_0 z_4_1 z_4_2 z_5_0 z_5_1 z_5_2
    obtain ⟨zz, rfl, hvi⟩ := hx20
    cases hx21
    clear hx14 hx16 hx17 r0 f0 yh yr
    obtain ⟨_, e, _, hlr, hrx⟩ := HLrc.out.at_ (by have := HErc.out; omega)
    cases e
    obtain ⟨r0, f0⟩ := hrx kk (by have := HErc.out; omega)
    clear hrx hlr
    replace hrE := (HLrc.out.lt rr rfl).2
    go_wp2_with fail
    refine NoPanic.normal ?_
    clear r0 f0
    obtain ⟨Y9, hY⟩ : ∃ Y, Y = u8.setCell ⟨rr, kk, none⟩ (.int .i64 zz) := ⟨_, rfl⟩
    have hYl : Within rr (rr + 1) u8 Y9 := by rw [hY]; exact (Within.refl rr (rr + 1) u8).setCell (b := rr) (by omega) (by omega) kk (.int .i64 zz)
    have hszY9 := hYl.size
    obtain ⟨lra9, he, ho⟩ := HLra.out.poke (b := rr) (k := kk) (x := zz) hvi (by have h1 := HEra.out; omega)
    rw [← hY] at ho
    replace HLra := Lib.hid ho
    replace HEra : Hid (lra9.length = n3a_) := he.trans HEra.out
    clear ho he
    obtain ⟨lrb9, he, ho⟩ := HLrb.out.poke (b := rr) (k := kk) (x := zz) hvi (by have h1 := HErb.out; omega)
    rw [← hY] at ho
    replace HLrb := Lib.hid ho
    replace HErb : Hid (lrb9.length = n3b_) := he.trans HErb.out
    clear ho he
    obtain ⟨lrc9, he, ho⟩ := HLrc.out.poke (b := rr) (k := kk) (x := zz) hvi (by have h1 := HErc.out; omega)
    rw [← hY] at ho
    replace HLrc := Lib.hid ho
    replace HErc : Hid (lrc9.length = n3c_) := he.trans HErc.out
    clear ho he
    have NC := Lib.hid (HC.out.setNew (b := rr) (by omega) kk (.int .i64 zz))
    have NW := Lib.hid (HW.out.setNew (b := rr) (by omega) kk (.int .i64 zz))
    rw [← hY] at NC NW ⊢
    clear hY
    replace HX0 := Lib.hid (HX0.out.kept hYl (by omega))
    replace HX1 := Lib.hid (HX1.out.kept hYl (by omega))
    replace HX2 := Lib.hid (HX2.out.kept hYl (by omega))
    replace HZ1 := Lib.hid (HZ1.out.kept hYl (by omega))
    replace HZ2 := Lib.hid (HZ2.out.kept hYl (by omega))
    replace HZe := Lib.hid (HZe.out.kept hYl (by omega))
    replace HL1c := Lib.hid (HL1c.out.within hYl (by omega))
    replace HL1f := Lib.hid (HL1f.out.within hYl (by omega))
    replace HL3a := Lib.hid (HL3a.out.within hYl (by omega))
    replace HL3b := Lib.hid (HL3b.out.within hYl (by omega))
    replace HL3c := Lib.hid (HL3c.out.within hYl (by omega))
    replace HC := NC
    replace HW := NW
    clear NC NW hYl hvi
    clear hrr hrE hap
    obtain ⟨rr2, e, hrr, hlr, hrx⟩ := HLrb.out.at_ (by have := HErb.out; omega)
    cases e
    obtain ⟨r0, f0⟩ := hrx kk (by have := HErb.out; omega)
    have hrE := (HLrb.out.lt rr2 rfl).2
    have hap := HLrb.out.apart HZe.out (by decide) rr2 rfl
    have hvi : I64 x7 := ⟨by omega, by omega⟩
    clear hrx hlr
    have z_0_0 := HX0.out.cell (i := 0) rfl
    have z_0_1 := HX0.out.cell (i := 1) rfl
    have z_0_2 := HX0.out.cell (i := 2) rfl
    have z_1_0 := HX1.out.cell (i := 0) rfl
    have z_1_1 := HX1.out.cell (i := 1) rfl
    have z_1_2 := HX1.out.cell (i := 2) rfl
    have z_2_0 := HX2.out.cell (i := 0) rfl
    have z_2_1 := HX2.out.cell (i := 1) rfl
    have z_2_2 := HX2.out.cell (i := 2) rfl
    have z_3_0 := HZ1.out.cell (i := 0) rfl
    have z_3_1 := HZ1.out.cell (i := 1) rfl
    have z_3_2 := HZ1.out.cell (i := 2) rfl
    have z_4_0 := HZ2.out.cell (i := 0) rfl
    have z_4_1 := HZ2.out.cell (i := 1) rfl
    have z_4_2 := HZ2.out.cell (i := 2) rfl
    have z_5_0 := HZe.out.cell (i := 0) rfl
    have z_5_1 := HZe.out.cell (i := 1) rfl
    have z_5_2 := HZe.out.cell (i := 2) rfl
    go_wp2_with fail
    clear z_0_0 z_0_1 z_0_2 z_1_0 z_1_1 z_1_2 z_2_0 z_2_1 z_2_2 z_3_0 z_3_1 z_3_2 z_4_0 z_4_1 z_4_2 z_5_0 z_5_1 z_5_2
    clear r0 f0
    obtain ⟨Y10, hY⟩ : ∃ Y, Y = Y9.setCell ⟨rr2, kk, none⟩ (.int .i64 x7) := ⟨_, rfl⟩
    have hYl : Within rr2 (rr2 + 1) Y9 Y10 := by rw [hY]; exact (Within.refl rr2 (rr2 + 1) Y9).setCell (b := rr2) (by omega) (by omega) kk (.int .i64 x7)
    have hszY10 := hYl.size
    obtain ⟨lra10, he, ho⟩ := HLra.out.poke (b := rr2) (k := kk) (x := x7) hvi (by have h1 := HEra.out; omega)
    rw [← hY] at ho
    replace HLra := Lib.hid ho
    replace HEra : Hid (lra10.length = n3a_) := he.trans HEra.out
    clear ho he
    obtain ⟨lrb10, he, ho⟩ := HLrb.out.poke (b := rr2) (k := kk) (x := x7) hvi (by have h1 := HErb.out; omega)
    rw [← hY] at ho
    replace HLrb := Lib.hid ho
    replace HErb : Hid (lrb10.length = n3b_) := he.trans HErb.out
    clear ho he
    obtain ⟨lrc10, he, ho⟩ := HLrc.out.poke (b := rr2) (k := kk) (x := x7) hvi (by have h1 := HErc.out; omega)
    rw [← hY] at ho
    replace HLrc := Lib.hid ho
    replace HErc : Hid (lrc10.length = n3c_) := he.trans HErc.out
    clear ho he
    have NC := Lib.hid (HC.out.setNew (b := rr2) (by omega) kk (.int .i64 x7))
    have NW := Lib.hid (HW.out.setNew (b := rr2) (by omega) kk (.int .i64 x7))
    rw [← hY] at NC NW ⊢
    clear hY
    replace HX0 := Lib.hid (HX0.out.kept hYl (by omega))
    replace HX1 := Lib.hid (HX1.out.kept hYl (by omega))
    replace HX2 := Lib.hid (HX2.out.kept hYl (by omega))
    replace HZ1 := Lib.hid (HZ1.out.kept hYl (by omega))
    replace HZ2 := Lib.hid (HZ2.out.kept hYl (by omega))
    replace HZe := Lib.hid (HZe.out.kept hYl (by omega))
    replace HL1c := Lib.hid (HL1c.out.within hYl (by omega))
    replace HL1f := Lib.hid (HL1f.out.within hYl (by omega))
    replace HL3a := Lib.hid (HL3a.out.within hYl (by omega))
    replace HL3b := Lib.hid (HL3b.out.within hYl (by omega))
    replace HL3c := Lib.hid (HL3c.out.within hYl (by omega))
    replace HC := NC
    replace HW := NW
    clear NC NW hYl hvi
    clear hrr hrE hap
    have HLrax : Hid (Since V4.heap.size Y10 (fun z => Ints z (.slice a1 n3a_ c1) lra10)) := Since.of_ownI HLra.out (Nat.le_refl _)
    have HErax := HEra
    clear HLra
    obtain ⟨lrax, hlx⟩ : ∃ l, lra10 = l := ⟨_, rfl⟩
    rw [hlx] at HLrax HErax
    clear hlx
    have HLrbx : Hid (Since V4.heap.size Y10 (fun z => Ints z (.slice (some ⟨rr2, 0, none⟩) n3b_ c2) lrb10)) := Since.of_ownI HLrb.out (Nat.le_refl _)
    have HErbx := HErb
    clear HLrb
    obtain ⟨lrbx, hlx⟩ : ∃ l, lrb10 = l := ⟨_, rfl⟩
    rw [hlx] at HLrbx HErbx
    clear hlx
    have HLrcx : Hid (Since V4.heap.size Y10 (fun z => Ints z (.slice (some ⟨rr, 0, none⟩) n3c_ c3) lrc10)) := Since.of_ownI HLrc.out (Nat.le_refl _)
    have HErcx := HErc
    clear HLrc
    obtain ⟨lrcx, hlx⟩ : ∃ l, lrc10 = l := ⟨_, rfl⟩
    rw [hlx] at HLrcx HErcx
    clear hlx
    obtain ⟨hnr1, hnr2, hnr3⟩ : n3a_ ≤ 30 ∧ n3b_ ≤ 30 ∧ n3c_ ≤ 30 := ⟨by have := HErax.out; have := HE3a.out; omega, by have := HE3b.out; omega, by have := HE3c.out; omega⟩
    have z_0_0 := HX0.out.cell (i := 0) rfl
    have z_0_1 := HX0.out.cell (i := 1) rfl
    have z_0_2 := HX0.out.cell (i := 2) rfl
    have z_1_0 := HX1.out.cell (i := 0) rfl
    have z_1_1 := HX1.out.cell (i := 1) rfl
    have z_1_2 := HX1.out.cell (i := 2) rfl
    have z_2_0 := HX2.out.cell (i := 0) rfl
    have z_2_1 := HX2.out.cell (i := 1) rfl
    have z_2_2 := HX2.out.cell (i := 2) rfl
    have z_3_0 := HZ1.out.cell (i := 0) rfl
    have z_3_1 := HZ1.out.cell (i := 1) rfl
    have z_3_2 := HZ1.out.cell (i := 2) rfl
    have z_4_0 := HZ2.out.cell (i := 0) rfl
    have z_4_1 := HZ2.out.cell (i := 1) rfl
    have z_4_2 := HZ2.out.cell (i := 2) rfl
    have z_5_0 := HZe.out.cell (i := 0) rfl
    have z_5_1 := HZe.out.cell (i := 1) rfl
    have z_5_2 := HZe.out.cell (i := 2) rfl
    try (go_wp2_with fail)
    clear z_0_0 z_0_1 z_0_2 z_1_0 z_1_1 z_1_2 z_2_0 z_2_1 z_2_2 z_3_0 z_3_1 z_3_2 z_4_0 z_4_1 z_4_2 z_5_0 z_5_1 z_5_2
    refine (spec_one U g _ 6 _ HC.out (HW.out.belowOf HUC.out (Nat.le_of_eq HUS.out)) (by omega) ).mono ?_
    rintro e u11 ⟨⟨b11, rfl⟩, hc, hw⟩
    have hsz11 := hw.size
    replace HX0 := Lib.hid (HX0.out.kept hw (.inl (by omega)))
    replace HX1 := Lib.hid (HX1.out.kept hw (.inl (by omega)))
    replace HX2 := Lib.hid (HX2.out.kept hw (.inl (by omega)))
    replace HZ1 := Lib.hid (HZ1.out.kept hw (.inr (by omega)))
    replace HZ2 := Lib.hid (HZ2.out.kept hw (.inr (by omega)))
    replace HZe := Lib.hid (HZe.out.kept hw (.inr (by omega)))
    replace HL1c := Lib.hid (HL1c.out.within hw (by omega))
    replace HL1f := Lib.hid (HL1f.out.within hw (by omega))
    replace HL3a := Lib.hid (HL3a.out.within hw (by omega))
    replace HL3b := Lib.hid (HL3b.out.within hw (by omega))
    replace HL3c := Lib.hid (HL3c.out.within hw (by omega))
    replace HLrax := Lib.hid (HLrax.out.within hw (by omega))
    replace HLrbx := Lib.hid (HLrbx.out.within hw (by omega))
    replace HLrcx := Lib.hid (HLrcx.out.within hw (by omega))
    replace HW := Lib.hid (HW.out.trans hw)
    replace HC := Lib.hid hc
    clear hc hw
    cases b11 with
    | false =>
      have z_0_0 := HX0.out.cell (i := 0) rfl
      have z_0_1 := HX0.out.cell (i := 1) rfl
      have z_0_2 := HX0.out.cell (i := 2) rfl
      have z_1_0 := HX1.out.cell (i := 0) rfl
      have z_1_1 := HX1.out.cell (i := 1) rfl
      have z_1_2 := HX1.out.cell (i := 2) rfl
      have z_2_0 := HX2.out.cell (i := 0) rfl
      have z_2_1 := HX2.out.cell (i := 1) rfl
      have z_2_2 := HX2.out.cell (i := 2) rfl
      have z_3_0 := HZ1.out.cell (i := 0) rfl
      have z_3_1 := HZ1.out.cell (i := 1) rfl
      have z_3_2 := HZ1.out.cell (i := 2) rfl
      have z_4_0 := HZ2.out.cell (i := 0) rfl
      have z_4_1 := HZ2.out.cell (i := 1) rfl
      have z_4_2 := HZ2.out.cell (i := 2) rfl
      have z_5_0 := HZe.out.cell (i := 0) rfl
      have z_5_1 := HZe.out.cell (i := 1) rfl
      have z_5_2 := HZe.out.cell (i := 2) rfl
      try (go_wp2_with fail)
      clear z_0_0
      clear z_0_1
      clear z_0_2
      clear z_1_0
      clear z_1_1
      clear z_1_2
      clear z_2_0
      clear z_2_1
      clear z_2_2
      refine wp_region_noPanic ?_
      refine wp_region_V (fun w' => w'.cell? ⟨u1.heap.size, 0, none⟩ = some (.int .i64 P) ∧ w'.cell? ⟨u1.heap.size, 1, none⟩ = some (.int .i64 Q) ∧ w'.cell? ⟨u1.heap.size, 2, none⟩ = some (.int .i64 G) ∧ w'.cell? ⟨u3.heap.size, 0, none⟩ = some (.slice a3a n3a_ c3a) ∧ w'.cell? ⟨u3.heap.size, 1, none⟩ = some (.slice (some ⟨hb_, ho_, none⟩) n3b_ c3b) ∧ w'.cell? ⟨u3.heap.size, 2, none⟩ = some (.slice (some ⟨pb_, po_, none⟩) n3c_ c3c) ∧ w'.cell? ⟨bz, 0, none⟩ = some (.slice a1 n3a_ c1) ∧ w'.cell? ⟨bz, 1, none⟩ = some (.slice (some ⟨rr2, 0, none⟩) n3b_ c2) ∧ w'.cell? ⟨bz, 2, none⟩ = some (.slice (some ⟨rr, 0, none⟩) n3c_ c3)) 10 8 (.rd 0 (.rd 1 (.rd 2 (.rd 3 (.alt 4 (.alt 5 (.alt 6 (.alt 7 .done .nil) .nil) .nil) .nil))))) [] (by kernel_rfl) (by kernel_rfl) rfl (fun _ _ _ _ _ h => h) ⟨box_at z_3_0 (Below.refl _ _).drew, box_at z_3_1 (Below.refl _ _).drew, box_at z_3_2 (Below.refl _ _).drew, box_at z_4_0 (Below.refl _ _).drew, box_at z_4_1 (Below.refl _ _).drew, box_at z_4_2 (Below.refl _ _).drew, box_at z_5_0 (Below.refl _ _).drew, box_at z_5_1 (Below.refl _ _).drew, box_at z_5_2 (Below.refl _ _).drew⟩ ?_
      simp only [pickV, pickN, List.getElem?_cons_zero, List.getElem?_cons_succ]
      repeat (refine' wpV_read _ (by kernel_rfl) (fun w' hS' => ?_) ?_; rotate_left; (focus ((try dsimp only at hS'); go_simp; (try with_reducible rfl))); (try simp only [Act.put, List.setIfInBounds_toArray, List.set_cons_zero, List.set_cons_succ]))
      have hdr : Below u11.heap.size u11 u11.drew := (Below.refl _ _).drew
      have hszd := hdr.size
      replace HX0 := Lib.hid (HX0.out.below hdr)
      replace HX1 := Lib.hid (HX1.out.below hdr)
      replace HX2 := Lib.hid (HX2.out.below hdr)
      replace HZ1 := Lib.hid (HZ1.out.below hdr)
      replace HZ2 := Lib.hid (HZ2.out.below hdr)
      replace HZe := Lib.hid (HZe.out.below hdr)
      replace HL1c := Lib.hid (HL1c.out.below hdr)
      replace HL1f := Lib.hid (HL1f.out.below hdr)
      replace HL3a := Lib.hid (HL3a.out.below hdr)
      replace HL3b := Lib.hid (HL3b.out.below hdr)
      replace HL3c := Lib.hid (HL3c.out.below hdr)
      replace HLrax := Lib.hid (HLrax.out.below hdr)
      replace HLrbx := Lib.hid (HLrbx.out.below hdr)
      replace HLrcx := Lib.hid (HLrcx.out.below hdr)
      replace HW := Lib.hid (HW.out.trans (Within.of_below hdr))
      replace HC := Lib.hid (HC.out.keep hdr)
      clear hdr
      refine wpV_do (by kernel_rfl) (fun K hK => ?_)
      -- 4: store
      have r0 := HX0.out.cell (i := 0) rfl
      have r1 := HX0.out.cell (i := 1) rfl
      have r2 := HX0.out.cell (i := 2) rfl
      have fr := fun j => HX0.out.frozen j
      have q0 : u11.cell? ⟨w.heap.size, 0, none⟩ = some (.int .i64 0) := r0
      have q1 : u11.cell? ⟨w.heap.size, 1, none⟩ = some (.int .i64 0) := r1
      have q2 : u11.cell? ⟨w.heap.size, 2, none⟩ = some (.int .i64 0) := r2
      have frd : ∀ j, u11.frozen? ⟨w.heap.size, j, none⟩ = false := fr
      obtain ⟨Y1, hY⟩ : ∃ Y, Y = (((u11.setCell ⟨w.heap.size, 0, none⟩ (.int .i64 P)).setCell ⟨w.heap.size, 1, none⟩ (.int .i64 Q)).setCell ⟨w.heap.size, 2, none⟩ (.int .i64 G)).drew := ⟨_, rfl⟩
      have hYG := hY
      replace hY : Y1 = ((u11.drew.setCell ⟨w.heap.size, 0, none⟩ (.int .i64 P)).setCell ⟨w.heap.size, 1, none⟩ (.int .i64 Q)).setCell ⟨w.heap.size, 2, none⟩ (.int .i64 G) := by rw [hY]; first | rfl | simp [go_sem]
      have hYl : Within (w.heap.size) (w.heap.size + 1) u11.drew Y1 := by rw [hY]; exact ((((Within.refl (w.heap.size) (w.heap.size + 1) u11.drew).setCell (b := w.heap.size) (by omega) (by omega) 0 (.int .i64 P)).setCell (b := w.heap.size) (by omega) (by omega) 1 (.int .i64 Q)).setCell (b := w.heap.size) (by omega) (by omega) 2 (.int .i64 G))
      have HYW : Hid (Within w.heap.size (w.heap.size + 3) u11.drew Y1) := hYl.mono (by omega) (by omega)
      have HYB : Hid (Below w.heap.size w Y1) := hYl.belowU (HW.out.belowOf HBW.out (by omega)) (by omega)
      have HCS : Hid (∀ w', Within w.heap.size (w.heap.size + 3) u11.drew w' → w'.cell? ⟨u1.heap.size, 0, none⟩ = some (.int .i64 P) ∧ w'.cell? ⟨u1.heap.size, 1, none⟩ = some (.int .i64 Q) ∧ w'.cell? ⟨u1.heap.size, 2, none⟩ = some (.int .i64 G) ∧ w'.cell? ⟨u3.heap.size, 0, none⟩ = some (.slice a3a n3a_ c3a) ∧ w'.cell? ⟨u3.heap.size, 1, none⟩ = some (.slice (some ⟨hb_, ho_, none⟩) n3b_ c3b) ∧ w'.cell? ⟨u3.heap.size, 2, none⟩ = some (.slice (some ⟨pb_, po_, none⟩) n3c_ c3c) ∧ w'.cell? ⟨bz, 0, none⟩ = some (.slice a1 n3a_ c1) ∧ w'.cell? ⟨bz, 1, none⟩ = some (.slice (some ⟨rr2, 0, none⟩) n3b_ c2) ∧ w'.cell? ⟨bz, 2, none⟩ = some (.slice (some ⟨rr, 0, none⟩) n3c_ c3)) := fun w' h => ⟨within_at h z_3_0 (by omega), within_at h z_3_1 (by omega), within_at h z_3_2 (by omega), within_at h z_4_0 (by omega), within_at h z_4_1 (by omega), within_at h z_4_2 (by omega), within_at h z_5_0 (by omega), within_at h z_5_1 (by omega), within_at h z_5_2 (by omega)⟩
      go_simp
      refine hK.out _ _ ?_ (fun _ => ?_)
      · rw [← hYG]; exact HCS.out _ HYW.out
      rw [← hYG]
      clear hK K fr r0 r1 r2
      replace HX0 : Hid (BoxN Y1 w.heap.size 24 [.int .i64 P, .int .i64 Q, .int .i64 G]) := by unfold Hid; rw [hY]; exact (((HX0.out.set 0 (.int .i64 P)).set 1 (.int .i64 Q)).set 2 (.int .i64 G))
      replace HX1 := Lib.hid (HX1.out.kept hYl (by omega))
      replace HX2 := Lib.hid (HX2.out.kept hYl (by omega))
      clear hYG frd q0 q1 q2
      clear hY hYl
      (try simp only [Act.put, List.setIfInBounds_toArray, List.set_cons_zero, List.set_cons_succ])
      clear z_3_0 z_3_1 z_3_2 z_4_0 z_4_1 z_4_2 z_5_0 z_5_1 z_5_2
      obtain ⟨z_3_0, z_3_1, z_3_2, z_4_0, z_4_1, z_4_2, z_5_0, z_5_1, z_5_2⟩ := HCS.out _ HYW.out
      refine wpV_do (by kernel_rfl) (fun K hK => ?_)
      -- 5: load
      go_simp
      refine hK.out _ _ ⟨z_3_0, z_3_1, z_3_2, z_4_0, z_4_1, z_4_2, z_5_0, z_5_1, z_5_2⟩ (fun _ => ?_)
      clear hK K
      (try simp only [Act.put, List.setIfInBounds_toArray, List.set_cons_zero, List.set_cons_succ])
      refine wpV_do (by kernel_rfl) (fun K hK => ?_)
      -- 6: store
      have r0 := HX1.out.cell (i := 0) rfl
      have r1 := HX1.out.cell (i := 1) rfl
      have r2 := HX1.out.cell (i := 2) rfl
      have fr := fun j => HX1.out.frozen j
      obtain ⟨Y2, hY⟩ : ∃ Y, Y = ((Y1.setCell ⟨w.heap.size + 1, 0, none⟩ (.slice a3a n3a_ c3a)).setCell ⟨w.heap.size + 1, 1, none⟩ (.slice (some ⟨hb_, ho_, none⟩) n3b_ c3b)).setCell ⟨w.heap.size + 1, 2, none⟩ (.slice (some ⟨pb_, po_, none⟩) n3c_ c3c) := ⟨_, rfl⟩
      have hYl : Within (w.heap.size + 1) (w.heap.size + 1 + 1) Y1 Y2 := by rw [hY]; exact ((((Within.refl (w.heap.size + 1) (w.heap.size + 1 + 1) Y1).setCell (b := w.heap.size + 1) (by omega) (by omega) 0 (.slice a3a n3a_ c3a)).setCell (b := w.heap.size + 1) (by omega) (by omega) 1 (.slice (some ⟨hb_, ho_, none⟩) n3b_ c3b)).setCell (b := w.heap.size + 1) (by omega) (by omega) 2 (.slice (some ⟨pb_, po_, none⟩) n3c_ c3c))
      replace HYW := Lib.hid (HYW.out.trans (hYl.mono (by omega) (by omega)))
      replace HYB := Lib.hid (hYl.belowU HYB.out (by omega))
      go_simp
      refine hK.out _ _ ?_ (fun _ => ?_)
      · rw [← hY]; exact HCS.out _ HYW.out
      rw [← hY]
      clear hK K fr r0 r1 r2
      replace HX1 : Hid (BoxN Y2 (w.heap.size + 1) 47 [.slice a3a n3a_ c3a, .slice (some ⟨hb_, ho_, none⟩) n3b_ c3b, .slice (some ⟨pb_, po_, none⟩) n3c_ c3c]) := by unfold Hid; rw [hY]; exact (((HX1.out.set 0 (.slice a3a n3a_ c3a)).set 1 (.slice (some ⟨hb_, ho_, none⟩) n3b_ c3b)).set 2 (.slice (some ⟨pb_, po_, none⟩) n3c_ c3c))
      replace HX0 := Lib.hid (HX0.out.kept hYl (by omega))
      replace HX2 := Lib.hid (HX2.out.kept hYl (by omega))
      clear hY hYl
      (try simp only [Act.put, List.setIfInBounds_toArray, List.set_cons_zero, List.set_cons_succ])
      clear z_3_0 z_3_1 z_3_2 z_4_0 z_4_1 z_4_2 z_5_0 z_5_1 z_5_2
      obtain ⟨z_3_0, z_3_1, z_3_2, z_4_0, z_4_1, z_4_2, z_5_0, z_5_1, z_5_2⟩ := HCS.out _ HYW.out
      refine wpV_do (by kernel_rfl) (fun K hK => ?_)
      -- 7: store
      have r0 := HX2.out.cell (i := 0) rfl
      have r1 := HX2.out.cell (i := 1) rfl
      have r2 := HX2.out.cell (i := 2) rfl
      have fr := fun j => HX2.out.frozen j
      obtain ⟨Y3, hY⟩ : ∃ Y, Y = ((Y2.setCell ⟨w.heap.size + 1 + 1, 0, none⟩ (.slice a1 n3a_ c1)).setCell ⟨w.heap.size + 1 + 1, 1, none⟩ (.slice (some ⟨rr2, 0, none⟩) n3b_ c2)).setCell ⟨w.heap.size + 1 + 1, 2, none⟩ (.slice (some ⟨rr, 0, none⟩) n3c_ c3) := ⟨_, rfl⟩
      have hYl : Within (w.heap.size + 1 + 1) (w.heap.size + 1 + 1 + 1) Y2 Y3 := by rw [hY]; exact ((((Within.refl (w.heap.size + 1 + 1) (w.heap.size + 1 + 1 + 1) Y2).setCell (b := w.heap.size + 1 + 1) (by omega) (by omega) 0 (.slice a1 n3a_ c1)).setCell (b := w.heap.size + 1 + 1) (by omega) (by omega) 1 (.slice (some ⟨rr2, 0, none⟩) n3b_ c2)).setCell (b := w.heap.size + 1 + 1) (by omega) (by omega) 2 (.slice (some ⟨rr, 0, none⟩) n3c_ c3))
      replace HYW := Lib.hid (HYW.out.trans (hYl.mono (by omega) (by omega)))
      replace HYB := Lib.hid (hYl.belowU HYB.out (by omega))
      go_simp
      refine hK.out _ _ ?_ (fun _ => ?_)
      · rw [← hY]; exact HCS.out _ HYW.out
      rw [← hY]
      clear hK K fr r0 r1 r2
      replace HX2 : Hid (BoxN Y3 (w.heap.size + 1 + 1) 47 [.slice a1 n3a_ c1, .slice (some ⟨rr2, 0, none⟩) n3b_ c2, .slice (some ⟨rr, 0, none⟩) n3c_ c3]) := by unfold Hid; rw [hY]; exact (((HX2.out.set 0 (.slice a1 n3a_ c1)).set 1 (.slice (some ⟨rr2, 0, none⟩) n3b_ c2)).set 2 (.slice (some ⟨rr, 0, none⟩) n3c_ c3))
      replace HX0 := Lib.hid (HX0.out.kept hYl (by omega))
      replace HX1 := Lib.hid (HX1.out.kept hYl (by omega))
      clear hY hYl
      (try simp only [Act.put, List.setIfInBounds_toArray, List.set_cons_zero, List.set_cons_succ])
      clear z_3_0 z_3_1 z_3_2 z_4_0 z_4_1 z_4_2 z_5_0 z_5_1 z_5_2
      obtain ⟨z_3_0, z_3_1, z_3_2, z_4_0, z_4_1, z_4_2, z_5_0, z_5_1, z_5_2⟩ := HCS.out _ HYW.out
      refine wpV_done ?_
      go_wp2_with fail
      refine NoPanic.normal ?_
      clear z_3_0 z_3_1 z_3_2 z_4_0 z_4_1 z_4_2 z_5_0 z_5_1 z_5_2
      have t_HX0_0 := HX0.out.cell (i := 0) rfl
      have t_HX0_1 := HX0.out.cell (i := 1) rfl
      have t_HX0_2 := HX0.out.cell (i := 2) rfl
      have t_HX1_0 := HX1.out.cell (i := 0) rfl
      have t_HX1_1 := HX1.out.cell (i := 1) rfl
      have t_HX1_2 := HX1.out.cell (i := 2) rfl
      have t_HX2_0 := HX2.out.cell (i := 0) rfl
      have t_HX2_1 := HX2.out.cell (i := 1) rfl
      have t_HX2_2 := HX2.out.cell (i := 2) rfl
      try (go_wp2_with fail)
      refine bodyPost_ret (v := .tuple #[.agg #[.int .i64 P, .int .i64 Q, .int .i64 G], .slice a1c n1c c1c, .agg #[.slice a3a n3a_ c3a, .slice (some ⟨hb_, ho_, none⟩) n3b_ c3b, .slice (some ⟨pb_, po_, none⟩) n3c_ c3c], .agg #[.slice a1 n3a_ c1, .slice (some ⟨rr2, 0, none⟩) n3b_ c2, .slice (some ⟨rr, 0, none⟩) n3c_ c3]]) (by simp [results, Try.results26, go_sem, t_HX0_0, t_HX0_1, t_HX0_2, t_HX1_0, t_HX1_1, t_HX1_2, t_HX2_0, t_HX2_1, t_HX2_2]) rfl ⟨⟨_, _, _, _, _, _, _, _, _, _, _, _, _, _, _, _, _, rfl, HGR.out, ⟨(HL1c.out.within HYW.out (by omega)).here, by have := HE1c.out; omega⟩, ⟨(HL3a.out.within HYW.out (by omega)).here, by have := HE3a.out; omega⟩, ⟨(HL3b.out.within HYW.out (by omega)).here, by have := HE3b.out; omega⟩, ⟨(HL3c.out.within HYW.out (by omega)).here, by have := HE3c.out; omega⟩, ⟨(HLrax.out.within HYW.out (by omega)).here, by have := HErax.out; omega⟩, ⟨(HLrbx.out.within HYW.out (by omega)).here, by have := HErbx.out; omega⟩, ⟨(HLrcx.out.within HYW.out (by omega)).here, by have := HErcx.out; omega⟩⟩, HYB.out⟩
    | true =>
      have z_0_0 := HX0.out.cell (i := 0) rfl
      have z_0_1 := HX0.out.cell (i := 1) rfl
      have z_0_2 := HX0.out.cell (i := 2) rfl
      have z_1_0 := HX1.out.cell (i := 0) rfl
      have z_1_1 := HX1.out.cell (i := 1) rfl
      have z_1_2 := HX1.out.cell (i := 2) rfl
      have z_2_0 := HX2.out.cell (i := 0) rfl
      have z_2_1 := HX2.out.cell (i := 1) rfl
      have z_2_2 := HX2.out.cell (i := 2) rfl
      have z_3_0 := HZ1.out.cell (i := 0) rfl
      have z_3_1 := HZ1.out.cell (i := 1) rfl
      have z_3_2 := HZ1.out.cell (i := 2) rfl
      have z_4_0 := HZ2.out.cell (i := 0) rfl
      have z_4_1 := HZ2.out.cell (i := 1) rfl
      have z_4_2 := HZ2.out.cell (i := 2) rfl
      have z_5_0 := HZe.out.cell (i := 0) rfl
      have z_5_1 := HZe.out.cell (i := 1) rfl
      have z_5_2 := HZe.out.cell (i := 2) rfl
      try (go_wp2_with fail)
      clear z_0_0
      clear z_0_1
      clear z_0_2
      clear z_1_0
      clear z_1_1
      clear z_1_2
      clear z_2_0
      clear z_2_1
      clear z_2_2
      refine wp_region_noPanic ?_
      refine wp_region_V (fun w' => w'.cell? ⟨u1.heap.size, 0, none⟩ = some (.int .i64 P) ∧ w'.cell? ⟨u1.heap.size, 1, none⟩ = some (.int .i64 Q) ∧ w'.cell? ⟨u1.heap.size, 2, none⟩ = some (.int .i64 G) ∧ w'.cell? ⟨u3.heap.size, 0, none⟩ = some (.slice a3a n3a_ c3a) ∧ w'.cell? ⟨u3.heap.size, 1, none⟩ = some (.slice (some ⟨hb_, ho_, none⟩) n3b_ c3b) ∧ w'.cell? ⟨u3.heap.size, 2, none⟩ = some (.slice (some ⟨pb_, po_, none⟩) n3c_ c3c) ∧ w'.cell? ⟨bz, 0, none⟩ = some (.slice a1 n3a_ c1) ∧ w'.cell? ⟨bz, 1, none⟩ = some (.slice (some ⟨rr2, 0, none⟩) n3b_ c2) ∧ w'.cell? ⟨bz, 2, none⟩ = some (.slice (some ⟨rr, 0, none⟩) n3c_ c3)) 13 11 (.rd 0 (.rd 1 (.rd 2 (.rd 3 (.rd 4 (.rd 5 (.alt 6 (.alt 7 (.alt 8 (.alt 9 (.alt 10 .done .nil) .nil) .nil) .nil) .nil))))))) [] (by kernel_rfl) (by kernel_rfl) rfl (fun _ _ _ _ _ h => h) ⟨box_at z_3_0 (Below.refl _ _).drew, box_at z_3_1 (Below.refl _ _).drew, box_at z_3_2 (Below.refl _ _).drew, box_at z_4_0 (Below.refl _ _).drew, box_at z_4_1 (Below.refl _ _).drew, box_at z_4_2 (Below.refl _ _).drew, box_at z_5_0 (Below.refl _ _).drew, box_at z_5_1 (Below.refl _ _).drew, box_at z_5_2 (Below.refl _ _).drew⟩ ?_
      simp only [pickV, pickN, List.getElem?_cons_zero, List.getElem?_cons_succ]
      repeat (refine' wpV_read _ (by kernel_rfl) (fun w' hS' => ?_) ?_; rotate_left; (focus ((try dsimp only at hS'); go_simp; (try with_reducible rfl))); (try simp only [Act.put, List.setIfInBounds_toArray, List.set_cons_zero, List.set_cons_succ]))
      have hdr : Below u11.heap.size u11 u11.drew := (Below.refl _ _).drew
      have hszd := hdr.size
      replace HX0 := Lib.hid (HX0.out.below hdr)
      replace HX1 := Lib.hid (HX1.out.below hdr)
      replace HX2 := Lib.hid (HX2.out.below hdr)
      replace HZ1 := Lib.hid (HZ1.out.below hdr)
      replace HZ2 := Lib.hid (HZ2.out.below hdr)
      replace HZe := Lib.hid (HZe.out.below hdr)
      replace HL1c := Lib.hid (HL1c.out.below hdr)
      replace HL1f := Lib.hid (HL1f.out.below hdr)
      replace HL3a := Lib.hid (HL3a.out.below hdr)
      replace HL3b := Lib.hid (HL3b.out.below hdr)
      replace HL3c := Lib.hid (HL3c.out.below hdr)
      replace HLrax := Lib.hid (HLrax.out.below hdr)
      replace HLrbx := Lib.hid (HLrbx.out.below hdr)
      replace HLrcx := Lib.hid (HLrcx.out.below hdr)
      replace HW := Lib.hid (HW.out.trans (Within.of_below hdr))
      replace HC := Lib.hid (HC.out.keep hdr)
      clear hdr
      refine wpV_do (by kernel_rfl) (fun K hK => ?_)
      -- 6: call
      go_simp
      go_at_call 110
      refine (spec_bent U g _ P Q G _ _ _ lrax lrbx lrcx _ HC.out (HW.out.belowOf HUC.out (Nat.le_of_eq HUS.out)) (by omega) HGR.out HLrax.out.here HLrbx.out.here HLrcx.out.here (by have := HErax.out; omega) (by have := HErbx.out; omega) (by have := HErcx.out; omega)).mono ?_
      rintro e ut1 ⟨⟨vt1a, vt1b, vt1c, lt1a, lt1b, lt1c, rfl, ⟨hst1a, hlt1a⟩, ⟨hst1b, hlt1b⟩, ⟨hst1c, hlt1c⟩⟩, hc, hw⟩
      have HLt1a := Lib.hid hst1a
      obtain ⟨at1a, nt1a, ct1a, rfl⟩ := hst1a.here.shape
      have hnt1a : nt1a ≤ 31 := by have h1 := hst1a.here.len; omega
      have HEt1a := Lib.hid hst1a.here.len
      clear hst1a
      have HLt1b := Lib.hid hst1b
      obtain ⟨at1b, nt1b, ct1b, rfl⟩ := hst1b.here.shape
      have hnt1b : nt1b ≤ 31 := by have h1 := hst1b.here.len; omega
      have HEt1b := Lib.hid hst1b.here.len
      clear hst1b
      have HLt1c := Lib.hid hst1c
      obtain ⟨at1c, nt1c, ct1c, rfl⟩ := hst1c.here.shape
      have hnt1c : nt1c ≤ 31 := by have h1 := hst1c.here.len; omega
      have HEt1c := Lib.hid hst1c.here.len
      clear hst1c
      have hszt1 := hw.size
      replace HX0 := Lib.hid (HX0.out.kept hw (.inl (by omega)))
      replace HX1 := Lib.hid (HX1.out.kept hw (.inl (by omega)))
      replace HX2 := Lib.hid (HX2.out.kept hw (.inl (by omega)))
      replace HZ1 := Lib.hid (HZ1.out.kept hw (.inr (by omega)))
      replace HZ2 := Lib.hid (HZ2.out.kept hw (.inr (by omega)))
      replace HZe := Lib.hid (HZe.out.kept hw (.inr (by omega)))
      replace HL1c := Lib.hid (HL1c.out.within hw (by omega))
      replace HL1f := Lib.hid (HL1f.out.within hw (by omega))
      replace HL3a := Lib.hid (HL3a.out.within hw (by omega))
      replace HL3b := Lib.hid (HL3b.out.within hw (by omega))
      replace HL3c := Lib.hid (HL3c.out.within hw (by omega))
      replace HLrax := Lib.hid (HLrax.out.within hw (by omega))
      replace HLrbx := Lib.hid (HLrbx.out.within hw (by omega))
      replace HLrcx := Lib.hid (HLrcx.out.within hw (by omega))
      replace HW := Lib.hid (HW.out.trans hw)
      replace HC := Lib.hid hc
      clear hc hw
      clear z_3_0 z_3_1 z_3_2 z_4_0 z_4_1 z_4_2 z_5_0 z_5_1 z_5_2
      have z_3_0 := HZ1.out.cell (i := 0) rfl
      have z_3_1 := HZ1.out.cell (i := 1) rfl
      have z_3_2 := HZ1.out.cell (i := 2) rfl
      have z_4_0 := HZ2.out.cell (i := 0) rfl
      have z_4_1 := HZ2.out.cell (i := 1) rfl
      have z_4_2 := HZ2.out.cell (i := 2) rfl
      have z_5_0 := HZe.out.cell (i := 0) rfl
      have z_5_1 := HZe.out.cell (i := 1) rfl
      have z_5_2 := HZe.out.cell (i := 2) rfl
      refine hK.out _ _ ⟨z_3_0, z_3_1, z_3_2, z_4_0, z_4_1, z_4_2, z_5_0, z_5_1, z_5_2⟩ (fun _ => ?_)
      clear hK K
      (try simp only [Act.put, List.setIfInBounds_toArray, List.set_cons_zero, List.set_cons_succ])
      refine wpV_do (by kernel_rfl) (fun K hK => ?_)
      -- 7: store
      have r0 := HX0.out.cell (i := 0) rfl
      have r1 := HX0.out.cell (i := 1) rfl
      have r2 := HX0.out.cell (i := 2) rfl
      have fr := fun j => HX0.out.frozen j
      obtain ⟨Y2, hY⟩ : ∃ Y, Y = ((ut1.setCell ⟨w.heap.size, 0, none⟩ (.int .i64 P)).setCell ⟨w.heap.size, 1, none⟩ (.int .i64 Q)).setCell ⟨w.heap.size, 2, none⟩ (.int .i64 G) := ⟨_, rfl⟩
      have hYl : Within (w.heap.size) (w.heap.size + 1) ut1 Y2 := by rw [hY]; exact ((((Within.refl (w.heap.size) (w.heap.size + 1) ut1).setCell (b := w.heap.size) (by omega) (by omega) 0 (.int .i64 P)).setCell (b := w.heap.size) (by omega) (by omega) 1 (.int .i64 Q)).setCell (b := w.heap.size) (by omega) (by omega) 2 (.int .i64 G))
      have HYW : Hid (Within w.heap.size (w.heap.size + 3) ut1 Y2) := hYl.mono (by omega) (by omega)
      have HYB : Hid (Below w.heap.size w Y2) := hYl.belowU (HW.out.belowOf HBW.out (by omega)) (by omega)
      have HCS : Hid (∀ w', Within w.heap.size (w.heap.size + 3) ut1 w' → w'.cell? ⟨u1.heap.size, 0, none⟩ = some (.int .i64 P) ∧ w'.cell? ⟨u1.heap.size, 1, none⟩ = some (.int .i64 Q) ∧ w'.cell? ⟨u1.heap.size, 2, none⟩ = some (.int .i64 G) ∧ w'.cell? ⟨u3.heap.size, 0, none⟩ = some (.slice a3a n3a_ c3a) ∧ w'.cell? ⟨u3.heap.size, 1, none⟩ = some (.slice (some ⟨hb_, ho_, none⟩) n3b_ c3b) ∧ w'.cell? ⟨u3.heap.size, 2, none⟩ = some (.slice (some ⟨pb_, po_, none⟩) n3c_ c3c) ∧ w'.cell? ⟨bz, 0, none⟩ = some (.slice a1 n3a_ c1) ∧ w'.cell? ⟨bz, 1, none⟩ = some (.slice (some ⟨rr2, 0, none⟩) n3b_ c2) ∧ w'.cell? ⟨bz, 2, none⟩ = some (.slice (some ⟨rr, 0, none⟩) n3c_ c3)) := fun w' h => ⟨within_at h z_3_0 (by omega), within_at h z_3_1 (by omega), within_at h z_3_2 (by omega), within_at h z_4_0 (by omega), within_at h z_4_1 (by omega), within_at h z_4_2 (by omega), within_at h z_5_0 (by omega), within_at h z_5_1 (by omega), within_at h z_5_2 (by omega)⟩
      go_simp
      refine hK.out _ _ ?_ (fun _ => ?_)
      · rw [← hY]; exact HCS.out _ HYW.out
      rw [← hY]
      clear hK K fr r0 r1 r2
      replace HX0 : Hid (BoxN Y2 w.heap.size 24 [.int .i64 P, .int .i64 Q, .int .i64 G]) := by unfold Hid; rw [hY]; exact (((HX0.out.set 0 (.int .i64 P)).set 1 (.int .i64 Q)).set 2 (.int .i64 G))
      replace HX1 := Lib.hid (HX1.out.kept hYl (by omega))
      replace HX2 := Lib.hid (HX2.out.kept hYl (by omega))
      clear hY hYl
      (try simp only [Act.put, List.setIfInBounds_toArray, List.set_cons_zero, List.set_cons_succ])
      clear z_3_0 z_3_1 z_3_2 z_4_0 z_4_1 z_4_2 z_5_0 z_5_1 z_5_2
      obtain ⟨z_3_0, z_3_1, z_3_2, z_4_0, z_4_1, z_4_2, z_5_0, z_5_1, z_5_2⟩ := HCS.out _ HYW.out
      refine wpV_do (by kernel_rfl) (fun K hK => ?_)
      -- 8: load
      go_simp
      refine hK.out _ _ ⟨z_3_0, z_3_1, z_3_2, z_4_0, z_4_1, z_4_2, z_5_0, z_5_1, z_5_2⟩ (fun _ => ?_)
      clear hK K
      (try simp only [Act.put, List.setIfInBounds_toArray, List.set_cons_zero, List.set_cons_succ])
      refine wpV_do (by kernel_rfl) (fun K hK => ?_)
      -- 9: store
      have r0 := HX1.out.cell (i := 0) rfl
      have r1 := HX1.out.cell (i := 1) rfl
      have r2 := HX1.out.cell (i := 2) rfl
      have fr := fun j => HX1.out.frozen j
      obtain ⟨Y3, hY⟩ : ∃ Y, Y = ((Y2.setCell ⟨w.heap.size + 1, 0, none⟩ (.slice a3a n3a_ c3a)).setCell ⟨w.heap.size + 1, 1, none⟩ (.slice (some ⟨hb_, ho_, none⟩) n3b_ c3b)).setCell ⟨w.heap.size + 1, 2, none⟩ (.slice (some ⟨pb_, po_, none⟩) n3c_ c3c) := ⟨_, rfl⟩
      have hYl : Within (w.heap.size + 1) (w.heap.size + 1 + 1) Y2 Y3 := by rw [hY]; exact ((((Within.refl (w.heap.size + 1) (w.heap.size + 1 + 1) Y2).setCell (b := w.heap.size + 1) (by omega) (by omega) 0 (.slice a3a n3a_ c3a)).setCell (b := w.heap.size + 1) (by omega) (by omega) 1 (.slice (some ⟨hb_, ho_, none⟩) n3b_ c3b)).setCell (b := w.heap.size + 1) (by omega) (by omega) 2 (.slice (some ⟨pb_, po_, none⟩) n3c_ c3c))
      replace HYW := Lib.hid (HYW.out.trans (hYl.mono (by omega) (by omega)))
      replace HYB := Lib.hid (hYl.belowU HYB.out (by omega))
      go_simp
      refine hK.out _ _ ?_ (fun _ => ?_)
      · rw [← hY]; exact HCS.out _ HYW.out
      rw [← hY]
      clear hK K fr r0 r1 r2
      replace HX1 : Hid (BoxN Y3 (w.heap.size + 1) 47 [.slice a3a n3a_ c3a, .slice (some ⟨hb_, ho_, none⟩) n3b_ c3b, .slice (some ⟨pb_, po_, none⟩) n3c_ c3c]) := by unfold Hid; rw [hY]; exact (((HX1.out.set 0 (.slice a3a n3a_ c3a)).set 1 (.slice (some ⟨hb_, ho_, none⟩) n3b_ c3b)).set 2 (.slice (some ⟨pb_, po_, none⟩) n3c_ c3c))
      replace HX0 := Lib.hid (HX0.out.kept hYl (by omega))
      replace HX2 := Lib.hid (HX2.out.kept hYl (by omega))
      clear hY hYl
      (try simp only [Act.put, List.setIfInBounds_toArray, List.set_cons_zero, List.set_cons_succ])
      clear z_3_0 z_3_1 z_3_2 z_4_0 z_4_1 z_4_2 z_5_0 z_5_1 z_5_2
      obtain ⟨z_3_0, z_3_1, z_3_2, z_4_0, z_4_1, z_4_2, z_5_0, z_5_1, z_5_2⟩ := HCS.out _ HYW.out
      refine wpV_do (by kernel_rfl) (fun K hK => ?_)
      -- 10: store
      have r0 := HX2.out.cell (i := 0) rfl
      have r1 := HX2.out.cell (i := 1) rfl
      have r2 := HX2.out.cell (i := 2) rfl
      have fr := fun j => HX2.out.frozen j
      obtain ⟨Y4, hY⟩ : ∃ Y, Y = ((Y3.setCell ⟨w.heap.size + 1 + 1, 0, none⟩ (.slice at1a nt1a ct1a)).setCell ⟨w.heap.size + 1 + 1, 1, none⟩ (.slice at1b nt1b ct1b)).setCell ⟨w.heap.size + 1 + 1, 2, none⟩ (.slice at1c nt1c ct1c) := ⟨_, rfl⟩
      have hYl : Within (w.heap.size + 1 + 1) (w.heap.size + 1 + 1 + 1) Y3 Y4 := by rw [hY]; exact ((((Within.refl (w.heap.size + 1 + 1) (w.heap.size + 1 + 1 + 1) Y3).setCell (b := w.heap.size + 1 + 1) (by omega) (by omega) 0 (.slice at1a nt1a ct1a)).setCell (b := w.heap.size + 1 + 1) (by omega) (by omega) 1 (.slice at1b nt1b ct1b)).setCell (b := w.heap.size + 1 + 1) (by omega) (by omega) 2 (.slice at1c nt1c ct1c))
      replace HYW := Lib.hid (HYW.out.trans (hYl.mono (by omega) (by omega)))
      replace HYB := Lib.hid (hYl.belowU HYB.out (by omega))
      go_simp
      refine hK.out _ _ ?_ (fun _ => ?_)
      · rw [← hY]; exact HCS.out _ HYW.out
      rw [← hY]
      clear hK K fr r0 r1 r2
      replace HX2 : Hid (BoxN Y4 (w.heap.size + 1 + 1) 47 [.slice at1a nt1a ct1a, .slice at1b nt1b ct1b, .slice at1c nt1c ct1c]) := by unfold Hid; rw [hY]; exact (((HX2.out.set 0 (.slice at1a nt1a ct1a)).set 1 (.slice at1b nt1b ct1b)).set 2 (.slice at1c nt1c ct1c))
      replace HX0 := Lib.hid (HX0.out.kept hYl (by omega))
      replace HX1 := Lib.hid (HX1.out.kept hYl (by omega))
      clear hY hYl
      (try simp only [Act.put, List.setIfInBounds_toArray, List.set_cons_zero, List.set_cons_succ])
      clear z_3_0 z_3_1 z_3_2 z_4_0 z_4_1 z_4_2 z_5_0 z_5_1 z_5_2
      obtain ⟨z_3_0, z_3_1, z_3_2, z_4_0, z_4_1, z_4_2, z_5_0, z_5_1, z_5_2⟩ := HCS.out _ HYW.out
      refine wpV_done ?_
      go_wp2_with fail
      refine NoPanic.normal ?_
      clear z_3_0 z_3_1 z_3_2 z_4_0 z_4_1 z_4_2 z_5_0 z_5_1 z_5_2
      have t_HX0_0 := HX0.out.cell (i := 0) rfl
      have t_HX0_1 := HX0.out.cell (i := 1) rfl
      have t_HX0_2 := HX0.out.cell (i := 2) rfl
      have t_HX1_0 := HX1.out.cell (i := 0) rfl
      have t_HX1_1 := HX1.out.cell (i := 1) rfl
      have t_HX1_2 := HX1.out.cell (i := 2) rfl
      have t_HX2_0 := HX2.out.cell (i := 0) rfl
      have t_HX2_1 := HX2.out.cell (i := 1) rfl
      have t_HX2_2 := HX2.out.cell (i := 2) rfl
      try (go_wp2_with fail)
      refine bodyPost_ret (v := .tuple #[.agg #[.int .i64 P, .int .i64 Q, .int .i64 G], .slice a1c n1c c1c, .agg #[.slice a3a n3a_ c3a, .slice (some ⟨hb_, ho_, none⟩) n3b_ c3b, .slice (some ⟨pb_, po_, none⟩) n3c_ c3c], .agg #[.slice at1a nt1a ct1a, .slice at1b nt1b ct1b, .slice at1c nt1c ct1c]]) (by simp [results, Try.results26, go_sem, t_HX0_0, t_HX0_1, t_HX0_2, t_HX1_0, t_HX1_1, t_HX1_2, t_HX2_0, t_HX2_1, t_HX2_2]) rfl ⟨⟨_, _, _, _, _, _, _, _, _, _, _, _, _, _, _, _, _, rfl, HGR.out, ⟨(HL1c.out.within HYW.out (by omega)).here, by have := HE1c.out; omega⟩, ⟨(HL3a.out.within HYW.out (by omega)).here, by have := HE3a.out; omega⟩, ⟨(HL3b.out.within HYW.out (by omega)).here, by have := HE3b.out; omega⟩, ⟨(HL3c.out.within HYW.out (by omega)).here, by have := HE3c.out; omega⟩, ⟨(HLt1a.out.within HYW.out (by omega)).here, by have := HEt1a.out; omega⟩, ⟨(HLt1b.out.within HYW.out (by omega)).here, by have := HEt1b.out; omega⟩, ⟨(HLt1c.out.within HYW.out (by omega)).here, by have := HEt1c.out; omega⟩⟩, HYB.out⟩
end Go.Proofs.Ytegomgnlhcbmfaa
