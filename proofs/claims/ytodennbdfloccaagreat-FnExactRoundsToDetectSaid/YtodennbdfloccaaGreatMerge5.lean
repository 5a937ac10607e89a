/- Walks: impl.mergeHeads (printed by gen_merge5.py). -/
import Derived.Test.YtodennbdfloccaaGreatMerge4
namespace Go.Proofs.YtodennbdfloccaaGreat
open Go.RowKit
set_option linter.unusedSimpArgs false
set_option linter.unusedVariables false

def addH (out : List HeadD) (h : HeadD) : List HeadD := if out.any (fun o => decide (o = h)) = true then out else out ++ [h]
def mergeL (a b : List HeadD) : List HeadD := b.foldl addH a
theorem mergeL_succ {a b : List HeadD} {k : Nat} (h : k < b.length) : mergeL a (b.take (k + 1)) = addH (mergeL a (b.take k)) b[k] := by
  unfold mergeL
  rw [List.take_succ_eq_append_getElem h, List.foldl_append]; rfl
theorem addH_le (out : List HeadD) (h : HeadD) : (addH out h).length ≤ out.length + 1 := by unfold addH; split <;> simp
theorem mergeL_le (a : List HeadD) : ∀ (b : List HeadD), (mergeL a b).length ≤ a.length + b.length := by
  intro b
  induction b generalizing a with
  | nil => simp [mergeL]
  | cons x b ih =>
    have h1 := ih (addH a x)
    have h2 := addH_le a x
    unfold mergeL at h1 ⊢
    rw [List.foldl_cons, List.length_cons]
    omega
set_option maxHeartbeats 2000000 in
theorem impl_mergeHeads1 (v : Value) (o : HeadD) (g : Nat) (d : HeadD) (a3 a4 a5 : Option Addr) (n3 c3 n4 c4 n5 c5 : Nat) (w : World) (ho : (kS rHead).rd w v o) (hbx : BoxN w g 44 [.int .i64 d.author, .int .i64 d.size, .int .i64 d.root, .slice a3 n3 c3, .slice a4 n4 c4, .slice a5 n5 c5])
    (hd : (kS rHead).rd w (.agg #[.int .i64 d.author, .int .i64 d.size, .int .i64 d.root, .slice a3 n3 c3, .slice a4 n4 c4, .slice a5 n5 c5]) d) :
    Calls Tryz.prog 136 #[v, .pointer (some ⟨g, 0, none⟩)] w fun e w' => e = .returned (.bool (decide (o = d))) ∧ Below w.heap.size w w' := by
  have hlt := hbx.lt
  have z0 := hbx.cell (i := 0) rfl
  have z1 := hbx.cell (i := 1) rfl
  have z2 := hbx.cell (i := 2) rfl
  have z3 := hbx.cell (i := 3) rfl
  have z4 := hbx.cell (i := 4) rfl
  have z5 := hbx.cell (i := 5) rfl
  obtain ⟨q, hq⟩ : ∃ q, decide (o = d) = q := ⟨_, rfl⟩
  have HQ := Lib.hid hq
  rw [hq]; clear hq hbx
  have HD := Lib.hid hd; clear hd
  obtain ⟨ao_3, no_3, co_3, ao_4, no_4, co_4, ao_5, no_5, co_5, rfl, jo_0, jo_1, jo_2, ko_3, ko_4, ko_5⟩ := rdHead.1 ho
  obtain ⟨W, hW⟩ : ∃ W, W = (w.alloc (.cells #[.int .i64 o.author, .int .i64 o.size, .int .i64 o.root, .slice ao_3 no_3 co_3, .slice ao_4 no_4 co_4, .slice ao_5 no_5 co_5] 44)) := ⟨_, rfl⟩
  have HWB : Hid (Below w.heap.size w W) := by unfold Hid; rw [hW]; (repeat (first | exact Below.refl _ _ | assumption | refine Below.drew ?_ | refine Below.alloc ?_ (by first | (simp; done) | (simp; omega)) _ | refine Below.setCell ?_ (by first | (simp; done) | (simp; omega)) _))
  have FX : Hid (∀ W', Below W.heap.size W W' → W'.cell? ⟨w.heap.size, 0, none⟩ = some (.int .i64 o.author) ∧ W'.cell? ⟨w.heap.size, 1, none⟩ = some (.int .i64 o.size) ∧ W'.cell? ⟨w.heap.size, 2, none⟩ = some (.int .i64 o.root) ∧ W'.cell? ⟨w.heap.size, 3, none⟩ = some (.slice ao_3 no_3 co_3) ∧ W'.cell? ⟨w.heap.size, 4, none⟩ = some (.slice ao_4 no_4 co_4) ∧ W'.cell? ⟨w.heap.size, 5, none⟩ = some (.slice ao_5 no_5 co_5)) := fun W' hb => by
    exact ⟨box_at (by rw [hW]; simp [go_sem]) hb, box_at (by rw [hW]; simp [go_sem]) hb, box_at (by rw [hW]; simp [go_sem]) hb, box_at (by rw [hW]; simp [go_sem]) hb, box_at (by rw [hW]; simp [go_sem]) hb, box_at (by rw [hW]; simp [go_sem]) hb⟩
  have hsW : W.heap.size = w.heap.size + 1 := by rw [hW]; simp
  have Ho := Lib.hid ((kS rHead).rd_below ho HWB.out); clear ho
  have Jo_0 := Lib.hid jo_0; clear jo_0
  have Jo_1 := Lib.hid jo_1; clear jo_1
  have Jo_2 := Lib.hid jo_2; clear jo_2
  have F_o_sign := Lib.hid ((kS rProof).rd_below (w := w) (rdProof.2 ⟨_, _, _, _, _, _, _, _, _, rfl, ko_3, ko_4, ko_5⟩ : (kS rProof).rd w (.agg #[.slice ao_3 no_3 co_3, .slice ao_4 no_4 co_4, .slice ao_5 no_5 co_5]) o.sign) HWB.out)
  clear ko_3 ko_4 ko_5
  have HW := Lib.hid hW; clear hW
  have hne : g ≠ w.heap.size := by omega
  go_enter Tryz.func136, Tryz.ntmps136
  go_wp2_with fail
  rw [← HW.out]
  have hcum : Below W.heap.size W W := Below.refl _ _
  obtain ⟨p0_0, p0_1, p0_2, p0_3, p0_4, p0_5⟩ := FX.out _ hcum
  refine (impl_sameHead _ o _ d _ Ho.out ((kS rHead).rd_below HD.out HWB.out)).mono ?_
  rintro e w1 ⟨rfl, hb1⟩
  rw [HQ.out]
  (replace hcum := hcum.trans (hb1.mono hcum.size)); clear hb1; clear p0_0 p0_1 p0_2 p0_3 p0_4 p0_5; obtain ⟨p0_0, p0_1, p0_2, p0_3, p0_4, p0_5⟩ := FX.out _ hcum
  go_wp2_with fail
  go_ret
  exact ⟨rfl, HWB.out.trans (hcum.mono HWB.out.size)⟩
/-- heads that are small enough to be copied -/
def smallH (ds : List HeadD) : Prop := ds.length ≤ 1000000 ∧ ∀ d ∈ ds, (szHead d : Int) ≤ 1000000000
set_option maxHeartbeats 8000000 in
theorem impl_mergeHeads (va : Value) (a : List HeadD) (vb : Value) (b : List HeadD) (w : World) (hza : smallH a) (ha : RdR rHead w va a) (hzb : smallH b) (hb : RdR rHead w vb b) :
    Calls Tryz.prog 103 #[va, vb] w fun e w' => ∃ v', e = .returned (.tuple #[v', .bool (decide ((mergeL a b).length ≤ 20))]) ∧ OwnR 44 rHead w' w.heap.size w'.heap.size v' (if (mergeL a b).length ≤ 20 then mergeL a b else []) ∧ Below w.heap.size w w' := by
  obtain ⟨ok, hok⟩ : ∃ q, decide ((mergeL a b).length ≤ 20) = q := ⟨_, rfl⟩
  obtain ⟨L, hL⟩ : ∃ L, (if (mergeL a b).length ≤ 20 then mergeL a b else []) = L := ⟨_, rfl⟩
  have HOK := Lib.hid hok
  have HLL := Lib.hid hL
  rw [hok, hL]
  clear hok hL
  obtain ⟨aa, na, ca, rfl⟩ := ha.shape
  obtain ⟨ab, nb, cb, rfl⟩ := hb.shape
  have ea := ha.len
  have eb := hb.len
  obtain ⟨k1, k2⟩ := ha.capMax
  obtain ⟨k3, k4⟩ := hb.capMax
  unfold maxLen at k2 k4
  have HEA := Lib.hid ea; have HEB := Lib.hid eb
  have hna : na ≤ 1000000 := by have := hza.1; omega
  have hnb : nb ≤ 1000000 := by have := hzb.1; omega
  have HZA := Lib.hid hza; have HZB := Lib.hid hzb
  have HA := Lib.hid ha; have HB := Lib.hid hb
  clear ha hb ea eb hza hzb
  obtain ⟨ti, hti, htz, hts, htb⟩ := info_Head
  have HO0 := Lib.hid (OwnR.lit0 44 rHead w w.heap.size (Nat.le_refl _))
  have HI : Hid (Tryz.prog.info? 44 = some ti ∧ ti.zero = some (.agg #[.int .i64 0, .int .i64 0, .int .i64 0, .slice none 0 0, .slice none 0 0, .slice none 0 0]) ∧ ti.size = 6 ∧ ti.bytes ≤ 1000) := ⟨hti, htz, hts, htb⟩
  clear hti htz hts htb
  go_enter Tryz.func103, Tryz.ntmps103
  go_wp2_with fail
  go_loopg [6, 14] na (fun g v6 i wr => ∃ k : Nat, k + g = na ∧ i = .int .i64 k ∧ OwnR 44 rHead wr w.heap.size wr.heap.size v6 (a.take k) ∧ Below w.heap.size w wr)
  case atStart => exact ⟨0, by omega, rfl, HO0.out, (Below.refl _ _).alloc (Nat.le_refl _) _⟩
  case round =>
    obtain ⟨k, hkg, rfl, hO, hbw⟩ := hrel
    by_cases hlt : k < na
    · have HK : Hid (k < a.length) := by unfold Hid; rw [HEA.out]; exact hlt
      obtain ⟨bb, oo, rfl, hcx⟩ := HA.out.at_ (by omega)
      obtain ⟨us, hcell, hrd⟩ := hcx k HK.out
      have HSZ : Hid ((szHead (a[k]'HK.out) : Int) ≤ 1000000000) := HZA.out.2 _ (List.getElem_mem HK.out)
      have HS := Lib.hid (List.take_succ_eq_append_getElem HK.out)
      have hlk : Hid ((a.take k).length ≤ 1000000000) := by unfold Hid; rw [List.length_take]; omega
      generalize a[k]'HK.out = d at hrd HS HSZ
      obtain ⟨a6, n6, c6, rfl⟩ := (OwnR.rd hO).shape
      have HO := Lib.hid hO; clear hO
      obtain ⟨_, rfl, i37, ⟨_, rfl, i38, ⟨_, rfl, i39, ⟨v40, _, rfl, h41, ⟨v42, _, rfl, h43, ⟨v44, _, rfl, h45, rfl⟩⟩⟩⟩⟩⟩ := hrd
      obtain ⟨aa0, nn0, cc0, rfl⟩ := sInts.sl h41
      obtain ⟨aa1, nn1, cc1, rfl⟩ := sInts.sl h43
      obtain ⟨aa2, nn2, cc2, rfl⟩ := sInts.sl h45
      have y0 : w.cell? ⟨bb, oo + (k * 6 + 0), none⟩ = some (.int .i64 d.author) := hcell 0 (by decide)
      replace y0 : w.cell? ⟨bb, oo + k * 6, none⟩ = some (.int .i64 d.author) := by rw [Nat.add_zero] at y0; exact y0
      have y1 : w.cell? ⟨bb, oo + (k * 6 + 1), none⟩ = some (.int .i64 d.size) := hcell 1 (by decide)
      replace y1 : w.cell? ⟨bb, oo + k * 6 + 1, none⟩ = some (.int .i64 d.size) := by rw [← Nat.add_assoc] at y1; exact y1
      have y2 : w.cell? ⟨bb, oo + (k * 6 + 2), none⟩ = some (.int .i64 d.root) := hcell 2 (by decide)
      replace y2 : w.cell? ⟨bb, oo + k * 6 + 2, none⟩ = some (.int .i64 d.root) := by rw [← Nat.add_assoc] at y2; exact y2
      have y3 : w.cell? ⟨bb, oo + (k * 6 + 3), none⟩ = some (.slice aa0 nn0 cc0) := hcell 3 (by decide)
      replace y3 : w.cell? ⟨bb, oo + k * 6 + 3, none⟩ = some (.slice aa0 nn0 cc0) := by rw [← Nat.add_assoc] at y3; exact y3
      have y4 : w.cell? ⟨bb, oo + (k * 6 + 4), none⟩ = some (.slice aa1 nn1 cc1) := hcell 4 (by decide)
      replace y4 : w.cell? ⟨bb, oo + k * 6 + 4, none⟩ = some (.slice aa1 nn1 cc1) := by rw [← Nat.add_assoc] at y4; exact y4
      have y5 : w.cell? ⟨bb, oo + (k * 6 + 5), none⟩ = some (.slice aa2 nn2 cc2) := hcell 5 (by decide)
      replace y5 : w.cell? ⟨bb, oo + k * 6 + 5, none⟩ = some (.slice aa2 nn2 cc2) := by rw [← Nat.add_assoc] at y5; exact y5
      have HR : Hid ((kS rHead).rd wr (.agg #[.int .i64 d.author, .int .i64 d.size, .int .i64 d.root, .slice aa0 nn0 cc0, .slice aa1 nn1 cc1, .slice aa2 nn2 cc2]) d) := (kS rHead).rd_below (rdHead.2 ⟨_, _, _, _, _, _, _, _, _, rfl, i37, i38, i39, h41, h43, h45⟩) hbw
      replace y0 := box_at y0 hbw
      replace y1 := box_at y1 hbw
      replace y2 := box_at y2 hbw
      replace y3 := box_at y3 hbw
      replace y4 := box_at y4 hbw
      replace y5 := box_at y5 hbw
      clear hcell hcx i37 i38 i39 h41 h43 h45
      go_wp2_with (first
        | (go_at_call 93; refine (impl_copyHead _ d _ HSZ.out ((kS rHead).rd_below HR.out ((Below.refl _ _).alloc (Nat.le_refl _) _))).mono ?_; rintro e w2 ⟨v', rfl, X, hb2⟩; (obtain ⟨_, rfl, X⟩ := X); (obtain ⟨_, rfl, j0, ⟨_, rfl, j1, ⟨_, rfl, j2, ⟨_, _, rfl, k3', ⟨_, _, rfl, k4', ⟨_, _, rfl, k5', rfl⟩⟩⟩⟩⟩⟩ := rHead.own_rd X); (obtain ⟨x3, z3, u3, rfl⟩ := sInts.sl k3'); (obtain ⟨x4, z4, u4, rfl⟩ := sInts.sl k4'); (obtain ⟨x5, z5, u5, rfl⟩ := sInts.sl k5'); clear j0 j1 j2 k3' k4' k5'; (have HX := Lib.hid X); clear X; (have hs2 : wr.heap.size + 1 ≤ w2.heap.size := (by have := hb2.size; simpa using this)); (have HB2 := Lib.hid ((hbw.alloc hbw.size _).trans (hb2.mono (by have := hbw.size; simp; omega)))); (have HO2 := Lib.hid (Kind.next (K := (kR 44 rHead).toKind) (Kind.next (K := (kR 44 rHead).toKind) HO.out ((Below.refl _ _).alloc (Nat.le_refl _) _)) hb2)))
        | (at_builtin; refine wpList_append_R rHead 53 44 ti (.agg #[.int .i64 0, .int .i64 0, .int .i64 0, .slice none 0 0, .slice none 0 0, .slice none 0 0]) Tryz.underlying53 HI.out.1 HI.out.2.1 HI.out.2.2.1 HI.out.2.2.2 rfl (by decide) rfl _ _ rfl w.heap.size wr.heap.size _ w2.heap.size (.slice a6 n6 c6) (a.take k) [.int .i64 d.author, .int .i64 d.size, .int .i64 d.root, .slice x3 z3 u3, .slice x4 z4 u4, .slice x5 z5 u5] d w2.heap.size 1 rfl rfl (Kind.next (K := (kR 44 rHead).toKind) HO2.out ((Below.refl _ _).alloc (Nat.le_refl _) _)) (RowK.next HX.out ((Below.refl _ _).alloc (Nat.le_refl _) _)) (by simp) (by simp) (by simp; omega) hbw.size (fun q hq => new_cells w2 _ _ q) hlk.out ?_; intro v3 w3 hO3 hb3)
        | fail)
      go_roundg (na - (k + 1))
      case measure => omega
      case rel => exact ⟨k + 1, by omega, by go_num, by rw [HS.out]; exact hO3, (HB2.out.alloc HB2.out.size _).trans hb3⟩
    · obtain rfl : na = k := by omega
      rw [List.take_of_length_le (by rw [HEA.out]; exact Nat.le_refl _)] at hO
      obtain ⟨wA, rfl⟩ : ∃ u, u = wr := ⟨_, rfl⟩
      have HOA := Lib.hid hO; clear hO
      have HBA := Lib.hid hbw; clear hbw
      go_wp2_with fail
      go_loopg [6, 26] nb (fun g v6 i wr => ∃ k : Nat, k + g = nb ∧ i = .int .i64 k ∧ OwnR 44 rHead wr w.heap.size wr.heap.size v6 (mergeL a (b.take k)) ∧ Below w.heap.size w wr)
      case atStart => exact ⟨0, by omega, rfl, HOA.out, HBA.out⟩
      case round =>
        obtain ⟨k, hkg2, rfl, hO, hbw⟩ := hrel
        by_cases hlt2 : k < nb
        · have HK : Hid (k < b.length) := by unfold Hid; rw [HEB.out]; exact hlt2
          obtain ⟨bb, oo, rfl, hcx⟩ := HB.out.at_ (by omega)
          obtain ⟨us, hcell, hrd⟩ := hcx k HK.out
          have HSZ : Hid ((szHead (b[k]'HK.out) : Int) ≤ 1000000000) := HZB.out.2 _ (List.getElem_mem HK.out)
          have HS := Lib.hid (mergeL_succ (a := a) HK.out)
          have hlk : Hid ((mergeL a (b.take k)).length ≤ 1000000000) := by
            have := mergeL_le a (b.take k); rw [List.length_take] at this; have := HEA.out; unfold Hid; omega
          generalize b[k]'HK.out = d at hrd HS HSZ
          generalize mergeL a (b.take k) = out at hO HS hlk
          obtain ⟨a6, n6, c6, rfl⟩ := (OwnR.rd hO).shape
          have HO := Lib.hid hO; clear hO
          obtain ⟨_, rfl, i46, ⟨_, rfl, i47, ⟨_, rfl, i48, ⟨v49, _, rfl, h50, ⟨v51, _, rfl, h52, ⟨v53, _, rfl, h54, rfl⟩⟩⟩⟩⟩⟩ := hrd
          obtain ⟨aa0, nn0, cc0, rfl⟩ := sInts.sl h50
          obtain ⟨aa1, nn1, cc1, rfl⟩ := sInts.sl h52
          obtain ⟨aa2, nn2, cc2, rfl⟩ := sInts.sl h54
          have y0 : w.cell? ⟨bb, oo + (k * 6 + 0), none⟩ = some (.int .i64 d.author) := hcell 0 (by decide)
          replace y0 : w.cell? ⟨bb, oo + k * 6, none⟩ = some (.int .i64 d.author) := by rw [Nat.add_zero] at y0; exact y0
          have y1 : w.cell? ⟨bb, oo + (k * 6 + 1), none⟩ = some (.int .i64 d.size) := hcell 1 (by decide)
          replace y1 : w.cell? ⟨bb, oo + k * 6 + 1, none⟩ = some (.int .i64 d.size) := by rw [← Nat.add_assoc] at y1; exact y1
          have y2 : w.cell? ⟨bb, oo + (k * 6 + 2), none⟩ = some (.int .i64 d.root) := hcell 2 (by decide)
          replace y2 : w.cell? ⟨bb, oo + k * 6 + 2, none⟩ = some (.int .i64 d.root) := by rw [← Nat.add_assoc] at y2; exact y2
          have y3 : w.cell? ⟨bb, oo + (k * 6 + 3), none⟩ = some (.slice aa0 nn0 cc0) := hcell 3 (by decide)
          replace y3 : w.cell? ⟨bb, oo + k * 6 + 3, none⟩ = some (.slice aa0 nn0 cc0) := by rw [← Nat.add_assoc] at y3; exact y3
          have y4 : w.cell? ⟨bb, oo + (k * 6 + 4), none⟩ = some (.slice aa1 nn1 cc1) := hcell 4 (by decide)
          replace y4 : w.cell? ⟨bb, oo + k * 6 + 4, none⟩ = some (.slice aa1 nn1 cc1) := by rw [← Nat.add_assoc] at y4; exact y4
          have y5 : w.cell? ⟨bb, oo + (k * 6 + 5), none⟩ = some (.slice aa2 nn2 cc2) := hcell 5 (by decide)
          replace y5 : w.cell? ⟨bb, oo + k * 6 + 5, none⟩ = some (.slice aa2 nn2 cc2) := by rw [← Nat.add_assoc] at y5; exact y5
          have HR : Hid ((kS rHead).rd wr (.agg #[.int .i64 d.author, .int .i64 d.size, .int .i64 d.root, .slice aa0 nn0 cc0, .slice aa1 nn1 cc1, .slice aa2 nn2 cc2]) d) := (kS rHead).rd_below (rdHead.2 ⟨_, _, _, _, _, _, _, _, _, rfl, i46, i47, i48, h50, h52, h54⟩) hbw
          replace y0 := box_at y0 hbw
          replace y1 := box_at y1 hbw
          replace y2 := box_at y2 hbw
          replace y3 := box_at y3 hbw
          replace y4 := box_at y4 hbw
          replace y5 := box_at y5 hbw
          clear hcell hcx i46 i47 i48 h50 h52 h54
          obtain ⟨U, hU⟩ : ∃ U, U = wr.alloc (.cells #[.int .i64 d.author, .int .i64 d.size, .int .i64 d.root, .slice aa0 nn0 cc0, .slice aa1 nn1 cc1, .slice aa2 nn2 cc2] 44) := ⟨_, rfl⟩
          have hbU : Below wr.heap.size wr U := by rw [hU]; exact (Below.refl _ _).alloc (Nat.le_refl _) _
          have hsU : U.heap.size = wr.heap.size + 1 := by rw [hU]; simp
          have BX : Hid (BoxN U wr.heap.size 44 [.int .i64 d.author, .int .i64 d.size, .int .i64 d.root, .slice aa0 nn0 cc0, .slice aa1 nn1 cc1, .slice aa2 nn2 cc2]) := by unfold Hid; rw [hU]; exact BoxN.new wr [.int .i64 d.author, .int .i64 d.size, .int .i64 d.root, .slice aa0 nn0 cc0, .slice aa1 nn1 cc1, .slice aa2 nn2 cc2] _
          have HRU : Hid ((kS rHead).rd U (.agg #[.int .i64 d.author, .int .i64 d.size, .int .i64 d.root, .slice aa0 nn0 cc0, .slice aa1 nn1 cc1, .slice aa2 nn2 cc2]) d) := (kS rHead).rd_below HR.out hbU
          have HDC : Hid (DecidesS rHead U 136 #[.pointer (some ⟨wr.heap.size, 0, none⟩)] (fun o => decide (o = d))) :=
            ⟨Tryz.call136, fun v o wx ho hbx => impl_mergeHeads1 v o wr.heap.size d _ _ _ _ _ _ _ _ _ wx ho (BX.out.below hbx) ((kS rHead).rd_below HRU.out hbx)⟩
          have HOU := Lib.hid (Kind.next (K := (kR 44 rHead).toKind) HO.out hbU)
          have HBU := Lib.hid (hbw.trans (hbU.mono hbw.size))
          have hwr := hbw.size
          have HU := Lib.hid hU; clear hbU hbw
          obtain ⟨q, hq⟩ : ∃ q, (out.any fun o => decide (o = d)) = q := ⟨_, rfl⟩
          have HQ := Lib.hid hq; clear hq
          go_wp2_with fail
          rw [← hU]; clear hU
          refine (slices_ContainsFuncHead _ out _ _ (fun o => decide (o = d)) _ (OwnR.rd HOU.out) HDC.out).mono ?_
          rintro e w2 ⟨rfl, hb2⟩
          rw [HQ.out]
          have HB2 := Lib.hid (HBU.out.trans (hb2.mono HBU.out.size))
          have HO2 := Lib.hid (Kind.next (K := (kR 44 rHead).toKind) HOU.out hb2)
          have HR2 := Lib.hid ((kS rHead).rd_below HRU.out hb2)
          have BX2 := Lib.hid (BX.out.below hb2)
          have hs2 := hb2.size
          clear hb2
          cases q with
          | true =>
            have HE : Hid (mergeL a (b.take (k + 1)) = out) := by unfold Hid; rw [HS.out]; unfold addH; rw [HQ.out, if_pos rfl]
            go_wp2_with fail
            go_roundg (nb - (k + 1))
            case measure => omega
            case rel => exact ⟨k + 1, by omega, by go_num, by rw [HE.out]; exact (kR 44 rHead).own_mono HO2.out (Nat.le_refl _) (by omega), HB2.out⟩
          | false =>
            have HE : Hid (mergeL a (b.take (k + 1)) = out ++ [d]) := by unfold Hid; rw [HS.out]; unfold addH; rw [HQ.out, if_neg (by simp)]
            have x0 := BX2.out.cell (i := 0) rfl
            have x1 := BX2.out.cell (i := 1) rfl
            have x2 := BX2.out.cell (i := 2) rfl
            have x3 := BX2.out.cell (i := 3) rfl
            have x4 := BX2.out.cell (i := 4) rfl
            have x5 := BX2.out.cell (i := 5) rfl
            go_wp2_with (first
              | (go_at_call 93; refine (impl_copyHead _ d _ HSZ.out HR2.out).mono ?_; rintro e w3 ⟨v', rfl, X, hb3⟩; (obtain ⟨_, rfl, X⟩ := X); (obtain ⟨_, rfl, j0, ⟨_, rfl, j1, ⟨_, rfl, j2, ⟨_, _, rfl, k3', ⟨_, _, rfl, k4', ⟨_, _, rfl, k5', rfl⟩⟩⟩⟩⟩⟩ := rHead.own_rd X); (obtain ⟨y3, z3, u3, rfl⟩ := sInts.sl k3'); (obtain ⟨y4, z4, u4, rfl⟩ := sInts.sl k4'); (obtain ⟨y5, z5, u5, rfl⟩ := sInts.sl k5'); clear j0 j1 j2 k3' k4' k5'; (have HX := Lib.hid X); clear X; (have hs3 := hb3.size); (have HB3 := Lib.hid (HB2.out.trans (hb3.mono HB2.out.size))); (have HO3 := Lib.hid (Kind.next (K := (kR 44 rHead).toKind) HO2.out hb3)))
              | (at_builtin; refine wpList_append_R rHead 53 44 ti (.agg #[.int .i64 0, .int .i64 0, .int .i64 0, .slice none 0 0, .slice none 0 0, .slice none 0 0]) Tryz.underlying53 HI.out.1 HI.out.2.1 HI.out.2.2.1 HI.out.2.2.2 rfl (by decide) rfl _ _ rfl w.heap.size wr.heap.size w2.heap.size w3.heap.size (.slice a6 n6 c6) out [.int .i64 d.author, .int .i64 d.size, .int .i64 d.root, .slice y3 z3 u3, .slice y4 z4 u4, .slice y5 z5 u5] d w3.heap.size 1 rfl rfl (Kind.next (K := (kR 44 rHead).toKind) HO3.out ((Below.refl _ _).alloc (Nat.le_refl _) _)) (RowK.next HX.out ((Below.refl _ _).alloc (Nat.le_refl _) _)) (by omega) (by simp) (by simp; omega) hwr (fun q hq => new_cells w3 _ _ q) hlk.out ?_; intro v4 w4 hO4 hb4)
              | fail)
            go_roundg (nb - (k + 1))
            case measure => omega
            case rel => exact ⟨k + 1, by omega, by go_num, by rw [HE.out]; exact hO4, (HB3.out.alloc HB3.out.size _).trans hb4⟩
        · obtain rfl : nb = k := by omega
          rw [List.take_of_length_le (by rw [HEB.out]; exact Nat.le_refl _)] at hO
          obtain ⟨a6, n6, c6, rfl⟩ := (OwnR.rd hO).shape
          have hlen := (OwnR.rd hO).len
          have HO := Lib.hid hO; clear hO
          by_cases h20 : (n6 : Int) ≤ 20
          · have HT : Hid ((mergeL a b).length ≤ 20) := by unfold Hid; omega
            clear hlen
            go_wp2_with fail
            go_ret2
            have e1 := HOK.out
            have e2 := HLL.out
            rw [decide_eq_true HT.out] at e1
            rw [if_pos HT.out] at e2
            rw [← e1, ← e2]
            exact ⟨_, rfl, HO.out, hbw⟩
          · have HT : Hid (¬ (mergeL a b).length ≤ 20) := by unfold Hid; omega
            clear hlen
            go_wp2_with fail
            go_ret2
            have e1 := HOK.out
            have e2 := HLL.out
            rw [decide_eq_false HT.out] at e1
            rw [if_neg HT.out] at e2
            rw [← e1, ← e2]
            exact ⟨_, rfl, OwnR.nil _ _ _ _ _, hbw⟩
end Go.Proofs.YtodennbdfloccaaGreat
