/- The walks of laws, by program (genlaw2.py). -/
import Derived.Test.YtaobocbbaoanhaaMergeB
namespace Go.Proofs.Ytaobocbbaoanhaa
open Go.RowKit
set_option linter.unusedSimpArgs false
set_option linter.unusedVariables false

set_option maxRecDepth 100000 in
set_option maxHeartbeats 2000000 in
theorem law_MergeHeads (a : Value) (la : List HeadD) (b : Value) (lb : List HeadD) (w : World) (ha : (kR 32 rHead).rd w a la) (hb : (kR 32 rHead).rd w b lb) :
    Calls Try.prog 4 #[a, b] w fun e w' => e = .returned (.bool true) ∧ Below w.heap.size w w' := by
  have Ha := Lib.hid ha; clear ha
  have Hb := Lib.hid hb; clear hb
  go_enter Try.func4, Try.ntmps4
  go_wp2_with fail
  refine (laws_szHeadS _ la 1048576 _ ((kR 32 rHead).rd_below Ha.out (Below.refl _ _)) (by decide) (by decide)).mono ?_
  rintro e w1 ⟨⟨r0, rfl, hr0, hsz0⟩, hb1⟩
  replace hsz0 : 0 ≤ r0 → (szHeadS la : Int) ≤ 1048576 ∧ r0 ≤ 1048576 := fun h => by have := hsz0 h; omega
  have HB1 := Lib.hid (Below.next (Below.refl _ _) hb1)
  have hs1 := hb1.size
  have AJ1 := Lib.hid hb1; clear hb1
  by_cases hneg0 : r0 < 0
  · go_wp2_with fail
    go_ret
    exact ⟨rfl, HB1.out⟩
  · have HZa : Hid ((szHeadS la : Int) ≤ 1000000000) := by have := (hsz0 (by omega)).1; unfold Hid; omega
    have hrb0 : r0 ≤ 1048576 := by have := (hsz0 (by omega)).2; omega
    clear hsz0
    go_wp2_with fail
    refine (laws_szHeadS _ lb r0 _ ((kR 32 rHead).rd_below Hb.out HB1.out) (by omega) (by omega)).mono ?_
    rintro e w2 ⟨⟨r1, rfl, hr1, hsz1⟩, hb2⟩
    replace hsz1 : 0 ≤ r1 → (szHeadS lb : Int) ≤ r0 ∧ r1 ≤ r0 := fun h => by have := hsz1 h; omega
    have HB2 := Lib.hid (Below.next HB1.out hb2)
    have hs2 := hb2.size
    have AJ2 := Lib.hid hb2; clear hb2
    by_cases hneg1 : r1 < 0
    · go_wp2_with fail
      go_ret
      exact ⟨rfl, HB2.out⟩
    · have HZb : Hid ((szHeadS lb : Int) ≤ 1000000000) := by have := (hsz1 (by omega)).1; unfold Hid; omega
      have hrb1 : r1 ≤ 1048576 := by have := (hsz1 (by omega)).2; omega
      clear hsz1
      go_wp2_with fail
      refine (laws_toHeadS _ la _ ((kR 32 rHead).rd_below Ha.out HB2.out) HZa.out).mono ?_
      rintro e w3 ⟨sa, rfl, hX, hb3⟩
      have Osa := Lib.hid (hX); clear hX
      have HB3 := Lib.hid (Below.next HB2.out hb3)
      have hs3 := hb3.size
      have AJ3 := Lib.hid hb3; clear hb3
      go_wp2_with fail
      refine (laws_toHeadS _ lb _ ((kR 32 rHead).rd_below Hb.out HB3.out) HZb.out).mono ?_
      rintro e w4 ⟨sb, rfl, hX, hb4⟩
      have Osb := Lib.hid (hX); clear hX
      have HB4 := Lib.hid (Below.next HB3.out hb4)
      have hs4 := hb4.size
      have AJ4 := Lib.hid hb4; clear hb4
      go_wp2_with fail
      refine (spec_MergeHeads _ la _ lb _ HZa.out ((kR 32 rHead).own_rd (Kind.next (K := (kR 32 rHead).toKind) Osa.out AJ4.out)) HZb.out ((kR 32 rHead).own_rd Osb.out)).mono ?_
      rintro e w5 ⟨want0, rfl, hXwant0, hb5⟩
      have Owant0 := Lib.hid hXwant0; clear hXwant0
      have HB5 := Lib.hid (Below.next HB4.out hb5)
      have hs5 := hb5.size
      have AJ5 := Lib.hid hb5; clear hb5
      go_wp2_with fail
      refine (laws_toHeadS _ la _ ((kR 32 rHead).rd_below Ha.out HB5.out) HZa.out).mono ?_
      rintro e w6 ⟨xa, rfl, hX, hb6⟩
      have Oxa := Lib.hid (hX); clear hX
      have HB6 := Lib.hid (Below.next HB5.out hb6)
      have hs6 := hb6.size
      have AJ6 := Lib.hid hb6; clear hb6
      go_wp2_with fail
      refine (laws_toHeadS _ lb _ ((kR 32 rHead).rd_below Hb.out HB6.out) HZb.out).mono ?_
      rintro e w7 ⟨xb, rfl, hX, hb7⟩
      have Oxb := Lib.hid (hX); clear hX
      have HB7 := Lib.hid (Below.next HB6.out hb7)
      have hs7 := hb7.size
      have AJ7 := Lib.hid hb7; clear hb7
      go_wp2_with fail
      refine (impl_MergeHeads _ la _ lb _ HZa.out ((kR 32 rHead).own_rd (Kind.next (K := (kR 32 rHead).toKind) Oxa.out AJ7.out)) HZb.out ((kR 32 rHead).own_rd Oxb.out)).mono ?_
      rintro e w8 ⟨got0, rfl, hXgot0, hb8⟩
      have Ogot0 := Lib.hid hXgot0; clear hXgot0
      have HB8 := Lib.hid (Below.next HB7.out hb8)
      have hs8 := hb8.size
      have AJ8 := Lib.hid hb8; clear hb8
      go_wp2_with fail
      refine (laws_eqHeadS _ _ _ _ _ ((kR 32 rHead).own_rd Ogot0.out) ((kR 32 rHead).own_rd (Kind.next (K := (kR 32 rHead).toKind) (Kind.next (K := (kR 32 rHead).toKind) (Kind.next (K := (kR 32 rHead).toKind) Owant0.out AJ6.out) AJ7.out) AJ8.out))).mono ?_
      rintro e w9 ⟨rfl, hb9⟩
      rw [decide_eq_true rfl]
      have HB9 := Lib.hid (Below.next HB8.out hb9)
      have hs9 := hb9.size
      have AJ9 := Lib.hid hb9; clear hb9
      go_wp2_with fail
      refine (laws_toHeadS _ la _ ((kR 32 rHead).rd_below Ha.out HB9.out) HZa.out).mono ?_
      rintro e w10 ⟨ya, rfl, hX, hb10⟩
      have Oya := Lib.hid (hX); clear hX
      have HB10 := Lib.hid (Below.next HB9.out hb10)
      have hs10 := hb10.size
      have AJ10 := Lib.hid hb10; clear hb10
      go_wp2_with fail
      refine (laws_eqHeadS _ _ _ _ _ ((kR 32 rHead).own_rd (Kind.next (K := (kR 32 rHead).toKind) (Kind.next (K := (kR 32 rHead).toKind) (Kind.next (K := (kR 32 rHead).toKind) (Kind.next (K := (kR 32 rHead).toKind) Oxa.out AJ7.out) AJ8.out) AJ9.out) AJ10.out)) ((kR 32 rHead).own_rd Oya.out)).mono ?_
      rintro e w11 ⟨rfl, hb11⟩
      rw [decide_eq_true rfl]
      have HB11 := Lib.hid (Below.next HB10.out hb11)
      have hs11 := hb11.size
      have AJ11 := Lib.hid hb11; clear hb11
      go_wp2_with fail
      refine (laws_toHeadS _ lb _ ((kR 32 rHead).rd_below Hb.out HB11.out) HZb.out).mono ?_
      rintro e w12 ⟨yb, rfl, hX, hb12⟩
      have Oyb := Lib.hid (hX); clear hX
      have HB12 := Lib.hid (Below.next HB11.out hb12)
      have hs12 := hb12.size
      have AJ12 := Lib.hid hb12; clear hb12
      go_wp2_with fail
      refine (laws_eqHeadS _ _ _ _ _ ((kR 32 rHead).own_rd (Kind.next (K := (kR 32 rHead).toKind) (Kind.next (K := (kR 32 rHead).toKind) (Kind.next (K := (kR 32 rHead).toKind) (Kind.next (K := (kR 32 rHead).toKind) (Kind.next (K := (kR 32 rHead).toKind) Oxb.out AJ8.out) AJ9.out) AJ10.out) AJ11.out) AJ12.out)) ((kR 32 rHead).own_rd Oyb.out)).mono ?_
      rintro e w13 ⟨rfl, hb13⟩
      rw [decide_eq_true rfl]
      have HB13 := Lib.hid (Below.next HB12.out hb13)
      have hs13 := hb13.size
      have AJ13 := Lib.hid hb13; clear hb13
      go_wp2_with fail
      refine (laws_markHeadS _ _ _ 1 _ _ (Kind.next (K := (kR 32 rHead).toKind) (Kind.next (K := (kR 32 rHead).toKind) (Kind.next (K := (kR 32 rHead).toKind) (Kind.next (K := (kR 32 rHead).toKind) (Kind.next (K := (kR 32 rHead).toKind) (Kind.next (K := (kR 32 rHead).toKind) (Kind.next (K := (kR 32 rHead).toKind) Oxa.out AJ7.out) AJ8.out) AJ9.out) AJ10.out) AJ11.out) AJ12.out) AJ13.out) (by have := HZa.out; have := cnHeadS_le la; omega) (by omega)).mono ?_
      rintro e w14 ⟨rfl, hX, hG14⟩
      have Oxam := Lib.hid hX; clear hX
      have hs14 := hG14.size
      have HB14 := Lib.hid (HB13.out.trans (hG14.below (B := w.heap.size) (by omega) (by omega)))
      have HG14 := Lib.hid hG14; clear hG14
      go_wp2_with fail
      refine (laws_markHeadS _ _ _ (1 + (cnHeadS la)) _ _ (Kind.kept (K := (kR 32 rHead).toKind) (Kind.next (K := (kR 32 rHead).toKind) (Kind.next (K := (kR 32 rHead).toKind) (Kind.next (K := (kR 32 rHead).toKind) (Kind.next (K := (kR 32 rHead).toKind) (Kind.next (K := (kR 32 rHead).toKind) (Kind.next (K := (kR 32 rHead).toKind) Oxb.out AJ8.out) AJ9.out) AJ10.out) AJ11.out) AJ12.out) AJ13.out) HG14.out (.inr (by omega))) (by have := HZa.out; have := cnHeadS_le la; have := HZb.out; have := cnHeadS_le lb; omega) (by omega)).mono ?_
      rintro e w15 ⟨rfl, hX, hG15⟩
      have Oxbm := Lib.hid hX; clear hX
      have hs15 := hG15.size
      have HB15 := Lib.hid (HB14.out.trans (hG15.below (B := w.heap.size) (by omega) (by omega)))
      have HG15 := Lib.hid hG15; clear hG15
      go_wp2_with fail
      refine (laws_eqHeadS _ _ _ _ _ ((kR 32 rHead).own_rd (Kind.kept (K := (kR 32 rHead).toKind) (Kind.kept (K := (kR 32 rHead).toKind) (Kind.next (K := (kR 32 rHead).toKind) (Kind.next (K := (kR 32 rHead).toKind) (Kind.next (K := (kR 32 rHead).toKind) (Kind.next (K := (kR 32 rHead).toKind) (Kind.next (K := (kR 32 rHead).toKind) Ogot0.out AJ9.out) AJ10.out) AJ11.out) AJ12.out) AJ13.out) HG14.out (.inr (by omega))) HG15.out (.inr (by omega)))) ((kR 32 rHead).own_rd (Kind.kept (K := (kR 32 rHead).toKind) (Kind.kept (K := (kR 32 rHead).toKind) (Kind.next (K := (kR 32 rHead).toKind) (Kind.next (K := (kR 32 rHead).toKind) (Kind.next (K := (kR 32 rHead).toKind) (Kind.next (K := (kR 32 rHead).toKind) (Kind.next (K := (kR 32 rHead).toKind) (Kind.next (K := (kR 32 rHead).toKind) (Kind.next (K := (kR 32 rHead).toKind) (Kind.next (K := (kR 32 rHead).toKind) Owant0.out AJ6.out) AJ7.out) AJ8.out) AJ9.out) AJ10.out) AJ11.out) AJ12.out) AJ13.out) HG14.out (.inl (by omega))) HG15.out (.inl (by omega))))).mono ?_
      rintro e w16 ⟨rfl, hb16⟩
      rw [decide_eq_true rfl]
      have HB16 := Lib.hid (Below.next HB15.out hb16)
      have hs16 := hb16.size
      have AJ16 := Lib.hid hb16; clear hb16
      have LG0 : Hid (1 + (cnHeadS (mhL la lb)) ≤ 9223372036854775806) := by have := cn_mhL la lb; have := cnHeadS_le la; have := cnHeadS_le lb; have := HZa.out; have := HZb.out; unfold Hid; omega
      go_wp2_with fail
      refine (laws_markHeadS _ _ _ 1 _ _ (Kind.next (K := (kR 32 rHead).toKind) (Kind.kept (K := (kR 32 rHead).toKind) (Kind.kept (K := (kR 32 rHead).toKind) (Kind.next (K := (kR 32 rHead).toKind) (Kind.next (K := (kR 32 rHead).toKind) (Kind.next (K := (kR 32 rHead).toKind) (Kind.next (K := (kR 32 rHead).toKind) (Kind.next (K := (kR 32 rHead).toKind) Ogot0.out AJ9.out) AJ10.out) AJ11.out) AJ12.out) AJ13.out) HG14.out (.inr (by omega))) HG15.out (.inr (by omega))) AJ16.out) (by exact LG0.out) (by omega)).mono ?_
      rintro e w17 ⟨rfl, hX, hG17⟩
      have Ogot0m := Lib.hid hX; clear hX
      have hs17 := hG17.size
      have HB17 := Lib.hid (HB16.out.trans (hG17.below (B := w.heap.size) (by omega) (by omega)))
      have HG17 := Lib.hid hG17; clear hG17
      go_wp2_with fail
      refine (laws_heldHeadS _ 1 _ _ ((kR 32 rHead).own_rd Ogot0m.out) (by exact LG0.out)).mono ?_
      rintro e w18 ⟨rfl, hb18⟩
      have HB18 := Lib.hid (Below.next HB17.out hb18)
      have hs18 := hb18.size
      have AJ18 := Lib.hid hb18; clear hb18
      go_wp2_with fail
      refine (laws_toHeadS _ la _ ((kR 32 rHead).rd_below Ha.out HB18.out) HZa.out).mono ?_
      rintro e w19 ⟨za, rfl, hX, hb19⟩
      have Oza := Lib.hid (hX); clear hX
      have HB19 := Lib.hid (Below.next HB18.out hb19)
      have hs19 := hb19.size
      have AJ19 := Lib.hid hb19; clear hb19
      go_wp2_with fail
      refine (laws_toHeadS _ lb _ ((kR 32 rHead).rd_below Hb.out HB19.out) HZb.out).mono ?_
      rintro e w20 ⟨zb, rfl, hX, hb20⟩
      have Ozb := Lib.hid (hX); clear hX
      have HB20 := Lib.hid (Below.next HB19.out hb20)
      have hs20 := hb20.size
      have AJ20 := Lib.hid hb20; clear hb20
      go_wp2_with fail
      refine (impl_MergeHeads _ la _ lb _ HZa.out ((kR 32 rHead).own_rd (Kind.next (K := (kR 32 rHead).toKind) Oza.out AJ20.out)) HZb.out ((kR 32 rHead).own_rd Ozb.out)).mono ?_
      rintro e w21 ⟨again0, rfl, hXagain0, hb21⟩
      have Oagain0 := Lib.hid hXagain0; clear hXagain0
      have HB21 := Lib.hid (Below.next HB20.out hb21)
      have hs21 := hb21.size
      have AJ21 := Lib.hid hb21; clear hb21
      go_wp2_with fail
      refine (laws_eqHeadS _ _ _ _ _ ((kR 32 rHead).own_rd Oagain0.out) ((kR 32 rHead).own_rd (Kind.next (K := (kR 32 rHead).toKind) (Kind.next (K := (kR 32 rHead).toKind) (Kind.next (K := (kR 32 rHead).toKind) (Kind.next (K := (kR 32 rHead).toKind) (Kind.kept (K := (kR 32 rHead).toKind) (Kind.next (K := (kR 32 rHead).toKind) (Kind.kept (K := (kR 32 rHead).toKind) (Kind.kept (K := (kR 32 rHead).toKind) (Kind.next (K := (kR 32 rHead).toKind) (Kind.next (K := (kR 32 rHead).toKind) (Kind.next (K := (kR 32 rHead).toKind) (Kind.next (K := (kR 32 rHead).toKind) (Kind.next (K := (kR 32 rHead).toKind) (Kind.next (K := (kR 32 rHead).toKind) (Kind.next (K := (kR 32 rHead).toKind) (Kind.next (K := (kR 32 rHead).toKind) Owant0.out AJ6.out) AJ7.out) AJ8.out) AJ9.out) AJ10.out) AJ11.out) AJ12.out) AJ13.out) HG14.out (.inl (by omega))) HG15.out (.inl (by omega))) AJ16.out) HG17.out (.inl (by omega))) AJ18.out) AJ19.out) AJ20.out) AJ21.out))).mono ?_
      rintro e w22 ⟨rfl, hb22⟩
      rw [decide_eq_true rfl]
      have HB22 := Lib.hid (Below.next HB21.out hb22)
      have hs22 := hb22.size
      have AJ22 := Lib.hid hb22; clear hb22
      go_wp2_with fail
      refine (laws_heldHeadS _ 1 _ _ ((kR 32 rHead).own_rd (Kind.next (K := (kR 32 rHead).toKind) (Kind.next (K := (kR 32 rHead).toKind) (Kind.next (K := (kR 32 rHead).toKind) (Kind.next (K := (kR 32 rHead).toKind) (Kind.next (K := (kR 32 rHead).toKind) Ogot0m.out AJ18.out) AJ19.out) AJ20.out) AJ21.out) AJ22.out)) (by exact LG0.out)).mono ?_
      rintro e w23 ⟨rfl, hb23⟩
      have HB23 := Lib.hid (Below.next HB22.out hb23)
      have hs23 := hb23.size
      have AJ23 := Lib.hid hb23; clear hb23
      go_wp2_with fail
      go_ret
      exact ⟨rfl, HB23.out⟩
end Go.Proofs.Ytaobocbbaoanhaa
