/- The walk of FnPassing (printed by gen_lawpas.py). -/
import Derived.Test.YtacpnphfopmofaaInvP
import Derived.Test.YtacpnphfopmofaaDrP2P
import Derived.Test.YtacpnphfopmofaaDrN2P
import Derived.Test.YtacpnphfopmofaaBat2P
import Derived.Test.YtacpnphfopmofaaBmP
import Derived.Deep.Cut
import Derived.Test.YtacpnphfopmofaaBaP
import Derived.WalkKit
import Derived.ProofKit
import Derived.OpenShut
import Derived.JoinedCond
import Derived.Lib.SmallJoins
import Derived.Deep.Fields
import Derived.Test.YtacpnphfopmofaaOpLP
import Derived.Test.YtacpnphfopmofaaBgP
namespace Go.Proofs.Ytacpnphfopmofaa
open Go.RowKit
set_option linter.unusedSimpArgs false
set_option linter.unusedVariables false
def bigB (m m' : Nat) : Bool := decide ((1048576 : Int) < (m : Int)) || decide ((1048576 : Int) - (m : Int) < (m' : Int))
theorem laws_big (a a' : Option Addr) (m c m' c' : Nat) (w : World) (hm : (m : Int) ≤ 9223372036854775807) :
    Calls Try.prog 16 #[.slice a m c, .slice a' m' c'] w fun e w' => e = .returned (.bool (bigB m m')) ∧ w = w' := by
  have ew : IntKind.i64.wrap ((1048576 : Int) - (m : Int)) = (1048576 : Int) - (m : Int) := IntWalk.i64_in _ (by omega)
  by_cases h : (1048576 : Int) < (m : Int)
  · have HB : Hid (bigB m m' = true) := by unfold Hid bigB; rw [decide_eq_true h]; rfl
    rw [HB.out]
    have hd : decide ((1048576 : Int) < (m : Int)) = true := decide_eq_true h
    go_enter Try.func16, Try.ntmps16
    go_wp2_with fail
    go_ret
    exact ⟨rfl, rfl⟩
  · obtain ⟨q, hq⟩ : ∃ q, decide ((1048576 : Int) - (m : Int) < (m' : Int)) = q := ⟨_, rfl⟩
    have HB : Hid (bigB m m' = q) := by unfold Hid bigB; rw [decide_eq_false h, hq]; rfl
    rw [HB.out]
    have hd : decide ((1048576 : Int) < (m : Int)) = false := decide_eq_false h
    have HQ := Lib.hid hq
    clear hq
    go_enter Try.func16, Try.ntmps16
    go_wp2_with fail
    go_ret
    exact ⟨ret_bool HQ.out, rfl⟩
theorem wrN_bd (es : List Int) (k : Nat) : 0 ≤ wrN es k ∧ wrN es k ≤ k := by
  induction k with
  | zero => exact ⟨Int.le_refl _, Int.le_refl _⟩
  | succ k ih => unfold wrN; split <;> omega
/-- what the counts say -/
theorem pas_facts {q : Int} {es : List Int} (h : erB q es = true) : (wrN es es.length = 0 → cpR q es = (((q - 1).toNat ^ es.length : Nat) : Int)) ∧ (wrN es es.length = 1 → cpR q es = 0) ∧ (0 < wrN es es.length → cpR q es * (q - 1) ≤ (((q - 1).toNat ^ es.length : Nat) : Int)) := by
  obtain ⟨hq, hp, hl, he⟩ := erB_parts h
  have e : cpR q es = pgR q es 0 := by unfold cpR; rw [if_pos h]
  have hpr : Prm q := primeB_iff.1 hp
  rw [e, wrN_all]
  refine ⟨fun h0 => pass_all hq.1 he (by omega), fun h1 => pass_one hpr es he (by omega), fun h2 => pass_few hpr es 0 he (pass_some (by omega))⟩
theorem cpR_bd (q : Int) (es : List Int) : 0 ≤ cpR q es ∧ cpR q es ≤ 10648 := by
  unfold cpR
  split
  · rename_i h
    obtain ⟨hq, hp, hl, he⟩ := erB_parts h
    have h1 := pgR_bd (q := q) es 0
    have h2 : (q - 1).toNat ^ es.length ≤ 22 ^ 3 := Nat.le_trans (Nat.pow_le_pow_left (by omega) _) (Nat.pow_le_pow_right (by decide) hl.2)
    have h3 : (22 : Nat) ^ 3 = 10648 := by decide
    omega
  · exact ⟨by decide, by decide⟩
theorem pow_bdP {m k : Nat} (hm : 1 ≤ m ∧ m ≤ 22) (hk : k ≤ 3) : 1 ≤ m ^ k ∧ m ^ k ≤ 10648 := by
  have h2 : m ^ k ≤ 22 ^ 3 := Nat.le_trans (Nat.pow_le_pow_left hm.2 _) (Nat.pow_le_pow_right (by decide) hk)
  have h3 : (22 : Nat) ^ 3 = 10648 := by decide
  exact ⟨Nat.pow_pos (by omega), by omega⟩
set_option maxRecDepth 100000 in
set_option maxHeartbeats 8000000 in
theorem law_Passing (va vb : Value) (w : World) (h1 : Bytes w va) (h2 : Bytes w vb) :
    Calls Try.prog 4 #[va, vb] w fun e w' => e = .returned (.bool true) ∧ Below w.heap.size w w' := by
  obtain ⟨a, m, c, rfl, k1, k2, hv⟩ := h1
  obtain ⟨a', m', c', rfl, k3, k4, hv'⟩ := h2
  have H1 : Hid (Bytes w (.slice a m c)) := ⟨a, m, c, rfl, k1, k2, hv⟩
  have H2 : Hid (Bytes w (.slice a' m' c')) := ⟨a', m', c', rfl, k3, k4, hv'⟩
  clear hv hv'
  unfold maxLen at k2 k4
  rcases (by cases bigB m m' <;> simp : bigB m m' = true ∨ bigB m m' = false) with hbig | hbig
  · go_enter Try.func4, Try.ntmps4
    go_wp2_with fail
    refine (laws_big _ _ _ _ _ _ _ (by omega)).mono ?_
    rintro e w1 ⟨rfl, rfl⟩
    rw [hbig]
    go_wp2_with fail
    go_ret
    exact ⟨rfl, Below.refl _ _⟩
  have HBG := Lib.hid hbig
  clear hbig
  have HB : Hid (Below w.heap.size w w) := Below.refl _ _
  go_enter Try.func4, Try.ntmps4
  go_wp2_with fail
  refine (laws_big _ _ _ _ _ _ _ (by omega)).mono ?_
  rintro e w1 ⟨rfl, rfl⟩
  rw [HBG.out]
  clear HBG
  go_wp2_with fail
  try (go_wp2_with fail)
  refine (spec_DrawCountPassing _ _ (H1.out.below HB.out)).mono ?_
  rintro e u1 ⟨⟨x1a, v1b, l1b, rfl, ⟨x1al, x1au⟩, ⟨hs1b, hl1b⟩⟩, hb⟩
  have HL1b := Lib.hid hs1b
  obtain ⟨a1b, n1b, c1b, rfl⟩ := hs1b.shape
  have HE1b := Lib.hid hs1b.len
  clear hs1b
  replace HB := Lib.hid (Below.next HB.out hb)
  clear hb
  try (go_wp2_with fail)
  refine (impl_CountPassing x1a _ l1b _ HL1b.out).mono ?_
  rintro e u2 ⟨rfl, hb⟩
  obtain ⟨r2a, hr2a⟩ : ∃ r, cpR x1a l1b = r := ⟨_, rfl⟩
  have Hr2a := Lib.hid hr2a
  rw [hr2a]
  clear hr2a
  obtain ⟨q2b, hq2b⟩ : ∃ r, erB x1a l1b = r := ⟨_, rfl⟩
  have Hq2b := Lib.hid hq2b
  rw [hq2b]
  clear hq2b
  replace HB := Lib.hid (Below.next HB.out hb)
  replace HL1b := Lib.hid (HL1b.out.below hb)
  clear hb
  try (go_wp2_with fail)
  refine (spec_CountPassing x1a _ l1b _ HL1b.out).mono ?_
  rintro e u3 ⟨rfl, hb⟩
  rw [Hr2a.out]
  rw [Hq2b.out]
  replace HB := Lib.hid (Below.next HB.out hb)
  replace HL1b := Lib.hid (HL1b.out.below hb)
  clear hb
  have eq_q2b : (q2b == q2b) = true := by simp
  have eq_r2a : (r2a == r2a) = true := by simp
  go_upto_if 54 with fail
  go_cut [] from 11 (fun wx => Hid (Below u3.heap.size u3 wx))
  case first =>
    have HCB : Hid (Below u3.heap.size u3 u3) := Below.refl _ _
    cases q2b with
    | false =>
      try (go_wp2_with fail)
      go_meet
      exact HCB
    | true =>
      try (go_wp2_with fail)
      obtain ⟨hq, hp, hl, he⟩ := erB_parts Hq2b.out
      obtain ⟨pf0, pf1, pf2⟩ := pas_facts Hq2b.out
      rw [Hr2a.out] at pf0 pf1 pf2
      have HEB := Lib.hid he
      have hn3 : n1b ≤ 3 := by have := HE1b.out; omega
      have hN := cpR_bd x1a l1b
      rw [Hr2a.out] at hN
      have HP0 := Lib.hid pf0
      have HP1 := Lib.hid pf1
      have HP2 := Lib.hid pf2
      clear he hp hl pf0 pf1 pf2
      obtain ⟨m, hm⟩ : ∃ m, (x1a - 1).toNat = m := ⟨_, rfl⟩
      have hm2 : (m : Int) = x1a - 1 := by omega
      have HM := Lib.hid hm
      clear hm
      have ewq : IntKind.i64.wrap (x1a - 1) = (m : Int) := by rw [← hm2]; exact IntWalk.i64_in _ (by omega)
      have hmb : 1 ≤ m ∧ m ≤ 22 := by omega
      have HM2 := Lib.hid hm2
      clear hm2
      go_loopg [11, 12, 57] n1b (fun gk wv av iv wr => ∃ k : Nat, k + gk = n1b ∧ iv = .int .i64 (k : Int) ∧ wv = .int .i64 (wrN l1b k) ∧ av = .int .i64 ((m ^ k : Nat) : Int) ∧ Hid (wr = u3))
      case atStart => exact ⟨0, by omega, rfl, rfl, rfl, rfl⟩
      case round =>
        obtain ⟨k, hkg, rfl, rfl, rfl, HWR⟩ := hrel
        have hwr := HWR.out
        subst hwr
        clear HWR
        by_cases hlt : k < n1b
        · have hgk : n1b - (k + 1) < gk := by omega
          have hb1 : decide ((k : Int) < (n1b : Int)) = true := decide_eq_true (by omega)
          have hb2 : decide (k < n1b) = true := decide_eq_true hlt
          obtain ⟨sb, so, hsa, hcy⟩ := HL1b.out.at_ (by omega)
          have y1 := hcy k (by omega)
          have hsa' := hsa
          subst hsa'
          clear hsa hcy
          have hwb := wrN_bd l1b k
          have hpb := pow_bdP (m := m) (k := k) hmb (by omega)
          have HPS : Hid (((m ^ k : Nat) : Int) * (m : Int) = ((m ^ (k + 1) : Nat) : Int)) := by unfold Hid; rw [← Int.natCast_mul, Nat.pow_succ]
          have hpb2 := pow_bdP (m := m) (k := k + 1) hmb (by omega)
          have HWS : Hid (wrN l1b (k + 1) = wrN l1b k + if 0 < nth l1b k then 1 else 0) := rfl
          obtain ⟨x, hx⟩ : ∃ z, nth l1b k = z := ⟨_, rfl⟩
          rw [hx] at y1 HWS
          clear hx
          obtain ⟨WK, hWK⟩ : ∃ z, wrN l1b k = z := ⟨_, rfl⟩
          obtain ⟨AK, hAK⟩ : ∃ z, m ^ k = z := ⟨_, rfl⟩
          obtain ⟨AN, hAN⟩ : ∃ z, m ^ (k + 1) = z := ⟨_, rfl⟩
          rw [hWK] at hwb HWS ⊢
          rw [hAK] at hpb HPS ⊢
          rw [hAN] at hpb2 HPS
          have HAN := Lib.hid hAN
          clear hWK hAK hAN
          have ewm : IntKind.i64.wrap ((AK : Int) * (m : Int)) = (AN : Int) := by rw [HPS.out]; exact IntWalk.i64_in _ (by omega)
          have eww : IntKind.i64.wrap (WK + 1) = WK + 1 := IntWalk.i64_in _ (by omega)
          have hwk : IntKind.i64.wrap ((k : Int) + 1) = (k : Int) + 1 := IntWalk.i64_in _ (by omega)
          have b0 : (0 : Int) ≤ (k : Int) := by omega
          have bk1 : (k : Int) < (n1b : Int) := by omega
          by_cases hx0 : 0 < x
          · have d1 : decide (0 < x) = true := decide_eq_true hx0
            have HW1 : Hid (wrN l1b (k + 1) = WK + 1) := by unfold Hid; rw [HWS.out, if_pos hx0]
            clear hx0
            go_wp2_with fail
            go_roundg (n1b - (k + 1))
            case measure => exact hgk
            case rel => exact ⟨k + 1, by omega, by go_num, by rw [HW1.out], by rw [HAN.out], rfl⟩
          · have d1 : decide (0 < x) = false := decide_eq_false hx0
            have HW1 : Hid (wrN l1b (k + 1) = WK) := by unfold Hid; rw [HWS.out, if_neg hx0, Int.add_zero]
            clear hx0
            go_wp2_with fail
            go_roundg (n1b - (k + 1))
            case measure => exact hgk
            case rel => exact ⟨k + 1, by omega, by go_num, by rw [HW1.out], by rw [HAN.out], rfl⟩
        · obtain rfl : n1b = k := by omega
          have hb1 : decide ((n1b : Int) < (n1b : Int)) = false := decide_eq_false (by omega)
          have hb2 : decide (n1b < n1b) = false := decide_eq_false (by omega)
          rw [HE1b.out, HM.out] at HP0 HP2
          rw [HE1b.out] at HP1
          have hwb := wrN_bd l1b n1b
          have hab := pow_bdP (m := m) (k := n1b) hmb hn3
          obtain ⟨WK, hWK⟩ : ∃ z, wrN l1b n1b = z := ⟨_, rfl⟩
          obtain ⟨A, hA⟩ : ∃ z, m ^ n1b = z := ⟨_, rfl⟩
          have HAL : Hid ((x1a - 1).toNat ^ (l1b).length = A) := by unfold Hid; rw [HE1b.out, HM.out]; exact hA
          rw [hWK] at HP0 HP1 HP2 hwb ⊢
          rw [hA] at HP0 HP2 hab ⊢
          clear hWK hA hlt hb1
          have hnb : 0 ≤ r2a * (m : Int) ∧ r2a * (m : Int) ≤ 10648 * 22 := mul_bd (by omega) (by omega) (by omega) (by omega)
          have ewn : IntKind.i64.wrap (r2a * (m : Int)) = r2a * (m : Int) := IntWalk.i64_in _ (by omega)
          have HP3 : Hid (0 < WK → r2a * (m : Int) ≤ (A : Int)) := fun h => by rw [HM2.out]; exact HP2.out h
          rcases (by omega : WK = 0 ∨ WK = 1 ∨ (0 < WK ∧ WK ≠ 0 ∧ WK ≠ 1)) with hw | hw | ⟨hw1, hw2, hw3⟩
          · subst hw
            have t1 : (r2a != (A : Int)) = false := by rw [bne_eq_false_iff_eq]; exact HP0.out rfl
            try (go_wp2_with fail)
            refine (impl_PassingChance x1a _ l1b _ HL1b.out Hq2b.out).mono ?_
            rintro e u4 ⟨⟨X, Y, rfl, hX, hY, hxy⟩, hb⟩
            rw [HAL.out, Hr2a.out] at hxy
            have hxy2 : X * (A : Int) = r2a * Y := hxy
            have hxb : 0 ≤ X * (A : Int) ∧ X * (A : Int) ≤ 10648 * 10648 := mul_bd (by omega) (by omega) (by omega) (by omega)
            have ewx : IntKind.i64.wrap (X * (A : Int)) = X * (A : Int) := IntWalk.i64_in _ (by omega)
            have ewy : IntKind.i64.wrap (r2a * Y) = X * (A : Int) := by rw [← hxy2]; exact ewx
            have hne : (X * (A : Int) != X * (A : Int)) = false := by simp
            clear hxy hxy2
            replace HB := Lib.hid (Below.next HB.out hb)
            replace HCB := Lib.hid (Below.next HCB.out hb)
            replace HL1b := Lib.hid (HL1b.out.below hb)
            clear hb
            try (go_wp2_with fail)
            go_meet
            exact HCB
          · subst hw
            have t1 : (r2a != 0) = false := by rw [bne_eq_false_iff_eq]; exact HP1.out rfl
            have t2 : decide ((A : Int) < r2a * (m : Int)) = false := decide_eq_false (by have := HP3.out (by decide); omega)
            try (go_wp2_with fail)
            refine (impl_PassingChance x1a _ l1b _ HL1b.out Hq2b.out).mono ?_
            rintro e u4 ⟨⟨X, Y, rfl, hX, hY, hxy⟩, hb⟩
            rw [HAL.out, Hr2a.out] at hxy
            have hxy2 : X * (A : Int) = r2a * Y := hxy
            have hxb : 0 ≤ X * (A : Int) ∧ X * (A : Int) ≤ 10648 * 10648 := mul_bd (by omega) (by omega) (by omega) (by omega)
            have ewx : IntKind.i64.wrap (X * (A : Int)) = X * (A : Int) := IntWalk.i64_in _ (by omega)
            have ewy : IntKind.i64.wrap (r2a * Y) = X * (A : Int) := by rw [← hxy2]; exact ewx
            have hne : (X * (A : Int) != X * (A : Int)) = false := by simp
            clear hxy hxy2
            replace HB := Lib.hid (Below.next HB.out hb)
            replace HCB := Lib.hid (Below.next HCB.out hb)
            replace HL1b := Lib.hid (HL1b.out.below hb)
            clear hb
            try (go_wp2_with fail)
            go_meet
            exact HCB
          · have t0 : (WK == 0) = false := by rw [beq_eq_false_iff_ne]; exact hw2
            have t1 : (WK == 1) = false := by rw [beq_eq_false_iff_ne]; exact hw3
            have t3 : decide (0 < WK) = true := decide_eq_true hw1
            have t2 : decide ((A : Int) < r2a * (m : Int)) = false := decide_eq_false (by have := HP3.out hw1; omega)
            clear hw2 hw3
            try (go_wp2_with fail)
            refine (impl_PassingChance x1a _ l1b _ HL1b.out Hq2b.out).mono ?_
            rintro e u4 ⟨⟨X, Y, rfl, hX, hY, hxy⟩, hb⟩
            rw [HAL.out, Hr2a.out] at hxy
            have hxy2 : X * (A : Int) = r2a * Y := hxy
            have hxb : 0 ≤ X * (A : Int) ∧ X * (A : Int) ≤ 10648 * 10648 := mul_bd (by omega) (by omega) (by omega) (by omega)
            have ewx : IntKind.i64.wrap (X * (A : Int)) = X * (A : Int) := IntWalk.i64_in _ (by omega)
            have ewy : IntKind.i64.wrap (r2a * Y) = X * (A : Int) := by rw [← hxy2]; exact ewx
            have hne : (X * (A : Int) != X * (A : Int)) = false := by simp
            clear hxy hxy2
            replace HB := Lib.hid (Below.next HB.out hb)
            replace HCB := Lib.hid (Below.next HCB.out hb)
            replace HL1b := Lib.hid (HL1b.out.below hb)
            clear hb
            try (go_wp2_with fail)
            go_meet
            exact HCB
  case rest =>
    have hct := hcut.out
    clear hcut
    replace HB := Lib.hid (Below.next HB.out hct)
    replace HL1b := Lib.hid (HL1b.out.below hct)
    clear hct
    try (go_wp2_with fail)
    refine (spec_DrawBatchBits _ _ (H2.out.below HB.out)).mono ?_
    rintro e u4 ⟨⟨P4a, Q4a, G4a, h4b, v4b, l4b, v4c, l4c, v4d, l4d, rfl, hgr4a, ⟨⟨h4bl, h4bu⟩, hs4b, hl4b⟩, ⟨hs4c, hl4c⟩, ⟨hs4d, hl4d⟩⟩, hb⟩
    clear hgr4a
    have HL4b := Lib.hid hs4b
    obtain ⟨a4b, n4b, c4b, rfl⟩ := hs4b.shape
    have HE4b := Lib.hid hs4b.len
    clear hs4b
    have HL4c := Lib.hid hs4c
    obtain ⟨a4c, n4c, c4c, rfl⟩ := hs4c.shape
    have HE4c := Lib.hid hs4c.len
    clear hs4c
    have HL4d := Lib.hid hs4d
    obtain ⟨a4d, n4d, c4d, rfl⟩ := hs4d.shape
    have HE4d := Lib.hid hs4d.len
    clear hs4d
    replace HB := Lib.hid (Below.next HB.out hb)
    replace HL1b := Lib.hid (HL1b.out.below hb)
    clear hb
    obtain ⟨V5, hV⟩ : ∃ V, V = (u4.alloc (.cells #[.int .i64 P4a, .int .i64 Q4a, .int .i64 G4a] 24)).alloc (.cells #[.int .i64 h4b, .slice a4b n4b c4b] 49) := ⟨_, rfl⟩
    have hbV : Below u4.heap.size u4 V5 := by rw [hV]; (repeat (first | exact Below.refl _ _ | assumption | refine Below.drew ?_ | refine Below.alloc ?_ (by first | (simp; done) | (simp; omega)) _ | refine Below.setCell ?_ (by first | (simp; done) | (simp; omega)) _))
    have HZ1 : Hid (BoxN V5 u4.heap.size 24 [.int .i64 P4a, .int .i64 Q4a, .int .i64 G4a]) := by unfold Hid; rw [hV]; have h := ((BoxN.new u4 [.int .i64 P4a, .int .i64 Q4a, .int .i64 G4a] 24).alloc (.cells #[.int .i64 h4b, .slice a4b n4b c4b] 49)); simpa using h
    have HZ2 : Hid (BoxN V5 (u4.heap.size + 1) 49 [.int .i64 h4b, .slice a4b n4b c4b]) := by unfold Hid; rw [hV]; have h := (BoxN.new (u4.alloc (.cells #[.int .i64 P4a, .int .i64 Q4a, .int .i64 G4a] 24)) [.int .i64 h4b, .slice a4b n4b c4b] 49); simpa using h
    try (go_wp2_with fail)
    rw [← hV]
    clear hV
    replace HB := Lib.hid (Below.next HB.out hbV)
    replace HL1b := Lib.hid (HL1b.out.below hbV)
    replace HL4b := Lib.hid (HL4b.out.below hbV)
    replace HL4c := Lib.hid (HL4c.out.below hbV)
    replace HL4d := Lib.hid (HL4d.out.below hbV)
    clear hbV
    have z_0_0 := HZ1.out.cell (i := 0) rfl
    have z_0_1 := HZ1.out.cell (i := 1) rfl
    have z_0_2 := HZ1.out.cell (i := 2) rfl
    have z_1_0 := HZ2.out.cell (i := 0) rfl
    have z_1_1 := HZ2.out.cell (i := 1) rfl
    try (go_wp2_with fail)
    clear z_0_0 z_0_1 z_0_2 z_1_0 z_1_1
    refine (impl_BatchBits ⟨P4a, Q4a, G4a⟩ h4b _ l4b _ l4c _ l4d _ HL4b.out ⟨by omega, by omega⟩ HL4c.out HL4d.out).mono ?_
    rintro e u6 ⟨rfl, hb⟩
    obtain ⟨q6a, hq6a⟩ : ∃ r, bbR ⟨P4a, Q4a, G4a⟩ sBit sSmall h4b l4b l4c l4d = r := ⟨_, rfl⟩
    have Hq6a := Lib.hid hq6a
    rw [hq6a]
    clear hq6a
    obtain ⟨q6b, hq6b⟩ : ∃ r, bbB ⟨P4a, Q4a, G4a⟩ h4b l4b l4c l4d = r := ⟨_, rfl⟩
    have Hq6b := Lib.hid hq6b
    rw [hq6b]
    clear hq6b
    replace HB := Lib.hid (Below.next HB.out hb)
    replace HZ1 := Lib.hid (HZ1.out.below hb)
    replace HZ2 := Lib.hid (HZ2.out.below hb)
    replace HL1b := Lib.hid (HL1b.out.below hb)
    replace HL4b := Lib.hid (HL4b.out.below hb)
    replace HL4c := Lib.hid (HL4c.out.below hb)
    replace HL4d := Lib.hid (HL4d.out.below hb)
    clear hb
    have z_0_0 := HZ1.out.cell (i := 0) rfl
    have z_0_1 := HZ1.out.cell (i := 1) rfl
    have z_0_2 := HZ1.out.cell (i := 2) rfl
    have z_1_0 := HZ2.out.cell (i := 0) rfl
    have z_1_1 := HZ2.out.cell (i := 1) rfl
    try (go_wp2_with fail)
    clear z_0_0 z_0_1 z_0_2 z_1_0 z_1_1
    refine (spec_BatchBits ⟨P4a, Q4a, G4a⟩ h4b _ l4b _ l4c _ l4d _ HL4b.out ⟨by omega, by omega⟩ HL4c.out HL4d.out).mono ?_
    rintro e u7 ⟨rfl, hb⟩
    rw [Hq6a.out]
    rw [Hq6b.out]
    replace HB := Lib.hid (Below.next HB.out hb)
    replace HZ1 := Lib.hid (HZ1.out.below hb)
    replace HZ2 := Lib.hid (HZ2.out.below hb)
    replace HL1b := Lib.hid (HL1b.out.below hb)
    replace HL4b := Lib.hid (HL4b.out.below hb)
    replace HL4c := Lib.hid (HL4c.out.below hb)
    replace HL4d := Lib.hid (HL4d.out.below hb)
    clear hb
    have eq_q6b : (q6b == q6b) = true := by simp
    have eq_q6a : (q6a == q6a) = true := by simp
    have z_0_0 := HZ1.out.cell (i := 0) rfl
    have z_0_1 := HZ1.out.cell (i := 1) rfl
    have z_0_2 := HZ1.out.cell (i := 2) rfl
    have z_1_0 := HZ2.out.cell (i := 0) rfl
    have z_1_1 := HZ2.out.cell (i := 1) rfl
    try (go_wp2_with fail)
    clear z_0_0 z_0_1 z_0_2 z_1_0 z_1_1
    go_ret
    exact ⟨rfl, HB.out⟩
end Go.Proofs.Ytacpnphfopmofaa
/- From a walk of a law to its row: whatever the arguments, the law returns true and nothing that was there has turned. -/







namespace Go.Proofs.Ytacpnphfopmofaa
open Go.ChangeShapes Go.WideShapes Go.ChangeAt Go.RowKit

theorem ownKnob_none : ownKnob Try.prog.godebug = none := by kernel_rfl
theorem laid_out : laidOutB Try.prog = true := by kernel_rfl

section
variable {H : Type} {enc : TypeId × Value → H} {P : Program}

theorem trodAll_below (hl : laidOutB P = true) {W W' : World} (hb : Below W.heap.size W W') :
    ∀ (ts : List TypeId) (vs : List Value) (ds : List (DataW H)) (ps : List MemPlace), (∀ t ∈ ts, P.readableRec t = true ∧ t < P.types.size) →
      DataW.TrodAll enc P W 0 (fun _ => true) true ts vs ds ps → (∀ x ∈ ps, x.block < W.heap.size) →
      ∀ sp : Nat → Bool, (∀ p ∈ ps, sp p.block = true) → DataW.TrodAll enc P W' 0 sp true ts vs ds ps
  | [], vs, ds, ps, _, h, _, sp, _ => by
    obtain ⟨rfl, rfl, rfl⟩ := trodAll_nil h
    exact trodAll_mk0
  | t :: ts, vs, ds, ps, ht, h, hlt, sp, hsp => by
    obtain ⟨v0, vs0, d0, ds0, p0, q0, rfl, rfl, rfl, h0, r0⟩ := trodAll_cons h
    refine trodAll_cons_mk ?_ (trodAll_below hl hb ts vs0 ds0 q0 (fun t' h' => ht t' (by simp [h'])) r0 (fun x hx => hlt x (by simp [hx])) sp (fun x hx => hsp x (by simp [hx])))
    exact WideElems.Trod_stays hl (ht t (by simp)).1 (ht t (by simp)).2 h0 (fun x hx => hb.same (hlt x (by simp [hx]))) (fun x hx => hsp x (by simp [hx]))

theorem post_law {f : Func} {s : ChangeSpec} {tb : TypeId} {W W' : World} {args : Array Value} {ds gs : List (DataW H)} {before : List MemPlace}
    (hl : laidOutB P = true) (hpB : f.params.toList.all (fun t => P.readableRec t && decide (t < P.types.size)) = true) (hrt : f.resultTypes = #[tb]) (htb : P.underlying tb = some .bool)
    (hvars : s.vars = []) (hW : DataW.Whole enc P f.params.toList s.vars false W args.toList ds gs before)
    (hfn : s.fn H ds = { results := [.lit (.bool true)], args := ds }) (hb : Below W.heap.size W W') :
    s.post enc P f false true false false W args (.bool true) W' := by
  have hp : ∀ t ∈ f.params.toList, P.readableRec t = true ∧ t < P.types.size := fun t ht => by simpa using List.all_eq_true.1 hpB t ht
  have hlt : ∀ x ∈ before, x.block < W.heap.size := fun x hx => by simpa using hW.lt x hx
  have hW' := hW
  obtain ⟨p, q, hA0, hV, rfl, hfz, hnd⟩ := hW
  rw [hvars] at hV
  obtain ⟨rfl, rfl⟩ := trodVars_none hV
  have e : s.fn H (ds ++ []) = { results := [.lit (.bool true)], args := ds } := by rw [List.append_nil]; exact hfn
  have hargs := trodAll_below (enc := enc) hl hb f.params.toList args.toList ds p hp hA0 (fun x hx => hlt x (by simp [hx]))
  refine ⟨ds, [], p ++ [], [], p, [], hW', ?_, ?_, ?_, ?_, fun h => by cases h⟩
  · rw [e, hrt]
    exact trodAll_cons_mk (shut_bool htb true) trodAll_mk0
  · rw [e]
    exact hargs _ (fun x hx => by simpa using hlt x (by simp [hx]))
  · rw [e, hvars]
    rfl
  · exact hb.frame _
end


section
variable {H : Type} {enc : TypeId × Value → H} {P : Program} {w : World} {base : Nat} {spare : Nat → Bool} {held : Bool}
open Go.Joins Go.Deep
end

section
variable {H : Type} {enc : TypeId × Value → H} {w : World} {base : Nat} {spare : Nat → Bool} {held : Bool}
theorem addr_of_cell {w : World} {a : Addr} {v : Value} (h : w.cell? a = some v) : a = ⟨a.block, a.off, none⟩ := by
  obtain ⟨b, o, s⟩ := a
  cases s with
  | none => rfl
  | some x =>
    unfold World.cell? at h
    split at h <;> simp at h
end
end Go.Proofs.Ytacpnphfopmofaa
/- Arguments that are slices of structs. -/


namespace Go.Proofs.Ytacpnphfopmofaa
open Go.ChangeShapes Go.WideShapes Go.ChangeAt Go.RowKit
set_option linter.unusedVariables false

end Go.Proofs.Ytacpnphfopmofaa
/- Arguments of type laws.Proof (printed by genarg.py). -/


namespace Go.Proofs.Ytacpnphfopmofaa
open Go.ChangeShapes Go.WideShapes Go.ChangeAt Go.RowKit
set_option linter.unusedVariables false
set_option linter.unusedSimpArgs false

section
variable {H : Type} {enc : TypeId × Value → H} {w : World} {base : Nat} {spare : Nat → Bool} {held : Bool}
open Go.Joins Go.Deep
end
end Go.Proofs.Ytacpnphfopmofaa
/- Arguments of type laws.Head (printed by genarg.py). -/



namespace Go.Proofs.Ytacpnphfopmofaa
open Go.ChangeShapes Go.WideShapes Go.ChangeAt Go.RowKit
set_option linter.unusedVariables false
set_option linter.unusedSimpArgs false

section
variable {H : Type} {enc : TypeId × Value → H} {w : World} {base : Nat} {spare : Nat → Bool} {held : Bool}
open Go.Joins Go.Deep
end
end Go.Proofs.Ytacpnphfopmofaa
/- Arguments of type laws.Entry (printed by genarg.py). -/



namespace Go.Proofs.Ytacpnphfopmofaa
open Go.ChangeShapes Go.WideShapes Go.ChangeAt Go.RowKit
set_option linter.unusedVariables false
set_option linter.unusedSimpArgs false

section
variable {H : Type} {enc : TypeId × Value → H} {w : World} {base : Nat} {spare : Nat → Bool} {held : Bool}
open Go.Joins Go.Deep
end
end Go.Proofs.Ytacpnphfopmofaa
/- Arguments of type laws.Group. -/


namespace Go.Proofs.Ytacpnphfopmofaa
open Go.ChangeShapes Go.WideShapes Go.ChangeAt Go.RowKit
set_option linter.unusedVariables false

section
variable {H : Type} {enc : TypeId × Value → H} {w : World} {base : Nat} {spare : Nat → Bool} {held : Bool}
open Go.Joins Go.Deep
end
end Go.Proofs.Ytacpnphfopmofaa
namespace Go.Proofs.Ytacpnphfopmofaa
open Go.ChangeShapes Go.WideShapes Go.ChangeAt Go.RowKit
set_option linter.unusedVariables false

section
variable {H : Type} {enc : TypeId × Value → H} {w : World} {base : Nat} {spare : Nat → Bool} {held : Bool}
theorem cells_byte : Try.prog.cellsOf 5 = 1 := by kernel_rfl
theorem wf_u8 {x : Int} (h : (Lit.int .u8 x).wf = true) : 0 ≤ x ∧ x ≤ 255 := by
  simpa [Lit.wf, IntKind.min, IntKind.max, IntKind.signed, IntKind.bits] using h
set_option maxRecDepth 100000 in
theorem bytes_of_trod {n : Nat} {v : Value} {y : DataW H × List MemPlace} (h : DataW.trod enc Try.prog w base spare held n 22 [v] = some y) : Bytes w v := by
  rcases open_ints Try.underlying22 Try.underlying5 cells_byte h with ⟨hcs, _⟩ | ⟨a, len, cap, zs, hcs, _, hl, hm, hz, _, hcell, hwz⟩
  · simp at hcs; subst hcs; exact ⟨none, 0, 0, rfl, Nat.le_refl _, Nat.zero_le _, .inl rfl⟩
  · simp only [List.cons.injEq, and_true] at hcs; subst hcs
    have hle : len ≤ zs.length := by rw [hz]; split <;> omega
    refine ⟨some a, len, cap, rfl, hl, hm, ?_⟩
    rcases Nat.eq_zero_or_pos len with h0 | h0
    · exact .inl h0
    · have hc0 := hcell 0 (by omega)
      have e : a.add 0 = a := by simp [Addr.add]
      rw [e] at hc0
      have ea := addr_of_cell hc0
      refine .inr ⟨a.block, a.off, by rw [← ea], fun i hi => ?_⟩
      have h1 := hcell i (by omega)
      rw [ea, Addr.add_lit] at h1
      refine ⟨_, h1, ?_⟩
      have h2 := hwz (zs.getD i 0) (by rw [List.getD_eq_getElem?_getD, List.getElem?_eq_getElem (by omega)]; exact List.getElem_mem _)
      exact wf_u8 h2
set_option maxRecDepth 100000 in
theorem bytes_of_arg {r : Reach} {b0 : Nat} {v : Value} {d : DataW H} {p : List MemPlace} (hv : Value.okWide Try.prog w r b0 22 v) (h : DataW.Trod enc Try.prog w base spare held 22 v d p) : Bytes w v := by
  obtain ⟨a, n, c, rfl⟩ := okWide_slice Try.underlying22 hv
  obtain ⟨fuel, hf⟩ := h
  exact bytes_of_trod (by simpa [Value.cells] using hf)
end
end Go.Proofs.Ytacpnphfopmofaa
