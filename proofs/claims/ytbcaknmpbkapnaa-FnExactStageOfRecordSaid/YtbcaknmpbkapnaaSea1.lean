/- Walks: ciphertexts as records. -/
import Derived.Test.YtbcaknmpbkapnaaEncP
import Derived.Test.YtbcaknmpbkapnaaKCipherS
import Derived.Test.YtbcaknmpbkapnaaBm
import Derived.IntWalk
namespace Go.Proofs.Ytbcaknmpbkapnaa
open Go.RowKit
set_option linter.unusedSimpArgs false
set_option linter.unusedVariables false

def two (c : CipherD) : List Int := [c.a, c.b]
/-- ciphertexts as a list of integers -/
def cipL (l : List CipherD) : List Int := (l.length : Int) :: (l.map two).flatten
def cipTo (l : List CipherD) (k : Nat) : List Int := (l.length : Int) :: ((l.take k).map two).flatten
theorem cipTo_all (l : List CipherD) : cipTo l l.length = cipL l := by simp [cipTo, cipL]
theorem cipTo_zero (l : List CipherD) : cipTo l 0 = [(l.length : Int)] := by simp [cipTo]
theorem cipTo_succ {l : List CipherD} {k : Nat} (h : k < l.length) : cipTo l (k + 1) = cipTo l k ++ [(l[k]).a, (l[k]).b] := by
  unfold cipTo
  rw [List.take_succ_eq_append_getElem h, List.map_append, List.flatten_append]
  simp [two]
theorem cipTo_length {l : List CipherD} {k : Nat} (h : k ≤ l.length) : (cipTo l k).length = 1 + 2 * k := by
  induction k with
  | zero => rw [cipTo_zero]; rfl
  | succ k ih => rw [cipTo_succ (by omega), List.length_append, ih (by omega)]; simp; omega
theorem cipL_length (l : List CipherD) : (cipL l).length = 1 + 2 * l.length := by rw [← cipTo_all, cipTo_length (Nat.le_refl _)]
def cipR (l : List CipherD) : List Int := if recB (cipL l) = true then cipL l else []
theorem Ints.lit2' (w : World) {g : Nat} (hg : g = w.heap.size) {x y : Int} (hx : I64 x) (hy : I64 y) : Ints (w.alloc (.cells #[.int .i64 x, .int .i64 y] 3)) (.slice (some ⟨g, 0, none⟩) 2 2) [x, y] := by
  subst hg
  exact (OwnI.lit (B := w.heap.size) w (Nat.le_refl _) (l := [x, y]) (AllI64.cons hx (AllI64.one hy)) rfl (by simp [maxLen]) 2 rfl).ints
set_option maxRecDepth 100000 in
set_option maxHeartbeats 4000000 in
theorem impl_EncodeCiphers (v : Value) (l : List CipherD) (w : World) (h : RdR rCipher w v l) (hl : l.length ≤ 100000000) :
    Calls Try.prog 49 #[v] w fun e w' => ∃ v', e = .returned (.tuple #[v', .bool (recB (cipL l))]) ∧ InI w' w.heap.size w'.heap.size v' (cipR l) ∧ Below w.heap.size w w' := by
  obtain ⟨a, n, c, rfl⟩ := h.shape
  have e := h.len
  obtain ⟨k1, k2⟩ := h.capMax
  unfold maxLen at k2
  have hn8 : n ≤ 100000000 := by omega
  have HE := Lib.hid e; clear e
  have H := Lib.hid h; clear h
  have hO : Hid (OwnI (w.alloc (.cells #[.int .i64 (n : Int)] 3)) w.heap.size (.slice (some ⟨w.heap.size, 0, none⟩) 1 1) (cipTo l 0)) := by
    unfold Hid; rw [cipTo_zero, HE.out]; exact OwnI.lit1 w (Nat.le_refl _) ⟨by omega, by omega⟩
  clear hl
  go_enter Try.func49, Try.ntmps49
  go_wp2_with fail
  go_loopg [4, 12] n (fun g out iv wr => ∃ k : Nat, k + g = n ∧ iv = .int .i64 k ∧ OwnI wr w.heap.size out (cipTo l k) ∧ Below w.heap.size w wr)
  case atStart => exact ⟨0, by omega, rfl, hO.out, by (repeat (first | exact Below.refl _ _ | assumption | refine Below.drew ?_ | refine Below.alloc ?_ (by first | (simp; done) | (simp; omega)) _ | refine Below.setCell ?_ (by first | (simp; done) | (simp; omega)) _))⟩
  case round =>
    obtain ⟨k, hkg, rfl, hown, hb⟩ := hrel
    obtain ⟨ao, co, hv⟩ := hown.shape
    have hLN := cipTo_length (l := l) (k := k) (by have := HE.out; omega)
    rw [hLN] at hv
    subst hv
    have HOW := Lib.hid hown; have HLN := Lib.hid hLN
    clear hown hLN
    by_cases hlt : k < n
    · have HK : Hid (k < l.length) := by unfold Hid; rw [HE.out]; exact hlt
      have HS := Lib.hid (cipTo_succ HK.out)
      obtain ⟨b_x, o_x, rfl, hcx⟩ := H.out.at_ (by omega)
      obtain ⟨us, hcell, hrd⟩ := hcx k HK.out
      clear hcx
      generalize l[k]'HK.out = x at hrd HS
      obtain ⟨ers, jx_0, jx_1⟩ := rdCipher.1 ⟨us, rfl, hrd⟩
      obtain rfl : us = [.int .i64 x.a, .int .i64 x.b] := by have h := Value.agg.inj ers; simpa using congrArg Array.toList h
      clear ers hrd
      have y_x_0 : wr.cell? ⟨b_x, o_x + k * 2, none⟩ = some (.int .i64 x.a) := box_at (hcell 0 (by decide)) hb
      have y_x_1 : wr.cell? ⟨b_x, o_x + k * 2 + 1, none⟩ = some (.int .i64 x.b) := box_at (hcell 1 (by decide)) hb
      clear hcell
      have HR_x := Lib.hid ((kS rCipher).rd_below (rdCipher.2 ⟨rfl, jx_0, jx_1⟩ : (kS rCipher).rd w (.agg #[.int .i64 x.a, .int .i64 x.b]) x) hb)
      have J_x_0 := Lib.hid jx_0
      have J_x_1 := Lib.hid jx_1
      clear jx_0 jx_1
      have hwk : IntKind.i64.wrap ((k : Int) + 1) = (k : Int) + 1 := IntWalk.i64_in _ (by omega)
      have HB := Lib.hid hb; clear hb
      go_wp2_with (at_builtin; refine wpList_append_ints rfl _ _ rfl w.heap.size (.slice ao (1 + 2 * k) co) (.slice (some ⟨wr.heap.size + 1, 0, none⟩) 2 2) (cipTo l k) [x.a, x.b] rfl ((HOW.out.below ((Below.refl _ _).alloc (Nat.le_refl _) _)).below ((Below.refl _ _).alloc (Nat.le_refl _) _)) rfl (Ints.lit2' _ (by simp) J_x_0.out J_x_1.out) (by rw [HLN.out]; simp only [List.length_cons, List.length_nil]; omega) (by have := HB.out.size; simp; omega) ?_; intro v' w1 hown1 hgr1)
      have HO1 := Lib.hid hown1
      have HB1 : Hid (Below w.heap.size w w1) := HB.out.trans ((((Below.refl w.heap.size wr).alloc HB.out.size _).alloc (by have := HB.out.size; simp; omega) _).trans (OwnI.grown ((HOW.out.below ((Below.refl _ _).alloc (Nat.le_refl _) _)).below ((Below.refl _ _).alloc (Nat.le_refl _) _)) hgr1 (by have := HB.out.size; simp; omega)))
      clear hown1 hgr1
      go_wp2_with fail
      go_roundg (n - (k + 1))
      case measure => omega
      case rel => exact ⟨k + 1, by omega, by go_num, by rw [HS.out]; exact HO1.out, HB1.out⟩
    · obtain rfl : n = k := by omega
      have HL : Hid (cipTo l n = cipL l) := by unfold Hid; rw [← cipTo_all, HE.out]
      rw [HL.out] at HOW HLN
      have HB := Lib.hid hb; clear hb
      go_wp2_with fail
      refine (impl_record _ _ _ HOW.out.ints).mono ?_
      rintro e w2 ⟨rfl, hb2⟩
      have HOW2 := Lib.hid (HOW.out.below hb2)
      have HB2 := Lib.hid (Below.next HB.out hb2)
      clear hb2
      cases hj : recB (cipL l) with
      | false =>
        have HJ := Lib.hid hj
        rw [if_neg (by simp)]
        go_wp2_with fail
        go_ret2
        exact ⟨_, (by rw [HJ.out]; rfl), by unfold cipR; rw [HJ.out, if_neg (by simp)]; exact InI.of_own (OwnI.nil _ _), HB2.out⟩
      | true =>
        have HJ := Lib.hid hj
        rw [if_pos rfl]
        go_wp2_with fail
        go_ret2
        exact ⟨_, (by rw [HJ.out]; rfl), by unfold cipR; rw [HJ.out, if_pos rfl]; exact InI.of_own HOW2.out, HB2.out⟩
end Go.Proofs.Ytbcaknmpbkapnaa
