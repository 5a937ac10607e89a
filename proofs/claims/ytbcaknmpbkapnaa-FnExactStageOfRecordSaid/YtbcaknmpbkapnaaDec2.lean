/- Walks: ciphertexts out of records. -/
import Derived.Test.YtbcaknmpbkapnaaDec1
import Derived.Test.YtbcaknmpbkapnaaFr
namespace Go.Proofs.Ytbcaknmpbkapnaa
open Go.RowKit
set_option linter.unusedSimpArgs false
set_option linter.unusedVariables false

theorem infoCq : ∃ i, Try.prog.info? 75 = some i ∧ i.zero = some (.agg #[.int .i64 0, .int .i64 0]) ∧ i.size = 2 ∧ i.bytes ≤ 1000 := by
  have h : (Try.prog.info? 75).map (fun i => (i.zero, i.size, decide (i.bytes ≤ 1000))) = some (some (.agg #[.int .i64 0, .int .i64 0]), 2, true) := by kernel_rfl
  obtain ⟨i, hi, hz⟩ := Option.map_eq_some_iff.1 h
  simp only [Prod.mk.injEq] at hz
  exact ⟨i, hi, hz.1, hz.2.1, of_decide_eq_true hz.2.2⟩
/-- a row of ciphertexts of the call's own -/
def OwnQ (w : World) (B : Nat) (v : Value) (l : List CipherD) : Prop := FrR 75 rCipher w w B v l
theorem rowQ {w : World} {x y : Int} (hx : I64 x) (hy : I64 y) : rCipher.rd w [.int .i64 x, .int .i64 y] ⟨x, y⟩ := ⟨_, rfl, hx, _, rfl, hy, rfl⟩
theorem rdQ_any {w1 w2 : World} {vs : List Value} {d : CipherD} (h : rCipher.rd w1 vs d) : rCipher.rd w2 vs d := by
  obtain ⟨us, rfl, hx, us2, rfl, hy, rfl⟩ := h
  exact rowQ hx hy
theorem OwnQ.any {w1 w2 w : World} {B : Nat} {v : Value} {l : List CipherD} (h : FrR 75 rCipher w1 w B v l) : FrR 75 rCipher w2 w B v l := by
  obtain ⟨css, h1, h2, h3⟩ := h
  exact ⟨css, h1, h2, fun i k1 k2 => rdQ_any (h3 i k1 k2)⟩
theorem OwnQ.nil (w : World) (B : Nat) : OwnQ w B (.slice none 0 0) [] := FrR.nil _ _ _ _ _
theorem OwnQ.lit0 (w : World) {B : Nat} (hB : B ≤ w.heap.size) : OwnQ (w.alloc (.cells #[] 75)) B (.slice (some ⟨w.heap.size, 0, none⟩) 0 0) [] := OwnQ.any (FrR.lit0 _ rCipher w w B hB)
theorem OwnQ.below {w w' : World} {B : Nat} {v : Value} {l : List CipherD} (h : OwnQ w B v l) (hb : Below w.heap.size w w') : OwnQ w' B v l := OwnQ.any (FrR.below h hb)
theorem OwnQ.frame {w w' : World} {B : Nat} {v : Value} {l : List CipherD} (h : OwnQ w B v l) (hf : ∀ g, v.ownBlock = some g → w'.heap[g]? = w.heap[g]?) : OwnQ w' B v l := OwnQ.any (FrR.frame h hf)
theorem OwnQ.keptG {w w' : World} {B g : Nat} {v : Value} {l : List CipherD} (h : OwnQ w B v l) (hg : w.grownBy w' (some g)) (hlt : g < B) : OwnQ w' B v l :=
  h.frame fun k hk => hg.block k (FrR.lt h k hk).2 fun e => by have := (FrR.lt h k hk).1; injection e with e; omega
theorem OwnQ.rd {w : World} {B : Nat} {v : Value} {l : List CipherD} (h : OwnQ w B v l) : RdR rCipher w v l := FrR.rd h (Below.refl _ _)
theorem OwnQ.shape {w : World} {B : Nat} {v : Value} {l : List CipherD} (h : OwnQ w B v l) : ∃ a c, v = .slice a l.length c := by
  obtain ⟨a, n, c, rfl⟩ := h.rd.shape
  exact ⟨a, c, by rw [h.rd.len]⟩
theorem OwnQ.own {w : World} {B : Nat} {v : Value} {l : List CipherD} (h : OwnQ w B v l) : (kR 75 rCipher).own w B w.heap.size v l := by
  have hlt := FrR.lt h
  obtain ⟨css, h1, h2, h3⟩ := h
  refine ⟨css, fun _ => w.heap.size, fun _ => w.heap.size, h1, h2, fun g hg => ⟨(hlt g hg).2, fun i _ => .inl (hlt g hg).2⟩, fun i k1 k2 => ⟨?_, ?_, Nat.le_refl _⟩, fun _ _ _ _ _ => .inl (Nat.le_refl _)⟩
  · obtain ⟨_, e1, hx, _, e3, hy, e2⟩ := h3 i k1 k2
    exact ⟨_, e1, hx, _, e3, hy, e2⟩
  · show B ≤ w.heap.size
    rcases h2.2 with ⟨rfl, e⟩ | ⟨g, c, cur, rfl, hb, hg, r⟩
    · omega
    · have := (hlt g rfl); omega
theorem wpList_append_Q {w : World} {B g : Nat} {v : Value} {l : List CipherD} {x y : Int} {ops : Array Oper} {rest : List Oper} {o : Oper} {ac : Act} {Q : Exit → Act → World → Prop} (hgd : o.guard = none) (s u : Operand)
    (ho : o.op = .call { callee := .builtin .append, args := #[s, u], argTypes := #[23, 23] })
    (hown : OwnQ w B v l) (hs : ac.eval s = v) (hy : ac.eval u = .slice (some ⟨g, 0, none⟩) 1 1) (hx : BoxN w g 75 [.int .i64 x, .int .i64 y]) (hx64 : I64 x) (hy64 : I64 y) (hB : B ≤ w.heap.size) (hlen : l.length + 1 ≤ 1000000000)
    (hK : ∀ v' w', OwnQ w' B v' (l ++ [⟨x, y⟩]) → Below B w w' → wpList Try.prog ops Q rest (ac.put o.dst v') w') : wpList Try.prog ops Q (o :: rest) ac w := by
  obtain ⟨i, h1, h2, h3, h4⟩ := infoCq
  exact wpList_append_Fr (e := 75) (R := rCipher) (es := [⟨x, y⟩]) 23 i _ Try.underlying23 h1 h2 h3 h4 rfl (by decide) hgd s u ho hown ⟨g, 0, none⟩ 1 1 [[.int .i64 x, .int .i64 y]] hs hy rfl rfl
    (fun j u hu => by
      have e : (⟨g, 0, none⟩ : Addr).add j = ⟨g, j, none⟩ := by rw [Addr.add_lit, Nat.zero_add]
      rw [e]; exact hx.cell hu)
    (fun i h1 h2 => by
      have : i = 0 := by simp at h1; omega
      subst this; exact rowQ hx64 hy64) hB hlen (fun v' w' h hb => hK v' w' (OwnQ.any h) hb)
theorem nextR_64 {s : List Int × Bool} (h : AllI64 s.1) : I64 (nextR s).1 := by
  unfold nextR; split
  · exact ⟨by decide, by decide⟩
  · rename_i a l e; exact h a (by rw [e]; simp)
theorem RdB.all64 {w0 w : World} {g : Nat} {s : List Int × Bool} (h : RdB w0 w g s) : AllI64 s.1 := by
  obtain ⟨_, v, _, hI⟩ := h
  exact hI.all
theorem dcK_le (l : List Int) : dcK l ≤ l.length := by unfold dcK; omega
set_option maxRecDepth 100000 in
set_option maxHeartbeats 4000000 in
theorem impl_DecodeCiphers (v : Value) (l : List Int) (w : World) (hl : l.length ≤ 1000000) (h : Ints w v l) :
    Calls Try.prog 20 #[v] w fun e w' => ∃ v', e = .returned (.tuple #[v', .bool (dcB l)]) ∧ (kR 75 rCipher).own w' w.heap.size w'.heap.size v' (dcD l) ∧ Below w.heap.size w w' := by
  obtain ⟨a, n, c, rfl⟩ := h.shape
  have e := h.len
  obtain ⟨k1, k2⟩ := h.capMax
  unfold maxLen at k2
  have HE := Lib.hid e
  rw [← goodC_eq]
  have hkl := dcK_le l
  obtain ⟨K, hK⟩ : ∃ K, dcK l = K := ⟨_, rfl⟩
  obtain ⟨x, s0, hx⟩ : ∃ x s0, nextR (l, recB l) = (x, s0) := ⟨_, _, rfl⟩
  have hKx : (min x (n : Int)).toNat = K := by rw [← hK]; unfold dcK; rw [hx, e]
  have HS : Hid (dcS l = nxR s0 K) := by unfold Hid dcS; rw [hK, hx]
  have hs0 : s0.1.length ≤ n := by have := nextR_len (l, recB l); rw [hx] at this; dsimp only at this; omega
  have HX := Lib.hid hx
  rw [hK, e] at hkl
  rw [e] at hl
  clear e hK hx
  obtain ⟨q, hq⟩ : ∃ q, recB l = q := ⟨_, rfl⟩
  have HQ := Lib.hid hq; clear hq
  rw [HQ.out] at HX
  have H := Lib.hid h; clear h
  go_enter Try.func20, Try.ntmps20
  go_wp2_with (first | (go_at_call 44; refine (impl_isRecord _ l _ H.out).mono ?_; rintro e w1 ⟨rfl, hb1⟩; rw [HQ.out]) | fail)
  obtain ⟨W, hW⟩ : ∃ W, W = ((w1.alloc (.cells #[.slice a n c, .bool q] 69)).alloc (.cells #[] 75)) := ⟨_, rfl⟩
  rw [← hW]
  have hWB : Below w1.heap.size w1 W := by rw [hW]; (repeat (first | exact Below.refl _ _ | assumption | refine Below.drew ?_ | refine Below.alloc ?_ (by first | (simp; done) | (simp; omega)) _ | refine Below.setCell ?_ (by first | (simp; done) | (simp; omega)) _))
  have hWs : W.heap.size = w1.heap.size + 2 := by rw [hW]; simp
  have hBx : Box2 W w1.heap.size 69 (.slice a n c) (.bool q) := by
    rw [hW]; exact (heap_alloc_old _ _ (by simp)).trans (heap_alloc_new _ _)
  have HR0 : Hid (RdB w W w1.heap.size (l, q)) := ⟨hb1.size, _, hBx, H.out⟩
  have HO0 : Hid (OwnQ W (w1.heap.size + 1) (.slice (some ⟨w1.heap.size + 1, 0, none⟩) 0 0) []) := by
    unfold Hid
    have := OwnQ.lit0 (w1.alloc (.cells #[.slice a n c, .bool q] 69)) (B := w1.heap.size + 1) (by simp)
    rw [← hW] at this
    simpa using this
  have HWB : Hid (Below w.heap.size w W) := hb1.trans (hWB.mono hb1.size)
  have hlt1 := hb1.size
  clear hb1 hWB hBx hW
  refine (impl_next w w1.heap.size (l, q) W HR0.out HWB.out).mono ?_
  rintro e w2 ⟨rfl, hR, hG⟩
  rw [HX.out] at hR ⊢
  have HRN := Lib.hid hR; clear hR
  have HB2 := Lib.hid (below_grown HWB.out hlt1 hG)
  have hs2 := hG.size
  have HO1 := Lib.hid (HO0.out.keptG hG (by omega))
  clear hG
  go_wp2_with fail
  all_goals
    go_loopg [5, 19] K (fun g v5 i wr => ∃ k : Nat, k + g = K ∧ i = .int .i64 k ∧ OwnQ wr (w1.heap.size + 1) v5 (nxR s0 k).1 ∧ RdB w wr w1.heap.size (nxR s0 k).2 ∧ w1.heap.size + 2 ≤ wr.heap.size ∧ Below w.heap.size w wr)
    case atStart => exact ⟨0, by omega, rfl, HO1.out, HRN.out, by omega, HB2.out⟩
    case round =>
      obtain ⟨k, hkg, rfl, hO, hR, hsz, hb⟩ := hrel
      have hlk : Hid ((nxR s0 k).1.length = k) := nxR_len s0 k
      obtain ⟨a4, c4, hv⟩ := hO.shape
      rw [hlk.out] at hv
      subst hv
      have HO := Lib.hid hO; have HR := Lib.hid hR
      clear hO hR
      by_cases hlt : k < K
      · have t1 : (k : Int) < x := by omega
        have t2 : (k : Int) < (n : Int) := by omega
        have t3 : k < n := by omega
        go_wp2_with fail
        refine (impl_next w w1.heap.size (nxR s0 k).2 wr HR.out hb).mono ?_
        rintro e w3 ⟨rfl, hR3, hG3⟩
        have hb3 := below_grown hb hlt1 hG3
        have hs3 := hG3.size
        have HO3 := Lib.hid (HO.out.keptG hG3 (by omega))
        have HR3 := Lib.hid hR3
        have HX1 : Hid (I64 (nextR (nxR s0 k).2).1) := nextR_64 HR.out.all64
        clear hR3 hG3
        go_wp2_with fail
        refine (impl_next w w1.heap.size (nextR (nxR s0 k).2).2 w3 HR3.out hb3).mono ?_
        rintro e w4 ⟨rfl, hR4, hG4⟩
        have hb4 := below_grown hb3 hlt1 hG4
        have hs4 := hG4.size
        have HO4 := Lib.hid (HO3.out.keptG hG4 (by omega))
        have HR4 := Lib.hid hR4
        have HX2 : Hid (I64 (nextR (nextR (nxR s0 k).2).2).1) := nextR_64 HR3.out.all64
        clear hR4 hG4
        have HNX : Hid ((nxR s0 (k + 1)).1 = (nxR s0 k).1 ++ [⟨(nextR (nxR s0 k).2).1, (nextR (nextR (nxR s0 k).2).2).1⟩] ∧ (nxR s0 (k + 1)).2 = (nextR (nextR (nxR s0 k).2).2).2) := ⟨rfl, rfl⟩
        obtain ⟨y1, hy1⟩ : ∃ y, (nextR (nxR s0 k).2).1 = y := ⟨_, rfl⟩
        obtain ⟨y2, hy2⟩ : ∃ y, (nextR (nextR (nxR s0 k).2).2).1 = y := ⟨_, rfl⟩
        rw [hy1] at HX1 HNX ⊢
        rw [hy2] at HX2 HNX ⊢
        clear hy1 hy2
        go_wp2_with (first
          | (at_builtin; refine wpList_append_Q rfl _ _ rfl (B := w1.heap.size + 1) (g := w4.heap.size) (x := y1) (y := y2) (HO4.out.below ((Below.refl _ _).alloc (Nat.le_refl _) _)) rfl rfl (BoxN.new w4 [.int .i64 y1, .int .i64 y2] _) HX1.out HX2.out (by simp; omega) (by rw [hlk.out]; omega) ?_; intro v' w5 hO5 hb5)
          | fail)
        go_roundg (K - (k + 1))
        case measure => omega
        case rel =>
          refine ⟨k + 1, by omega, by go_num, ?_, ?_, ?_, ?_⟩
          · rw [HNX.out.1]; exact hO5
          · rw [HNX.out.2]
            refine (HR4.out.kept (w' := w5) ?_)
            rw [hb5.block _ (by omega)]
            exact heap_alloc_old _ _ (by omega)
          · have := hb5.size; simp at this; omega
          · exact (hb4.alloc hb4.size _).trans (hb5.mono (by omega))
      · obtain rfl : K = k := by omega
        have tt : ¬ (K : Int) < x ∨ (¬ (K : Int) < (n : Int) ∧ ¬ K < n) := by omega
        rcases tt with t1 | ⟨t1, t2⟩
        all_goals
          go_wp2_with fail
          refine (impl_EncodeCiphers _ (nxR s0 K).1 wr HO.out.rd (by rw [hlk.out]; omega)).mono ?_
          rintro e w5 ⟨v5, rfl, hJ, hb5⟩
          obtain ⟨q1, hq1⟩ : ∃ q, recB (cipL (nxR s0 K).1) = q := ⟨_, rfl⟩
          obtain ⟨q2, hq2⟩ : ∃ q, ((nxR s0 K).2.2 && decide ((nxR s0 K).2.1.length = 0)) = q := ⟨_, rfl⟩
          obtain ⟨q3, hq3⟩ : ∃ q, decide (cipR (nxR s0 K).1 = l) = q := ⟨_, rfl⟩
          have hG : goodC l = (q2 && (q1 && q3)) := by unfold goodC; rw [HS.out, hq2, hq1, hq3]
          have hL1 : q2 = true → q1 = true → q3 = true → dcD l = (nxR s0 K).1 := fun e1 e2 e3 => by
            rw [← HS.out]; exact (goodC_D (by rw [hG, e1, e2, e3]; rfl)).symm
          have hL0 : (q2 && (q1 && q3)) = false → dcD l = [] := fun e => dcD_no (by rw [hG, e])
          have HL1 := Lib.hid hL1; have HL0 := Lib.hid hL0
          have HGG := Lib.hid hG
          rw [hq1]
          have HQ1 := Lib.hid hq1; have HQ2 := Lib.hid hq2; have HQ3 := Lib.hid hq3
          have HJ := Lib.hid hJ
          have HR5 : Hid (RdB w w5 w1.heap.size (nxR s0 K).2) := HR.out.kept (hb5.block _ (by omega))
          have hbw := hb.trans (hb5.mono hb.size)
          have HO5 := Lib.hid (HO.out.below hb5)
          have hs5 := hb5.size
          clear hq1 hq2 hq3 hL1 hL0 hG hJ
          cases q2 <;> cases q1 <;> cases q3
          all_goals
            go_wp2_with (first
              | (go_at_call 48; refine (impl_ends w w1.heap.size (nxR s0 K).2 _ HR5.out).mono ?_; rintro e w6 ⟨rfl, rfl⟩; rw [HQ2.out])
              | (go_at_call 23; refine (slices_Equal _ _ (cipR (nxR s0 K).1) l _ HJ.out.reads (H.out.below hbw)).mono ?_; rintro e w6 ⟨rfl, m6, rfl⟩; rw [HQ3.out])
              | fail)
            go_ret2
            rw [HGG.out]
            first
              | (rw [HL0.out (by trivial)]; exact ⟨_, rfl, (OwnQ.nil _ _).own, hbw⟩)
              | (rw [HL0.out (by trivial)]; exact ⟨_, rfl, (OwnQ.nil _ _).own, below_drewN hbw _⟩)
              | (rw [HL1.out (by trivial) (by trivial) (by trivial)]; refine ⟨_, rfl, (kR 75 rCipher).own_mono (HO5.out.below (below_drewN (Below.refl _ _) _)).own ?_ ?_, below_drewN hbw _⟩; omega; exact Nat.le_refl _)
end Go.Proofs.Ytbcaknmpbkapnaa
