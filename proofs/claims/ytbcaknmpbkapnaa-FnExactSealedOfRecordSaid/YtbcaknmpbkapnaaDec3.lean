/- Walks: sealed ballots out of records, the program's (printed by gen_dec3.py). -/
import Derived.Test.YtbcaknmpbkapnaaDec2
import Derived.Test.YtbcaknmpbkapnaaKSeaG
import Derived.Test.YtbcaknmpbkapnaaBa
import Derived.Test.YtbcaknmpbkapnaaSea5
import Derived.Test.YtbcaknmpbkapnaaRegV
namespace Go.Proofs.Ytbcaknmpbkapnaa
open Go.RowKit
set_option linter.unusedSimpArgs false
set_option linter.unusedVariables false

/-- the last of own rows apart from the others -/
theorem OwnR.last {δ : Type} {e : TypeId} {R : RowK δ} {w : World} {lo hi m c : Nat} {a : Option Addr} {ds : List δ} (h : OwnR e R w lo hi (.slice a (m + 1) c) ds) :
    ∃ (los his : Nat → Nat) (g : Nat) (row : List Value) (hm : m < ds.length), ds.length = m + 1 ∧ a = some ⟨g, 0, none⟩ ∧ g < w.heap.size ∧ OwnRX e R los his w lo hi (.slice a m c) (ds.take m) ∧ R.own w (los m) (his m) row ds[m] ∧ (∀ k, k < R.width → w.cell? ⟨g, m * R.width + k, none⟩ = row[k]?) ∧ (lo ≤ los m ∧ his m ≤ hi) ∧ (g < los m ∨ his m ≤ g) ∧ (∀ i, i < m → his i ≤ los m ∨ his m ≤ los i) := by
  have hlen : ds.length = m + 1 := (OwnR.rd h).len
  obtain ⟨css, los, his, hl, hO, hg, hel, hd⟩ := h
  have hm : m < ds.length := by omega
  have hu := OwnR.lens (e := e) hl hel
  have hO' := hO
  rw [hlen] at hO
  obtain ⟨hx, ⟨h1, h2⟩ | ⟨g, cap, cur, hv, hb, hgg, hnc, hcm, hcs, ht⟩⟩ := hO
  · omega
  · cases hv
    have hlt : g < w.heap.size := (Array.getElem?_eq_some_iff.1 hgg).1
    refine ⟨los, his, g, css[m]'(by omega), hm, hlen, rfl, hlt, ⟨css.take m, ?_, ?_, ?_, ?_, ?_⟩, (hel m (by omega) hm).1, ?_, (hel m (by omega) hm).2, (hg g rfl).2 m (by omega), ?_⟩
    · rw [List.length_take, List.length_take, hl]
    · have hL : (css.take m).flatten.length = m * R.width := by
        rw [flat_len (s := R.width) (fun c hc => hu c (List.mem_of_mem_take hc)), List.length_take, Nat.min_eq_left (by omega)]
      have hA : css.flatten = (css.take m).flatten ++ (css.drop m).flatten := by rw [← List.flatten_append, List.take_append_drop]
      have hf : (css.take m).flatten = css.flatten.take (m * R.width) := by rw [hA, ← hL, List.take_left]
      have hmm : m * R.width ≤ (m + 1) * R.width := Nat.mul_le_mul_right _ (by omega)
      refine ⟨?_, .inr ⟨g, c, cur, ?_, hb, hgg, ?_, hcm, hcs, ?_⟩⟩
      · rw [flat_len (s := R.width) (fun c hc => hu c (List.mem_of_mem_take hc)), List.length_take, List.length_take, hl]
      · rw [List.length_take, Nat.min_eq_left (by omega)]
      · rw [List.length_take]; omega
      · rw [List.length_take, Nat.min_eq_left (by omega), hf, ← ht, List.take_take, Nat.min_eq_left hmm]
    · intro q hq
      refine ⟨(hg q hq).1, fun i hi => (hg q hq).2 i ?_⟩
      rw [List.length_take] at hi; omega
    · intro i h1 h2
      rw [List.length_take] at h1 h2
      have := hel i (by omega) (by omega)
      rw [List.getElem_take, List.getElem_take]
      exact this
    · intro i j hi hj hij
      rw [List.length_take] at hi hj
      exact hd i j (by omega) (by omega) hij
    · intro k hk
      have hlt2 : m * R.width + k < ds.length * R.width := by
        have : (m + 1) * R.width ≤ ds.length * R.width := Nat.mul_le_mul_right _ (by omega)
        rw [Nat.succ_mul] at this; omega
      rw [← hlen] at hO'
      have h1 := World.ownsRow.cellAt hO' (m * R.width + k) hlt2
      rw [h1, flat_get hu hk, List.getElem?_eq_getElem (by omega)]
      rfl
    · intro i hi
      exact hd i m (by omega) (by omega) (by omega)
theorem nth_64q {l : List Int} (h : AllI64 l) (i : Nat) : I64 (nth l i) := by
  by_cases hi : i < l.length
  · rw [nth_eq hi]; exact h _ (List.getElem_mem hi)
  · simp only [nth, List.getD, List.getElem?_eq_none (Nat.le_of_not_lt hi), Option.getD_none]; exact ⟨by decide, by decide⟩
theorem infoPq : ∃ i, Try.prog.info? 26 = some i ∧ i.zero = some (.agg #[.slice none 0 0, .slice none 0 0, .slice none 0 0]) ∧ i.size = 3 ∧ i.bytes ≤ 1000 := by
  have h : (Try.prog.info? 26).map (fun i => (i.zero, i.size, decide (i.bytes ≤ 1000))) = some (some (.agg #[.slice none 0 0, .slice none 0 0, .slice none 0 0]), 3, true) := by kernel_rfl
  obtain ⟨i, hi, hz⟩ := Option.map_eq_some_iff.1 h
  simp only [Prod.mk.injEq] at hz
  exact ⟨i, hi, hz.1, hz.2.1, of_decide_eq_true hz.2.2⟩
/-- append of one proof of the call's own -/
theorem wpList_append_P {w : World} {lo hi a b g : Nat} {v x y z : Value} {ds : List ProofD} {d : ProofD} {ops : Array Oper} {rest : List Oper} {o : Oper} {ac : Act} {Q : Exit → Act → World → Prop} (hgd : o.guard = none) (s u : Operand)
    (ho : o.op = .call { callee := .builtin .append, args := #[s, u], argTypes := #[24, 24] })
    (hs : ac.eval s = v) (hy : ac.eval u = .slice (some ⟨g, 0, none⟩) 1 1) (hown : OwnR 26 rProof w lo hi v ds) (hx : rProof.own w a b [x, y, z] d) (hab : hi ≤ a) (hbw : b ≤ w.heap.size) (hhi : hi ≤ w.heap.size) (hlo : lo ≤ hi)
    (hB : BoxN w g 26 [x, y, z]) (hlen : ds.length ≤ 1000000000)
    (hK : ∀ v' w', OwnR 26 rProof w' lo w'.heap.size v' (ds ++ [d]) → Below lo w w' → wpList Try.prog ops Q rest (ac.put o.dst v') w') : wpList Try.prog ops Q (o :: rest) ac w := by
  obtain ⟨i, h1, h2, h3, h4⟩ := infoPq
  exact wpList_append_R rProof 24 26 i _ Try.underlying24 h1 h2 h3 h4 rfl (by decide) hgd s u ho lo hi a b v ds [x, y, z] d g 1 hs hy hown hx hab hbw hhi hlo
    (fun k hk => by
      have hk3 : k < 3 := hk
      rw [List.getElem?_eq_getElem (by simpa using hk3)]
      exact hB.cell (List.getElem?_eq_getElem (by simpa using hk3))) hlen hK
theorem OwnR.shapeN {δ : Type} {e : TypeId} {R : RowK δ} {w : World} {lo hi n : Nat} {v : Value} {ds : List δ} (h : OwnR e R w lo hi v ds) (hn : ds.length = n) : ∃ a c, v = .slice a n c := by
  obtain ⟨a, m, c, rfl⟩ := h.rd.shape
  exact ⟨a, c, by rw [← hn, h.rd.len]⟩
theorem row3 {w : World} {lo hi : Nat} {vs : List Value} {d : ProofD} (h : rProof.own w lo hi vs d) : ∃ a1 n1 c1 a2 n2 c2 a3 n3 c3, vs = [.slice a1 n1 c1, .slice a2 n2 c2, .slice a3 n3 c3] := by
  obtain ⟨_, _, rfl, k3, ⟨_, _, rfl, k4, ⟨_, _, rfl, k5, rfl⟩⟩⟩ := rProof.own_rd h
  obtain ⟨_, _, _, rfl⟩ := sInts.sl k3
  obtain ⟨_, _, _, rfl⟩ := sInts.sl k4
  obtain ⟨_, _, _, rfl⟩ := sInts.sl k5
  exact ⟨_, _, _, _, _, _, _, _, _, rfl⟩
theorem OwnSG.zero (w : World) {lo hi : Nat} (h : lo ≤ hi) : kSealedG.own w lo hi (.agg #[.int .i64 0, .slice none 0 0, .slice none 0 0, .slice none 0 0, .slice none 0 0, .slice none 0 0]) ⟨0, [], [], zeroP⟩ := by
  have n1 : OwnR 75 rCipher w lo lo (.slice none 0 0) [] := OwnR.nil _ _ _ _ _
  have n2 : OwnRX 26 rProof (fun _ => 0) (fun _ => 0) w lo lo (.slice none 0 0) [] := by
    exact ⟨[], rfl, by simpa using World.ownsRow_nil w lo 26 rProof.width, (fun g h => by cases h), (fun i h1 _ => by simp at h1), (fun i j h _ _ => by simp at h)⟩
  exact ⟨_, _, _, lo, lo, _, _, lo, lo, lo, lo, rfl, ⟨by decide, by decide⟩, n1, n2, own0 w (Nat.le_refl _), ⟨Nat.le_refl _, h⟩, ⟨Nat.le_refl _, h⟩, ⟨Nat.le_refl _, h⟩, .inl (Nat.le_refl _), .inl (Nat.le_refl _), (fun g h => by cases h), fun i hi => by simp at hi⟩
theorem soD_no {l : List Int} (h : soB l = false) : soD l = ⟨0, [], [], zeroP⟩ := by unfold soD; rw [if_neg (by rw [h]; simp)]
theorem soD_yes {l : List Int} (h : soB l = true) : soD l = soX l := by unfold soD; rw [if_pos h]
theorem soB_c {l : List Int} (h : soC l = false) : soB l = false := by unfold soB; rw [h]; rfl
theorem rw_drop {l : List Int} {k : Nat} : rwA (splitL l) (k + 2) = rwA ((splitL l).drop 2) k := by
  unfold rwA List.getD; rw [List.getElem?_drop, Nat.add_comm 2 k]
theorem take_all {ls : List (List Int)} {k : Nat} (h : k < ls.length) : (ls.take (k + 1)).all dpB = ((ls.take k).all dpB && dpB (rwA ls k)) := by
  rw [List.take_succ_eq_append_getElem h, List.all_append, rwA_eq h]; simp
theorem take_map {ls : List (List Int)} {k : Nat} (h : k < ls.length) : (ls.take (k + 1)).map dpD = (ls.take k).map dpD ++ [dpD (rwA ls k)] := by
  rw [List.take_succ_eq_append_getElem h, List.map_append, rwA_eq h]; rfl
set_option maxRecDepth 100000 in
set_option maxHeartbeats 8000000 in
theorem impl_SealedOfRecord (v : Value) (l : List Int) (w : World) (hl : l.length ≤ 1048576) (h : Ints w v l) :
    Calls Try.prog 7 #[v] w fun e w' => ∃ v', e = .returned (.tuple #[v', .bool (soB l)]) ∧ kSealedG.own w' w.heap.size w'.heap.size v' (soD l) ∧ Below w.heap.size w w' := by
  obtain ⟨a, n, c, rfl⟩ := h.shape
  have H := Lib.hid h; clear h
  obtain ⟨W, hW⟩ : ∃ W, W = w.alloc (.cells #[.int .i64 0, .slice none 0 0, .slice none 0 0, .slice none 0 0, .slice none 0 0, .slice none 0 0] 28) := ⟨_, rfl⟩
  have HB : Hid (Below w.heap.size w W) := by unfold Hid; rw [hW]; (repeat (first | exact Below.refl _ _ | assumption | refine Below.drew ?_ | refine Below.alloc ?_ (by first | (simp; done) | (simp; omega)) _ | refine Below.setCell ?_ (by first | (simp; done) | (simp; omega)) _))
  have HR : Hid (BoxN W w.heap.size 28 [.int .i64 0, .slice none 0 0, .slice none 0 0, .slice none 0 0, .slice none 0 0, .slice none 0 0]) := by unfold Hid; rw [hW]; exact BoxN.new w [.int .i64 0, .slice none 0 0, .slice none 0 0, .slice none 0 0, .slice none 0 0, .slice none 0 0] _
  have hsW : w.heap.size < W.heap.size := by rw [hW]; simp
  go_enter Try.func7, Try.ntmps7
  go_wp2_with fail
  rw [← hW]
  clear hW
  refine (impl_SplitRecords _ l _ (by omega) (H.out.below HB.out)).mono ?_
  rintro e w1 ⟨v1, rfl, hP, hb1⟩
  obtain ⟨a1, n1, c1, rfl⟩ := hP.rd.shape
  have HPR := Lib.hid hP.rd
  have HN1 := Lib.hid hP.rd.len
  have HC1 := Lib.hid hP.rd.capMax
  have hs1 := hb1.size
  have HBX := Lib.hid (HB.out.trans (hb1.mono HB.out.size))
  have HRX := Lib.hid (HR.out.below hb1)
  have HSL := Lib.hid (splitL_len l)
  clear hP hb1 HR
  obtain ⟨q, hq⟩ : ∃ q, splitB l = q := ⟨_, rfl⟩
  rw [hq]
  have HQ := Lib.hid hq; clear hq
  cases q with
  | false =>
    have HBQ : Hid (soB l = false) := soB_c (by unfold soC; rw [HQ.out]; rfl)
    have HV := Lib.hid (soD_no HBQ.out)
    have r0 := HRX.out.cell (i := 0) rfl
    have r1 := HRX.out.cell (i := 1) rfl
    have r2 := HRX.out.cell (i := 2) rfl
    have r3 := HRX.out.cell (i := 3) rfl
    have r4 := HRX.out.cell (i := 4) rfl
    have r5 := HRX.out.cell (i := 5) rfl
    have fr := fun j => HRX.out.frozen j
    go_wp2_with fail
    have HRF := Lib.hid ((((((HRX.out.set 0 (.int .i64 0)).set 1 (.slice none 0 0)).set 2 (.slice none 0 0)).set 3 (.slice none 0 0)).set 4 (.slice none 0 0)).set 5 (.slice none 0 0))
    have HBF := Lib.hid ((((((HBX.out.setCell (p := ⟨w.heap.size, 0, none⟩) (Nat.le_refl _) (.int .i64 0)).setCell (p := ⟨w.heap.size, 1, none⟩) (Nat.le_refl _) (.slice none 0 0)).setCell (p := ⟨w.heap.size, 2, none⟩) (Nat.le_refl _) (.slice none 0 0)).setCell (p := ⟨w.heap.size, 3, none⟩) (Nat.le_refl _) (.slice none 0 0)).setCell (p := ⟨w.heap.size, 4, none⟩) (Nat.le_refl _) (.slice none 0 0)).setCell (p := ⟨w.heap.size, 5, none⟩) (Nat.le_refl _) (.slice none 0 0))
    clear r0 r1 r2 r3 r4 r5 fr
    have t0 := HRF.out.cell (i := 0) rfl
    have t1 := HRF.out.cell (i := 1) rfl
    have t2 := HRF.out.cell (i := 2) rfl
    have t3 := HRF.out.cell (i := 3) rfl
    have t4 := HRF.out.cell (i := 4) rfl
    have t5 := HRF.out.cell (i := 5) rfl
    try (go_wp2_with fail)
    refine bodyPost_ret (v := .tuple #[.agg #[.int .i64 0, .slice none 0 0, .slice none 0 0, .slice none 0 0, .slice none 0 0, .slice none 0 0], .bool false]) (by simp [results, Try.results7, go_sem, t0, t1, t2, t3, t4, t5]) rfl ⟨_, by rw [HBQ.out], ?_, HBF.out⟩
    rw [HV.out]
    exact OwnSG.zero _ HBF.out.size

  | true =>
  by_cases hn3 : n1 < 3
  · have t1 : (n1 : Int) < 3 := by omega
    have HBQ : Hid (soB l = false) := soB_c (by unfold soC; rw [decide_eq_false (by have := HN1.out; omega)]; simp)
    have HV := Lib.hid (soD_no HBQ.out)
    have r0 := HRX.out.cell (i := 0) rfl
    have r1 := HRX.out.cell (i := 1) rfl
    have r2 := HRX.out.cell (i := 2) rfl
    have r3 := HRX.out.cell (i := 3) rfl
    have r4 := HRX.out.cell (i := 4) rfl
    have r5 := HRX.out.cell (i := 5) rfl
    have fr := fun j => HRX.out.frozen j
    go_wp2_with fail
    have HRF := Lib.hid ((((((HRX.out.set 0 (.int .i64 0)).set 1 (.slice none 0 0)).set 2 (.slice none 0 0)).set 3 (.slice none 0 0)).set 4 (.slice none 0 0)).set 5 (.slice none 0 0))
    have HBF := Lib.hid ((((((HBX.out.setCell (p := ⟨w.heap.size, 0, none⟩) (Nat.le_refl _) (.int .i64 0)).setCell (p := ⟨w.heap.size, 1, none⟩) (Nat.le_refl _) (.slice none 0 0)).setCell (p := ⟨w.heap.size, 2, none⟩) (Nat.le_refl _) (.slice none 0 0)).setCell (p := ⟨w.heap.size, 3, none⟩) (Nat.le_refl _) (.slice none 0 0)).setCell (p := ⟨w.heap.size, 4, none⟩) (Nat.le_refl _) (.slice none 0 0)).setCell (p := ⟨w.heap.size, 5, none⟩) (Nat.le_refl _) (.slice none 0 0))
    clear r0 r1 r2 r3 r4 r5 fr
    have t0 := HRF.out.cell (i := 0) rfl
    have t1 := HRF.out.cell (i := 1) rfl
    have t2 := HRF.out.cell (i := 2) rfl
    have t3 := HRF.out.cell (i := 3) rfl
    have t4 := HRF.out.cell (i := 4) rfl
    have t5 := HRF.out.cell (i := 5) rfl
    try (go_wp2_with fail)
    refine bodyPost_ret (v := .tuple #[.agg #[.int .i64 0, .slice none 0 0, .slice none 0 0, .slice none 0 0, .slice none 0 0, .slice none 0 0], .bool false]) (by simp [results, Try.results7, go_sem, t0, t1, t2, t3, t4, t5]) rfl ⟨_, by rw [HBQ.out], ?_, HBF.out⟩
    rw [HV.out]
    exact OwnSG.zero _ HBF.out.size

  have t1 : ¬ (n1 : Int) < 3 := by omega
  have t1b : decide ((n1 : Int) < 3) = false := decide_eq_false t1
  obtain ⟨bp, op, hba, vs, hrv⟩ := HPR.out.at_ (by omega)
  subst hba
  have HK : ∀ k, k < n1 → ∃ x m y, vs k = .slice x m y ∧ w1.cell? ⟨bp, op + k, none⟩ = some (.slice x m y) ∧ Ints w1 (.slice x m y) (rwA (splitL l) k) ∧ (rwA (splitL l) k).length = m := by
    intro k hk
    have hk2 : k < (splitL l).length := by rw [HN1.out]; exact hk
    obtain ⟨h1, h2⟩ := hrv k hk2
    have h3 : Ints w1 (vs k) (rwA (splitL l) k) := by rw [rwA_eq hk2]; exact h2
    obtain ⟨x, m, y, e⟩ := h3.shape
    rw [e] at h1 h3
    exact ⟨x, m, y, e, h1, h3, h3.len⟩
  clear hrv
  have HKK := Lib.hid HK; clear HK
  obtain ⟨x0, m0, y0, _, kc0, ki0, kl0⟩ := HKK.out 0 (by omega)
  obtain ⟨x1, m1, y1, _, kc1, ki1, kl1⟩ := HKK.out 1 (by omega)
  rw [Nat.add_zero] at kc0
  have KC0 := Lib.hid kc0
  have KC1 := Lib.hid kc1
  have KI0 := Lib.hid ki0
  have KI1 := Lib.hid ki1
  have KL0 := Lib.hid kl0
  have KL1 := Lib.hid kl1
  clear kc1 ki0 ki1 kl0 kl1
  have u0 : (0 : Int) < (n1 : Int) := by omega
  have u1 : (1 : Int) < (n1 : Int) := by omega
  by_cases hm0 : m0 = 1
  rotate_left
  · have t2 : ¬ (m0 : Int) = 1 := by omega
    have HBQ : Hid (soB l = false) := soB_c (by unfold soC; rw [decide_eq_false (p := (rwA (splitL l) 0).length = 1) (by have := KL0.out; omega)]; simp)
    have HV := Lib.hid (soD_no HBQ.out)
    have r0 := HRX.out.cell (i := 0) rfl
    have r1 := HRX.out.cell (i := 1) rfl
    have r2 := HRX.out.cell (i := 2) rfl
    have r3 := HRX.out.cell (i := 3) rfl
    have r4 := HRX.out.cell (i := 4) rfl
    have r5 := HRX.out.cell (i := 5) rfl
    have fr := fun j => HRX.out.frozen j
    go_wp2_with fail
    have HRF := Lib.hid ((((((HRX.out.set 0 (.int .i64 0)).set 1 (.slice none 0 0)).set 2 (.slice none 0 0)).set 3 (.slice none 0 0)).set 4 (.slice none 0 0)).set 5 (.slice none 0 0))
    have HBF := Lib.hid ((((((HBX.out.setCell (p := ⟨w.heap.size, 0, none⟩) (Nat.le_refl _) (.int .i64 0)).setCell (p := ⟨w.heap.size, 1, none⟩) (Nat.le_refl _) (.slice none 0 0)).setCell (p := ⟨w.heap.size, 2, none⟩) (Nat.le_refl _) (.slice none 0 0)).setCell (p := ⟨w.heap.size, 3, none⟩) (Nat.le_refl _) (.slice none 0 0)).setCell (p := ⟨w.heap.size, 4, none⟩) (Nat.le_refl _) (.slice none 0 0)).setCell (p := ⟨w.heap.size, 5, none⟩) (Nat.le_refl _) (.slice none 0 0))
    clear r0 r1 r2 r3 r4 r5 fr
    have t0 := HRF.out.cell (i := 0) rfl
    have t1 := HRF.out.cell (i := 1) rfl
    have t2 := HRF.out.cell (i := 2) rfl
    have t3 := HRF.out.cell (i := 3) rfl
    have t4 := HRF.out.cell (i := 4) rfl
    have t5 := HRF.out.cell (i := 5) rfl
    try (go_wp2_with fail)
    refine bodyPost_ret (v := .tuple #[.agg #[.int .i64 0, .slice none 0 0, .slice none 0 0, .slice none 0 0, .slice none 0 0, .slice none 0 0], .bool false]) (by simp [results, Try.results7, go_sem, t0, t1, t2, t3, t4, t5]) rfl ⟨_, by rw [HBQ.out], ?_, HBF.out⟩
    rw [HV.out]
    exact OwnSG.zero _ HBF.out.size

  subst hm0
  obtain ⟨bv, ov, hx0, hcv⟩ := KI0.out.at_ (by omega)
  subst hx0
  have kv := hcv 0 (by omega)
  rw [Nat.add_zero] at kv
  obtain ⟨vo, hvo⟩ : ∃ vo, nth (rwA (splitL l) 0) 0 = vo := ⟨_, rfl⟩
  rw [hvo] at kv
  have HVO := Lib.hid hvo
  have KV := Lib.hid kv
  have HVI : Hid (I64 vo) := by unfold Hid; rw [← hvo]; exact nth_64q KI0.out.all 0
  clear hvo hcv kv
  have HSC : Hid (soC l = true) := by
    unfold Hid soC; rw [HQ.out, decide_eq_true (by have := HN1.out; omega), decide_eq_true KL0.out]; rfl
  have kc1 := KC1.out
  go_wp2_with fail
  clear kc0 kc1
  refine (impl_DecodeCiphers _ (rwA (splitL l) 1) w1 (by have := row_len l 1; omega) KI1.out).mono ?_
  rintro e w2 ⟨vc, rfl, hO, hb2⟩
  obtain ⟨ca, cn, cc, rfl⟩ := (kR 75 rCipher).sl ((kR 75 rCipher).own_rd hO)
  have HOC := Lib.hid hO
  have HB2 := Lib.hid hb2
  have HRY := Lib.hid (HRX.out.below hb2)
  have HBY := Lib.hid (HBX.out.trans (hb2.mono HBX.out.size))
  have hs2 := hb2.size
  clear hO hb2 HRX HBX
  obtain ⟨q0, hq0⟩ : ∃ q, dcB (rwA (splitL l) 1) = q := ⟨_, rfl⟩
  rw [hq0]
  have HQ0 := Lib.hid hq0; clear hq0
  have z0 := box_at KC0.out HB2.out
  have zv := box_at KV.out HB2.out
  have hcap : ¬ c1 = 2 := by have := HC1.out; omega
  obtain ⟨N, hN⟩ : ∃ N, n1 = N + 2 := ⟨n1 - 2, by omega⟩
  subst hN
  go_wp2_with fail
  obtain ⟨X0, hX0⟩ : ∃ g, g = w2.heap.size := ⟨_, rfl⟩
  obtain ⟨V, hV⟩ : ∃ V, V = w2.alloc (.cells #[.int .i64 vo, .slice ca cn cc, .slice none 0 0, .slice none 0 0, .slice none 0 0, .slice none 0 0] 28) := ⟨_, rfl⟩
  have hbV : Below w2.heap.size w2 V := by rw [hV]; exact (Below.refl _ _).alloc (Nat.le_refl _) _
  have hsV : V.heap.size = X0 + 1 := by rw [hV, hX0]; simp
  have HXV : Hid (BoxN V X0 28 [.int .i64 vo, .slice ca cn cc, .slice none 0 0, .slice none 0 0, .slice none 0 0, .slice none 0 0]) := by unfold Hid; rw [hV, hX0]; exact BoxN.new w2 [.int .i64 vo, .slice ca cn cc, .slice none 0 0, .slice none 0 0, .slice none 0 0, .slice none 0 0] _
  have HFV : Hid (Below w2.heap.size w2 V) := hbV
  have HOV : Hid (OwnR 26 rProof V (X0 + 1) V.heap.size (.slice none 0 0) []) := OwnR.nil _ _ _ _ _
  have HX0 := Lib.hid hX0
  rw [← hX0]
  rw [← hV]
  clear hV hbV z0 zv hX0
  obtain ⟨ds, hds⟩ : ∃ z, (splitL l).drop 2 = z := ⟨_, rfl⟩
  have HDS := Lib.hid hds
  have HDL : Hid (ds.length = N) := by unfold Hid; rw [← hds, List.length_drop, HN1.out]; omega
  have HRW : Hid (∀ k, rwA (splitL l) (k + 2) = rwA ds k) := fun k => by rw [← hds]; exact rw_drop
  clear hds
  have hx2 : X0 ≤ w2.heap.size := Nat.le_of_eq HX0.out
  have hx2' : w2.heap.size ≤ X0 := Nat.le_of_eq HX0.out.symm
  have hNm : N ≤ 398 := by have := HN1.out; have := HSL.out; omega
  go_loopg [5, 52] N (fun gk okv iv wr => ∃ (k : Nat) (pa : Option Addr) (pc : Nat), k + gk = N ∧ iv = .int .i64 (k : Int) ∧ okv = .bool (q0 && (ds.take k).all dpB) ∧ Hid (BoxN wr X0 28 [.int .i64 vo, .slice ca cn cc, .slice pa k pc, .slice none 0 0, .slice none 0 0, .slice none 0 0]) ∧ Hid (OwnR 26 rProof wr (X0 + 1) wr.heap.size (.slice pa k pc) ((ds.take k).map dpD)) ∧ Hid (Below w2.heap.size w2 wr) ∧ X0 + 1 ≤ wr.heap.size)
  case atStart => exact ⟨0, none, 0, by omega, rfl, by simp, HXV, HOV, HFV, by omega⟩
  case round =>
    clear HXV HOV HFV hsV
    obtain ⟨k, pa, pc, hkg, rfl, rfl, HX, HO, HF, hsr⟩ := hrel
    have HKC := Lib.hid (HO.out.rd.capMax)
    by_cases hlt : k < N
    · have HKD : Hid (k < ds.length) := by unfold Hid; rw [HDL.out]; exact hlt
      obtain ⟨ra, rn, rc, _, kr, ki, kl⟩ := HKK.out (k + 2) (by omega)
      rw [HRW.out] at ki kl
      have hrl : rn ≤ 400 := by have h1 := row_len l (k + 2); rw [HRW.out k] at h1; omega
      have KI := Lib.hid ki
      have KL := Lib.hid kl
      have kr2 := box_at (box_at kr HB2.out) HF.out
      have HTA := Lib.hid (take_all HKD.out)
      have HTM := Lib.hid (take_map HKD.out)
      obtain ⟨qk, hqk⟩ : ∃ q, (q0 && (ds.take k).all dpB) = q := ⟨_, rfl⟩
      have HQK := Lib.hid hqk
      rw [hqk]
      clear hqk kr ki kl
      have x2 := HX.out.cell (i := 2) rfl
      have hwk : IntKind.i64.wrap ((k : Int) + 1) = (k : Int) + 1 := IntWalk.i64_in _ (by omega)
      have b0 : (0 : Int) ≤ (k : Int) := by omega
      have b1 : (k : Int) < (N : Int) := by omega
      have b2 : decide (k < N) = true := decide_eq_true hlt
      rw [show op + (k + 2) = op + 2 + k by omega] at kr2
      go_wp2_with fail
      clear kr2 x2
      refine (impl_DecodeProof _ (rwA ds k) wr (by rw [KL.out]; omega) ((KI.out.below HB2.out).below HF.out)).mono ?_
      rintro e w3 ⟨us, rfl, hown, hb3⟩
      obtain ⟨d1, e1, f1, d2, e2, f2, d3, e3, f3, rfl⟩ := row3 hown
      obtain ⟨qd, hqd⟩ : ∃ q, dpB (rwA ds k) = q := ⟨_, rfl⟩
      obtain ⟨DD, hDD⟩ : ∃ z, dpD (rwA ds k) = z := ⟨_, rfl⟩
      rw [hqd] at HTA ⊢
      rw [hDD] at HTM hown
      clear hqd hDD
      have HOW := Lib.hid hown
      have HB3 := Lib.hid hb3
      have hs3 := hb3.size
      have HX3 := Lib.hid (HX.out.below hb3)
      have HO3 : Hid (OwnR 26 rProof w3 (X0 + 1) wr.heap.size (.slice pa k pc) ((ds.take k).map dpD)) := Kind.next (K := (kR 26 rProof).toKind) HO.out hb3
      have HF3 : Hid (Below w2.heap.size w2 w3) := HF.out.trans (hb3.mono (by omega))
      have hLK : Hid (((ds.take k).map dpD).length = k) := by unfold Hid; rw [List.length_map, List.length_take, HDL.out]; omega
      clear hown hb3
      have y2 := HX3.out.cell (i := 2) rfl
      have hx3 := HX3.out.lt
      have hbA : Below w3.heap.size w3 ((w3.alloc (.cells #[.slice d1 e1 f1, .slice d2 e2 f2, .slice d3 e3 f3] 26)).alloc (.cells #[.slice d1 e1 f1, .slice d2 e2 f2, .slice d3 e3 f3] 26)) := Below.next ((Below.refl _ _).alloc (Nat.le_refl _) _) ((Below.refl _ _).alloc (Nat.le_refl _) _)
      have HBA := Lib.hid hbA
      have HNB : Hid (BoxN ((w3.alloc (.cells #[.slice d1 e1 f1, .slice d2 e2 f2, .slice d3 e3 f3] 26)).alloc (.cells #[.slice d1 e1 f1, .slice d2 e2 f2, .slice d3 e3 f3] 26)) (w3.heap.size + 1) 26 [.slice d1 e1 f1, .slice d2 e2 f2, .slice d3 e3 f3]) := by
        unfold Hid
        have h9 := BoxN.new (w3.alloc (.cells #[.slice d1 e1 f1, .slice d2 e2 f2, .slice d3 e3 f3] 26)) [.slice d1 e1 f1, .slice d2 e2 f2, .slice d3 e3 f3] 26
        rw [show (w3.alloc (.cells #[.slice d1 e1 f1, .slice d2 e2 f2, .slice d3 e3 f3] 26)).heap.size = w3.heap.size + 1 by simp] at h9
        exact h9
      have HOA : Hid (OwnR 26 rProof ((w3.alloc (.cells #[.slice d1 e1 f1, .slice d2 e2 f2, .slice d3 e3 f3] 26)).alloc (.cells #[.slice d1 e1 f1, .slice d2 e2 f2, .slice d3 e3 f3] 26)) (X0 + 1) wr.heap.size (.slice pa k pc) ((ds.take k).map dpD)) := Kind.next (K := (kR 26 rProof).toKind) HO3.out hbA
      have HWA : Hid (rProof.own ((w3.alloc (.cells #[.slice d1 e1 f1, .slice d2 e2 f2, .slice d3 e3 f3] 26)).alloc (.cells #[.slice d1 e1 f1, .slice d2 e2 f2, .slice d3 e3 f3] 26)) wr.heap.size w3.heap.size [.slice d1 e1 f1, .slice d2 e2 f2, .slice d3 e3 f3] DD) := RowK.next HOW.out hbA
      have HXA := Lib.hid (HX3.out.below hbA)
      have HSA : Hid (((w3.alloc (.cells #[.slice d1 e1 f1, .slice d2 e2 f2, .slice d3 e3 f3] 26)).alloc (.cells #[.slice d1 e1 f1, .slice d2 e2 f2, .slice d3 e3 f3] 26)).heap.size = w3.heap.size + 2) := by unfold Hid; simp
      clear hbA
      cases qk
      all_goals
        go_wp2_with (at_builtin; refine wpList_append_P rfl _ _ rfl (lo := X0 + 1) (hi := wr.heap.size) (a := wr.heap.size) (b := w3.heap.size) (g := w3.heap.size + 1) rfl rfl HOA.out HWA.out (Nat.le_refl _) (by rw [HSA.out]; omega) (by rw [HSA.out]; omega) (by omega) HNB.out (by rw [hLK.out]; omega) ?_; intro v' w5 hO5 hb5; obtain ⟨a9, c9, hv9⟩ := hO5.shapeN (n := k + 1) (by rw [List.length_append, hLK.out]; rfl); subst hv9; have HO5 := Lib.hid hO5; have HB5 := Lib.hid hb5; have BX5 : Hid (BoxN w5 X0 28 [.int .i64 vo, .slice ca cn cc, .slice pa k pc, .slice none 0 0, .slice none 0 0, .slice none 0 0]) := (hb5.block X0 (by omega)).trans HXA.out; clear hO5 hb5; have g2 := BX5.out.cell (i := 2) rfl; have gf := BX5.out.frozen 2)
        have hs5 := HB5.out.size
        have hsA := HSA.out
        (try (go_wp2_with fail))
        clear g2 gf y2
        go_roundg (N - (k + 1))
        case measure => omega
        case rel =>
          have hO6 : OwnR 26 rProof w5 (X0 + 1) w5.heap.size (.slice a9 (k + 1) c9) ((ds.take (k + 1)).map dpD) := by rw [HTM.out]; exact HO5.out
          refine ⟨k + 1, a9, c9, by omega, by go_num, ?_, BX5.out.set 2 _, ?_, ?_, ?_⟩
          · rw [HTA.out, ← Bool.and_assoc, HQK.out]; rfl
          · have hw := (Within.refl X0 (X0 + 1) w5).setCell (b := X0) (Nat.le_refl _) (by omega) 2 (.slice a9 (k + 1) c9)
            have h7 := Kind.kept (K := (kR 26 rProof).toKind) hO6 hw (.inr (Nat.le_refl _))
            unfold Hid
            rw [size_setC]
            exact h7
          · exact (HF3.out.trans ((HBA.out.mono (by omega)).trans (HB5.out.mono (by omega)))).setCell (by omega) _
          · rw [size_setC]; omega
    · obtain rfl : N = k := by omega
      obtain ⟨M, hM⟩ : ∃ M, N = M + 1 := ⟨N - 1, by omega⟩
      subst hM
      have HTK : Hid (ds.take (M + 1) = ds) := by unfold Hid; rw [← HDL.out, List.take_length]
      rw [HTK.out] at HO
      rw [HTK.out]
      obtain ⟨los, his, g, row, hm, hlen, hpa, hgl, hOX, hrow, hcl, hq1, hq2, hq3⟩ := OwnR.last HO.out
      subst hpa
      obtain ⟨s1, e1, f1, s2, e2, f2, s3, e3, f3, hr3⟩ := row3 hrow
      subst hr3
      have HCL := Lib.hid hcl
      have k0 : wr.cell? ⟨g, M * 3, none⟩ = some (.slice s1 e1 f1) := hcl 0 (by decide)
      have k1 : wr.cell? ⟨g, M * 3 + 1, none⟩ = some (.slice s2 e2 f2) := hcl 1 (by decide)
      have k2 : wr.cell? ⟨g, M * 3 + 2, none⟩ = some (.slice s3 e3 f3) := hcl 2 (by decide)
      have x0 := HX.out.cell (i := 0) rfl
      have x1 := HX.out.cell (i := 1) rfl
      have x2 := HX.out.cell (i := 2) rfl
      have x3 := HX.out.cell (i := 3) rfl
      have x4 := HX.out.cell (i := 4) rfl
      have x5 := HX.out.cell (i := 5) rfl
      have HOX := Lib.hid hOX
      have HROW := Lib.hid hrow
      have HQ3 := Lib.hid hq3
      clear hcl hOX hrow hq3
      have wm1 : IntKind.i64.wrap ((M : Int) + 1 - 1) = (M : Int) := by rw [Int.add_sub_cancel]; exact IntWalk.i64_in _ (by omega)
      have wm2 : IntKind.i64.wrap (M : Int) = (M : Int) := IntWalk.i64_in _ (by omega)
      have b0 : (0 : Int) ≤ (M : Int) := by omega
      have b1 : (M : Int) < (M : Int) + 1 := by omega
      have b2 : (M : Int) ≤ (M : Int) + 1 := by omega
      have b3 : M < M + 1 := by omega
      have b4 : M ≤ M + 1 := by omega
      have b5 : (M : Int) ≤ (pc : Int) := by have := HKC.out; omega
      have b6 : M ≤ pc := by have := HKC.out; omega
      go_wp2_with fail
      refine wp_region_noPanic ?_
      refine wp_region_V (fun w' => w'.cell? ⟨X0, 2, none⟩ = some (.slice (some ⟨g, 0, none⟩) (M + 1) pc) ∧ w'.cell? ⟨g, M * 3, none⟩ = some (.slice s1 e1 f1) ∧ w'.cell? ⟨g, M * 3 + 1, none⟩ = some (.slice s2 e2 f2) ∧ w'.cell? ⟨g, M * 3 + 2, none⟩ = some (.slice s3 e3 f3)) 15 11 (.rd 0 (.rd 1 (.rd 2 (.rd 3 (.rd 4 (.rd 5 (.rd 6 (.rd 7 (.rd 8 (.rd 9 (.alt 10 .done .nil))))))))))) [11, 12] (by kernel_rfl) (by kernel_rfl) rfl (fun _ _ _ _ _ h => h) ⟨box_at x2 (Below.refl _ _).drew, box_at k0 (Below.refl _ _).drew, box_at k1 (Below.refl _ _).drew, box_at k2 (Below.refl _ _).drew⟩ ?_
      simp only [pickV, pickN, List.getElem?_cons_zero, List.getElem?_cons_succ]
      iterate 10 (refine' wpV_read _ (by kernel_rfl) (fun w' hS' => ?_) ?_; rotate_left; · ((try dsimp only at hS'); go_simp; (try with_reducible rfl)); (try simp only [Act.put, List.setIfInBounds_toArray, List.set_cons_zero, List.set_cons_succ]))
      have fr := fun j => HX.out.frozen j
      refine wpV_do (by kernel_rfl) (fun K hK => ?_)
      go_simp
      obtain ⟨Y, hY⟩ : ∃ Y, Y = (((wr.setCell ⟨X0, 3, none⟩ (.slice s1 e1 f1)).setCell ⟨X0, 4, none⟩ (.slice s2 e2 f2)).setCell ⟨X0, 5, none⟩ (.slice s3 e3 f3)).drew := ⟨_, rfl⟩
      rw [← hY]
      have hwY : Within X0 (X0 + 1) wr Y := by
        rw [hY]
        exact ((((Within.refl X0 (X0 + 1) wr).setCell (Nat.le_refl _) (by omega) 3 (.slice s1 e1 f1)).setCell (Nat.le_refl _) (by omega) 4 (.slice s2 e2 f2)).setCell (Nat.le_refl _) (by omega) 5 (.slice s3 e3 f3)).trans (Within.of_below (Below.refl _ _).drew)
      have HXY : Hid (BoxN Y X0 28 [.int .i64 vo, .slice ca cn cc, .slice (some ⟨g, 0, none⟩) (M + 1) pc, .slice s1 e1 f1, .slice s2 e2 f2, .slice s3 e3 f3]) := by
        unfold Hid; rw [hY]
        exact (((HX.out.set 3 (.slice s1 e1 f1)).set 4 (.slice s2 e2 f2)).set 5 (.slice s3 e3 f3)).below (Below.refl _ _).drew
      have hgX : X0 + 1 ≤ g := (HOX.out.blk g rfl).1
      have HWY := Lib.hid hwY
      have q2 := HXY.out.cell (i := 2) rfl
      have p0 := within_at hwY k0 (.inr hgX)
      have p1 := within_at hwY k1 (.inr hgX)
      have p2 := within_at hwY k2 (.inr hgX)
      refine hK.out _ _ ⟨q2, p0, p1, p2⟩ (fun _ => ?_)
      clear hK K fr hY hwY x0 x1 x2 x3 x4 x5 k0 k1 k2 p0 p1 p2
      (try simp only [Act.put, List.setIfInBounds_toArray, List.set_cons_zero, List.set_cons_succ])
      refine wpV_done ?_
      have fr := HXY.out.frozen 2
      go_wp2_with fail
      refine NoPanic.normal ?_
      clear q2 fr
      obtain ⟨Z, hZ⟩ : ∃ Z, Z = Y.setCell ⟨X0, 2, none⟩ (.slice (some ⟨g, 0, none⟩) M pc) := ⟨_, rfl⟩
      rw [← hZ]
      have HWZ : Hid (Within X0 (X0 + 1) wr Z) := by unfold Hid; rw [hZ]; exact HWY.out.setCell (Nat.le_refl _) (by omega) 2 (.slice (some ⟨g, 0, none⟩) M pc)
      have HXZ : Hid (BoxN Z X0 28 [.int .i64 vo, .slice ca cn cc, .slice (some ⟨g, 0, none⟩) M pc, .slice s1 e1 f1, .slice s2 e2 f2, .slice s3 e3 f3]) := by
        unfold Hid; rw [hZ]; exact HXY.out.set 2 _
      clear hZ
      have hsZ := HWZ.out.size
      have HSX : Hid (soX l = ⟨vo, dcD (rwA (splitL l) 1), (ds.map dpD).take M, (ds.map dpD)[M]'hm⟩) := by
        have e : soP l = ds.map dpD := by unfold soP; rw [HDS.out]
        unfold Hid soX
        rw [e, hlen, Nat.add_sub_cancel, HVO.out]
        congr 1
        simp only [nthP, List.getD, List.getElem?_eq_getElem hm, Option.getD_some]
      have HSG : Hid (kSealedG.own Z w1.heap.size wr.heap.size (.agg #[.int .i64 vo, .slice ca cn cc, .slice (some ⟨g, 0, none⟩) M pc, .slice s1 e1 f1, .slice s2 e2 f2, .slice s3 e3 f3]) (soX l)) := by
        unfold Hid
        rw [HSX.out]
        have o1 := Kind.kept (K := (kR 75 rCipher).toKind) (Kind.next (K := (kR 75 rCipher).toKind) HOC.out HF.out) HWZ.out (.inl (by omega))
        have o2 := HOX.out.frame' (w' := Z) (fun k h1 h2 h3 => HWZ.out.block k h3 (.inr (by omega)))
        have o3 := RowK.kept HROW.out HWZ.out (.inr (by omega))
        have hsf := HF.out.size
        exact ⟨_, _, _, _, _, _, _, _, _, _, _, rfl, HVI.out, o1, o2, o3, ⟨Nat.le_refl _, hsf⟩, ⟨by omega, Nat.le_refl _⟩, ⟨by omega, by omega⟩, .inl (by omega), .inl (by omega), (fun b hb => by cases hb; omega), fun i hi => HQ3.out i (by rw [List.length_take] at hi; omega)⟩
      have HRZ := Lib.hid ((HRY.out.below HF.out).kept HWZ.out (.inl (by omega)))
      have HBZ : Hid (Below w.heap.size w Z) := (HBY.out.trans (HF.out.mono (by omega))).trans (HWZ.out.below (by have := HF.out.size; omega) (by omega))
      have z0 := HXZ.out.cell (i := 0) rfl
      have z1 := HXZ.out.cell (i := 1) rfl
      have z2 := HXZ.out.cell (i := 2) rfl
      have z3 := HXZ.out.cell (i := 3) rfl
      have z4 := HXZ.out.cell (i := 4) rfl
      have z5 := HXZ.out.cell (i := 5) rfl
      have hZ1 := HXZ.out.lt
      go_wp2_with fail
      clear z0 z1 z2 z3 z4 z5
      refine (impl_SealedRecord _ (soX l) Z (by have := so_sz l; omega) (kSealedG.own_rd HSG.out)).mono ?_
      rintro e w7 ⟨v7, rfl, hJ, hb7⟩
      have HJ := Lib.hid hJ
      have HSG7 := Lib.hid (Kind.next (K := kSealedG) HSG.out hb7)
      have HXR := Lib.hid (HXZ.out.below hb7)
      have HRX := Lib.hid (HRZ.out.below hb7)
      have HBX := Lib.hid (HBZ.out.trans (hb7.mono HBZ.out.size))
      have hs7 := hb7.size
      clear hJ hb7
      have HSO := Lib.hid (so_impl HSC.out)
      have HOK : Hid (soOk l = (q0 && ds.all dpB)) := by unfold Hid soOk; rw [HQ0.out, HDS.out]
      obtain ⟨qo, hqo⟩ : ∃ q, (q0 && ds.all dpB) = q := ⟨_, rfl⟩
      obtain ⟨qs, hqs⟩ : ∃ q, seaB (soX l) = q := ⟨_, rfl⟩
      obtain ⟨qe, hqe⟩ : ∃ q, decide (seaR (soX l) = l) = q := ⟨_, rfl⟩
      rw [hqo] at HOK ⊢
      rw [hqs] at HSO ⊢
      rw [hqe, HOK.out] at HSO
      have HQE := Lib.hid hqe
      clear hqo hqs hqe
      obtain ⟨j1, j2, j3, rfl⟩ := HJ.out.reads.shape
      have hcs : (qo = false ∨ qs = false) ∨ (qo = true ∧ qs = true ∧ qe = false) ∨ (qo = true ∧ qs = true ∧ qe = true) := by cases qo <;> cases qs <;> cases qe <;> simp
      rcases hcs with (rfl | rfl) | ⟨rfl, rfl, rfl⟩ | ⟨rfl, rfl, rfl⟩
      · have HBQ : Hid (soB l = false) := HSO.out.symm
        have HV := Lib.hid (soD_no HBQ.out)
        have r0 := HRX.out.cell (i := 0) rfl
        have r1 := HRX.out.cell (i := 1) rfl
        have r2 := HRX.out.cell (i := 2) rfl
        have r3 := HRX.out.cell (i := 3) rfl
        have r4 := HRX.out.cell (i := 4) rfl
        have r5 := HRX.out.cell (i := 5) rfl
        have fr := fun j => HRX.out.frozen j
        go_wp2_with fail
        have HRF := Lib.hid ((((((HRX.out.set 0 (.int .i64 0)).set 1 (.slice none 0 0)).set 2 (.slice none 0 0)).set 3 (.slice none 0 0)).set 4 (.slice none 0 0)).set 5 (.slice none 0 0))
        have HBF := Lib.hid ((((((HBX.out.setCell (p := ⟨w.heap.size, 0, none⟩) (Nat.le_refl _) (.int .i64 0)).setCell (p := ⟨w.heap.size, 1, none⟩) (Nat.le_refl _) (.slice none 0 0)).setCell (p := ⟨w.heap.size, 2, none⟩) (Nat.le_refl _) (.slice none 0 0)).setCell (p := ⟨w.heap.size, 3, none⟩) (Nat.le_refl _) (.slice none 0 0)).setCell (p := ⟨w.heap.size, 4, none⟩) (Nat.le_refl _) (.slice none 0 0)).setCell (p := ⟨w.heap.size, 5, none⟩) (Nat.le_refl _) (.slice none 0 0))
        clear r0 r1 r2 r3 r4 r5 fr
        have t0 := HRF.out.cell (i := 0) rfl
        have t1 := HRF.out.cell (i := 1) rfl
        have t2 := HRF.out.cell (i := 2) rfl
        have t3 := HRF.out.cell (i := 3) rfl
        have t4 := HRF.out.cell (i := 4) rfl
        have t5 := HRF.out.cell (i := 5) rfl
        try (go_wp2_with fail)
        refine bodyPost_ret (v := .tuple #[.agg #[.int .i64 0, .slice none 0 0, .slice none 0 0, .slice none 0 0, .slice none 0 0, .slice none 0 0], .bool false]) (by simp [results, Try.results7, go_sem, t0, t1, t2, t3, t4, t5]) rfl ⟨_, by rw [HBQ.out], ?_, HBF.out⟩
        rw [HV.out]
        exact OwnSG.zero _ HBF.out.size
      · cases qo
        all_goals
          have HBQ : Hid (soB l = false) := by have h9 := HSO.out; unfold Hid; simpa using h9.symm
          have HV := Lib.hid (soD_no HBQ.out)
          have r0 := HRX.out.cell (i := 0) rfl
          have r1 := HRX.out.cell (i := 1) rfl
          have r2 := HRX.out.cell (i := 2) rfl
          have r3 := HRX.out.cell (i := 3) rfl
          have r4 := HRX.out.cell (i := 4) rfl
          have r5 := HRX.out.cell (i := 5) rfl
          have fr := fun j => HRX.out.frozen j
          go_wp2_with fail
          have HRF := Lib.hid ((((((HRX.out.set 0 (.int .i64 0)).set 1 (.slice none 0 0)).set 2 (.slice none 0 0)).set 3 (.slice none 0 0)).set 4 (.slice none 0 0)).set 5 (.slice none 0 0))
          have HBF := Lib.hid ((((((HBX.out.setCell (p := ⟨w.heap.size, 0, none⟩) (Nat.le_refl _) (.int .i64 0)).setCell (p := ⟨w.heap.size, 1, none⟩) (Nat.le_refl _) (.slice none 0 0)).setCell (p := ⟨w.heap.size, 2, none⟩) (Nat.le_refl _) (.slice none 0 0)).setCell (p := ⟨w.heap.size, 3, none⟩) (Nat.le_refl _) (.slice none 0 0)).setCell (p := ⟨w.heap.size, 4, none⟩) (Nat.le_refl _) (.slice none 0 0)).setCell (p := ⟨w.heap.size, 5, none⟩) (Nat.le_refl _) (.slice none 0 0))
          clear r0 r1 r2 r3 r4 r5 fr
          have t0 := HRF.out.cell (i := 0) rfl
          have t1 := HRF.out.cell (i := 1) rfl
          have t2 := HRF.out.cell (i := 2) rfl
          have t3 := HRF.out.cell (i := 3) rfl
          have t4 := HRF.out.cell (i := 4) rfl
          have t5 := HRF.out.cell (i := 5) rfl
          try (go_wp2_with fail)
          refine bodyPost_ret (v := .tuple #[.agg #[.int .i64 0, .slice none 0 0, .slice none 0 0, .slice none 0 0, .slice none 0 0, .slice none 0 0], .bool false]) (by simp [results, Try.results7, go_sem, t0, t1, t2, t3, t4, t5]) rfl ⟨_, by rw [HBQ.out], ?_, HBF.out⟩
          rw [HV.out]
          exact OwnSG.zero _ HBF.out.size
      · go_wp2_with (first | (go_at_call 23; refine (slices_Equal _ _ (seaR (soX l)) l _ HJ.out.reads (H.out.below HBX.out)).mono ?_; rintro e w8 ⟨rfl, m8, hw8⟩; have hb8 := Below.drewOf hw8; clear hw8; rw [HQE.out]; have HRW8 := Lib.hid (HRX.out.below hb8); have HBW8 := Lib.hid (HBX.out.trans (hb8.mono HBX.out.size)); have HSG8 := Lib.hid (Kind.next (K := kSealedG) HSG7.out hb8); have HXQ8 := Lib.hid (HXR.out.below hb8); have hs8 := hb8.size; clear hb8; have r0 := HRW8.out.cell (i := 0) rfl; have r1 := HRW8.out.cell (i := 1) rfl; have r2 := HRW8.out.cell (i := 2) rfl; have r3 := HRW8.out.cell (i := 3) rfl; have r4 := HRW8.out.cell (i := 4) rfl; have r5 := HRW8.out.cell (i := 5) rfl; have fr := fun j => HRW8.out.frozen j) | fail)
        have HBQ : Hid (soB l = false) := by have h9 := HSO.out; unfold Hid; simpa using h9.symm
        have HV := Lib.hid (soD_no HBQ.out)
        have HRF := Lib.hid ((((((HRW8.out.set 0 (.int .i64 0)).set 1 (.slice none 0 0)).set 2 (.slice none 0 0)).set 3 (.slice none 0 0)).set 4 (.slice none 0 0)).set 5 (.slice none 0 0))
        have HBF := Lib.hid ((((((HBW8.out.setCell (p := ⟨w.heap.size, 0, none⟩) (Nat.le_refl _) (.int .i64 0)).setCell (p := ⟨w.heap.size, 1, none⟩) (Nat.le_refl _) (.slice none 0 0)).setCell (p := ⟨w.heap.size, 2, none⟩) (Nat.le_refl _) (.slice none 0 0)).setCell (p := ⟨w.heap.size, 3, none⟩) (Nat.le_refl _) (.slice none 0 0)).setCell (p := ⟨w.heap.size, 4, none⟩) (Nat.le_refl _) (.slice none 0 0)).setCell (p := ⟨w.heap.size, 5, none⟩) (Nat.le_refl _) (.slice none 0 0))
        clear r0 r1 r2 r3 r4 r5 fr
        have t0 := HRF.out.cell (i := 0) rfl
        have t1 := HRF.out.cell (i := 1) rfl
        have t2 := HRF.out.cell (i := 2) rfl
        have t3 := HRF.out.cell (i := 3) rfl
        have t4 := HRF.out.cell (i := 4) rfl
        have t5 := HRF.out.cell (i := 5) rfl
        try (go_wp2_with fail)
        refine bodyPost_ret (v := .tuple #[.agg #[.int .i64 0, .slice none 0 0, .slice none 0 0, .slice none 0 0, .slice none 0 0, .slice none 0 0], .bool false]) (by simp [results, Try.results7, go_sem, t0, t1, t2, t3, t4, t5]) rfl ⟨_, by rw [HBQ.out], ?_, HBF.out⟩
        rw [HV.out]
        exact OwnSG.zero _ HBF.out.size
      · go_wp2_with (first | (go_at_call 23; refine (slices_Equal _ _ (seaR (soX l)) l _ HJ.out.reads (H.out.below HBX.out)).mono ?_; rintro e w8 ⟨rfl, m8, hw8⟩; have hb8 := Below.drewOf hw8; clear hw8; rw [HQE.out]; have HRW8 := Lib.hid (HRX.out.below hb8); have HBW8 := Lib.hid (HBX.out.trans (hb8.mono HBX.out.size)); have HSG8 := Lib.hid (Kind.next (K := kSealedG) HSG7.out hb8); have HXQ8 := Lib.hid (HXR.out.below hb8); have hs8 := hb8.size; clear hb8; have r0 := HRW8.out.cell (i := 0) rfl; have r1 := HRW8.out.cell (i := 1) rfl; have r2 := HRW8.out.cell (i := 2) rfl; have r3 := HRW8.out.cell (i := 3) rfl; have r4 := HRW8.out.cell (i := 4) rfl; have r5 := HRW8.out.cell (i := 5) rfl; have fr := fun j => HRW8.out.frozen j; have z0 := HXQ8.out.cell (i := 0) rfl; have z1 := HXQ8.out.cell (i := 1) rfl; have z2 := HXQ8.out.cell (i := 2) rfl; have z3 := HXQ8.out.cell (i := 3) rfl; have z4 := HXQ8.out.cell (i := 4) rfl; have z5 := HXQ8.out.cell (i := 5) rfl) | fail)
        have HBQ : Hid (soB l = true) := by have h9 := HSO.out; unfold Hid; simpa using h9.symm
        have HV := Lib.hid (soD_yes HBQ.out)
        have HRF := Lib.hid ((((((HRW8.out.set 0 (.int .i64 vo)).set 1 (.slice ca cn cc)).set 2 (.slice (some ⟨g, 0, none⟩) M pc)).set 3 (.slice s1 e1 f1)).set 4 (.slice s2 e2 f2)).set 5 (.slice s3 e3 f3))
        have HBF := Lib.hid ((((((HBW8.out.setCell (p := ⟨w.heap.size, 0, none⟩) (Nat.le_refl _) (.int .i64 vo)).setCell (p := ⟨w.heap.size, 1, none⟩) (Nat.le_refl _) (.slice ca cn cc)).setCell (p := ⟨w.heap.size, 2, none⟩) (Nat.le_refl _) (.slice (some ⟨g, 0, none⟩) M pc)).setCell (p := ⟨w.heap.size, 3, none⟩) (Nat.le_refl _) (.slice s1 e1 f1)).setCell (p := ⟨w.heap.size, 4, none⟩) (Nat.le_refl _) (.slice s2 e2 f2)).setCell (p := ⟨w.heap.size, 5, none⟩) (Nat.le_refl _) (.slice s3 e3 f3))
        clear r0 r1 r2 r3 r4 r5 fr z0 z1 z2 z3 z4 z5
        have t0 := HRF.out.cell (i := 0) rfl
        have t1 := HRF.out.cell (i := 1) rfl
        have t2 := HRF.out.cell (i := 2) rfl
        have t3 := HRF.out.cell (i := 3) rfl
        have t4 := HRF.out.cell (i := 4) rfl
        have t5 := HRF.out.cell (i := 5) rfl
        try (go_wp2_with fail)
        have hwF : Within w.heap.size (w.heap.size + 1) w8 ((((((w8.setCell ⟨w.heap.size, 0, none⟩ (.int .i64 vo)).setCell ⟨w.heap.size, 1, none⟩ (.slice ca cn cc)).setCell ⟨w.heap.size, 2, none⟩ (.slice (some ⟨g, 0, none⟩) M pc)).setCell ⟨w.heap.size, 3, none⟩ (.slice s1 e1 f1)).setCell ⟨w.heap.size, 4, none⟩ (.slice s2 e2 f2)).setCell ⟨w.heap.size, 5, none⟩ (.slice s3 e3 f3)) := (((((((Within.refl w.heap.size (w.heap.size + 1) w8).setCell (Nat.le_refl _) (by omega) 0 (.int .i64 vo)).setCell (Nat.le_refl _) (by omega) 1 (.slice ca cn cc)).setCell (Nat.le_refl _) (by omega) 2 (.slice (some ⟨g, 0, none⟩) M pc)).setCell (Nat.le_refl _) (by omega) 3 (.slice s1 e1 f1)).setCell (Nat.le_refl _) (by omega) 4 (.slice s2 e2 f2)).setCell (Nat.le_refl _) (by omega) 5 (.slice s3 e3 f3))
        have hsw8 := HBW8.out.size
        refine bodyPost_ret (v := .tuple #[.agg #[.int .i64 vo, .slice ca cn cc, .slice (some ⟨g, 0, none⟩) M pc, .slice s1 e1 f1, .slice s2 e2 f2, .slice s3 e3 f3], .bool true]) (by simp [results, Try.results7, go_sem, t0, t1, t2, t3, t4, t5]) rfl ⟨_, by rw [HBQ.out], ?_, HBF.out⟩
        rw [HV.out]
        have h9 := Kind.kept (K := kSealedG) HSG8.out hwF (.inr (by omega))
        exact kSealedG.own_mono h9 (by omega) (by simp only [size_setC]; omega)
end Go.Proofs.Ytbcaknmpbkapnaa
