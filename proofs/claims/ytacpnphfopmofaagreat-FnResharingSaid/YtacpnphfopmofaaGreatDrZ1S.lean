/- Sums of products modulo q: walks (impl.dot, spec.nDot). -/
import Derived.Test.YtacpnphfopmofaaGreatLag1S
import Derived.Test.YtacpnphfopmofaaGreatBmS
import Derived.Test.YtacpnphfopmofaaGreatRegVS
import Derived.Test.YtacpnphfopmofaaGreatSh2S
import Derived.Test.YtacpnphfopmofaaGreatDrSh3S
namespace Go.Proofs.YtacpnphfopmofaaGreat
open Go.RowKit
set_option linter.unusedSimpArgs false
set_option linter.unusedVariables false

/-- the residue of a sum of products -/
def dotM (q : Int) (a b : List Int) (n : Nat) : Int := dotI n (nth a) (nth b) % q
theorem dotM_succ {q : Int} (a b : List Int) (n : Nat) : dotM q a b (n + 1) = (dotM q a b n + nth a n * nth b n) % q := by
  unfold dotM; rw [dotI_succ, Int.emod_add_emod]
theorem mulD_bd {x y q : Int} (x0 : 0 ≤ x) (x1 : x < q) (y0 : 0 ≤ y) (y1 : y < q) (hq : q ≤ 2000000000) : 0 ≤ x * y ∧ x * y ≤ 4000000000000000000 := by
  refine ⟨Int.mul_nonneg x0 y0, ?_⟩
  have h := Int.mul_le_mul (show x ≤ 2000000000 by omega) (show y ≤ 2000000000 by omega) y0 (by omega)
  omega
set_option maxRecDepth 100000 in
set_option maxHeartbeats 2000000 in
theorem impl_dot (q : Int) (v u : Value) (a b : List Int) (w : World) (hq : 2 ≤ q ∧ q ≤ 2000000000) (h : Ints w v a) (h' : Ints w u b) (ha : ∀ y ∈ a, 0 ≤ y ∧ y < q) (hb : ∀ y ∈ b, 0 ≤ y ∧ y < q) (hl : a.length ≤ b.length) :
    Calls Tryz.prog 108 #[v, u, .int .i64 q] w fun e w' => e = .returned (.int .i64 (dotM q a b a.length)) ∧ Below w.heap.size w w' := by
  obtain ⟨hq1, hq2⟩ := hq
  obtain ⟨aa, n, c, rfl⟩ := h.shape
  obtain ⟨ab, m, d, rfl⟩ := h'.shape
  have HE := Lib.hid h.len
  have HF := Lib.hid h'.len
  obtain ⟨k1, k2⟩ := h.capMax
  obtain ⟨k3, k4⟩ := h'.capMax
  unfold maxLen at k2 k4
  have HA := Lib.hid ha
  have HBB := Lib.hid hb
  have HL : Hid (n ≤ m) := by have := HE.out; have := HF.out; unfold Hid; omega
  have H := Lib.hid h
  have H' := Lib.hid h'
  clear ha hb h h' hl
  go_enter Tryz.func108, Tryz.ntmps108
  go_wp2_with fail
  go_loopg [7, 11] n (fun gg ov iv wr => ∃ (j : Nat) (o : Int), j + gg = n ∧ iv = .int .i64 (j : Int) ∧ ov = .int .i64 o ∧ Hid (dotM q a b j = o) ∧ 0 ≤ o ∧ o < q ∧ Below w.heap.size w wr)
  case atStart => exact ⟨0, 0, by omega, rfl, rfl, by unfold Hid dotM dotI; simp, by omega, by omega, Below.refl _ _⟩
  case round =>
    obtain ⟨j, o, hjg, rfl, rfl, HO, ho0, ho1, hbw⟩ := hrel
    by_cases hlt : j < n
    · have hjm : j < m := by have := HL.out; omega
      obtain ⟨b1, o1, rfl, hcx⟩ := (H.out.below hbw).at_ (by omega)
      obtain ⟨b2, o2, rfl, hcy⟩ := (H'.out.below hbw).at_ (by omega)
      have hx := hcx j hlt
      have hy := hcy j hjm
      have hxb : 0 ≤ nth a j ∧ nth a j < q := by rw [nthE (by rw [HE.out]; exact hlt)]; exact HA.out _ (List.getElem_mem _)
      have hyb : 0 ≤ nth b j ∧ nth b j < q := by rw [nthE (by rw [HF.out]; exact hjm)]; exact HBB.out _ (List.getElem_mem _)
      have HS : Hid (dotM q a b (j + 1) = (o + nth a j * nth b j) % q) := by unfold Hid; rw [dotM_succ, HO.out]
      clear hcx hcy
      obtain ⟨x, hxx⟩ : ∃ y, nth a j = y := ⟨_, rfl⟩
      obtain ⟨y, hyy⟩ : ∃ y, nth b j = y := ⟨_, rfl⟩
      rw [hxx] at hx hxb HS
      rw [hyy] at hy hyb HS
      clear hxx hyy
      obtain ⟨x0, x1⟩ := hxb
      obtain ⟨y0, y1⟩ := hyb
      obtain ⟨m0, m1⟩ := mulD_bd x0 x1 y0 y1 hq2
      have r0 : 0 ≤ x * y % q := Int.emod_nonneg _ (by omega)
      have r1 : x * y % q < q := Int.emod_lt_of_pos _ (by omega)
      have s0 : 0 ≤ (o + x * y) % q := Int.emod_nonneg _ (by omega)
      have s1 : (o + x * y) % q < q := Int.emod_lt_of_pos _ (by omega)
      have et1 : Int.tmod (x * y) q = x * y % q := Int.tmod_eq_emod_of_nonneg m0
      have et2 : Int.tmod (o + x * y % q) q = (o + x * y) % q := by rw [Int.tmod_eq_emod_of_nonneg (by omega), Int.add_emod_emod]
      have et3 : Int.tmod (o + x * y) q = (o + x * y) % q := Int.tmod_eq_emod_of_nonneg (by omega)
      have ew1 : IntKind.i64.wrap (x * y) = x * y := IntWalk.i64_in _ (by omega)
      have ew2 : IntKind.i64.wrap (x * y % q) = x * y % q := IntWalk.i64_in _ (by omega)
      have ew3 : IntKind.i64.wrap (o + x * y % q) = o + x * y % q := IntWalk.i64_in _ (by omega)
      have ew6 : IntKind.i64.wrap (o + x * y) = o + x * y := IntWalk.i64_in _ (by omega)
      have ew4 : IntKind.i64.wrap ((o + x * y) % q) = (o + x * y) % q := IntWalk.i64_in _ (by omega)
      have ew5 : IntKind.i64.wrap ((j : Int) + 1) = (j : Int) + 1 := IntWalk.i64_in _ (by omega)
      have hpz : ¬ q = 0 := by omega
      have hpz2 : (q == 0) = false := by rw [beq_eq_false_iff_ne]; omega
      have hj0 : (0 : Int) ≤ (j : Int) := by omega
      have hj1 : (j : Int) < (n : Int) := by omega
      have hj2 : (j : Int) < (m : Int) := by omega
      have HB := Lib.hid hbw; clear hbw
      go_wp2_with fail
      go_quiet (fail)
      go_wp2_with fail
      go_roundg (n - (j + 1))
      case measure => omega
      case rel => exact ⟨j + 1, _, by omega, by go_num, rfl, HS.out, s0, s1, below_drewN HB.out _⟩
    · obtain rfl : n = j := by omega
      have HR : Hid (dotM q a b a.length = o) := by unfold Hid; rw [HE.out]; exact HO.out
      have HB := Lib.hid hbw; clear hbw
      go_wp2_with fail
      go_ret
      exact ⟨ret_int HR.out.symm, HB.out⟩
set_option maxRecDepth 100000 in
set_option maxHeartbeats 2000000 in
theorem spec_nDot (q : Int) (v u : Value) (a b : List Int) (w : World) (hq : 2 ≤ q ∧ q ≤ 2000000000) (h : Ints w v a) (h' : Ints w u b) (ha : ∀ y ∈ a, 0 ≤ y ∧ y < q) (hb : ∀ y ∈ b, 0 ≤ y ∧ y < q) (hl : a.length ≤ b.length) :
    Calls Tryz.prog 109 #[v, u, .int .i64 q] w fun e w' => e = .returned (.int .i64 (dotM q a b a.length)) ∧ Below w.heap.size w w' := by
  obtain ⟨hq1, hq2⟩ := hq
  obtain ⟨aa, n, c, rfl⟩ := h.shape
  obtain ⟨ab, m, d, rfl⟩ := h'.shape
  have HE := Lib.hid h.len
  have HF := Lib.hid h'.len
  obtain ⟨k1, k2⟩ := h.capMax
  obtain ⟨k3, k4⟩ := h'.capMax
  unfold maxLen at k2 k4
  have HA := Lib.hid ha
  have HBB := Lib.hid hb
  have HL : Hid (n ≤ m) := by have := HE.out; have := HF.out; unfold Hid; omega
  have H := Lib.hid h
  have H' := Lib.hid h'
  clear ha hb h h' hl
  go_enter Tryz.func109, Tryz.ntmps109
  go_wp2_with fail
  go_loopg [7, 12] n (fun gg ov iv wr => ∃ (j : Nat) (o : Int), j + gg = n ∧ iv = .int .i64 (j : Int) ∧ ov = .int .i64 o ∧ Hid (dotM q a b j = o) ∧ 0 ≤ o ∧ o < q ∧ Below w.heap.size w wr)
  case atStart => exact ⟨0, 0, by omega, rfl, rfl, by unfold Hid dotM dotI; simp, by omega, by omega, Below.refl _ _⟩
  case round =>
    obtain ⟨j, o, hjg, rfl, rfl, HO, ho0, ho1, hbw⟩ := hrel
    by_cases hlt : j < n
    · have hjm : j < m := by have := HL.out; omega
      obtain ⟨b1, o1, rfl, hcx⟩ := (H.out.below hbw).at_ (by omega)
      obtain ⟨b2, o2, rfl, hcy⟩ := (H'.out.below hbw).at_ (by omega)
      have hx := hcx j hlt
      have hy := hcy j hjm
      have hxb : 0 ≤ nth a j ∧ nth a j < q := by rw [nthE (by rw [HE.out]; exact hlt)]; exact HA.out _ (List.getElem_mem _)
      have hyb : 0 ≤ nth b j ∧ nth b j < q := by rw [nthE (by rw [HF.out]; exact hjm)]; exact HBB.out _ (List.getElem_mem _)
      have HS : Hid (dotM q a b (j + 1) = (o + nth a j * nth b j) % q) := by unfold Hid; rw [dotM_succ, HO.out]
      clear hcx hcy
      obtain ⟨x, hxx⟩ : ∃ y, nth a j = y := ⟨_, rfl⟩
      obtain ⟨y, hyy⟩ : ∃ y, nth b j = y := ⟨_, rfl⟩
      rw [hxx] at hx hxb HS
      rw [hyy] at hy hyb HS
      clear hxx hyy
      obtain ⟨x0, x1⟩ := hxb
      obtain ⟨y0, y1⟩ := hyb
      obtain ⟨m0, m1⟩ := mulD_bd x0 x1 y0 y1 hq2
      have r0 : 0 ≤ x * y % q := Int.emod_nonneg _ (by omega)
      have r1 : x * y % q < q := Int.emod_lt_of_pos _ (by omega)
      have s0 : 0 ≤ (o + x * y) % q := Int.emod_nonneg _ (by omega)
      have s1 : (o + x * y) % q < q := Int.emod_lt_of_pos _ (by omega)
      have et1 : Int.tmod (x * y) q = x * y % q := Int.tmod_eq_emod_of_nonneg m0
      have et2 : Int.tmod (o + x * y % q) q = (o + x * y) % q := by rw [Int.tmod_eq_emod_of_nonneg (by omega), Int.add_emod_emod]
      have et3 : Int.tmod (o + x * y) q = (o + x * y) % q := Int.tmod_eq_emod_of_nonneg (by omega)
      have ew1 : IntKind.i64.wrap (x * y) = x * y := IntWalk.i64_in _ (by omega)
      have ew2 : IntKind.i64.wrap (x * y % q) = x * y % q := IntWalk.i64_in _ (by omega)
      have ew3 : IntKind.i64.wrap (o + x * y % q) = o + x * y % q := IntWalk.i64_in _ (by omega)
      have ew6 : IntKind.i64.wrap (o + x * y) = o + x * y := IntWalk.i64_in _ (by omega)
      have ew4 : IntKind.i64.wrap ((o + x * y) % q) = (o + x * y) % q := IntWalk.i64_in _ (by omega)
      have ew5 : IntKind.i64.wrap ((j : Int) + 1) = (j : Int) + 1 := IntWalk.i64_in _ (by omega)
      have hpz : ¬ q = 0 := by omega
      have hpz2 : (q == 0) = false := by rw [beq_eq_false_iff_ne]; omega
      have hj0 : (0 : Int) ≤ (j : Int) := by omega
      have hj1 : (j : Int) < (n : Int) := by omega
      have hj2 : (j : Int) < (m : Int) := by omega
      have HB := Lib.hid hbw; clear hbw
      go_wp2_with fail
      skip
      go_roundg (n - (j + 1))
      case measure => omega
      case rel => exact ⟨j + 1, _, by omega, by go_num, rfl, HS.out, s0, s1, HB.out⟩
    · obtain rfl : n = j := by omega
      have HR : Hid (dotM q a b a.length = o) := by unfold Hid; rw [HE.out]; exact HO.out
      have HB := Lib.hid hbw; clear hbw
      go_wp2_with fail
      go_ret
      exact ⟨ret_int HR.out.symm, HB.out⟩
end Go.Proofs.YtacpnphfopmofaaGreat
namespace Go.Proofs.YtacpnphfopmofaaGreat
open Go.RowKit
set_option linter.unusedSimpArgs false
set_option linter.unusedVariables false

theorem evI_append (a b : List Int) (x : Int) : evI (a ++ b) x = evI a x + evI b x * x ^ a.length := by
  induction a with
  | nil => simp [evI]
  | cons c a ih => rw [List.cons_append, evI_cons, evI_cons, ih, List.length_cons, Int.pow_succ]; grind
theorem evI_one (a x : Int) : evI [a] x = a := by simp [evI]
theorem evI_take_succ {l : List Int} {k : Nat} (hk : k < l.length) (x : Int) : evI (l.take (k + 1)) x = evI (l.take k) x + nth l k * x ^ k := by
  rw [List.take_succ_eq_append_getElem hk, evI_append, evI_one, List.length_take, Nat.min_eq_left (by omega), nthE hk]
theorem evI_set {l : List Int} {k : Nat} (hk : k < l.length) (v x : Int) : evI (l.set k v) x = evI l x + (v - nth l k) * x ^ k := by
  have h1 : l.set k v = l.take k ++ ([v] ++ l.drop (k + 1)) := by
    rw [List.set_eq_take_append_cons_drop, if_pos hk]; rfl
  have h2 : l = l.take k ++ ([l[k]] ++ l.drop (k + 1)) := by
    simp
  have hl : (l.take k).length = k := by rw [List.length_take]; omega
  rw [h1, evI_append, evI_append, hl, evI_one]
  conv => rhs; lhs; rw [h2, evI_append, evI_append, hl, evI_one]
  rw [nthE hk]
  simp only [List.length_singleton]
  grind
theorem evI_zeros (n : Nat) (x : Int) : evI (List.replicate n 0) x = 0 := by
  induction n with
  | zero => rfl
  | succ n ih => rw [List.replicate_succ, evI_cons, ih]; simp
/-- residues -/
def ResL (q : Int) (l : List Int) : Prop := ∀ y ∈ l, 0 ≤ y ∧ y < q
theorem ResL.at_ {q : Int} {l : List Int} (h : ResL q l) {k : Nat} (hk : k < l.length) : 0 ≤ nth l k ∧ nth l k < q := by rw [nthE hk]; exact h _ (List.getElem_mem hk)
theorem ResL.set {q : Int} {l : List Int} (h : ResL q l) (k : Nat) {v : Int} (hv : 0 ≤ v ∧ v < q) : ResL q (l.set k v) := fun y hy => by
  rcases List.mem_or_eq_of_mem_set hy with h1 | rfl
  · exact h y h1
  · exact hv
/-- what the product holds when i rows and k cells of the next are done -/
structure MulS (q : Int) (f g o : List Int) (i k : Nat) : Prop where
  len : o.length = f.length + g.length - 1
  res : ResL q o
  ev : ∀ x, evI o x % q = (evI (f.take i) x * evI g x + nth f i * x ^ i * evI (g.take k) x) % q
theorem MulS.step {q : Int} {f g o : List Int} {i k : Nat} (h : MulS q f g o i k) (hq : 0 < q) (hi : i < f.length) (hk : k < g.length) :
    MulS q f g (o.set (i + k) ((nth o (i + k) + nth f i * nth g k) % q)) i (k + 1) := by
  have hl : i + k < o.length := by rw [h.len]; omega
  refine ⟨by rw [List.length_set]; exact h.len, h.res.set _ ⟨Int.emod_nonneg _ (by omega), Int.emod_lt_of_pos _ hq⟩, fun x => ?_⟩
  rw [evI_set hl, evI_take_succ hk]
  have hx := h.ev x
  have e1 := Int.mul_ediv_add_emod (evI o x) q
  have e2 := Int.mul_ediv_add_emod (nth o (i + k) + nth f i * nth g k) q
  rw [Int.emod_eq_emod_iff_emod_sub_eq_zero] at hx ⊢
  obtain ⟨c, hc⟩ := Int.dvd_of_emod_eq_zero hx
  apply Int.emod_eq_zero_of_dvd
  refine ⟨c - (nth o (i + k) + nth f i * nth g k) / q * x ^ (i + k), ?_⟩
  have e3 : (nth o (i + k) + nth f i * nth g k) % q = nth o (i + k) + nth f i * nth g k - q * ((nth o (i + k) + nth f i * nth g k) / q) := by omega
  rw [e3, Int.pow_add]
  grind
theorem MulS.row {q : Int} {f g o : List Int} {i : Nat} (h : MulS q f g o i g.length) (hi : i < f.length) : MulS q f g o (i + 1) 0 := by
  refine ⟨h.len, h.res, fun x => ?_⟩
  rw [h.ev x, List.take_length, evI_take_succ hi]
  congr 1
  simp only [List.take_zero]
  rw [show evI [] x = 0 from rfl]
  grind
theorem MulS.start {q : Int} {f g : List Int} (hq : 0 < q) : MulS q f g (List.replicate (f.length + g.length - 1) 0) 0 0 := by
  refine ⟨by simp, fun y hy => by rw [List.eq_of_mem_replicate hy]; omega, fun x => ?_⟩
  rw [evI_zeros]; simp only [List.take_zero]; rw [show evI [] x = 0 from rfl]; simp
set_option maxRecDepth 100000 in
set_option maxHeartbeats 8000000 in
theorem impl_mulPolys (q : Int) (v u : Value) (f h : List Int) (w : World) (hq : 2 ≤ q ∧ q ≤ 2000000000) (hf : Ints w v f) (hh : Ints w u h) (rf : ResL q f) (rh : ResL q h) (f0 : 0 < f.length) (h0 : 0 < h.length) (fl : f.length ≤ 1000) (hl : h.length ≤ 1000) :
    Calls Tryz.prog 120 #[.int .i64 q, v, u] w fun e w' => (∃ v' o, e = .returned v' ∧ OwnI w' w.heap.size v' o ∧ o.length = f.length + h.length - 1 ∧ ResL q o ∧ ∀ x, evI o x % q = evI f x * evI h x % q) ∧ Below w.heap.size w w' := by
  obtain ⟨hq1, hq2⟩ := hq
  obtain ⟨fa, fn, fc, rfl⟩ := hf.shape
  obtain ⟨ha, hn, hc, rfl⟩ := hh.shape
  have HFE := Lib.hid hf.len
  have HHE := Lib.hid hh.len
  have HF := Lib.hid hf
  have HH := Lib.hid hh
  have RF := Lib.hid rf
  have RH := Lib.hid rh
  have hfn : 0 < fn := by have := HFE.out; omega
  have hhn : 0 < hn := by have := HHE.out; omega
  have hf1 : fn ≤ 1000 := by have := HFE.out; omega
  have hh1 : hn ≤ 1000 := by have := HHE.out; omega
  clear hf hh rf rh f0 h0 fl hl
  obtain ⟨N, hN⟩ : ∃ N, N = fn + hn - 1 := ⟨_, rfl⟩
  have hNi : (fn : Int) + (hn : Int) - 1 = (N : Int) := by omega
  have HNL : Hid (f.length + h.length - 1 = N) := by unfold Hid; rw [HFE.out, HHE.out, hN]
  have hN0 : N ≤ 2000 := by omega
  have hN1 : fn + hn = N + 1 := by omega
  have HN1 := Lib.hid hN1
  clear hN1
  have ew1 : IntKind.i64.wrap ((fn : Int) + (hn : Int)) = (fn : Int) + (hn : Int) := IntWalk.i64_in _ (by omega)
  have ew2 : IntKind.i64.wrap ((fn : Int) + (hn : Int) - 1) = (N : Int) := by rw [hNi]; exact IntWalk.i64_in _ (by omega)
  have hz1 : ((fn : Int) == 0) = false := by rw [beq_eq_false_iff_ne]; omega
  have hz2 : ((hn : Int) == 0) = false := by rw [beq_eq_false_iff_ne]; omega
  have hz3 : ¬ fn = 0 := by omega
  have hz4 : ¬ hn = 0 := by omega
  clear hN hNi
  obtain ⟨V, hV⟩ : ∃ V, V = w.alloc (.cells (madeCells #[.int .i64 0] N) 3) := ⟨_, rfl⟩
  have HO0 : Hid (OwnI V w.heap.size (.slice (some ⟨w.heap.size, 0, none⟩) N N) (List.replicate N 0)) := by unfold Hid; rw [hV]; exact own_zeros w N (by omega)
  have HB0 : Hid (Below w.heap.size w V) := by unfold Hid; rw [hV]; exact (Below.refl _ _).alloc (Nat.le_refl _) _
  have hmk : ∀ u, (Instr.makeSlice 25 (.int .i64 (N : Int)) (.int .i64 (N : Int))).run Tryz.prog u = .ok (.slice (some ⟨u.heap.size, 0, none⟩) N N) (u.alloc (.cells (madeCells #[.int .i64 0] N) 3)) := fun u => by
    obtain ⟨i, hi, hz, hsz, hby⟩ := info_parts info_int
    have := run_make (P := Tryz.prog) u 25 3 i (.int .i64 0) Tryz.underlying25 hi hz .i64 .i64 N N (by omega) (Int.le_refl _) (by rw [hby]; omega) (by omega)
    simpa [Value.cells, hsz] using this
  go_enter Tryz.func120, Tryz.ntmps120
  go_wp2_with fail
  rw [← hV]
  clear hV
  go_loopg [29] fn (fun gg iv wr => ∃ (i : Nat) (o : List Int), i + gg = fn ∧ iv = .int .i64 (i : Int) ∧ Hid (OwnI wr w.heap.size (.slice (some ⟨w.heap.size, 0, none⟩) N N) o) ∧ Hid (MulS q f h o i 0) ∧ Hid (Below w.heap.size w wr))
  case atStart => exact ⟨0, _, by omega, rfl, HO0, by unfold Hid; rw [← HNL.out]; exact MulS.start (by omega), HB0⟩
  case round =>
    obtain ⟨i, o, hig, rfl, HO, HM, HB⟩ := hrel
    have HIG := Lib.hid hig
    clear hig
    by_cases hlt : i < fn
    · have hgi : fn - (i + 1) < gk := by have := HIG.out; omega
      obtain ⟨b, oo, rfl, hcx⟩ := (HF.out.below HB.out).at_ hfn
      have y0 := hcx i hlt
      clear hcx
      have b0 : (0 : Int) ≤ (i : Int) := by omega
      have bk1 : (i : Int) < (fn : Int) := by omega
      have hwk : IntKind.i64.wrap ((i : Int) + 1) = (i : Int) + 1 := IntWalk.i64_in _ (by omega)
      have HFI : Hid (0 ≤ nth f i ∧ nth f i < q) := RF.out.at_ (by rw [HFE.out]; exact hlt)
      obtain ⟨x, hx⟩ : ∃ x, nth f i = x := ⟨_, rfl⟩
      rw [hx] at y0 HFI
      have HX := Lib.hid hx
      clear hx
      obtain ⟨x0, x1⟩ := HFI.out
      obtain ⟨wo, rfl⟩ : ∃ u, u = wr := ⟨_, rfl⟩
      obtain ⟨go, rfl⟩ : ∃ u, u = gk := ⟨_, rfl⟩
      go_wp2_with fail
      clear y0
      go_loopg [36] hn (fun gj iv wr => ∃ (k : Nat) (o : List Int), k + gj = hn ∧ iv = .int .i64 (k : Int) ∧ Hid (OwnI wr w.heap.size (.slice (some ⟨w.heap.size, 0, none⟩) N N) o) ∧ Hid (MulS q f h o i k) ∧ Hid (Below w.heap.size w wr))
      case atStart => exact ⟨0, o, by omega, rfl, HO, HM, HB⟩
      case round =>
        clear HO HM HB
        obtain ⟨k, o, hkg, rfl, HO, HM, HB⟩ := hrel
        by_cases hlk : k < hn
        · obtain ⟨b2, o2, rfl, hcy⟩ := (HH.out.below HB.out).at_ hhn
          have y1 := hcy k hlk
          clear hcy
          have hgk : hn - (k + 1) < gk := by omega
          have b2' : (0 : Int) ≤ (k : Int) := by omega
          have bk2 : (k : Int) < (hn : Int) := by omega
          have hwk2 : IntKind.i64.wrap ((k : Int) + 1) = (k : Int) + 1 := IntWalk.i64_in _ (by omega)
          have HHI : Hid (0 ≤ nth h k ∧ nth h k < q) := RH.out.at_ (by rw [HHE.out]; exact hlk)
          obtain ⟨y, hy⟩ : ∃ x, nth h k = x := ⟨_, rfl⟩
          rw [hy] at y1 HHI
          have HY := Lib.hid hy
          clear hy
          obtain ⟨yy0, yy1⟩ := HHI.out
          obtain ⟨J, hJ⟩ : ∃ J, i + k = J := ⟨_, rfl⟩
          have hJN : J < N := by have := HN1.out; omega
          have ewJ : IntKind.i64.wrap ((i : Int) + (k : Int)) = (J : Int) := by rw [show (i : Int) + (k : Int) = (J : Int) by omega]; exact IntWalk.i64_in _ (by omega)
          have bJ0 : (0 : Int) ≤ (J : Int) := by omega
          have bJ1 : (J : Int) < (N : Int) := by omega
          have HJ := Lib.hid hJ
          clear hJ
          have HOL : Hid (o.length = N) := by unfold Hid; rw [HM.out.len, HNL.out]
          obtain ⟨g, e, _, _, hcz⟩ := HO.out.at_ (by rw [HOL.out]; omega)
          cases e
          obtain ⟨z0, zf⟩ := hcz J hJN
          clear hcz
          have HZI : Hid (0 ≤ nth o J ∧ nth o J < q) := HM.out.res.at_ (by rw [HOL.out]; exact hJN)
          have HST : Hid (MulS q f h (o.set J ((nth o J + x * y) % q)) i (k + 1)) := by
            have hs := HM.out.step (by omega) (by rw [HFE.out]; exact hlt) (by rw [HHE.out]; exact hlk)
            rw [HJ.out, HX.out, HY.out] at hs
            exact hs
          obtain ⟨z, hz⟩ : ∃ x, nth o J = x := ⟨_, rfl⟩
          rw [hz] at z0 HZI HST
          clear hz
          obtain ⟨zz0, zz1⟩ := HZI.out
          obtain ⟨m0, m1⟩ := mulD_bd x0 x1 yy0 yy1 hq2
          have r0 : 0 ≤ x * y % q := Int.emod_nonneg _ (by omega)
          have r1 : x * y % q < q := Int.emod_lt_of_pos _ (by omega)
          have s0 : 0 ≤ (z + x * y) % q := Int.emod_nonneg _ (by omega)
          have s1 : (z + x * y) % q < q := Int.emod_lt_of_pos _ (by omega)
          have et1 : Int.tmod (x * y) q = x * y % q := Int.tmod_eq_emod_of_nonneg m0
          have et2 : Int.tmod (z + x * y % q) q = (z + x * y) % q := by rw [Int.tmod_eq_emod_of_nonneg (by omega), Int.add_emod_emod]
          have ewa : IntKind.i64.wrap (x * y) = x * y := IntWalk.i64_in _ (by omega)
          have ewb : IntKind.i64.wrap (x * y % q) = x * y % q := IntWalk.i64_in _ (by omega)
          have ewc : IntKind.i64.wrap (z + x * y % q) = z + x * y % q := IntWalk.i64_in _ (by omega)
          have ewd : IntKind.i64.wrap ((z + x * y) % q) = (z + x * y) % q := IntWalk.i64_in _ (by omega)
          have HVI : Hid (I64 ((z + x * y) % q)) := ⟨by omega, by omega⟩
          have hpz : ¬ q = 0 := by omega
          have hpz2 : (q == 0) = false := by rw [beq_eq_false_iff_ne]; omega
          have HO2 := Lib.hid (HO.out.stored HOL.out J HVI.out)
          clear HO
          have zd : wr.drew.cell? ⟨w.heap.size, J, none⟩ = some (.int .i64 z) := z0
          have zfd : wr.drew.frozen? ⟨w.heap.size, J, none⟩ = false := zf
          go_wp2_with fail
          clear y1
          refine wp_region_noPanic ?_
          refine wp_region_V (fun w' => w'.cell? ⟨w.heap.size, J, none⟩ = some (.int .i64 z)) 22 19 (.rd 0 (.rd 1 (.rd 2 (.rd 3 (.rd 4 (.rd 5 (.rd 6 (.rd 7 (.rd 8 (.rd 9 (.rd 10 (.rd 11 (.rd 12 (.rd 13 (.rd 14 (.rd 15 (.rd 16 (.rd 17 (.rd 18 .done))))))))))))))))))) [19] (by kernel_rfl) (by kernel_rfl) rfl (fun _ _ _ _ _ h => h) zd ?_
          simp only [pickV, pickN, List.getElem?_cons_zero, List.getElem?_cons_succ]
          repeat (refine' wpV_read _ (by kernel_rfl) (fun w' hS' => ?_) ?_; rotate_left; (focus ((try dsimp only at hS'); go_simp; (try with_reducible rfl))); (try simp only [Act.put, List.setIfInBounds_toArray, List.set_cons_zero, List.set_cons_succ]))
          refine wpV_done ?_
          go_wp2_with fail
          refine NoPanic.normal ?_
          clear z0 zf zd zfd
          go_wp2_with fail
          go_roundg (hn - (k + 1))
          case measure => exact hgk
          case rel => exact ⟨k + 1, _, by omega, by go_num, HO2.out.1.below ((Below.refl _ _).drew : Below _ _ _), HST, (HB.out.setCell (p := ⟨w.heap.size, J, none⟩) (Nat.le_refl _) _).trans ((Below.refl _ _).drew : Below w.heap.size _ _)⟩
        · obtain rfl : hn = k := by omega
          have HRW : Hid (MulS q f h o (i + 1) 0) := MulS.row (by rw [HHE.out]; exact HM.out) (by rw [HFE.out]; exact hlt)
          go_wp2_with fail
          go_roundg (fn - (i + 1))
          case measure => exact hgi
          case rel => exact ⟨i + 1, o, by omega, by go_num, HO, HRW, HB⟩
    · obtain rfl : fn = i := by have := HIG.out; omega
      have HEV : Hid (∀ x, evI o x % q = evI f x * evI h x % q) := fun x => by
        rw [HM.out.ev x, List.take_of_length_le (by rw [HFE.out]; exact Nat.le_refl _)]
        simp only [List.take_zero]; rw [show evI [] x = 0 from rfl]; congr 1; grind
      go_wp2_with fail
      go_ret
      exact ⟨⟨_, o, rfl, HO.out, HM.out.len, HM.out.res, HEV.out⟩, HB.out⟩
end Go.Proofs.YtacpnphfopmofaaGreat
namespace Go.Proofs.YtacpnphfopmofaaGreat
open Go.RowKit
set_option linter.unusedSimpArgs false
set_option linter.unusedVariables false

theorem disI_append (a b : List Int) (x : Int) : disI (a ++ b) x = disI a x * disI b x := by
  induction a with
  | nil => simp [disI]
  | cons c a ih => rw [List.cons_append, disI_cons, disI_cons, ih]; grind
theorem disI_one (b x : Int) : disI [b] x = x - b := by simp [disI]
theorem disI_take_succ {l : List Int} {k : Nat} (hk : k < l.length) (x : Int) : disI (l.take (k + 1)) x = disI (l.take k) x * (x - nth l k) := by
  rw [List.take_succ_eq_append_getElem hk, disI_append, disI_one, nthE hk]
theorem root_step {q r : Int} {o p : List Int} {rs : List Int} (h1 : ∀ x, evI o x % q = disI rs x % q) (h2 : ∀ x, evI p x % q = evI o x * evI [(-r) % q, 1] x % q) (x : Int) : evI p x % q = disI rs x * (x - r) % q := by
  have e : evI [(-r) % q, 1] x = x + (-r) % q := by simp [evI]
  rw [h2 x, e, Int.mul_emod, h1 x, Int.add_emod_emod, ← Int.mul_emod]; congr 1
set_option maxRecDepth 100000 in
set_option maxHeartbeats 4000000 in
theorem impl_fromRoots (q : Int) (v : Value) (l : List Int) (w : World) (hq : 2 ≤ q ∧ q ≤ 2000000000) (h : Ints w v l) (hl : l.length ≤ 900) (hb : ∀ y ∈ l, 0 ≤ y ∧ y ≤ 1000) :
    Calls Tryz.prog 119 #[.int .i64 q, v] w fun e w' => (∃ v' o, e = .returned v' ∧ Ints w' v' o ∧ o.length = l.length + 1 ∧ ResL q o ∧ ∀ x, evI o x % q = disI l x % q) ∧ Below w.heap.size w w' := by
  obtain ⟨hq1, hq2⟩ := hq
  obtain ⟨a, n, c, rfl⟩ := h.shape
  have HE := Lib.hid h.len
  have H := Lib.hid h
  have HBD := Lib.hid hb
  have hn9 : n ≤ 900 := by have := HE.out; omega
  clear h hl hb
  obtain ⟨V, hV⟩ : ∃ V, V = w.alloc (.cells #[.int .i64 1] 3) := ⟨_, rfl⟩
  have HO0 : Hid (Ints V (.slice (some ⟨w.heap.size, 0, none⟩) 1 1) [1]) := by unfold Hid; rw [hV]; exact (OwnI.lit (B := w.heap.size) w (Nat.le_refl _) (l := [1]) (AllI64.cons ⟨by decide, by decide⟩ AllI64.nil) rfl (by simp [maxLen]) 1 rfl).ints
  have HB0 : Hid (Below w.heap.size w V) := by unfold Hid; rw [hV]; exact (Below.refl _ _).alloc (Nat.le_refl _) _
  go_enter Tryz.func119, Tryz.ntmps119
  go_wp2_with fail
  rw [← hV]
  clear hV
  go_loopg [5, 11] n (fun gk ov iv wr => ∃ (k : Nat) (o : List Int), k + gk = n ∧ iv = .int .i64 (k : Int) ∧ Hid (Ints wr ov o) ∧ Hid (o.length = k + 1) ∧ Hid (ResL q o) ∧ Hid (∀ x, evI o x % q = disI (l.take k) x % q) ∧ Hid (Below w.heap.size w wr))
  case atStart => exact ⟨0, [1], by omega, rfl, HO0, rfl, fun y hy => by rw [List.mem_singleton] at hy; omega, fun x => by simp [evI, disI], HB0⟩
  case round =>
    obtain ⟨k, o, hkg, rfl, HO, HL, HR, HV, HB⟩ := hrel
    obtain ⟨oa, on, oc, rfl⟩ := HO.out.shape
    by_cases hlt : k < n
    · have hgk : n - (k + 1) < gk := by omega
      obtain ⟨b, oo, rfl, hcx⟩ := (H.out.below HB.out).at_ (by omega)
      have y0 := hcx k hlt
      clear hcx
      have b0 : (0 : Int) ≤ (k : Int) := by omega
      have bk1 : (k : Int) < (n : Int) := by omega
      have hwk : IntKind.i64.wrap ((k : Int) + 1) = (k : Int) + 1 := IntWalk.i64_in _ (by omega)
      have hrb : 0 ≤ nth l k ∧ nth l k ≤ 1000 := by rw [nthE (by rw [HE.out]; exact hlt)]; exact HBD.out _ (List.getElem_mem _)
      have HT : Hid (∀ x, disI (l.take (k + 1)) x = disI (l.take k) x * (x - nth l k)) := fun x => disI_take_succ (by rw [HE.out]; exact hlt) x
      obtain ⟨r, hr⟩ : ∃ r, nth l k = r := ⟨_, rfl⟩
      rw [hr] at y0 hrb HT
      clear hr
      obtain ⟨r0, r1⟩ := hrb
      have ewn : IntKind.i64.wrap (-r) = -r := IntWalk.i64_in _ (by omega)
      have hm0 : 0 ≤ (-r) % q := Int.emod_nonneg _ (by omega)
      have hm1 : (-r) % q < q := Int.emod_lt_of_pos _ (by omega)
      go_wp2_with fail
      refine (impl_mod (-r) q _ ⟨by omega, by omega⟩ (by omega) (by omega)).mono ?_
      rintro e w1 ⟨rfl, rfl⟩
      obtain ⟨z, hz⟩ : ∃ z, (-r) % q = z := ⟨_, rfl⟩
      rw [hz] at hm0 hm1 ⊢
      have HZ := Lib.hid hz
      clear hz ewn
      obtain ⟨V, hV⟩ : ∃ V, V = wr.alloc (.cells #[.int .i64 z, .int .i64 1] 3) := ⟨_, rfl⟩
      have HP : Hid (Ints V (.slice (some ⟨wr.heap.size, 0, none⟩) 2 2) [z, 1]) := by unfold Hid; rw [hV]; exact (OwnI.lit (B := wr.heap.size) wr (Nat.le_refl _) (l := [z, 1]) (AllI64.cons ⟨by omega, by omega⟩ (AllI64.cons ⟨by decide, by decide⟩ AllI64.nil)) rfl (by simp [maxLen]) 2 rfl).ints
      have HBV : Hid (Below wr.heap.size wr V) := by unfold Hid; rw [hV]; exact (Below.refl _ _).alloc (Nat.le_refl _) _
      have HRP : Hid (ResL q [z, 1]) := fun y hy => by simp at hy; omega
      go_wp2_with fail
      rw [← hV]
      clear hV y0
      refine (impl_mulPolys q _ _ o [z, 1] _ ⟨hq1, hq2⟩ (HO.out.below HBV.out) HP.out HR.out HRP.out (by rw [HL.out]; omega) (by simp) (by rw [HL.out]; omega) (by simp)).mono ?_
      rintro e w2 ⟨⟨v', p, rfl, hop, hpl, hpr, hpe⟩, hb2⟩
      have HBN : Hid (Below w.heap.size w w2) := Below.next (Below.next HB.out HBV.out) hb2
      have HI2 := Lib.hid hop.ints
      have HPL : Hid (p.length = k + 1 + 1) := by unfold Hid; rw [hpl, HL.out]; simp
      have HPR := Lib.hid hpr
      have HPE : Hid (∀ x, evI p x % q = disI (l.take (k + 1)) x % q) := fun x => by
        rw [HT.out x]; exact root_step HV.out (by rw [HZ.out]; exact hpe) x
      clear hb2 hop hpl hpr hpe
      obtain ⟨pa, pn, pc, rfl⟩ := HI2.out.shape
      go_wp2_with fail
      go_roundg (n - (k + 1))
      case measure => exact hgk
      case rel => exact ⟨k + 1, p, by omega, by go_num, HI2, HPL, HPR, HPE, HBN⟩
    · obtain rfl : n = k := by omega
      have HV2 : Hid (∀ x, evI o x % q = disI l x % q) := fun x => by
        have := HV.out x; rwa [List.take_of_length_le (by rw [HE.out]; exact Nat.le_refl _)] at this
      go_wp2_with fail
      go_ret
      exact ⟨⟨_, o, rfl, HO.out, by rw [HE.out]; exact HL.out, HR.out, HV2.out⟩, HB.out⟩
theorem restL_bd {l : List Int} {i : Nat} (h : ∀ y ∈ l, 0 ≤ y ∧ y ≤ 1000) : ∀ y ∈ restL l i, 0 ≤ y ∧ y ≤ 1000 := fun y hy => by
  unfold restL at hy
  rcases List.mem_append.1 hy with h1 | h1
  · exact h y (List.mem_of_mem_take h1)
  · exact h y (List.mem_of_mem_drop h1)
set_option maxRecDepth 100000 in
set_option maxHeartbeats 4000000 in
theorem impl_basisAt (q : Int) (v : Value) (l : List Int) (i : Nat) (w : World) (hq : Prm q) (hq2 : q ≤ 2000000000) (h : Ints w v l) (hl : l.length ≤ 900) (hb : ∀ y ∈ l, 0 ≤ y ∧ y ≤ 1000) (hd : Diff q l) (hi : i < l.length) :
    Calls Tryz.prog 97 #[.int .i64 q, v, .int .i64 (i : Int)] w fun e w' => (∃ v' o, e = .returned v' ∧ Ints w' v' o ∧ ResL q o ∧ ∀ x, evI o x % q = disI (restL l i) x * invQ (disI (restL l i) (nth l i) % q) q % q) ∧ Below w.heap.size w w' := by
  have hq1 := hq.1
  obtain ⟨a, n, c, rfl⟩ := h.shape
  have HE := Lib.hid h.len
  have H := Lib.hid h
  have HBD := Lib.hid hb
  have hin : i < n := by have := HE.out; omega
  have HRB := Lib.hid (restL_bd (i := i) hb)
  have HDN := Lib.hid (lag_den hq hd hi)
  have HQ := Lib.hid hq
  have HLL : Hid (l.length ≤ 900) := hl
  have HRL : Hid ((restL l i).length + 1 = l.length) := by have := restL_len hi; unfold Hid; omega
  have hxb : 0 ≤ nth l i ∧ nth l i ≤ 1000 := by rw [nthE hi]; exact hb _ (List.getElem_mem _)
  obtain ⟨b, oo, rfl, hcx⟩ := H.out.at_ (by omega)
  have HY := Lib.hid (hcx i hin)
  have b0 : (0 : Int) ≤ (i : Int) := by omega
  have bk1 : (i : Int) < (n : Int) := by have := HLL.out; have := HE.out; omega
  have hn9 : n ≤ 900 := by have := HE.out; omega
  have hwi : IntKind.i64.wrap ((i : Int) + 1) = (i : Int) + 1 := IntWalk.i64_in _ (by omega)
  clear h hl hb hd hi hcx hq
  obtain ⟨x0, hx⟩ : ∃ r, nth l i = r := ⟨_, rfl⟩
  rw [hx] at HY HDN hxb ⊢
  clear hx
  go_enter Tryz.func97, Tryz.ntmps97
  go_wp2_with fail
  refine (slices_Clone _ l _ H.out (by have := HLL.out; omega)).mono ?_
  rintro e w1 ⟨v1, rfl, ho1, hb1⟩
  have HB1 := Lib.hid hb1
  have HO1 := Lib.hid ho1
  clear hb1 ho1
  go_wp2_with fail
  refine (slices_Delete v1 l w.heap.size i _ HO1.out (by rw [HE.out]; exact hin) HB1.out.size (by have := HLL.out; omega)).mono ?_
  rintro e w2 ⟨⟨v2, rfl, ho2⟩, hb2⟩
  have HB2 := Lib.hid (HB1.out.trans hb2)
  have HI2 := Lib.hid ho2.ints
  clear hb2 ho2
  obtain ⟨a2, n2, c2, rfl⟩ := HI2.out.shape
  go_wp2_with fail
  refine (impl_fromRoots q _ (restL l i) _ ⟨hq1, hq2⟩ HI2.out (by have := HRL.out; have := HLL.out; omega) HRB.out).mono ?_
  rintro e w3 ⟨⟨v3, f, rfl, hi3, hl3, hr3, he3⟩, hb3⟩
  have HB3 : Hid (Below w.heap.size w w3) := Below.next HB2.out hb3
  have HI3 := Lib.hid hi3
  have HL3 : Hid (f.length = l.length) := by have := HRL.out; unfold Hid; omega
  have HR3 := Lib.hid hr3
  have HE3 := Lib.hid he3
  clear hb3 hi3 hl3 hr3 he3
  obtain ⟨a3, n3, c3, rfl⟩ := HI3.out.shape
  have y0 := box_at HY.out HB3.out
  go_wp2_with fail
  clear y0
  refine (impl_evalPolyE q _ f x0 _ ⟨hq1, hq2⟩ HI3.out HR3.out hxb).mono ?_
  rintro e w4 ⟨rfl, hb4⟩
  have HB4 : Hid (Below w.heap.size w w4) := Below.next HB3.out hb4
  have HI4 := Lib.hid (HI3.out.below hb4)
  have hv : hornE q x0 f = disI (restL l i) x0 % q := by rw [hornE_evI (by omega), HE3.out]
  rw [hv]
  clear hv hb4
  obtain ⟨D, hD⟩ : ∃ r, disI (restL l i) x0 % q = r := ⟨_, rfl⟩
  rw [hD] at HDN ⊢
  have HDD := Lib.hid hD
  clear hD
  go_wp2_with fail
  refine (impl_inverse D q _ HQ.out HDN.out.1 HDN.out.2 hq2).mono ?_
  rintro e w5 ⟨rfl, rfl⟩
  have hiv := (invQ_is HQ.out HDN.out.1 HDN.out.2).1
  obtain ⟨z, hz⟩ : ∃ z, invQ D q = z := ⟨_, rfl⟩
  rw [hz] at hiv ⊢
  have HZZ := Lib.hid hz
  clear hz
  obtain ⟨z0, z1⟩ := hiv
  obtain ⟨V, hV⟩ : ∃ V, V = w4.alloc (.cells #[.int .i64 z] 3) := ⟨_, rfl⟩
  have HP : Hid (Ints V (.slice (some ⟨w4.heap.size, 0, none⟩) 1 1) [z]) := by unfold Hid; rw [hV]; exact (OwnI.lit (B := w4.heap.size) w4 (Nat.le_refl _) (l := [z]) (AllI64.cons ⟨by omega, by omega⟩ AllI64.nil) rfl (by simp [maxLen]) 1 rfl).ints
  have HBV : Hid (Below w4.heap.size w4 V) := by unfold Hid; rw [hV]; exact (Below.refl _ _).alloc (Nat.le_refl _) _
  have HRP : Hid (ResL q [z]) := fun y hy => by simp at hy; omega
  go_wp2_with fail
  rw [← hV]
  clear hV
  refine (impl_mulPolys q _ _ f [z] _ ⟨hq1, hq2⟩ (HI4.out.below HBV.out) HP.out HR3.out HRP.out (by rw [HL3.out, HE.out]; omega) (by simp) (by have := HL3.out; have := HLL.out; omega) (by simp)).mono ?_
  rintro e w6 ⟨⟨v6, p, rfl, hop, hpl, hpr, hpe⟩, hb6⟩
  have HB6 : Hid (Below w.heap.size w w6) := Below.next (Below.next HB4.out HBV.out) hb6
  have HI6 := Lib.hid hop.ints
  have HPR := Lib.hid hpr
  have HPE : Hid (∀ x, evI p x % q = disI (restL l i) x * z % q) := fun x => by
    rw [hpe x, evI_one, Int.mul_emod, HE3.out x, ← Int.mul_emod]
  clear hb6 hop hpl hpr hpe
  obtain ⟨a6, n6, c6, rfl⟩ := HI6.out.shape
  go_wp2_with fail
  go_ret
  exact ⟨⟨_, p, rfl, HI6.out, HPR.out, by first | (rw [HZZ.out]; exact HPE.out) | (rw [HDD.out, HZZ.out]; exact HPE.out) | fail⟩, HB6.out⟩
theorem lagI_bd {q : Int} (hq : 0 < q) (xs : List Int) (x : Int) (i : Nat) : 0 ≤ lagI q xs x i ∧ lagI q xs x i < q := ⟨Int.emod_nonneg _ (by omega), Int.emod_lt_of_pos _ hq⟩
noncomputable def lagK (q : Int) (xs : List Int) (x : Int) (k : Nat) : List Int := (List.range k).map (lagI q xs x)
theorem lagK_succ (q : Int) (xs : List Int) (x : Int) (k : Nat) : lagK q xs x (k + 1) = lagK q xs x k ++ [lagI q xs x k] := by
  unfold lagK; rw [List.range_succ, List.map_append]; rfl
theorem lagK_len (q : Int) (xs : List Int) (x : Int) (k : Nat) : (lagK q xs x k).length = k := by unfold lagK; simp
set_option maxRecDepth 100000 in
set_option maxHeartbeats 4000000 in
theorem impl_lagrange (q : Int) (v : Value) (l : List Int) (x : Int) (w : World) (hq : Prm q) (hq2 : q ≤ 2000000000) (h : Ints w v l) (hl : l.length ≤ 900) (hb : ∀ y ∈ l, 0 ≤ y ∧ y ≤ 1000) (hd : Diff q l) (hx : 0 ≤ x ∧ x ≤ 1000) :
    Calls Tryz.prog 53 #[.int .i64 q, v, .int .i64 x] w fun e w' => (∃ v', e = .returned v' ∧ OwnI w' w.heap.size v' (lagL q l x)) ∧ Below w.heap.size w w' := by
  have hq1 := hq.1
  obtain ⟨a, n, c, rfl⟩ := h.shape
  have HE := Lib.hid h.len
  have H := Lib.hid h
  have HBD := Lib.hid hb
  have HD := Lib.hid hd
  have HQ := Lib.hid hq
  have HX := Lib.hid hx
  have HLL : Hid (l.length ≤ 900) := hl
  have hn9 : n ≤ 900 := by have := HE.out; omega
  clear h hl hb hd hq hx
  obtain ⟨V, hV⟩ : ∃ V, V = w.alloc (.cells #[] 3) := ⟨_, rfl⟩
  have HO0 : Hid (OwnI V w.heap.size (.slice (some ⟨w.heap.size, 0, none⟩) 0 0) []) := by unfold Hid; rw [hV]; exact OwnI.lit w (Nat.le_refl _) AllI64.nil rfl (by simp) 0 rfl
  have HB0 : Hid (Below w.heap.size w V) := by unfold Hid; rw [hV]; exact (Below.refl _ _).alloc (Nat.le_refl _) _
  go_enter Tryz.func53, Tryz.ntmps53
  go_wp2_with fail
  rw [← hV]
  clear hV
  go_loopg [7, 12] n (fun gk ov iv wr => ∃ (k : Nat), k + gk = n ∧ iv = .int .i64 (k : Int) ∧ Hid (OwnI wr w.heap.size ov (lagK q l x k)) ∧ Hid (Below w.heap.size w wr))
  case atStart => exact ⟨0, by omega, rfl, HO0, HB0⟩
  case round =>
    obtain ⟨k, hkg, rfl, HO, HB⟩ := hrel
    obtain ⟨oa, oc, rfl⟩ := HO.out.shape
    have HOL := Lib.hid (lagK_len q l x k)
    rw [HOL.out] at HO ⊢
    by_cases hlt : k < n
    · have hgk : n - (k + 1) < gk := by omega
      have b0 : (0 : Int) ≤ (k : Int) := by omega
      have bk1 : (k : Int) < (n : Int) := by omega
      have hwk : IntKind.i64.wrap ((k : Int) + 1) = (k : Int) + 1 := IntWalk.i64_in _ (by omega)
      go_wp2_with fail
      refine (impl_basisAt q _ l k _ HQ.out hq2 (H.out.below HB.out) HLL.out HBD.out HD.out (by rw [HE.out]; exact hlt)).mono ?_
      rintro e w1 ⟨⟨v1, o, rfl, hi1, hr1, he1⟩, hb1⟩
      have HB1 : Hid (Below w.heap.size w w1) := Below.next HB.out hb1
      replace HO := Lib.hid (HO.out.below hb1)
      have HI1 := Lib.hid hi1
      have HR1 := Lib.hid hr1
      have HEV := Lib.hid he1
      clear hb1 hi1 hr1 he1
      obtain ⟨a1, n1, c1, rfl⟩ := HI1.out.shape
      go_wp2_with fail
      refine (impl_evalPolyE q _ o x _ ⟨hq1, hq2⟩ HI1.out HR1.out HX.out).mono ?_
      rintro e w2 ⟨rfl, hb2⟩
      have HB2 : Hid (Below w.heap.size w w2) := Below.next HB1.out hb2
      replace HO := Lib.hid (HO.out.below hb2)
      have hv : hornE q x o = lagI q l x k := by rw [hornE_evI (by omega), HEV.out]; unfold lagI; rw [Int.mul_emod (disI (restL l k) x % q), Int.emod_emod, ← Int.mul_emod]
      rw [hv]
      clear hv hb2
      have HLI := Lib.hid (lagI_bd (q := q) (by omega) l x k)
      have HLS := Lib.hid (lagK_succ q l x k)
      obtain ⟨z, hz⟩ : ∃ z, lagI q l x k = z := ⟨_, rfl⟩
      rw [hz] at HLI HLS ⊢
      clear hz
      have HZI : Hid (I64 z) := by have := HLI.out; exact ⟨by omega, by omega⟩
      have HSZ : Hid (w.heap.size ≤ w2.heap.size) := HB2.out.size
      go_wp2_with (at_builtin; refine wpList_append_intsN rfl _ _ rfl w.heap.size _ _ (lagK q l x k) [z] rfl (HO.out.alloc _) rfl (Ints.lit1 _ HZI.out) (by rw [HOL.out]; simp; omega) (by have := HSZ.out; simp; omega) (k + 1) (by rw [HOL.out]; rfl) ?_; intro a5 c5 w5 hown5 hgr5; have hb5 : Below w.heap.size w2 w5 := ((Below.refl w.heap.size w2).alloc HSZ.out _).trans ((HO.out.alloc _).grown hgr5 (by have := HSZ.out; simp; omega)); have HO5 := Lib.hid hown5; have HB5 := Lib.hid (HB2.out.trans hb5); clear hown5 hgr5 hb5)
      go_roundg (n - (k + 1))
      case measure => exact hgk
      case rel => exact ⟨k + 1, by omega, by go_num, by unfold Hid; rw [HLS.out]; exact HO5.out, HB5⟩
    · obtain rfl : n = k := by omega
      have HLN : Hid (lagK q l x n = lagL q l x) := by unfold Hid lagK lagL; rw [HE.out]
      rw [HLN.out] at HO
      go_wp2_with fail
      go_ret
      exact ⟨⟨_, rfl, HO.out⟩, HB.out⟩
end Go.Proofs.YtacpnphfopmofaaGreat
namespace Go.Proofs.YtacpnphfopmofaaGreat
open Go.RowKit
set_option linter.unusedSimpArgs false
set_option linter.unusedVariables false

/-- the first j points but the i-th -/
def skipL (xs : List Int) (i j : Nat) : List Int := restL (xs.take j) i
theorem skipL_zero (xs : List Int) (i : Nat) : skipL xs i 0 = [] := by simp [skipL, restL]
theorem skipL_all {xs : List Int} {i n : Nat} (h : xs.length = n) : skipL xs i n = restL xs i := by unfold skipL; rw [List.take_of_length_le (by omega)]
theorem skipL_same {xs : List Int} {j : Nat} (h : j < xs.length) : skipL xs j (j + 1) = skipL xs j j := by
  unfold skipL restL
  rw [List.take_succ_eq_append_getElem h]
  have hl : (xs.take j).length = j := by rw [List.length_take]; omega
  generalize xs.take j = t at hl
  generalize xs[j] = x
  have e : j + 1 - j = 1 := by omega
  rw [List.take_append, List.drop_append, hl, Nat.sub_self, e]
  simp
theorem skipL_other {xs : List Int} {i j : Nat} (h : j < xs.length) (hne : j ≠ i) : skipL xs i (j + 1) = skipL xs i j ++ [nth xs j] := by
  unfold skipL restL
  rw [List.take_succ_eq_append_getElem h, nthE h]
  have hl : (xs.take j).length = j := by rw [List.length_take]; omega
  generalize xs.take j = t at hl
  generalize xs[j] = x
  rw [List.take_append, List.drop_append, hl]
  rcases Nat.lt_or_ge j i with h1 | h1
  · obtain ⟨d, rfl⟩ : ∃ d, i = j + 1 + d := ⟨i - (j + 1), by omega⟩
    have e1 : j + 1 + d - j = d + 1 := by omega
    have e2 : j + 1 + d + 1 - j = d + 1 + 1 := by omega
    rw [e1, e2, List.drop_eq_nil_of_le (show t.length ≤ j + 1 + d + 1 by omega)]
    simp
  · have e1 : i - j = 0 := by omega
    have e2 : i + 1 - j = 0 := by omega
    rw [e1, e2]
    simp
theorem dis_step {q : Int} (l : List Int) (x b : Int) : disI l x % q * ((x - b) % q) % q = disI (l ++ [b]) x % q := by
  rw [disI_append, disI_one, ← Int.mul_emod]
set_option maxRecDepth 100000 in
set_option maxHeartbeats 8000000 in
theorem spec_yLagrange (q : Int) (v : Value) (l : List Int) (x : Int) (w : World) (hq : Prm q) (hq2 : q ≤ 2000000000) (h : Ints w v l) (hl : l.length ≤ 900) (hb : ∀ y ∈ l, 0 ≤ y ∧ y ≤ 1000) (hd : Diff q l) (hx : 0 ≤ x ∧ x ≤ 1000) :
    Calls Tryz.prog 63 #[.int .i64 q, v, .int .i64 x] w fun e w' => (∃ v', e = .returned v' ∧ OwnI w' w.heap.size v' (lagL q l x)) ∧ Below w.heap.size w w' := by
  have hq1 := hq.1
  obtain ⟨hx0, hx1⟩ := hx
  obtain ⟨a, n, c, rfl⟩ := h.shape
  have HE := Lib.hid h.len
  have H := Lib.hid h
  have HBD := Lib.hid hb
  have HD := Lib.hid hd
  have HQ := Lib.hid hq
  have hn9 : n ≤ 900 := by have := HE.out; omega
  clear h hl hb hd hq
  have hpz : ¬ q = 0 := by omega
  have hpz2 : (q == 0) = false := by rw [beq_eq_false_iff_ne]; omega
  go_enter Tryz.func63, Tryz.ntmps63
  go_wp2_with fail
  go_loopg [7, 18] n (fun gk ov iv wr => ∃ (k : Nat), k + gk = n ∧ iv = .int .i64 (k : Int) ∧ Hid (OwnI wr w.heap.size ov (lagK q l x k)) ∧ Hid (Below w.heap.size w wr))
  case atStart => exact ⟨0, by omega, rfl, OwnI.nil _ _, Below.refl _ _⟩
  case round =>
    obtain ⟨i, hig, rfl, HO, HB⟩ := hrel
    obtain ⟨oa, oc, rfl⟩ := HO.out.shape
    have HOL := Lib.hid (lagK_len q l x i)
    rw [HOL.out] at HO ⊢
    have HIG := Lib.hid hig
    clear hig
    by_cases hlt : i < n
    · have hgk : n - (i + 1) < gk := by have := HIG.out; omega
      obtain ⟨b, oo, rfl, hcx⟩ := (H.out.below HB.out).at_ (by omega)
      have y0 := hcx i hlt
      have HCX := Lib.hid hcx
      clear hcx
      have b0 : (0 : Int) ≤ (i : Int) := by omega
      have bk1 : (i : Int) < (n : Int) := by omega
      have hwk : IntKind.i64.wrap ((i : Int) + 1) = (i : Int) + 1 := IntWalk.i64_in _ (by omega)
      have hab : 0 ≤ nth l i ∧ nth l i ≤ 1000 := by rw [nthE (by rw [HE.out]; exact hlt)]; exact HBD.out _ (List.getElem_mem _)
      have HDN := Lib.hid (lag_den HQ.out HD.out (i := i) (by rw [HE.out]; exact hlt))
      have HLG : Hid (lagI q l x i = disI (restL l i) x % q * invQ (disI (restL l i) (nth l i) % q) q % q) := rfl
      have HLI := Lib.hid (lagI_bd (q := q) (by omega) l x i)
      have HLS := Lib.hid (lagK_succ q l x i)
      obtain ⟨p, hp⟩ : ∃ r, nth l i = r := ⟨_, rfl⟩
      rw [hp] at y0 hab HDN HLG
      clear hp
      obtain ⟨p0, p1⟩ := hab
      obtain ⟨wo, rfl⟩ : ∃ u, u = wr := ⟨_, rfl⟩
      obtain ⟨go, rfl⟩ : ∃ u, u = gk := ⟨_, rfl⟩
      have HSO : Hid (skipL l i 0 = []) := skipL_zero l i
      have HS0 : Hid (disI (skipL l i 0) x % q = 1) := by unfold Hid; rw [HSO.out]; exact Int.emod_eq_of_lt (show (0 : Int) ≤ 1 by decide) (show (1 : Int) < q by omega)
      have HS1 : Hid (disI (skipL l i 0) p % q = 1) := by unfold Hid; rw [HSO.out]; exact Int.emod_eq_of_lt (show (0 : Int) ≤ 1 by decide) (show (1 : Int) < q by omega)
      go_wp2_with fail
      clear y0
      go_loopg [10, 11, 25] n (fun gk uv dv iv wr => ∃ (k : Nat) (U D : Int), k + gk = n ∧ iv = .int .i64 (k : Int) ∧ uv = .int .i64 U ∧ dv = .int .i64 D ∧ Hid (disI (skipL l i k) x % q = U) ∧ Hid (disI (skipL l i k) p % q = D) ∧ wr = wo)
      case atStart => exact ⟨0, 1, 1, by omega, rfl, rfl, rfl, HS0, HS1, rfl⟩
      case round =>
        obtain ⟨k, U, D, hkg, rfl, rfl, rfl, HU, HDD, rfl⟩ := hrel
        have hU : 0 ≤ U ∧ U < q := by rw [← HU.out]; exact ⟨Int.emod_nonneg _ (by omega), Int.emod_lt_of_pos _ (by omega)⟩
        have hD : 0 ≤ D ∧ D < q := by rw [← HDD.out]; exact ⟨Int.emod_nonneg _ (by omega), Int.emod_lt_of_pos _ (by omega)⟩
        obtain ⟨U0, U1⟩ := hU
        obtain ⟨D0, D1⟩ := hD
        by_cases hlk : k < n
        · have hgj : n - (k + 1) < gk := by omega
          have y1 := HCX.out k hlk
          have b2 : (0 : Int) ≤ (k : Int) := by omega
          have bk2 : (k : Int) < (n : Int) := by omega
          have hwk2 : IntKind.i64.wrap ((k : Int) + 1) = (k : Int) + 1 := IntWalk.i64_in _ (by omega)
          have hrb : 0 ≤ nth l k ∧ nth l k ≤ 1000 := by rw [nthE (by rw [HE.out]; exact hlk)]; exact HBD.out _ (List.getElem_mem _)
          by_cases hki : k = i
          · subst hki
            have HSK := Lib.hid (skipL_same (xs := l) (j := k) (by rw [HE.out]; exact hlk))
            have hq3 : ((k : Int) != (k : Int)) = false := by simp
            obtain ⟨r, hr⟩ : ∃ r, nth l k = r := ⟨_, rfl⟩
            rw [hr] at y1
            clear hr
            go_wp2_with fail
            go_roundg (n - (k + 1))
            case measure => exact hgj
            case rel => exact ⟨k + 1, U, D, by omega, by go_num, rfl, rfl, by unfold Hid; rw [HSK.out]; exact HU.out, by unfold Hid; rw [HSK.out]; exact HDD.out, rfl⟩
          · have HSK := Lib.hid (skipL_other (xs := l) (by rw [HE.out]; exact hlk) hki)
            have hq3 : ((k : Int) == (i : Int)) = false := by rw [beq_eq_false_iff_ne]; omega
            have hq4 : ((k : Int) != (i : Int)) = true := by rw [bne_iff_ne]; omega
            have hq5 : ¬ (k : Int) = (i : Int) := by omega
            obtain ⟨r, hr⟩ : ∃ r, nth l k = r := ⟨_, rfl⟩
            rw [hr] at y1 hrb HSK
            clear hr hki
            obtain ⟨r0, r1⟩ := hrb
            have HU2 : Hid (disI (skipL l i (k + 1)) x % q = U * ((x - r) % q) % q) := by unfold Hid; rw [HSK.out, ← dis_step, HU.out]
            have HD2 : Hid (disI (skipL l i (k + 1)) p % q = D * ((p - r) % q) % q) := by unfold Hid; rw [HSK.out, ← dis_step, HDD.out]
            have ewx : IntKind.i64.wrap (x - r) = x - r := IntWalk.i64_in _ (by omega)
            have ewp : IntKind.i64.wrap (p - r) = p - r := IntWalk.i64_in _ (by omega)
            have m0 : 0 ≤ (x - r) % q := Int.emod_nonneg _ (by omega)
            have m1 : (x - r) % q < q := Int.emod_lt_of_pos _ (by omega)
            have n0 : 0 ≤ (p - r) % q := Int.emod_nonneg _ (by omega)
            have n1 : (p - r) % q < q := Int.emod_lt_of_pos _ (by omega)
            go_wp2_with fail
            refine (spec_nMod (x - r) q _ ⟨by omega, by omega⟩ (by omega) (by omega)).mono ?_
            rintro e w1 ⟨rfl, rfl⟩
            obtain ⟨Z, hZ⟩ : ∃ z, (x - r) % q = z := ⟨_, rfl⟩
            rw [hZ] at m0 m1 HU2 ⊢
            clear hZ
            obtain ⟨t0, t1⟩ := mulD_bd U0 U1 m0 m1 hq2
            have et1 : Int.tmod (U * Z) q = U * Z % q := Int.tmod_eq_emod_of_nonneg t0
            have ev0 : 0 ≤ U * Z % q := Int.emod_nonneg _ (by omega)
            have ev1 : U * Z % q < q := Int.emod_lt_of_pos _ (by omega)
            have ewa : IntKind.i64.wrap (U * Z) = U * Z := IntWalk.i64_in _ (by omega)
            have ewb : IntKind.i64.wrap (U * Z % q) = U * Z % q := IntWalk.i64_in _ (by omega)
            clear ev0 ev1
            go_wp2_with fail
            refine (spec_nMod (p - r) q _ ⟨by omega, by omega⟩ (by omega) (by omega)).mono ?_
            rintro e w1 ⟨rfl, rfl⟩
            obtain ⟨Y, hY⟩ : ∃ z, (p - r) % q = z := ⟨_, rfl⟩
            rw [hY] at n0 n1 HD2 ⊢
            clear hY
            obtain ⟨s0, s1⟩ := mulD_bd D0 D1 n0 n1 hq2
            have et2 : Int.tmod (D * Y) q = D * Y % q := Int.tmod_eq_emod_of_nonneg s0
            have ev0 : 0 ≤ D * Y % q := Int.emod_nonneg _ (by omega)
            have ev1 : D * Y % q < q := Int.emod_lt_of_pos _ (by omega)
            have ewc : IntKind.i64.wrap (D * Y) = D * Y := IntWalk.i64_in _ (by omega)
            have ewd : IntKind.i64.wrap (D * Y % q) = D * Y % q := IntWalk.i64_in _ (by omega)
            clear ev0 ev1
            go_wp2_with fail
            go_roundg (n - (k + 1))
            case measure => exact hgj
            case rel => exact ⟨k + 1, _, _, by omega, by go_num, rfl, rfl, HU2, HD2, rfl⟩
        · obtain rfl : n = k := by omega
          have HSA := Lib.hid (skipL_all (i := i) HE.out)
          rw [HSA.out] at HU HDD
          have HUD : Hid (0 < D ∧ D < q) := by rw [← HDD.out]; exact HDN.out
          have HDM : Hid (D % q = D) := Int.emod_eq_of_lt D0 D1
          have HLZ : Hid (lagI q l x i = U * invQ D q % q) := by unfold Hid; rw [HLG.out, HU.out, HDD.out]
          go_wp2_with fail
          refine (spec_nInverse D q _ HQ.out ⟨by omega, by omega⟩ (by rw [HDM.out]; exact HUD.out.1) hq2).mono ?_
          rintro e w2 ⟨rfl, rfl⟩
          rw [HDM.out]
          have hiv := (invQ_is HQ.out HUD.out.1 HUD.out.2).1
          obtain ⟨I, hI⟩ : ∃ z, invQ D q = z := ⟨_, rfl⟩
          rw [hI] at hiv HLZ ⊢
          clear hI
          obtain ⟨I0, I1⟩ := hiv
          rw [HLZ.out] at HLI HLS
          obtain ⟨t0, t1⟩ := mulD_bd U0 U1 I0 I1 hq2
          have et1 : Int.tmod (U * I) q = U * I % q := Int.tmod_eq_emod_of_nonneg t0
          have ev0 : 0 ≤ U * I % q := Int.emod_nonneg _ (by omega)
          have ev1 : U * I % q < q := Int.emod_lt_of_pos _ (by omega)
          have ewa : IntKind.i64.wrap (U * I) = U * I := IntWalk.i64_in _ (by omega)
          have ewb : IntKind.i64.wrap (U * I % q) = U * I % q := IntWalk.i64_in _ (by omega)
          have HZI : Hid (I64 (U * I % q)) := ⟨by omega, by omega⟩
          clear ev0 ev1
          have HSZ : Hid (w.heap.size ≤ wr.heap.size) := HB.out.size
          go_wp2_with (at_builtin; refine wpList_append_intsN rfl _ _ rfl w.heap.size _ _ (lagK q l x i) [U * I % q] rfl (HO.out.alloc _) rfl (Ints.lit1 _ HZI.out) (by rw [HOL.out]; simp; omega) (by have := HSZ.out; simp; omega) (i + 1) (by rw [HOL.out]; rfl) ?_; intro a5 c5 w5 hown5 hgr5; have hb5 : Below w.heap.size wr w5 := ((Below.refl w.heap.size wr).alloc HSZ.out _).trans ((HO.out.alloc _).grown hgr5 (by have := HSZ.out; simp; omega)); have HO5 := Lib.hid hown5; have HB5 := Lib.hid (HB.out.trans hb5); clear hown5 hgr5 hb5)
          go_roundg (n - (i + 1))
          case measure => exact hgk
          case rel => exact ⟨i + 1, by have := HIG.out; omega, by go_num, by unfold Hid; rw [HLS.out]; exact HO5.out, HB5⟩
    · obtain rfl : n = i := by have := HIG.out; omega
      have HLN : Hid (lagK q l x n = lagL q l x) := by unfold Hid lagK lagL; rw [HE.out]
      rw [HLN.out] at HO
      go_wp2_with fail
      go_ret
      exact ⟨⟨_, rfl, HO.out⟩, HB.out⟩
end Go.Proofs.YtacpnphfopmofaaGreat
namespace Go.Proofs.YtacpnphfopmofaaGreat
open Go.RowKit
set_option linter.unusedSimpArgs false
set_option linter.unusedVariables false

/-- the first right shares -/
def pk (gr : GroupD) (cs ix ss : List Int) : Nat → List Int × List Int
  | 0 => ([], [])
  | k + 1 => if (decide ((pk gr cs ix ss k).1.length < cs.length) && shrB gr cs (nth ix k) (nth ss k)) = true then ((pk gr cs ix ss k).1 ++ [nth ix k], (pk gr cs ix ss k).2 ++ [nth ss k]) else pk gr cs ix ss k
def pkX (gr : GroupD) (cs ix ss : List Int) : List Int := (pk gr cs ix ss ix.length).1
def pkY (gr : GroupD) (cs ix ss : List Int) : List Int := (pk gr cs ix ss ix.length).2
def vaB (gr : GroupD) (cs ix ss : List Int) : Bool := !decide ((pkX gr cs ix ss).length < cs.length)
noncomputable def vaV (gr : GroupD) (cs ix ss : List Int) (x : Int) : Int := dotM gr.q (lagL gr.q (pkX gr cs ix ss) x) (pkY gr cs ix ss) (lagL gr.q (pkX gr cs ix ss) x).length
noncomputable def vaR (gr : GroupD) (cs ix ss : List Int) (x : Int) : Int := if vaB gr cs ix ss = true then vaV gr cs ix ss x else 0
noncomputable def asB (gr : GroupD) (cs ix ss : List Int) : Bool := shG gr && (cmsB gr cs && (trL ix && (decide (ss.length = ix.length) && ss.all (expB gr))))
theorem pk_yes {gr : GroupD} {cs ix ss lx ly : List Int} {k : Nat} (h : pk gr cs ix ss k = (lx, ly)) (h1 : lx.length < cs.length) (h2 : shrB gr cs (nth ix k) (nth ss k) = true) : pk gr cs ix ss (k + 1) = (lx ++ [nth ix k], ly ++ [nth ss k]) := by
  unfold pk; rw [h]; simp [h1, h2]
theorem pk_no1 {gr : GroupD} {cs ix ss lx ly : List Int} {k : Nat} (h : pk gr cs ix ss k = (lx, ly)) (h1 : ¬ lx.length < cs.length) : pk gr cs ix ss (k + 1) = (lx, ly) := by
  unfold pk; rw [h]; simp [h1]
theorem pk_no2 {gr : GroupD} {cs ix ss lx ly : List Int} {k : Nat} (h : pk gr cs ix ss k = (lx, ly)) (h2 : shrB gr cs (nth ix k) (nth ss k) = false) : pk gr cs ix ss (k + 1) = (lx, ly) := by
  unfold pk; rw [h]; simp [h2]
structure PkS (gr : GroupD) (cs ix ss : List Int) (k : Nat) (p : List Int × List Int) : Prop where
  len : p.1.length = p.2.length
  le : p.1.length ≤ k
  cap : p.1.length ≤ cs.length
  sub : p.1.Sublist (ix.take k)
  mem : ∀ y ∈ p.2, y ∈ ss
  fit : ∀ j, j < p.1.length → shrB gr cs (nth p.1 j) (nth p.2 j) = true
theorem nth_app {a : List Int} {x : Int} {j : Nat} (h : j < a.length) : nth (a ++ [x]) j = nth a j := by simp [nth, List.getD, List.getElem?_append_left h]
theorem nth_app' {a : List Int} {x : Int} : nth (a ++ [x]) a.length = x := by simp [nth, List.getD]
theorem pk_s (gr : GroupD) (cs ix ss : List Int) (hl : ss.length = ix.length) : ∀ k, k ≤ ix.length → PkS gr cs ix ss k (pk gr cs ix ss k) := by
  intro k
  induction k with
  | zero => exact fun _ => ⟨rfl, Nat.le_refl _, Nat.zero_le _, List.nil_sublist _, fun y hy => by simp [pk] at hy, fun j hj => by simp [pk] at hj⟩
  | succ k ih =>
    intro hk
    have h := ih (by omega)
    have hT : ix.take (k + 1) = ix.take k ++ [nth ix k] := by rw [List.take_succ_eq_append_getElem (by omega), nthE (by omega)]
    unfold pk
    split
    · rename_i hc
      rw [Bool.and_eq_true, decide_eq_true_iff] at hc
      refine ⟨by simp [h.len], by have := h.le; simp; omega, by simp; omega, by rw [hT]; exact h.sub.append (List.Sublist.refl _), ?_, ?_⟩
      · intro y hy
        rcases List.mem_append.1 hy with h1 | h1
        · exact h.mem y h1
        · rw [List.mem_singleton] at h1; rw [h1, nthE (by omega)]; exact List.getElem_mem _
      · intro j hj
        simp only [List.length_append, List.length_singleton] at hj
        rcases Nat.lt_or_ge j (pk gr cs ix ss k).1.length with h1 | h1
        · rw [nth_app h1, nth_app (by rw [← h.len]; exact h1)]; exact h.fit j h1
        · obtain rfl : j = (pk gr cs ix ss k).1.length := by omega
          rw [nth_app', h.len, nth_app']; exact hc.2
    · exact ⟨h.len, by have := h.le; omega, h.cap, by rw [hT]; exact h.sub.trans (List.sublist_append_left _ _), h.mem, h.fit⟩
theorem trL_parts {l : List Int} (h : trL l = true) : (∀ y ∈ l, 1 ≤ y ∧ y ≤ 7) ∧ l.Nodup := by
  unfold trL ptsB at h
  rw [Bool.and_eq_true, decide_eq_true_iff, List.all_eq_true] at h
  exact ⟨fun y hy => by simpa using h.1 y hy, h.2⟩
theorem diff_tr {q : Int} (hq : 7 < q) : ∀ {l : List Int}, (∀ y ∈ l, 1 ≤ y ∧ y ≤ 7) → l.Nodup → Diff q l := by
  intro l
  induction l with
  | nil => exact fun _ _ => List.Pairwise.nil
  | cons a l ih =>
    intro hb hn
    rw [List.nodup_cons] at hn
    refine List.Pairwise.cons (fun b hbm => ?_) (ih (fun y hy => hb y (List.mem_cons_of_mem _ hy)) hn.2)
    have h1 := hb a (by simp)
    have h2 := hb b (List.mem_cons_of_mem _ hbm)
    have hne : a ≠ b := fun e => hn.1 (e ▸ hbm)
    intro h0
    obtain ⟨t, ht⟩ := Int.dvd_of_emod_eq_zero h0
    rcases Int.lt_trichotomy t 0 with h3 | h3 | h3
    · have : q * t ≤ q * (-1) := Int.mul_le_mul_of_nonneg_left (by omega) (by omega)
      omega
    · subst h3; simp at ht; omega
    · have : q * 1 ≤ q * t := Int.mul_le_mul_of_nonneg_left (by omega) (by omega)
      omega
theorem nodup_sub_len : ∀ {l m : List Int}, l.Nodup → (∀ x ∈ l, x ∈ m) → l.length ≤ m.length := by
  intro l
  induction l with
  | nil => exact fun _ _ => Nat.zero_le _
  | cons a l ih =>
    intro m hn hs
    rw [List.nodup_cons] at hn
    have ha : a ∈ m := hs a (by simp)
    have h1 : l.length ≤ (m.erase a).length := ih hn.2 fun x hx => by
      have hne : x ≠ a := fun e => hn.1 (e ▸ hx)
      exact (List.mem_erase_of_ne hne).2 (hs x (List.mem_cons_of_mem _ hx))
    rw [List.length_erase_of_mem ha] at h1
    have := List.length_pos_of_mem ha
    simp; omega
theorem tr_len {l : List Int} (h : trL l = true) : l.length ≤ 7 := by
  obtain ⟨h1, h2⟩ := trL_parts h
  have := nodup_sub_len (m := [1, 2, 3, 4, 5, 6, 7]) h2 (fun x hx => by have := h1 x hx; simp; omega)
  simpa using this
structure PkF (gr : GroupD) (xs ys : List Int) : Prop where
  len : xs.length = ys.length
  l7 : xs.length ≤ 7
  bx : ∀ y ∈ xs, 1 ≤ y ∧ y ≤ 7
  df : Diff gr.q xs
  by_ : ∀ y ∈ ys, 0 ≤ y ∧ y < gr.q
theorem pk_f {gr : GroupD} {cs ix ss : List Int} (hq : 7 < gr.q) (ht : trL ix = true) (hl : ss.length = ix.length) (hs : ss.all (expB gr) = true) : PkF gr (pkX gr cs ix ss) (pkY gr cs ix ss) := by
  have h := pk_s gr cs ix ss hl ix.length (Nat.le_refl _)
  obtain ⟨h1, h2⟩ := trL_parts ht
  have hs1 : (pkX gr cs ix ss).Sublist ix := by have := h.sub; rwa [List.take_length] at this
  have h3 : ∀ y ∈ pkX gr cs ix ss, 1 ≤ y ∧ y ≤ 7 := fun y hy => h1 y (hs1.subset hy)
  refine ⟨h.len, Nat.le_trans hs1.length_le (tr_len ht), h3, diff_tr hq h3 (h2.sublist hs1), fun y hy => ?_⟩
  have := expB_bd (List.all_eq_true.1 hs y (h.mem y hy))
  omega
theorem lagL_len (q : Int) (xs : List Int) (x : Int) : (lagL q xs x).length = xs.length := by unfold lagL; simp
theorem lagL_bd {q : Int} (hq : 0 < q) (xs : List Int) (x : Int) : ∀ y ∈ lagL q xs x, 0 ≤ y ∧ y < q := fun y hy => by
  unfold lagL at hy
  obtain ⟨i, _, rfl⟩ := List.mem_map.1 hy
  exact lagI_bd hq xs x i
theorem shG_prm {gr : GroupD} (h : shG gr = true) : Prm gr.q ∧ gr.q ≤ 2000000000 ∧ 7 < gr.q := by
  have hg := shG_ok h
  have h1 := hg.q2; have h2 := hg.p2
  exact ⟨hg.qp, by omega, shG_q h⟩
end Go.Proofs.YtacpnphfopmofaaGreat
namespace Go.Proofs.YtacpnphfopmofaaGreat
open Go.RowKit
set_option linter.unusedSimpArgs false
set_option linter.unusedVariables false

/-- a dealing of the call's own, or none, is returned -/
def RetZD (e : Ending) (w : World) (B : Nat) : Prop := ∃ (x y : Value) (lx ly : List Int) (b : Bool), e = .returned (.tuple #[.agg #[x, y], .bool b]) ∧ OwnD w B x y lx ly ∧ lx.length ≤ 7 ∧ ly.length ≤ 7 ∧ (b = true → 1 ≤ lx.length ∧ 1 ≤ ly.length)
theorem OwnD.nils (w : World) (B : Nat) : OwnD w B (.slice none 0 0) (.slice none 0 0) [] [] := ⟨OwnI.nil _ _, OwnI.nil _ _, fun k h => by cases h⟩
theorem RetZD.no (w : World) (B : Nat) : RetZD (.returned (.tuple #[.agg #[.slice none 0 0, .slice none 0 0], .bool false])) w B := ⟨_, _, [], [], false, rfl, OwnD.nils _ _, by simp, by simp, fun h => by cases h⟩
end Go.Proofs.YtacpnphfopmofaaGreat
