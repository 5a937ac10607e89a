/- Walks: spec.ReachOf, impl.ReachOf. -/
import Derived.Test.YtlkhkoemfmjloaaReach2
namespace Go.Proofs.Ytlkhkoemfmjloaa
open Go.RowKit
set_option linter.unusedSimpArgs false
set_option linter.unusedVariables false

/-- one meeting -/
def stepF (f : Nat → Bool) (p : List Int) : Nat → Bool := if (f (nth p 0).toNat || f (nth p 1).toNat) = true then setF (setF f (nth p 0).toNat) (nth p 1).toNat else f
def oneF (from_ : Nat) : Nat → Bool := fun i => decide (i = from_)
def reachF (from_ : Nat) (ls : List (List Int)) : Nat → Bool := ls.foldl stepF (oneF from_)
theorem reachF_succ {from_ : Nat} {ls : List (List Int)} {k : Nat} (h : k < ls.length) : reachF from_ (ls.take (k + 1)) = stepF (reachF from_ (ls.take k)) ls[k] := by
  unfold reachF
  rw [List.take_succ_eq_append_getElem h, List.foldl_append]; rfl
theorem ascF_none {f : Nat → Bool} : ∀ {m k : Nat}, (∀ i, k ≤ i → i < k + m → f i = false) → ascF f k m = [] := by
  intro m
  induction m with
  | zero => intro k _; rfl
  | succ m ih => intro k h; unfold ascF; rw [h k (Nat.le_refl _) (by omega), if_neg (by simp), ih (fun i h1 h2 => h i (by omega) (by omega))]
theorem ascF_one {from_ n : Nat} (h : from_ < n) : ascF (oneF from_) 0 n = [(from_ : Int)] := by
  have h1 := putL_ascF (f := fun _ => false) (m := n) (k := 0) (j := from_) (by omega) (by omega)
  rw [ascF_none (f := fun _ => false) (fun _ _ _ => rfl)] at h1
  have h2 : ascF (oneF from_) 0 n = ascF (setF (fun _ => false) from_) 0 n := ascF_congr fun i _ _ => by unfold oneF setF; by_cases e : i = from_ <;> simp [e]
  rw [h2, ← h1]; rfl
theorem ascF_snoc {f : Nat → Bool} : ∀ {m k : Nat}, ascF f k (m + 1) = ascF f k m ++ (if f (k + m) = true then [((k + m : Nat) : Int)] else []) := by
  intro m
  induction m with
  | zero => intro k; simp [ascF]
  | succ m ih =>
    intro k
    have e : k + 1 + m = k + (m + 1) := by omega
    rw [ascF, ih, e]
    conv => rhs; rw [ascF]
    split <;> simp
theorem ascF_length {f : Nat → Bool} : ∀ {m k : Nat}, (ascF f k m).length ≤ m := by
  intro m
  induction m with
  | zero => intro k; simp [ascF]
  | succ m ih => intro k; unfold ascF; split <;> have := ih (k := k + 1) <;> simp <;> omega
theorem ascF_all {f : Nat → Bool} {m k : Nat} (h : k + m ≤ 1000000) : AllI64 (ascF f k m) := fun x hx => by
  have := ascF_ge hx; exact ⟨by omega, by omega⟩
def reachB (n from_ : Int) (ls : List (List Int)) : Bool := decide (1 ≤ n ∧ n ≤ 8) && (pairsB n ls && decide (0 ≤ from_ ∧ from_ ≤ n - 1))
def reachL (n from_ : Int) (ls : List (List Int)) : List Int := if reachB n from_ ls = true then ascF (reachF from_.toNat ls) 0 n.toNat else []
theorem reachL_length (n from_ : Int) (ls : List (List Int)) : (reachL n from_ ls).length ≤ 8 := by
  unfold reachL
  split
  · rename_i h
    unfold reachB at h
    simp only [Bool.and_eq_true, decide_eq_true_eq] at h
    have := ascF_length (f := reachF from_.toNat ls) (m := n.toNat) (k := 0)
    omega
  · simp
theorem pairB_yes {n : Int} {p : List Int} (h : pairB n p = true) : p.length = 2 ∧ (0 ≤ nth p 0 ∧ nth p 0 ≤ n - 1) ∧ (0 ≤ nth p 1 ∧ nth p 1 ≤ n - 1) ∧ nth p 0 ≠ nth p 1 := by
  unfold pairB at h
  simp only [Bool.and_eq_true, decide_eq_true_eq, List.all_eq_true, Bool.not_eq_true', beq_eq_false_iff_ne] at h
  obtain ⟨h1, h2, h3⟩ := h
  exact ⟨h1, h2 _ (by rw [nth_eq (by omega)]; exact List.getElem_mem _), h2 _ (by rw [nth_eq (by omega)]; exact List.getElem_mem _), h3⟩
theorem pairs_at {n : Int} {ls : List (List Int)} (h : pairsB n ls = true) {k : Nat} (hk : k < ls.length) : pairB n ls[k] = true := by
  unfold pairsB at h
  simp only [Bool.and_eq_true, List.all_eq_true] at h
  exact h.2 _ (List.getElem_mem hk)
theorem hasF {f : Nat → Bool} {n j : Nat} (h : j < n) : decide ((j : Int) ∈ ascF f 0 n) = f j := by
  have := ascF_mem (f := f) (m := n) (k := 0) (j := j)
  cases hf : f j with
  | true => exact decide_eq_true (this.2 ⟨by omega, by omega, hf⟩)
  | false => exact decide_eq_false fun hh => by rw [(this.1 hh).2.2] at hf; cases hf
theorem stepF_yes {f : Nat → Bool} {p : List Int} {j0 j1 : Nat} (h0 : nth p 0 = j0) (h1 : nth p 1 = j1) (h : (f j0 || f j1) = true) : stepF f p = setF (setF f j0) j1 := by
  unfold stepF; rw [h0, h1, Int.toNat_natCast, Int.toNat_natCast, if_pos h]
theorem stepF_no {f : Nat → Bool} {p : List Int} {j0 j1 : Nat} (h0 : nth p 0 = j0) (h1 : nth p 1 = j1) (h : (f j0 || f j1) = false) : stepF f p = f := by
  unfold stepF; rw [h0, h1, Int.toNat_natCast, Int.toNat_natCast, if_neg (by rw [h]; simp)]
set_option maxRecDepth 100000 in
set_option maxHeartbeats 4000000 in
theorem spec_ReachOf (n : Int) (v : Value) (ls : List (List Int)) (from_ : Int) (w : World) (hI : I64 n) (hl : (ls.length : Int) + total ls ≤ 1000000000) (h : RdL kInts w v ls) (hJ : I64 from_) :
    Calls Try.prog 30 #[.int .i64 n, v, .int .i64 from_] w fun e w' => ∃ v', e = .returned (.tuple #[v', .bool (reachB n from_ ls)]) ∧ InI w' w.heap.size w'.heap.size v' (reachL n from_ ls) ∧ Below w.heap.size w w' := by
  obtain ⟨a, m, c, rfl⟩ := h.shape
  have e := h.len
  obtain ⟨k1, k2⟩ := h.capMax
  unfold maxLen at k2
  have HE := Lib.hid e; clear e
  have H := Lib.hid h; clear h hl
  by_cases hn : 1 ≤ n ∧ n ≤ 8
  · obtain ⟨hn1, hn2⟩ := hn
    have ew : IntKind.i64.wrap (n - 1) = n - 1 := IntWalk.i64_in _ (by omega)
    cases hp : pairsB n ls with
    | false =>
      have HB : Hid (reachB n from_ ls = false) := by unfold Hid reachB; rw [hp]; simp
      have HL : Hid (reachL n from_ ls = []) := by unfold Hid reachL; rw [HB.out]; simp
      have HP := Lib.hid hp; clear hp
      go_enter Try.func30, Try.ntmps30
      go_wp2_with (first
        | (go_at_call 40; refine (spec_l1In _ _ _ _).mono ?_; rintro e w1 ⟨rfl, rfl⟩)
        | (go_at_call 52; refine (spec_fPairs n _ ls _ H.out hn1 (by omega)).mono ?_; rintro e w1 ⟨rfl, hb1⟩; rw [HP.out])
        | fail)
      go_ret2
      rw [HB.out, HL.out]
      exact ⟨_, rfl, InI.of_own (OwnI.nil _ _), hb1⟩
    | true =>
      by_cases hf : 0 ≤ from_ ∧ from_ ≤ n - 1
      · obtain ⟨hf1, hf2⟩ := hf
        obtain ⟨s, rfl⟩ : ∃ s : Nat, from_ = s := ⟨from_.toNat, by omega⟩
        obtain ⟨N, rfl⟩ : ∃ N : Nat, n = N := ⟨n.toNat, by omega⟩
        have HB : Hid (reachB N s ls = true) := by unfold Hid reachB; rw [hp, decide_eq_true ⟨hn1, hn2⟩, decide_eq_true ⟨hf1, hf2⟩]; rfl
        have HL : Hid (reachL N s ls = ascF (reachF s ls) 0 N) := by unfold Hid reachL; rw [HB.out, if_pos rfl, Int.toNat_natCast, Int.toNat_natCast]
        have HP := Lib.hid hp; clear hp
        have hO : ∀ W : World, OwnI (W.alloc (.cells #[.int .i64 (s : Int)] 3)) W.heap.size (.slice (some ⟨W.heap.size, 0, none⟩) 1 1) (ascF (reachF s (ls.take 0)) 0 N)   := fun W => by
          rw [List.take_zero, reachF, List.foldl_nil, ascF_one (by omega)]; exact OwnI.lit1 W (Nat.le_refl _) ⟨by omega, by omega⟩
        have HO := Lib.hid hO; clear hO
        go_enter Try.func30, Try.ntmps30
        go_wp2_with (first
          | (go_at_call 40; refine (spec_l1In _ _ _ _).mono ?_; rintro e w1 ⟨rfl, rfl⟩)
          | (go_at_call 52; refine (spec_fPairs N _ ls _ H.out hn1 (by omega)).mono ?_; rintro e w1 ⟨rfl, hb1⟩; rw [HP.out])
          | fail)
        go_loopg [8, 31] m (fun g v8 i wr => ∃ k : Nat, k + g = m ∧ i = .int .i64 k ∧ OwnI wr w.heap.size v8 (ascF (reachF s (ls.take k)) 0 N) ∧ Below w.heap.size w wr)
        case atStart => exact ⟨0, by omega, rfl, (HO.out w1).mono hb1.size, hb1.trans (((Below.refl _ _).alloc (Nat.le_refl _) _).mono hb1.size)⟩
        case round =>
          obtain ⟨k, hkg, rfl, hO, hb⟩ := hrel
          clear hb1
          by_cases hlt : k < m
          · have HK : Hid (k < ls.length) := by unfold Hid; rw [HE.out]; exact hlt
            obtain ⟨b, o, rfl, us, hcx⟩ := H.out.at_ (by omega)
            obtain ⟨hy, hr⟩ := hcx k HK.out
            have hpp := pairB_yes (pairs_at HP.out HK.out)
            have hS := reachF_succ (from_ := s) HK.out
            obtain ⟨p, hp⟩ : ∃ p, ls[k]'HK.out = p := ⟨_, rfl⟩
            have hr' : Ints w (us k) (ls[k]'HK.out) := hr
            rw [hp] at hr' hpp hS
            obtain ⟨hp2, ⟨q0, q0'⟩, ⟨q1, q1'⟩, hne⟩ := hpp
            obtain ⟨a2, n2, c2, hu⟩ := Ints.shape hr'
            rw [hu] at hy hr'
            obtain rfl : 2 = n2 := hp2.symm.trans (Ints.len hr')
            obtain ⟨b2, o2, rfl, hcy⟩ := (hr'.below hb).at_ (by omega)
            have y0 := hcy 0 (by omega)
            have y1 := hcy 1 (by omega)
            rw [Nat.add_zero] at y0
            rw [← hb.cell (p := ⟨b, o + k, none⟩) (World.block_lt_of_cell? w _ hy)] at hy
            obtain ⟨j0, hj0⟩ : ∃ j0 : Nat, nth p 0 = j0 := ⟨_, (Int.toNat_of_nonneg q0).symm⟩
            obtain ⟨j1, hj1⟩ : ∃ j1 : Nat, nth p 1 = j1 := ⟨_, (Int.toNat_of_nonneg q1).symm⟩
            have J0 := Lib.hid hj0
            have J1 := Lib.hid hj1
            rw [hj0] at y0 q0'; rw [hj1] at y1 q1'
            clear hcy hr hr' hcx hp hu hp2 q0 q1 hne hj0 hj1
            have HS := Lib.hid hS; clear hS
            obtain ⟨f, hf⟩ : ∃ f, reachF s (ls.take k) = f := ⟨_, rfl⟩
            rw [hf] at hO HS; clear hf
            have D0 := Lib.hid (hasF (f := f) (n := N) (j := j0) (by omega))
            have D1 := Lib.hid (hasF (f := f) (n := N) (j := j1) (by omega))
            have HO := Lib.hid hO; clear hO
            have LL : Hid (∀ g : Nat → Bool, (ascF g 0 N).length ≤ 1000000000) := fun g => by have := ascF_length (f := g) (m := N) (k := 0); omega
            have P0 := Lib.hid (putL_ascF (f := f) (m := N) (k := 0) (j := j0) (by omega) (by omega))
            have P1 := Lib.hid (putL_ascF (f := setF f j0) (m := N) (k := 0) (j := j1) (by omega) (by omega))
            obtain ⟨x, hx⟩ : ∃ x, f j0 = x := ⟨_, rfl⟩
            obtain ⟨z, hz⟩ : ∃ z, f j1 = z := ⟨_, rfl⟩
            have F0 := Lib.hid hx; have F1 := Lib.hid hz; clear hx hz
            have I0 : Hid (I64 (j0 : Int)) := ⟨by omega, by omega⟩
            have I1 : Hid (I64 (j1 : Int)) := ⟨by omega, by omega⟩
            obtain ⟨a8, n8, c8, h8⟩ := OwnI.ints HO.out |>.shape
            subst h8
            cases hxz : (x || z) with
            | false =>
              obtain ⟨rfl, rfl⟩ : x = false ∧ z = false := by simpa using hxz
              clear hxz
              go_wp2_with (first
                | (go_at_call_of 53 (Value.int IntKind.i64 (j0 : Int)); refine (spec_l1Has _ _ j0 _ HO.out.ints).mono ?_; rintro e w2 ⟨rfl, rfl⟩; rw [D0.out, F0.out])
                | (go_at_call_of 53 (Value.int IntKind.i64 (j1 : Int)); refine (spec_l1Has _ _ j1 _ HO.out.ints).mono ?_; rintro e w2 ⟨rfl, rfl⟩; rw [D1.out, F1.out])
                | fail)
              go_roundg (m - (k + 1))
              case measure => omega
              case rel => exact ⟨k + 1, by omega, by go_num, by rw [HS.out, stepF_no J0.out J1.out (by rw [F0.out, F1.out]; rfl)]; exact HO.out, hb⟩
            | true =>
              have hS2 := stepF_yes J0.out J1.out (f := f) (by rw [F0.out, F1.out]; exact hxz)
              have HS2 := Lib.hid hS2; clear hS2
              rcases (by cases x <;> cases z <;> simp_all : x = true ∨ (x = false ∧ z = true)) with rfl | ⟨rfl, rfl⟩
              all_goals
                clear hxz
                go_wp2_with (first
                  | (go_at_call_of 53 (Value.int IntKind.i64 (j0 : Int)); refine (spec_l1Has _ _ j0 _ HO.out.ints).mono ?_; rintro e w2 ⟨rfl, rfl⟩; rw [D0.out, F0.out])
                  | (go_at_call_of 53 (Value.int IntKind.i64 (j1 : Int)); refine (spec_l1Has _ _ j1 _ HO.out.ints).mono ?_; rintro e w2 ⟨rfl, rfl⟩; rw [D1.out, F1.out])
                  | fail)
                go_region_held3 (fun w' => Below wr.heap.size wr w' ∧ w'.cell? ⟨b2, o2, none⟩ = some (.int .i64 (j0 : Int)) ∧ w'.cell? ⟨b2, o2 + 1, none⟩ = some (.int .i64 (j1 : Int))) (first | exact ⟨(Below.refl _ _).drew, y0, y1⟩ | exact keep_c2 (by assumption) (by assumption)) ((first
                  | (go_at_call_of 54 (Value.int IntKind.i64 (j0 : Int)); refine (spec_l1Put w.heap.size _ (ascF f 0 N) j0 _ (HO.out.below (‹Below wr.heap.size wr _ ∧ _›).1) (Nat.le_trans hb.size (‹Below wr.heap.size wr _ ∧ _›).1.size) I0.out (LL.out _)).mono ?_; rintro e w2 ⟨v2, rfl, hX1, hb2⟩; rw [P0.out] at hX1)
                  | (go_at_call_of 54 (Value.int IntKind.i64 (j1 : Int)); refine (spec_l1Put w.heap.size _ (ascF (setF f j0) 0 N) j1 _ hX1 (Nat.le_trans hb.size (‹Below wr.heap.size wr _ ∧ _›).1.size) I1.out (LL.out _)).mono ?_; rintro e w3 ⟨v3, rfl, hX2, hb3⟩; rw [P1.out] at hX2)
                  | fail))
                go_wp2_with fail
                go_roundg (m - (k + 1))
                case measure => omega
                case rel => exact ⟨k + 1, by omega, by go_num, by rw [HS.out, HS2.out]; exact hX2, keep_b (‹Below wr.heap.size wr _ ∧ _›).1 hb⟩
          · obtain rfl : m = k := by omega
            rw [List.take_of_length_le (by rw [HE.out]; exact Nat.le_refl _)] at hO
            have HO := Lib.hid hO; clear hO
            go_wp2_with fail
            go_ret2
            rw [HB.out, HL.out]
            exact ⟨_, rfl, InI.of_own HO.out, hb⟩
      · have HB : Hid (reachB n from_ ls = false) := by unfold Hid reachB; rw [decide_eq_false hf]; simp
        have HL : Hid (reachL n from_ ls = []) := by unfold Hid reachL; rw [HB.out]; simp
        have HP := Lib.hid hp; clear hp
        have HF := Lib.hid (decide_eq_false hf)
        clear hf
        go_enter Try.func30, Try.ntmps30
        go_wp2_with (first
          | (go_at_call 40; refine (spec_l1In _ _ _ _).mono ?_; rintro e w1 ⟨rfl, rfl⟩; (try rw [HF.out]))
          | (go_at_call 52; refine (spec_fPairs n _ ls _ H.out hn1 (by omega)).mono ?_; rintro e w1 ⟨rfl, hb1⟩; rw [HP.out])
          | fail)
        go_ret2
        rw [HB.out, HL.out]
        exact ⟨_, rfl, InI.of_own (OwnI.nil _ _), hb1⟩
  · have HB : Hid (reachB n from_ ls = false) := by unfold Hid reachB; rw [decide_eq_false hn]; simp
    have HL : Hid (reachL n from_ ls = []) := by unfold Hid reachL; rw [HB.out]; simp
    have HF := Lib.hid (decide_eq_false hn)
    clear hn
    go_enter Try.func30, Try.ntmps30
    go_wp2_with (first
      | (go_at_call 40; refine (spec_l1In _ _ _ _).mono ?_; rintro e w1 ⟨rfl, rfl⟩; rw [HF.out])
      | fail)
    go_ret2
    rw [HB.out, HL.out]
    exact ⟨_, rfl, InI.of_own (OwnI.nil _ _), Below.refl _ _⟩
theorem sc_ne' {w : World} {b j b' j' : Nat} {u : Value} (h : b' ≠ b ∨ j' ≠ j) : (w.setCell ⟨b', j', none⟩ u).cell? ⟨b, j, none⟩ = w.cell? ⟨b, j, none⟩ :=
  World.cell?_setCell_other w _ _ _ (fun e => by simp at e; omega)
def boolRow (f : Nat → Bool) (n : Nat) : List Value := (List.range n).map fun i => .bool (f i)
theorem boolRow_length (f : Nat → Bool) (n : Nat) : (boolRow f n).length = n := by simp [boolRow]
theorem boolRow_at {f : Nat → Bool} {n j : Nat} (h : j < n) : (boolRow f n)[j]? = some (.bool (f j)) := by simp [boolRow, h]
theorem boolRow_set {f : Nat → Bool} {n j : Nat} (b : Bool) : (boolRow f n).set j (.bool b) = boolRow (fun i => if i = j then b else f i) n := by
  apply List.ext_getElem?
  intro i
  simp only [List.getElem?_set, boolRow, List.length_map, List.length_range, List.getElem?_map]
  by_cases e : j = i
  · subst e
    by_cases hn : j < n
    · simp [hn]
    · simp [hn]
  · have e' : ¬ i = j := fun h => e h.symm
    by_cases hn : i < n
    · simp [e, e', hn]
    · simp [e, hn]
theorem boolRow_congr {f g : Nat → Bool} {n : Nat} (h : ∀ i, i < n → f i = g i) : boolRow f n = boolRow g n := by
  unfold boolRow
  apply List.map_congr_left
  intro i hi
  rw [h i (List.mem_range.1 hi)]
theorem boolRow_false (n : Nat) : boolRow (fun _ => false) n = List.replicate n (.bool false) := by
  apply List.ext_getElem
  · simp [boolRow]
  · intro i h1 h2; simp [boolRow]
theorem step_row {f : Nat → Bool} {p : List Int} {j0 j1 : Nat} (h0 : nth p 0 = j0) (h1 : nth p 1 = j1) (i : Nat) :
    (fun i => if i = j1 then (f j0 || f j1) else (fun i => if i = j0 then (f j0 || f j1) else f i) i) i = stepF f p i := by
  cases h : (f j0 || f j1) with
  | true =>
    rw [stepF_yes h0 h1 h]; simp only [setF]
  | false =>
    rw [stepF_no h0 h1 h]
    have h2 : f j0 = false ∧ f j1 = false := by simpa using h
    by_cases e : i = j1
    · simp [e, h2.2]
    · by_cases e2 : i = j0
      · simp [e2, h2.1]
      · simp [e, e2]
theorem info_bool : (Try.prog.info? 4).map (fun i => (i.zero, i.size, i.bytes)) = some (some (.bool false), 1, 1) := by kernel_rfl
set_option maxRecDepth 100000 in
set_option maxHeartbeats 4000000 in
theorem impl_ReachOf_yes (N : Nat) (v : Value) (ls : List (List Int)) (s : Nat) (w : World) (h : RdL kInts w v ls) (hn1 : 1 ≤ (N : Int)) (hn2 : (N : Int) ≤ 8) (hp : pairsB N ls = true) (hs : s < N) :
    Calls Try.prog 31 #[.int .i64 N, v, .int .i64 s] w fun e w' => ∃ v', e = .returned (.tuple #[v', .bool true]) ∧ OwnI w' w.heap.size v' (ascF (reachF s ls) 0 N) ∧ Below w.heap.size w w' := by
  obtain ⟨a, m, c, rfl⟩ := h.shape
  have e := h.len
  obtain ⟨k1, k2⟩ := h.capMax
  unfold maxLen at k2
  have HE := Lib.hid e; clear e
  have H := Lib.hid h; clear h
  have ew : IntKind.i64.wrap ((N : Int) - 1) = (N : Int) - 1 := IntWalk.i64_in _ (by omega)
  have HP := Lib.hid hp; clear hp
  have D1 := Lib.hid (decide_eq_true (show 1 ≤ (N : Int) ∧ (N : Int) ≤ 8 from ⟨hn1, hn2⟩))
  have D2 := Lib.hid (decide_eq_true (show 0 ≤ (s : Int) ∧ (s : Int) ≤ (N : Int) - 1 by omega))
  have hmk := fun u => run_make_row' (P := Try.prog) 74 4 (.bool false) 1 Try.underlying74 info_bool rfl .i64 .i64 N (by omega) (by omega) u
  have hsN : (s : Int) < (N : Int) := by omega
  have hms : (madeCells #[Value.bool false] N)[s]? = some (.bool false) := by
    rw [← Array.getElem?_toList, toList_madeCells_one]; simp [hs]
  have HR0 : Hid (∀ W : World, (W.alloc (.cells ((madeCells #[Value.bool false] N).setIfInBounds s (.bool true)) 4)).ownsRow W.heap.size 4 1 (.slice (some ⟨W.heap.size, 0, none⟩) N N) N (boolRow (reachF s (ls.take 0)) N)) := fun W => by
    have h1 := World.ownsRow_lit (e := 4) (size := 1) W ((madeCells #[Value.bool false] N).setIfInBounds s (.bool true)) N (Nat.le_refl _) (by unfold maxLen; omega) (by rw [Array.size_setIfInBounds, ← Array.length_toList, toList_madeCells_one]; simp)
    have h2 : ((madeCells #[Value.bool false] N).setIfInBounds s (.bool true)).toList = boolRow (reachF s (ls.take 0)) N := by
      rw [Array.toList_setIfInBounds, toList_madeCells_one, ← boolRow_false, boolRow_set]
      refine boolRow_congr fun i _ => ?_
      rw [List.take_zero, reachF, List.foldl_nil]
      unfold oneF
      by_cases e : i = s <;> simp [e]
    rw [h2] at h1
    exact h1
  go_enter Try.func31, Try.ntmps31
  go_wp2_with (first
    | (go_at_call 43; refine (impl_within _ _ _ _).mono ?_; rintro e w1 ⟨rfl, rfl⟩; first | rw [D1.out] | rw [D2.out])
    | (go_at_call 55; refine (impl_arePairs _ ls N _ H.out hn1 (by omega)).mono ?_; rintro e w1 ⟨rfl, hb1⟩; rw [HP.out])
    | fail)
  go_loopg [38] m (fun g i wr => ∃ k : Nat, k + g = m ∧ i = .int .i64 k ∧ wr.ownsRow w.heap.size 4 1 (.slice (some ⟨w1.heap.size, 0, none⟩) N N) N (boolRow (reachF s (ls.take k)) N) ∧ Below w.heap.size w wr)
  case atStart => exact ⟨0, by omega, rfl, ownsRow_mono (HR0.out w1) hb1.size, hb1.trans (((Below.refl _ _).alloc (Nat.le_refl _) _).mono hb1.size)⟩
  case round =>
    obtain ⟨k, hkg, rfl, hO, hb⟩ := hrel
    have hgw := hb1.size
    clear hb1 hmk hms
    by_cases hlt : k < m
    · have HK : Hid (k < ls.length) := by unfold Hid; rw [HE.out]; exact hlt
      obtain ⟨b, o, rfl, us, hcx⟩ := H.out.at_ (by omega)
      obtain ⟨hy, hr⟩ := hcx k HK.out
      have hpp := pairB_yes (pairs_at HP.out HK.out)
      have hS := reachF_succ (from_ := s) HK.out
      obtain ⟨p, hp⟩ : ∃ p, ls[k]'HK.out = p := ⟨_, rfl⟩
      have hr' : Ints w (us k) (ls[k]'HK.out) := hr
      rw [hp] at hr' hpp hS
      obtain ⟨hp2, ⟨q0, q0'⟩, ⟨q1, q1'⟩, hne⟩ := hpp
      obtain ⟨a2, n2, c2, hu⟩ := Ints.shape hr'
      rw [hu] at hy hr'
      obtain rfl : 2 = n2 := hp2.symm.trans (Ints.len hr')
      obtain ⟨b2, o2, rfl, hcy⟩ := (hr'.below hb).at_ (by omega)
      have y0 := hcy 0 (by omega)
      have y1 := hcy 1 (by omega)
      rw [Nat.add_zero] at y0
      rw [← hb.cell (p := ⟨b, o + k, none⟩) (World.block_lt_of_cell? w _ hy)] at hy
      obtain ⟨j0, hj0⟩ : ∃ j0 : Nat, nth p 0 = j0 := ⟨_, (Int.toNat_of_nonneg q0).symm⟩
      obtain ⟨j1, hj1⟩ : ∃ j1 : Nat, nth p 1 = j1 := ⟨_, (Int.toNat_of_nonneg q1).symm⟩
      have J0 := Lib.hid hj0
      have J1 := Lib.hid hj1
      rw [hj0, hj1] at hne
      have hne' : ¬ j0 = j1 := fun h => hne (by rw [h])
      rw [hj0] at y0 q0'; rw [hj1] at y1 q1'
      clear hcy hr hr' hcx hp hu hp2 q0 q1 hne hj0 hj1
      have HS := Lib.hid hS; clear hS
      obtain ⟨f, hf⟩ : ∃ f, reachF s (ls.take k) = f := ⟨_, rfl⟩
      rw [hf] at hO HS; clear hf
      have hx0 := (World.ownsRow.cellAt hO j0 (by omega)).trans (boolRow_at (by omega))
      have hx1 := (World.ownsRow.cellAt hO j1 (by omega)).trans (boolRow_at (by omega))
      have hf0 := World.ownsRow.frozenAt hO j0
      have hf1 := World.ownsRow.frozenAt hO j1
      have hz0 : (j0 : Int) < (N : Int) := by omega
      have hz1 : (j1 : Int) < (N : Int) := by omega
      have HT : Hid (boolRow (stepF f p) N = ((boolRow f N).set j0 (.bool (f j0 || f j1))).set j1 (.bool (f j0 || f j1))) := by
        unfold Hid
        rw [boolRow_set, boolRow_set]
        exact boolRow_congr fun i _ => (step_row J0.out J1.out i).symm
      have HT2 : Hid (boolRow (stepF f p) N = ((boolRow f N).set j1 (.bool (f j0 || f j1))).set j0 (.bool (f j0 || f j1))) := by
        unfold Hid
        rw [HT.out, List.set_comm _ _ hne']
      obtain ⟨x, hx⟩ : ∃ x, f j0 = x := ⟨_, rfl⟩
      obtain ⟨z, hz⟩ : ∃ z, f j1 = z := ⟨_, rfl⟩
      rw [hx] at hx0 HT HT2; rw [hz] at hx1 HT HT2
      clear hx hz
      have hd0 : ∀ u, (wr.drew.setCell ⟨w1.heap.size, j0, none⟩ u).cell? ⟨w1.heap.size, j1, none⟩ = some (.bool z) := fun u => by
        rw [sc_ne' (.inr hne')]; exact hx1
      have hd1 : ∀ u, (wr.drew.setCell ⟨w1.heap.size, j1, none⟩ u).cell? ⟨w1.heap.size, j0, none⟩ = some (.bool x) := fun u => by
        rw [sc_ne' (.inr fun h => hne' h.symm)]; exact hx0
      have ha1 := fun u => hO.stored j0 (.bool u)
      have HA1 : Hid (∀ u, (wr.drew.setCell ⟨w1.heap.size, j0, none⟩ (.bool u)).ownsRow w.heap.size 4 1 (.slice (some ⟨w1.heap.size, 0, none⟩) N N) N ((boolRow f N).set j0 (.bool u))) := fun u => (ownsRow_frame hO (fun _ _ => rfl)).stored j0 (.bool u) |>.1
      have HA2 : Hid (∀ u, (wr.drew.setCell ⟨w1.heap.size, j1, none⟩ (.bool u)).ownsRow w.heap.size 4 1 (.slice (some ⟨w1.heap.size, 0, none⟩) N N) N ((boolRow f N).set j1 (.bool u))) := fun u => (ownsRow_frame hO (fun _ _ => rfl)).stored j1 (.bool u) |>.1
      clear ha1 hO
      cases x <;> cases z
      all_goals
        go_wp2_with fail
        go_region
        all_goals
          go_wp2_with fail
          go_roundg (m - (k + 1))
          case measure => omega
          case rel =>
            refine ⟨k + 1, by omega, by go_num, ?_, ?_⟩
            · rw [HS.out]
              first
                | (rw [HT.out]; exact (HA1.out _).stored j1 _ |>.1)
                | (rw [HT2.out]; exact (HA2.out _).stored j0 _ |>.1)
                | fail
            · exact (hb.drew.setCell hgw _).setCell hgw _
    · obtain rfl : m = k := by omega
      rw [List.take_of_length_le (by rw [HE.out]; exact Nat.le_refl _)] at hO
      obtain ⟨wA, rfl⟩ : ∃ u, u = wr := ⟨_, rfl⟩
      have HOB := Lib.hid hO; clear hO
      obtain ⟨f, hf⟩ : ∃ f, reachF s ls = f := ⟨_, rfl⟩
      have HFF := Lib.hid hf
      rw [hf] at HOB; clear hf
      have HBW := Lib.hid hb; clear hb
      have HO0 : Hid (OwnI (wA.alloc (.cells #[] 3)) wA.heap.size (.slice (some ⟨wA.heap.size, 0, none⟩) 0 0) (ascF f 0 0)) := OwnI.lit wA (Nat.le_refl _) AllI64.nil rfl (by simp [ascF]) 0 rfl
      go_wp2_with fail
      go_loopg [12, 72] N (fun g v12 i wr => ∃ k : Nat, k + g = N ∧ i = .int .i64 k ∧ OwnI wr wA.heap.size v12 (ascF f 0 k) ∧ Below wA.heap.size wA wr)
      case atStart => exact ⟨0, by omega, rfl, HO0.out, (Below.refl _ _).alloc (Nat.le_refl _) _⟩
      case round =>
        obtain ⟨k, hkg, rfl, hO, hb⟩ := hrel
        by_cases hlt : k < N
        · have hx0 := (World.ownsRow.cellAt HOB.out k (by omega)).trans (boolRow_at hlt)
          rw [← hb.cell (p := ⟨w1.heap.size, k, none⟩) (World.block_lt_of_cell? wA _ hx0)] at hx0
          have HS := Lib.hid (ascF_snoc (f := f) (m := k) (k := 0))
          have HLN : Hid ((ascF f 0 k).length ≤ 1000) := by have := ascF_length (f := f) (m := k) (k := 0); unfold Hid; omega
          obtain ⟨a8, n8, c8, h8⟩ := hO.ints.shape
          subst h8
          have HO := Lib.hid hO; clear hO
          obtain ⟨x, hx⟩ : ∃ x, f k = x := ⟨_, rfl⟩
          rw [hx] at hx0
          have HX := Lib.hid hx; clear hx
          cases x
          · go_wp2_with fail
            go_roundg (N - (k + 1))
            case measure => omega
            case rel =>
              refine ⟨k + 1, by omega, by go_num, ?_, hb⟩
              have h1 := HS.out
              rw [Nat.zero_add, HX.out, if_neg (by simp), List.append_nil] at h1
              rw [h1]; exact HO.out
          · go_wp2_with (first
              | (at_builtin; refine wpList_append_ints rfl _ _ rfl wA.heap.size (.slice a8 n8 c8) (.slice (some ⟨wr.heap.size, 0, none⟩) 1 1) (ascF f 0 k) [(k : Int)] rfl (HO.out.alloc _) rfl (Ints.lit1 _ ⟨by omega, by omega⟩) (by have := HLN.out; simp only [List.length_cons, List.length_nil]; omega) (by have := hb.size; simp; omega) ?_; intro v1 w2 hown1 hgr1; have hb2 := (hb.alloc hb.size _).trans ((HO.out.alloc _).grown hgr1 (by have := hb.size; simp; omega)); clear hgr1)
              | fail)
            go_roundg (N - (k + 1))
            case measure => omega
            case rel =>
              refine ⟨k + 1, by omega, by go_num, ?_, hb2⟩
              have h1 := HS.out
              rw [Nat.zero_add, HX.out, if_pos rfl] at h1
              rw [h1]; exact hown1
        · obtain rfl : k = N := by omega
          have HO := Lib.hid hO; clear hO
          go_wp2_with fail
          go_ret2
          exact ⟨_, rfl, by rw [HFF.out]; exact HO.out.mono HBW.out.size, HBW.out.trans (hb.mono HBW.out.size)⟩
set_option maxHeartbeats 1000000 in
theorem impl_ReachOf (n : Int) (v : Value) (ls : List (List Int)) (from_ : Int) (w : World) (hI : I64 n) (hl : (ls.length : Int) + total ls ≤ 1000000000) (h : RdL kInts w v ls) (hJ : I64 from_) :
    Calls Try.prog 31 #[.int .i64 n, v, .int .i64 from_] w fun e w' => ∃ v', e = .returned (.tuple #[v', .bool (reachB n from_ ls)]) ∧ InI w' w.heap.size w'.heap.size v' (reachL n from_ ls) ∧ Below w.heap.size w w' := by
  cases hB : reachB n from_ ls with
  | true =>
    have hB' := hB
    unfold reachB at hB'
    simp only [Bool.and_eq_true, decide_eq_true_eq] at hB'
    obtain ⟨⟨hn1, hn2⟩, hp, hf1, hf2⟩ := hB'
    obtain ⟨s, rfl⟩ : ∃ s : Nat, from_ = s := ⟨from_.toNat, by omega⟩
    obtain ⟨N, rfl⟩ : ∃ N : Nat, n = N := ⟨n.toNat, by omega⟩
    refine (impl_ReachOf_yes N v ls s w h hn1 hn2 hp (by omega)).mono fun e w' ⟨v', h1, h2, h3⟩ => ⟨v', h1, ?_, h3⟩
    unfold reachL
    rw [hB, if_pos rfl, Int.toNat_natCast, Int.toNat_natCast]
    exact InI.of_own h2
  | false =>
    have HL : Hid (reachL n from_ ls = []) := by unfold Hid reachL; rw [hB]; simp
    rw [HL.out]
    unfold reachB at hB
    obtain ⟨a, m, c, rfl⟩ := h.shape
    obtain ⟨q1, h1⟩ : ∃ q, decide (1 ≤ n ∧ n ≤ 8) = q := ⟨_, rfl⟩
    obtain ⟨q2, h2⟩ : ∃ q, pairsB n ls = q := ⟨_, rfl⟩
    obtain ⟨q3, h3⟩ : ∃ q, decide (0 ≤ from_ ∧ from_ ≤ n - 1) = q := ⟨_, rfl⟩
    rw [h1, h2, h3] at hB
    have D1 := Lib.hid h1; have HP := Lib.hid h2; have D2 := Lib.hid h3
    clear h1 h2 h3
    have H := Lib.hid h; clear h hl
    cases q1
    · go_enter Try.func31, Try.ntmps31
      go_wp2_with (first
        | (go_at_call 43; refine (impl_within _ _ _ _).mono ?_; rintro e w1 ⟨rfl, rfl⟩; rw [D1.out])
        | fail)
      go_ret2
      exact ⟨_, rfl, InI.of_own (OwnI.nil _ _), Below.refl _ _⟩
    have hn := of_decide_eq_true D1.out
    have ew : IntKind.i64.wrap (n - 1) = n - 1 := IntWalk.i64_in _ (by omega)
    cases q2
    · clear D2 hB
      go_enter Try.func31, Try.ntmps31
      go_wp2_with (first
        | (go_at_call 43; refine (impl_within _ _ _ _).mono ?_; rintro e w1 ⟨rfl, rfl⟩; rw [D1.out])
        | (go_at_call 55; refine (impl_arePairs _ ls n _ H.out hn.1 (by omega)).mono ?_; rintro e w1 ⟨rfl, hb1⟩; rw [HP.out])
        | fail)
      go_ret2
      exact ⟨_, rfl, InI.of_own (OwnI.nil _ _), hb1⟩
    cases q3
    · clear hB
      go_enter Try.func31, Try.ntmps31
      go_wp2_with (first
        | (go_at_call 43; refine (impl_within _ _ _ _).mono ?_; rintro e w1 ⟨rfl, rfl⟩; first | rw [D1.out] | rw [D2.out])
        | (go_at_call 55; refine (impl_arePairs _ ls n _ H.out hn.1 (by omega)).mono ?_; rintro e w1 ⟨rfl, hb1⟩; rw [HP.out])
        | fail)
      go_ret2
      exact ⟨_, rfl, InI.of_own (OwnI.nil _ _), hb1⟩
    · cases hB
end Go.Proofs.Ytlkhkoemfmjloaa
